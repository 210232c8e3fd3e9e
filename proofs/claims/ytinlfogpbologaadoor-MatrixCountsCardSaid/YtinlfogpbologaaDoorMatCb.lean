/- The vectors of residues in their order, plainly; matrix.Count of small systems. -/
import Derived.Test.YtinlfogpbologaaDoorMatCa
import Derived.Test.YtinlfogpbologaaDoorMatLw
namespace Go.Proofs.YtinlfogpbologaaDoor
open Go.RowKit DivMath WordMath
set_option linter.unusedVariables false
set_option linter.unusedSimpArgs false
theorem wrapI_succ {a b : Nat} (h : a + 1 = b) (hb : b ≤ 100000) : IntKind.i64.wrap ((a : Int) + 1) = (b : Int) := by rw [IntKind.wrap_i64]; omega
theorem wrap64_succ {a b : Nat} (h : a + 1 = b) (hb : b ≤ 100000) : wrap64 ((a : Int) + 1) = (b : Int) := by rw [IntWalk.wrap64_in _ (by omega)]; omega
theorem wrapI_pred {a b : Nat} (h : a - 1 = b) (h1 : 1 ≤ a) (hb : a ≤ 100000) : IntKind.i64.wrap ((a : Int) - 1) = (b : Int) := by rw [IntKind.wrap_i64]; omega
theorem wrap64_pred {a b : Nat} (h : a - 1 = b) (h1 : 1 ≤ a) (hb : a ≤ 100000) : wrap64 ((a : Int) - 1) = (b : Int) := by rw [IntWalk.wrap64_in _ (by omega)]; omega
/-- the first i digits are 0 already -/
def carry (i : Nat) (l : List Nat) : List Nat := List.replicate i 0 ++ l.drop i
section
variable {q n i t : Nat} {l z b : List Nat} {L : List (List Nat)}
theorem carry_zero : carry 0 l = l := by simp [carry]
theorem carry_len (hi : i ≤ l.length) : (carry i l).length = l.length := by
  unfold carry; rw [List.length_append, List.length_replicate, List.length_drop]; omega
theorem carry_get (hi : i < l.length) : (carry i l)[i]? = some l[i] := by
  unfold carry
  rw [List.getElem?_append_right (by simp), List.length_replicate, Nat.sub_self, List.getElem?_drop, Nat.add_zero, List.getElem?_eq_getElem hi]
theorem carry_set (hi : i < l.length) (v : Nat) : (carry i l).set i v = List.replicate i 0 ++ v :: l.drop (i + 1) := by
  unfold carry
  rw [List.set_append_right _ _ (by simp), List.length_replicate, Nat.sub_self, List.drop_eq_getElem_cons hi]; rfl
theorem carry_step (hi : i < l.length) : (carry i l).set i 0 = carry (i + 1) l := by
  rw [carry_set hi]
  unfold carry
  rw [List.replicate_succ', List.append_assoc]; rfl
theorem carry_cell (hz : z = carry i l) (hi : i < l.length) : (ncl z)[i]? = some (.int .i64 (l[i] : Nat)) := by
  subst hz
  have h : i < (carry i l).length := by rw [carry_len (by omega)]; exact hi
  rw [ncl_get _ i h]
  have h2 := carry_get hi
  rw [List.getElem?_eq_getElem h] at h2
  rw [Option.some.inj h2]
theorem carry_ncl (hz : z = carry i l) (hi : i < l.length) : (ncl z).set i (.int .i64 0) = ncl (carry (i + 1) l) := by
  subst hz
  rw [← carry_step hi]
  exact ncl_set _ _ 0
theorem carry_ncl2 (hz : z = carry i l) (hi : i < l.length) {e : Nat} : (ncl z).set i (.int .i64 (e : Nat)) = ncl ((carry i l).set i e) := by
  subst hz; exact ncl_set _ _ e
end
theorem dg_zero {q : Nat} : ∀ n, dg q n 0 = List.replicate n 0
  | 0 => rfl
  | n + 1 => by rw [dg, Nat.zero_mod, Nat.zero_div, dg_zero n, List.replicate_succ]
theorem dg_next {q : Nat} (hq : 2 ≤ q) : ∀ (n t i : Nat), t < q ^ n → i < n → (∀ j, j < i → (dg q n t).getD j 0 = q - 1) → (dg q n t).getD i 0 ≠ q - 1 → (carry i (dg q n t)).set i ((dg q n t).getD i 0 + 1) = dg q n (t + 1) ∧ t + 1 < q ^ n
  | 0, _, _, _, h, _, _ => by omega
  | n + 1, t, 0, ht, _, _, hne => by
    rw [Nat.pow_succ] at ht
    rw [dg] at hne ⊢
    simp only [List.getD_cons_zero] at hne ⊢
    have hm := Nat.mod_lt t (by omega : 0 < q)
    have hd := Nat.div_add_mod t q
    have hlt : t / q < q ^ n := (Nat.div_lt_iff_lt_mul (by omega)).2 ht
    have e1 : (t + 1) % q = t % q + 1 := by
      rw [show t + 1 = (t % q + 1) + q * (t / q) by omega, Nat.add_mul_mod_self_left, Nat.mod_eq_of_lt (by omega)]
    have e2 : (t + 1) / q = t / q := by
      rw [show t + 1 = (t % q + 1) + q * (t / q) by omega, Nat.add_mul_div_left _ _ (by omega), Nat.div_eq_of_lt (by omega), Nat.zero_add]
    refine ⟨by rw [carry_zero, dg, e1, e2]; rfl, ?_⟩
    rw [Nat.pow_succ]
    have h1 : q * (t / q + 1) ≤ q * q ^ n := Nat.mul_le_mul_left q hlt
    rw [Nat.mul_add, Nat.mul_one] at h1
    rw [Nat.mul_comm (q ^ n)]
    omega
  | n + 1, t, i + 1, ht, hi, hall, hne => by
    rw [Nat.pow_succ] at ht
    have h0 := hall 0 (by omega)
    rw [dg] at h0 hne
    simp only [List.getD_cons_zero, List.getD_cons_succ] at h0 hne
    have hd := Nat.div_add_mod t q
    have hlt : t / q < q ^ n := (Nat.div_lt_iff_lt_mul (by omega)).2 ht
    have ih := dg_next hq n (t / q) i hlt (by omega) (fun j hj => by
      have := hall (j + 1) (by omega)
      rw [dg, List.getD_cons_succ] at this; exact this) hne
    have e0 : t + 1 = q * (t / q + 1) := by rw [Nat.mul_add, Nat.mul_one]; omega
    have e1 : (t + 1) % q = 0 := by rw [e0, Nat.mul_mod_right]
    have e2 : (t + 1) / q = t / q + 1 := by rw [e0, Nat.mul_div_cancel_left _ (by omega)]
    constructor
    · rw [dg, dg, e1, e2, ← ih.1]
      unfold carry
      rw [List.replicate_succ, List.drop_succ_cons, List.cons_append, List.set_cons_succ, List.getD_cons_succ]
    · rw [Nat.pow_succ, e0, Nat.mul_comm]
      exact Nat.mul_lt_mul_of_pos_right ih.2 (by omega)
theorem dg_last {q : Nat} (hq : 2 ≤ q) : ∀ (n t : Nat), t < q ^ n → (∀ j, j < n → (dg q n t).getD j 0 = q - 1) → t + 1 = q ^ n
  | 0, t, ht, _ => by rw [Nat.pow_zero] at ht ⊢; omega
  | n + 1, t, ht, hall => by
    rw [Nat.pow_succ] at ht ⊢
    have h0 := hall 0 (by omega)
    rw [dg, List.getD_cons_zero] at h0
    have hd := Nat.div_add_mod t q
    have hlt : t / q < q ^ n := (Nat.div_lt_iff_lt_mul (by omega)).2 ht
    have ih := dg_last hq n (t / q) hlt (fun j hj => by
      have := hall (j + 1) (by omega)
      rw [dg, List.getD_cons_succ] at this; exact this)
    rw [← ih, Nat.add_mul, Nat.one_mul, Nat.mul_comm]; omega
theorem cntA_le {q n : Nat} {L : List (List Nat)} {b : List Nat} : ∀ k, cntA q n L b k ≤ k
  | 0 => Nat.le_refl _
  | k + 1 => by
    have h := cntA_le (q := q) (n := n) (L := L) (b := b) k
    unfold cntA at h ⊢
    rw [sumR]
    have : (appT q L (dg q n k) == b).toNat ≤ 1 := Bool.toNat_le _
    omega
theorem cntA_yes {q n k : Nat} {L : List (List Nat)} {b : List Nat} (h : (appT q L (dg q n k) == b) = true) : cntA q n L b (k + 1) = cntA q n L b k + 1 := by unfold cntA; rw [sumR, h]; rfl
theorem cntA_no {q n k : Nat} {L : List (List Nat)} {b : List Nat} (h : (appT q L (dg q n k) == b) = false) : cntA q n L b (k + 1) = cntA q n L b k := by unfold cntA; rw [sumR, h]; rfl
theorem pow_few {q n : Nat} (h : q ≤ 7) (hn : n ≤ 4) : q ^ n ≤ 2401 := by
  have h3 : q ^ n ≤ 7 ^ n := Nat.pow_le_pow_left h n
  have h4 : 7 ^ n ≤ 7 ^ 4 := Nat.pow_le_pow_right (by omega) hn
  have h5 : 7 ^ 4 = 2401 := by decide
  omega
section
variable {D : Nat → Prop} {q n N : Nat} {L : List (List Nat)} {b x : List Nat} {xa ya : Option Addr} {xk yk : Nat} {w : World}
theorem MvI.prime (h : MvI q n L) : Pri.isP q = true := by
  have := h.fb
  unfold fieldB at this
  rw [Bool.and_eq_true] at this
  simpa using this.2
theorem Count_all (hx : Fct.at w D (.mx (.slice xa L.length xk) (L.map nl))) (hy : Fct.at w D (.rw (.slice ya b.length yk) b.length 1 (ncl b))) (hl : Laid w) (hv : MvI q n L) (hne : b.length = L.length) (hs : ∀ c ∈ b, c < q) (hq : q ≤ 7) (hn : n ≤ 4) (hN : cntA q n L b (q ^ n) = N) :
    Calls Tryd.prog 33 #[.int .i64 (q : Nat), .slice xa L.length xk, .slice ya b.length yk] w fun e w' => e = .returned (.tuple #[.int .i64 (N : Nat), .int .i64 0]) ∧ Below w.heap.size w w' := by
  obtain ⟨M, P, hR⟩ : ∃ M P, redN q (sysL L b) n = (M, P) := ⟨_, _, rfl⟩
  have hc := cnt_all hv.q2 (unit_small hq hv.prime) hv.res hs hne hR
  rw [hN] at hc
  cases ht : noneB n (M, P) with
  | true =>
    rw [ht, if_pos rfl] at hc
    subst hc
    exact Count_t q n L M b P hx hy hl hv hne hs hR ht
  | false =>
    rw [ht, if_neg (by simp)] at hc
    have h := Count_f q n L M b P hx hy hl hv hne hs hR ht
    rw [cntL_small hv.q2 hq _ (by omega), ← hc] at h
    exact h
theorem Apply_n (hx : Fct.at w D (.mx (.slice xa L.length xk) (L.map nl))) (hy : Fct.at w D (.rw (.slice ya n yk) n 1 (ncl x))) (hl : Laid w) (hv : MvI q n L) (hne : x.length = n) (hs : ∀ c ∈ x, c < q) :
    Calls Tryd.prog 41 #[.int .i64 (q : Nat), .slice xa L.length xk, .slice ya n yk] w fun e w' => RetIE (fun b => w.heap.size ≤ b) (appT q L x) 0 e w' ∧ Below w.heap.size w w' := by
  subst hne
  exact Apply_ok q x.length L x hx hy hl hv rfl hs
theorem Rw.boxPn {W : World} {B g : Nat} {T : TypeId} {o : List Nat} (hB : Box B g T (ncl o) W) (h : o.length = n) (hn : n ≤ 1000) : Rw W (fun _ => True) (.slice (some ⟨g, 0, none⟩) n n) n 1 (ncl o) := by
  subst h
  exact Rw.boxP hB (Nat.le_refl _) (by omega)
end
end Go.Proofs.YtinlfogpbologaaDoor

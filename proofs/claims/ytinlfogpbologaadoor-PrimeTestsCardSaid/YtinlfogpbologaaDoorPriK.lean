/- natural numbers as facts; the reference of primes from 2^61 on. -/
import Derived.Test.YtinlfogpbologaaDoorPriX
import Derived.Test.YtinlfogpbologaaDoorNnA5
import Derived.Test.YtinlfogpbologaaDoorPriU
namespace Go.Proofs.YtinlfogpbologaaDoor
open Go.RowKit DivMath WordMath
set_option linter.unusedVariables false
set_option linter.unusedSimpArgs false
set_option linter.unusedSectionVars false
/-- the cells of a number -/
def wds (N : Nat) : List Value := (Nn.NatMath.digs N).map fun u : Nat => .int .u32 (u : Int)
theorem wds_len (N : Nat) : (wds N).length = Nn.NatMath.len N := by unfold wds Nn.NatMath.len; simp
theorem ntG {W : World} {D : Nat → Prop} {a : Option Addr} {n k N : Nat} (h : Fct.at W D (.rw (.slice a n k) n 1 (wds N))) (h0 : 0 < N) : Nn.Nt W (.slice a n k) N := by
  obtain ⟨ao, cap, e, h1, h2, h3, h4, h5⟩ := h
  cases e
  rw [wds_len, Nat.mul_one] at h3
  have hne : n ≠ 0 := by
    rw [← h3]; intro e
    have := Nn.NatMath.len_eq_zero.1 e
    omega
  obtain ⟨b, off, h6, h7, h8⟩ := h5 hne
  have hl : (Nn.NatMath.digs N).length = n := h3
  unfold Nn.Nt
  refine ⟨a, k, by rw [hl], by rw [hl]; exact h1, h2, Nn.NatMath.words_digs N, fun _ => ⟨b, off, h6, h7.1, fun i hi => ?_⟩, fun x hx => by rw [h6] at hx; cases hx; rfl⟩
  refine h8 i _ ?_
  unfold wds
  rw [List.getElem?_map, List.getElem?_eq_getElem hi, List.getD_eq_getElem?_getD, List.getElem?_eq_getElem hi]
  rfl
/-- a number came back; where its words lie is not said -/
def RetG (N : Nat) (e : Ending) (W : World) : Prop := ∃ ao n k, e = .returned (.agg #[.slice ao n k]) ∧ Hid (Rw W (fun _ => True) (.slice ao n k) n 1 (wds N))
theorem rwG {W : World} {a : Option Addr} {k N : Nat} (h : Nn.Nt W (.slice a (Nn.NatMath.len N) k) N) : Rw W (fun _ => True) (.slice a (Nn.NatMath.len N) k) (Nn.NatMath.len N) 1 (wds N) := by
  unfold Nn.Nt at h
  obtain ⟨ao, cap, e, h1, h2, _, h4, _⟩ := h
  cases e
  refine ⟨a, k, rfl, h1, h2, by rw [wds_len, Nat.mul_one], fun u hu => ?_, fun hn => ?_⟩
  · unfold wds at hu
    obtain ⟨x, _, rfl⟩ := List.mem_map.1 hu
    rfl
  · obtain ⟨b, off, h5, h6, h7⟩ := h4 (fun e => hn (by unfold Nn.NatMath.len; rw [e]; rfl))
    refine ⟨b, off, h5, ⟨h6, trivial⟩, fun i u hu => ?_⟩
    unfold wds at hu
    rw [List.getElem?_map] at hu
    cases hx : (Nn.NatMath.digs N)[i]? with
    | none => rw [hx] at hu; cases hu
    | some x =>
      rw [hx] at hu
      cases hu
      have hi := (List.getElem?_eq_some_iff.1 hx).1
      have := h7 i hi
      rw [List.getD_eq_getElem?_getD, hx] at this
      exact this
theorem retG {N : Nat} {e : Ending} {W : World} (h : Nn.RetV N e W) : RetG N e W := by
  obtain ⟨ao, k, rfl, hv⟩ := h
  exact ⟨ao, _, k, rfl, Lib.hid (rwG hv.out)⟩
theorem len_two {N : Nat} (h : N < 18446744073709551616) : Nn.NatMath.len N ≤ 2 := Nn.NatMath.len_le_iff.2 (by rw [show Nn.NatMath.Bp 2 = 18446744073709551616 by rfl]; exact h)
section
variable {D : Nat → Prop} {xa ya za : Option Addr} {xn yn zn xk yk zk : Nat} {w : World} {N M K : Nat}
theorem rofG (x : Nat) (hx : (x : Int) ≤ 9223372036854775807) : Calls Tryd.prog 131 #[.int .i64 (x : Nat)] w fun e w' => RetG x e w' ∧ Below w.heap.size w w' :=
  (Nn.refOf_c x w hx).mono (fun e w' h => ⟨by obtain ⟨⟨ao, c, rfl, hv⟩, _⟩ := h; exact ⟨ao, _, c, rfl, Lib.hid (rwG hv.out.1)⟩, h.2⟩)
theorem rsameG {t : Bool} (ht : decide (N = M) = t) (hN : 0 < N) (hM : 0 < M) (ha : Fct.at w D (.rw (.slice xa xn xk) xn 1 (wds N))) (hb : Fct.at w D (.rw (.slice ya yn yk) yn 1 (wds M))) : Calls Tryd.prog 133 #[.agg #[.slice xa xn xk], .agg #[.slice ya yn yk]] w fun e w' => e = .returned (.bool t) ∧ Below w.heap.size w w' := by
  subst ht
  exact Nn.Same_c _ _ N M w (ntG ha hN) (ntG hb hM)
theorem rpowG {S : Nat} (hS : N ^ M % K = S) (hN : 0 < N) (hM : 0 < M) (hlt : N < K) (bM : M < 18446744073709551616) (bK : K < 18446744073709551616) (ha : Fct.at w D (.rw (.slice xa xn xk) xn 1 (wds N))) (hb : Fct.at w D (.rw (.slice ya yn yk) yn 1 (wds M))) (hc : Fct.at w D (.rw (.slice za zn zk) zn 1 (wds K))) :
    Calls Tryd.prog 132 #[.agg #[.slice xa xn xk], .agg #[.slice ya yn yk], .agg #[.slice za zn zk]] w fun e w' => RetG S e w' ∧ Below w.heap.size w w' :=
  (Nn.rPow_c hS (by have := len_two bM; omega) hlt (by have := len_two bK; omega) (ntG ha hN) (ntG hb hM) (ntG hc (by omega))).mono (fun e w' h => ⟨retG h.1, h.2⟩)
theorem rmulG {S : Nat} (hS : N * M % K = S) (hN : 0 < N) (hM : 0 < M) (hlt : N < K) (bM : M < 18446744073709551616) (bK : K < 18446744073709551616) (ha : Fct.at w D (.rw (.slice xa xn xk) xn 1 (wds N))) (hb : Fct.at w D (.rw (.slice ya yn yk) yn 1 (wds M))) (hc : Fct.at w D (.rw (.slice za zn zk) zn 1 (wds K))) :
    Calls Tryd.prog 134 #[.agg #[.slice xa xn xk], .agg #[.slice ya yn yk], .agg #[.slice za zn zk]] w fun e w' => RetG S e w' ∧ Below w.heap.size w w' :=
  (Nn.rMul_c hS hlt (by have := len_two bM; omega) (by have := len_two bK; omega) (ntG ha hN) (ntG hb hM) (ntG hc (by omega))).mono (fun e w' h => ⟨retG h.1, h.2⟩)
end
/-- a number lies in no box of slices -/
theorem Env.gotG {w W W' : World} {F : List Bx} {G : List Fct} (h : Env (fun _ => True) w F G W) (hb : Below W.heap.size W W') {a : Option Addr} {n k N : Nat} (hn : Rw W' (fun _ => True) (.slice a n k) n 1 (wds N)) (hF : ∀ p ∈ F, ∀ u ∈ p.2.2, ∃ x y z, u = .slice x y z) : Env (fun _ => True) w F (.rw (.slice a n k) n 1 (wds N) :: G) W' := by
  have h' := h.below hb
  obtain ⟨ao, cap, e, h1, h2, h3, h4, h5⟩ := hn
  cases e
  refine h'.note _ ⟨a, k, rfl, h1, h2, h3, h4, fun hne => ?_⟩
  obtain ⟨b, off, h6, h7, h8⟩ := h5 hne
  refine ⟨b, off, h6, ⟨h7.1, fun p hp e => ?_, .inl trivial⟩, h8⟩
  subst e
  have hB := (held_iff.1 h'.box).1 p hp
  have h0 : 0 < (wds N).length := by rw [h3]; omega
  have hc := h8 0 _ (List.getElem?_eq_getElem h0)
  rw [cell_of_row W' p.1 _ p.2.2.toArray p.2.1 (0, 0) hB.2] at hc
  simp only [Nat.add_zero, List.getElem?_toArray] at hc
  obtain ⟨x, y, z, hu⟩ := hF p hp _ (List.mem_of_getElem? hc)
  have hm := List.getElem_mem h0
  rw [hu] at hm
  unfold wds at hm
  obtain ⟨q, _, hq⟩ := List.mem_map.1 hm
  cases hq
theorem RetEqB {a b : Bool} (h : a = b) : Ending.returned (.bool a) = Ending.returned (.bool b) := by rw [h]
namespace Pri
open QuadMath (Prime)
theorem base_cop {a n : Nat} (ha : a ∈ bases) (hs : sieve n bases = none) : Nat.Coprime a n := by
  have hp := bases_prime ha
  rcases hp.2 (Nat.gcd a n) (Nat.gcd_dvd_left _ _) with e | e
  · exact e
  · exact absurd (Nat.mod_eq_zero_of_dvd (e ▸ Nat.gcd_dvd_right a n)) (sieve_none hs a ha)
theorem cop_mod {x n : Nat} (h : Nat.Coprime x n) : Nat.Coprime (x % n) n := by
  have e : Nat.gcd n x = Nat.gcd (x % n) n := Nat.gcd_rec n x
  unfold Nat.Coprime at *
  rw [← e, Nat.gcd_comm]
  exact h
theorem cop_pos {x n : Nat} (hn : 1 < n) (h : Nat.Coprime x n) : 0 < x := by
  rcases Nat.eq_zero_or_pos x with e | e
  · subst e; unfold Nat.Coprime at h; rw [Nat.gcd_zero_left] at h; omega
  · exact e
/-- what the loop over squares keeps: the answer -/
def SqI (n s k x : Nat) (ok t : Bool) : Prop := (ok || hits n (s - k) x) = t
theorem SqI.step {n s k x : Nat} {t : Bool} (h : SqI n s k x false t) (hk : k < s) : SqI n s (k + 1) (x * x % n) (decide (x * x % n = n - 1)) t := by
  unfold SqI at h ⊢
  rw [Bool.false_or, show s - k = s - (k + 1) + 1 by omega] at h
  rw [← h, hits]
  congr 1
theorem SqI.done {n s k x : Nat} {ok t : Bool} (h : SqI n s k x ok t) (hk : ok = true ∨ s ≤ k) : ok = t := by
  unfold SqI at h
  rcases hk with e | e
  · rw [e] at h ⊢; simpa using h
  · rw [show s - k = 0 by omega] at h; simpa [hits] using h
end Pri
set_option maxRecDepth 100000 in
set_option maxHeartbeats 8000000 in
theorem large_c (n : Nat) {w : World}  (h37 : 37 < n) (h2 : (n : Int) ≤ 9223372036854775807) (ho : n % 2 = 1) (hs0 : Pri.sieve n Pri.bases = none) {t : Bool} (ht0 : Pri.bases.all (Pri.strong n) = t) :
    Calls Tryd.prog 94 #[.int .i64 (n : Nat)] w fun e w' => e = .returned (.bool t) ∧ Below w.heap.size w w' := by
  have E0 := Lib.hid (Env.start (fun _ => True) w)
  go_enter Tryd.func94, Tryd.ntmps94
  have hs := Lib.hid hs0
  have ht := Lib.hid ht0
  clear hs0 ht0
  obtain ⟨n1, hn1⟩ : ∃ n1, n1 = n - 1 := ⟨_, rfl⟩
  have e1 : (n : Int) - 1 = (n1 : Int) := by omega
  have hn19 : (n1 : Int) ≤ 9223372036854775807 := by omega
  have hn11 : 0 < n1 := by omega
  have HN1 : Hid (n1 = n - 1) := Lib.hid (hn1)
  have HN64 : Hid (n < 2 ^ 64) := Lib.hid (by omega)
  have HO : Hid (n % 2 = 1) := Lib.hid (ho)
  have H37 : Hid (37 < n) := Lib.hid (h37)
  clear hn1 ho
  go_wp2_with fail
  refine (rofG n h2).mono ?_
  rintro e w1 ⟨⟨ma, mn, mk, rfl, mh⟩, hb⟩
  have E1 := Lib.hid (E0.out.gotG hb mh.out (by intro p hp; cases hp))
  clear E0 hb mh
  go_wp2_with fail
  have E2 := Lib.hid ((E1.out.push 96 [.slice ma mn mk] (w1.heap.size) (by simp)))
  refine (rofG n1 hn19).mono ?_
  rintro e w2 ⟨⟨la, ln, lk, rfl, lh⟩, hb⟩
  have E3 := Lib.hid (E2.out.gotG hb lh.out (by intro p hp u hu; simp at hp; rcases hp with rfl <;> (simp at hu; (try rcases hu with rfl | rfl | rfl) <;> (try subst hu) <;> exact ⟨_, _, _, rfl⟩)))
  clear E1 E2 hb lh
  go_wp2_with fail
  have E4 := Lib.hid ((E3.out.push 96 [.slice la ln lk] (w2.heap.size) (by simp)))
  refine (rofG 1 (by decide)).mono ?_
  rintro e w3 ⟨⟨ja, jn, jk, rfl, jh⟩, hb⟩
  have E5 := Lib.hid (E4.out.gotG hb jh.out (by intro p hp u hu; simp at hp; rcases hp with rfl | rfl <;> (simp at hu; (try rcases hu with rfl | rfl | rfl) <;> (try subst hu) <;> exact ⟨_, _, _, rfl⟩)))
  clear E3 E4 hb jh
  go_wp2_with fail
  have E6 := Lib.hid ((E5.out.push 96 [.slice ja jn jk] (w3.heap.size) (by simp)))
  go_loopg [6, 7] (64) (fun gk s6 s7 wr => ∃ (d s : Nat), s6 = .int .i64 (d : Int) ∧ s7 = .int .i64 (s : Int) ∧ Hid (Env (fun _ => True) w [(w3.heap.size, 96, [.slice ja jn jk]), (w2.heap.size, 96, [.slice la ln lk]), (w1.heap.size, 96, [.slice ma mn mk])] [.rw (.slice ja jn jk) jn 1 (wds 1), .rw (.slice la ln lk) ln 1 (wds n1), .rw (.slice ma mn mk) mn 1 (wds n)] wr) ∧ Hid ((0 < d ∧ d ≤ n1 ∧ gk = 64 - s ∧ s ≤ 63) ∧ n1 = d * 2 ^ s))
  case atStart => exact ⟨n1, 0, rfl, rfl, Lib.hid E6.out, Lib.hid ⟨⟨by omega, Nat.le_refl _, rfl, by omega⟩, by rw [Nat.pow_zero, Nat.mul_one]⟩⟩
  case round =>
    clear E5 E6 e1
    obtain ⟨d, s, rfl, rfl, EL, HA⟩ := hrel
    obtain ⟨⟨a1, a2, a3, a4⟩, a5⟩ := HA.out
    have HD := Lib.hid a5
    clear a5 HA
    by_cases hy : d % 2 = 0
    · have t3 : ((d : Int) % 2 == 0) = true := by rw [beq_iff_eq]; omega
      obtain ⟨d2, hd2⟩ : ∃ d2, d2 = d / 2 := ⟨_, rfl⟩
      have e4 : (d : Int) / 2 = (d2 : Int) := by rw [hd2]; rfl
      have b1 : 0 < d2 := by omega
      have b2 : d2 ≤ n1 := by omega
      have HD2 : Hid (n1 = d2 * 2 ^ (s + 1)) := Lib.hid (by rw [HD.out, Nat.pow_succ, show d = d2 * 2 by omega, Nat.mul_assoc, Nat.mul_comm 2])
      have b3 : s + 1 ≤ 63 := by
        apply Decidable.byContradiction; intro hc; have h9 := HD2.out; rw [show s + 1 = 64 by omega] at h9; have h8 : 1 * 2 ^ 64 ≤ d2 * 2 ^ 64 := Nat.mul_le_mul_right _ b1; have := HN64.out; have := HN1.out; omega
      clear hd2 hy
      have EZ := Lib.hid EL.out
      go_wp2
      go_roundg (64 - (s + 1))
      case rel => exact ⟨d2, s + 1, rfl, rfl, EZ, Lib.hid ⟨⟨b1, b2, rfl, b3⟩, HD2.out⟩⟩
      case measure => exact by omega
    have t3 : ((d : Int) % 2 == 0) = false := by rw [beq_eq_false_iff_ne]; omega
    obtain ⟨u1, u2⟩ := Pri.tz_unique (n := n1) hn11 (by have := HN64.out; have := HN1.out; omega) HD.out (by omega)
    have HOD : Hid (d = Pri.od (n - 1)) := Lib.hid (by rw [u1, HN1.out])
    have HTZ : Hid (s = Pri.tz (n - 1)) := Lib.hid (by rw [u2, HN1.out])
    have hs1 : 1 ≤ s := by rw [HTZ.out]; exact Pri.tz_pos (by have := H37.out; omega) (by have := HN64.out; omega) (by have := HO.out; omega)
    have HY := Lib.hid hy
    clear u1 u2 hy HD
    go_upto_region 9 with (fail)
    have E7 := Lib.hid ((EL.out.push 3 [.int .i64 2, .int .i64 3, .int .i64 5, .int .i64 7, .int .i64 11, .int .i64 13, .int .i64 17, .int .i64 19, .int .i64 23, .int .i64 29, .int .i64 31, .int .i64 37] (wr.heap.size) (by simp)))
    have E8 := Lib.hid (E7.out.freezeN Pri.bases (by decide))
    clear E7
    generalize wr.heap.size = gb at *
    go_wp2_with fail
    go_loopg [9] (12) (fun gk s9 wr => ∃ (i : Nat), s9 = .int .i64 (i : Int) ∧ Hid (Env (fun _ => True) w [(w3.heap.size, 96, [.slice ja jn jk]), (w2.heap.size, 96, [.slice la ln lk]), (w1.heap.size, 96, [.slice ma mn mk])] [.rw (.slice (some ⟨gb, 0, none⟩) 12 12) 12 1 (ncl Pri.bases), .rw (.slice ja jn jk) jn 1 (wds 1), .rw (.slice la ln lk) ln 1 (wds n1), .rw (.slice ma mn mk) mn 1 (wds n)] wr) ∧ Hid ((i ≤ 12 ∧ gk = 12 - i) ∧ (Pri.bases.drop i).all (Pri.strong n) = t))
    case atStart => exact ⟨0, rfl, Lib.hid E8.out, Lib.hid ⟨⟨by omega, rfl⟩, ht.out⟩⟩
    case round =>
      clear EL E8 t3
      obtain ⟨i, rfl, EL, HA⟩ := hrel
      obtain ⟨⟨c1, c2⟩, c3⟩ := HA.out
      have HI : Hid ((Pri.bases.drop i).all (Pri.strong n) = t) := Lib.hid (c3)
      clear c3 HA
      by_cases hi : i < 12
      rotate_left
      · have hi12 : i = 12 := by omega
        have t4 : decide ((i : Int) < 12) = false := decide_eq_false (by omega)
        have t4n : decide (i < 12) = false := decide_eq_false (by omega)
        have HR : Hid (t = true) := Lib.hid (by have h := HI.out; rw [hi12] at h; exact h.symm)
        clear hi hi12 HI
        have hfin := Lib.hid EL.out.bel
        go_wp2
        go_ret
        exact ⟨(RetEqB HR.out.symm), hfin.out⟩
      have t4 : decide ((i : Int) < 12) = true := decide_eq_true (by omega)
      have t4n : decide (i < 12) = true := decide_eq_true hi
      have hi9 : (i : Int) < 12 := by omega
      obtain ⟨a, ha⟩ : ∃ a, a = Pri.bases[i]'hi := ⟨_, rfl⟩
      have ham : a ∈ Pri.bases := by rw [ha]; exact List.getElem_mem hi
      obtain ⟨b, hbs⟩ : ∃ b, b = Pri.strong n a := ⟨_, rfl⟩
      have HR : Hid ((b && (Pri.bases.drop (i + 1)).all (Pri.strong n)) = t) := Lib.hid (by have h := HI.out; rw [List.drop_eq_getElem_cons hi, List.all_cons, ← ha, ← hbs] at h; exact h)
      obtain ⟨x0, hx0⟩ : ∃ x0, a ^ d % n = x0 := ⟨_, rfl⟩
      have ha37 := Pri.bases_small a ham
      have HCA : Hid (Nat.Coprime x0 n) := Lib.hid (by rw [← hx0]; exact Pri.cop_mod (Nat.Coprime.pow_left d (Pri.base_cop ham hs.out)))
      have hx1 : 0 < x0 := Pri.cop_pos (by have := H37.out; omega) HCA.out
      have hxn : x0 < n := by rw [← hx0]; exact Nat.mod_lt _ (by omega)
      have HSQ : Hid (∀ ok, ok = (decide (x0 = 1) || decide (x0 = n - 1)) → Pri.SqI n s 1 x0 ok b) := Lib.hid (by intro ok hok; unfold Pri.SqI; rw [hok, hbs]; unfold Pri.strong; rw [← HOD.out, ← HTZ.out, hx0, Bool.or_assoc]; congr 1)
      have HX0 : Hid (a ^ d % n = x0) := Lib.hid (hx0)
      clear hx0
      have HAM : Hid (a ∈ Pri.bases) := Lib.hid (ham)
      clear ham hbs HI
      go_upto_region 12 with (fail)
      have E9 := Lib.hid (EL.out.elN 0 rfl rfl (i) hi)
      clear EL
      have u0 := (E9.out.fc 0 rfl).2
      have E10 := Lib.hid (by have h := E9.out; rw [← ha, Nat.zero_add] at h; exact h)
      clear u0 E9
      have HAA : Hid (a = Pri.bases[i]'hi) := Lib.hid (ha)
      clear ha
      go_cut [10] (fun s10 wx => ∃ gx ya yn yk za zn zk xa xn xk, s10 = .pointer (some ⟨gx, 0, none⟩) ∧ Hid (Env (fun _ => True) w [(gx, 96, [.slice xa xn xk]), (w3.heap.size, 96, [.slice ja jn jk]), (w2.heap.size, 96, [.slice la ln lk]), (w1.heap.size, 96, [.slice ma mn mk])] [.rw (.slice xa xn xk) xn 1 (wds x0), .rw (.slice za zn zk) zn 1 (wds d), .rw (.slice ya yn yk) yn 1 (wds a), .ce gb i (.int .i64 (a : Nat)), .rw (.slice (some ⟨gb, 0, none⟩) 12 12) 12 1 (ncl Pri.bases), .rw (.slice ja jn jk) jn 1 (wds 1), .rw (.slice la ln lk) ln 1 (wds n1), .rw (.slice ma mn mk) mn 1 (wds n)] wx))
      case first =>
        have E11 := Lib.hid E10.out.drew
        clear E10
        refine wp_regionU (S := fun w' => w'.cell? ⟨w1.heap.size, 0, none⟩ = some (.slice ma mn mk) ∧ w'.cell? ⟨gb, i, none⟩ = some (.int .i64 (a : Nat))) [] (by kernel_rfl) (⟨((E11.out.bx 2 rfl).cell 0 rfl), (E11.out.fc 0 rfl).2⟩) (fun hHeld => ?_)
        generalize wr.drew = w4 at *
        refine uTake (i := 0) (some 35) (v := ?_) rfl rfl (by kernel_rfl) (by kernel_rfl) (by kernel_rfl) (by kernel_rfl) (fun _ _ _ h => h) (by rfl) (by assumption) ?_ ?_
        rotate_left
        · (intro wS hSw; (try dsimp only at hSw); go_simp; try with_reducible rfl)
        try simp only [Act.put, List.setIfInBounds_toArray, List.set_cons_zero, List.set_cons_succ]
        refine uTake (i := 1) (some 36) (v := ?_) rfl rfl (by kernel_rfl) (by kernel_rfl) (by kernel_rfl) (by kernel_rfl) (fun _ _ _ h => h) (by rfl) (by assumption) ?_ ?_
        rotate_left
        · (intro wS hSw; (try dsimp only at hSw); go_simp; try with_reducible rfl)
        try simp only [Act.put, List.setIfInBounds_toArray, List.set_cons_zero, List.set_cons_succ]
        refine uTake (i := 2) (some 37) (v := ?_) rfl rfl (by kernel_rfl) (by kernel_rfl) (by kernel_rfl) (by kernel_rfl) (fun _ _ _ h => h) (by rfl) (by assumption) ?_ ?_
        rotate_left
        · (intro wS hSw; (try dsimp only at hSw); go_simp; try with_reducible rfl)
        try simp only [Act.put, List.setIfInBounds_toArray, List.set_cons_zero, List.set_cons_succ]
        refine uTake (i := 3) (some 38) (v := .int .i64 (a : Nat)) rfl rfl (by kernel_rfl) (by kernel_rfl) (by kernel_rfl) (by kernel_rfl) (fun _ _ _ h => h) (by rfl) (by assumption) ?_ ?_
        · (intro wS hSw; (try dsimp only at hSw); go_simp; try with_reducible rfl)
        try simp only [Act.put, List.setIfInBounds_toArray, List.set_cons_zero, List.set_cons_succ]
        refine uTake (i := 5) (some 40) (v := ?_) rfl rfl (by kernel_rfl) (by kernel_rfl) (by kernel_rfl) (by kernel_rfl) (fun _ _ _ h => h) (by rfl) (by assumption) ?_ ?_
        rotate_left
        · (intro wS hSw; (try dsimp only at hSw); go_simp; try with_reducible rfl)
        try simp only [Act.put, List.setIfInBounds_toArray, List.set_cons_zero, List.set_cons_succ]
        refine uTake (i := 7) (some 42) (v := ?_) rfl rfl (by kernel_rfl) (by kernel_rfl) (by kernel_rfl) (by kernel_rfl) (fun _ _ _ h => h) (by rfl) (by assumption) ?_ ?_
        rotate_left
        · (intro wS hSw; (try dsimp only at hSw); go_simp; try with_reducible rfl)
        try simp only [Act.put, List.setIfInBounds_toArray, List.set_cons_zero, List.set_cons_succ]
        refine uReady (rs := [4, 9]) (by kernel_rfl) (by simp) ?_
        refine (ReadyU.cons rfl (fun KK hKK => ?_) (ReadyU.cons rfl (fun KK hKK => ?_) ReadyU.nil))
        · skip
          go_simp
          refine (rofG a (by omega)).mono ?_
          rintro e w5 ⟨⟨ya, yn, yk, rfl, yh⟩, hb⟩
          have E12 := Lib.hid (E11.out.gotG hb yh.out (by intro p hp u hu; simp at hp; rcases hp with rfl | rfl | rfl <;> (simp at hu; (try rcases hu with rfl | rfl | rfl) <;> (try subst hu) <;> exact ⟨_, _, _, rfl⟩)))
          clear E11 hb yh
          (try dsimp only)
          clear hHeld
          refine hKK.out _ _ (⟨((E12.out.bx 2 rfl).cell 0 rfl), (E12.out.fc 1 rfl).2⟩) (fun hHeld => ?_)
          clear hKK KK
          try simp only [Act.put, List.setIfInBounds_toArray, List.set_cons_zero, List.set_cons_succ]
          refine uReady (rs := [6, 9]) (by kernel_rfl) (by simp) ?_
          refine (ReadyU.cons rfl (fun KK hKK => ?_) (ReadyU.cons rfl (fun KK hKK => ?_) ReadyU.nil))
          · skip
            go_simp
            refine (rofG d (by omega)).mono ?_
            rintro e w6 ⟨⟨za, zn, zk, rfl, zh⟩, hb⟩
            have E13 := Lib.hid (E12.out.gotG hb zh.out (by intro p hp u hu; simp at hp; rcases hp with rfl | rfl | rfl <;> (simp at hu; (try rcases hu with rfl | rfl | rfl) <;> (try subst hu) <;> exact ⟨_, _, _, rfl⟩)))
            clear E12 hb zh
            (try dsimp only)
            clear hHeld
            refine hKK.out _ _ (⟨((E13.out.bx 2 rfl).cell 0 rfl), (E13.out.fc 2 rfl).2⟩) (fun hHeld => ?_)
            clear hKK KK
            try simp only [Act.put, List.setIfInBounds_toArray, List.set_cons_zero, List.set_cons_succ]
            refine uReady (rs := [8, 9]) (by kernel_rfl) (by simp) ?_
            refine (ReadyU.cons rfl (fun KK hKK => ?_) (ReadyU.cons rfl (fun KK hKK => ?_) ReadyU.nil))
            · skip
              go_simp
              refine (rpowG HX0.out (by omega) (by omega) (by omega) (by omega) (by omega) (E13.out.fc 1 rfl) (E13.out.fc 0 rfl) (E13.out.fc 6 rfl)).mono ?_
              rintro e w7 ⟨⟨xa, xn, xk, rfl, xh⟩, hb⟩
              have E14 := Lib.hid (E13.out.gotG hb xh.out (by intro p hp u hu; simp at hp; rcases hp with rfl | rfl | rfl <;> (simp at hu; (try rcases hu with rfl | rfl | rfl) <;> (try subst hu) <;> exact ⟨_, _, _, rfl⟩)))
              clear E13 hb xh
              (try dsimp only)
              clear hHeld
              refine hKK.out _ _ (⟨((E14.out.bx 2 rfl).cell 0 rfl), (E14.out.fc 3 rfl).2⟩) (fun hHeld => ?_)
              clear hKK KK
              try simp only [Act.put, List.setIfInBounds_toArray, List.set_cons_zero, List.set_cons_succ]
              refine uReady (rs := [9]) (by kernel_rfl) (by simp) ?_
              refine ReadyU.cons rfl (fun KK hKK => ?_) ReadyU.nil
              go_simp
              have E15 := Lib.hid ((E14.out.push 96 [.slice none 0 0] (w7.heap.size) (by simp)))
              (try dsimp only)
              clear hHeld
              refine hKK.out _ _ (⟨((E15.out.bx 3 rfl).cell 0 rfl), (E15.out.fc 3 rfl).2⟩) (fun hHeld => ?_)
              clear hKK KK
              try simp only [Act.put, List.setIfInBounds_toArray, List.set_cons_zero, List.set_cons_succ]
              clear E14
              generalize w7.alloc (.cells #[.slice none 0 0] 96) = w8 at *
              have b1 := E15.out.bx 0 rfl
              have c1_0 := b1.cell 0 rfl
              have f1_0 := b1.frozen 0
              clear b1
              refine uReady (rs := [10]) (by kernel_rfl) (by simp) ?_
              refine ReadyU.cons rfl (fun KK hKK => ?_) ReadyU.nil
              go_simp
              have E16 : Hid (Env (fun _ => True) w [(w7.heap.size, 96, [.slice xa xn xk]), (w3.heap.size, 96, [.slice ja jn jk]), (w2.heap.size, 96, [.slice la ln lk]), (w1.heap.size, 96, [.slice ma mn mk])] [.rw (.slice xa xn xk) xn 1 (wds x0), .rw (.slice za zn zk) zn 1 (wds d), .rw (.slice ya yn yk) yn 1 (wds a), .ce gb i (.int .i64 (a : Nat)), .rw (.slice (some ⟨gb, 0, none⟩) 12 12) 12 1 (ncl Pri.bases), .rw (.slice ja jn jk) jn 1 (wds 1), .rw (.slice la ln lk) ln 1 (wds n1), .rw (.slice ma mn mk) mn 1 (wds n)] _) := Lib.hid ((E15.out.set 0 0 (.slice xa xn xk) rfl))
              (try dsimp only)
              clear hHeld
              refine hKK.out _ _ (⟨((E16.out.bx 3 rfl).cell 0 rfl), (E16.out.fc 3 rfl).2⟩) (fun hHeld => ?_)
              clear hKK KK
              try simp only [Act.put, List.setIfInBounds_toArray, List.set_cons_zero, List.set_cons_succ]
              refine uDone (by kernel_rfl) ?_ _
              go_wp2_with fail
              go_meet
              exact ⟨w7.heap.size, ya, yn, yk, za, zn, zk, xa, xn, xk, rfl, Lib.hid E16.out⟩
            · skip
              go_simp
              have E14 := Lib.hid ((E13.out.push 96 [.slice none 0 0] (w6.heap.size) (by simp)))
              (try dsimp only)
              clear hHeld
              refine hKK.out _ _ (⟨((E14.out.bx 3 rfl).cell 0 rfl), (E14.out.fc 2 rfl).2⟩) (fun hHeld => ?_)
              clear hKK KK
              try simp only [Act.put, List.setIfInBounds_toArray, List.set_cons_zero, List.set_cons_succ]
              clear E13
              generalize w6.alloc (.cells #[.slice none 0 0] 96) = w7 at *
              refine uReady (rs := [8]) (by kernel_rfl) (by simp) ?_
              refine ReadyU.cons rfl (fun KK hKK => ?_) ReadyU.nil
              go_simp
              refine (rpowG HX0.out (by omega) (by omega) (by omega) (by omega) (by omega) (E14.out.fc 1 rfl) (E14.out.fc 0 rfl) (E14.out.fc 6 rfl)).mono ?_
              rintro e w8 ⟨⟨xa, xn, xk, rfl, xh⟩, hb⟩
              have E15 := Lib.hid (E14.out.gotG hb xh.out (by intro p hp u hu; simp at hp; rcases hp with rfl | rfl | rfl | rfl <;> (simp at hu; (try rcases hu with rfl | rfl | rfl) <;> (try subst hu) <;> exact ⟨_, _, _, rfl⟩)))
              clear E14 hb xh
              (try dsimp only)
              clear hHeld
              refine hKK.out _ _ (⟨((E15.out.bx 3 rfl).cell 0 rfl), (E15.out.fc 3 rfl).2⟩) (fun hHeld => ?_)
              clear hKK KK
              try simp only [Act.put, List.setIfInBounds_toArray, List.set_cons_zero, List.set_cons_succ]
              have b1 := E15.out.bx 0 rfl
              have c1_0 := b1.cell 0 rfl
              have f1_0 := b1.frozen 0
              clear b1
              refine uReady (rs := [10]) (by kernel_rfl) (by simp) ?_
              refine ReadyU.cons rfl (fun KK hKK => ?_) ReadyU.nil
              go_simp
              have E16 : Hid (Env (fun _ => True) w [(w6.heap.size, 96, [.slice xa xn xk]), (w3.heap.size, 96, [.slice ja jn jk]), (w2.heap.size, 96, [.slice la ln lk]), (w1.heap.size, 96, [.slice ma mn mk])] [.rw (.slice xa xn xk) xn 1 (wds x0), .rw (.slice za zn zk) zn 1 (wds d), .rw (.slice ya yn yk) yn 1 (wds a), .ce gb i (.int .i64 (a : Nat)), .rw (.slice (some ⟨gb, 0, none⟩) 12 12) 12 1 (ncl Pri.bases), .rw (.slice ja jn jk) jn 1 (wds 1), .rw (.slice la ln lk) ln 1 (wds n1), .rw (.slice ma mn mk) mn 1 (wds n)] _) := Lib.hid ((E15.out.set 0 0 (.slice xa xn xk) rfl))
              (try dsimp only)
              clear hHeld
              refine hKK.out _ _ (⟨((E16.out.bx 3 rfl).cell 0 rfl), (E16.out.fc 3 rfl).2⟩) (fun hHeld => ?_)
              clear hKK KK
              try simp only [Act.put, List.setIfInBounds_toArray, List.set_cons_zero, List.set_cons_succ]
              refine uDone (by kernel_rfl) ?_ _
              go_wp2_with fail
              go_meet
              exact ⟨w6.heap.size, ya, yn, yk, za, zn, zk, xa, xn, xk, rfl, Lib.hid E16.out⟩
          · skip
            go_simp
            have E13 := Lib.hid ((E12.out.push 96 [.slice none 0 0] (w5.heap.size) (by simp)))
            (try dsimp only)
            clear hHeld
            refine hKK.out _ _ (⟨((E13.out.bx 3 rfl).cell 0 rfl), (E13.out.fc 1 rfl).2⟩) (fun hHeld => ?_)
            clear hKK KK
            try simp only [Act.put, List.setIfInBounds_toArray, List.set_cons_zero, List.set_cons_succ]
            clear E12
            generalize w5.alloc (.cells #[.slice none 0 0] 96) = w6 at *
            refine uReady (rs := [6]) (by kernel_rfl) (by simp) ?_
            refine ReadyU.cons rfl (fun KK hKK => ?_) ReadyU.nil
            go_simp
            refine (rofG d (by omega)).mono ?_
            rintro e w7 ⟨⟨za, zn, zk, rfl, zh⟩, hb⟩
            have E14 := Lib.hid (E13.out.gotG hb zh.out (by intro p hp u hu; simp at hp; rcases hp with rfl | rfl | rfl | rfl <;> (simp at hu; (try rcases hu with rfl | rfl | rfl) <;> (try subst hu) <;> exact ⟨_, _, _, rfl⟩)))
            clear E13 hb zh
            (try dsimp only)
            clear hHeld
            refine hKK.out _ _ (⟨((E14.out.bx 3 rfl).cell 0 rfl), (E14.out.fc 2 rfl).2⟩) (fun hHeld => ?_)
            clear hKK KK
            try simp only [Act.put, List.setIfInBounds_toArray, List.set_cons_zero, List.set_cons_succ]
            refine uReady (rs := [8]) (by kernel_rfl) (by simp) ?_
            refine ReadyU.cons rfl (fun KK hKK => ?_) ReadyU.nil
            go_simp
            refine (rpowG HX0.out (by omega) (by omega) (by omega) (by omega) (by omega) (E14.out.fc 1 rfl) (E14.out.fc 0 rfl) (E14.out.fc 6 rfl)).mono ?_
            rintro e w8 ⟨⟨xa, xn, xk, rfl, xh⟩, hb⟩
            have E15 := Lib.hid (E14.out.gotG hb xh.out (by intro p hp u hu; simp at hp; rcases hp with rfl | rfl | rfl | rfl <;> (simp at hu; (try rcases hu with rfl | rfl | rfl) <;> (try subst hu) <;> exact ⟨_, _, _, rfl⟩)))
            clear E14 hb xh
            (try dsimp only)
            clear hHeld
            refine hKK.out _ _ (⟨((E15.out.bx 3 rfl).cell 0 rfl), (E15.out.fc 3 rfl).2⟩) (fun hHeld => ?_)
            clear hKK KK
            try simp only [Act.put, List.setIfInBounds_toArray, List.set_cons_zero, List.set_cons_succ]
            have b1 := E15.out.bx 0 rfl
            have c1_0 := b1.cell 0 rfl
            have f1_0 := b1.frozen 0
            clear b1
            refine uReady (rs := [10]) (by kernel_rfl) (by simp) ?_
            refine ReadyU.cons rfl (fun KK hKK => ?_) ReadyU.nil
            go_simp
            have E16 : Hid (Env (fun _ => True) w [(w5.heap.size, 96, [.slice xa xn xk]), (w3.heap.size, 96, [.slice ja jn jk]), (w2.heap.size, 96, [.slice la ln lk]), (w1.heap.size, 96, [.slice ma mn mk])] [.rw (.slice xa xn xk) xn 1 (wds x0), .rw (.slice za zn zk) zn 1 (wds d), .rw (.slice ya yn yk) yn 1 (wds a), .ce gb i (.int .i64 (a : Nat)), .rw (.slice (some ⟨gb, 0, none⟩) 12 12) 12 1 (ncl Pri.bases), .rw (.slice ja jn jk) jn 1 (wds 1), .rw (.slice la ln lk) ln 1 (wds n1), .rw (.slice ma mn mk) mn 1 (wds n)] _) := Lib.hid ((E15.out.set 0 0 (.slice xa xn xk) rfl))
            (try dsimp only)
            clear hHeld
            refine hKK.out _ _ (⟨((E16.out.bx 3 rfl).cell 0 rfl), (E16.out.fc 3 rfl).2⟩) (fun hHeld => ?_)
            clear hKK KK
            try simp only [Act.put, List.setIfInBounds_toArray, List.set_cons_zero, List.set_cons_succ]
            refine uDone (by kernel_rfl) ?_ _
            go_wp2_with fail
            go_meet
            exact ⟨w5.heap.size, ya, yn, yk, za, zn, zk, xa, xn, xk, rfl, Lib.hid E16.out⟩
        · skip
          go_simp
          have E12 := Lib.hid ((E11.out.push 96 [.slice none 0 0] (w4.heap.size) (by simp)))
          (try dsimp only)
          clear hHeld
          refine hKK.out _ _ (⟨((E12.out.bx 3 rfl).cell 0 rfl), (E12.out.fc 0 rfl).2⟩) (fun hHeld => ?_)
          clear hKK KK
          try simp only [Act.put, List.setIfInBounds_toArray, List.set_cons_zero, List.set_cons_succ]
          clear E11
          generalize w4.alloc (.cells #[.slice none 0 0] 96) = w5 at *
          refine uReady (rs := [4]) (by kernel_rfl) (by simp) ?_
          refine ReadyU.cons rfl (fun KK hKK => ?_) ReadyU.nil
          go_simp
          refine (rofG a (by omega)).mono ?_
          rintro e w6 ⟨⟨ya, yn, yk, rfl, yh⟩, hb⟩
          have E13 := Lib.hid (E12.out.gotG hb yh.out (by intro p hp u hu; simp at hp; rcases hp with rfl | rfl | rfl | rfl <;> (simp at hu; (try rcases hu with rfl | rfl | rfl) <;> (try subst hu) <;> exact ⟨_, _, _, rfl⟩)))
          clear E12 hb yh
          (try dsimp only)
          clear hHeld
          refine hKK.out _ _ (⟨((E13.out.bx 3 rfl).cell 0 rfl), (E13.out.fc 1 rfl).2⟩) (fun hHeld => ?_)
          clear hKK KK
          try simp only [Act.put, List.setIfInBounds_toArray, List.set_cons_zero, List.set_cons_succ]
          refine uReady (rs := [6]) (by kernel_rfl) (by simp) ?_
          refine ReadyU.cons rfl (fun KK hKK => ?_) ReadyU.nil
          go_simp
          refine (rofG d (by omega)).mono ?_
          rintro e w7 ⟨⟨za, zn, zk, rfl, zh⟩, hb⟩
          have E14 := Lib.hid (E13.out.gotG hb zh.out (by intro p hp u hu; simp at hp; rcases hp with rfl | rfl | rfl | rfl <;> (simp at hu; (try rcases hu with rfl | rfl | rfl) <;> (try subst hu) <;> exact ⟨_, _, _, rfl⟩)))
          clear E13 hb zh
          (try dsimp only)
          clear hHeld
          refine hKK.out _ _ (⟨((E14.out.bx 3 rfl).cell 0 rfl), (E14.out.fc 2 rfl).2⟩) (fun hHeld => ?_)
          clear hKK KK
          try simp only [Act.put, List.setIfInBounds_toArray, List.set_cons_zero, List.set_cons_succ]
          refine uReady (rs := [8]) (by kernel_rfl) (by simp) ?_
          refine ReadyU.cons rfl (fun KK hKK => ?_) ReadyU.nil
          go_simp
          refine (rpowG HX0.out (by omega) (by omega) (by omega) (by omega) (by omega) (E14.out.fc 1 rfl) (E14.out.fc 0 rfl) (E14.out.fc 6 rfl)).mono ?_
          rintro e w8 ⟨⟨xa, xn, xk, rfl, xh⟩, hb⟩
          have E15 := Lib.hid (E14.out.gotG hb xh.out (by intro p hp u hu; simp at hp; rcases hp with rfl | rfl | rfl | rfl <;> (simp at hu; (try rcases hu with rfl | rfl | rfl) <;> (try subst hu) <;> exact ⟨_, _, _, rfl⟩)))
          clear E14 hb xh
          (try dsimp only)
          clear hHeld
          refine hKK.out _ _ (⟨((E15.out.bx 3 rfl).cell 0 rfl), (E15.out.fc 3 rfl).2⟩) (fun hHeld => ?_)
          clear hKK KK
          try simp only [Act.put, List.setIfInBounds_toArray, List.set_cons_zero, List.set_cons_succ]
          have b1 := E15.out.bx 0 rfl
          have c1_0 := b1.cell 0 rfl
          have f1_0 := b1.frozen 0
          clear b1
          refine uReady (rs := [10]) (by kernel_rfl) (by simp) ?_
          refine ReadyU.cons rfl (fun KK hKK => ?_) ReadyU.nil
          go_simp
          have E16 : Hid (Env (fun _ => True) w [(w4.heap.size, 96, [.slice xa xn xk]), (w3.heap.size, 96, [.slice ja jn jk]), (w2.heap.size, 96, [.slice la ln lk]), (w1.heap.size, 96, [.slice ma mn mk])] [.rw (.slice xa xn xk) xn 1 (wds x0), .rw (.slice za zn zk) zn 1 (wds d), .rw (.slice ya yn yk) yn 1 (wds a), .ce gb i (.int .i64 (a : Nat)), .rw (.slice (some ⟨gb, 0, none⟩) 12 12) 12 1 (ncl Pri.bases), .rw (.slice ja jn jk) jn 1 (wds 1), .rw (.slice la ln lk) ln 1 (wds n1), .rw (.slice ma mn mk) mn 1 (wds n)] _) := Lib.hid ((E15.out.set 0 0 (.slice xa xn xk) rfl))
          (try dsimp only)
          clear hHeld
          refine hKK.out _ _ (⟨((E16.out.bx 3 rfl).cell 0 rfl), (E16.out.fc 3 rfl).2⟩) (fun hHeld => ?_)
          clear hKK KK
          try simp only [Act.put, List.setIfInBounds_toArray, List.set_cons_zero, List.set_cons_succ]
          refine uDone (by kernel_rfl) ?_ _
          go_wp2_with fail
          go_meet
          exact ⟨w4.heap.size, ya, yn, yk, za, zn, zk, xa, xn, xk, rfl, Lib.hid E16.out⟩
      case rest =>
        obtain ⟨gx, ya, yn, yk, za, zn, zk, xa, xn, xk, rfl, E17⟩ := hcut
        clear E10
        by_cases hx : x0 = 1
        · have HX1 : Hid (decide (x0 = 1) = true) := Lib.hid (decide_eq_true hx)
          have HS0 : Hid (Pri.SqI n s 1 x0 true b) := Lib.hid (HSQ.out true (by rw [HX1.out]; rfl))
          clear hx HSQ
          have b2 := E17.out.bx 0 rfl
          have c2_0 := b2.cell 0 rfl
          clear b2
          have b3 := E17.out.bx 1 rfl
          have c3_0 := b3.cell 0 rfl
          clear b3
          go_wp2_with fail
          refine (rsameG HX1.out (by omega) (by omega) (E17.out.fc 0 rfl) (E17.out.fc 5 rfl)).mono ?_
          rintro e w9 ⟨rfl, hb⟩
          have E18 := Lib.hid (E17.out.below hb)
          clear c2_0 c3_0 E17 hb
          go_wp2_with fail
          go_loopg [11, 12] (s) (fun gk s11 s12 wr => ∃ (k x : Nat) (ok : Bool) (va : Option Addr) (vn vk : Nat), s11 = .bool ok ∧ s12 = .int .i64 (k : Int) ∧ Hid (Env (fun _ => True) w [(gx, 96, [.slice va vn vk]), (w3.heap.size, 96, [.slice ja jn jk]), (w2.heap.size, 96, [.slice la ln lk]), (w1.heap.size, 96, [.slice ma mn mk])] [.rw (.slice va vn vk) vn 1 (wds x), .rw (.slice za zn zk) zn 1 (wds d), .rw (.slice ya yn yk) yn 1 (wds a), .ce gb i (.int .i64 (a : Nat)), .rw (.slice (some ⟨gb, 0, none⟩) 12 12) 12 1 (ncl Pri.bases), .rw (.slice ja jn jk) jn 1 (wds 1), .rw (.slice la ln lk) ln 1 (wds n1), .rw (.slice ma mn mk) mn 1 (wds n)] wr) ∧ Hid ((1 ≤ k ∧ k ≤ s ∧ gk = s - k + 1 ∧ x < n ∧ 0 < x) ∧ Nat.Coprime x n ∧ Pri.SqI n s k x ok b))
          case atStart => exact ⟨1, x0, true, xa, xn, xk, rfl, rfl, Lib.hid E18.out, Lib.hid ⟨⟨by omega, by omega, by omega, by omega, by omega⟩, HCA.out, HS0.out⟩⟩
          case round =>
            clear E18 HS0
            obtain ⟨k, x, ok, va, vn, vk, rfl, rfl, EL, HA⟩ := hrel
            obtain ⟨⟨k1, k2, k3, k4, k5⟩, k6, k7⟩ := HA.out
            have HCX : Hid (Nat.Coprime x n) := Lib.hid (k6)
            have HSI : Hid (Pri.SqI n s k x ok b) := Lib.hid (k7)
            clear k6 k7 HA
            by_cases hk : k < s
            rotate_left
            · have t5 : decide ((k : Int) < (s : Int)) = false := decide_eq_false (by omega)
              have t5n : decide (k < s) = false := decide_eq_false hk
              have HKK : Hid (s ≤ k) := Lib.hid (by omega)
              clear hk
              have HOK : Hid (ok = b) := Lib.hid (HSI.out.done (.inr HKK.out))
              clear HSI
              cases b with
              | false =>
                obtain rfl : ok = false := HOK.out
                have HTF : Hid (t = false) := Lib.hid (by rw [← HR.out]; rfl)
                have hfin := Lib.hid EL.out.bel
                go_wp2
                go_ret
                exact ⟨(RetEqB HTF.out.symm), hfin.out⟩
              | true =>
                obtain rfl : ok = true := HOK.out
                have HR2 : Hid ((Pri.bases.drop (i + 1)).all (Pri.strong n) = t) := Lib.hid (by have h := HR.out; rw [Bool.true_and] at h; exact h)
                have hZ := EL.out.dropAt 0
                have EZ : Hid (Env (fun _ => True) w [(w3.heap.size, 96, [.slice ja jn jk]), (w2.heap.size, 96, [.slice la ln lk]), (w1.heap.size, 96, [.slice ma mn mk])] [.rw (.slice (some ⟨gb, 0, none⟩) 12 12) 12 1 (ncl Pri.bases), .rw (.slice ja jn jk) jn 1 (wds 1), .rw (.slice la ln lk) ln 1 (wds n1), .rw (.slice ma mn mk) mn 1 (wds n)] _) := Lib.hid ⟨hZ.bel, hZ.box, ⟨hZ.fc 4 rfl, ⟨hZ.fc 5 rfl, ⟨hZ.fc 6 rfl, ⟨hZ.fc 7 rfl, trivial⟩⟩⟩⟩⟩
                clear hZ
                go_wp2
                go_roundg (12 - (i + 1))
                case rel => exact ⟨i + 1, rfl, EZ, Lib.hid ⟨⟨by omega, rfl⟩, HR2.out⟩⟩
                case measure => exact by omega
            have t5 : decide ((k : Int) < (s : Int)) = true := decide_eq_true (by omega)
            have t5n : decide (k < s) = true := decide_eq_true hk
            cases ok with
            | true =>
              have HOK : Hid (true = b) := Lib.hid (HSI.out.done (.inl rfl))
              clear HSI
              cases b with
              | false =>
                exact absurd HOK.out (by decide)
              | true =>
                have HR2 : Hid ((Pri.bases.drop (i + 1)).all (Pri.strong n) = t) := Lib.hid (by have h := HR.out; rw [Bool.true_and] at h; exact h)
                have hZ := EL.out.dropAt 0
                have EZ : Hid (Env (fun _ => True) w [(w3.heap.size, 96, [.slice ja jn jk]), (w2.heap.size, 96, [.slice la ln lk]), (w1.heap.size, 96, [.slice ma mn mk])] [.rw (.slice (some ⟨gb, 0, none⟩) 12 12) 12 1 (ncl Pri.bases), .rw (.slice ja jn jk) jn 1 (wds 1), .rw (.slice la ln lk) ln 1 (wds n1), .rw (.slice ma mn mk) mn 1 (wds n)] _) := Lib.hid ⟨hZ.bel, hZ.box, ⟨hZ.fc 4 rfl, ⟨hZ.fc 5 rfl, ⟨hZ.fc 6 rfl, ⟨hZ.fc 7 rfl, trivial⟩⟩⟩⟩⟩
                clear hZ
                go_wp2
                go_roundg (12 - (i + 1))
                case rel => exact ⟨i + 1, rfl, EZ, Lib.hid ⟨⟨by omega, rfl⟩, HR2.out⟩⟩
                case measure => exact by omega
            | false =>
              obtain ⟨y, hy⟩ : ∃ y, x * x % n = y := ⟨_, rfl⟩
              have HYY : Hid (x * x % n = y) := Lib.hid (hy)
              have hyn : y < n := by rw [← hy]; exact Nat.mod_lt _ (by omega)
              have HCY : Hid (Nat.Coprime y n) := Lib.hid (by rw [← hy]; exact Pri.cop_mod (Nat.Coprime.mul_left HCX.out HCX.out))
              have hy0 : 0 < y := Pri.cop_pos (by have := H37.out; omega) HCY.out
              obtain ⟨c, hc⟩ : ∃ c, decide (y = n1) = c := ⟨_, rfl⟩
              have HC : Hid (decide (y = n1) = c) := Lib.hid (hc)
              have HS2 : Hid (Pri.SqI n s (k + 1) y c b) := Lib.hid (by have h := HSI.out.step hk; rw [hy, ← HN1.out, hc] at h; exact h)
              have k8 : k + 1 ≤ s := hk
              clear hy hc HSI hk
              have b4 := EL.out.bx 0 rfl
              have c4_0 := b4.cell 0 rfl
              clear b4
              have b5 := EL.out.bx 3 rfl
              have c5_0 := b5.cell 0 rfl
              clear b5
              go_wp2_with fail
              refine (rmulG HYY.out (by omega) (by omega) (by omega) (by omega) (by omega) (EL.out.fc 0 rfl) (EL.out.fc 0 rfl) (EL.out.fc 7 rfl)).mono ?_
              rintro e w10 ⟨⟨qa, qn, qk, rfl, qh⟩, hb⟩
              have E19 := Lib.hid (EL.out.gotG hb qh.out (by intro p hp u hu; simp at hp; rcases hp with rfl | rfl | rfl | rfl <;> (simp at hu; (try rcases hu with rfl | rfl | rfl) <;> (try subst hu) <;> exact ⟨_, _, _, rfl⟩)))
              clear c4_0 c5_0 EL hb qh
              have b6 := E19.out.bx 0 rfl
              have c6_0 := b6.cell 0 rfl
              have f6_0 := b6.frozen 0
              clear b6
              have E20 : Hid (Env (fun _ => True) w [(gx, 96, [.slice qa qn qk]), (w3.heap.size, 96, [.slice ja jn jk]), (w2.heap.size, 96, [.slice la ln lk]), (w1.heap.size, 96, [.slice ma mn mk])] [.rw (.slice qa qn qk) qn 1 (wds y), .rw (.slice va vn vk) vn 1 (wds x), .rw (.slice za zn zk) zn 1 (wds d), .rw (.slice ya yn yk) yn 1 (wds a), .ce gb i (.int .i64 (a : Nat)), .rw (.slice (some ⟨gb, 0, none⟩) 12 12) 12 1 (ncl Pri.bases), .rw (.slice ja jn jk) jn 1 (wds 1), .rw (.slice la ln lk) ln 1 (wds n1), .rw (.slice ma mn mk) mn 1 (wds n)] _) := Lib.hid ((E19.out.set 0 0 (.slice qa qn qk) rfl))
              have b7 := E20.out.bx 2 rfl
              have c7_0 := b7.cell 0 rfl
              clear b7
              go_wp2_with fail
              refine (rsameG HC.out (by omega) (by omega) (E20.out.fc 0 rfl) (E20.out.fc 7 rfl)).mono ?_
              rintro e w11 ⟨rfl, hb⟩
              have E21 := Lib.hid (E20.out.below hb)
              clear c6_0 f6_0 c7_0 E19 E20 hb
              have hZ := E21.out
              have EZ : Hid (Env (fun _ => True) w [(gx, 96, [.slice qa qn qk]), (w3.heap.size, 96, [.slice ja jn jk]), (w2.heap.size, 96, [.slice la ln lk]), (w1.heap.size, 96, [.slice ma mn mk])] [.rw (.slice qa qn qk) qn 1 (wds y), .rw (.slice za zn zk) zn 1 (wds d), .rw (.slice ya yn yk) yn 1 (wds a), .ce gb i (.int .i64 (a : Nat)), .rw (.slice (some ⟨gb, 0, none⟩) 12 12) 12 1 (ncl Pri.bases), .rw (.slice ja jn jk) jn 1 (wds 1), .rw (.slice la ln lk) ln 1 (wds n1), .rw (.slice ma mn mk) mn 1 (wds n)] _) := Lib.hid ⟨hZ.bel, hZ.box, ⟨hZ.fc 0 rfl, ⟨hZ.fc 2 rfl, ⟨hZ.fc 3 rfl, ⟨hZ.fc 4 rfl, ⟨hZ.fc 5 rfl, ⟨hZ.fc 6 rfl, ⟨hZ.fc 7 rfl, ⟨hZ.fc 8 rfl, trivial⟩⟩⟩⟩⟩⟩⟩⟩⟩
              clear hZ
              go_wp2
              go_roundg (s - (k + 1) + 1)
              case rel => exact ⟨k + 1, y, c, qa, qn, qk, rfl, rfl, EZ, Lib.hid ⟨⟨by omega, by omega, rfl, by omega, by omega⟩, HCY.out, HS2.out⟩⟩
              case measure => exact by omega
        have HX1 : Hid (decide (x0 = 1) = false) := Lib.hid (decide_eq_false hx)
        obtain ⟨c0, hc0⟩ : ∃ c0, decide (x0 = n1) = c0 := ⟨_, rfl⟩
        have HC0 : Hid (decide (x0 = n1) = c0) := Lib.hid (hc0)
        have HS0 : Hid (Pri.SqI n s 1 x0 c0 b) := Lib.hid (HSQ.out c0 (by rw [HX1.out, Bool.false_or, ← HN1.out, hc0]))
        clear hx hc0 HSQ
        have b2 := E17.out.bx 0 rfl
        have c2_0 := b2.cell 0 rfl
        clear b2
        have b3 := E17.out.bx 1 rfl
        have c3_0 := b3.cell 0 rfl
        clear b3
        go_wp2_with fail
        refine (rsameG HX1.out (by omega) (by omega) (E17.out.fc 0 rfl) (E17.out.fc 5 rfl)).mono ?_
        rintro e w9 ⟨rfl, hb⟩
        have E18 := Lib.hid (E17.out.below hb)
        clear c2_0 c3_0 E17 hb
        have b4 := E18.out.bx 0 rfl
        have c4_0 := b4.cell 0 rfl
        clear b4
        have b5 := E18.out.bx 2 rfl
        have c5_0 := b5.cell 0 rfl
        clear b5
        go_wp2_with fail
        refine (rsameG HC0.out (by omega) (by omega) (E18.out.fc 0 rfl) (E18.out.fc 6 rfl)).mono ?_
        rintro e w10 ⟨rfl, hb⟩
        have E19 := Lib.hid (E18.out.below hb)
        clear c4_0 c5_0 E18 hb
        go_wp2_with fail
        go_loopg [11, 12] (s) (fun gk s11 s12 wr => ∃ (k x : Nat) (ok : Bool) (va : Option Addr) (vn vk : Nat), s11 = .bool ok ∧ s12 = .int .i64 (k : Int) ∧ Hid (Env (fun _ => True) w [(gx, 96, [.slice va vn vk]), (w3.heap.size, 96, [.slice ja jn jk]), (w2.heap.size, 96, [.slice la ln lk]), (w1.heap.size, 96, [.slice ma mn mk])] [.rw (.slice va vn vk) vn 1 (wds x), .rw (.slice za zn zk) zn 1 (wds d), .rw (.slice ya yn yk) yn 1 (wds a), .ce gb i (.int .i64 (a : Nat)), .rw (.slice (some ⟨gb, 0, none⟩) 12 12) 12 1 (ncl Pri.bases), .rw (.slice ja jn jk) jn 1 (wds 1), .rw (.slice la ln lk) ln 1 (wds n1), .rw (.slice ma mn mk) mn 1 (wds n)] wr) ∧ Hid ((1 ≤ k ∧ k ≤ s ∧ gk = s - k + 1 ∧ x < n ∧ 0 < x) ∧ Nat.Coprime x n ∧ Pri.SqI n s k x ok b))
        case atStart => exact ⟨1, x0, c0, xa, xn, xk, rfl, rfl, Lib.hid E19.out, Lib.hid ⟨⟨by omega, by omega, by omega, by omega, by omega⟩, HCA.out, HS0.out⟩⟩
        case round =>
          clear E19 HS0
          obtain ⟨k, x, ok, va, vn, vk, rfl, rfl, EL, HA⟩ := hrel
          obtain ⟨⟨k1, k2, k3, k4, k5⟩, k6, k7⟩ := HA.out
          have HCX : Hid (Nat.Coprime x n) := Lib.hid (k6)
          have HSI : Hid (Pri.SqI n s k x ok b) := Lib.hid (k7)
          clear k6 k7 HA
          by_cases hk : k < s
          rotate_left
          · have t5 : decide ((k : Int) < (s : Int)) = false := decide_eq_false (by omega)
            have t5n : decide (k < s) = false := decide_eq_false hk
            have HKK : Hid (s ≤ k) := Lib.hid (by omega)
            clear hk
            have HOK : Hid (ok = b) := Lib.hid (HSI.out.done (.inr HKK.out))
            clear HSI
            cases b with
            | false =>
              obtain rfl : ok = false := HOK.out
              have HTF : Hid (t = false) := Lib.hid (by rw [← HR.out]; rfl)
              have hfin := Lib.hid EL.out.bel
              go_wp2
              go_ret
              exact ⟨(RetEqB HTF.out.symm), hfin.out⟩
            | true =>
              obtain rfl : ok = true := HOK.out
              have HR2 : Hid ((Pri.bases.drop (i + 1)).all (Pri.strong n) = t) := Lib.hid (by have h := HR.out; rw [Bool.true_and] at h; exact h)
              have hZ := EL.out.dropAt 0
              have EZ : Hid (Env (fun _ => True) w [(w3.heap.size, 96, [.slice ja jn jk]), (w2.heap.size, 96, [.slice la ln lk]), (w1.heap.size, 96, [.slice ma mn mk])] [.rw (.slice (some ⟨gb, 0, none⟩) 12 12) 12 1 (ncl Pri.bases), .rw (.slice ja jn jk) jn 1 (wds 1), .rw (.slice la ln lk) ln 1 (wds n1), .rw (.slice ma mn mk) mn 1 (wds n)] _) := Lib.hid ⟨hZ.bel, hZ.box, ⟨hZ.fc 4 rfl, ⟨hZ.fc 5 rfl, ⟨hZ.fc 6 rfl, ⟨hZ.fc 7 rfl, trivial⟩⟩⟩⟩⟩
              clear hZ
              go_wp2
              go_roundg (12 - (i + 1))
              case rel => exact ⟨i + 1, rfl, EZ, Lib.hid ⟨⟨by omega, rfl⟩, HR2.out⟩⟩
              case measure => exact by omega
          have t5 : decide ((k : Int) < (s : Int)) = true := decide_eq_true (by omega)
          have t5n : decide (k < s) = true := decide_eq_true hk
          cases ok with
          | true =>
            have HOK : Hid (true = b) := Lib.hid (HSI.out.done (.inl rfl))
            clear HSI
            cases b with
            | false =>
              exact absurd HOK.out (by decide)
            | true =>
              have HR2 : Hid ((Pri.bases.drop (i + 1)).all (Pri.strong n) = t) := Lib.hid (by have h := HR.out; rw [Bool.true_and] at h; exact h)
              have hZ := EL.out.dropAt 0
              have EZ : Hid (Env (fun _ => True) w [(w3.heap.size, 96, [.slice ja jn jk]), (w2.heap.size, 96, [.slice la ln lk]), (w1.heap.size, 96, [.slice ma mn mk])] [.rw (.slice (some ⟨gb, 0, none⟩) 12 12) 12 1 (ncl Pri.bases), .rw (.slice ja jn jk) jn 1 (wds 1), .rw (.slice la ln lk) ln 1 (wds n1), .rw (.slice ma mn mk) mn 1 (wds n)] _) := Lib.hid ⟨hZ.bel, hZ.box, ⟨hZ.fc 4 rfl, ⟨hZ.fc 5 rfl, ⟨hZ.fc 6 rfl, ⟨hZ.fc 7 rfl, trivial⟩⟩⟩⟩⟩
              clear hZ
              go_wp2
              go_roundg (12 - (i + 1))
              case rel => exact ⟨i + 1, rfl, EZ, Lib.hid ⟨⟨by omega, rfl⟩, HR2.out⟩⟩
              case measure => exact by omega
          | false =>
            obtain ⟨y, hy⟩ : ∃ y, x * x % n = y := ⟨_, rfl⟩
            have HYY : Hid (x * x % n = y) := Lib.hid (hy)
            have hyn : y < n := by rw [← hy]; exact Nat.mod_lt _ (by omega)
            have HCY : Hid (Nat.Coprime y n) := Lib.hid (by rw [← hy]; exact Pri.cop_mod (Nat.Coprime.mul_left HCX.out HCX.out))
            have hy0 : 0 < y := Pri.cop_pos (by have := H37.out; omega) HCY.out
            obtain ⟨c, hc⟩ : ∃ c, decide (y = n1) = c := ⟨_, rfl⟩
            have HC : Hid (decide (y = n1) = c) := Lib.hid (hc)
            have HS2 : Hid (Pri.SqI n s (k + 1) y c b) := Lib.hid (by have h := HSI.out.step hk; rw [hy, ← HN1.out, hc] at h; exact h)
            have k8 : k + 1 ≤ s := hk
            clear hy hc HSI hk
            have b6 := EL.out.bx 0 rfl
            have c6_0 := b6.cell 0 rfl
            clear b6
            have b7 := EL.out.bx 3 rfl
            have c7_0 := b7.cell 0 rfl
            clear b7
            go_wp2_with fail
            refine (rmulG HYY.out (by omega) (by omega) (by omega) (by omega) (by omega) (EL.out.fc 0 rfl) (EL.out.fc 0 rfl) (EL.out.fc 7 rfl)).mono ?_
            rintro e w11 ⟨⟨qa, qn, qk, rfl, qh⟩, hb⟩
            have E20 := Lib.hid (EL.out.gotG hb qh.out (by intro p hp u hu; simp at hp; rcases hp with rfl | rfl | rfl | rfl <;> (simp at hu; (try rcases hu with rfl | rfl | rfl) <;> (try subst hu) <;> exact ⟨_, _, _, rfl⟩)))
            clear c6_0 c7_0 EL hb qh
            have b8 := E20.out.bx 0 rfl
            have c8_0 := b8.cell 0 rfl
            have f8_0 := b8.frozen 0
            clear b8
            have E21 : Hid (Env (fun _ => True) w [(gx, 96, [.slice qa qn qk]), (w3.heap.size, 96, [.slice ja jn jk]), (w2.heap.size, 96, [.slice la ln lk]), (w1.heap.size, 96, [.slice ma mn mk])] [.rw (.slice qa qn qk) qn 1 (wds y), .rw (.slice va vn vk) vn 1 (wds x), .rw (.slice za zn zk) zn 1 (wds d), .rw (.slice ya yn yk) yn 1 (wds a), .ce gb i (.int .i64 (a : Nat)), .rw (.slice (some ⟨gb, 0, none⟩) 12 12) 12 1 (ncl Pri.bases), .rw (.slice ja jn jk) jn 1 (wds 1), .rw (.slice la ln lk) ln 1 (wds n1), .rw (.slice ma mn mk) mn 1 (wds n)] _) := Lib.hid ((E20.out.set 0 0 (.slice qa qn qk) rfl))
            have b9 := E21.out.bx 2 rfl
            have c9_0 := b9.cell 0 rfl
            clear b9
            go_wp2_with fail
            refine (rsameG HC.out (by omega) (by omega) (E21.out.fc 0 rfl) (E21.out.fc 7 rfl)).mono ?_
            rintro e w12 ⟨rfl, hb⟩
            have E22 := Lib.hid (E21.out.below hb)
            clear c8_0 f8_0 c9_0 E20 E21 hb
            have hZ := E22.out
            have EZ : Hid (Env (fun _ => True) w [(gx, 96, [.slice qa qn qk]), (w3.heap.size, 96, [.slice ja jn jk]), (w2.heap.size, 96, [.slice la ln lk]), (w1.heap.size, 96, [.slice ma mn mk])] [.rw (.slice qa qn qk) qn 1 (wds y), .rw (.slice za zn zk) zn 1 (wds d), .rw (.slice ya yn yk) yn 1 (wds a), .ce gb i (.int .i64 (a : Nat)), .rw (.slice (some ⟨gb, 0, none⟩) 12 12) 12 1 (ncl Pri.bases), .rw (.slice ja jn jk) jn 1 (wds 1), .rw (.slice la ln lk) ln 1 (wds n1), .rw (.slice ma mn mk) mn 1 (wds n)] _) := Lib.hid ⟨hZ.bel, hZ.box, ⟨hZ.fc 0 rfl, ⟨hZ.fc 2 rfl, ⟨hZ.fc 3 rfl, ⟨hZ.fc 4 rfl, ⟨hZ.fc 5 rfl, ⟨hZ.fc 6 rfl, ⟨hZ.fc 7 rfl, ⟨hZ.fc 8 rfl, trivial⟩⟩⟩⟩⟩⟩⟩⟩⟩
            clear hZ
            go_wp2
            go_roundg (s - (k + 1) + 1)
            case rel => exact ⟨k + 1, y, c, qa, qn, qk, rfl, rfl, EZ, Lib.hid ⟨⟨by omega, by omega, rfl, by omega, by omega⟩, HCY.out, HS2.out⟩⟩
            case measure => exact by omega
set_option maxRecDepth 100000 in
set_option maxHeartbeats 4000000 in
theorem rIs_huge (m : Nat) (r : Bool) (w : World) (h2 : 2 ≤ (m : Int)) (hM : 2305843009213693952 ≤ (m : Int)) (hm : (m : Int) ≤ 9223372036854775807) (hr0 : Pri.isP m = r) :
    Calls Tryd.prog 52 #[.int .i64 m] w fun e w' => e = .returned (.bool r) ∧ Below w.heap.size w w' := by
  have hr := Lib.hid hr0
  have h2' : 2 ≤ m := by omega
  have H2 := Lib.hid h2'
  have hn2 : decide ((m : Int) < 2) = false := decide_eq_false (by omega)
  have hst : Hid (Pri.sieve m (Pri.bases.drop 0) = Pri.sieve m Pri.bases) := Lib.hid rfl
  clear hr0 h2'
  go_enter Tryd.func52, Tryd.ntmps52
  go_wp2
  have hB : Below w.heap.size w (w.alloc (.cells #[.int .i64 2, .int .i64 3, .int .i64 5, .int .i64 7, .int .i64 11, .int .i64 13, .int .i64 17, .int .i64 19, .int .i64 23, .int .i64 29, .int .i64 31, .int .i64 37] 3)) := (Below.refl _ _).alloc (Nat.le_refl _) _

  have c0 : (w.alloc (.cells #[.int .i64 2, .int .i64 3, .int .i64 5, .int .i64 7, .int .i64 11, .int .i64 13, .int .i64 17, .int .i64 19, .int .i64 23, .int .i64 29, .int .i64 31, .int .i64 37] 3)).cell? ⟨w.heap.size, 0, none⟩ = some (.int .i64 2) := new_cell w _ _ 0 rfl
  have c1 : (w.alloc (.cells #[.int .i64 2, .int .i64 3, .int .i64 5, .int .i64 7, .int .i64 11, .int .i64 13, .int .i64 17, .int .i64 19, .int .i64 23, .int .i64 29, .int .i64 31, .int .i64 37] 3)).cell? ⟨w.heap.size, 1, none⟩ = some (.int .i64 3) := new_cell w _ _ 1 rfl
  have c2 : (w.alloc (.cells #[.int .i64 2, .int .i64 3, .int .i64 5, .int .i64 7, .int .i64 11, .int .i64 13, .int .i64 17, .int .i64 19, .int .i64 23, .int .i64 29, .int .i64 31, .int .i64 37] 3)).cell? ⟨w.heap.size, 2, none⟩ = some (.int .i64 5) := new_cell w _ _ 2 rfl
  have c3 : (w.alloc (.cells #[.int .i64 2, .int .i64 3, .int .i64 5, .int .i64 7, .int .i64 11, .int .i64 13, .int .i64 17, .int .i64 19, .int .i64 23, .int .i64 29, .int .i64 31, .int .i64 37] 3)).cell? ⟨w.heap.size, 3, none⟩ = some (.int .i64 7) := new_cell w _ _ 3 rfl
  have c4 : (w.alloc (.cells #[.int .i64 2, .int .i64 3, .int .i64 5, .int .i64 7, .int .i64 11, .int .i64 13, .int .i64 17, .int .i64 19, .int .i64 23, .int .i64 29, .int .i64 31, .int .i64 37] 3)).cell? ⟨w.heap.size, 4, none⟩ = some (.int .i64 11) := new_cell w _ _ 4 rfl
  have c5 : (w.alloc (.cells #[.int .i64 2, .int .i64 3, .int .i64 5, .int .i64 7, .int .i64 11, .int .i64 13, .int .i64 17, .int .i64 19, .int .i64 23, .int .i64 29, .int .i64 31, .int .i64 37] 3)).cell? ⟨w.heap.size, 5, none⟩ = some (.int .i64 13) := new_cell w _ _ 5 rfl
  have c6 : (w.alloc (.cells #[.int .i64 2, .int .i64 3, .int .i64 5, .int .i64 7, .int .i64 11, .int .i64 13, .int .i64 17, .int .i64 19, .int .i64 23, .int .i64 29, .int .i64 31, .int .i64 37] 3)).cell? ⟨w.heap.size, 6, none⟩ = some (.int .i64 17) := new_cell w _ _ 6 rfl
  have c7 : (w.alloc (.cells #[.int .i64 2, .int .i64 3, .int .i64 5, .int .i64 7, .int .i64 11, .int .i64 13, .int .i64 17, .int .i64 19, .int .i64 23, .int .i64 29, .int .i64 31, .int .i64 37] 3)).cell? ⟨w.heap.size, 7, none⟩ = some (.int .i64 19) := new_cell w _ _ 7 rfl
  have c8 : (w.alloc (.cells #[.int .i64 2, .int .i64 3, .int .i64 5, .int .i64 7, .int .i64 11, .int .i64 13, .int .i64 17, .int .i64 19, .int .i64 23, .int .i64 29, .int .i64 31, .int .i64 37] 3)).cell? ⟨w.heap.size, 8, none⟩ = some (.int .i64 23) := new_cell w _ _ 8 rfl
  have c9 : (w.alloc (.cells #[.int .i64 2, .int .i64 3, .int .i64 5, .int .i64 7, .int .i64 11, .int .i64 13, .int .i64 17, .int .i64 19, .int .i64 23, .int .i64 29, .int .i64 31, .int .i64 37] 3)).cell? ⟨w.heap.size, 9, none⟩ = some (.int .i64 29) := new_cell w _ _ 9 rfl
  have c10 : (w.alloc (.cells #[.int .i64 2, .int .i64 3, .int .i64 5, .int .i64 7, .int .i64 11, .int .i64 13, .int .i64 17, .int .i64 19, .int .i64 23, .int .i64 29, .int .i64 31, .int .i64 37] 3)).cell? ⟨w.heap.size, 10, none⟩ = some (.int .i64 31) := new_cell w _ _ 10 rfl
  have c11 : (w.alloc (.cells #[.int .i64 2, .int .i64 3, .int .i64 5, .int .i64 7, .int .i64 11, .int .i64 13, .int .i64 17, .int .i64 19, .int .i64 23, .int .i64 29, .int .i64 31, .int .i64 37] 3)).cell? ⟨w.heap.size, 11, none⟩ = some (.int .i64 37) := new_cell w _ _ 11 rfl
  generalize (w.alloc (.cells #[.int .i64 2, .int .i64 3, .int .i64 5, .int .i64 7, .int .i64 11, .int .i64 13, .int .i64 17, .int .i64 19, .int .i64 23, .int .i64 29, .int .i64 31, .int .i64 37] 3)) = w1 at *
  have HBw := Lib.hid hB
  clear hB
  generalize w.heap.size = g at c0 c1 c2 c3 c4 c5 c6 c7 c8 c9 c10 c11 ⊢
  go_loopw [4] (fun s0 wr => ∃ i : Int, s0 = .int .i64 i ∧ (0 ≤ i ∧ i ≤ 12) ∧ Hid (Pri.sieve m (Pri.bases.drop i.toNat) = Pri.sieve m Pri.bases) ∧ Qw w1 wr) (fun s0 _ => 12 - (RowKit.intOf s0).toNat)
  case atStart => exact ⟨0, rfl, by omega, hst, Qw.refl _⟩
  case round =>
    obtain ⟨i, rfl, hi, HI, n2, rfl⟩ := hrel
    clear hst
    have hi' : i = 0 ∨ i = 1 ∨ i = 2 ∨ i = 3 ∨ i = 4 ∨ i = 5 ∨ i = 6 ∨ i = 7 ∨ i = 8 ∨ i = 9 ∨ i = 10 ∨ i = 11 ∨ i = 12 := by omega
    clear hi
    rcases hi' with rfl | rfl | rfl | rfl | rfl | rfl | rfl | rfl | rfl | rfl | rfl | rfl | rfl
    · by_cases hp : m % 2 = 0
      · have HR : Hid (r = (m == 2)) := Lib.hid (by
          have h := HI.out
          rw [show Pri.bases.drop (Int.toNat 0) = 2 :: Pri.bases.drop (Int.toNat 1) from rfl] at h
          unfold Pri.sieve at h
          rw [if_pos hp] at h
          rw [← hr.out]; exact Pri.isP_some H2.out h.symm)
        have t1 : ((m : Int) % 2 == 0) = true := by simp; omega
        have tm : ((m : Int) == 2) = r := by rw [HR.out, Bool.eq_iff_iff]; simp; omega
        clear HI hp HR
        go_wp2
        go_ret
        exact ⟨rfl, below_drewN HBw.out _⟩
      · have HR : Hid (Pri.sieve m (Pri.bases.drop (Int.toNat 1)) = Pri.sieve m Pri.bases) := Lib.hid (by
          have h := HI.out
          rw [show Pri.bases.drop (Int.toNat 0) = 2 :: Pri.bases.drop (Int.toNat 1) from rfl] at h
          unfold Pri.sieve at h
          rw [if_neg hp] at h
          exact h)
        have t1 : ((m : Int) % 2 == 0) = false := by simp; omega
        clear HI hp
        go_wp2
        go_roundw
        case rel => exact ⟨1, rfl, by omega, HR, _, rfl⟩
        case measure => simp [RowKit.intOf]
    · by_cases hp : m % 3 = 0
      · have HR : Hid (r = (m == 3)) := Lib.hid (by
          have h := HI.out
          rw [show Pri.bases.drop (Int.toNat 1) = 3 :: Pri.bases.drop (Int.toNat 2) from rfl] at h
          unfold Pri.sieve at h
          rw [if_pos hp] at h
          rw [← hr.out]; exact Pri.isP_some H2.out h.symm)
        have t1 : ((m : Int) % 3 == 0) = true := by simp; omega
        have tm : ((m : Int) == 3) = r := by rw [HR.out, Bool.eq_iff_iff]; simp; omega
        clear HI hp HR
        go_wp2
        go_ret
        exact ⟨rfl, below_drewN HBw.out _⟩
      · have HR : Hid (Pri.sieve m (Pri.bases.drop (Int.toNat 2)) = Pri.sieve m Pri.bases) := Lib.hid (by
          have h := HI.out
          rw [show Pri.bases.drop (Int.toNat 1) = 3 :: Pri.bases.drop (Int.toNat 2) from rfl] at h
          unfold Pri.sieve at h
          rw [if_neg hp] at h
          exact h)
        have t1 : ((m : Int) % 3 == 0) = false := by simp; omega
        clear HI hp
        go_wp2
        go_roundw
        case rel => exact ⟨2, rfl, by omega, HR, _, rfl⟩
        case measure => simp [RowKit.intOf]
    · by_cases hp : m % 5 = 0
      · have HR : Hid (r = (m == 5)) := Lib.hid (by
          have h := HI.out
          rw [show Pri.bases.drop (Int.toNat 2) = 5 :: Pri.bases.drop (Int.toNat 3) from rfl] at h
          unfold Pri.sieve at h
          rw [if_pos hp] at h
          rw [← hr.out]; exact Pri.isP_some H2.out h.symm)
        have t1 : ((m : Int) % 5 == 0) = true := by simp; omega
        have tm : ((m : Int) == 5) = r := by rw [HR.out, Bool.eq_iff_iff]; simp; omega
        clear HI hp HR
        go_wp2
        go_ret
        exact ⟨rfl, below_drewN HBw.out _⟩
      · have HR : Hid (Pri.sieve m (Pri.bases.drop (Int.toNat 3)) = Pri.sieve m Pri.bases) := Lib.hid (by
          have h := HI.out
          rw [show Pri.bases.drop (Int.toNat 2) = 5 :: Pri.bases.drop (Int.toNat 3) from rfl] at h
          unfold Pri.sieve at h
          rw [if_neg hp] at h
          exact h)
        have t1 : ((m : Int) % 5 == 0) = false := by simp; omega
        clear HI hp
        go_wp2
        go_roundw
        case rel => exact ⟨3, rfl, by omega, HR, _, rfl⟩
        case measure => simp [RowKit.intOf]
    · by_cases hp : m % 7 = 0
      · have HR : Hid (r = (m == 7)) := Lib.hid (by
          have h := HI.out
          rw [show Pri.bases.drop (Int.toNat 3) = 7 :: Pri.bases.drop (Int.toNat 4) from rfl] at h
          unfold Pri.sieve at h
          rw [if_pos hp] at h
          rw [← hr.out]; exact Pri.isP_some H2.out h.symm)
        have t1 : ((m : Int) % 7 == 0) = true := by simp; omega
        have tm : ((m : Int) == 7) = r := by rw [HR.out, Bool.eq_iff_iff]; simp; omega
        clear HI hp HR
        go_wp2
        go_ret
        exact ⟨rfl, below_drewN HBw.out _⟩
      · have HR : Hid (Pri.sieve m (Pri.bases.drop (Int.toNat 4)) = Pri.sieve m Pri.bases) := Lib.hid (by
          have h := HI.out
          rw [show Pri.bases.drop (Int.toNat 3) = 7 :: Pri.bases.drop (Int.toNat 4) from rfl] at h
          unfold Pri.sieve at h
          rw [if_neg hp] at h
          exact h)
        have t1 : ((m : Int) % 7 == 0) = false := by simp; omega
        clear HI hp
        go_wp2
        go_roundw
        case rel => exact ⟨4, rfl, by omega, HR, _, rfl⟩
        case measure => simp [RowKit.intOf]
    · by_cases hp : m % 11 = 0
      · have HR : Hid (r = (m == 11)) := Lib.hid (by
          have h := HI.out
          rw [show Pri.bases.drop (Int.toNat 4) = 11 :: Pri.bases.drop (Int.toNat 5) from rfl] at h
          unfold Pri.sieve at h
          rw [if_pos hp] at h
          rw [← hr.out]; exact Pri.isP_some H2.out h.symm)
        have t1 : ((m : Int) % 11 == 0) = true := by simp; omega
        have tm : ((m : Int) == 11) = r := by rw [HR.out, Bool.eq_iff_iff]; simp; omega
        clear HI hp HR
        go_wp2
        go_ret
        exact ⟨rfl, below_drewN HBw.out _⟩
      · have HR : Hid (Pri.sieve m (Pri.bases.drop (Int.toNat 5)) = Pri.sieve m Pri.bases) := Lib.hid (by
          have h := HI.out
          rw [show Pri.bases.drop (Int.toNat 4) = 11 :: Pri.bases.drop (Int.toNat 5) from rfl] at h
          unfold Pri.sieve at h
          rw [if_neg hp] at h
          exact h)
        have t1 : ((m : Int) % 11 == 0) = false := by simp; omega
        clear HI hp
        go_wp2
        go_roundw
        case rel => exact ⟨5, rfl, by omega, HR, _, rfl⟩
        case measure => simp [RowKit.intOf]
    · by_cases hp : m % 13 = 0
      · have HR : Hid (r = (m == 13)) := Lib.hid (by
          have h := HI.out
          rw [show Pri.bases.drop (Int.toNat 5) = 13 :: Pri.bases.drop (Int.toNat 6) from rfl] at h
          unfold Pri.sieve at h
          rw [if_pos hp] at h
          rw [← hr.out]; exact Pri.isP_some H2.out h.symm)
        have t1 : ((m : Int) % 13 == 0) = true := by simp; omega
        have tm : ((m : Int) == 13) = r := by rw [HR.out, Bool.eq_iff_iff]; simp; omega
        clear HI hp HR
        go_wp2
        go_ret
        exact ⟨rfl, below_drewN HBw.out _⟩
      · have HR : Hid (Pri.sieve m (Pri.bases.drop (Int.toNat 6)) = Pri.sieve m Pri.bases) := Lib.hid (by
          have h := HI.out
          rw [show Pri.bases.drop (Int.toNat 5) = 13 :: Pri.bases.drop (Int.toNat 6) from rfl] at h
          unfold Pri.sieve at h
          rw [if_neg hp] at h
          exact h)
        have t1 : ((m : Int) % 13 == 0) = false := by simp; omega
        clear HI hp
        go_wp2
        go_roundw
        case rel => exact ⟨6, rfl, by omega, HR, _, rfl⟩
        case measure => simp [RowKit.intOf]
    · by_cases hp : m % 17 = 0
      · have HR : Hid (r = (m == 17)) := Lib.hid (by
          have h := HI.out
          rw [show Pri.bases.drop (Int.toNat 6) = 17 :: Pri.bases.drop (Int.toNat 7) from rfl] at h
          unfold Pri.sieve at h
          rw [if_pos hp] at h
          rw [← hr.out]; exact Pri.isP_some H2.out h.symm)
        have t1 : ((m : Int) % 17 == 0) = true := by simp; omega
        have tm : ((m : Int) == 17) = r := by rw [HR.out, Bool.eq_iff_iff]; simp; omega
        clear HI hp HR
        go_wp2
        go_ret
        exact ⟨rfl, below_drewN HBw.out _⟩
      · have HR : Hid (Pri.sieve m (Pri.bases.drop (Int.toNat 7)) = Pri.sieve m Pri.bases) := Lib.hid (by
          have h := HI.out
          rw [show Pri.bases.drop (Int.toNat 6) = 17 :: Pri.bases.drop (Int.toNat 7) from rfl] at h
          unfold Pri.sieve at h
          rw [if_neg hp] at h
          exact h)
        have t1 : ((m : Int) % 17 == 0) = false := by simp; omega
        clear HI hp
        go_wp2
        go_roundw
        case rel => exact ⟨7, rfl, by omega, HR, _, rfl⟩
        case measure => simp [RowKit.intOf]
    · by_cases hp : m % 19 = 0
      · have HR : Hid (r = (m == 19)) := Lib.hid (by
          have h := HI.out
          rw [show Pri.bases.drop (Int.toNat 7) = 19 :: Pri.bases.drop (Int.toNat 8) from rfl] at h
          unfold Pri.sieve at h
          rw [if_pos hp] at h
          rw [← hr.out]; exact Pri.isP_some H2.out h.symm)
        have t1 : ((m : Int) % 19 == 0) = true := by simp; omega
        have tm : ((m : Int) == 19) = r := by rw [HR.out, Bool.eq_iff_iff]; simp; omega
        clear HI hp HR
        go_wp2
        go_ret
        exact ⟨rfl, below_drewN HBw.out _⟩
      · have HR : Hid (Pri.sieve m (Pri.bases.drop (Int.toNat 8)) = Pri.sieve m Pri.bases) := Lib.hid (by
          have h := HI.out
          rw [show Pri.bases.drop (Int.toNat 7) = 19 :: Pri.bases.drop (Int.toNat 8) from rfl] at h
          unfold Pri.sieve at h
          rw [if_neg hp] at h
          exact h)
        have t1 : ((m : Int) % 19 == 0) = false := by simp; omega
        clear HI hp
        go_wp2
        go_roundw
        case rel => exact ⟨8, rfl, by omega, HR, _, rfl⟩
        case measure => simp [RowKit.intOf]
    · by_cases hp : m % 23 = 0
      · have HR : Hid (r = (m == 23)) := Lib.hid (by
          have h := HI.out
          rw [show Pri.bases.drop (Int.toNat 8) = 23 :: Pri.bases.drop (Int.toNat 9) from rfl] at h
          unfold Pri.sieve at h
          rw [if_pos hp] at h
          rw [← hr.out]; exact Pri.isP_some H2.out h.symm)
        have t1 : ((m : Int) % 23 == 0) = true := by simp; omega
        have tm : ((m : Int) == 23) = r := by rw [HR.out, Bool.eq_iff_iff]; simp; omega
        clear HI hp HR
        go_wp2
        go_ret
        exact ⟨rfl, below_drewN HBw.out _⟩
      · have HR : Hid (Pri.sieve m (Pri.bases.drop (Int.toNat 9)) = Pri.sieve m Pri.bases) := Lib.hid (by
          have h := HI.out
          rw [show Pri.bases.drop (Int.toNat 8) = 23 :: Pri.bases.drop (Int.toNat 9) from rfl] at h
          unfold Pri.sieve at h
          rw [if_neg hp] at h
          exact h)
        have t1 : ((m : Int) % 23 == 0) = false := by simp; omega
        clear HI hp
        go_wp2
        go_roundw
        case rel => exact ⟨9, rfl, by omega, HR, _, rfl⟩
        case measure => simp [RowKit.intOf]
    · by_cases hp : m % 29 = 0
      · have HR : Hid (r = (m == 29)) := Lib.hid (by
          have h := HI.out
          rw [show Pri.bases.drop (Int.toNat 9) = 29 :: Pri.bases.drop (Int.toNat 10) from rfl] at h
          unfold Pri.sieve at h
          rw [if_pos hp] at h
          rw [← hr.out]; exact Pri.isP_some H2.out h.symm)
        have t1 : ((m : Int) % 29 == 0) = true := by simp; omega
        have tm : ((m : Int) == 29) = r := by rw [HR.out, Bool.eq_iff_iff]; simp; omega
        clear HI hp HR
        go_wp2
        go_ret
        exact ⟨rfl, below_drewN HBw.out _⟩
      · have HR : Hid (Pri.sieve m (Pri.bases.drop (Int.toNat 10)) = Pri.sieve m Pri.bases) := Lib.hid (by
          have h := HI.out
          rw [show Pri.bases.drop (Int.toNat 9) = 29 :: Pri.bases.drop (Int.toNat 10) from rfl] at h
          unfold Pri.sieve at h
          rw [if_neg hp] at h
          exact h)
        have t1 : ((m : Int) % 29 == 0) = false := by simp; omega
        clear HI hp
        go_wp2
        go_roundw
        case rel => exact ⟨10, rfl, by omega, HR, _, rfl⟩
        case measure => simp [RowKit.intOf]
    · by_cases hp : m % 31 = 0
      · have HR : Hid (r = (m == 31)) := Lib.hid (by
          have h := HI.out
          rw [show Pri.bases.drop (Int.toNat 10) = 31 :: Pri.bases.drop (Int.toNat 11) from rfl] at h
          unfold Pri.sieve at h
          rw [if_pos hp] at h
          rw [← hr.out]; exact Pri.isP_some H2.out h.symm)
        have t1 : ((m : Int) % 31 == 0) = true := by simp; omega
        have tm : ((m : Int) == 31) = r := by rw [HR.out, Bool.eq_iff_iff]; simp; omega
        clear HI hp HR
        go_wp2
        go_ret
        exact ⟨rfl, below_drewN HBw.out _⟩
      · have HR : Hid (Pri.sieve m (Pri.bases.drop (Int.toNat 11)) = Pri.sieve m Pri.bases) := Lib.hid (by
          have h := HI.out
          rw [show Pri.bases.drop (Int.toNat 10) = 31 :: Pri.bases.drop (Int.toNat 11) from rfl] at h
          unfold Pri.sieve at h
          rw [if_neg hp] at h
          exact h)
        have t1 : ((m : Int) % 31 == 0) = false := by simp; omega
        clear HI hp
        go_wp2
        go_roundw
        case rel => exact ⟨11, rfl, by omega, HR, _, rfl⟩
        case measure => simp [RowKit.intOf]
    · by_cases hp : m % 37 = 0
      · have HR : Hid (r = (m == 37)) := Lib.hid (by
          have h := HI.out
          rw [show Pri.bases.drop (Int.toNat 11) = 37 :: Pri.bases.drop (Int.toNat 12) from rfl] at h
          unfold Pri.sieve at h
          rw [if_pos hp] at h
          rw [← hr.out]; exact Pri.isP_some H2.out h.symm)
        have t1 : ((m : Int) % 37 == 0) = true := by simp; omega
        have tm : ((m : Int) == 37) = r := by rw [HR.out, Bool.eq_iff_iff]; simp; omega
        clear HI hp HR
        go_wp2
        go_ret
        exact ⟨rfl, below_drewN HBw.out _⟩
      · have HR : Hid (Pri.sieve m (Pri.bases.drop (Int.toNat 12)) = Pri.sieve m Pri.bases) := Lib.hid (by
          have h := HI.out
          rw [show Pri.bases.drop (Int.toNat 11) = 37 :: Pri.bases.drop (Int.toNat 12) from rfl] at h
          unfold Pri.sieve at h
          rw [if_neg hp] at h
          exact h)
        have t1 : ((m : Int) % 37 == 0) = false := by simp; omega
        clear HI hp
        go_wp2
        go_roundw
        case rel => exact ⟨12, rfl, by omega, HR, _, rfl⟩
        case measure => simp [RowKit.intOf]
    · have hno : Pri.sieve m Pri.bases = none := HI.out.symm
      obtain ⟨hbig, hodd⟩ := Pri.sieve_big H2.out hno
      have hall := Pri.isP_none H2.out hno
      have hst : Pri.bases.all (Pri.strong m) = r := by rw [← hr.out, hall]
      have cc := fun w => large_c m (w := w) hbig hm hodd hno hst
      have CC := Lib.hid cc
      clear hno hall HI hbig hodd hst cc
      have hng : decide ((2305843009213693952 : Int) ≤ (m : Int)) = true := decide_eq_true hM
      go_wp2_with fail
      refine (CC.out _).mono ?_
      rintro e1 w9 ⟨rfl, hb9⟩
      have HZ : Hid (Below w.heap.size w w9) := Lib.hid ((below_drewN HBw.out n2).trans (hb9.mono (below_drewN HBw.out n2).size))
      clear CC hb9
      go_wp2
      go_ret
      exact ⟨rfl, HZ.out⟩
theorem rIs_all (n : Int) (w : World) {t : Bool} (hn : -9223372036854775808 ≤ n ∧ n ≤ 9223372036854775807) (ht : Pri.isP n.toNat = t) :
    Calls Tryd.prog 52 #[.int .i64 n] w fun e w' => e = .returned (.bool t) ∧ Below w.heap.size w w' := by
  subst ht
  by_cases h : n ≤ 2305843009213693951
  · exact rIs_c n w ⟨hn.1, h⟩
  · obtain ⟨m, rfl⟩ : ∃ m : Nat, n = (m : Int) := ⟨n.toNat, by omega⟩
    exact rIs_huge m _ w (by omega) (by omega) hn.2 rfl
set_option maxRecDepth 100000 in
set_option maxHeartbeats 1000000 in
theorem pt_a {D : Nat → Prop} (n : Int) {w : World}  (hl0 : Laid w) (hn : -9223372036854775808 ≤ n ∧ n ≤ 9223372036854775807) (h1 : n < 0) :
    Calls Tryd.prog 12 #[.int .i64 n] w fun e w' => e = .returned (.bool true) ∧ Below w.heap.size w w' := by
  have E0 := Lib.hid (Env.start D w)
  go_enter Tryd.func12, Tryd.ntmps12
  have hl := Lib.hid hl0
  clear hl0
  obtain ⟨b, hb0⟩ : ∃ b, Pri.isP (n).toNat = b := ⟨_, rfl⟩
  have HB := Lib.hid hb0
  clear hb0
  have d1 : decide (n < 0) = true := decide_eq_true h1
  go_wp2_with fail
  refine (awake05_c (hl.out.below E0.out.bel)).mono ?_
  rintro e w1 ⟨rfl, hb⟩
  have E1 := Lib.hid (E0.out.below hb)
  clear E0 hb
  go_wp2_with fail
  refine (Next_no (D := D) n (by omega)).mono ?_
  rintro e w2 ⟨rfl, hb⟩
  have E2 := Lib.hid (E1.out.below hb)
  clear E1 hb
  go_wp2_with fail
  refine (IsB n _ (hl.out.below E2.out.bel) (by omega) HB.out).mono ?_
  rintro e w3 ⟨rfl, hb⟩
  have E3 := Lib.hid (E2.out.below hb)
  clear E2 hb
  go_wp2_with fail
  refine (rIs_all n _ (by omega) HB.out).mono ?_
  rintro e w4 ⟨rfl, hb⟩
  have E4 := Lib.hid (E3.out.below hb)
  clear E3 hb
  have hfin := Lib.hid E4.out.bel
  go_wp2
  go_ret
  exact ⟨rfl, hfin.out⟩
set_option maxRecDepth 100000 in
set_option maxHeartbeats 1000000 in
theorem pt_b {D : Nat → Prop} (n : Int) {w : World}  (hl0 : Laid w) (hn : -9223372036854775808 ≤ n ∧ n ≤ 9223372036854775807) (h1 : 0 ≤ n) (h2 : 2305843009213693950 < n) :
    Calls Tryd.prog 12 #[.int .i64 n] w fun e w' => e = .returned (.bool true) ∧ Below w.heap.size w w' := by
  have E0 := Lib.hid (Env.start D w)
  go_enter Tryd.func12, Tryd.ntmps12
  have hl := Lib.hid hl0
  clear hl0
  obtain ⟨b, hb0⟩ : ∃ b, Pri.isP (n).toNat = b := ⟨_, rfl⟩
  have HB := Lib.hid hb0
  clear hb0
  have d1 : decide (n < 0) = false := decide_eq_false (by omega)
  have d2 : decide ((2305843009213693950 : Int) < n) = true := decide_eq_true h2
  go_wp2_with fail
  refine (awake05_c (hl.out.below E0.out.bel)).mono ?_
  rintro e w1 ⟨rfl, hb⟩
  have E1 := Lib.hid (E0.out.below hb)
  clear E0 hb
  go_wp2_with fail
  refine (Next_no (D := D) n (by omega)).mono ?_
  rintro e w2 ⟨rfl, hb⟩
  have E2 := Lib.hid (E1.out.below hb)
  clear E1 hb
  go_wp2_with fail
  refine (IsB n _ (hl.out.below E2.out.bel) (by omega) HB.out).mono ?_
  rintro e w3 ⟨rfl, hb⟩
  have E3 := Lib.hid (E2.out.below hb)
  clear E2 hb
  go_wp2_with fail
  refine (rIs_all n _ (by omega) HB.out).mono ?_
  rintro e w4 ⟨rfl, hb⟩
  have E4 := Lib.hid (E3.out.below hb)
  clear E3 hb
  have hfin := Lib.hid E4.out.bel
  go_wp2
  go_ret
  exact ⟨rfl, hfin.out⟩
set_option maxRecDepth 100000 in
set_option maxHeartbeats 1000000 in
theorem pt_c {D : Nat → Prop} (n : Int) {w : World}  (hl0 : Laid w) (hn : -9223372036854775808 ≤ n ∧ n ≤ 9223372036854775807) (h1 : 0 ≤ n) (h2 : n ≤ 2305843009213693950) (m : Nat) (hx0 : Pri.Nx n.toNat m) (hm9 : (m : Int) ≤ 2305843009213693951) :
    Calls Tryd.prog 12 #[.int .i64 n] w fun e w' => e = .returned (.bool true) ∧ Below w.heap.size w w' := by
  have E0 := Lib.hid (Env.start D w)
  go_enter Tryd.func12, Tryd.ntmps12
  have hl := Lib.hid hl0
  clear hl0
  have hx := Lib.hid hx0
  clear hx0
  obtain ⟨k, rfl⟩ : ∃ k : Nat, n = (k : Int) := ⟨n.toNat, by omega⟩
  rw [Int.toNat_natCast] at hx
  obtain ⟨b, hb0⟩ : ∃ b, Pri.isP ((k : Int)).toNat = b := ⟨_, rfl⟩
  have HB := Lib.hid hb0
  clear hb0
  have d1 : decide ((k : Int) < 0) = false := decide_eq_false (by omega)
  have d2 : decide ((2305843009213693950 : Int) < (k : Int)) = false := decide_eq_false (by omega)
  have d3 : decide (2305843009213693950 < k) = false := decide_eq_false (by omega)
  have hk9 := Lib.hid h2
  go_wp2_with fail
  refine (awake05_c (hl.out.below E0.out.bel)).mono ?_
  rintro e w1 ⟨rfl, hb⟩
  have E1 := Lib.hid (E0.out.below hb)
  clear E0 hb
  go_wp2_with fail
  refine (Next_c (D := D) k m (hl.out.below E1.out.bel) hk9.out hx.out hm9).mono ?_
  rintro e w2 ⟨rfl, hb⟩
  have E2 := Lib.hid (E1.out.below hb)
  clear E1 hb
  go_wp2_with fail
  refine (IsB (k : Int) _ (hl.out.below E2.out.bel) (by omega) HB.out).mono ?_
  rintro e w3 ⟨rfl, hb⟩
  have E3 := Lib.hid (E2.out.below hb)
  clear E2 hb
  go_wp2_with fail
  refine (rIs_all (k : Int) _ (by omega) HB.out).mono ?_
  rintro e w4 ⟨rfl, hb⟩
  have E4 := Lib.hid (E3.out.below hb)
  clear E3 hb
  go_wp2_with fail
  refine (rNext_c (D := D) k m hk9.out hx.out hm9).mono ?_
  rintro e w5 ⟨rfl, hb⟩
  have E5 := Lib.hid (E4.out.below hb)
  clear E4 hb
  have hfin := Lib.hid E5.out.bel
  go_wp2
  go_ret
  exact ⟨rfl, hfin.out⟩
theorem PrimeTests_walk (n : Int) {w : World} (hl : Laid w) (hn : -9223372036854775808 ≤ n ∧ n ≤ 9223372036854775807) :
    Calls Tryd.prog 12 #[.int .i64 n] w fun e w' => e = .returned (.bool true) ∧ Below w.heap.size w w' := by
  by_cases h1 : n < 0
  · exact pt_a (D := fun _ => True) n hl hn h1
  by_cases h2 : 2305843009213693950 < n
  · exact pt_b (D := fun _ => True) n hl hn (by omega) h2
  obtain ⟨m, hm, h9⟩ := Pri.Nx_ex (n := n.toNat) (by omega)
  exact pt_c (D := fun _ => True) n hl hn (by omega) (by omega) m hm (by omega)
end Go.Proofs.YtinlfogpbologaaDoor

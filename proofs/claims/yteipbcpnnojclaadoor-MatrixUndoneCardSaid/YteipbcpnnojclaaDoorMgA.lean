/- Merged: MatNl, MatA, MatE, MatF, MatG, MatH, MatI. -/
import Derived.Test.YteipbcpnnojclaaDoorPriE
import Derived.Test.YteipbcpnnojclaaDoorPLst
import Derived.Deep.DeepCutAuto
import Derived.Deep.CutBlock
/- Picked declarations. -/
namespace Go.Proofs.YteipbcpnnojclaaDoor
open Go.RowKit DivMath WordMath
set_option linter.unusedVariables false
set_option linter.unusedSimpArgs false
open Go.RowKit Go.Shelf DivMath WordMath
attribute [local go_sem] Oper.semAt_some
namespace Back
/-- the residues zs, from the last one on -/
def at_ {q : Nat} (hq : 0 < q) (zs : List (Fin q)) (j : Nat) : Nat × Fin q := (zs.length - 1 - j, zs[zs.length - 1 - j]?.getD ⟨0, hq⟩)
end Back
open Back
open Go.RowKit Go.Shelf DivMath WordMath Back
attribute [local go_sem] Oper.semAt_some
/-- residues, as ints -/
def nl (l : List Nat) : List Int := l.map (fun n : Nat => (n : Int))
theorem nl_len (l : List Nat) : (nl l).length = l.length := by simp [nl]
open Go.RowKit
open Go.RowKit Go.Shelf DivMath WordMath Back
attribute [local go_sem] Oper.semAt_some
open Go.RowKit DivMath WordMath
/-- a row of residues: its cells -/
def ncl (l : List Nat) : List Value := icl (nl l)
theorem ncl_len (l : List Nat) : (ncl l).length = l.length * 1 := by rw [ncl, icl_len, nl_len]
theorem ncl_get (l : List Nat) (i : Nat) (h : i < l.length) : (ncl l)[i]? = some (.int .i64 (l[i] : Nat)) := by
  rw [ncl, icl_get _ i (by rw [nl_len]; exact h)]; simp [nl]
theorem ncl_set (l : List Nat) (k v : Nat) : (ncl l).set k (.int .i64 (v : Nat)) = ncl (l.set k v) := by simp [ncl, nl, icl, List.map_set]
theorem ncl_rep (n : Nat) : icl (List.replicate n 0) = ncl (List.replicate n 0) := by simp [ncl, nl]
theorem ncl_one (l : List Nat) : ∀ u ∈ ncl l, u.oneCell' = true := icl_one _
/-- the cell of a residue of a row -/
theorem Env.elN {D0 : Nat → Prop} {w W : World} {F : List Bx} {G : List Fct} (h : Env D0 w F G W) (i : Nat) {b off n j : Nat} {l : List Nat} (e : G[i]? = some (.rw (.slice (some ⟨b, off, none⟩) n j) n 1 (ncl l))) (hn : n = l.length) (k : Nat) (hk : k < l.length) :
    Env D0 w F (.ce b (off + k) (.int .i64 (l[k] : Nat)) :: G) W := by
  have hm : Rw W (DF D0 w.heap.size F) (.slice (some ⟨b, off, none⟩) n j) n 1 (ncl l) := h.fct.get i e
  exact h.note _ (hm.el (by omega) (ncl_get l k hk))
/-- a row of residues came back -/
def RetI (D : Nat → Prop) (l : List Nat) (e : Ending) (W : World) : Prop := ∃ ao k, e = .returned (.slice ao l.length k) ∧ Hid (Rw W D (.slice ao l.length k) l.length 1 (ncl l))
/-- and an error number -/
def RetIE (D : Nat → Prop) (l : List Nat) (c : Int) (e : Ending) (W : World) : Prop := ∃ ao k, e = .returned (.tuple #[.slice ao l.length k, .int .i64 c]) ∧ Hid (Rw W D (.slice ao l.length k) l.length 1 (ncl l))
/-- a prime, as both texts test it, below 2^61 -/
def fieldB (q : Int) : Bool := decide (q < 2305843009213693952) && Pri.isP q.toNat
/-- a residue -/
def resB (q x : Int) : Bool := decide (0 ≤ x) && decide (x < q)
theorem fieldB_pos {q : Int} (h : fieldB q = true) : ∃ n : Nat, q = (n : Int) ∧ 2 ≤ n ∧ (n : Int) < Top := by
  unfold fieldB at h
  simp only [Bool.and_eq_true, decide_eq_true_eq] at h
  obtain ⟨h1, h2⟩ := h
  unfold Pri.isP at h2
  split at h2
  · cases h2
  · exact ⟨q.toNat, by omega, by omega, by unfold Top; omega⟩
theorem Fct.any {W : World} {D : Nat → Prop} {f : Fct} (h : Fct.at W D f) : Fct.at W (fun _ => True) f := Fct.turn h (Nat.le_refl _) (fun _ _ _ => trivial) (fun _ _ _ _ => rfl)
theorem RetEq {a b : Int} (h : a = b) : Ending.returned (.int .i64 a) = Ending.returned (.int .i64 b) := by rw [h]
theorem first_any {α : Type} (l : List α) (p : α → Bool) : ∃ r : Int, ((r = -1 ∧ ∀ k (h : k < l.length), p l[k] = false) ∨ ∃ k : Nat, r = (k : Int) ∧ ∃ h : k < l.length, p l[k] = true ∧ ∀ j (h : j < l.length), j < k → p l[j] = false) := by
  induction l with
  | nil => exact ⟨-1, .inl ⟨rfl, fun k h => absurd h (Nat.not_lt_zero _)⟩⟩
  | cons a l ih =>
    by_cases ha : p a = true
    · exact ⟨0, .inr ⟨0, rfl, Nat.zero_lt_succ _, ha, fun j _ h => absurd h (Nat.not_lt_zero _)⟩⟩
    · have ha' : p a = false := by simpa using ha
      obtain ⟨r, h | ⟨k, rfl, hk, h1, h2⟩⟩ := ih
      · refine ⟨-1, .inl ⟨rfl, fun k hk => ?_⟩⟩
        rcases k with _ | k
        · exact ha'
        · exact h.2 k (by simpa using hk)
      · refine ⟨((k + 1 : Nat) : Int), .inr ⟨k + 1, rfl, by simpa using hk, h1, fun j hj hjk => ?_⟩⟩
        rcases j with _ | j
        · exact ha'
        · exact h2 j (by simpa using hj) (by omega)
theorem first_dec {α : Type} {l : List α} {p : α → Bool} {r : Int} (h : (r = -1 ∧ ∀ k (h : k < l.length), p l[k] = false) ∨ ∃ k : Nat, r = (k : Int) ∧ ∃ h : k < l.length, p l[k] = true ∧ ∀ j (h : j < l.length), j < k → p l[j] = false) : decide (0 ≤ r) = l.any p := by
  rcases h with ⟨rfl, h⟩ | ⟨k, rfl, hk, h1, _⟩
  · symm
    show l.any p = false
    rw [List.any_eq_false]
    intro x hx
    obtain ⟨k, hk, rfl⟩ := List.getElem_of_mem hx
    rw [h k hk]; simp
  · have : l.any p = true := List.any_eq_true.2 ⟨l[k], List.getElem_mem hk, h1⟩
    rw [this]; exact decide_eq_true (by omega)
open Go.RowKit DivMath WordMath
open Go.RowKit DivMath WordMath
theorem RetI.mono {D D' : Nat → Prop} {l : List Nat} {e : Ending} {W : World} (h : RetI D l e W) (hD : ∀ b, D b → D' b) : RetI D' l e W := by
  obtain ⟨ao, k, h1, h2⟩ := h
  exact ⟨ao, k, h1, Lib.hid (h2.out.turn (Nat.le_refl _) (fun b _ hb => hD b hb) (fun _ _ _ _ => rfl))⟩
theorem Rw.ge {W : World} {D : Nat → Prop} {B n k : Nat} {v : Value} {cs : List Value} (h : Rw W (fun b => B ≤ b) v n k cs) : Rw W (fun b => D b ∨ B ≤ b) v n k cs := h.turn (Nat.le_refl _) (fun _ _ h => .inr h) (fun _ _ _ _ => rfl)
open Go.RowKit DivMath WordMath
theorem Rw.toNl {W : World} {D : Nat → Prop} {v : Value} {l : List Nat} (h : Rw W D v l.length 1 (ncl l)) : Rw W D v (nl l).length 1 (icl (nl l)) := by rw [nl_len]; exact h
theorem Rw.tr {W : World} {D : Nat → Prop} {v : Value} {n k : Nat} {cs : List Value} (h : Rw W D v n k cs) : Rw W (fun _ => True) v n k cs := h.turn (Nat.le_refl _) (fun _ _ _ => trivial) (fun _ _ _ _ => rfl)
theorem nl_all {q : Nat} {l : List Nat} (h : ∀ c ∈ l, c < q) : (nl l).all (resB (q : Int)) = true := by
  rw [List.all_eq_true]
  intro x hx
  obtain ⟨n, hn, rfl⟩ := List.mem_map.1 hx
  have := h n hn
  unfold resB
  simp; omega
open Go.RowKit DivMath WordMath
theorem ncl_app_get (o : List Nat) (rs : List Value) (i : Nat) (h : i < o.length) : (ncl o ++ rs)[i]? = some (.int .i64 (o[i] : Nat)) := by
  rw [List.getElem?_append_left (by rw [ncl_len]; omega)]; exact ncl_get o i h
theorem ncl_app_set (o : List Nat) (rs : List Value) (i v : Nat) (h : i < o.length) : (ncl o ++ rs).set i (.int .i64 (v : Nat)) = ncl (o.set i v) ++ rs := by
  rw [List.set_append_left _ _ (by rw [ncl_len]; omega), ncl_set]
/-- a box, for a callee that only reads -/
theorem Rw.boxN {W : World} {B g : Nat} {T : TypeId} {o : List Nat} {rs : List Value} {cap : Nat} (hB : Box B g T (ncl o ++ rs) W) (h1 : o.length ≤ cap) (h2 : cap ≤ 9223372036854775807) : Rw W (fun _ => True) (.slice (some ⟨g, 0, none⟩) o.length cap) o.length 1 (ncl o) :=
  ⟨some ⟨g, 0, none⟩, cap, rfl, h1, h2, ncl_len o, ncl_one o, fun _ => ⟨g, 0, rfl, ⟨hB.lt, trivial⟩, fun i u hu => by
    rw [Nat.zero_add]
    refine hB.cell i ?_
    have hi : i < (ncl o).length := (List.getElem?_eq_some_iff.1 hu).1
    rw [List.getElem?_append_left hi]; exact hu⟩⟩
open Go.RowKit DivMath WordMath
theorem Rw.boxP {W : World} {B g : Nat} {T : TypeId} {o : List Nat} {cap : Nat} (hB : Box B g T (ncl o) W) (h1 : o.length ≤ cap) (h2 : cap ≤ 9223372036854775807) : Rw W (fun _ => True) (.slice (some ⟨g, 0, none⟩) o.length cap) o.length 1 (ncl o) :=
  Rw.boxN (rs := []) (by rw [List.append_nil]; exact hB) h1 h2
theorem wrapI_add (a b : Nat) (h : a + b ≤ 9223372036854775807) : IntKind.i64.wrap ((a : Int) + (b : Int)) = ((a + b : Nat) : Int) := by rw [IntKind.wrap_i64]; omega
theorem wrap64_add (a b : Nat) (h : a + b ≤ 9223372036854775807) : wrap64 ((a : Int) + (b : Int)) = ((a + b : Nat) : Int) := by rw [IntWalk.wrap64_in _ (by omega)]; rfl
open Go.RowKit DivMath WordMath
open Go.RowKit DivMath WordMath
/-- a list of the call's own, as a caller reads it -/
theorem OI.rwN {sg : List Bx} {cs : List Value} {v : Value} {o : List Nat} {D0 : Nat → Prop} {w W : World} {F : List Bx} {G : List Fct} (h : OI sg cs v (nl o)) (E : Env D0 w F G W) (hs : ∀ p ∈ sg, p ∈ F) : Rw W (fun b => w.heap.size ≤ b) v o.length 1 (ncl o) := by
  obtain ⟨h, ht⟩ := h
  rw [nl_len] at h ht
  rcases h with ⟨rfl, rfl, rfl, h0⟩ | ⟨g, cap, rfl, rfl, h1, h2, h3⟩
  · have : o = [] := List.length_eq_zero_iff.1 h0
    subst this; exact Rw.nil _ _ _
  · have hB := (held_iff.1 E.box).1 (g, 3, cs) (hs _ (by simp))
    refine ⟨_, cap, rfl, h1, h2, ncl_len o, ncl_one o, fun _ => ⟨g, 0, rfl, ⟨hB.lt, hB.1⟩, fun i u hu => ?_⟩⟩
    rw [Nat.zero_add]
    rw [show ncl o = cs.take o.length from ht.symm, List.getElem?_take] at hu
    split at hu
    · exact hB.cell _ hu
    · cases hu
theorem OI.nlnil : OI [] [] (.slice none (nl []).length 0) (nl []) := OI.nil
open Go.RowKit DivMath WordMath
theorem refMulB (a b q : Nat) (w : World) (ha : (a : Int) < (q : Int)) (hb : (b : Int) < (q : Int)) (hm : (q : Int) < Top) :
    Calls Tryd.prog 66 #[.int .i64 a, .int .i64 b, .int .i64 q] w fun e w' => RetN (fun r => r = a * b % q) e ∧ Below w.heap.size w w' :=
  (refMul_c a b q w (by unfold Top at hm; omega) (by unfold Top at hm; omega) (by omega) hm).mono fun e w' ⟨h1, h2⟩ => ⟨h1, h2.below⟩
open Go.RowKit DivMath WordMath
open Go.RowKit DivMath WordMath
open Go.RowKit DivMath WordMath
theorem nl_inj {a b : List Nat} (h : nl a = nl b) : a = b := by
  unfold nl at h
  exact List.map_inj_right (fun _ _ e => by exact_mod_cast e) |>.1 h
/-- slices.Equal of two rows of residues -/
theorem equalN_c {D : Nat → Prop} {a b : List Nat} {xa ya : Option Addr} {xk yk : Nat} {w : World} (hx : Fct.at w D (.rw (.slice xa a.length xk) a.length 1 (ncl a))) (hy : Fct.at w D (.rw (.slice ya b.length yk) b.length 1 (ncl b))) (hla : a.length ≤ 1000000) (hlb : b.length ≤ 1000000) {t : Bool} (ht : (a == b) = t) :
    Calls Tryd.prog 19 #[.slice xa a.length xk, .slice ya b.length yk] w fun e w' => e = .returned (.bool t) ∧ Below w.heap.size w w' := by
  subst ht
  by_cases hne : a.length = b.length
  · by_cases h0 : a.length = 0
    · have hb0 : b.length = 0 := by omega
      have e : (a == b) = true := by rw [List.length_eq_zero_iff.1 h0, List.length_eq_zero_iff.1 hb0]; rfl
      rw [e, h0, hb0]
      exact (Tryd.slices_Equal_int_empty xa ya xk 0 yk w (by omega)).mono fun e w' ⟨h1, h2⟩ => ⟨h1, by rw [h2]; exact Below.refl _ _⟩
    · obtain ⟨b1, o1, rfl⟩ := Rw.addr hx h0
      obtain ⟨b2, o2, rfl⟩ := Rw.addr hy (by omega)
      refine (Tryd.slices_Equal_int b1 o1 a.length xk b2 o2 b.length yk (nl a) (nl b) w (by rw [nl_len]; omega) (by rw [nl_len]; omega) (by omega) (by omega) (fun j hj => ?_) (fun j hj => ?_)).mono fun e w' ⟨h1, q, h2⟩ => ⟨?_, by rw [h2]; exact below_drewN (Below.refl _ _) q⟩
      · rw [nl_len] at hj; rw [(Rw.el hx h0 (ncl_get a j hj)).2]; simp [nl, List.getElem?_eq_getElem hj]
      · rw [nl_len] at hj; rw [(Rw.el hy (by omega) (ncl_get b j hj)).2]; simp [nl, List.getElem?_eq_getElem hj]
      · have e1 : (nl a).take a.length = nl a := List.take_of_length_le (by rw [nl_len]; omega)
        have e2 : (nl b).take b.length = nl b := List.take_of_length_le (by rw [nl_len]; omega)
        rw [e1, e2] at h1
        rw [h1]
        congr 2
        rw [Bool.eq_iff_iff, beq_iff_eq, beq_iff_eq]
        exact ⟨nl_inj, fun h => by rw [h]⟩
  · have e : (a == b) = false := by rw [beq_eq_false_iff_ne]; intro h; exact hne (by rw [h])
    rw [e]
    exact (Tryd.slices_Equal_int_lens xa ya _ xk _ yk w hne).mono fun e w' ⟨h1, h2⟩ => ⟨h1, by rw [h2]; exact Below.refl _ _⟩
open Go.RowKit DivMath WordMath
theorem containsN_c {D : Nat → Prop} {l : List Nat} {x : Nat} {xa : Option Addr} {xk : Nat} {w : World} (hx : Fct.at w D (.rw (.slice xa l.length xk) l.length 1 (ncl l))) (hl : l.length ≤ 1000000) {t : Bool} (ht : l.contains x = t) :
    Calls Tryd.prog 23 #[.slice xa l.length xk, .int .i64 (x : Nat)] w fun e w' => e = .returned (.bool t) ∧ Below w.heap.size w w' := by
  subst ht
  by_cases h0 : l.length = 0
  · rw [List.length_eq_zero_iff.1 h0]
    exact (Tryd.slices_Contains_int_empty xa xk x w).mono fun e w' ⟨h1, h2⟩ => ⟨h1, by rw [h2]; exact Below.refl _ _⟩
  · obtain ⟨b1, o1, rfl⟩ := Rw.addr hx h0
    refine (Tryd.slices_Contains_int b1 o1 l.length xk (nl l) x w (by rw [nl_len]; omega) (by omega) (fun j hj => ?_)).mono fun e w' ⟨h1, h2⟩ => ⟨?_, by rw [h2]; exact Below.refl _ _⟩
    · rw [nl_len] at hj; rw [(Rw.el hx h0 (ncl_get l j hj)).2]; simp [nl, List.getElem?_eq_getElem hj]
    · have e1 : (nl l).take l.length = nl l := List.take_of_length_le (by rw [nl_len]; omega)
      rw [e1] at h1
      rw [h1]
      congr 2
      rw [Bool.eq_iff_iff, List.contains_iff_mem, List.contains_iff_mem]
      unfold nl
      rw [List.mem_map]
      exact ⟨fun ⟨n, hn, e⟩ => by (have : n = x := by exact_mod_cast e); subst this; exact hn, fun h => ⟨x, h, rfl⟩⟩
open Go.RowKit DivMath WordMath
theorem getD_elem {l : List Nat} {i : Nat} (h : i < l.length) : l.getD i 0 = l[i] := by rw [List.getD_eq_getElem?_getD, List.getElem?_eq_getElem h]; rfl
open Go.RowKit DivMath WordMath
theorem Env.freezeN {D0 : Nat → Prop} {w W : World} {F : List Bx} {G : List Fct} {g : Nat} {T : TypeId} (l : List Nat) (E : Env D0 w ((g, T, ncl l) :: F) G W) (hn : l.length ≤ 1000000) : Env D0 w F (.rw (.slice (some ⟨g, 0, none⟩) l.length l.length) l.length 1 (ncl l) :: G) W := by
  have hB := E.box.1
  refine E.drop.note _ ⟨some ⟨g, 0, none⟩, l.length, rfl, Nat.le_refl _, by omega, ncl_len l, ncl_one l, fun _ => ⟨g, 0, rfl, ⟨hB.lt, fun p hp => E.box.2.1 p hp, .inr hB.1⟩, fun i u hu => ?_⟩⟩
  rw [Nat.zero_add]; exact hB.cell i hu
open Go.RowKit DivMath WordMath
open Go.RowKit DivMath WordMath
open Go.RowKit DivMath WordMath
open Go.RowKit DivMath WordMath
namespace Pv
end Pv
open Pv in
open Pv in
open Go.RowKit DivMath WordMath
end Go.Proofs.YteipbcpnnojclaaDoor

/- matrix: add, mul, minus, dot, scalars. -/
namespace Go.Proofs.YteipbcpnnojclaaDoor
open Go.RowKit DivMath WordMath
set_option linter.unusedVariables false
set_option linter.unusedSimpArgs false
set_option maxHeartbeats 400000 in
theorem matmul_c (q a b : Nat) (w : World) (ha : (a : Int) < (q : Int)) (hb : (b : Int) < (q : Int)) (hm : (q : Int) < Top) :
    Calls Tryd.prog 120 #[.int .i64 q, .int .i64 a, .int .i64 b] w fun e w' => RetN (fun r => r = a * b % q) e ∧ Below w.heap.size w w' := by
  go_enter Tryd.func120, Tryd.ntmps120
  go_wp2_with (first | (go_at_call 24; refine (Mul_ok _ _ _ _ ha hb hm).mono ?_; rintro e w' ⟨⟨r, hr, rfl⟩, n, rfl⟩))
  go_ret
  exact ⟨⟨r, hr, rfl⟩, below_drewN (Below.refl _ _) _⟩
set_option maxHeartbeats 400000 in
theorem matadd_c (q a b : Nat) (w : World) (ha : (a : Int) < (q : Int)) (hb : (b : Int) < (q : Int)) (hm : (q : Int) < Top) :
    Calls Tryd.prog 119 #[.int .i64 q, .int .i64 a, .int .i64 b] w fun e w' => RetN (fun r => r = (a + b) % q) e ∧ Below w.heap.size w w' := by
  go_enter Tryd.func119, Tryd.ntmps119
  go_wp2_with (first | (go_at_call 25; refine (Add_ok _ _ _ _ ha hb hm).mono ?_; rintro e w' ⟨⟨r, hr, rfl⟩, n, rfl⟩))
  go_ret
  exact ⟨⟨r, hr, rfl⟩, below_drewN (Below.refl _ _) _⟩
set_option maxHeartbeats 400000 in
theorem matminus_c (q a : Nat) (w : World) (ha : (a : Int) < (q : Int)) (hm : (q : Int) < Top) :
    Calls Tryd.prog 83 #[.int .i64 q, .int .i64 a] w fun e w' => RetN (fun r => r = (q - a) % q) e ∧ Below w.heap.size w w' := by
  have h0 : ((0 : Nat) : Int) < (q : Int) := by omega
  go_enter Tryd.func83, Tryd.ntmps83
  go_wp2_with (first | (go_at_call 121; refine (Sub_ok 0 _ _ _ h0 ha hm).mono ?_; rintro e w' ⟨⟨r, hr, rfl⟩, n, rfl⟩))
  go_ret
  exact ⟨⟨r, Lib.hid (by rw [hr.out, Nat.zero_add]), rfl⟩, below_drewN (Below.refl _ _) _⟩
/-- the product of two rows -/
def dotN (q : Nat) (a b : List Nat) : Nat → Nat
  | 0 => 0
  | k + 1 => (dotN q a b k + a.getD k 0 * b.getD k 0 % q) % q
theorem dotN_lt {q : Nat} (hq : 0 < q) (a b : List Nat) : ∀ k, dotN q a b k < q
  | 0 => hq
  | k + 1 => Nat.mod_lt _ hq
set_option maxRecDepth 100000 in
set_option maxHeartbeats 2000000 in
theorem matdot_c {D : Nat → Prop} (q : Nat) (a b : List Nat) {xa ya : Option Addr} {xk yk : Nat} {w : World} (hx : Fct.at w D (.rw (.slice xa a.length xk) a.length 1 (ncl a))) (hy : Fct.at w D (.rw (.slice ya b.length yk) b.length 1 (ncl b))) (hq : 0 < q) (hqT : (q : Int) < Top) (ha0 : ∀ c ∈ a, c < q) (hb0 : ∀ c ∈ b, c < q) (hab : a.length ≤ b.length) (hlen : a.length ≤ 1000) :
    Calls Tryd.prog 81 #[.int .i64 (q : Nat), .slice xa a.length xk, .slice ya b.length yk] w fun e w' => e = .returned (.int .i64 (dotN q a b a.length : Nat)) ∧ Below w.heap.size w w' := by
  have E0 : Hid (Env D w [] [.rw (.slice ya b.length yk) b.length 1 (ncl b), .rw (.slice xa a.length xk) a.length 1 (ncl a)] w) := Lib.hid (((Env.start D w).arg (.rw (.slice xa a.length xk) a.length 1 (ncl a)) hx).arg (.rw (.slice ya b.length yk) b.length 1 (ncl b)) hy)
  clear hx hy
  go_enter Tryd.func81, Tryd.ntmps81
  have ha := Lib.hid ha0
  have hb := Lib.hid hb0
  clear ha0 hb0
  have HT := Lib.hid hqT
  clear hqT
  have HQ := Lib.hid hq
  have HAB := Lib.hid hab
  clear hab
  go_wp2_with fail
  go_loopg [12, 7] (a.length) (fun gk s12 s7 wr => ∃ (k s : Nat), s12 = .int .i64 (k : Int) ∧ s7 = .int .i64 (s : Int) ∧ Hid (Env D w [] [.rw (.slice ya b.length yk) b.length 1 (ncl b), .rw (.slice xa a.length xk) a.length 1 (ncl a)] wr) ∧ Hid ((k ≤ a.length ∧ gk = a.length - k) ∧ s = dotN q a b k))
  case atStart => exact ⟨0, 0, rfl, rfl, Lib.hid E0.out, Lib.hid ⟨⟨Nat.zero_le _, rfl⟩, rfl⟩⟩
  case round =>
    clear E0
    obtain ⟨k, s, rfl, rfl, EL, HA⟩ := hrel
    obtain ⟨⟨a1, a2⟩, a3⟩ := HA.out
    have HS := Lib.hid a3
    clear a3 HA
    by_cases hy : k = a.length
    rotate_left
    · have hk : k < a.length := by omega
      have t6 : decide ((k : Int) < (a.length : Int)) = true := decide_eq_true (by omega)
      have t7 : decide (k < a.length) = true := decide_eq_true hk
      clear hy
      have hk9 : (k : Int) ≤ 999 := by omega
      have hkb : k < b.length := by have := HAB.out; omega
      have d1 : ((k : Int) < (b.length : Int)) := by omega
      have hsq : (s : Int) < (q : Int) := by rw [HS.out]; exact Int.ofNat_lt.2 (dotN_lt HQ.out _ _ _)
      have hxq : ((a[k] : Nat) : Int) < (q : Int) := Int.ofNat_lt.2 (ha.out _ (List.getElem_mem hk))
      have hyq : ((b[k] : Nat) : Int) < (q : Int) := Int.ofNat_lt.2 (hb.out _ (List.getElem_mem hkb))
      obtain ⟨xab, xao, rfl⟩ := Rw.addr (EL.out.fc 1 rfl) (by omega)
      have E1 : Hid (Env D w [] [.ce xab (xao + k) (.int .i64 (a[k] : Nat)), .rw (.slice ya b.length yk) b.length 1 (ncl b), .rw (.slice (some ⟨xab, xao, none⟩) a.length xk) a.length 1 (ncl a)] _) := Lib.hid (EL.out.elN 1 rfl rfl (k) hk)
      clear EL
      have p0 := (E1.out.fc 0 rfl).2
      obtain ⟨yab, yao, rfl⟩ := Rw.addr (E1.out.fc 1 rfl) (by omega)
      have E2 : Hid (Env D w [] [.ce yab (yao + k) (.int .i64 (b[k] : Nat)), .ce xab (xao + k) (.int .i64 (a[k] : Nat)), .rw (.slice (some ⟨yab, yao, none⟩) b.length yk) b.length 1 (ncl b), .rw (.slice (some ⟨xab, xao, none⟩) a.length xk) a.length 1 (ncl a)] _) := Lib.hid (E1.out.elN 1 rfl rfl (k) hkb)
      clear E1
      have o0 := (E2.out.fc 0 rfl).2
      go_wp2_with fail
      refine (matmul_c q a[k] b[k] _ hxq hyq HT.out).mono ?_
      rintro e w1 ⟨⟨m1, m1h, rfl⟩, hb⟩
      have E3 : Hid (Env D w [] [.ce yab (yao + k) (.int .i64 (b[k] : Nat)), .ce xab (xao + k) (.int .i64 (a[k] : Nat)), .rw (.slice (some ⟨yab, yao, none⟩) b.length yk) b.length 1 (ncl b), .rw (.slice (some ⟨xab, xao, none⟩) a.length xk) a.length 1 (ncl a)] w1) := Lib.hid (E2.out.below hb)
      clear p0 o0 E2 hb
      have m1q : (m1 : Int) < (q : Int) := by rw [m1h.out]; exact Int.ofNat_lt.2 (Nat.mod_lt _ HQ.out)
      go_wp2_with fail
      refine (matadd_c q s m1 _ hsq m1q HT.out).mono ?_
      rintro e w2 ⟨⟨m2, m2h, rfl⟩, hb⟩
      have E4 : Hid (Env D w [] [.ce yab (yao + k) (.int .i64 (b[k] : Nat)), .ce xab (xao + k) (.int .i64 (a[k] : Nat)), .rw (.slice (some ⟨yab, yao, none⟩) b.length yk) b.length 1 (ncl b), .rw (.slice (some ⟨xab, xao, none⟩) a.length xk) a.length 1 (ncl a)] w2) := Lib.hid (E3.out.below hb)
      clear E3 hb
      have HD : Hid (m2 = dotN q a b (k + 1)) := Lib.hid (by rw [m2h.out, m1h.out, HS.out]; show _ = (dotN q a b k + a.getD k 0 * b.getD k 0 % q) % q; rw [getD_elem hk, getD_elem hkb])
      have EZ := Lib.hid ((E4.out.forget).forget)
      go_wp2
      go_roundg (a.length - (k + 1))
      case rel => exact ⟨k + 1, m2, rfl, rfl, EZ, Lib.hid ⟨⟨by omega, rfl⟩, HD.out⟩⟩
      case measure => exact by omega
    have t6 : decide ((k : Int) < (a.length : Int)) = false := decide_eq_false (by omega)
    have t7 : decide (k < a.length) = false := decide_eq_false (by omega)
    obtain rfl : s = dotN q a b a.length := by rw [HS.out, hy]
    have HY := Lib.hid hy
    clear hy
    have hfin := Lib.hid EL.out.bel
    go_wp2
    go_ret
    exact ⟨rfl, hfin.out⟩
set_option maxHeartbeats 1000000 in
theorem mres1_c (q x : Int) (g : Nat) (w : World) (hg : w.cell? ⟨g, 0, none⟩ = some (.int .i64 q)) {t : Bool} (ht : (!resB q x) = t) :
    Calls Tryd.prog 118 #[.int .i64 x, .pointer (some ⟨g, 0, none⟩)] w fun e w' => e = .returned (.bool t) ∧ Below w.heap.size w w' := by
  unfold resB at ht
  by_cases h : x < 0
  · have d1 : decide (x < 0) = true := decide_eq_true h
    have : t = true := by rw [← ht]; simp; omega
    subst this
    clear ht
    go_enter Tryd.func118, Tryd.ntmps118
    go_wp2
    go_ret
    exact ⟨rfl, Below.refl _ _⟩
  · have d1 : decide (x < 0) = false := decide_eq_false h
    have d2 : decide (q ≤ x) = t := by rw [← ht, Bool.eq_iff_iff]; simp; omega
    clear ht
    go_enter Tryd.func118, Tryd.ntmps118
    go_wp2
    go_ret
    exact ⟨rfl, Below.refl _ _⟩
set_option maxRecDepth 100000 in
set_option maxHeartbeats 1000000 in
theorem mresI {D : Nat → Prop} (l : List Int) (q : Int) (g : Nat) {xa : Option Addr} {xk : Nat} {w : World} (hx : Fct.at w D (.rw (.slice xa l.length xk) l.length 1 (icl l))) (hg : Fct.at w D (.ce g 0 (.int .i64 q)))  {r : Int} (hr0 : (r = -1 ∧ ∀ k (h : k < l.length), (!resB q l[k]) = false) ∨ ∃ k : Nat, r = (k : Int) ∧ ∃ h : k < l.length, (!resB q l[k]) = true ∧ ∀ j (h : j < l.length), j < k → (!resB q l[j]) = false) (hm : l.length ≤ 1000000) :
    Calls Tryd.prog 148 #[.slice xa l.length xk, .func (.func 118) #[] #[.pointer (some ⟨g, 0, none⟩)]] w fun e w' => e = .returned (.int .i64 r) ∧ Below w.heap.size w w' := by
  have E0 : Hid (Env D w [] [.ce g 0 (.int .i64 q), .rw (.slice xa l.length xk) l.length 1 (icl l)] w) := Lib.hid (((Env.start D w).arg (.rw (.slice xa l.length xk) l.length 1 (icl l)) hx).arg (.ce g 0 (.int .i64 q)) hg)
  clear hx hg
  go_enter Tryd.func148, Tryd.ntmps148
  have hr := Lib.hid hr0
  clear hr0
  go_wp2_with fail
  go_loopg [8] (l.length) (fun gk s8 wr => ∃ (k : Nat), s8 = .int .i64 (k : Int) ∧ Hid (Env D w [] [.ce g 0 (.int .i64 q), .rw (.slice xa l.length xk) l.length 1 (icl l)] wr) ∧ Hid ((k ≤ l.length ∧ gk = l.length - k) ∧ ∀ j (h : j < l.length), j < k → (!resB q l[j]) = false))
  case atStart => exact ⟨0, rfl, Lib.hid E0.out, Lib.hid ⟨⟨Nat.zero_le _, rfl⟩, fun j _ h => absurd h (Nat.not_lt_zero _)⟩⟩
  case round =>
    clear E0
    obtain ⟨k, rfl, EL, HA⟩ := hrel
    obtain ⟨⟨a1, a2⟩, a3⟩ := HA.out
    have HS := Lib.hid a3
    clear a3 HA
    by_cases hy : k = l.length
    rotate_left
    · have hk : k < l.length := by omega
      have t6 : decide ((k : Int) < (l.length : Int)) = true := decide_eq_true (by omega)
      have t7 : decide (k < l.length) = true := decide_eq_true hk
      clear hy
      obtain ⟨xab, xao, rfl⟩ := Rw.addr (EL.out.fc 1 rfl) (by omega)
      have E1 : Hid (Env D w [] [.ce xab (xao + k) (.int .i64 l[k]), .ce g 0 (.int .i64 q), .rw (.slice (some ⟨xab, xao, none⟩) l.length xk) l.length 1 (icl l)] _) := Lib.hid (EL.out.elI 1 rfl rfl (k) hk)
      clear EL
      have u0 := (E1.out.fc 0 rfl).2
      by_cases hb : (!resB q l[k]) = true
      · have HB := Lib.hid hb
        have HR : Hid (r = (k : Int)) := Lib.hid (by rcases hr.out with ⟨_, h9⟩ | ⟨j, rfl, hj, h8, h7⟩; (· have := h9 k hk; rw [hb] at this; cases this); rcases Nat.lt_trichotomy j k with e | e | e; (· have := HS.out j hj e; rw [h8] at this; cases this); (· rw [e]); (· have := h7 k hk e; rw [hb] at this; cases this))
        clear hb
        go_wp2_with fail
        refine (mres1_c q l[k] g _ ((E1.out.fc 1 rfl)).2 HB.out).mono ?_
        rintro e w1 ⟨rfl, hb⟩
        have E2 : Hid (Env D w [] [.ce xab (xao + k) (.int .i64 l[k]), .ce g 0 (.int .i64 q), .rw (.slice (some ⟨xab, xao, none⟩) l.length xk) l.length 1 (icl l)] w1) := Lib.hid (E1.out.below hb)
        clear u0 E1 hb
        have hfin := Lib.hid E2.out.bel
        go_wp2
        go_ret
        exact ⟨RetEq HR.out.symm, hfin.out⟩
      · have HB := Lib.hid (Bool.eq_false_iff.2 hb)
        clear hb
        go_wp2_with fail
        refine (mres1_c q l[k] g _ ((E1.out.fc 1 rfl)).2 HB.out).mono ?_
        rintro e w1 ⟨rfl, hb⟩
        have E2 : Hid (Env D w [] [.ce xab (xao + k) (.int .i64 l[k]), .ce g 0 (.int .i64 q), .rw (.slice (some ⟨xab, xao, none⟩) l.length xk) l.length 1 (icl l)] w1) := Lib.hid (E1.out.below hb)
        clear u0 E1 hb
        have EZ := Lib.hid (E2.out.forget)
        go_wp2
        go_roundg (l.length - (k + 1))
        case rel => exact ⟨k + 1, rfl, EZ, Lib.hid ⟨⟨by omega, rfl⟩, fun j h hj => by by_cases e : j = k; (· subst e; exact HB.out); exact HS.out j h (by omega)⟩⟩
        case measure => exact by omega
    have t6 : decide ((k : Int) < (l.length : Int)) = false := decide_eq_false (by omega)
    have t7 : decide (k < l.length) = false := decide_eq_false (by omega)
    have HR : Hid (r = -1) := Lib.hid (by rcases hr.out with ⟨h9, _⟩ | ⟨j, rfl, hj, h8, h7⟩; (· exact h9); have := HS.out j hj (by omega); rw [h8] at this; cases this)
    have HY := Lib.hid hy
    clear hy
    have hfin := Lib.hid EL.out.bel
    go_wp2
    go_ret
    exact ⟨RetEq HR.out.symm, hfin.out⟩
set_option maxRecDepth 100000 in
set_option maxHeartbeats 1000000 in
theorem mresC {D : Nat → Prop} (l : List Int) (q : Int) (g : Nat) {xa : Option Addr} {xk : Nat} {w : World} (hx : Fct.at w D (.rw (.slice xa l.length xk) l.length 1 (icl l))) (hg : Fct.at w D (.ce g 0 (.int .i64 q)))  {t : Bool} (ht0 : l.any (fun x => (!resB q x)) = t) (hm : l.length ≤ 1000000) :
    Calls Tryd.prog 111 #[.slice xa l.length xk, .func (.func 118) #[] #[.pointer (some ⟨g, 0, none⟩)]] w fun e w' => e = .returned (.bool t) ∧ Below w.heap.size w w' := by
  have E0 : Hid (Env D w [] [.ce g 0 (.int .i64 q), .rw (.slice xa l.length xk) l.length 1 (icl l)] w) := Lib.hid (((Env.start D w).arg (.rw (.slice xa l.length xk) l.length 1 (icl l)) hx).arg (.ce g 0 (.int .i64 q)) hg)
  clear hx hg
  go_enter Tryd.func111, Tryd.ntmps111
  have ht := Lib.hid ht0
  clear ht0
  obtain ⟨r, hr⟩ : ∃ r : Int, ((r = -1 ∧ ∀ k (h : k < l.length), (!resB q l[k]) = false) ∨ ∃ k : Nat, r = (k : Int) ∧ ∃ h : k < l.length, (!resB q l[k]) = true ∧ ∀ j (h : j < l.length), j < k → (!resB q l[j]) = false) := first_any l (fun x => (!resB q x))
  have hd : Hid (decide (0 ≤ r) = t) := Lib.hid (by rw [← ht.out]; exact first_dec hr)
  have HR := Lib.hid hr
  clear hr ht
  go_wp2_with fail
  refine (mresI l q g (E0.out.fc 1 rfl) (E0.out.fc 0 rfl) (hr0 := HR.out) (hm := hm)).mono ?_
  rintro e w1 ⟨rfl, hb⟩
  have E1 : Hid (Env D w [] [.ce g 0 (.int .i64 q), .rw (.slice xa l.length xk) l.length 1 (icl l)] w1) := Lib.hid (E0.out.below hb)
  clear E0 hb
  have HD := hd.out
  have hfin := Lib.hid E1.out.bel
  go_wp2
  go_ret
  exact ⟨rfl, hfin.out⟩
set_option maxRecDepth 100000 in
set_option maxHeartbeats 1000000 in
theorem scalars_c {D : Nat → Prop} (q : Int) (l : List Int) {xa : Option Addr} {xk : Nat} {w : World} (hx : Fct.at w D (.rw (.slice xa l.length xk) l.length 1 (icl l))) {t : Bool} (ht0 : l.all (resB q) = t) (hm : l.length ≤ 1000000) :
    Calls Tryd.prog 80 #[.int .i64 q, .slice xa l.length xk] w fun e w' => e = .returned (.bool t) ∧ Below w.heap.size w w' := by
  have E0 : Hid (Env D w [] [.rw (.slice xa l.length xk) l.length 1 (icl l)] w) := Lib.hid ((Env.start D w).arg (.rw (.slice xa l.length xk) l.length 1 (icl l)) hx)
  clear hx
  go_enter Tryd.func80, Tryd.ntmps80
  have ht : Hid (l.any (fun x => !resB q x) = !t) := Lib.hid (by rw [← ht0, List.not_all_eq_any_not])
  clear ht0
  have E1 : Hid (Env D w [(w.heap.size, 3, [.int .i64 q])] [.rw (.slice xa l.length xk) l.length 1 (icl l)] _) := Lib.hid ((E0.out.push 3 [.int .i64 q] (w.heap.size) (by simp)))
  go_wp2_with fail
  refine (mresC l q (w.heap.size) (Fct.any (E1.out.fc 0 rfl)) ⟨⟨(E1.out.bx 0 rfl).lt, trivial⟩, (E1.out.bx 0 rfl).cell 0 rfl⟩ ht.out hm).mono ?_
  rintro e w1 ⟨rfl, hb⟩
  have E2 : Hid (Env D w [(w.heap.size, 3, [.int .i64 q])] [.rw (.slice xa l.length xk) l.length 1 (icl l)] w1) := Lib.hid (E1.out.below hb)
  clear E0 E1 hb
  have hfin := Lib.hid E2.out.bel
  go_wp2
  go_ret
  exact ⟨rfl, hfin.out⟩
end Go.Proofs.YteipbcpnnojclaaDoor

/- Elimination, plainly: rows of residues, as both texts reduce them. -/
namespace Go.Proofs.YteipbcpnnojclaaDoor
set_option linter.unusedVariables false
set_option linter.unusedSimpArgs false
/-! ### lists changed place by place -/
section
variable {α : Type} {A B : List α} {k j : Nat}
def mix (A B : List α) (k : Nat) : List α := A.take k ++ B.drop k
theorem mix_zero : mix A B 0 = B := by simp [mix]
theorem mix_full (h : A.length = B.length) (hk : A.length ≤ k) : mix A B k = A := by
  unfold mix; rw [List.take_of_length_le hk, List.drop_eq_nil_of_le (by omega), List.append_nil]
theorem mix_len (h : A.length = B.length) : (mix A B k).length = A.length := by
  unfold mix; rw [List.length_append, List.length_take, List.length_drop]; omega
theorem mix_old (h : A.length = B.length) (hj : k ≤ j) : (mix A B k)[j]? = B[j]? := by
  unfold mix
  rw [List.getElem?_append]
  split
  · rename_i h2; rw [List.length_take] at h2; omega
  · rw [List.length_take, List.getElem?_drop]
    by_cases hk : k ≤ A.length
    · rw [Nat.min_eq_left hk]; congr 1; omega
    · rw [List.getElem?_eq_none (by omega), List.getElem?_eq_none (by omega)]
theorem mix_new (hj : j < k) (hk : k ≤ A.length) : (mix A B k)[j]? = A[j]? := by
  unfold mix
  rw [List.getElem?_append_left (by rw [List.length_take]; omega), List.getElem?_take, if_pos hj]
theorem mix_set (h : A.length = B.length) (hk : k < A.length) {v : α} (hv : A[k]? = some v) : (mix A B k).set k v = mix A B (k + 1) := by
  apply List.ext_getElem?
  intro j
  rw [List.getElem?_set]
  by_cases e : k = j
  · subst e
    rw [if_pos rfl, mix_len h, if_pos hk, mix_new (by omega) (by omega), hv]
  · rw [if_neg e]
    by_cases hj : j < k
    · rw [mix_new hj (by omega), mix_new (by omega) (by omega)]
    · rw [mix_old h (by omega), mix_old h (by omega)]
theorem mix_skip (h : A.length = B.length) (hk : k < A.length) (he : A[k]? = B[k]?) : mix A B k = mix A B (k + 1) := by
  obtain ⟨v, hv⟩ : ∃ v, A[k]? = some v := ⟨_, List.getElem?_eq_getElem hk⟩
  rw [← mix_set h hk hv]
  apply List.ext_getElem?
  intro j
  rw [List.getElem?_set]
  by_cases e : k = j
  · subst e
    rw [if_pos rfl, mix_len h, if_pos hk, mix_old h (Nat.le_refl _), ← he, hv]
  · rw [if_neg e]
theorem getD_of {l : List α} {i : Nat} {d v : α} (h : l[i]? = some v) : l.getD i d = v := by rw [List.getD_eq_getElem?_getD, h]; rfl
theorem getE_of {l : List α} {i : Nat} {d : α} (h : i < l.length) : l[i]? = some (l.getD i d) := by rw [List.getD_eq_getElem?_getD, List.getElem?_eq_getElem h]; rfl
end
/-! ### the inverse of a residue; 0 where there is none -/
def invN (q a : Nat) : Nat := ((List.range q).find? (fun r => a * r % q == 1 % q)).getD 0
theorem inv_unique {q a r s : Nat} (hr : r < q) (hs : s < q) (h1 : a * r % q = 1 % q) (h2 : a * s % q = 1 % q) : r = s := by
  have e1 : r * (a * s) % q = r % q := by rw [Nat.mul_mod, h2, ← Nat.mul_mod, Nat.mul_one]
  have e2 : s * (a * r) % q = s % q := by rw [Nat.mul_mod, h1, ← Nat.mul_mod, Nat.mul_one]
  have e3 : r * (a * s) = s * (a * r) := by rw [Nat.mul_left_comm, Nat.mul_comm r s, Nat.mul_left_comm, ← Nat.mul_left_comm a s r]
  rw [e3, e2, Nat.mod_eq_of_lt hs, Nat.mod_eq_of_lt hr] at e1
  exact e1.symm
theorem invN_eq {q a r : Nat} (hr : r < q) (h : a * r % q = 1 % q) : invN q a = r := by
  unfold invN
  cases e : (List.range q).find? (fun r => a * r % q == 1 % q) with
  | none => 
    have := List.find?_eq_none.1 e r (List.mem_range.2 hr)
    rw [h] at this; simp at this
  | some s =>
    have h1 := List.find?_some e
    have h2 := List.mem_range.1 (List.mem_of_find?_eq_some e)
    exact inv_unique h2 hr (by simpa using h1) h
theorem invN_none {q a : Nat} (hq : 2 ≤ q) (h : Nat.gcd a q ≠ 1) : invN q a = 0 := by
  unfold invN
  cases e : (List.range q).find? (fun r => a * r % q == 1 % q) with
  | none => rfl
  | some s =>
    have h1 : a * s % q = 1 % q := by simpa using List.find?_some e
    exfalso
    apply h
    have hg : Nat.gcd a q ∣ a * s % q := (Nat.dvd_mod_iff (Nat.gcd_dvd_right a q)).2 (Nat.dvd_mul_right_of_dvd (Nat.gcd_dvd_left a q) s)
    rw [h1, Nat.mod_eq_of_lt (by omega)] at hg
    exact Nat.dvd_one.1 hg
theorem invN_lt {q a : Nat} (hq : 0 < q) : invN q a < q := by
  unfold invN
  cases e : (List.range q).find? (fun r => a * r % q == 1 % q) with
  | none => exact hq
  | some s => exact List.mem_range.1 (List.mem_of_find?_eq_some e)
/-! ### rows -/
/-- all rows have n residues -/
def ResM (q n : Nat) (L : List (List Nat)) : Prop := ∀ r ∈ L, r.length = n ∧ ∀ x ∈ r, x < q
def sclN (q : Nat) (r : List Nat) (c : Nat) : List Nat := r.map (fun x => x * c % q)
def admN (q : Nat) (r : List Nat) (f : Nat) (o : List Nat) : List Nat := (List.range r.length).map (fun j => (r.getD j 0 + f * o.getD j 0 % q) % q)
theorem sclN_len {q c : Nat} {r : List Nat} : (sclN q r c).length = r.length := by simp [sclN]
theorem admN_len {q f : Nat} {r o : List Nat} : (admN q r f o).length = r.length := by simp [admN]
theorem sclN_get {q c j : Nat} {r : List Nat} (h : j < r.length) : (sclN q r c)[j]? = some (r[j] * c % q) := by
  unfold sclN; rw [List.getElem?_map, List.getElem?_eq_getElem h]; rfl
theorem admN_get {q f j : Nat} {r o : List Nat} (h : j < r.length) (h2 : j < o.length) : (admN q r f o)[j]? = some ((r[j] + f * o[j] % q) % q) := by
  unfold admN
  rw [List.getElem?_map, List.getElem?_range h]
  simp only [Option.map_some]
  rw [getD_elem h, getD_elem h2]
theorem sclN_lt {q c : Nat} {r : List Nat} (hq : 0 < q) : ∀ x ∈ sclN q r c, x < q := by
  intro x hx
  obtain ⟨y, _, rfl⟩ := List.mem_map.1 hx
  exact Nat.mod_lt _ hq
theorem admN_lt {q f : Nat} {r o : List Nat} (hq : 0 < q) : ∀ x ∈ admN q r f o, x < q := by
  intro x hx
  obtain ⟨y, _, rfl⟩ := List.mem_map.1 hx
  exact Nat.mod_lt _ hq
theorem admN_zero {q : Nat} {r o : List Nat} (h : ∀ x ∈ r, x < q) : admN q r 0 o = r := by
  apply List.ext_getElem?
  intro j
  unfold admN
  by_cases hj : j < r.length
  · rw [List.getElem?_map, List.getElem?_range hj, List.getElem?_eq_getElem hj]
    simp only [Option.map_some]
    rw [getD_elem hj, Nat.zero_mul, Nat.zero_mod, Nat.add_zero, Nat.mod_eq_of_lt (h _ (List.getElem_mem hj))]
  · rw [List.getElem?_eq_none (by simp; omega), List.getElem?_eq_none (by omega)]
/-- what elimination makes of row i, which reads r; p: the pivot's row, made 1 -/
def elimR (q : Nat) (p : List Nat) (row col i : Nat) (r : List Nat) : List Nat := if i = row then p else admN q r ((q - r.getD col 0) % q) p
def pivR (q : Nat) (L : List (List Nat)) (row col : Nat) : List Nat := sclN q (L.getD row []) (invN q ((L.getD row []).getD col 0))
def elimL (q : Nat) (L : List (List Nat)) (row col : Nat) : List (List Nat) := (List.range L.length).map fun i => elimR q (pivR q L row col) row col i (L.getD i [])
theorem elimL_len {q row col : Nat} {L : List (List Nat)} : (elimL q L row col).length = L.length := by simp [elimL]
theorem elimL_get {q row col i : Nat} {L : List (List Nat)} (h : i < L.length) : (elimL q L row col)[i]? = some (elimR q (pivR q L row col) row col i L[i]) := by
  unfold elimL
  rw [List.getElem?_map, List.getElem?_range h]
  simp only [Option.map_some]
  rw [getD_of (List.getElem?_eq_getElem h)]
theorem getD_mem {L : List (List Nat)} {i : Nat} (h : i < L.length) : L.getD i [] ∈ L := by
  rw [getD_of (List.getElem?_eq_getElem h)]; exact List.getElem_mem h
theorem pivR_len {q n row col : Nat} {L : List (List Nat)} (h : ResM q n L) (hr : row < L.length) : (pivR q L row col).length = n := by
  unfold pivR; rw [sclN_len]; exact (h _ (getD_mem hr)).1
theorem elimL_res {q n row col : Nat} {L : List (List Nat)} (hq : 0 < q) (h : ResM q n L) (hr : row < L.length) : ResM q n (elimL q L row col) := by
  intro r hm
  obtain ⟨i, hi, rfl⟩ := List.getElem_of_mem hm
  rw [elimL_len] at hi
  have e : (elimL q L row col)[i]'(by rw [elimL_len]; exact hi) = elimR q (pivR q L row col) row col i L[i] := by
    have := elimL_get (q := q) (row := row) (col := col) hi
    rw [List.getElem?_eq_getElem (by rw [elimL_len]; exact hi)] at this
    exact Option.some.inj this
  rw [e]
  unfold elimR
  split
  · exact ⟨pivR_len h hr, sclN_lt hq⟩
  · exact ⟨by rw [admN_len]; exact (h _ (List.getElem_mem hi)).1, admN_lt hq⟩
def swapL {α : Type} (L : List α) (a b : Nat) : List α := match L[a]?, L[b]? with
  | some x, some y => (L.set a y).set b x
  | _, _ => L
theorem swapL_of {α : Type} {L : List α} {a b : Nat} {x y : α} (hx : L[a]? = some x) (hy : L[b]? = some y) : swapL L a b = (L.set a y).set b x := by unfold swapL; rw [hx, hy]
theorem swapL_len {α : Type} {L : List α} {a b : Nat} : (swapL L a b).length = L.length := by
  unfold swapL; split <;> simp
theorem swapL_mem {α : Type} {L : List α} {a b : Nat} {r : α} (h : r ∈ swapL L a b) : r ∈ L := by
  unfold swapL at h
  split at h
  · rename_i x y hx hy
    rcases List.mem_or_eq_of_mem_set h with h | rfl
    · rcases List.mem_or_eq_of_mem_set h with h | rfl
      · exact h
      · exact List.mem_of_getElem? hy
    · exact List.mem_of_getElem? hx
  · exact h
theorem swapL_res {q n a b : Nat} {L : List (List Nat)} (h : ResM q n L) : ResM q n (swapL L a b) := fun r hr => h r (swapL_mem hr)
/-- the first row from `a` on that has no 0 in the column, counted from a -/
def pivN (L : List (List Nat)) (a col : Nat) : Option Nat := (L.drop a).findIdx? (fun r => r.getD col 0 != 0)
theorem pivN_some {L : List (List Nat)} {a col k : Nat} (h : pivN L a col = some k) : a + k < L.length := by
  unfold pivN at h
  have := (List.findIdx?_eq_some_iff_getElem.1 h).1
  rw [List.length_drop] at this; omega
theorem pivN_no {L : List (List Nat)} {a col : Nat} (h : L.length ≤ a) : pivN L a col = none := by
  unfold pivN; rw [List.drop_eq_nil_of_le h]; rfl
/-- one column -/
def redS (q : Nat) (s : List (List Nat) × List Nat) (col : Nat) : List (List Nat) × List Nat := match pivN s.1 s.2.length col with
  | none => s
  | some k => (elimL q (swapL s.1 s.2.length (s.2.length + k)) s.2.length col, s.2 ++ [col])
/-- the columns below c -/
def redN (q : Nat) (L : List (List Nat)) : Nat → List (List Nat) × List Nat
  | 0 => (L, [])
  | c + 1 => redS q (redN q L c) c
theorem redS_none {q col : Nat} {s : List (List Nat) × List Nat} (h : pivN s.1 s.2.length col = none) : redS q s col = s := by unfold redS; rw [h]
theorem redS_some {q col k : Nat} {s : List (List Nat) × List Nat} (h : pivN s.1 s.2.length col = some k) : redS q s col = (elimL q (swapL s.1 s.2.length (s.2.length + k)) s.2.length col, s.2 ++ [col]) := by unfold redS; rw [h]
/-- what stays true -/
structure RedI (q n m c : Nat) (s : List (List Nat) × List Nat) : Prop where
  res : ResM q n s.1
  len : s.1.length = m
  few : s.2.length ≤ m ∧ s.2.length ≤ c
  lt : ∀ x ∈ s.2, x < c
  nod : s.2.Nodup
theorem redN_ok {q n : Nat} {L : List (List Nat)} (hq : 0 < q) (h : ResM q n L) : ∀ c, RedI q n L.length c (redN q L c)
  | 0 => ⟨h, rfl, ⟨Nat.zero_le _, Nat.zero_le _⟩, (fun x hx => by cases hx), List.nodup_nil⟩
  | c + 1 => by
    have ih := redN_ok hq h c
    rw [redN]
    cases e : pivN (redN q L c).1 (redN q L c).2.length c with
    | none => rw [redS_none e]; exact ⟨ih.res, ih.len, ⟨ih.few.1, by have := ih.few.2; omega⟩, fun x hx => by have := ih.lt x hx; omega, ih.nod⟩
    | some k =>
      have hk := pivN_some e
      rw [ih.len] at hk
      rw [redS_some e]
      refine ⟨elimL_res hq (swapL_res ih.res) (by rw [swapL_len, ih.len]; omega), by rw [elimL_len, swapL_len, ih.len], ?_, ?_, ?_⟩
      · simp only [List.length_append, List.length_singleton]
        have := ih.few; omega
      · intro x hx
        rcases List.mem_append.1 hx with hx | hx
        · have := ih.lt x hx; omega
        · rcases List.mem_singleton.1 hx with rfl; omega
      · simp only
        rw [List.nodup_append]
        refine ⟨ih.nod, by simp, fun x hx y hy e => ?_⟩
        have hy2 := List.mem_singleton.1 hy
        have := ih.lt _ hx; omega
theorem redN_stop {q : Nat} {L : List (List Nat)} {c : Nat} (h : (redN q L c).1.length ≤ (redN q L c).2.length) : ∀ d, c ≤ d → redN q L d = redN q L c
  | 0, hd => by obtain rfl : c = 0 := (by omega); rfl
  | d + 1, hd => by
    by_cases e : c = d + 1
    · rw [e]
    · have ih := redN_stop h d (by omega)
      rw [redN, ih, redS_none (pivN_no h)]
end Go.Proofs.YteipbcpnnojclaaDoor

/- Matrices of the call's own: a row of headers, and a block for each row. -/
namespace Go.Proofs.YteipbcpnnojclaaDoor
open Go.RowKit
set_option linter.unusedVariables false
set_option linter.unusedSimpArgs false
/-- a row: its block, what it reads, what lies behind it -/
structure Rb where
  b : Nat
  l : List Nat
  x : List Value
def Rb.hd (r : Rb) : Value := .slice (some ⟨r.b, 0, none⟩) r.l.length (r.l.length + r.x.length)
def Rb.bx (r : Rb) : Bx := (r.b, 3, ncl r.l ++ r.x)
/-- the boxes of a matrix: headers hs, rows R -/
def mbh (g : Nat) (hs : List Value) (R : List Rb) : List Bx := (g, 22, hs) :: R.map Rb.bx
abbrev mbx (g : Nat) (R : List Rb) : List Bx := mbh g (R.map Rb.hd) R
abbrev mrows (R : List Rb) : List (List Nat) := R.map Rb.l
theorem cons_set_perm {α : Type} {x y : α} : ∀ {T : List α} {k : Nat}, T[k]? = some y → (y :: T.set k x).Perm (x :: T)
  | [], k, h => by simp at h
  | z :: T, 0, h => by
    simp only [List.getElem?_cons_zero, Option.some.injEq] at h
    subst h
    exact List.Perm.swap ..
  | z :: T, k + 1, h => by
    have ih := cons_set_perm (x := x) (T := T) (k := k) (by simpa using h)
    exact (List.Perm.swap ..).trans ((ih.cons z).trans (List.Perm.swap ..))
theorem set_set_perm {α : Type} {x y : α} : ∀ {R : List α} {i k : Nat}, R[i]? = some x → R[k]? = some y → ((R.set i y).set k x).Perm R
  | [], i, k, h, _ => by simp at h
  | z :: R, 0, 0, h, h2 => by
    simp only [List.getElem?_cons_zero, Option.some.injEq] at h
    subst h
    exact List.Perm.refl _
  | z :: R, 0, k + 1, h, h2 => by
    simp only [List.getElem?_cons_zero, Option.some.injEq] at h
    subst h
    exact cons_set_perm (by simpa using h2)
  | z :: R, i + 1, 0, h, h2 => by
    simp only [List.getElem?_cons_zero, Option.some.injEq] at h2
    subst h2
    exact cons_set_perm (by simpa using h)
  | z :: R, i + 1, k + 1, h, h2 => (set_set_perm (R := R) (by simpa using h) (by simpa using h2)).cons z
theorem swapL_perm {α : Type} {R : List α} {i k : Nat} : (swapL R i k).Perm R := by
  unfold swapL
  split
  · exact set_set_perm (by assumption) (by assumption)
  · exact List.Perm.refl _
theorem swapL_map {α β : Type} (f : α → β) {R : List α} {i k : Nat} : swapL (R.map f) i k = (swapL R i k).map f := by
  unfold swapL
  rw [List.getElem?_map, List.getElem?_map]
  cases R[i]? <;> cases R[k]? <;> simp [List.map_set]
section
variable {D0 : Nat → Prop} {w W : World} {F A B : List Bx} {G : List Fct} {g : Nat} {hs : List Value} {R : List Rb} {i j : Nat} {r : Rb}
theorem mbh_hd : (A ++ (mbh g hs R ++ B))[A.length]? = some (g, 22, hs) := by simp [mbh]
theorem mbh_row (h : R[i]? = some r) : (A ++ (mbh g hs R ++ B))[A.length + 1 + i]? = some (r.b, 3, ncl r.l ++ r.x) := by
  have hi := (List.getElem?_eq_some_iff.1 h).1
  rw [List.getElem?_append_right (by omega), show A.length + 1 + i - A.length = i + 1 from by omega]
  unfold mbh
  rw [List.cons_append, List.getElem?_cons_succ, List.getElem?_append_left (by rw [List.length_map]; exact hi), List.getElem?_map, h]
  rfl
theorem Env.mh (E : Env D0 w F G W) (hF : F = A ++ (mbh g hs R ++ B)) : Box w.heap.size g 22 hs W := E.bx A.length (by rw [hF]; exact mbh_hd)
theorem Env.mr (E : Env D0 w F G W) (hF : F = A ++ (mbh g hs R ++ B)) (h : R[i]? = some r) : Box w.heap.size r.b 3 (ncl r.l ++ r.x) W := E.bx (A.length + 1 + i) (by rw [hF]; exact mbh_row h)
theorem Env.mhd (E : Env D0 w F G W) (hF : F = A ++ (mbx g R ++ B)) (h : R[i]? = some r) : W.cell? ⟨g, i, none⟩ = some (.slice (some ⟨r.b, 0, none⟩) r.l.length (r.l.length + r.x.length)) :=
  (E.mh hF).cell i (by rw [List.getElem?_map, h]; rfl)
theorem Env.mcell (E : Env D0 w F G W) (hF : F = A ++ (mbh g hs R ++ B)) (h : R[i]? = some r) (hj : j < r.l.length) : W.cell? ⟨r.b, j, none⟩ = some (.int .i64 (r.l[j] : Nat)) := (E.mr hF h).cell j (ncl_app_get _ _ _ hj)
theorem Env.mset (E : Env D0 w F G W) (hF : F = A ++ (mbh g hs R ++ B)) (h : R[i]? = some r) (hj : j < r.l.length) (v : Nat) : Env D0 w (A ++ (mbh g hs (R.set i ⟨r.b, r.l.set j v, r.x⟩) ++ B)) G (W.setCell ⟨r.b, j, none⟩ (.int .i64 (v : Nat))) := by
  subst hF
  have hi := (List.getElem?_eq_some_iff.1 h).1
  have E2 := E.set (A.length + 1 + i) j (.int .i64 (v : Nat)) (mbh_row h)
  rw [ncl_app_set _ _ _ _ hj] at E2
  have e : (A ++ (mbh g hs R ++ B)).set (A.length + 1 + i) (r.b, 3, ncl (r.l.set j v) ++ r.x) = A ++ (mbh g hs (R.set i ⟨r.b, r.l.set j v, r.x⟩) ++ B) := by
    rw [List.set_append_right _ _ (by omega), show A.length + 1 + i - A.length = i + 1 from by omega]
    unfold mbh
    rw [List.cons_append, List.set_cons_succ, List.set_append_left _ _ (by rw [List.length_map]; exact hi), List.map_set]
    rfl
  rw [e] at E2
  exact E2
theorem hd_set (h : R[i]? = some r) (v : Nat) : (R.set i ⟨r.b, r.l.set j v, r.x⟩).map Rb.hd = R.map Rb.hd := by
  apply List.ext_getElem?
  intro k
  rw [List.getElem?_map, List.getElem?_map, List.getElem?_set]
  by_cases e : i = k
  · subst e
    rw [if_pos rfl, if_pos (List.getElem?_eq_some_iff.1 h).1, h]
    simp [Rb.hd]
  · rw [if_neg e]
theorem Env.msetx (E : Env D0 w F G W) (hF : F = A ++ (mbx g R ++ B)) (h : R[i]? = some r) (hj : j < r.l.length) (v : Nat) : Env D0 w (A ++ (mbx g (R.set i ⟨r.b, r.l.set j v, r.x⟩) ++ B)) G (W.setCell ⟨r.b, j, none⟩ (.int .i64 (v : Nat))) := by
  have := E.mset hF h hj v
  unfold mbx
  rw [hd_set h]; exact this
theorem Env.mhset (E : Env D0 w F G W) (hF : F = A ++ (mbh g hs R ++ B)) (i : Nat) (v : Value) : Env D0 w (A ++ (mbh g (hs.set i v) R ++ B)) G (W.setCell ⟨g, i, none⟩ v) := by
  subst hF
  have E2 := E.set A.length i v mbh_hd
  have e : (A ++ (mbh g hs R ++ B)).set A.length (g, 22, hs.set i v) = A ++ (mbh g (hs.set i v) R ++ B) := by
    rw [List.set_append_right _ _ (by omega), Nat.sub_self]
    unfold mbh
    rw [List.cons_append, List.set_cons_zero, List.cons_append]
  rw [e] at E2
  exact E2
/-- two headers have been swapped -/
theorem Env.mswap {a b : Nat} {x y : Rb} (E : Env D0 w F G W) (hF : F = A ++ (mbh g (((R.map Rb.hd).set a y.hd).set b x.hd) R ++ B)) (hx : R[a]? = some x) (hy : R[b]? = some y) : Env D0 w (A ++ (mbx g (swapL R a b) ++ B)) G W := by
  subst hF
  have hs : ((R.map Rb.hd).set a y.hd).set b x.hd = (swapL R a b).map Rb.hd := by
    rw [swapL_of hx hy]; simp [List.map_set]
  rw [hs] at E
  refine E.perm ((List.perm_append_left_iff A).2 ((List.perm_append_right_iff B).2 ?_))
  unfold mbx mbh
  exact (List.Perm.map _ swapL_perm.symm).cons _
/-- rows from a on, as a list that a caller reads -/
theorem Env.mmx {a cap : Nat} (E : Env D0 w F G W) (hF : F = A ++ (mbx g R ++ B)) (hc : R.length - a ≤ cap) (hc2 : cap ≤ 9223372036854775807) (hb : ∀ r ∈ R, r.l.length + r.x.length ≤ 9223372036854775807) : Mx W (fun _ => True) (.slice (some ⟨g, a, none⟩) ((mrows R).drop a |>.map nl).length cap) ((mrows R).drop a |>.map nl) := by
  refine ⟨_, cap, rfl, by simpa using hc, hc2, fun hne => ⟨g, a, rfl, ⟨(E.mh hF).lt, trivial⟩, fun k l hl => ?_⟩⟩
  rw [List.getElem?_map, List.getElem?_drop, List.getElem?_map] at hl
  cases h : R[a + k]? with
  | none => rw [h] at hl; cases hl
  | some r =>
    rw [h] at hl
    simp only [Option.map_some, Option.some.injEq] at hl
    subst hl
    refine ⟨_, E.mhd hF h, ⟨_, _, by rw [nl_len], by rw [nl_len]; omega, hb r (List.mem_of_getElem? h), by simp [nl], icl_one _, fun hn => ⟨r.b, 0, rfl, ⟨(E.mr hF h).lt, trivial⟩, fun j u hu => ?_⟩⟩⟩
    rw [Nat.zero_add]
    have hj := (List.getElem?_eq_some_iff.1 hu).1
    rw [List.length_map, nl_len] at hj
    rw [E.mcell hF h hj]
    have := ncl_get r.l j hj
    unfold ncl icl at this
    rw [this] at hu
    exact hu
theorem mrows_get (h : R[i]? = some r) : (mrows R)[i]? = some r.l := by rw [List.getElem?_map, h]; rfl
theorem mrows_set (h : R[i]? = some r) (v : Nat) : mrows (R.set i ⟨r.b, r.l.set j v, r.x⟩) = (mrows R).set i (r.l.set j v) := by unfold mrows; rw [List.map_set]
/-- capacities that slices can have -/
def CapOk (R : List Rb) : Prop := ∀ r ∈ R, r.l.length + r.x.length ≤ 9223372036854775807
theorem CapOk.set (hc : CapOk R) (h : R[i]? = some r) (v : Nat) : CapOk (R.set i ⟨r.b, r.l.set j v, r.x⟩) := by
  intro x hx
  rcases List.mem_or_eq_of_mem_set hx with hx | rfl
  · exact hc x hx
  · simp only [List.length_set]; exact hc r (List.mem_of_getElem? h)
theorem CapOk.swap {a b : Nat} (hc : CapOk R) : CapOk (swapL R a b) := fun x hx => hc x (swapL_mem hx)
end
end Go.Proofs.YteipbcpnnojclaaDoor

/- matrix: eliminate. -/
namespace Go.Proofs.YteipbcpnnojclaaDoor
open Go.RowKit DivMath WordMath
set_option linter.unusedVariables false
set_option linter.unusedSimpArgs false
theorem winv_c (q a : Nat) (w : World) (ha : (a : Int) < (q : Int)) (hq : 2 ≤ q) (hm : (q : Int) < Top) {i : Nat} (hi : invN q a = i) :
    Calls Tryd.prog 106 #[.int .i64 a, .int .i64 q] w fun e w' => (∃ c : Int, e = .returned (.tuple #[.int .i64 (i : Nat), .int .i64 c])) ∧ Below w.heap.size w w' := by
  by_cases h : Nat.gcd a q = 1
  · refine (Inverse_ok a q w ha hm h).mono ?_
    rintro e w' ⟨⟨r, hr, rfl⟩, n, rfl⟩
    have e2 := invN_eq hr.out.1 hr.out.2
    rw [hi] at e2
    subst e2
    exact ⟨⟨_, rfl⟩, below_drewN (Below.refl _ _) _⟩
  · refine (Inverse_none a q w ha hm h).mono ?_
    rintro e w' ⟨rfl, n, rfl⟩
    have e2 := invN_none hq h
    rw [hi] at e2
    subst e2
    exact ⟨⟨_, rfl⟩, below_drewN (Below.refl _ _) _⟩
section
variable {q n row col i j k : Nat} {L M : List (List Nat)} {l p : List Nat}
theorem setL_get (hr : row < L.length) (hi : i < L.length) : (L.set row p)[i]? = if row = i then some p else some L[i] := by
  rw [List.getElem?_set]
  by_cases e : row = i
  · subst e; rw [if_pos rfl, if_pos rfl, if_pos hr]
  · rw [if_neg e, if_neg e, List.getElem?_eq_getElem hi]
/-- row i of what is half eliminated -/
theorem half_row (hr : row < L.length) (hi : i < L.length) (h : (mix (elimL q L row col) (L.set row (pivR q L row col)) i)[i]? = some l) (hne : ¬ i = row) : l = L[i] := by
  rw [mix_old (by simp [elimL_len]) (Nat.le_refl _), setL_get hr hi, if_neg (fun e => hne e.symm)] at h
  exact (Option.some.inj h).symm
theorem half_piv (hr : row < L.length) (hi : i < L.length) : (mix (elimL q L row col) (L.set row (pivR q L row col)) i)[row]? = some (pivR q L row col) := by
  by_cases h : row < i
  · rw [mix_new h (by rw [elimL_len]; omega), elimL_get hr]; unfold elimR; rw [if_pos rfl]
  · rw [mix_old (by simp [elimL_len]) (by omega), List.getElem?_set_self hr]
theorem half_skip (hr : row < L.length) (hi : i < L.length) (h : i = row ∨ (q - L[i].getD col 0) % q = 0 ∧ ∀ x ∈ L[i], x < q) : mix (elimL q L row col) (L.set row (pivR q L row col)) i = mix (elimL q L row col) (L.set row (pivR q L row col)) (i + 1) := by
  refine mix_skip (by simp [elimL_len]) (by rw [elimL_len]; exact hi) ?_
  rw [elimL_get hi, setL_get hr hi]
  unfold elimR
  by_cases e : i = row
  · rw [if_pos e, if_pos e.symm]
  · rw [if_neg e, if_neg (fun h => e h.symm)]
    rcases h with h | ⟨h1, h2⟩
    · exact absurd h e
    · rw [h1, admN_zero h2]
theorem half_set (hr : row < L.length) (hi : i < L.length) (hne : ¬ i = row) : (mix (elimL q L row col) (L.set row (pivR q L row col)) i).set i (admN q L[i] ((q - L[i].getD col 0) % q) (pivR q L row col)) = mix (elimL q L row col) (L.set row (pivR q L row col)) (i + 1) := by
  refine mix_set (by simp [elimL_len]) (by rw [elimL_len]; exact hi) ?_
  rw [elimL_get hi]
  unfold elimR
  rw [if_neg hne]
theorem setL_same (h : L[i]? = some l) : L.set i l = L := by
  apply List.ext_getElem?
  intro k
  rw [List.getElem?_set]
  by_cases e : i = k
  · subst e; rw [if_pos rfl, if_pos (List.getElem?_eq_some_iff.1 h).1, h]
  · rw [if_neg e]
end
set_option maxRecDepth 100000 in
set_option maxHeartbeats 8000000 in
theorem elim_c (q n row col : Nat) (R : List Rb) {g : Nat} {D : Nat → Prop} {w0 w : World} {A0 B0 : List Bx} {G0 : List Fct} (E0 : Hid (Env D w0 (A0 ++ (mbx g R ++ B0)) G0 w)) (hq0 : 2 ≤ q) (hqT0 : (q : Int) < Top) (hres0 : ResM q n (mrows R)) (hrow : row < R.length) (hcol0 : col < n) (hR : R.length ≤ 1000) (hn0 : n ≤ 1000) (hcap0 : CapOk R) :
    Calls Tryd.prog 123 #[.int .i64 (q : Nat), .slice (some ⟨g, 0, none⟩) R.length R.length, .int .i64 (row : Nat), .int .i64 (col : Nat)] w fun e w' => e = .returned (.tuple #[]) ∧ ∃ R', Hid (mrows R' = elimL q (mrows R) row col ∧ CapOk R') ∧ Hid (Env D w0 (A0 ++ (mbx g R' ++ B0)) G0 w') := by
  go_enter Tryd.func123, Tryd.ntmps123
  have hq := Lib.hid hq0
  have hqT := Lib.hid hqT0
  have hres := Lib.hid hres0
  have hcol := Lib.hid hcol0
  have hn := Lib.hid hn0
  have hcap := Lib.hid hcap0
  clear hq0 hqT0 hres0 hcol0 hn0 hcap0
  have hq1 : Hid (0 < q) := Lib.hid (by have := hq.out; omega)
  have HLR : Hid ((mrows R).length = R.length) := Lib.hid (List.length_map ..)
  have HRL : Hid (row < (mrows R).length) := Lib.hid (by rw [HLR.out]; exact hrow)
  have hrI : (row : Int) < (R.length : Int) := by omega
  obtain ⟨⟨tb, tl, tx⟩, te⟩ : ∃ r, R[row]? = some r := ⟨_, List.getElem?_eq_getElem hrow⟩
  have tE := Lib.hid te
  clear te
  have mh1 : World.cell? _ ⟨g, row, none⟩ = some (.slice (some ⟨tb, 0, none⟩) tl.length (tl.length + tx.length)) := E0.out.mhd (A := A0) (B := B0) rfl tE.out
  have HTG : Hid ((mrows R)[row]? = some tl) := Lib.hid (mrows_get tE.out)
  have HTL : Hid (tl.length = n ∧ ∀ x ∈ tl, x < q) := Lib.hid (hres.out _ (List.mem_of_getElem? HTG.out))
  have hct : col < tl.length := by rw [HTL.out.1]; exact hcol.out
  have hctI : (col : Int) < (tl.length : Int) := by omega
  have htq : ((tl[col] : Nat) : Int) < (q : Int) := Int.ofNat_lt.2 (HTL.out.2 _ (List.getElem_mem hct))
  have htn9 : tl.length ≤ 1000 := by rw [HTL.out.1]; exact hn.out
  obtain ⟨iv, hiv⟩ : ∃ i, invN q tl[col] = i := ⟨_, rfl⟩
  have HIV := Lib.hid hiv
  clear hiv
  have HIQ : Hid (iv < q) := Lib.hid (by rw [← HIV.out]; exact invN_lt hq1.out)
  have hivq : (iv : Int) < (q : Int) := Int.ofNat_lt.2 HIQ.out
  have HP : Hid (pivR q (mrows R) row col = sclN q tl iv) := Lib.hid (by unfold pivR; rw [getD_of HTG.out, getD_elem hct, HIV.out])
  have mc2 : World.cell? _ ⟨tb, col, none⟩ = some (.int .i64 (tl[col] : Nat)) := E0.out.mcell (A := A0) (B := B0) rfl tE.out hct
  go_wp2_with fail
  refine (winv_c q tl[col] _ htq hq.out hqT.out HIV.out).mono ?_
  rintro e w1 ⟨⟨ic, rfl⟩, hb⟩
  have E1 : Hid (Env D w0 (A0 ++ ((mbx g R) ++ B0)) G0 w1) := Lib.hid (E0.out.below hb)
  clear mh1 mc2 E0 hb
  have mh3 : World.cell? _ ⟨g, row, none⟩ = some (.slice (some ⟨tb, 0, none⟩) tl.length (tl.length + tx.length)) := E1.out.mhd (A := A0) (B := B0) rfl tE.out
  go_wp2_with fail
  go_loopg [31] (tl.length) (fun gk s31 wr => ∃ (k : Nat) (R1 : List Rb), s31 = .int .i64 (k : Int) ∧ Hid (Env D w0 (A0 ++ ((mbx g R1) ++ B0)) G0 wr) ∧ Hid ((k ≤ tl.length ∧ gk = tl.length - k) ∧ mrows R1 = (mrows R).set row (mix (sclN q tl iv) tl k) ∧ CapOk R1))
  case atStart => exact ⟨0, R, rfl, Lib.hid E1.out, Lib.hid ⟨⟨Nat.zero_le _, rfl⟩, by rw [mix_zero, setL_same HTG.out], hcap.out⟩⟩
  case round =>
    clear mh3 E1
    obtain ⟨k, R1, rfl, EL, HA⟩ := hrel
    obtain ⟨⟨a1, a2⟩, a3, a4⟩ := HA.out
    have HS := Lib.hid a3
    have HC1 := Lib.hid a4
    clear a3 a4 HA
    have HL1 : Hid (R1.length = R.length) := Lib.hid (by have h := congrArg List.length HS.out; simpa using h)
    by_cases hy : k = tl.length
    rotate_left
    · have hk : k < tl.length := by omega
      have t6 : decide ((k : Int) < (tl.length : Int)) = true := decide_eq_true (by omega)
      have t7 : decide (k < tl.length) = true := decide_eq_true hk
      clear hy
      go_upto_region 4 with (fail)
      have hr1 : row < R1.length := by rw [HL1.out]; exact hrow
      obtain ⟨⟨sb, sl, sx⟩, se⟩ : ∃ r, R1[row]? = some r := ⟨_, List.getElem?_eq_getElem hr1⟩
      have sE := Lib.hid se
      clear se
      have HSG : Hid (sl = mix (sclN q tl iv) tl k) := Lib.hid (by have h := mrows_get sE.out; rw [HS.out, List.getElem?_set_self HRL.out] at h; exact (Option.some.inj h).symm)
      have hsl : sl.length = tl.length := by rw [HSG.out, mix_len sclN_len, sclN_len]
      have hks : k < sl.length := by omega
      have hksI : (k : Int) < (sl.length : Int) := by omega
      have HSK : Hid (sl[k] = tl[k]) := Lib.hid (by have h := mix_old (k := k) (j := k) (sclN_len (q := q) (c := iv) (r := tl)) (Nat.le_refl _); rw [← HSG.out, List.getElem?_eq_getElem hks, List.getElem?_eq_getElem hk] at h; exact Option.some.inj h)
      have hsq : ((sl[k] : Nat) : Int) < (q : Int) := by rw [HSK.out]; exact Int.ofNat_lt.2 (HTL.out.2 _ (List.getElem_mem hk))
      go_wp2_with fail
      have E2 : Hid (Env D w0 (A0 ++ ((mbx g R1) ++ B0)) G0 (wr.drew)) := Lib.hid EL.out.drew
      clear EL
      refine wp_regionU (S := fun w' => w'.cell? ⟨g, row, none⟩ = some (.slice (some ⟨sb, 0, none⟩) sl.length (sl.length + sx.length)) ∧ w'.cell? ⟨sb, k, none⟩ = some (.int .i64 (sl[k] : Nat))) [16] (by kernel_rfl) (⟨E2.out.mhd (A := A0) (B := B0) rfl sE.out, E2.out.mcell (A := A0) (B := B0) rfl sE.out hks⟩) (fun hHeld => ?_)
      generalize wr.drew = w2 at *
      refine uTake (i := 0) (some 34) (v := ?_) rfl rfl (by kernel_rfl) (by kernel_rfl) (by kernel_rfl) (by kernel_rfl) (fun _ _ _ h => h) (by rfl) (by assumption) ?_ ?_
      rotate_left
      · (intro wS hSw; (try dsimp only at hSw); go_simp; try with_reducible rfl)
      try simp only [Act.put, List.setIfInBounds_toArray, List.set_cons_zero, List.set_cons_succ]
      refine uTake (i := 1) (some 35) (v := ?_) rfl rfl (by kernel_rfl) (by kernel_rfl) (by kernel_rfl) (by kernel_rfl) (fun _ _ _ h => h) (by rfl) (by assumption) ?_ ?_
      rotate_left
      · (intro wS hSw; (try dsimp only at hSw); go_simp; try with_reducible rfl)
      try simp only [Act.put, List.setIfInBounds_toArray, List.set_cons_zero, List.set_cons_succ]
      refine uTake (i := 2) (some 36) (v := ?_) rfl rfl (by kernel_rfl) (by kernel_rfl) (by kernel_rfl) (by kernel_rfl) (fun _ _ _ h => h) (by rfl) (by assumption) ?_ ?_
      rotate_left
      · (intro wS hSw; (try dsimp only at hSw); go_simp; try with_reducible rfl)
      try simp only [Act.put, List.setIfInBounds_toArray, List.set_cons_zero, List.set_cons_succ]
      refine uTake (i := 3) (some 37) (v := ?_) rfl rfl (by kernel_rfl) (by kernel_rfl) (by kernel_rfl) (by kernel_rfl) (fun _ _ _ h => h) (by rfl) (by assumption) ?_ ?_
      rotate_left
      · (intro wS hSw; (try dsimp only at hSw); go_simp; try with_reducible rfl)
      try simp only [Act.put, List.setIfInBounds_toArray, List.set_cons_zero, List.set_cons_succ]
      refine uTake (i := 4) (some 38) (v := ?_) rfl rfl (by kernel_rfl) (by kernel_rfl) (by kernel_rfl) (by kernel_rfl) (fun _ _ _ h => h) (by rfl) (by assumption) ?_ ?_
      rotate_left
      · (intro wS hSw; (try dsimp only at hSw); go_simp; try with_reducible rfl)
      try simp only [Act.put, List.setIfInBounds_toArray, List.set_cons_zero, List.set_cons_succ]
      refine uTake (i := 5) (some 39) (v := ?_) rfl rfl (by kernel_rfl) (by kernel_rfl) (by kernel_rfl) (by kernel_rfl) (fun _ _ _ h => h) (by rfl) (by assumption) ?_ ?_
      rotate_left
      · (intro wS hSw; (try dsimp only at hSw); go_simp; try with_reducible rfl)
      try simp only [Act.put, List.setIfInBounds_toArray, List.set_cons_zero, List.set_cons_succ]
      refine uTake (i := 6) (some 40) (v := ?_) rfl rfl (by kernel_rfl) (by kernel_rfl) (by kernel_rfl) (by kernel_rfl) (fun _ _ _ h => h) (by rfl) (by assumption) ?_ ?_
      rotate_left
      · (intro wS hSw; (try dsimp only at hSw); go_simp; try with_reducible rfl)
      try simp only [Act.put, List.setIfInBounds_toArray, List.set_cons_zero, List.set_cons_succ]
      refine uTake (i := 7) (some 41) (v := ?_) rfl rfl (by kernel_rfl) (by kernel_rfl) (by kernel_rfl) (by kernel_rfl) (fun _ _ _ h => h) (by rfl) (by assumption) ?_ ?_
      rotate_left
      · (intro wS hSw; (try dsimp only at hSw); go_simp; try with_reducible rfl)
      try simp only [Act.put, List.setIfInBounds_toArray, List.set_cons_zero, List.set_cons_succ]
      refine uTake (i := 8) (some 42) (v := ?_) rfl rfl (by kernel_rfl) (by kernel_rfl) (by kernel_rfl) (by kernel_rfl) (fun _ _ _ h => h) (by rfl) (by assumption) ?_ ?_
      rotate_left
      · (intro wS hSw; (try dsimp only at hSw); go_simp; try with_reducible rfl)
      try simp only [Act.put, List.setIfInBounds_toArray, List.set_cons_zero, List.set_cons_succ]
      refine uTake (i := 9) (some 43) (v := ?_) rfl rfl (by kernel_rfl) (by kernel_rfl) (by kernel_rfl) (by kernel_rfl) (fun _ _ _ h => h) (by rfl) (by assumption) ?_ ?_
      rotate_left
      · (intro wS hSw; (try dsimp only at hSw); go_simp; try with_reducible rfl)
      try simp only [Act.put, List.setIfInBounds_toArray, List.set_cons_zero, List.set_cons_succ]
      refine uTake (i := 10) (some 44) (v := ?_) rfl rfl (by kernel_rfl) (by kernel_rfl) (by kernel_rfl) (by kernel_rfl) (fun _ _ _ h => h) (by rfl) (by assumption) ?_ ?_
      rotate_left
      · (intro wS hSw; (try dsimp only at hSw); go_simp; try with_reducible rfl)
      try simp only [Act.put, List.setIfInBounds_toArray, List.set_cons_zero, List.set_cons_succ]
      refine uTake (i := 11) (some 45) (v := ?_) rfl rfl (by kernel_rfl) (by kernel_rfl) (by kernel_rfl) (by kernel_rfl) (fun _ _ _ h => h) (by rfl) (by assumption) ?_ ?_
      rotate_left
      · (intro wS hSw; (try dsimp only at hSw); go_simp; try with_reducible rfl)
      try simp only [Act.put, List.setIfInBounds_toArray, List.set_cons_zero, List.set_cons_succ]
      refine uTake (i := 12) (some 46) (v := ?_) rfl rfl (by kernel_rfl) (by kernel_rfl) (by kernel_rfl) (by kernel_rfl) (fun _ _ _ h => h) (by rfl) (by assumption) ?_ ?_
      rotate_left
      · (intro wS hSw; (try dsimp only at hSw); go_simp; try with_reducible rfl)
      try simp only [Act.put, List.setIfInBounds_toArray, List.set_cons_zero, List.set_cons_succ]
      refine uTake (i := 13) (some 47) (v := ?_) rfl rfl (by kernel_rfl) (by kernel_rfl) (by kernel_rfl) (by kernel_rfl) (fun _ _ _ h => h) (by rfl) (by assumption) ?_ ?_
      rotate_left
      · (intro wS hSw; (try dsimp only at hSw); go_simp; try with_reducible rfl)
      try simp only [Act.put, List.setIfInBounds_toArray, List.set_cons_zero, List.set_cons_succ]
      refine uReady (rs := [14]) (by kernel_rfl) (by simp) ?_
      refine ReadyU.cons rfl (fun KK hKK => ?_) ReadyU.nil
      go_simp
      refine (matmul_c q sl[k] iv _ hsq hivq hqT.out).mono ?_
      rintro e w3 ⟨⟨m, mh9, rfl⟩, hb⟩
      have E3 : Hid (Env D w0 (A0 ++ ((mbx g R1) ++ B0)) G0 w3) := Lib.hid (E2.out.below hb)
      clear E2 hb
      (try dsimp only)
      clear hHeld
      refine hKK.out _ _ (⟨E3.out.mhd (A := A0) (B := B0) rfl sE.out, E3.out.mcell (A := A0) (B := B0) rfl sE.out hks⟩) (fun hHeld => ?_)
      clear hKK KK
      try simp only [Act.put, List.setIfInBounds_toArray, List.set_cons_zero, List.set_cons_succ]
      refine uTake (i := 15) (some 49) (v := ?_) rfl rfl (by kernel_rfl) (by kernel_rfl) (by kernel_rfl) (by kernel_rfl) (fun _ _ _ h => h) (by rfl) (by assumption) ?_ ?_
      rotate_left
      · (intro wS hSw; (try dsimp only at hSw); go_simp; try with_reducible rfl)
      try simp only [Act.put, List.setIfInBounds_toArray, List.set_cons_zero, List.set_cons_succ]
      have mf4 := (E3.out.mr (A := A0) (B := B0) rfl sE.out).frozen k
      refine uReady (rs := [16]) (by kernel_rfl) (by simp) ?_
      refine ReadyU.consU (by kernel_rfl) rfl (fun KK hKK => ?_) ReadyU.nil
      go_simp
      have E4 : Hid (Env D w0 (A0 ++ ((mbx g (R1.set row ⟨sb, sl.set k (m), sx⟩)) ++ B0)) G0 _) := Lib.hid ((E3.out.msetx (A := A0) (B := B0) rfl sE.out hks (m)))
      (try dsimp only)
      (try clear hHeld)
      refine hKK.out _ _ ?_
      clear hKK KK
      try simp only [Act.put, List.setIfInBounds_toArray, List.set_cons_zero, List.set_cons_succ]
      refine uDone (by kernel_rfl) ?_ _
      have HNX : Hid (mrows (R1.set row ⟨sb, sl.set k m, sx⟩) = (mrows R).set row (mix (sclN q tl iv) tl (k + 1))) := Lib.hid (by rw [mrows_set sE.out, HS.out, List.set_set, HSG.out, mix_set sclN_len (by rw [sclN_len]; exact hk) (by rw [sclN_get hk, mh9.out, HSK.out])])
      have EZ := Lib.hid E4.out
      go_wp2
      go_roundg (tl.length - (k + 1))
      case rel => exact ⟨k + 1, R1.set row ⟨sb, sl.set k m, sx⟩, rfl, EZ, Lib.hid ⟨⟨by omega, rfl⟩, HNX.out, HC1.out.set sE.out m⟩⟩
      case measure => exact by omega
    have t6 : decide ((k : Int) < (tl.length : Int)) = false := decide_eq_false (by omega)
    have t7 : decide (k < tl.length) = false := decide_eq_false (by omega)
    have HS0 : Hid (mrows R1 = mix (elimL q (mrows R) row col) ((mrows R).set row (pivR q (mrows R) row col)) 0) := Lib.hid (by rw [mix_zero, HS.out, hy, mix_full sclN_len (by rw [sclN_len]; exact Nat.le_refl _), HP.out])
    have HY := Lib.hid hy
    clear hy
    have hl1 := HL1.out
    go_wp2_with fail
    clear t6 t7 a1 a2
    rename World => wz
    have EB := EL
    go_loopg [53] (R.length) (fun gk s53 wr => ∃ (i : Nat) (R2 : List Rb), s53 = .int .i64 (i : Int) ∧ Hid (Env D w0 (A0 ++ ((mbx g R2) ++ B0)) G0 wr) ∧ Hid ((i ≤ R.length ∧ gk = R.length - i) ∧ mrows R2 = mix (elimL q (mrows R) row col) ((mrows R).set row (pivR q (mrows R) row col)) i ∧ CapOk R2))
    case atStart => exact ⟨0, R1, rfl, Lib.hid EL.out, Lib.hid ⟨⟨Nat.zero_le _, rfl⟩, HS0.out, HC1.out⟩⟩
    case round =>
      clear EL EB hl1
      obtain ⟨i, R2, rfl, EL, HA⟩ := hrel
      obtain ⟨⟨a1, a2⟩, a3, a4⟩ := HA.out
      have HS := Lib.hid a3
      have HC2 := Lib.hid a4
      clear a3 a4 HA
      have HL2 : Hid (R2.length = R.length) := Lib.hid (by have h := congrArg List.length HS.out; rw [mix_len (by simp [elimL_len]), elimL_len] at h; simpa using h)
      by_cases hy : i = R.length
      rotate_left
      · have hi : i < R.length := by omega
        have t6 : decide ((i : Int) < (R.length : Int)) = true := decide_eq_true (by omega)
        have t7 : decide (i < R.length) = true := decide_eq_true hi
        have hiI : (i : Int) < (R.length : Int) := by omega
        clear hy
        go_upto_region 9 with (fail)
        have hi2 : i < R2.length := by rw [HL2.out]; exact hi
        have hr2 : row < R2.length := by rw [HL2.out]; exact hrow
        have HIL : Hid (i < (mrows R).length) := Lib.hid (by rw [HLR.out]; exact hi)
        obtain ⟨⟨ub, ul, ux⟩, ue⟩ : ∃ r, R2[i]? = some r := ⟨_, List.getElem?_eq_getElem hi2⟩
        have uE := Lib.hid ue
        clear ue
        have mh4 : World.cell? _ ⟨g, i, none⟩ = some (.slice (some ⟨ub, 0, none⟩) ul.length (ul.length + ux.length)) := EL.out.mhd (A := A0) (B := B0) rfl uE.out
        have HUG : Hid ((mix (elimL q (mrows R) row col) ((mrows R).set row (pivR q (mrows R) row col)) i)[i]? = some ul) := Lib.hid (by rw [← HS.out]; exact mrows_get uE.out)
        have HUR : Hid (ul.length = n ∧ ∀ x ∈ ul, x < q) := Lib.hid (by have hm : ul ∈ mrows R2 := List.mem_of_getElem? (mrows_get uE.out); rw [HS.out] at hm; unfold mix at hm; rcases List.mem_append.1 hm with hm | hm; (· exact elimL_res hq1.out hres.out HRL.out _ (List.mem_of_mem_take hm)); rcases List.mem_or_eq_of_mem_set (List.mem_of_mem_drop hm) with hm | hm; (· exact hres.out _ hm); rw [hm]; exact ⟨pivR_len hres.out HRL.out, by unfold pivR; exact sclN_lt hq1.out⟩)
        have hcu : col < ul.length := by rw [HUR.out.1]; exact hcol.out
        have hcuI : (col : Int) < (ul.length : Int) := by omega
        have huq : ((ul[col] : Nat) : Int) < (q : Int) := Int.ofNat_lt.2 (HUR.out.2 _ (List.getElem_mem hcu))
        have hul9 : ul.length ≤ 1000 := by rw [HUR.out.1]; exact hn.out
        have mc5 : World.cell? _ ⟨ub, col, none⟩ = some (.int .i64 (ul[col] : Nat)) := EL.out.mcell (A := A0) (B := B0) rfl uE.out hcu
        go_wp2_with fail
        refine (matminus_c q ul[col] _ huq hqT.out).mono ?_
        rintro e w2 ⟨⟨f, fh, rfl⟩, hb⟩
        have E2 : Hid (Env D w0 (A0 ++ ((mbx g R2) ++ B0)) G0 w2) := Lib.hid (EL.out.below hb)
        clear mh4 mc5 EL hb
        have HFQ : Hid (f < q) := Lib.hid (by rw [fh.out]; exact Nat.mod_lt _ hq1.out)
        have hfq : (f : Int) < (q : Int) := Int.ofNat_lt.2 HFQ.out
        by_cases hir : i = row
        · have e1 : ((i : Int) == (row : Int)) = true := beq_iff_eq.2 (by omega)
          have e2 : (i == row) = true := beq_iff_eq.2 hir
          have HIR := Lib.hid hir
          clear hir
          have HNX : Hid (mrows R2 = mix (elimL q (mrows R) row col) ((mrows R).set row (pivR q (mrows R) row col)) (i + 1)) := Lib.hid (by rw [HS.out]; exact half_skip HRL.out HIL.out (.inl HIR.out))
          have EZ := Lib.hid E2.out
          go_wp2
          go_roundg (R.length - (i + 1))
          case rel => exact ⟨i + 1, R2, rfl, EZ, Lib.hid ⟨⟨by omega, rfl⟩, HNX.out, HC2.out⟩⟩
          case measure => exact by omega
        have e1 : ((i : Int) == (row : Int)) = false := beq_eq_false_iff_ne.2 (by omega)
        have e2 : (i == row) = false := beq_eq_false_iff_ne.2 hir
        have HIR := Lib.hid hir
        clear hir
        have HUL : Hid (ul = (mrows R)[i]) := Lib.hid (half_row HRL.out HIL.out HUG.out HIR.out)
        have HFE : Hid (f = (q - (mrows R)[i].getD col 0) % q) := Lib.hid (by rw [fh.out, ← HUL.out, getD_elem hcu])
        by_cases hf0 : f = 0
        · have e3 : ((f : Int) == 0) = true := beq_iff_eq.2 (by omega)
          have e4 : (f == 0) = true := beq_iff_eq.2 hf0
          have HF0 := Lib.hid hf0
          clear hf0
          have HNX : Hid (mrows R2 = mix (elimL q (mrows R) row col) ((mrows R).set row (pivR q (mrows R) row col)) (i + 1)) := Lib.hid (by rw [HS.out]; exact half_skip HRL.out HIL.out (.inr ⟨HFE.out.symm.trans HF0.out, fun x hx => (hres.out _ (List.getElem_mem HIL.out)).2 x hx⟩))
          have EZ := Lib.hid E2.out
          go_wp2
          go_roundg (R.length - (i + 1))
          case rel => exact ⟨i + 1, R2, rfl, EZ, Lib.hid ⟨⟨by omega, rfl⟩, HNX.out, HC2.out⟩⟩
          case measure => exact by omega
        have e3 : ((f : Int) == 0) = false := beq_eq_false_iff_ne.2 (by omega)
        have e4 : (f == 0) = false := beq_eq_false_iff_ne.2 hf0
        have HF0 := Lib.hid hf0
        clear hf0
        go_upto_region 11 with (fail)
        have mh6 : World.cell? _ ⟨g, i, none⟩ = some (.slice (some ⟨ub, 0, none⟩) ul.length (ul.length + ux.length)) := E2.out.mhd (A := A0) (B := B0) rfl uE.out
        go_wp2_with fail
        clear t6 t7
        rename World => wy
        obtain ⟨A1, hA1⟩ : ∃ A, admN q (mrows R)[i] ((q - (mrows R)[i].getD col 0) % q) (pivR q (mrows R) row col) = A := ⟨_, rfl⟩
        have HA1 := Lib.hid hA1
        clear hA1
        have HAL : Hid (A1.length = ul.length) := Lib.hid (by rw [← HA1.out, admN_len, HUL.out])
        go_loopg [77] (ul.length) (fun gk s77 wr => ∃ (j : Nat) (R3 : List Rb), s77 = .int .i64 (j : Int) ∧ Hid (Env D w0 (A0 ++ ((mbx g R3) ++ B0)) G0 wr) ∧ Hid ((j ≤ ul.length ∧ gk = ul.length - j) ∧ mrows R3 = (mix (elimL q (mrows R) row col) ((mrows R).set row (pivR q (mrows R) row col)) i).set i (mix A1 ul j) ∧ CapOk R3))
        case atStart => exact ⟨0, R2, rfl, Lib.hid E2.out, Lib.hid ⟨⟨Nat.zero_le _, rfl⟩, by rw [mix_zero, setL_same HUG.out]; exact HS.out, HC2.out⟩⟩
        case round =>
          clear mh6 E2
          obtain ⟨j, R3, rfl, EL, HA⟩ := hrel
          obtain ⟨⟨b1, b2⟩, b3, b4⟩ := HA.out
          have HT := Lib.hid b3
          have HC3 := Lib.hid b4
          clear b3 b4 HA
          have HL3 : Hid (R3.length = R.length) := Lib.hid (by have h := congrArg List.length HT.out; rw [List.length_set, ← HS.out] at h; rw [List.length_map, List.length_map] at h; rw [h]; exact HL2.out)
          by_cases hy : j = ul.length
          rotate_left
          · have hj : j < ul.length := by omega
            have t8 : decide ((j : Int) < (ul.length : Int)) = true := decide_eq_true (by omega)
            have t9 : decide (j < ul.length) = true := decide_eq_true hj
            clear hy
            go_upto_region 14 with (fail)
            have hi3 : i < R3.length := by rw [HL3.out]; exact hi
            have hr3 : row < R3.length := by rw [HL3.out]; exact hrow
            obtain ⟨⟨vb, vl, vx⟩, ve⟩ : ∃ r, R3[i]? = some r := ⟨_, List.getElem?_eq_getElem hi3⟩
            have vE := Lib.hid ve
            clear ve
            obtain ⟨⟨pb, pl, px⟩, pe⟩ : ∃ r, R3[row]? = some r := ⟨_, List.getElem?_eq_getElem hr3⟩
            have pE := Lib.hid pe
            clear pe
            have HLH : Hid (i < (mix (elimL q (mrows R) row col) ((mrows R).set row (pivR q (mrows R) row col)) i).length) := Lib.hid (by rw [← HS.out, List.length_map]; exact hi2)
            have HVG : Hid (vl = mix A1 ul j) := Lib.hid (by have h := mrows_get vE.out; rw [HT.out, List.getElem?_set_self HLH.out] at h; exact (Option.some.inj h).symm)
            have HPG : Hid (pl = (pivR q (mrows R) row col)) := Lib.hid (by have h := mrows_get pE.out; rw [HT.out, List.getElem?_set_ne HIR.out, half_piv HRL.out HIL.out] at h; exact (Option.some.inj h).symm)
            have hvl : vl.length = ul.length := by rw [HVG.out, mix_len HAL.out]; exact HAL.out
            have hpl : pl.length = ul.length := by rw [HPG.out, pivR_len hres.out HRL.out, HUR.out.1]
            have hjv : j < vl.length := by omega
            have hjp : j < pl.length := by omega
            have hjvI : (j : Int) < (vl.length : Int) := by omega
            have hjpI : (j : Int) < (pl.length : Int) := by omega
            have HVK : Hid (vl[j] = ul[j]) := Lib.hid (by have h := mix_old (k := j) (j := j) HAL.out (Nat.le_refl _); rw [← HVG.out, List.getElem?_eq_getElem hjv, List.getElem?_eq_getElem hj] at h; exact Option.some.inj h)
            have hvq : ((vl[j] : Nat) : Int) < (q : Int) := by rw [HVK.out]; exact Int.ofNat_lt.2 (HUR.out.2 _ (List.getElem_mem hj))
            have hpq : ((pl[j] : Nat) : Int) < (q : Int) := Int.ofNat_lt.2 ((by rw [HPG.out]; unfold pivR; exact sclN_lt hq1.out : ∀ x ∈ pl, x < q) _ (List.getElem_mem hjp))
            go_wp2_with fail
            have E3 : Hid (Env D w0 (A0 ++ ((mbx g R3) ++ B0)) G0 (wr.drew)) := Lib.hid EL.out.drew
            clear EL
            refine wp_regionU (S := fun w' => w'.cell? ⟨g, i, none⟩ = some (.slice (some ⟨vb, 0, none⟩) vl.length (vl.length + vx.length)) ∧ w'.cell? ⟨g, row, none⟩ = some (.slice (some ⟨pb, 0, none⟩) pl.length (pl.length + px.length)) ∧ w'.cell? ⟨vb, j, none⟩ = some (.int .i64 (vl[j] : Nat)) ∧ w'.cell? ⟨pb, j, none⟩ = some (.int .i64 (pl[j] : Nat))) [25] (by kernel_rfl) (⟨E3.out.mhd (A := A0) (B := B0) rfl vE.out, E3.out.mhd (A := A0) (B := B0) rfl pE.out, E3.out.mcell (A := A0) (B := B0) rfl vE.out hjv, E3.out.mcell (A := A0) (B := B0) rfl pE.out hjp⟩) (fun hHeld => ?_)
            generalize wr.drew = w3 at *
            refine uTake (i := 0) (some 80) (v := ?_) rfl rfl (by kernel_rfl) (by kernel_rfl) (by kernel_rfl) (by kernel_rfl) (fun _ _ _ h => h) (by rfl) (by assumption) ?_ ?_
            rotate_left
            · (intro wS hSw; (try dsimp only at hSw); go_simp; try with_reducible rfl)
            try simp only [Act.put, List.setIfInBounds_toArray, List.set_cons_zero, List.set_cons_succ]
            refine uTake (i := 1) (some 81) (v := ?_) rfl rfl (by kernel_rfl) (by kernel_rfl) (by kernel_rfl) (by kernel_rfl) (fun _ _ _ h => h) (by rfl) (by assumption) ?_ ?_
            rotate_left
            · (intro wS hSw; (try dsimp only at hSw); go_simp; try with_reducible rfl)
            try simp only [Act.put, List.setIfInBounds_toArray, List.set_cons_zero, List.set_cons_succ]
            refine uTake (i := 2) (some 82) (v := ?_) rfl rfl (by kernel_rfl) (by kernel_rfl) (by kernel_rfl) (by kernel_rfl) (fun _ _ _ h => h) (by rfl) (by assumption) ?_ ?_
            rotate_left
            · (intro wS hSw; (try dsimp only at hSw); go_simp; try with_reducible rfl)
            try simp only [Act.put, List.setIfInBounds_toArray, List.set_cons_zero, List.set_cons_succ]
            refine uTake (i := 3) (some 83) (v := ?_) rfl rfl (by kernel_rfl) (by kernel_rfl) (by kernel_rfl) (by kernel_rfl) (fun _ _ _ h => h) (by rfl) (by assumption) ?_ ?_
            rotate_left
            · (intro wS hSw; (try dsimp only at hSw); go_simp; try with_reducible rfl)
            try simp only [Act.put, List.setIfInBounds_toArray, List.set_cons_zero, List.set_cons_succ]
            refine uTake (i := 4) (some 84) (v := ?_) rfl rfl (by kernel_rfl) (by kernel_rfl) (by kernel_rfl) (by kernel_rfl) (fun _ _ _ h => h) (by rfl) (by assumption) ?_ ?_
            rotate_left
            · (intro wS hSw; (try dsimp only at hSw); go_simp; try with_reducible rfl)
            try simp only [Act.put, List.setIfInBounds_toArray, List.set_cons_zero, List.set_cons_succ]
            refine uTake (i := 5) (some 85) (v := ?_) rfl rfl (by kernel_rfl) (by kernel_rfl) (by kernel_rfl) (by kernel_rfl) (fun _ _ _ h => h) (by rfl) (by assumption) ?_ ?_
            rotate_left
            · (intro wS hSw; (try dsimp only at hSw); go_simp; try with_reducible rfl)
            try simp only [Act.put, List.setIfInBounds_toArray, List.set_cons_zero, List.set_cons_succ]
            refine uTake (i := 6) (some 86) (v := ?_) rfl rfl (by kernel_rfl) (by kernel_rfl) (by kernel_rfl) (by kernel_rfl) (fun _ _ _ h => h) (by rfl) (by assumption) ?_ ?_
            rotate_left
            · (intro wS hSw; (try dsimp only at hSw); go_simp; try with_reducible rfl)
            try simp only [Act.put, List.setIfInBounds_toArray, List.set_cons_zero, List.set_cons_succ]
            refine uTake (i := 7) (some 87) (v := ?_) rfl rfl (by kernel_rfl) (by kernel_rfl) (by kernel_rfl) (by kernel_rfl) (fun _ _ _ h => h) (by rfl) (by assumption) ?_ ?_
            rotate_left
            · (intro wS hSw; (try dsimp only at hSw); go_simp; try with_reducible rfl)
            try simp only [Act.put, List.setIfInBounds_toArray, List.set_cons_zero, List.set_cons_succ]
            refine uTake (i := 8) (some 88) (v := ?_) rfl rfl (by kernel_rfl) (by kernel_rfl) (by kernel_rfl) (by kernel_rfl) (fun _ _ _ h => h) (by rfl) (by assumption) ?_ ?_
            rotate_left
            · (intro wS hSw; (try dsimp only at hSw); go_simp; try with_reducible rfl)
            try simp only [Act.put, List.setIfInBounds_toArray, List.set_cons_zero, List.set_cons_succ]
            refine uTake (i := 9) (some 89) (v := ?_) rfl rfl (by kernel_rfl) (by kernel_rfl) (by kernel_rfl) (by kernel_rfl) (fun _ _ _ h => h) (by rfl) (by assumption) ?_ ?_
            rotate_left
            · (intro wS hSw; (try dsimp only at hSw); go_simp; try with_reducible rfl)
            try simp only [Act.put, List.setIfInBounds_toArray, List.set_cons_zero, List.set_cons_succ]
            refine uTake (i := 10) (some 90) (v := ?_) rfl rfl (by kernel_rfl) (by kernel_rfl) (by kernel_rfl) (by kernel_rfl) (fun _ _ _ h => h) (by rfl) (by assumption) ?_ ?_
            rotate_left
            · (intro wS hSw; (try dsimp only at hSw); go_simp; try with_reducible rfl)
            try simp only [Act.put, List.setIfInBounds_toArray, List.set_cons_zero, List.set_cons_succ]
            refine uTake (i := 11) (some 91) (v := ?_) rfl rfl (by kernel_rfl) (by kernel_rfl) (by kernel_rfl) (by kernel_rfl) (fun _ _ _ h => h) (by rfl) (by assumption) ?_ ?_
            rotate_left
            · (intro wS hSw; (try dsimp only at hSw); go_simp; try with_reducible rfl)
            try simp only [Act.put, List.setIfInBounds_toArray, List.set_cons_zero, List.set_cons_succ]
            refine uTake (i := 12) (some 92) (v := ?_) rfl rfl (by kernel_rfl) (by kernel_rfl) (by kernel_rfl) (by kernel_rfl) (fun _ _ _ h => h) (by rfl) (by assumption) ?_ ?_
            rotate_left
            · (intro wS hSw; (try dsimp only at hSw); go_simp; try with_reducible rfl)
            try simp only [Act.put, List.setIfInBounds_toArray, List.set_cons_zero, List.set_cons_succ]
            refine uTake (i := 13) (some 93) (v := ?_) rfl rfl (by kernel_rfl) (by kernel_rfl) (by kernel_rfl) (by kernel_rfl) (fun _ _ _ h => h) (by rfl) (by assumption) ?_ ?_
            rotate_left
            · (intro wS hSw; (try dsimp only at hSw); go_simp; try with_reducible rfl)
            try simp only [Act.put, List.setIfInBounds_toArray, List.set_cons_zero, List.set_cons_succ]
            refine uTake (i := 14) (some 94) (v := ?_) rfl rfl (by kernel_rfl) (by kernel_rfl) (by kernel_rfl) (by kernel_rfl) (fun _ _ _ h => h) (by rfl) (by assumption) ?_ ?_
            rotate_left
            · (intro wS hSw; (try dsimp only at hSw); go_simp; try with_reducible rfl)
            try simp only [Act.put, List.setIfInBounds_toArray, List.set_cons_zero, List.set_cons_succ]
            refine uTake (i := 15) (some 95) (v := ?_) rfl rfl (by kernel_rfl) (by kernel_rfl) (by kernel_rfl) (by kernel_rfl) (fun _ _ _ h => h) (by rfl) (by assumption) ?_ ?_
            rotate_left
            · (intro wS hSw; (try dsimp only at hSw); go_simp; try with_reducible rfl)
            try simp only [Act.put, List.setIfInBounds_toArray, List.set_cons_zero, List.set_cons_succ]
            refine uTake (i := 16) (some 96) (v := ?_) rfl rfl (by kernel_rfl) (by kernel_rfl) (by kernel_rfl) (by kernel_rfl) (fun _ _ _ h => h) (by rfl) (by assumption) ?_ ?_
            rotate_left
            · (intro wS hSw; (try dsimp only at hSw); go_simp; try with_reducible rfl)
            try simp only [Act.put, List.setIfInBounds_toArray, List.set_cons_zero, List.set_cons_succ]
            refine uTake (i := 17) (some 97) (v := ?_) rfl rfl (by kernel_rfl) (by kernel_rfl) (by kernel_rfl) (by kernel_rfl) (fun _ _ _ h => h) (by rfl) (by assumption) ?_ ?_
            rotate_left
            · (intro wS hSw; (try dsimp only at hSw); go_simp; try with_reducible rfl)
            try simp only [Act.put, List.setIfInBounds_toArray, List.set_cons_zero, List.set_cons_succ]
            refine uTake (i := 18) (some 98) (v := ?_) rfl rfl (by kernel_rfl) (by kernel_rfl) (by kernel_rfl) (by kernel_rfl) (fun _ _ _ h => h) (by rfl) (by assumption) ?_ ?_
            rotate_left
            · (intro wS hSw; (try dsimp only at hSw); go_simp; try with_reducible rfl)
            try simp only [Act.put, List.setIfInBounds_toArray, List.set_cons_zero, List.set_cons_succ]
            refine uTake (i := 19) (some 99) (v := ?_) rfl rfl (by kernel_rfl) (by kernel_rfl) (by kernel_rfl) (by kernel_rfl) (fun _ _ _ h => h) (by rfl) (by assumption) ?_ ?_
            rotate_left
            · (intro wS hSw; (try dsimp only at hSw); go_simp; try with_reducible rfl)
            try simp only [Act.put, List.setIfInBounds_toArray, List.set_cons_zero, List.set_cons_succ]
            refine uTake (i := 20) (some 100) (v := ?_) rfl rfl (by kernel_rfl) (by kernel_rfl) (by kernel_rfl) (by kernel_rfl) (fun _ _ _ h => h) (by rfl) (by assumption) ?_ ?_
            rotate_left
            · (intro wS hSw; (try dsimp only at hSw); go_simp; try with_reducible rfl)
            try simp only [Act.put, List.setIfInBounds_toArray, List.set_cons_zero, List.set_cons_succ]
            refine uTake (i := 21) (some 101) (v := ?_) rfl rfl (by kernel_rfl) (by kernel_rfl) (by kernel_rfl) (by kernel_rfl) (fun _ _ _ h => h) (by rfl) (by assumption) ?_ ?_
            rotate_left
            · (intro wS hSw; (try dsimp only at hSw); go_simp; try with_reducible rfl)
            try simp only [Act.put, List.setIfInBounds_toArray, List.set_cons_zero, List.set_cons_succ]
            refine uReady (rs := [22]) (by kernel_rfl) (by simp) ?_
            refine ReadyU.cons rfl (fun KK hKK => ?_) ReadyU.nil
            go_simp
            refine (matmul_c q f pl[j] _ hfq hpq hqT.out).mono ?_
            rintro e w4 ⟨⟨m1, m1h, rfl⟩, hb⟩
            have E4 : Hid (Env D w0 (A0 ++ ((mbx g R3) ++ B0)) G0 w4) := Lib.hid (E3.out.below hb)
            clear E3 hb
            have m1q : (m1 : Int) < (q : Int) := by rw [m1h.out]; exact Int.ofNat_lt.2 (Nat.mod_lt _ hq1.out)
            (try dsimp only)
            clear hHeld
            refine hKK.out _ _ (⟨E4.out.mhd (A := A0) (B := B0) rfl vE.out, E4.out.mhd (A := A0) (B := B0) rfl pE.out, E4.out.mcell (A := A0) (B := B0) rfl vE.out hjv, E4.out.mcell (A := A0) (B := B0) rfl pE.out hjp⟩) (fun hHeld => ?_)
            clear hKK KK
            try simp only [Act.put, List.setIfInBounds_toArray, List.set_cons_zero, List.set_cons_succ]
            refine uReady (rs := [23]) (by kernel_rfl) (by simp) ?_
            refine ReadyU.cons rfl (fun KK hKK => ?_) ReadyU.nil
            go_simp
            refine (matadd_c q vl[j] m1 _ hvq m1q hqT.out).mono ?_
            rintro e w5 ⟨⟨m2, m2h, rfl⟩, hb⟩
            have E5 : Hid (Env D w0 (A0 ++ ((mbx g R3) ++ B0)) G0 w5) := Lib.hid (E4.out.below hb)
            clear E4 hb
            (try dsimp only)
            clear hHeld
            refine hKK.out _ _ (⟨E5.out.mhd (A := A0) (B := B0) rfl vE.out, E5.out.mhd (A := A0) (B := B0) rfl pE.out, E5.out.mcell (A := A0) (B := B0) rfl vE.out hjv, E5.out.mcell (A := A0) (B := B0) rfl pE.out hjp⟩) (fun hHeld => ?_)
            clear hKK KK
            try simp only [Act.put, List.setIfInBounds_toArray, List.set_cons_zero, List.set_cons_succ]
            refine uTake (i := 24) (some 104) (v := ?_) rfl rfl (by kernel_rfl) (by kernel_rfl) (by kernel_rfl) (by kernel_rfl) (fun _ _ _ h => h) (by rfl) (by assumption) ?_ ?_
            rotate_left
            · (intro wS hSw; (try dsimp only at hSw); go_simp; try with_reducible rfl)
            try simp only [Act.put, List.setIfInBounds_toArray, List.set_cons_zero, List.set_cons_succ]
            have mf7 := (E5.out.mr (A := A0) (B := B0) rfl vE.out).frozen j
            refine uReady (rs := [25]) (by kernel_rfl) (by simp) ?_
            refine ReadyU.consU (by kernel_rfl) rfl (fun KK hKK => ?_) ReadyU.nil
            go_simp
            have E6 : Hid (Env D w0 (A0 ++ ((mbx g (R3.set i ⟨vb, vl.set j (m2), vx⟩)) ++ B0)) G0 _) := Lib.hid ((E5.out.msetx (A := A0) (B := B0) rfl vE.out hjv (m2)))
            (try dsimp only)
            (try clear hHeld)
            refine hKK.out _ _ ?_
            clear hKK KK
            try simp only [Act.put, List.setIfInBounds_toArray, List.set_cons_zero, List.set_cons_succ]
            refine uDone (by kernel_rfl) ?_ _
            have HAJ : Hid (A1[j]? = some m2) := Lib.hid (by have hjm : j < (mrows R)[i].length := (by rw [← HUL.out]; exact hj); have hjq : j < (pivR q (mrows R) row col).length := (by rw [← HPG.out]; exact hjp); rw [← HA1.out, admN_get hjm hjq, m2h.out, m1h.out, HVK.out, HFE.out]; simp only [HUL.out, HPG.out])
            have HNX : Hid (mrows (R3.set i ⟨vb, vl.set j m2, vx⟩) = (mix (elimL q (mrows R) row col) ((mrows R).set row (pivR q (mrows R) row col)) i).set i (mix A1 ul (j + 1))) := Lib.hid (by rw [mrows_set vE.out, HT.out, List.set_set, HVG.out, mix_set HAL.out (by rw [HAL.out]; exact hj) HAJ.out])
            have EZ := Lib.hid E6.out
            go_wp2
            go_roundg (ul.length - (j + 1))
            case rel => exact ⟨j + 1, R3.set i ⟨vb, vl.set j m2, vx⟩, rfl, EZ, Lib.hid ⟨⟨by omega, rfl⟩, HNX.out, HC3.out.set vE.out m2⟩⟩
            case measure => exact by omega
          have t8 : decide ((j : Int) < (ul.length : Int)) = false := decide_eq_false (by omega)
          have t9 : decide (j < ul.length) = false := decide_eq_false (by omega)
          have HNX : Hid (mrows R3 = mix (elimL q (mrows R) row col) ((mrows R).set row (pivR q (mrows R) row col)) (i + 1)) := Lib.hid (by rw [HT.out, hy, mix_full HAL.out (Nat.le_of_eq HAL.out), ← HA1.out]; exact half_set HRL.out HIL.out HIR.out)
          have HY2 := Lib.hid hy
          clear hy
          have EZ := Lib.hid EL.out
          go_wp2
          go_roundg (R.length - (i + 1))
          case rel => exact ⟨i + 1, R3, rfl, EZ, Lib.hid ⟨⟨by omega, rfl⟩, HNX.out, HC3.out⟩⟩
          case measure => exact by omega
      have t6 : decide ((i : Int) < (R.length : Int)) = false := decide_eq_false (by omega)
      have t7 : decide (i < R.length) = false := decide_eq_false (by omega)
      have HFN : Hid (mrows R2 = elimL q (mrows R) row col) := Lib.hid (by rw [HS.out, mix_full (by simp [elimL_len]) (by rw [elimL_len, HLR.out]; omega)])
      clear hy
      go_wp2
      refine bodyPost_end (results_none rfl _ _ _) rfl ?_
      exact ⟨rfl, R2, Lib.hid ⟨HFN.out, HC2.out⟩, EL⟩
end Go.Proofs.YteipbcpnnojclaaDoor

/- matrix: reduce. -/
namespace Go.Proofs.YteipbcpnnojclaaDoor
open Go.RowKit DivMath WordMath
set_option linter.unusedVariables false
set_option linter.unusedSimpArgs false
/-- is there no 0 in column c? -/
def colB (c : Nat) (l : List Int) : Bool := l.getD c 0 != 0
theorem colB_nl (c : Nat) (r : List Nat) : colB c (nl r) = (r.getD c 0 != 0) := by
  unfold colB nl
  by_cases h : c < r.length
  · rw [getD_elem h, List.getD_eq_getElem?_getD, List.getElem?_map, List.getElem?_eq_getElem h]
    simp only [Option.map_some, Option.getD_some]
    by_cases e : r[c] = 0
    · rw [e]; rfl
    · have e2 : ((r[c] : Nat) : Int) ≠ 0 := by omega
      rw [bne_iff_ne.2 e, bne_iff_ne.2 e2]
  · rw [List.getD_eq_getElem?_getD, List.getD_eq_getElem?_getD, List.getElem?_eq_none (by simp; omega), List.getElem?_eq_none (by omega)]; rfl
/-- what IndexFunc answers, and the pivot -/
def FirstI (l : List (List Int)) (c : Nat) (r : Int) : Prop := (r = -1 ∧ ∀ k (h : k < l.length), colB c (l[k]) = false) ∨ ∃ k : Nat, r = (k : Int) ∧ ∃ h : k < l.length, colB c (l[k]) = true ∧ ∀ j (h : j < l.length), j < k → colB c (l[j]) = false
theorem piv_or (L : List (List Nat)) (a c : Nat) : (pivN L a c = none ∧ FirstI ((L.drop a).map nl) c (-1)) ∨ ∃ k : Nat, pivN L a c = some k ∧ FirstI ((L.drop a).map nl) c (k : Int) := by
  unfold pivN
  cases e : (L.drop a).findIdx? (fun r => r.getD c 0 != 0) with
  | none =>
    refine .inl ⟨rfl, .inl ⟨rfl, fun k h => ?_⟩⟩
    rw [List.getElem_map, colB_nl]
    have h2 : k < (L.drop a).length := by simpa using h
    exact List.findIdx?_eq_none_iff.1 e _ (List.getElem_mem h2)
  | some k =>
    obtain ⟨h, h1, h2⟩ := List.findIdx?_eq_some_iff_getElem.1 e
    refine .inr ⟨k, rfl, .inr ⟨k, rfl, by simpa using h, ?_, fun j hj hjk => ?_⟩⟩
    · rw [List.getElem_map, colB_nl]; exact h1
    · rw [List.getElem_map, colB_nl]
      have := h2 j hjk
      simpa using this
theorem Env.freezeSeg {D0 : Nat → Prop} {w W : World} {A sg B : List Bx} {G : List Fct} {cs : List Value} {v : Value} {P : List Nat} (E : Env D0 w (A ++ (sg ++ B)) G W) (h : OI sg cs v (nl P)) : Env D0 w (A ++ B) (.rw v P.length 1 (ncl P) :: G) W := by
  have hR := OI.rwN h E (by intro p hp; simp [hp])
  have E1 : Env D0 w (sg ++ (A ++ B)) G W := E.perm (by
    rw [← List.append_assoc, ← List.append_assoc]
    exact (List.perm_append_right_iff B).2 List.perm_append_comm)
  rcases h.1 with ⟨rfl, rfl, rfl, h0⟩ | ⟨g, cap, rfl, rfl, h1, h2, h3⟩
  · refine Env.note (by simpa using E1) _ ?_
    rw [nl_len] at h0
    have : P = [] := List.length_eq_zero_iff.1 h0
    subst this; exact Rw.nil _ _ _
  · refine Env.note (Env.drop (p := (g, 3, cs)) E1) _ ?_
    obtain ⟨ao, c, e1, e2, e3, e4, e5, e6⟩ := hR
    refine ⟨ao, c, e1, e2, e3, e4, e5, fun hn => ?_⟩
    obtain ⟨b, off, rfl, ⟨hb, hd⟩, hc⟩ := e6 hn
    simp only [Value.slice.injEq, Option.some.injEq, Addr.mk.injEq, and_true] at e1
    obtain ⟨⟨rfl, rfl⟩, _⟩ := e1
    exact ⟨g, 0, rfl, ⟨hb, fun p hp e => E1.box.2.1 p hp e, .inr hd⟩, hc⟩
set_option maxRecDepth 100000 in
set_option maxHeartbeats 1000000 in
theorem mcol_c {D : Nat → Prop} (l : List Int) (c g : Nat) {xa : Option Addr} {xk : Nat} {w : World} (hx : Fct.at w D (.rw (.slice xa l.length xk) l.length 1 (icl l))) (hg : Fct.at w D (.ce g 0 (.int .i64 (c : Nat)))) (hc : c < l.length) {t : Bool} (ht0 : colB c l = t) :
    Calls Tryd.prog 122 #[.slice xa l.length xk, .pointer (some ⟨g, 0, none⟩)] w fun e w' => e = .returned (.bool t) ∧ Below w.heap.size w w' := by
  have E0 : Hid (Env D w [] [.ce g 0 (.int .i64 (c : Nat)), .rw (.slice xa l.length xk) l.length 1 (icl l)] w) := Lib.hid (((Env.start D w).arg (.rw (.slice xa l.length xk) l.length 1 (icl l)) hx).arg (.ce g 0 (.int .i64 (c : Nat))) hg)
  clear hx hg
  go_enter Tryd.func122, Tryd.ntmps122
  have hcI : (c : Int) < (l.length : Int) := by omega
  have HT : Hid ((l[c] != 0) = t) := Lib.hid (by rw [← ht0]; unfold colB; rw [List.getD_eq_getElem?_getD, List.getElem?_eq_getElem hc]; rfl)
  clear ht0
  go_upto_region 1 with (fail)
  obtain ⟨xab, xao, rfl⟩ := Rw.addr (E0.out.fc 1 rfl) (by omega)
  have E1 : Hid (Env D w [] [.ce xab (xao + c) (.int .i64 l[c]), .ce g 0 (.int .i64 (c : Nat)), .rw (.slice (some ⟨xab, xao, none⟩) l.length xk) l.length 1 (icl l)] _) := Lib.hid (E0.out.elI 1 rfl rfl (c) hc)
  clear E0
  have u0 := (E1.out.fc 0 rfl).2
  have cg := (E1.out.fc 1 rfl).2
  have HT2 := HT.out
  have hfin := Lib.hid E1.out.bel
  go_wp2
  go_ret
  exact ⟨rfl, hfin.out⟩
set_option maxRecDepth 100000 in
set_option maxHeartbeats 1000000 in
theorem mriI {D : Nat → Prop} (l : List (List Int)) (c : Nat) (g : Nat) {xa : Option Addr} {xk : Nat} {w : World} (hx : Fct.at w D (.mx (.slice xa l.length xk) l)) (hg : Fct.at w D (.ce g 0 (.int .i64 (c : Nat)))) (hc : ∀ r ∈ l, c < r.length) {r : Int} (hr0 : (r = -1 ∧ ∀ k (h : k < l.length), colB c (l[k]) = false) ∨ ∃ k : Nat, r = (k : Int) ∧ ∃ h : k < l.length, colB c (l[k]) = true ∧ ∀ j (h : j < l.length), j < k → colB c (l[j]) = false) (hm : l.length ≤ 1000000) :
    Calls Tryd.prog 87 #[.slice xa l.length xk, .func (.func 122) #[] #[.pointer (some ⟨g, 0, none⟩)]] w fun e w' => e = .returned (.int .i64 r) ∧ Below w.heap.size w w' := by
  have E0 : Hid (Env D w [] [.ce g 0 (.int .i64 (c : Nat)), .mx (.slice xa l.length xk) l] w) := Lib.hid (((Env.start D w).arg (.mx (.slice xa l.length xk) l) hx).arg (.ce g 0 (.int .i64 (c : Nat))) hg)
  clear hx hg
  go_enter Tryd.func87, Tryd.ntmps87
  have hr := Lib.hid hr0
  clear hr0
  go_wp2_with fail
  go_loopg [8] (l.length) (fun gk s8 wr => ∃ (k : Nat), s8 = .int .i64 (k : Int) ∧ Hid (Env D w [] [.ce g 0 (.int .i64 (c : Nat)), .mx (.slice xa l.length xk) l] wr) ∧ Hid ((k ≤ l.length ∧ gk = l.length - k) ∧ ∀ j (h : j < l.length), j < k → colB c (l[j]) = false))
  case atStart => exact ⟨0, rfl, Lib.hid E0.out, Lib.hid ⟨⟨Nat.zero_le _, rfl⟩, fun j _ h => absurd h (Nat.not_lt_zero _)⟩⟩
  case round =>
    clear E0
    obtain ⟨k, rfl, EL, HA⟩ := hrel
    obtain ⟨⟨a1, a2⟩, a3⟩ := HA.out
    have HS := Lib.hid a3
    clear a3 HA
    by_cases hy : k = l.length
    rotate_left
    · have hk : k < l.length := by omega
      have t6 : decide ((k : Int) < (l.length : Int)) = true := decide_eq_true (by omega)
      have t7 : decide (k < l.length) = true := decide_eq_true hk
      clear hy
      obtain ⟨xab, xao, rfl⟩ := Mx.addr (EL.out.fc 1 rfl) hk
      obtain ⟨ua, uk, E10⟩ := EL.out.elM 1 rfl (k) hk
      have E1 : Hid (Env D w [] [.ce xab (xao + k) (.slice ua l[k].length uk), .rw (.slice ua l[k].length uk) l[k].length 1 (icl l[k]), .ce g 0 (.int .i64 (c : Nat)), .mx (.slice (some ⟨xab, xao, none⟩) l.length xk) l] _) := Lib.hid E10
      clear E10 EL
      have u0 := (E1.out.fc 0 rfl).2
      by_cases hb : colB c (l[k]) = true
      · have HB := Lib.hid hb
        have HR : Hid (r = (k : Int)) := Lib.hid (by rcases hr.out with ⟨_, h9⟩ | ⟨j, rfl, hj, h8, h7⟩; (· have := h9 k hk; rw [hb] at this; cases this); rcases Nat.lt_trichotomy j k with e | e | e; (· have := HS.out j hj e; rw [h8] at this; cases this); (· rw [e]); (· have := h7 k hk e; rw [hb] at this; cases this))
        clear hb
        go_wp2_with fail
        refine (mcol_c l[k] c g (E1.out.fc 1 rfl) (E1.out.fc 2 rfl) (hc _ (List.getElem_mem hk)) HB.out).mono ?_
        rintro e w1 ⟨rfl, hb⟩
        have E2 : Hid (Env D w [] [.ce xab (xao + k) (.slice ua l[k].length uk), .rw (.slice ua l[k].length uk) l[k].length 1 (icl l[k]), .ce g 0 (.int .i64 (c : Nat)), .mx (.slice (some ⟨xab, xao, none⟩) l.length xk) l] w1) := Lib.hid (E1.out.below hb)
        clear u0 E1 hb
        have hfin := Lib.hid E2.out.bel
        go_wp2
        go_ret
        exact ⟨RetEq HR.out.symm, hfin.out⟩
      · have HB := Lib.hid (Bool.eq_false_iff.2 hb)
        clear hb
        go_wp2_with fail
        refine (mcol_c l[k] c g (E1.out.fc 1 rfl) (E1.out.fc 2 rfl) (hc _ (List.getElem_mem hk)) HB.out).mono ?_
        rintro e w1 ⟨rfl, hb⟩
        have E2 : Hid (Env D w [] [.ce xab (xao + k) (.slice ua l[k].length uk), .rw (.slice ua l[k].length uk) l[k].length 1 (icl l[k]), .ce g 0 (.int .i64 (c : Nat)), .mx (.slice (some ⟨xab, xao, none⟩) l.length xk) l] w1) := Lib.hid (E1.out.below hb)
        clear u0 E1 hb
        have EZ := Lib.hid ((E2.out.forget).forget)
        go_wp2
        go_roundg (l.length - (k + 1))
        case rel => exact ⟨k + 1, rfl, EZ, Lib.hid ⟨⟨by omega, rfl⟩, fun j h hj => by by_cases e : j = k; (· subst e; exact HB.out); exact HS.out j h (by omega)⟩⟩
        case measure => exact by omega
    have t6 : decide ((k : Int) < (l.length : Int)) = false := decide_eq_false (by omega)
    have t7 : decide (k < l.length) = false := decide_eq_false (by omega)
    have HR : Hid (r = -1) := Lib.hid (by rcases hr.out with ⟨h9, _⟩ | ⟨j, rfl, hj, h8, h7⟩; (· exact h9); have := HS.out j hj (by omega); rw [h8] at this; cases this)
    have HY := Lib.hid hy
    clear hy
    have hfin := Lib.hid EL.out.bel
    go_wp2
    go_ret
    exact ⟨RetEq HR.out.symm, hfin.out⟩
set_option maxRecDepth 100000 in
set_option maxHeartbeats 1000000 in
theorem mriC {D : Nat → Prop} (l : List (List Int)) (c : Nat) (g : Nat) {xa : Option Addr} {xk : Nat} {w : World} (hx : Fct.at w D (.mx (.slice xa l.length xk) l)) (hg : Fct.at w D (.ce g 0 (.int .i64 (c : Nat)))) (hc : ∀ r ∈ l, c < r.length) {t : Bool} (ht0 : l.any (fun x => colB c (x)) = t) (hm : l.length ≤ 1000000) :
    Calls Tryd.prog 40 #[.slice xa l.length xk, .func (.func 122) #[] #[.pointer (some ⟨g, 0, none⟩)]] w fun e w' => e = .returned (.bool t) ∧ Below w.heap.size w w' := by
  have E0 : Hid (Env D w [] [.ce g 0 (.int .i64 (c : Nat)), .mx (.slice xa l.length xk) l] w) := Lib.hid (((Env.start D w).arg (.mx (.slice xa l.length xk) l) hx).arg (.ce g 0 (.int .i64 (c : Nat))) hg)
  clear hx hg
  go_enter Tryd.func40, Tryd.ntmps40
  have ht := Lib.hid ht0
  clear ht0
  obtain ⟨r, hr⟩ : ∃ r : Int, ((r = -1 ∧ ∀ k (h : k < l.length), colB c (l[k]) = false) ∨ ∃ k : Nat, r = (k : Int) ∧ ∃ h : k < l.length, colB c (l[k]) = true ∧ ∀ j (h : j < l.length), j < k → colB c (l[j]) = false) := first_any l (fun x => colB c (x))
  have hd : Hid (decide (0 ≤ r) = t) := Lib.hid (by rw [← ht.out]; exact first_dec hr)
  have HR := Lib.hid hr
  clear hr ht
  go_wp2_with fail
  refine (mriI l c g (E0.out.fc 1 rfl) (E0.out.fc 0 rfl) hc (hr0 := HR.out) (hm := hm)).mono ?_
  rintro e w1 ⟨rfl, hb⟩
  have E1 : Hid (Env D w [] [.ce g 0 (.int .i64 (c : Nat)), .mx (.slice xa l.length xk) l] w1) := Lib.hid (E0.out.below hb)
  clear E0 hb
  have HD := hd.out
  have hfin := Lib.hid E1.out.bel
  go_wp2
  go_ret
  exact ⟨rfl, hfin.out⟩
set_option maxRecDepth 100000 in
set_option maxHeartbeats 8000000 in
theorem reduce_c (q n cols : Nat) (R : List Rb) {g : Nat} {D : Nat → Prop} {w0 w : World} {A0 B0 : List Bx} {G0 : List Fct} (E0 : Hid (Env D w0 (A0 ++ (mbx g R ++ B0)) G0 w)) (hq0 : 2 ≤ q) (hqT0 : (q : Int) < Top) (hres0 : ResM q n (mrows R)) (hcol0 : cols ≤ n) (hR : R.length ≤ 1000) (hn0 : n ≤ 1000) (hcap0 : CapOk R) :
    Calls Tryd.prog 84 #[.int .i64 (q : Nat), .slice (some ⟨g, 0, none⟩) R.length R.length, .int .i64 (cols : Nat)] w fun e w' => ∃ R' P pa pk, e = .returned (.slice pa P.length pk) ∧ Hid ((mrows R', P) = redN q (mrows R) cols ∧ CapOk R') ∧ Hid (Env D w0 (A0 ++ (mbx g R' ++ B0)) (.rw (.slice pa P.length pk) P.length 1 (ncl P) :: G0) w') := by
  go_enter Tryd.func84, Tryd.ntmps84
  have hq := Lib.hid hq0
  have hqT := Lib.hid hqT0
  have hres := Lib.hid hres0
  have hcol := Lib.hid hcol0
  have hn := Lib.hid hn0
  have hcap := Lib.hid hcap0
  clear hq0 hqT0 hres0 hcol0 hn0 hcap0
  have hq1 : Hid (0 < q) := Lib.hid (by have := hq.out; omega)
  have HOK := Lib.hid (redN_ok hq1.out hres.out)
  have HLR : Hid ((mrows R).length = R.length) := Lib.hid (List.length_map ..)
  have hc9 : cols ≤ 1000 := by have := hcol.out; have := hn.out; omega
  go_wp2_with fail
  go_loopg [12, 7] (cols) (fun gk s12 s7 wr => ∃ (c : Nat) (R1 : List Rb) (P : List Nat) (sg : List Bx) (cs : List Value) (va : Option Addr) (vk : Nat), s12 = .int .i64 (c : Int) ∧ s7 = .slice va P.length vk ∧ Hid (Env D w0 (A0 ++ ((mbx g R1) ++ (sg ++ B0))) G0 wr) ∧ Hid (OI sg cs (.slice va P.length vk) (nl P)) ∧ Hid ((c ≤ cols ∧ gk = cols - c) ∧ (mrows R1, P) = redN q (mrows R) c ∧ CapOk R1))
  case atStart => exact ⟨0, R, [], [], [], none, 0, rfl, rfl, Lib.hid (E0.out.cast (by simp)), Lib.hid OI.nlnil, Lib.hid ⟨⟨Nat.zero_le _, rfl⟩, rfl, hcap.out⟩⟩
  case round =>
    clear E0
    obtain ⟨c, R1, P, sg, cs, va, vk, rfl, rfl, EL, hO, HA⟩ := hrel
    obtain ⟨⟨a1, a2⟩, a3, a4⟩ := HA.out
    have HS := Lib.hid a3
    have HXC := Lib.hid a4
    clear a3 a4 HA
    have HI : Hid (RedI q n R.length c (mrows R1, P)) := Lib.hid (by have h := HOK.out c; rw [← HS.out, HLR.out] at h; exact h)
    have HL1 : Hid (R1.length = R.length) := Lib.hid (by have h := HI.out.len; simpa using h)
    have hpl : P.length ≤ R.length := HI.out.few.1
    have hpc : P.length ≤ c := HI.out.few.2
    have HNL := Lib.hid (nl_len P)
    by_cases hy : c = cols
    · have t6 : decide ((c : Int) < (cols : Int)) = false := decide_eq_false (by omega)
      have t7 : decide (c < cols) = false := decide_eq_false (by omega)
      have HY := Lib.hid hy
      clear hy
      have HF : Hid ((mrows R1, P) = redN q (mrows R) cols) := Lib.hid (by rw [← HY.out]; exact HS.out)
      go_wp2
      go_ret
      have EF := Env.freezeSeg (A := (A0 ++ (mbx g R1))) (sg := sg) (B := B0) (Env.cast (EL.out) (by simp)) hO.out
      exact ⟨R1, P, va, vk, rfl, Lib.hid ⟨HF.out, HXC.out⟩, Lib.hid (EF.cast (by simp))⟩
    have hc : c < cols := by omega
    have t6 : decide ((c : Int) < (cols : Int)) = true := decide_eq_true (by omega)
    have t7 : decide (c < cols) = true := decide_eq_true hc
    clear hy
    by_cases hb : P.length = R.length
    · have e1 : ((P.length : Int) == (R.length : Int)) = true := beq_iff_eq.2 (by omega)
      have e2 : (P.length == R.length) = true := beq_iff_eq.2 hb
      have HB := Lib.hid hb
      clear hb
      have HF : Hid ((mrows R1, P) = redN q (mrows R) cols) := Lib.hid (by rw [HS.out]; exact (redN_stop (by rw [← HS.out]; simp only [List.length_map]; rw [HL1.out, HB.out]; exact Nat.le_refl _) _ a1).symm)
      have E1 : Hid (Env D w0 ((wr.heap.size, 3, [.int .i64 (c : Int)]) :: (A0 ++ ((mbx g R1) ++ (sg ++ B0)))) G0 _) := Lib.hid ((EL.out.push 3 [.int .i64 (c : Int)] (wr.heap.size) (by simp)))
      go_wp2
      go_ret
      have EF := Env.freezeSeg (A := (A0 ++ (mbx g R1))) (sg := sg) (B := B0) (Env.cast (E1.out.drop) (by simp)) hO.out
      exact ⟨R1, P, va, vk, rfl, Lib.hid ⟨HF.out, HXC.out⟩, Lib.hid (EF.cast (by simp))⟩
    have e1 : ((P.length : Int) == (R.length : Int)) = false := beq_eq_false_iff_ne.2 (by omega)
    have e2 : (P.length == R.length) = false := beq_eq_false_iff_ne.2 hb
    have hpr : P.length < R.length := by omega
    have hprI : (P.length : Int) < (R.length : Int) := by omega
    have hprL : (P.length : Int) ≤ (R.length : Int) := by omega
    clear hb
    go_upto_region 7 with (fail)
    have HCN : Hid (c < n) := Lib.hid (by have := hcol.out; omega)
    have HCR : Hid (∀ r ∈ ((mrows R1).drop P.length).map nl, c < r.length) := Lib.hid (by intro r hr; obtain ⟨x, hx, rfl⟩ := List.mem_map.1 hr; rw [nl_len, (HI.out.res x (List.mem_of_mem_drop hx)).1]; exact HCN.out)
    have HDL : Hid ((((mrows R1).drop P.length).map nl).length = R.length - P.length) := Lib.hid (by simp; rw [HL1.out])
    rcases piv_or (mrows R1) P.length c with ⟨h1, h2⟩ | ⟨k, h1, h2⟩
    · have HPN := Lib.hid h1
      have HFI := Lib.hid h2
      clear h1 h2
      have E1 : Hid (Env D w0 ((wr.heap.size, 3, [.int .i64 (c : Int)]) :: (A0 ++ ((mbx g R1) ++ (sg ++ B0)))) G0 _) := Lib.hid ((EL.out.push 3 [.int .i64 (c : Int)] (wr.heap.size) (by simp)))
      have HIX := mriI (((mrows R1).drop P.length).map nl) c (wr.heap.size) (D := fun _ => True) (E1.out.mmx (A := ((wr.heap.size, 3, [.int .i64 (c : Int)]) :: A0)) (B := (sg ++ B0)) rfl (a := P.length) (cap := R.length - P.length) (by rw [HL1.out]; exact Nat.le_refl _) (by omega) HXC.out) ⟨⟨(E1.out.bx 0 rfl).lt, trivial⟩, (E1.out.bx 0 rfl).cell 0 rfl⟩ HCR.out (r := (-1)) HFI.out (by rw [HDL.out]; omega)
      rw [HDL.out] at HIX
      have HIY := Lib.hid HIX
      clear HIX
      go_wp2_with fail
      refine (HIY.out).mono ?_
      rintro e w1 ⟨rfl, hb⟩
      have E2 : Hid (Env D w0 ((wr.heap.size, 3, [.int .i64 (c : Int)]) :: (A0 ++ ((mbx g R1) ++ (sg ++ B0)))) G0 w1) := Lib.hid (E1.out.below hb)
      clear EL E1 hb
      have EZ := Lib.hid (E2.out.drop)
      go_wp2
      go_roundg (cols - (c + 1))
      case rel => exact ⟨c + 1, R1, P, sg, cs, va, vk, rfl, rfl, Lib.hid (EZ.out.cast (by simp)), hO, Lib.hid ⟨⟨by omega, rfl⟩, by rw [redN, ← HS.out, redS_none HPN.out], HXC.out⟩⟩
      case measure => exact by omega
    have HPN := Lib.hid h1
    have HFI := Lib.hid h2
    have HPK : Hid (P.length + k < R.length) := Lib.hid (by have h := pivN_some h1; rw [List.length_map, HL1.out] at h; exact h)
    clear h1 h2
    have hpk := HPK.out
    have hk0 : decide ((k : Int) < 0) = false := decide_eq_false (by omega)
    have E1 : Hid (Env D w0 ((wr.heap.size, 3, [.int .i64 (c : Int)]) :: (A0 ++ ((mbx g R1) ++ (sg ++ B0)))) G0 _) := Lib.hid ((EL.out.push 3 [.int .i64 (c : Int)] (wr.heap.size) (by simp)))
    have HIX := mriI (((mrows R1).drop P.length).map nl) c (wr.heap.size) (D := fun _ => True) (E1.out.mmx (A := ((wr.heap.size, 3, [.int .i64 (c : Int)]) :: A0)) (B := (sg ++ B0)) rfl (a := P.length) (cap := R.length - P.length) (by rw [HL1.out]; exact Nat.le_refl _) (by omega) HXC.out) ⟨⟨(E1.out.bx 0 rfl).lt, trivial⟩, (E1.out.bx 0 rfl).cell 0 rfl⟩ HCR.out (r := (k : Int)) HFI.out (by rw [HDL.out]; omega)
    rw [HDL.out] at HIX
    have HIY := Lib.hid HIX
    clear HIX
    go_wp2_with fail
    refine (HIY.out).mono ?_
    rintro e w1 ⟨rfl, hb⟩
    have E2 : Hid (Env D w0 ((wr.heap.size, 3, [.int .i64 (c : Int)]) :: (A0 ++ ((mbx g R1) ++ (sg ++ B0)))) G0 w1) := Lib.hid (E1.out.below hb)
    clear EL E1 hb
    go_upto_region 9 with (fail)
    clear hk0
    have h1a : P.length < R1.length := by rw [HL1.out]; exact hpr
    have h1b : P.length + k < R1.length := by rw [HL1.out]; exact hpk
    obtain ⟨⟨xb, xl, xx⟩, xe⟩ : ∃ r, R1[P.length]? = some r := ⟨_, List.getElem?_eq_getElem h1a⟩
    have xE := Lib.hid xe
    clear xe
    obtain ⟨pk, hpk2⟩ : ∃ pk, P.length + k = pk := ⟨_, rfl⟩
    have HPK2 := Lib.hid hpk2
    rw [hpk2] at hpk h1b
    have hpkI : (pk : Int) < (R.length : Int) := by omega
    have hwk : IntKind.i64.wrap ((P.length : Int) + (k : Int)) = (pk : Int) := by rw [← hpk2]; exact wrapI_add _ _ (by omega)
    clear hpk2
    obtain ⟨⟨yb, yl, yx⟩, ye⟩ : ∃ r, R1[pk]? = some r := ⟨_, List.getElem?_eq_getElem h1b⟩
    have yE := Lib.hid ye
    clear ye
    go_wp2_with fail
    have E3 : Hid (Env D w0 ((wr.heap.size, 3, [.int .i64 (c : Int)]) :: (A0 ++ ((mbx g R1) ++ (sg ++ B0)))) G0 (w1.drew)) := Lib.hid E2.out.drew
    clear E2
    refine wp_regionU (S := fun w' => w'.cell? ⟨g, P.length, none⟩ = some (.slice (some ⟨xb, 0, none⟩) xl.length (xl.length + xx.length)) ∧ w'.cell? ⟨g, pk, none⟩ = some (.slice (some ⟨yb, 0, none⟩) yl.length (yl.length + yx.length))) [2, 3, 4, 5, 12, 13, 14, 17, 18, 19] (by kernel_rfl) (⟨E3.out.mhd (A := ((wr.heap.size, 3, [.int .i64 (c : Int)]) :: A0)) (B := (sg ++ B0)) rfl xE.out, E3.out.mhd (A := ((wr.heap.size, 3, [.int .i64 (c : Int)]) :: A0)) (B := (sg ++ B0)) rfl yE.out⟩) (fun hHeld => ?_)
    generalize w1.drew = w2 at *
    refine uPure (i := 2) (some 30) (v := ?_) rfl rfl (by kernel_rfl) (by kernel_rfl) (by kernel_rfl) (by kernel_rfl) (fun _ _ _ h => h) (by rfl) ?_ ?_
    rotate_left
    · (intro wS; go_simp; try with_reducible rfl)
    try simp only [Act.put, List.setIfInBounds_toArray, List.set_cons_zero, List.set_cons_succ]
    refine uPure (i := 3) (some 31) (v := ?_) rfl rfl (by kernel_rfl) (by kernel_rfl) (by kernel_rfl) (by kernel_rfl) (fun _ _ _ h => h) (by rfl) ?_ ?_
    rotate_left
    · (intro wS; go_simp; try with_reducible rfl)
    try simp only [Act.put, List.setIfInBounds_toArray, List.set_cons_zero, List.set_cons_succ]
    refine uPure (i := 4) (some 32) (v := ?_) rfl rfl (by kernel_rfl) (by kernel_rfl) (by kernel_rfl) (by kernel_rfl) (fun _ _ _ h => h) (by rfl) ?_ ?_
    rotate_left
    · (intro wS; go_simp; try with_reducible rfl)
    try simp only [Act.put, List.setIfInBounds_toArray, List.set_cons_zero, List.set_cons_succ]
    refine uPure (i := 5) (some 33) (v := .int .i64 (pk : Int)) rfl rfl (by kernel_rfl) (by kernel_rfl) (by kernel_rfl) (by kernel_rfl) (fun _ _ _ h => h) (by rfl) ?_ ?_
    · (intro wS; go_simp)
    try simp only [Act.put, List.setIfInBounds_toArray, List.set_cons_zero, List.set_cons_succ]
    refine uPure (i := 12) (some 40) (v := ?_) rfl rfl (by kernel_rfl) (by kernel_rfl) (by kernel_rfl) (by kernel_rfl) (fun _ _ _ h => h) (by rfl) ?_ ?_
    rotate_left
    · (intro wS; go_simp; try with_reducible rfl)
    try simp only [Act.put, List.setIfInBounds_toArray, List.set_cons_zero, List.set_cons_succ]
    refine uPure (i := 13) (some 41) (v := ?_) rfl rfl (by kernel_rfl) (by kernel_rfl) (by kernel_rfl) (by kernel_rfl) (fun _ _ _ h => h) (by rfl) ?_ ?_
    rotate_left
    · (intro wS; go_simp; try with_reducible rfl)
    try simp only [Act.put, List.setIfInBounds_toArray, List.set_cons_zero, List.set_cons_succ]
    refine uPure (i := 14) (some 42) (v := ?_) rfl rfl (by kernel_rfl) (by kernel_rfl) (by kernel_rfl) (by kernel_rfl) (fun _ _ _ h => h) (by rfl) ?_ ?_
    rotate_left
    · (intro wS; go_simp; try with_reducible rfl)
    try simp only [Act.put, List.setIfInBounds_toArray, List.set_cons_zero, List.set_cons_succ]
    refine uTake (i := 0) (some 28) (v := ?_) rfl rfl (by kernel_rfl) (by kernel_rfl) (by kernel_rfl) (by kernel_rfl) (fun _ _ _ h => h) (by rfl) (by assumption) ?_ ?_
    rotate_left
    · (intro wS hSw; (try dsimp only at hSw); go_simp; try with_reducible rfl)
    try simp only [Act.put, List.setIfInBounds_toArray, List.set_cons_zero, List.set_cons_succ]
    refine uTake (i := 1) (some 29) (v := ?_) rfl rfl (by kernel_rfl) (by kernel_rfl) (by kernel_rfl) (by kernel_rfl) (fun _ _ _ h => h) (by rfl) (by assumption) ?_ ?_
    rotate_left
    · (intro wS hSw; (try dsimp only at hSw); go_simp; try with_reducible rfl)
    try simp only [Act.put, List.setIfInBounds_toArray, List.set_cons_zero, List.set_cons_succ]
    refine uTake (i := 6) (some 34) (v := ?_) rfl rfl (by kernel_rfl) (by kernel_rfl) (by kernel_rfl) (by kernel_rfl) (fun _ _ _ h => h) (by rfl) (by assumption) ?_ ?_
    rotate_left
    · (intro wS hSw; (try dsimp only at hSw); go_simp; try with_reducible rfl)
    try simp only [Act.put, List.setIfInBounds_toArray, List.set_cons_zero, List.set_cons_succ]
    refine uTake (i := 7) (some 35) (v := ?_) rfl rfl (by kernel_rfl) (by kernel_rfl) (by kernel_rfl) (by kernel_rfl) (fun _ _ _ h => h) (by rfl) (by assumption) ?_ ?_
    rotate_left
    · (intro wS hSw; (try dsimp only at hSw); go_simp; try with_reducible rfl)
    try simp only [Act.put, List.setIfInBounds_toArray, List.set_cons_zero, List.set_cons_succ]
    refine uTake (i := 8) (some 36) (v := ?_) rfl rfl (by kernel_rfl) (by kernel_rfl) (by kernel_rfl) (by kernel_rfl) (fun _ _ _ h => h) (by rfl) (by assumption) ?_ ?_
    rotate_left
    · (intro wS hSw; (try dsimp only at hSw); go_simp; try with_reducible rfl)
    try simp only [Act.put, List.setIfInBounds_toArray, List.set_cons_zero, List.set_cons_succ]
    refine uTake (i := 9) (some 37) (v := .int .i64 (pk : Int)) rfl rfl (by kernel_rfl) (by kernel_rfl) (by kernel_rfl) (by kernel_rfl) (fun _ _ _ h => h) (by rfl) (by assumption) ?_ ?_
    · (intro wS hSw; (try dsimp only at hSw); go_simp)
    try simp only [Act.put, List.setIfInBounds_toArray, List.set_cons_zero, List.set_cons_succ]
    refine uTake (i := 10) (some 38) (v := ?_) rfl rfl (by kernel_rfl) (by kernel_rfl) (by kernel_rfl) (by kernel_rfl) (fun _ _ _ h => h) (by rfl) (by assumption) ?_ ?_
    rotate_left
    · (intro wS hSw; (try dsimp only at hSw); go_simp; try with_reducible rfl)
    try simp only [Act.put, List.setIfInBounds_toArray, List.set_cons_zero, List.set_cons_succ]
    refine uTake (i := 11) (some 39) (v := ?_) rfl rfl (by kernel_rfl) (by kernel_rfl) (by kernel_rfl) (by kernel_rfl) (fun _ _ _ h => h) (by rfl) (by assumption) ?_ ?_
    rotate_left
    · (intro wS hSw; (try dsimp only at hSw); go_simp; try with_reducible rfl)
    try simp only [Act.put, List.setIfInBounds_toArray, List.set_cons_zero, List.set_cons_succ]
    refine uTake (i := 15) (some 43) (v := ?_) rfl rfl (by kernel_rfl) (by kernel_rfl) (by kernel_rfl) (by kernel_rfl) (fun _ _ _ h => h) (by rfl) (by assumption) ?_ ?_
    rotate_left
    · (intro wS hSw; (try dsimp only at hSw); go_simp; try with_reducible rfl)
    try simp only [Act.put, List.setIfInBounds_toArray, List.set_cons_zero, List.set_cons_succ]
    refine uTake (i := 16) (some 44) (v := ?_) rfl rfl (by kernel_rfl) (by kernel_rfl) (by kernel_rfl) (by kernel_rfl) (fun _ _ _ h => h) (by rfl) (by assumption) ?_ ?_
    rotate_left
    · (intro wS hSw; (try dsimp only at hSw); go_simp; try with_reducible rfl)
    try simp only [Act.put, List.setIfInBounds_toArray, List.set_cons_zero, List.set_cons_succ]
    have fz1 := (E3.out.mh (A := ((wr.heap.size, 3, [.int .i64 (c : Int)]) :: A0)) (B := (sg ++ B0)) rfl).frozen P.length
    refine uReady (rs := [17]) (by kernel_rfl) (by simp) ?_
    refine ReadyU.consU (by kernel_rfl) rfl (fun KK hKK => ?_) ReadyU.nil
    go_simp
    have E4 : Hid (Env D w0 ((wr.heap.size, 3, [.int .i64 (c : Int)]) :: (A0 ++ ((mbh g ((R1.map Rb.hd).set P.length (.slice (some ⟨yb, 0, none⟩) yl.length (yl.length + yx.length))) R1) ++ (sg ++ B0)))) G0 _) := Lib.hid ((E3.out.mhset (A := ((wr.heap.size, 3, [.int .i64 (c : Int)]) :: A0)) (B := (sg ++ B0)) rfl P.length (.slice (some ⟨yb, 0, none⟩) yl.length (yl.length + yx.length))))
    (try dsimp only)
    (try clear hHeld)
    refine hKK.out _ _ ?_
    clear hKK KK
    try simp only [Act.put, List.setIfInBounds_toArray, List.set_cons_zero, List.set_cons_succ]
    refine uPure (i := 18) (some 45) (v := ?_) rfl rfl (by kernel_rfl) (by kernel_rfl) (by kernel_rfl) (by kernel_rfl) (fun _ _ _ h => h) (by rfl) ?_ ?_
    rotate_left
    · (intro wS; go_simp; try with_reducible rfl)
    try simp only [Act.put, List.setIfInBounds_toArray, List.set_cons_zero, List.set_cons_succ]
    clear fz1
    have fz2 := (E4.out.mh (A := ((wr.heap.size, 3, [.int .i64 (c : Int)]) :: A0)) (B := (sg ++ B0)) rfl).frozen pk
    obtain ⟨cv2, hcv2⟩ : ∃ v, ((R1.map Rb.hd).set P.length (.slice (some ⟨yb, 0, none⟩) yl.length (yl.length + yx.length)))[pk]? = some v := ⟨_, List.getElem?_eq_getElem (by simpa using h1b)⟩
    have cz2 := (E4.out.mh (A := ((wr.heap.size, 3, [.int .i64 (c : Int)]) :: A0)) (B := (sg ++ B0)) rfl).cell pk hcv2
    clear hcv2
    refine uReady (rs := [19]) (by kernel_rfl) (by simp) ?_
    refine ReadyU.consU (by kernel_rfl) rfl (fun KK hKK => ?_) ReadyU.nil
    go_simp
    have E5 : Hid (Env D w0 ((wr.heap.size, 3, [.int .i64 (c : Int)]) :: (A0 ++ ((mbx g (swapL R1 P.length pk)) ++ (sg ++ B0)))) G0 _) := Lib.hid ((Env.mswap (A := ((wr.heap.size, 3, [.int .i64 (c : Int)]) :: A0)) (B := (sg ++ B0)) (E4.out.mhset (A := ((wr.heap.size, 3, [.int .i64 (c : Int)]) :: A0)) (B := (sg ++ B0)) rfl pk (.slice (some ⟨xb, 0, none⟩) xl.length (xl.length + xx.length))) rfl xE.out yE.out))
    (try dsimp only)
    (try clear hHeld)
    refine hKK.out _ _ ?_
    clear hKK KK
    try simp only [Act.put, List.setIfInBounds_toArray, List.set_cons_zero, List.set_cons_succ]
    refine uDone (by kernel_rfl) ?_ _
    clear fz2 cz2
    go_upto_region 10 with (fail)
    clear E3 E4
    generalize (w2.setCell ⟨g, P.length, none⟩ (.slice (some ⟨yb, 0, none⟩) yl.length (yl.length + yx.length))).setCell ⟨g, pk, none⟩ (.slice (some ⟨xb, 0, none⟩) xl.length (xl.length + xx.length)) = w3 at *
    have HLS : Hid ((swapL R1 P.length pk).length = R.length) := Lib.hid (by rw [swapL_len, HL1.out])
    have hls := HLS.out
    have HMS : Hid (mrows (swapL R1 P.length pk) = swapL (mrows R1) P.length pk) := Lib.hid (swapL_map Rb.l).symm
    have HRS : Hid (ResM q n (mrows (swapL R1 P.length pk))) := Lib.hid (by rw [HMS.out]; exact swapL_res HI.out.res)
    have b1 := E5.out.bx 0 rfl
    have c1_0 := b1.cell 0 rfl
    clear b1
    go_wp2_with fail
    have EC := elim_c q n P.length c (swapL R1 P.length pk) (A0 := ((wr.heap.size, 3, [.int .i64 (c : Int)]) :: A0)) (B0 := (sg ++ B0)) E5 hq.out hqT.out HRS.out (by rw [hls]; exact hpr) HCN.out (by rw [hls]; exact hR) hn.out HXC.out.swap
    rw [hls] at EC
    refine EC.mono ?_
    rintro e w9 ⟨rfl, R3, HR3, E9⟩
    clear c1_0 E5
    have E6 : Hid (Env D w0 ((wr.heap.size, 3, [.int .i64 (c : Int)]) :: (A0 ++ ((mbx g R3) ++ (sg ++ B0)))) G0 w9) := Lib.hid (E9.out.cast (by simp))
    clear E9 EC
    have b2 := E6.out.bx 0 rfl
    have c2_0 := b2.cell 0 rfl
    clear b2
    have E7 : Hid (Env D w0 ((w9.heap.size, 3, [.int .i64 (c : Int)]) :: (wr.heap.size, 3, [.int .i64 (c : Int)]) :: (A0 ++ ((mbx g R3) ++ (sg ++ B0)))) G0 _) := Lib.hid ((E6.out.push 3 [.int .i64 (c : Int)] (w9.heap.size) (by simp)))
    go_wp2_with (at_builtin; refine wpl_app1 (c := 1) tiI rfl _ _ rfl E7.out (A := ((w9.heap.size, 3, [.int .i64 (c : Int)]) :: (wr.heap.size, 3, [.int .i64 (c : Int)]) :: (A0 ++ (mbx g R3)))) (sg := sg) (B' := B0) (F := ((w9.heap.size, 3, [.int .i64 (c : Int)]) :: (wr.heap.size, 3, [.int .i64 (c : Int)]) :: (A0 ++ ((mbx g R3) ++ (sg ++ B0))))) (by simp) (hO.out.os HNL.out) rfl rfl (SrcN.int (E7.out.bx 0 rfl)) (by omega) ?_)
    intro ng np nc w4 nH nT nE
    have nO := Lib.hid (OI.app (x := (c : Int)) (g' := ng) (cs' := nc) (cap' := np) hO.out HNL.out (by simpa using nH.out) (by simpa using nT.out))
    have E8 : Hid (Env D w0 ((w9.heap.size, 3, [.int .i64 (c : Int)]) :: (wr.heap.size, 3, [.int .i64 (c : Int)]) :: (A0 ++ ((mbx g R3) ++ ((ng, 3, nc) :: B0)))) G0 w4) := Lib.hid (nE.out.cast (by simp))
    clear c2_0 E6 E7 nE nH nT hO
    have OZ : Hid (OI [(ng, 3, nc)] nc (.slice (some ⟨ng, 0, none⟩) (P ++ [c]).length np) (nl (P ++ [c]))) := Lib.hid (by rw [show nl (P ++ [c]) = nl P ++ [(c : Int)] from by simp [nl], List.length_append, List.length_singleton]; exact nO.out)
    have HSN : Hid ((mrows R3, P ++ [c]) = redN q (mrows R) (c + 1)) := Lib.hid (by rw [redN, ← HS.out, redS_some HPN.out, HR3.out.1, HMS.out]; simp only [HPK2.out])
    have EZ := Lib.hid (E8.out.drop.drop)
    go_wp2
    go_roundg (cols - (c + 1))
    case rel => exact ⟨c + 1, R3, P ++ [c], [(ng, 3, nc)], nc, some ⟨ng, 0, none⟩, np, rfl, by simp, Lib.hid (EZ.out.cast (by simp)), OZ, Lib.hid ⟨⟨by omega, rfl⟩, HSN.out, HR3.out.2⟩⟩
    case measure => exact by omega
end Go.Proofs.YteipbcpnnojclaaDoor

/- matrix: copied; what makes matrices. -/
namespace Go.Proofs.YteipbcpnnojclaaDoor
open Go.RowKit DivMath WordMath
set_option linter.unusedVariables false
set_option linter.unusedSimpArgs false
theorem Tryd.infoRow : (Tryd.prog.info? 22).map (fun i => (i.zero, i.size, i.bytes)) = some (some (Value.slice none 0 0), 1, 24) := by kernel_rfl
theorem tiR : TI 44 22 1 := .ofInfo Tryd.underlying44 Tryd.infoRow rfl (by omega) (by omega)
/-- make([][]int, n) -/
theorem wpl_makeR {D0 : Nat → Prop} {w W : World} {F : List Bx} {G : List Fct} {ops : Array Oper} {rest : List Oper} {o : Oper} {a : Act} {Q : Exit → Act → World → Prop}
    (hg : o.guard = none) (l c : Operand) (hop : o.op = Op.makeSlice 44 l c) (E : Env D0 w F G W) (n : Nat) (hl : a.eval l = .int .i64 (n : Int)) (hc : a.eval c = .int .i64 (n : Int)) (hn : n ≤ 1000000)
    (hK : ∀ W' g, Hid (Env D0 w ((g, 22, List.replicate n (.slice none 0 0)) :: F) G W') → wpList Tryd.prog ops Q rest (a.put o.dst (.slice (some ⟨g, 0, none⟩) n n)) W') :
    wpList Tryd.prog ops Q (o :: rest) a W := by
  obtain ⟨i0, hi, hz0, hz1, hz2⟩ := info_parts Tryd.infoRow
  refine wpList_make_full W hg l c 44 hop 0 22 i0 (.slice none 0 0) 1 Tryd.underlying44 hi hz0 hz1 .i64 .i64 n n n hl hc rfl rfl (by rw [hz2]; omega) (by unfold maxLen; omega) (Nat.zero_le _) fun W' hown hgrow => ?_
  refine hK W' _ (Lib.hid ?_)
  have hbw : Below W.heap.size W W' := ⟨hgrow.os, hgrow.tape, hgrow.output, hgrow.size, fun k hk => hgrow.block k hk (by simp)⟩
  rcases hown.2 with ⟨h0, _⟩ | ⟨g', cap', cur, e, _, hg', h2, h3, h4, h5⟩
  · cases h0
  · simp only [Value.slice.injEq, Option.some.injEq, Addr.mk.injEq] at e
    obtain ⟨⟨rfl, _⟩, _, rfl⟩ := e
    have hcs : cur.toList = List.replicate n (.slice none 0 0) := by
      have e1 : (madeCells (Value.slice none 0 0).cells (n * 1)).toList = List.replicate n (Value.slice none 0 0) := by
        rw [Nat.mul_one]; exact toList_madeCells_one _ _
      rw [e1, List.take_of_length_le (by simp [h4])] at h5
      exact h5
    have E3 := E.gotBox hbw (g := W.heap.size) (T := 22) (cs := cur.toList) ⟨Nat.le_refl _, by rw [Array.toArray_toList]; exact hg'⟩
    rw [hcs] at E3
    exact E3
/-- the clone of a row -/
theorem cloneRow_c {D : Nat → Prop} {v : Value} {l : List Nat} {w : World} (h : Fct.at w D (.rw v l.length 1 (ncl l))) (hl : l.length ≤ 1000000) (h0 : 0 < l.length) :
    Calls Tryd.prog 39 #[v] w fun e w' => (∃ g x, e = .returned (.slice (some ⟨g, 0, none⟩) l.length (l.length + x.length)) ∧ Hid (Box w.heap.size g 3 (ncl l ++ x) w') ∧ Hid (l.length + x.length ≤ 9223372036854775807)) ∧ Below w.heap.size w w' :=
  (cloneRInt h hl).mono fun e w' ⟨⟨v', h1, h2⟩, hb⟩ => by
    rcases h2.2 with ⟨rfl, hz⟩ | ⟨g, cap, cur, rfl, hge, hg, hn, hm, hs, ht⟩
    · omega
    · have e1 : ncl l ++ cur.toList.drop l.length = cur.toList := by
        rw [← ht]; simp
      have e2 : l.length + (cur.toList.drop l.length).length = cap := by
        have h9 : cur.toList.length = cap * 1 := by simpa using hs
        rw [List.length_drop, h9]; omega
      refine ⟨⟨g, cur.toList.drop l.length, by rw [e2]; exact h1, Lib.hid ⟨hge, ?_⟩, Lib.hid (by rw [e2]; unfold maxLen at hm; omega)⟩, hb⟩
      rw [e1, Array.toArray_toList]; exact hg
section
variable {D0 : Nat → Prop} {w W : World} {F A B : List Bx} {G : List Fct} {g : Nat} {hs : List Value} {R : List Rb} {r : Rb}
theorem Env.mgrow (E : Env D0 w ((r.b, 3, ncl r.l ++ r.x) :: (A ++ (mbh g hs R ++ B))) G W) : Env D0 w (A ++ (mbh g hs (R ++ [r]) ++ B)) G W := by
  refine E.perm ?_
  unfold mbh
  rw [List.map_append, List.map_cons, List.map_nil]
  refine List.Perm.trans (List.perm_middle (l₁ := A) (a := (r.b, 3, ncl r.l ++ r.x))).symm ?_
  refine (List.perm_append_left_iff A).2 ?_
  simp only [List.cons_append, List.append_assoc, List.nil_append]
  refine (List.Perm.swap ..).trans (List.Perm.cons _ ?_)
  exact (List.perm_middle (l₁ := R.map Rb.bx) (l₂ := B) (a := (r.b, 3, ncl r.l ++ r.x))).symm
theorem hs_grow {n k : Nat} (hk : R.length = k) (hn : k < n) : (R.map Rb.hd ++ List.replicate (n - k) (Value.slice none 0 0)).set k r.hd = (R ++ [r]).map Rb.hd ++ List.replicate (n - (k + 1)) (Value.slice none 0 0) := by
  rw [List.set_append_right _ _ (by rw [List.length_map]; omega), List.length_map, hk, Nat.sub_self]
  obtain ⟨m, hm⟩ : ∃ m, n - k = m + 1 := ⟨n - k - 1, by omega⟩
  rw [hm, show n - (k + 1) = m from by omega, List.replicate_succ, List.set_cons_zero, List.map_append, List.append_assoc]
  rfl
/-- row k of a matrix of residues -/
theorem Env.elMN (h : Env D0 w F G W) (i : Nat) {b off n j : Nat} {L : List (List Nat)} (e : G[i]? = some (.mx (.slice (some ⟨b, off, none⟩) n j) (L.map nl))) (k : Nat) (hk : k < L.length) :
    ∃ va vk, Env D0 w F (.ce b (off + k) (.slice va L[k].length vk) :: .rw (.slice va L[k].length vk) L[k].length 1 (ncl L[k]) :: G) W := by
  obtain ⟨va, vk, h2⟩ := h.elM i e k (by rw [List.length_map]; exact hk)
  refine ⟨va, vk, ?_⟩
  simp only [List.getElem_map, nl_len] at h2
  exact h2
theorem Mx.addrN {v : Option Addr} {n c k : Nat} {L : List (List Nat)} {D : Nat → Prop} (h : Mx W D (.slice v n c) (L.map nl)) (hk : k < L.length) : ∃ b o, v = some ⟨b, o, none⟩ := h.addr (k := k) (by rw [List.length_map]; exact hk)
theorem CapOk.grow (hc : CapOk R) (h : r.l.length + r.x.length ≤ 9223372036854775807) : CapOk (R ++ [r]) := by
  intro x hx
  rcases List.mem_append.1 hx with hx | hx
  · exact hc x hx
  · rcases List.mem_singleton.1 hx with rfl; exact h
end
/-- a matrix of one's own came back -/
def RetMx (L : List (List Nat)) (w : World) (e : Ending) (w' : World) : Prop := ∃ g R, e = .returned (.slice (some ⟨g, 0, none⟩) L.length L.length) ∧ Hid (mrows R = L ∧ CapOk R) ∧ HeldF w.heap.size (mbx g R ++ []) w'

set_option maxRecDepth 100000 in
set_option maxHeartbeats 4000000 in
theorem copied_c {D : Nat → Prop} (L : List (List Nat)) {xa : Option Addr} {xk : Nat} {w : World} (hx : Fct.at w D (.mx (.slice xa L.length xk) (L.map nl))) (hL : L.length ≤ 1000) (hr0 : ∀ r ∈ L, 0 < r.length ∧ r.length ≤ 1000) :
    Calls Tryd.prog 85 #[.slice xa L.length xk] w fun e w' => RetMx L w e w' ∧ Below w.heap.size w w' := by
  have E0 : Hid (Env D w [] [.mx (.slice xa L.length xk) (L.map nl)] w) := Lib.hid ((Env.start D w).arg (.mx (.slice xa L.length xk) (L.map nl)) hx)
  clear hx
  go_enter Tryd.func85, Tryd.ntmps85
  have hr := Lib.hid hr0
  clear hr0
  go_wp2_with (at_make; refine wpl_makeR rfl _ _ rfl E0.out L.length rfl rfl (by omega) ?_)
  intro wm g Em
  have E1 : Hid (Env D w ((mbh g (([] : List Rb).map Rb.hd ++ List.replicate (L.length - 0) (.slice none 0 0)) []) ++ []) [.mx (.slice xa L.length xk) (L.map nl)] wm) := Em
  clear Em E0
  go_wp2_with fail
  go_loopg [11] (L.length) (fun gk s11 wr => ∃ (k : Nat) (R : List Rb), s11 = .int .i64 (k : Int) ∧ Hid (Env D w ((mbh g (R.map Rb.hd ++ List.replicate (L.length - k) (.slice none 0 0)) R) ++ []) [.mx (.slice xa L.length xk) (L.map nl)] wr) ∧ Hid ((k ≤ L.length ∧ gk = L.length - k) ∧ mrows R = L.take k ∧ CapOk R))
  case atStart => exact ⟨0, [], rfl, Lib.hid E1.out, Lib.hid ⟨⟨Nat.zero_le _, rfl⟩, rfl, fun r hr => by cases hr⟩⟩
  case round =>
    clear E1
    obtain ⟨k, R, rfl, EL, HA⟩ := hrel
    obtain ⟨⟨a1, a2⟩, a3, a4⟩ := HA.out
    have HS := Lib.hid a3
    have HC := Lib.hid a4
    clear a3 a4 HA
    have HRK : Hid (R.length = k) := Lib.hid (by have h := congrArg List.length HS.out; rw [List.length_map, List.length_take] at h; omega)
    by_cases hy : k = L.length
    · have t6 : decide ((k : Int) < (L.length : Int)) = false := decide_eq_false (by omega)
      have t7 : decide (k < L.length) = false := decide_eq_false (by omega)
      have HY := Lib.hid hy
      clear hy
      have hbel := Lib.hid EL.out.bel
      go_wp2
      go_ret
      have EF := EL.out.heldS (A := [])
      rw [HY.out, Nat.sub_self, List.replicate_zero, List.append_nil] at EF
      exact ⟨⟨g, R, rfl, Lib.hid ⟨by rw [HS.out, HY.out, List.take_length], HC.out⟩, EF⟩, hbel.out⟩
    have hk : k < L.length := by omega
    have t6 : decide ((k : Int) < (L.length : Int)) = true := decide_eq_true (by omega)
    have t7 : decide (k < L.length) = true := decide_eq_true hk
    have hkI : (k : Int) < (L.length : Int) := by omega
    clear hy
    go_upto_region 4 with (fail)
    obtain ⟨xab, xao, rfl⟩ := Mx.addrN (EL.out.fc 0 rfl) hk
    obtain ⟨ua, uk, E20⟩ := EL.out.elMN 0 rfl (k) hk
    have E2 : Hid (Env D w ((mbh g (R.map Rb.hd ++ List.replicate (L.length - k) (.slice none 0 0)) R) ++ []) [.ce xab (xao + k) (.slice ua L[k].length uk), .rw (.slice ua L[k].length uk) L[k].length 1 (ncl L[k]), .mx (.slice (some ⟨xab, xao, none⟩) L.length xk) (L.map nl)] _) := Lib.hid E20
    clear E20 EL
    have u0 := (E2.out.fc 0 rfl).2
    have HRP : Hid (0 < L[k].length ∧ L[k].length ≤ 1000) := Lib.hid (hr.out _ (List.getElem_mem hk))
    go_wp2_with fail
    refine (cloneRow_c (E2.out.fc 1 rfl) (Nat.le_trans HRP.out.2 (by omega)) HRP.out.1).mono ?_
    rintro e w1 ⟨⟨rb, rx, rfl, rB, rC⟩, hb⟩
    have E3 : Hid (Env D w ((rb, 3, (ncl L[k] ++ rx)) :: ((mbh g (R.map Rb.hd ++ List.replicate (L.length - k) (.slice none 0 0)) R) ++ [])) [.ce xab (xao + k) (.slice ua L[k].length uk), .rw (.slice ua L[k].length uk) L[k].length 1 (ncl L[k]), .mx (.slice (some ⟨xab, xao, none⟩) L.length xk) (L.map nl)] w1) := Lib.hid (E2.out.gotBox hb rB.out)
    clear u0 E2 hb rB
    have fz := (E3.out.mh (A := [(rb, 3, (ncl L[k] ++ rx))]) (B := []) rfl).frozen k
    obtain ⟨cv, hcv⟩ : ∃ v, (R.map Rb.hd ++ List.replicate (L.length - k) (Value.slice none 0 0))[k]? = some v := ⟨_, List.getElem?_eq_getElem (by rw [List.length_append, List.length_map, List.length_replicate, HRK.out]; omega)⟩
    have cz := (E3.out.mh (A := [(rb, 3, (ncl L[k] ++ rx))]) (B := []) rfl).cell k hcv
    clear hcv
    have E4 : Hid (Env D w ((rb, 3, (ncl L[k] ++ rx)) :: ((mbh g ((R.map Rb.hd ++ List.replicate (L.length - k) (Value.slice none 0 0)).set k (.slice (some ⟨rb, 0, none⟩) L[k].length (L[k].length + rx.length))) R) ++ [])) [.ce xab (xao + k) (.slice ua L[k].length uk), .rw (.slice ua L[k].length uk) L[k].length 1 (ncl L[k]), .mx (.slice (some ⟨xab, xao, none⟩) L.length xk) (L.map nl)] _) := Lib.hid ((E3.out.mhset (A := [(rb, 3, (ncl L[k] ++ rx))]) (B := []) rfl k (.slice (some ⟨rb, 0, none⟩) L[k].length (L[k].length + rx.length))))
    have E5 : Hid (Env D w ((mbh g ((R ++ [Rb.mk rb L[k] rx]).map Rb.hd ++ List.replicate (L.length - (k + 1)) (.slice none 0 0)) (R ++ [Rb.mk rb L[k] rx])) ++ []) [.ce xab (xao + k) (.slice ua L[k].length uk), .rw (.slice ua L[k].length uk) L[k].length 1 (ncl L[k]), .mx (.slice (some ⟨xab, xao, none⟩) L.length xk) (L.map nl)] _) := Lib.hid (by have h := E4.out; rw [show .slice (some ⟨rb, 0, none⟩) L[k].length (L[k].length + rx.length) = Rb.hd ⟨rb, L[k], rx⟩ from rfl, hs_grow HRK.out hk] at h; exact Env.mgrow (A := []) (r := Rb.mk rb L[k] rx) h)
    have HNX : Hid (mrows (R ++ [Rb.mk rb L[k] rx]) = L.take (k + 1)) := Lib.hid (by unfold mrows; rw [List.map_append, show R.map Rb.l = L.take k from HS.out, List.take_add_one, List.getElem?_eq_getElem hk]; rfl)
    have EZ := Lib.hid ((E5.out.forget).forget)
    go_wp2
    go_roundg (L.length - (k + 1))
    case rel => exact ⟨k + 1, R ++ [Rb.mk rb L[k] rx], rfl, EZ, Lib.hid ⟨⟨by omega, rfl⟩, HNX.out, HC.out.grow rC.out⟩⟩
    case measure => exact by omega
end Go.Proofs.YteipbcpnnojclaaDoor

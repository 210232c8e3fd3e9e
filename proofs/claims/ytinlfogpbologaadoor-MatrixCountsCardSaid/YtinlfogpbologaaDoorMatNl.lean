/- Picked declarations. -/
import Derived.Test.YtinlfogpbologaaDoorPriE
import Derived.Test.YtinlfogpbologaaDoorPLst
import Derived.Deep.DeepCutAuto
import Derived.Deep.CutBlock
namespace Go.Proofs.YtinlfogpbologaaDoor
open Go.RowKit DivMath WordMath
set_option linter.unusedVariables false
set_option linter.unusedSimpArgs false
open Go.RowKit Go.Shelf DivMath WordMath
attribute [local go_sem] Oper.semAt_some
namespace Back
/-- the residues zs, from the last one on -/
def at_ {q : Nat} (hq : 0 < q) (zs : List (Fin q)) (j : Nat) : Nat × Fin q := (zs.length - 1 - j, zs[zs.length - 1 - j]?.getD ⟨0, hq⟩)
end Back
open Back
open Go.RowKit Go.Shelf DivMath WordMath Back
attribute [local go_sem] Oper.semAt_some
/-- residues, as ints -/
def nl (l : List Nat) : List Int := l.map (fun n : Nat => (n : Int))
theorem nl_len (l : List Nat) : (nl l).length = l.length := by simp [nl]
open Go.RowKit
open Go.RowKit Go.Shelf DivMath WordMath Back
attribute [local go_sem] Oper.semAt_some
open Go.RowKit DivMath WordMath
/-- a row of residues: its cells -/
def ncl (l : List Nat) : List Value := icl (nl l)
theorem ncl_len (l : List Nat) : (ncl l).length = l.length * 1 := by rw [ncl, icl_len, nl_len]
theorem ncl_get (l : List Nat) (i : Nat) (h : i < l.length) : (ncl l)[i]? = some (.int .i64 (l[i] : Nat)) := by
  rw [ncl, icl_get _ i (by rw [nl_len]; exact h)]; simp [nl]
theorem ncl_set (l : List Nat) (k v : Nat) : (ncl l).set k (.int .i64 (v : Nat)) = ncl (l.set k v) := by simp [ncl, nl, icl, List.map_set]
theorem ncl_rep (n : Nat) : icl (List.replicate n 0) = ncl (List.replicate n 0) := by simp [ncl, nl]
theorem ncl_one (l : List Nat) : ∀ u ∈ ncl l, u.oneCell' = true := icl_one _
/-- the cell of a residue of a row -/
theorem Env.elN {D0 : Nat → Prop} {w W : World} {F : List Bx} {G : List Fct} (h : Env D0 w F G W) (i : Nat) {b off n j : Nat} {l : List Nat} (e : G[i]? = some (.rw (.slice (some ⟨b, off, none⟩) n j) n 1 (ncl l))) (hn : n = l.length) (k : Nat) (hk : k < l.length) :
    Env D0 w F (.ce b (off + k) (.int .i64 (l[k] : Nat)) :: G) W := by
  have hm : Rw W (DF D0 w.heap.size F) (.slice (some ⟨b, off, none⟩) n j) n 1 (ncl l) := h.fct.get i e
  exact h.note _ (hm.el (by omega) (ncl_get l k hk))
/-- a row of residues came back -/
def RetI (D : Nat → Prop) (l : List Nat) (e : Ending) (W : World) : Prop := ∃ ao k, e = .returned (.slice ao l.length k) ∧ Hid (Rw W D (.slice ao l.length k) l.length 1 (ncl l))
/-- and an error number -/
def RetIE (D : Nat → Prop) (l : List Nat) (c : Int) (e : Ending) (W : World) : Prop := ∃ ao k, e = .returned (.tuple #[.slice ao l.length k, .int .i64 c]) ∧ Hid (Rw W D (.slice ao l.length k) l.length 1 (ncl l))
/-- a prime, as both texts test it, below 2^61 -/
def fieldB (q : Int) : Bool := decide (q < 2305843009213693952) && Pri.isP q.toNat
/-- a residue -/
def resB (q x : Int) : Bool := decide (0 ≤ x) && decide (x < q)
theorem fieldB_pos {q : Int} (h : fieldB q = true) : ∃ n : Nat, q = (n : Int) ∧ 2 ≤ n ∧ (n : Int) < Top := by
  unfold fieldB at h
  simp only [Bool.and_eq_true, decide_eq_true_eq] at h
  obtain ⟨h1, h2⟩ := h
  unfold Pri.isP at h2
  split at h2
  · cases h2
  · exact ⟨q.toNat, by omega, by omega, by unfold Top; omega⟩
theorem Fct.any {W : World} {D : Nat → Prop} {f : Fct} (h : Fct.at W D f) : Fct.at W (fun _ => True) f := Fct.turn h (Nat.le_refl _) (fun _ _ _ => trivial) (fun _ _ _ _ => rfl)
theorem RetEq {a b : Int} (h : a = b) : Ending.returned (.int .i64 a) = Ending.returned (.int .i64 b) := by rw [h]
theorem first_any {α : Type} (l : List α) (p : α → Bool) : ∃ r : Int, ((r = -1 ∧ ∀ k (h : k < l.length), p l[k] = false) ∨ ∃ k : Nat, r = (k : Int) ∧ ∃ h : k < l.length, p l[k] = true ∧ ∀ j (h : j < l.length), j < k → p l[j] = false) := by
  induction l with
  | nil => exact ⟨-1, .inl ⟨rfl, fun k h => absurd h (Nat.not_lt_zero _)⟩⟩
  | cons a l ih =>
    by_cases ha : p a = true
    · exact ⟨0, .inr ⟨0, rfl, Nat.zero_lt_succ _, ha, fun j _ h => absurd h (Nat.not_lt_zero _)⟩⟩
    · have ha' : p a = false := by simpa using ha
      obtain ⟨r, h | ⟨k, rfl, hk, h1, h2⟩⟩ := ih
      · refine ⟨-1, .inl ⟨rfl, fun k hk => ?_⟩⟩
        rcases k with _ | k
        · exact ha'
        · exact h.2 k (by simpa using hk)
      · refine ⟨((k + 1 : Nat) : Int), .inr ⟨k + 1, rfl, by simpa using hk, h1, fun j hj hjk => ?_⟩⟩
        rcases j with _ | j
        · exact ha'
        · exact h2 j (by simpa using hj) (by omega)
theorem first_dec {α : Type} {l : List α} {p : α → Bool} {r : Int} (h : (r = -1 ∧ ∀ k (h : k < l.length), p l[k] = false) ∨ ∃ k : Nat, r = (k : Int) ∧ ∃ h : k < l.length, p l[k] = true ∧ ∀ j (h : j < l.length), j < k → p l[j] = false) : decide (0 ≤ r) = l.any p := by
  rcases h with ⟨rfl, h⟩ | ⟨k, rfl, hk, h1, _⟩
  · symm
    show l.any p = false
    rw [List.any_eq_false]
    intro x hx
    obtain ⟨k, hk, rfl⟩ := List.getElem_of_mem hx
    rw [h k hk]; simp
  · have : l.any p = true := List.any_eq_true.2 ⟨l[k], List.getElem_mem hk, h1⟩
    rw [this]; exact decide_eq_true (by omega)
open Go.RowKit DivMath WordMath
open Go.RowKit DivMath WordMath
theorem RetI.mono {D D' : Nat → Prop} {l : List Nat} {e : Ending} {W : World} (h : RetI D l e W) (hD : ∀ b, D b → D' b) : RetI D' l e W := by
  obtain ⟨ao, k, h1, h2⟩ := h
  exact ⟨ao, k, h1, Lib.hid (h2.out.turn (Nat.le_refl _) (fun b _ hb => hD b hb) (fun _ _ _ _ => rfl))⟩
theorem Rw.ge {W : World} {D : Nat → Prop} {B n k : Nat} {v : Value} {cs : List Value} (h : Rw W (fun b => B ≤ b) v n k cs) : Rw W (fun b => D b ∨ B ≤ b) v n k cs := h.turn (Nat.le_refl _) (fun _ _ h => .inr h) (fun _ _ _ _ => rfl)
open Go.RowKit DivMath WordMath
theorem Rw.toNl {W : World} {D : Nat → Prop} {v : Value} {l : List Nat} (h : Rw W D v l.length 1 (ncl l)) : Rw W D v (nl l).length 1 (icl (nl l)) := by rw [nl_len]; exact h
theorem Rw.tr {W : World} {D : Nat → Prop} {v : Value} {n k : Nat} {cs : List Value} (h : Rw W D v n k cs) : Rw W (fun _ => True) v n k cs := h.turn (Nat.le_refl _) (fun _ _ _ => trivial) (fun _ _ _ _ => rfl)
theorem nl_all {q : Nat} {l : List Nat} (h : ∀ c ∈ l, c < q) : (nl l).all (resB (q : Int)) = true := by
  rw [List.all_eq_true]
  intro x hx
  obtain ⟨n, hn, rfl⟩ := List.mem_map.1 hx
  have := h n hn
  unfold resB
  simp; omega
open Go.RowKit DivMath WordMath
theorem ncl_app_get (o : List Nat) (rs : List Value) (i : Nat) (h : i < o.length) : (ncl o ++ rs)[i]? = some (.int .i64 (o[i] : Nat)) := by
  rw [List.getElem?_append_left (by rw [ncl_len]; omega)]; exact ncl_get o i h
theorem ncl_app_set (o : List Nat) (rs : List Value) (i v : Nat) (h : i < o.length) : (ncl o ++ rs).set i (.int .i64 (v : Nat)) = ncl (o.set i v) ++ rs := by
  rw [List.set_append_left _ _ (by rw [ncl_len]; omega), ncl_set]
/-- a box, for a callee that only reads -/
theorem Rw.boxN {W : World} {B g : Nat} {T : TypeId} {o : List Nat} {rs : List Value} {cap : Nat} (hB : Box B g T (ncl o ++ rs) W) (h1 : o.length ≤ cap) (h2 : cap ≤ 9223372036854775807) : Rw W (fun _ => True) (.slice (some ⟨g, 0, none⟩) o.length cap) o.length 1 (ncl o) :=
  ⟨some ⟨g, 0, none⟩, cap, rfl, h1, h2, ncl_len o, ncl_one o, fun _ => ⟨g, 0, rfl, ⟨hB.lt, trivial⟩, fun i u hu => by
    rw [Nat.zero_add]
    refine hB.cell i ?_
    have hi : i < (ncl o).length := (List.getElem?_eq_some_iff.1 hu).1
    rw [List.getElem?_append_left hi]; exact hu⟩⟩
open Go.RowKit DivMath WordMath
theorem Rw.boxP {W : World} {B g : Nat} {T : TypeId} {o : List Nat} {cap : Nat} (hB : Box B g T (ncl o) W) (h1 : o.length ≤ cap) (h2 : cap ≤ 9223372036854775807) : Rw W (fun _ => True) (.slice (some ⟨g, 0, none⟩) o.length cap) o.length 1 (ncl o) :=
  Rw.boxN (rs := []) (by rw [List.append_nil]; exact hB) h1 h2
theorem wrapI_add (a b : Nat) (h : a + b ≤ 9223372036854775807) : IntKind.i64.wrap ((a : Int) + (b : Int)) = ((a + b : Nat) : Int) := by rw [IntKind.wrap_i64]; omega
theorem wrap64_add (a b : Nat) (h : a + b ≤ 9223372036854775807) : wrap64 ((a : Int) + (b : Int)) = ((a + b : Nat) : Int) := by rw [IntWalk.wrap64_in _ (by omega)]; rfl
open Go.RowKit DivMath WordMath
open Go.RowKit DivMath WordMath
/-- a list of the call's own, as a caller reads it -/
theorem OI.rwN {sg : List Bx} {cs : List Value} {v : Value} {o : List Nat} {D0 : Nat → Prop} {w W : World} {F : List Bx} {G : List Fct} (h : OI sg cs v (nl o)) (E : Env D0 w F G W) (hs : ∀ p ∈ sg, p ∈ F) : Rw W (fun b => w.heap.size ≤ b) v o.length 1 (ncl o) := by
  obtain ⟨h, ht⟩ := h
  rw [nl_len] at h ht
  rcases h with ⟨rfl, rfl, rfl, h0⟩ | ⟨g, cap, rfl, rfl, h1, h2, h3⟩
  · have : o = [] := List.length_eq_zero_iff.1 h0
    subst this; exact Rw.nil _ _ _
  · have hB := (held_iff.1 E.box).1 (g, 3, cs) (hs _ (by simp))
    refine ⟨_, cap, rfl, h1, h2, ncl_len o, ncl_one o, fun _ => ⟨g, 0, rfl, ⟨hB.lt, hB.1⟩, fun i u hu => ?_⟩⟩
    rw [Nat.zero_add]
    rw [show ncl o = cs.take o.length from ht.symm, List.getElem?_take] at hu
    split at hu
    · exact hB.cell _ hu
    · cases hu
theorem OI.nlnil : OI [] [] (.slice none (nl []).length 0) (nl []) := OI.nil
open Go.RowKit DivMath WordMath
theorem refMulB (a b q : Nat) (w : World) (ha : (a : Int) < (q : Int)) (hb : (b : Int) < (q : Int)) (hm : (q : Int) < Top) :
    Calls Tryd.prog 64 #[.int .i64 a, .int .i64 b, .int .i64 q] w fun e w' => RetN (fun r => r = a * b % q) e ∧ Below w.heap.size w w' :=
  (refMul_c a b q w (by unfold Top at hm; omega) (by unfold Top at hm; omega) (by omega) hm).mono fun e w' ⟨h1, h2⟩ => ⟨h1, h2.below⟩
open Go.RowKit DivMath WordMath
open Go.RowKit DivMath WordMath
open Go.RowKit DivMath WordMath
theorem nl_inj {a b : List Nat} (h : nl a = nl b) : a = b := by
  unfold nl at h
  exact List.map_inj_right (fun _ _ e => by exact_mod_cast e) |>.1 h
/-- slices.Equal of two rows of residues -/
theorem equalN_c {D : Nat → Prop} {a b : List Nat} {xa ya : Option Addr} {xk yk : Nat} {w : World} (hx : Fct.at w D (.rw (.slice xa a.length xk) a.length 1 (ncl a))) (hy : Fct.at w D (.rw (.slice ya b.length yk) b.length 1 (ncl b))) (hla : a.length ≤ 1000000) (hlb : b.length ≤ 1000000) {t : Bool} (ht : (a == b) = t) :
    Calls Tryd.prog 20 #[.slice xa a.length xk, .slice ya b.length yk] w fun e w' => e = .returned (.bool t) ∧ Below w.heap.size w w' := by
  subst ht
  by_cases hne : a.length = b.length
  · by_cases h0 : a.length = 0
    · have hb0 : b.length = 0 := by omega
      have e : (a == b) = true := by rw [List.length_eq_zero_iff.1 h0, List.length_eq_zero_iff.1 hb0]; rfl
      rw [e, h0, hb0]
      exact (Tryd.slices_Equal_int_empty xa ya xk 0 yk w (by omega)).mono fun e w' ⟨h1, h2⟩ => ⟨h1, by rw [h2]; exact Below.refl _ _⟩
    · obtain ⟨b1, o1, rfl⟩ := Rw.addr hx h0
      obtain ⟨b2, o2, rfl⟩ := Rw.addr hy (by omega)
      refine (Tryd.slices_Equal_int b1 o1 a.length xk b2 o2 b.length yk (nl a) (nl b) w (by rw [nl_len]; omega) (by rw [nl_len]; omega) (by omega) (by omega) (fun j hj => ?_) (fun j hj => ?_)).mono fun e w' ⟨h1, q, h2⟩ => ⟨?_, by rw [h2]; exact below_drewN (Below.refl _ _) q⟩
      · rw [nl_len] at hj; rw [(Rw.el hx h0 (ncl_get a j hj)).2]; simp [nl, List.getElem?_eq_getElem hj]
      · rw [nl_len] at hj; rw [(Rw.el hy (by omega) (ncl_get b j hj)).2]; simp [nl, List.getElem?_eq_getElem hj]
      · have e1 : (nl a).take a.length = nl a := List.take_of_length_le (by rw [nl_len]; omega)
        have e2 : (nl b).take b.length = nl b := List.take_of_length_le (by rw [nl_len]; omega)
        rw [e1, e2] at h1
        rw [h1]
        congr 2
        rw [Bool.eq_iff_iff, beq_iff_eq, beq_iff_eq]
        exact ⟨nl_inj, fun h => by rw [h]⟩
  · have e : (a == b) = false := by rw [beq_eq_false_iff_ne]; intro h; exact hne (by rw [h])
    rw [e]
    exact (Tryd.slices_Equal_int_lens xa ya _ xk _ yk w hne).mono fun e w' ⟨h1, h2⟩ => ⟨h1, by rw [h2]; exact Below.refl _ _⟩
open Go.RowKit DivMath WordMath
theorem containsN_c {D : Nat → Prop} {l : List Nat} {x : Nat} {xa : Option Addr} {xk : Nat} {w : World} (hx : Fct.at w D (.rw (.slice xa l.length xk) l.length 1 (ncl l))) (hl : l.length ≤ 1000000) {t : Bool} (ht : l.contains x = t) :
    Calls Tryd.prog 75 #[.slice xa l.length xk, .int .i64 (x : Nat)] w fun e w' => e = .returned (.bool t) ∧ Below w.heap.size w w' := by
  subst ht
  by_cases h0 : l.length = 0
  · rw [List.length_eq_zero_iff.1 h0]
    exact (Tryd.slices_Contains_int_empty xa xk x w).mono fun e w' ⟨h1, h2⟩ => ⟨h1, by rw [h2]; exact Below.refl _ _⟩
  · obtain ⟨b1, o1, rfl⟩ := Rw.addr hx h0
    refine (Tryd.slices_Contains_int b1 o1 l.length xk (nl l) x w (by rw [nl_len]; omega) (by omega) (fun j hj => ?_)).mono fun e w' ⟨h1, h2⟩ => ⟨?_, by rw [h2]; exact Below.refl _ _⟩
    · rw [nl_len] at hj; rw [(Rw.el hx h0 (ncl_get l j hj)).2]; simp [nl, List.getElem?_eq_getElem hj]
    · have e1 : (nl l).take l.length = nl l := List.take_of_length_le (by rw [nl_len]; omega)
      rw [e1] at h1
      rw [h1]
      congr 2
      rw [Bool.eq_iff_iff, List.contains_iff_mem, List.contains_iff_mem]
      unfold nl
      rw [List.mem_map]
      exact ⟨fun ⟨n, hn, e⟩ => by (have : n = x := by exact_mod_cast e); subst this; exact hn, fun h => ⟨x, h, rfl⟩⟩
open Go.RowKit DivMath WordMath
theorem getD_elem {l : List Nat} {i : Nat} (h : i < l.length) : l.getD i 0 = l[i] := by rw [List.getD_eq_getElem?_getD, List.getElem?_eq_getElem h]; rfl
open Go.RowKit DivMath WordMath
theorem Env.freezeN {D0 : Nat → Prop} {w W : World} {F : List Bx} {G : List Fct} {g : Nat} {T : TypeId} (l : List Nat) (E : Env D0 w ((g, T, ncl l) :: F) G W) (hn : l.length ≤ 1000000) : Env D0 w F (.rw (.slice (some ⟨g, 0, none⟩) l.length l.length) l.length 1 (ncl l) :: G) W := by
  have hB := E.box.1
  refine E.drop.note _ ⟨some ⟨g, 0, none⟩, l.length, rfl, Nat.le_refl _, by omega, ncl_len l, ncl_one l, fun _ => ⟨g, 0, rfl, ⟨hB.lt, fun p hp => E.box.2.1 p hp, .inr hB.1⟩, fun i u hu => ?_⟩⟩
  rw [Nat.zero_add]; exact hB.cell i hu
open Go.RowKit DivMath WordMath
open Go.RowKit DivMath WordMath
open Go.RowKit DivMath WordMath
open Go.RowKit DivMath WordMath
namespace Pv
end Pv
open Pv in
open Pv in
open Go.RowKit DivMath WordMath
end Go.Proofs.YtinlfogpbologaaDoor

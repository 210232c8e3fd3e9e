/- What a statement's walk holds of the world: nothing of what was there has turned; its own boxes hold these values. -/
import Derived.Test.YtgogfjehbaiklaaNatFrame
import Derived.Test.YtgogfjehbaiklaaNatT
namespace Go.Proofs.Ytgogfjehbaiklaa
open Go.RowKit NatMath
set_option linter.unusedVariables false

def Held : List (Addr × Value) → World → Prop
  | [], _ => True
  | (a, v) :: F, W => (W.cell? a = some v ∧ a.block < W.heap.size) ∧ Held F W
theorem Held.below {F : List (Addr × Value)} {W W' : World} (h : Held F W) (hb : Below W.heap.size W W') : Held F W' := by
  induction F with
  | nil => exact trivial
  | cons p F ih =>
    obtain ⟨⟨h1, h2⟩, h3⟩ := h
    exact ⟨⟨(hb.cell h2).trans h1, Nat.lt_of_lt_of_le h2 hb.size⟩, ih h3⟩
def Env (w : World) (F : List (Addr × Value)) (W : World) : Prop := Below w.heap.size w W ∧ Held F W
theorem Env.start (w : World) : Env w [] w := ⟨Below.refl _ _, trivial⟩
theorem Env.below {w W W' : World} {F : List (Addr × Value)} (h : Env w F W) (hb : Below W.heap.size W W') : Env w F W' := ⟨h.1.trans (hb.mono h.1.size), h.2.below hb⟩
theorem Env.alloc {w W : World} {F : List (Addr × Value)} (h : Env w F W) (o : Obj) : Env w F (W.alloc o) := h.below (below_one W o)
theorem Env.push {w W : World} {F : List (Addr × Value)} (h : Env w F W) (v : Value) (T : TypeId) : Env w ((⟨W.heap.size, 0, none⟩, v) :: F) (W.alloc (.cells #[v] T)) :=
  ⟨(h.alloc _).1, ⟨box1a W v T, by simp⟩, (h.alloc _).2⟩
theorem Env.pushAt {w W : World} {F : List (Addr × Value)} (h : Env w F W) (v : Value) (T : TypeId) (g : Nat) (hg : W.heap.size = g) : Env w ((⟨g, 0, none⟩, v) :: F) (W.alloc (.cells #[v] T)) := by subst hg; exact h.push v T
theorem Env.nt {w W : World} {F : List (Addr × Value)} {v : Value} {N : Nat} (h : Env w F W) (hn : Nt w v N) : Nt W v N := hn.below' h.1
theorem Env.sl {w W : World} {F : List (Addr × Value)} {v : Value} {l : List Nat} (h : Env w F W) (hn : Sl w v l) : Sl W v l := hn.below' h.1

theorem Sl.len63 {w : World} {v : Value} {l : List Nat} (h : Sl w v l) : (l.length : Int) ≤ 9223372036854775807 := by
  obtain ⟨ao, cap, _, h2, h3, _⟩ := h; omega

theorem great2_c (ao bo : Option Addr) (n m ca cb : Nat) (W : World) (hn : (n : Int) ≤ 9223372036854775807) (hm : (m : Int) ≤ 9223372036854775807) (g : Nat) (hg : W.heap.size = g) :
    Calls Try.prog 12 #[.slice (some ⟨g, 0, none⟩) 2 2] (W.alloc (.cells #[.slice ao n ca, .slice bo m cb] 24)) fun e w' =>
      (((100 < n ∨ 100 < m) ∧ e = .returned (.bool true)) ∨ ((n ≤ 100 ∧ m ≤ 100) ∧ e = .returned (.bool false))) ∧ Below W.heap.size W w' := by
  subst hg
  refine (great_c W.heap.size 2 (fun i => if i = 0 then ao else bo) (fun i => if i = 0 then n else m) (fun i => if i = 0 then ca else cb) _ (by omega) (by simp) (fun i => by split <;> assumption) (fun i hi => ?_)).mono ?_
  · rw [World.cell?_alloc_new]
    rcases i with _ | _ | i
    · rfl
    · rfl
    · omega
  · rintro e w' ⟨⟨⟨i, hi, h⟩, rfl⟩ | ⟨h, rfl⟩, hb⟩
    · refine ⟨Or.inl ⟨?_, rfl⟩, (below_one W _).trans (hb.mono (by simp))⟩
      split at h
      · exact Or.inl h
      · exact Or.inr h
    · exact ⟨Or.inr ⟨⟨h 0 (by omega), h 1 (by omega)⟩, rfl⟩, (below_one W _).trans (hb.mono (by simp))⟩

theorem vld_nt {w : World} {v : Value} {l : List Nat} (h : Sl w v l) (hv : vld l = true) : ∃ N, l = digs N ∧ len N ≤ 64 ∧ Nt w v N := by
  have h2 : l.length ≤ 64 ∧ (l = [] ∨ l.getD (l.length - 1) 0 ≠ 0) := of_decide_eq_true hv
  have hw : words l := by obtain ⟨_, _, _, _, _, hw, _⟩ := h; exact hw
  have hd := digs_val hw h2.2
  refine ⟨val l, hd.symm, ?_, ?_⟩
  · rw [len_of_normal hw h2.2]; exact h2.1
  · unfold Nt; rw [hd]; exact h

set_option maxHeartbeats 400000 in
theorem Compare_bad (a b : Value) (la lb : List Nat) (w : World) (ha : Sl w a la) (hb : Sl w b lb) (h : vld la = false ∨ vld lb = false) :
    Calls Try.prog 23 #[.agg #[a], .agg #[b]] w fun e w' => e = .returned (.int .i64 0) ∧ Below w.heap.size w w' := by
  have c1 := fun w h => Valid_c a la w h
  have c2 := fun w h => Valid_c b lb w h
  have HA := Lib.hid ha
  have HB := Lib.hid hb
  by_cases k : vld la = false
  · rw [k] at c1
    have C1 := Lib.hid c1
    clear c1 c2 ha hb h k
    go_enter Try.func23, Try.ntmps23
    go_wp2_with fail
    refine (C1.out _ (HA.out.below' (below_two _ _ _))).mono ?_; rintro e w1 ⟨rfl, hb1⟩
    have B1 : Hid (Below w.heap.size w w1) := Lib.hid ((below_two _ _ _).trans (hb1.mono (by simp; omega)))
    clear hb1
    go_wp2
    go_ret
    exact ⟨rfl, B1.out⟩
  · have k2 : vld lb = false := by simpa [k] using h
    have k1 : vld la = true := by simpa using k
    rw [k1] at c1
    rw [k2] at c2
    have C1 := Lib.hid c1
    have C2 := Lib.hid c2
    clear c1 c2 ha hb h k k1 k2
    go_enter Try.func23, Try.ntmps23
    go_wp2_with fail
    refine (C1.out _ (HA.out.below' (below_two _ _ _))).mono ?_; rintro e w1 ⟨rfl, hb1⟩
    have z1 : w.heap.size + 1 < w1.heap.size := by have := hb1.size; simp at this; omega
    have B1 : Hid (Below w.heap.size w w1) := Lib.hid ((below_two _ _ _).trans (hb1.mono (by simp; omega)))
    have f2 := (hb1.cell (p := ⟨w.heap.size + 1, 0, none⟩) (by simp)).trans (box2b w _ _ _)
    clear hb1
    go_wp2_with fail
    refine (C2.out _ (HB.out.below' B1.out)).mono ?_; rintro e w2 ⟨rfl, hb2⟩
    have B2 : Hid (Below w.heap.size w w2) := Lib.hid (B1.out.trans (hb2.mono (by omega)))
    clear hb2
    go_wp2
    go_ret
    exact ⟨rfl, B2.out⟩

/-- a number and a code, as a slice written out -/
def ResN (S : Nat) (c : Int) (e : Ending) (w' : World) : Prop := ∃ (ao : Option Addr) (k : Nat), e = .returned (.tuple #[.agg #[.slice ao (len S) k], .int .i64 c]) ∧ Hid (Nt w' (.slice ao (len S) k) S)
def bigv (S : Nat) : Nat := if len S ≤ 64 then S else 0
def bigc (S : Nat) : Int := if len S ≤ 64 then 0 else 9
theorem BigPost.res {S n : Nat} {e : Ending} {w' : World} (h : BigPost S n e w') : ResN (bigv S) (bigc S) e w' := by
  unfold bigv bigc
  rcases h with ⟨hl, v, hv, rfl⟩ | ⟨hl, rfl⟩
  · rw [if_pos hl, if_pos hl]
    have hN := hv.out.1
    obtain ⟨ao, c, rfl, _⟩ := hN.open
    exact ⟨ao, c, rfl, Lib.hid hN⟩
  · rw [if_neg hl, if_neg hl]
    exact ⟨none, 0, by rw [len_zero]; rfl, Lib.hid (by rw [len_zero]; exact Nt.zero _)⟩
theorem RetN.res {S n : Nat} {e : Ending} {w' : World} (h : RetN (fun w' v' => Nt w' v' S ∧ Fr n v') e w') : ResN S 0 e w' := by
  obtain ⟨v, hv, rfl⟩ := h
  have hN := hv.out.1
  obtain ⟨ao, c, rfl, _⟩ := hN.open
  exact ⟨ao, c, rfl, Lib.hid hN⟩
theorem errN.res (c : Int) (w' : World) : ResN 0 c (errN c) w' := ⟨none, 0, by rw [len_zero]; rfl, Lib.hid (by rw [len_zero]; exact Nt.zero _)⟩
end Go.Proofs.Ytgogfjehbaiklaa

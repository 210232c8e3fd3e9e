/- The contracts of checked, Of, bits.Add32, Add. -/
import Derived.Test.YthphmgdmhlimjaaNatO
namespace Go.Proofs.Ythphmgdmhlimjaa
open Go.RowKit NatMath
set_option linter.unusedVariables false

/-- a number and no error -/
def RetN (P : World → Value → Prop) (e : Ending) (w' : World) : Prop := ∃ v : Value, Hid (P w' v) ∧ e = .returned (.tuple #[.agg #[v], .int .i64 0])
/-- the zero number and an error -/
def errN (c : Int) : Ending := .returned (.tuple #[.agg #[.slice none 0 0], .int .i64 c])

set_option maxHeartbeats 1000000 in
theorem checked_ok (v : Value) (l : List Nat) (w : World) (h : Sl w v l) (hl : len (val l) ≤ 64) :
    Calls Try.prog 73 #[v] w fun e w' => RetN (fun _ v' => (∀ W, Sl W v l → Nt W v' (val l)) ∧ v'.ownBlock = v.ownBlock) e w' ∧ Below w.heap.size w w' := by
  have ct := fun w h => trimmed_c v l w h
  have H := Lib.hid h
  have CT := Lib.hid ct
  clear ct
  go_enter Try.func73, Try.ntmps73
  go_wp2_with fail
  refine (CT.out _ (H.out.below' (below_one _ _))).mono ?_; rintro e w1 ⟨⟨v', hv, rfl⟩, hb⟩
  have hz : w.heap.size < w1.heap.size := by have := hb.size; simp at this; omega
  have B1 : Hid (Below w.heap.size w w1) := Lib.hid ((below_one _ _).trans (hb.mono (by simp)))
  have f1 := (hb.frozen (p := ⟨w.heap.size, 0, none⟩) (by simp)).trans (by simp : _ = false)
  have f2 := (hb.cell (p := ⟨w.heap.size, 0, none⟩) (by simp)).trans (by simp : _ = some (.slice none 0 0))
  obtain ⟨ao, cap, rfl, k1, k2, k3⟩ := (hv.out.1 w h).open
  have g1 : decide (64 < (len (val l) : Int)) = false := decide_eq_false (by omega)
  clear hb k3 h
  go_wp2
  have B2 : ∀ X Y : Value, Below w.heap.size w ((w1.setCell ⟨w.heap.size, 0, none⟩ Y).alloc (.cells #[X] 24)) := fun X Y => (B1.out.setCell (Nat.le_refl _) _).alloc (by simp; omega) _
  exact bodyPost_ret (v := .tuple #[.agg #[.slice ao (len (val l)) cap], .int .i64 0]) (by simp [results, Try.results73, go_sem, hz, f2]) rfl ⟨⟨_, hv, rfl⟩, B2 _ _⟩

set_option maxHeartbeats 1000000 in
theorem checked_big (v : Value) (l : List Nat) (w : World) (h : Sl w v l) (hl : ¬ len (val l) ≤ 64) :
    Calls Try.prog 73 #[v] w fun e w' => e = errN 9 ∧ Below w.heap.size w w' := by
  have ct := fun w h => trimmed_c v l w h
  have H := Lib.hid h
  have CT := Lib.hid ct
  clear ct
  go_enter Try.func73, Try.ntmps73
  go_wp2_with fail
  refine (CT.out _ (H.out.below' (below_one _ _))).mono ?_; rintro e w1 ⟨⟨v', hv, rfl⟩, hb⟩
  have hz : w.heap.size < w1.heap.size := by have := hb.size; simp at this; omega
  have B1 : Hid (Below w.heap.size w w1) := Lib.hid ((below_one _ _).trans (hb.mono (by simp)))
  have f1 := (hb.frozen (p := ⟨w.heap.size, 0, none⟩) (by simp)).trans (by simp : _ = false)
  have f2 := (hb.cell (p := ⟨w.heap.size, 0, none⟩) (by simp)).trans (by simp : _ = some (.slice none 0 0))
  obtain ⟨ao, cap, rfl, k1, k2, k3⟩ := (hv.out.1 w h).open
  have g1 : decide (64 < (len (val l) : Int)) = true := decide_eq_true (by omega)
  clear hb k3 h hl
  go_wp2
  have B2 : ∀ X Y : Value, Below w.heap.size w ((w1.setCell ⟨w.heap.size, 0, none⟩ Y).alloc (.cells #[X] 24)) := fun X Y => (B1.out.setCell (Nat.le_refl _) _).alloc (by simp; omega) _
  exact bodyPost_ret (v := .tuple #[.agg #[.slice none 0 0], .int .i64 9]) (by simp [results, Try.results73, go_sem, hz, f2]) rfl ⟨rfl, B2 _ _⟩

/-! ### Of -/

theorem of_words (x : Nat) (hx : x < 9223372036854775808) : words [x % 4294967296, x / 4294967296 % 4294967296] ∧ val [x % 4294967296, x / 4294967296 % 4294967296] = x := by
  refine ⟨?_, ?_⟩
  · intro u hu; simp at hu; omega
  · simp only [val]; omega

set_option maxHeartbeats 1000000 in
theorem Of_ok (x : Nat) (w : World) (hx : (x : Int) ≤ 9223372036854775807) :
    Calls Try.prog 96 #[.int .i64 x] w fun e w' => RetN (fun w' v' => Nt w' v' x ∧ Fr w.heap.size v') e w' ∧ Below w.heap.size w w' := by
  have hg : decide ((x : Int) < 0) = false := decide_eq_false (by omega)
  obtain ⟨hw, hv⟩ := of_words x (by omega)
  obtain ⟨a, ha⟩ : ∃ a, a = x % 4294967296 := ⟨_, rfl⟩
  obtain ⟨b, hb⟩ : ∃ b, b = x / 4294967296 % 4294967296 := ⟨_, rfl⟩
  have ea : IntKind.u32.wrap (x : Int) = (a : Int) := by rw [IntKind.wrap_u32]; omega
  have eb : IntKind.u32.wrap ((x : Int) / 4294967296) = (b : Int) := by rw [IntKind.wrap_u32]; omega
  rw [← ha, ← hb] at hw hv
  have HW := Lib.hid hw
  have HV := Lib.hid hv
  clear ha hb hw hv
  go_enter Try.func96, Try.ntmps96
  go_wp2_with fail
  refine (trimmed_c _ [a, b] _ ((Own.two w _ a b).sl HW.out (by simp))).mono ?_; rintro e w1 ⟨⟨v', hv, rfl⟩, hb⟩
  have hz : w.heap.size + 1 < w1.heap.size := by have := hb.size; simp at this; omega
  have hz0 : w.heap.size < w1.heap.size := by omega
  have B1 : Hid (Below w.heap.size w w1) := Lib.hid ((below_two _ _ _).trans (hb.mono (by simp; omega)))
  have f1 := (hb.frozen (p := ⟨w.heap.size, 0, none⟩) (by simp; omega)).trans (by simp : _ = false)
  have f2 := (hb.cell (p := ⟨w.heap.size, 0, none⟩) (by simp; omega)).trans (by simp : _ = some (.slice none 0 0))
  have hN : ∀ Y : Value, Nt (w1.setCell ⟨w.heap.size, 0, none⟩ Y) v' x := fun Y => by
    rw [← HV.out]
    refine hv.out.1 _ ((((Own.two w _ a b).below' hb).setOther (by simp) Y).sl HW.out (by simp))
  have hF : Fr w.heap.size v' := by
    intro ad k c e
    have := hv.out.2
    rw [e] at this
    simp [Value.ownBlock] at this
    omega
  obtain ⟨ao, cap, rfl, _⟩ := (hN (.slice none 0 0)).open
  have HN := Lib.hid hN
  have HF := Lib.hid hF
  clear hb hv hN hF
  go_wp2
  exact bodyPost_ret (v := .tuple #[.agg #[.slice ao (len x) cap], .int .i64 0]) (by simp [results, Try.results96, go_sem, f2]) rfl ⟨⟨_, Lib.hid ⟨HN.out _, HF.out⟩, rfl⟩, B1.out.setCell (Nat.le_refl _) _⟩

set_option maxHeartbeats 400000 in
theorem Of_neg (x : Int) (w : World) (hx : x < 0) :
    Calls Try.prog 96 #[.int .i64 x] w fun e w' => e = errN 2 ∧ Below w.heap.size w w' := by
  have hg : decide (x < 0) = true := decide_eq_true hx
  go_enter Try.func96, Try.ntmps96
  go_wp2
  exact bodyPost_ret (v := .tuple #[.agg #[.slice none 0 0], .int .i64 2]) (by simp [results, Try.results96, go_sem]) rfl ⟨rfl, below_one _ _⟩

/-! ### Add -/

set_option maxHeartbeats 400000 in
theorem add32_c (x y c : Nat) (w : World) (hx : (x : Int) < 4294967296) (hy : (y : Int) < 4294967296) (hc : (c : Int) ≤ 1) :
    Calls Try.prog 85 #[.int .u32 x, .int .u32 y, .int .u32 c] w fun e w' => e = .returned (.tuple #[.int .u32 (((x + y + c) % 4294967296 : Nat) : Int), .int .u32 (((x + y + c) / 4294967296 : Nat) : Int)]) ∧ w = w' := by
  obtain ⟨a, ha⟩ : ∃ a, a = (x + y + c) % 4294967296 := ⟨_, rfl⟩
  obtain ⟨b, hb⟩ : ∃ b, b = (x + y + c) / 4294967296 := ⟨_, rfl⟩
  have ea : IntKind.u32.wrap ((x : Int) + (y : Int) + (c : Int)) = (a : Int) := by rw [IntKind.wrap_u32]; omega
  have eb : ((x : Int) + (y : Int) + (c : Int)) / 4294967296 = (b : Int) := by omega
  have b1 : (b : Int) ≤ 1 := by omega
  rw [← ha, ← hb]
  clear ha hb
  go_enter Try.func85, Try.ntmps85
  go_wp2
  go_ret2
  exact ⟨rfl, rfl⟩
end Go.Proofs.Ythphmgdmhlimjaa

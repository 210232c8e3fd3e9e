/- slices.Clone and slices.Equal of any lists of words. -/
import Derived.Test.YtgogfjehbaiklaaNatQ1
namespace Go.Proofs.Ytgogfjehbaiklaa
open Go.RowKit NatMath
set_option linter.unusedVariables false

theorem clone_some_sl (b off cap : Nat) (l : List Nat) (w : World) (h : Sl w (.slice (some ⟨b, off, none⟩) l.length cap) l) (hN : l.length ≤ 1000000) :
    Calls Try.prog 39 #[.slice (some ⟨b, off, none⟩) l.length cap] w fun e w' => (∃ v', Hid (OwnV w' w.heap.size v' l) ∧ e = .returned v') ∧ Below w.heap.size w w' := by
  obtain ⟨i0, hi, hz0, hz1, hz2⟩ := info_parts Try.info62
  have hwl : words l := by obtain ⟨_, _, _, _, _, h4, _⟩ := h; exact h4
  have hl : (l.map fun (u : Nat) => Value.int .u32 (u : Int)).length = l.length * 1 := by rw [Nat.mul_one, List.length_map]
  have hc : ∀ j u, (l.map fun (u : Nat) => Value.int .u32 (u : Int))[j]? = some u → w.cell? ⟨b, off + j, none⟩ = some u := by
    intro j u hu
    rw [List.getElem?_map] at hu
    obtain ⟨x, hx, rfl⟩ := Option.map_eq_some_iff.1 hu
    obtain ⟨ao, cap', e, _, _, h4, h5, _⟩ := h
    obtain ⟨b', off', k1, k2, k3⟩ := h5 (by intro e; rw [e] at hx; simp at hx)
    simp only [Value.slice.injEq, k1, Option.some.injEq, Addr.mk.injEq] at e
    obtain ⟨⟨rfl, rfl, _⟩, _, _⟩ := e
    have hj : j < l.length := by
      apply Nat.lt_of_not_le; intro hh; rw [List.getElem?_eq_none hh] at hx; simp at hx
    rw [k3 j hj, List.getD_eq_getElem?_getD, hx]; rfl
  refine (Try.slices_Clone i0 _ 1 4 hi hz0 hz1 hz2 rfl (by omega) (fun w => ?_) b off l.length cap _ w hl (by unfold maxLen; omega) (by omega) hc ?_).mono ?_
  · exact Try.sizeOf62 ..
  · intro u hu
    obtain ⟨x, _, rfl⟩ := List.mem_map.1 hu
    rfl
  · rintro e w' ⟨v', rfl, h1, h2, h3⟩
    exact ⟨⟨v', Lib.hid ⟨h1, hwl⟩, rfl⟩, h3⟩

theorem cloneS {v : Value} {l : List Nat} {w : World} (h : Sl w v l) (hN : l.length ≤ 100) :
    Calls Try.prog 39 #[v] w fun e w' => (∃ ao cap, e = .returned (.slice ao l.length cap) ∧ Hid (Sl w' (.slice ao l.length cap) l)) ∧ Below w.heap.size w w' := by
  have fin : ∀ (e : Ending) (w' : World), (∃ v', Hid (OwnV w' w.heap.size v' l) ∧ e = .returned v') ∧ Below w.heap.size w w' → (∃ ao cap, e = .returned (.slice ao l.length cap) ∧ Hid (Sl w' (.slice ao l.length cap) l)) ∧ Below w.heap.size w w' := by
    rintro e w' ⟨⟨v', hv, rfl⟩, hb⟩
    obtain ⟨a, c, rfl⟩ := hv.out.form _ rfl
    exact ⟨⟨a, c, rfl, Lib.hid hv.out.sl⟩, hb⟩
  have h' := h
  obtain ⟨ao, cap, rfl, h1, h2, h3, h4, h5⟩ := h'
  by_cases h0 : l = []
  · subst h0
    cases ao with
    | none =>
      refine (Try.slices_Clone_nil 0 cap w).mono ?_
      rintro e w' ⟨rfl, rfl⟩
      exact ⟨⟨none, 0, rfl, Lib.hid (Sl.nil _)⟩, Below.refl _ _⟩
    | some a =>
      obtain ⟨b, off, sp⟩ := a
      have : sp = none := h5 _ rfl
      subst this
      exact (clone_some_sl b off cap [] w h (by simp)).mono fin
  · obtain ⟨b, off, rfl, _⟩ := h4 h0
    exact (clone_some_sl b off cap l w h (by omega)).mono fin

theorem equalS {a b : Value} {l : List Nat} {w : World} (ha : Sl w a l) (hb : Sl w b l) :
    Calls Try.prog 40 #[a, b] w fun e w' => e = .returned (.bool true) ∧ Below w.heap.size w w' := by
  have := Equal_c a b l l w ha hb
  rwa [decide_eq_true rfl] at this
end Go.Proofs.Ytgogfjehbaiklaa

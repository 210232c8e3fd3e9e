/- Copies: of bytes, of a message. -/
import Derived.Test.YtbcfcdcomboljaaSesB
import Derived.Test.YtbcfcdcomboljaaSesShelf
namespace Go.Proofs.Ytbcfcdcomboljaa
open Go.RowKit
set_option linter.unusedVariables false
/-- a value that lies in blocks from base on alone, and may be written to -/
def cells8 (l : List Nat) : List Value := l.map fun (u : Nat) => Value.int .u8 (u : Int)
theorem Try.info8 : (Try.prog.info? 5).map (fun i => (i.zero, i.size, i.bytes)) = some (some (.int .u8 0), 1, 1) := by kernel_rfl
theorem rows8 {w : World} {base : Nat} {v : Value} {l : List Nat} (h : w.ownsRow base 5 1 v l.length (cells8 l)) (hl : ∀ u ∈ l, u < 256) : Bs w (fun b => base ≤ b) v l := by
  rcases h.2 with ⟨rfl, hn⟩ | ⟨g, cap, cur, rfl, hb, hg, hn, hm, hs, ht⟩
  · have : l = [] := List.length_eq_zero_iff.1 hn
    subst this; exact Bs.nil w _
  · refine ⟨_, cap, rfl, hn, by unfold maxLen at hm; omega, hl, fun _ => ⟨g, 0, rfl, ⟨lt_of_block hg, hb⟩, fun i hi => ?_⟩, trivial⟩
    rw [cell_of_row w g (0 + i) cur 5 (0, 0) hg]
    have h1 : (cells8 l)[i]? = some (.int .u8 ((l.getD i 0 : Nat) : Int)) := by
      unfold cells8; rw [List.getElem?_map, List.getElem?_eq_getElem hi]; simp [List.getElem?_eq_getElem hi]
    rw [← ht, List.getElem?_take, if_pos (by omega)] at h1
    rw [Nat.zero_add]
    simpa using h1
theorem clone8_some (D : Nat → Prop) (b off c : Nat) (l : List Nat) (w : World) (h : Bs w D (.slice (some ⟨b, off, none⟩) l.length c) l) (hl : l.length ≤ 1000000) :
    Calls Try.prog 79 #[.slice (some ⟨b, off, none⟩) l.length c] w fun e w' => (∃ ao k, e = .returned (.slice ao l.length k) ∧ Hid (Bs w' (fun b => D b ∨ w.heap.size ≤ b) (.slice ao l.length k) l)) ∧ Below w.heap.size w w' := by
  obtain ⟨ao', cap', e, h1, h2, h3, h4, h5⟩ := h
  obtain ⟨i0, hi0⟩ : ∃ i0, Try.prog.info? 5 = some i0 := by
    have := Try.info8
    cases hh : Try.prog.info? 5 with
    | none => rw [hh] at this; simp at this
    | some i => exact ⟨i, rfl⟩
  have hi1 := Try.info8
  rw [hi0] at hi1
  simp only [Option.map_some, Option.some.injEq, Prod.mk.injEq] at hi1
  obtain ⟨z0, z1, z2⟩ := hi1
  refine (AnyE.slices_Clone Try.laysCloneB i0 (.int .u8 0) 1 1 hi0 z0 z1 z2 rfl (by omega) Try.sizeOf5 b off l.length c (cells8 l) w (by simp [cells8]) (by unfold maxLen; omega) (by omega) ?_ ?_).mono ?_
  · intro j u hj
    have hlt : j < l.length := by
      have := (List.getElem?_eq_some_iff.1 hj).1
      simpa [cells8] using this
    have hne : l ≠ [] := by rintro rfl; simp at hlt
    obtain ⟨b', off', e', hb', hc'⟩ := h4 hne
    simp only [Value.slice.injEq] at e
    rw [← e.1] at e'
    simp only [Option.some.injEq, Addr.mk.injEq, and_true] at e'
    obtain ⟨rfl, rfl⟩ := e'
    rw [hc' j hlt]
    unfold cells8 at hj
    rw [List.getElem?_map, List.getElem?_eq_getElem hlt] at hj
    simp only [Option.map_some, Option.some.injEq] at hj
    rw [← hj]; simp [List.getElem?_eq_getElem hlt]
  · intro u hu
    simp only [cells8, List.mem_map] at hu
    obtain ⟨x, _, rfl⟩ := hu; rfl
  · rintro e w' ⟨v', rfl, ho, _, hb⟩
    have := rows8 ho h3
    obtain ⟨ao, k, rfl⟩ := this.len
    exact ⟨⟨_, _, rfl, Lib.hid this.ge⟩, hb⟩
set_option maxHeartbeats 2000000 in
set_option maxRecDepth 100000 in
/-- slices.Clone of a list of no element that is not nil, whatever its address -/
theorem clone8_zero {a : Addr} {c : Nat} {w : World} : Calls Try.prog 79 #[.slice (some a) 0 c] w fun e w' => (∃ ao k, e = .returned (.slice ao 0 k) ∧ k ≤ 9223372036854775807) ∧ Below w.heap.size w w' := by
  obtain ⟨i0, hi0⟩ : ∃ i0, Try.prog.info? 5 = some i0 := by
    have := Try.info8
    cases hh : Try.prog.info? 5 with
    | none => rw [hh] at this; simp at this
    | some i => exact ⟨i, rfl⟩
  have hi1 := Try.info8
  rw [hi0] at hi1
  simp only [Option.map_some, Option.some.injEq, Prod.mk.injEq] at hi1
  obtain ⟨z0, z1, z2⟩ := hi1
  have HI := Lib.hid hi0
  have Z0 := Lib.hid z0; have Z1 := Lib.hid z1; have Z2 := Lib.hid z2
  clear hi0 z0 z1 z2
  have q22 : ∀ (w : World) (a : Option Addr) (n c n' c' : Nat), (binOp .eql 22 (.slice a n c) (.slice none n' c')).run Try.prog w = .ok (.bool a.isNone) w := fun w a n c n' c' => Lib.run_eql_slice_nil w _ _ a n c n' c' Try.underlying22
  go_enter Try.func79, Try.ntmps79
  go_wp2_with (at_builtin; refine wpList_append_own _ rfl _ _ 22 rfl w.heap.size 5 i0 (.int .u8 0) 1 1 Try.underlying22 HI.out Z0.out Z1.out Z2.out rfl (by omega) _ _ _ rfl (World.ownsRow_made w #[] 0 (Nat.le_refl _) (Nat.zero_le _) (by simp)) a 0 c [] rfl ?qc1 ?qc2 ?qc3 ?qc4 ?qc5 ?qc6 ?_)
  case qc1 => rfl
  case qc2 => intro j u hj; simp at hj
  case qc3 => intro u hu; simp at hu
  case qc4 => unfold maxLen; omega
  case qc5 => omega
  case qc6 => simp
  intro v' w1 hown hgrow hnil
  have hf : ∃ ao k, v' = .slice ao 0 k ∧ k ≤ 9223372036854775807 := by
    rcases hown.2 with ⟨rfl, _⟩ | ⟨g, cap, cur, rfl, _, _, _, hm, _, _⟩
    · exact ⟨none, 0, rfl, by omega⟩
    · exact ⟨_, cap, rfl, by unfold maxLen at hm; omega⟩
  obtain ⟨ao, k, rfl, hk⟩ := hf
  have HK := Lib.hid hk; have HG := Lib.hid hgrow
  clear hk hgrow hown hnil
  go_wp2
  go_ret
  exact ⟨⟨ao, k, rfl, HK.out⟩, ((Below.refl _ w).alloc (Nat.le_refl _) _).grown HG.out (by simp) (by intro k hk; simp [Value.ownBlock] at hk; omega)⟩
theorem clone8_c {D : Nat → Prop} {v : Value} {l : List Nat} {w : World} (h : Bs w D v l) (hl : l.length ≤ 1000000) :
    Calls Try.prog 79 #[v] w fun e w' => (∃ ao k, e = .returned (.slice ao l.length k) ∧ Hid (Bs w' (fun b => D b ∨ w.heap.size ≤ b) (.slice ao l.length k) l)) ∧ Below w.heap.size w w' := by
  have h' := h
  obtain ⟨ao, cap, rfl, h1, h2, h3, h4, h5⟩ := h
  cases ao with
  | none =>
    have : l = [] := by
      apply Classical.byContradiction; intro hne
      obtain ⟨b, off, e, _⟩ := h4 hne; cases e
    subst this
    refine (AnyE.slices_Clone_nil Try.laysCloneB _ _ w).mono ?_
    rintro e w' ⟨rfl, rfl⟩
    exact ⟨⟨_, _, rfl, Lib.hid (Bs.nil _ _)⟩, Below.refl _ _⟩
  | some a =>
    by_cases hne : l = []
    · subst hne
      refine (clone8_zero).mono ?_
      rintro e w' ⟨⟨ao, k, rfl, hk⟩, hb⟩
      exact ⟨⟨ao, k, rfl, Lib.hid ⟨ao, k, rfl, Nat.zero_le _, hk, by simp, fun h => absurd rfl h, trivial⟩⟩, hb⟩
    · obtain ⟨b, off, e, _⟩ := h4 hne
      cases e
      exact clone8_some D b off cap l w h' hl
end Go.Proofs.Ytbcfcdcomboljaa

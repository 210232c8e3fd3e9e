/- Rows of rows of ints that came in as arguments: opened. -/
import Derived.Test.YteipbcpnnojclaaDoorPolFr
import Derived.Deep.Slices
import Derived.Deep.Fields
namespace Go.Proofs.YteipbcpnnojclaaDoor
open Go.ChangeShapes Go.WideShapes Go.ChangeAt Go.RowKit Go.Deep
set_option linter.unusedVariables false
set_option linter.unusedSimpArgs false
section
variable {H : Type} {enc : TypeId × Value → H} {W : World}
theorem cells_irow : Tryd.prog.cellsOf 22 = 1 := by kernel_rfl
set_option maxRecDepth 100000 in
theorem open_mrow {fuel : Nat} {c0 : Value} {x : DataW H × List MemPlace} (h : DataW.trod enc Tryd.prog W 0 (fun _ => true) true fuel 44 [c0] = some x) : ∃ L : List (List Int), Mx W (fun _ => True) c0 L := by
  rcases open_slice Tryd.underlying44 h with ⟨hcs, _⟩ | ⟨a, len, cap, m, n, Dd, Pl, hcs, _, hl, hm, hmm, _, hi⟩
  · simp only [List.cons.injEq, and_true] at hcs
    exact ⟨[], none, 0, hcs, Nat.le_refl _, by omega, fun h => absurd rfl h⟩
  · simp only [List.cons.injEq, and_true] at hcs
    subst hcs
    have hmc : m = cap := by simpa using hmm
    subst hmc
    have hex : ∀ i, ∃ l : List Int, i < m → a.spot = none ∧ ∃ rv, W.cell? ⟨a.block, a.off + i, none⟩ = some rv ∧ Rw W (fun _ => True) rv l.length 1 (icl l) := by
      intro i
      by_cases him : i < m
      · obtain ⟨cs', hc, ht⟩ := hi i him
        rw [cells_irow] at hc
        obtain ⟨_, hcl, hat⟩ := World.cells?_some hc
        match cs', hcl with
        | [c], _ =>
          obtain ⟨l, hr⟩ := open_irow ht
          have k0 := hat 0 (by omega)
          have hsp : a.spot = none := by
            obtain ⟨cs0, hc0, _⟩ := hi 0 (by omega)
            rw [cells_irow] at hc0
            obtain ⟨_, hcl0, hat0⟩ := World.cells?_some hc0
            have q0 := hat0 0 (by omega)
            rw [List.getElem?_eq_getElem (by omega)] at q0
            have := cell_spot q0
            simpa [Addr.add] using this
          obtain ⟨b, off, sp⟩ := a
          simp only at hsp
          subst hsp
          refine ⟨l, fun _ => ⟨rfl, c, ?_, hr⟩⟩
          rw [Addr.add_lit, Addr.add_lit, Nat.mul_one, Nat.add_zero] at k0
          exact k0.trans rfl
      · exact ⟨[], fun h => absurd h him⟩
    obtain ⟨f, hf⟩ := Classical.axiomOfChoice hex
    have hll : ((List.range len).map f).length = len := by simp
    refine ⟨(List.range len).map f, some a, m, by rw [hll], by rw [hll]; exact hl, by unfold maxLen at hm; omega, fun hne => ?_⟩
    have hpos : 0 < len := by
      rcases Nat.eq_zero_or_pos len with e | e
      · subst e; exact absurd rfl hne
      · exact e
    obtain ⟨hsp, rv0, hc0, _⟩ := hf 0 (by omega)
    have hb : a.block < W.heap.size := World.block_lt_of_cell? W ⟨a.block, _, none⟩ hc0
    obtain ⟨b, off, sp⟩ := a
    simp only at hsp
    subst hsp
    refine ⟨b, off, rfl, ⟨hb, trivial⟩, fun i l e => ?_⟩
    have hi2 : i < len := by
      have := (List.getElem?_eq_some_iff.1 e).1
      rw [hll] at this; exact this
    rw [List.getElem?_map, List.getElem?_range hi2] at e
    simp only [Option.map_some, Option.some.injEq] at e
    subst e
    obtain ⟨_, rv, h1, h2⟩ := hf i (by omega)
    exact ⟨rv, h1, h2⟩
set_option maxRecDepth 100000 in
theorem open_mx {r : Reach} {base : Nat} {v : Value} {d : DataW H} {p : List MemPlace} (hv : Value.okWide Tryd.prog W r base 44 v) (h : DataW.Trod enc Tryd.prog W 0 (fun _ => true) true 44 v d p) :
    ∃ (L : List (List Int)) (xa : Option Addr) (xk : Nat), v = .slice xa L.length xk ∧ Fct.at W (fun _ => True) (.mx (.slice xa L.length xk) L) := by
  obtain ⟨a, l0, c, rfl⟩ := okWide_slice Tryd.underlying44 hv
  obtain ⟨fuel, hf⟩ := h
  obtain ⟨L, hl⟩ := open_mrow (c0 := .slice a l0 c) hf
  obtain ⟨xa, xk, e⟩ := hl.len
  exact ⟨L, xa, xk, e, by rw [← e]; exact hl⟩
end
end Go.Proofs.YteipbcpnnojclaaDoor

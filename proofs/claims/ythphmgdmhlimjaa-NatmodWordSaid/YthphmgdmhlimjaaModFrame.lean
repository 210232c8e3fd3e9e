/- A number that came in as an argument: opened. -/
import Derived.Test.YthphmgdmhlimjaaRows
import Derived.Test.YthphmgdmhlimjaaModRa
import Derived.ProofKit
import Derived.OpenShut
import Derived.ShutString
import Derived.ChangeOld
import Derived.Below
import Derived.Carry
namespace Go.Proofs.Ythphmgdmhlimjaa
open Go.ChangeShapes Go.WideShapes Go.ChangeAt Go.RowKit NatMath
set_option linter.unusedVariables false

theorem own : ownKnob Try.prog.godebug = none := by kernel_rfl
theorem laidOut : laidOutB Try.prog = true := by kernel_rfl

theorem open_nat {H : Type} {enc : TypeId × Value → H} {W : World} {r : Reach} {base : Nat} {v : Value} {d : DataW H} {p : List MemPlace}
    (hv : Value.okWide Try.prog W r base 24 v) (h : DataW.Trod enc Try.prog W 0 (fun _ => true) true 24 v d p) : ∃ (u : Value) (l : List Nat), v = .agg #[u] ∧ Sl W u l := by
  have hv' := hv
  obtain ⟨cs, rfl, hsz⟩ := okWide_struct Try.underlying24 hv
  have h1 : cs.size = 1 := hsz.trans (by kernel_rfl)
  obtain ⟨c0, rfl⟩ : ∃ c0, cs = #[c0] := by
    match cs, h1 with
    | ⟨[c]⟩, _ => exact ⟨c, rfl⟩
  obtain ⟨fuel, hf⟩ := h
  obtain ⟨y0, n, hx, _, hf0⟩ := trod_struct1 Try.underlying24 hf
  have hf1 : DataW.trod enc Try.prog W 0 (fun _ => true) true n 22 [c0] = some y0 := hf0
  have hspot : ∀ a k c, c0 = .slice (some a) k c → a.spot = none := by
    intro a k c e
    have h2 : Value.okWide Try.prog W r base 24 (.agg #[c0]) := hv'
    simp only [Value.okWide, Try.underlying24] at h2
    obtain ⟨cs', e1, _, ts, e2, _, h3⟩ := h2
    obtain rfl : cs' = #[c0] := by simpa using e1.symm
    obtain ⟨u, hu, hcell⟩ := h3 0 c0 rfl
    have e3 : Try.prog.cellTypes Try.prog.depth 24 = some [22] := by kernel_rfl
    rw [e3] at e2
    obtain rfl := Option.some.inj e2
    simp only [List.length_singleton, Nat.mod_one, List.getElem?_cons_zero, Option.some.injEq] at hu
    subst hu e
    simp only [Cell.okWide, Try.underlying22, Cell.ok] at hcell
    exact hcell.2.2.2.1
  rcases open_ints Try.underlying22 Try.underlying49 (by kernel_rfl) hf1 with ⟨hcs, _⟩ | ⟨x, l, c, zs, hcs, _, hl, hm, hz, _, hcell, hwz⟩
  · simp only [List.cons.injEq, and_true] at hcs
    exact ⟨c0, [], rfl, by rw [hcs]; exact Sl.nil W⟩
  · simp only [List.cons.injEq, and_true] at hcs
    subst hcs
    have hsp := hspot _ _ _ rfl
    obtain ⟨b, off, sp⟩ := x
    simp only at hsp
    subst hsp
    have hzl : zs.length = c := by simpa using hz
    have hwf : ∀ n ∈ zs, 0 ≤ n ∧ n < 4294967296 := by
      intro n hn
      have := hwz n hn
      simp only [Lit.wf, Bool.and_eq_true, decide_eq_true_eq] at this
      have e1 : IntKind.u32.min = 0 := by rfl
      have e2 : IntKind.u32.max = 4294967295 := by rfl
      rw [e1, e2] at this
      omega
    refine ⟨_, (zs.take l).map Int.toNat, rfl, some ⟨b, off, none⟩, c, by simp; omega, by simp; omega, hm, ?_, ?_, by rintro a ha; simp only [Option.some.injEq] at ha; rw [← ha]⟩
    · intro u hu
      obtain ⟨z, hz1, rfl⟩ := List.mem_map.1 hu
      have := hwf z (List.mem_of_mem_take hz1)
      omega
    · intro hne
      have hlpos : 0 < l := by
        rcases Nat.eq_zero_or_pos l with h | h
        · subst h; simp at hne
        · exact h
      refine ⟨b, off, rfl, ?_, fun i hi => ?_⟩
      · have := hcell 0 (by omega)
        exact World.block_lt_of_cell? W _ (by simpa [Addr.add] using this)
      · simp at hi
        have h3 := hcell i (by omega)
        have e4 : (⟨b, off, none⟩ : Addr).add i = ⟨b, off + i, none⟩ := by simp [Addr.add]
        rw [e4] at h3
        rw [h3]
        have h4 := hwf (zs.getD i 0) (by rw [List.getD_eq_getElem?_getD, List.getElem?_eq_getElem (by omega)]; exact List.getElem_mem _)
        have hil : i < l := by omega
        have e5 : ((zs.take l).map Int.toNat).getD i 0 = (zs.getD i 0).toNat := by
          simp [List.getD_eq_getElem?_getD, hil, List.getElem?_eq_getElem (show i < zs.length by omega)]
        rw [e5]
        congr 2
        omega
end Go.Proofs.Ythphmgdmhlimjaa

/- The two tables as the row lists them, a start that meets the condition; rows of ints that came in as arguments: opened. -/
import Derived.Test.YteipbcpnnojclaaDoorRows
import Derived.WalkKit
import Derived.ProofKit
import Derived.LaidMore
import Derived.OpenShut
import Derived.ShutString
import Derived.ChangeOld
import Derived.Below
import Derived.Stop.Joined
import Derived.Carry
import Derived.Deep.Slices
import Derived.Deep.Fields
import Derived.Test.YteipbcpnnojclaaDoorPriA
import Derived.Test.YteipbcpnnojclaaDoorPLst
namespace Go.Proofs.YteipbcpnnojclaaDoor
open Go.ChangeShapes Go.WideShapes Go.ChangeAt Go.RowKit Go.Deep
set_option linter.unusedVariables false
theorem own : ownKnob Tryd.prog.godebug = none := by kernel_rfl
theorem laidOut : laidOutB Tryd.prog = true := by kernel_rfl
abbrev laid2 : List (String × DataW Unit) := [("math/bits.deBruijn64tab", Rows.laid_math_bits_deBruijn64tab), ("specie/prime.bases", Rows.laid_specie_prime_bases)]
theorem gTab : Tryd.prog.globalNamed "math/bits.deBruijn64tab" = some 1 := by kernel_rfl
theorem gBas : Tryd.prog.globalNamed "specie/prime.bases" = some 0 := by kernel_rfl
theorem tTab : (Tryd.prog.globals[1]?).map (·.type) = some 133 := by kernel_rfl
theorem tBas : (Tryd.prog.globals[0]?).map (·.type) = some 106 := by kernel_rfl
section
variable {H : Type} {enc : TypeId × Value → H} {W : World}
theorem cells_of_tab {sp : Nat → Bool} {held : Bool} {fuel : Nat} {t e : TypeId} {n : Nat} {k : IntKind} {cs : List Value} {l : List Nat} {q : List MemPlace}
    (ht : Tryd.prog.underlying t = some (.array n e)) (he : Tryd.prog.underlying e = some (.int k)) (c1 : Tryd.prog.cellsOf e = 1)
    (h : DataW.trod enc Tryd.prog W 0 sp held fuel t cs = some (.agg (l.map fun x => .lit (.int k (x : Nat))), q)) : ∀ i, i < n → cs[i]? = some (.int k (l.getD i 0 : Nat)) := by
  obtain ⟨xs, m, rfl, hx, hlen, hn, hel⟩ := DataW.trod_array ht h
  simp only [Prod.mk.injEq, DataW.agg.injEq] at hx
  intro i hi
  have h1 := hel i hi
  rw [c1, Nat.mul_one, List.getElem?_eq_getElem (by omega)] at h1
  obtain ⟨v, e1, e2, _⟩ := DataW.trod_int he h1
  have h2 : (cs.drop i)[0]? = some (.int k v) := by
    have : ((cs.drop i).take 1)[0]? = some (.int k v) := by rw [e1]; rfl
    rw [List.getElem?_take] at this
    simpa using this
  rw [List.getElem?_drop, Nat.add_zero] at h2
  have h3 : (xs.map (·.1))[i]? = some (.lit (.int k v)) := by
    rw [List.getElem?_map, List.getElem?_eq_getElem (by omega), e2]; rfl
  rw [← hx.1, List.getElem?_map] at h3
  cases hl : l[i]? with
  | none => rw [hl] at h3; cases h3
  | some x =>
    rw [hl] at h3
    simp only [Option.map_some, Option.some.injEq, DataW.lit.injEq, Lit.int.injEq, true_and] at h3
    rw [h2, List.getD_eq_getElem?_getD, hl, ← h3]; rfl
theorem of_laid (h : laidMetH Tryd.prog laid2 W) : Laid W := by
  rw [MakeChecks.laidMetH_plain _ _ _ (by kernel_rfl)] at h
  obtain ⟨ps, ⟨g0, t0, cs0, f0, p0, q0, hg0, ht0, hv0, hd0, ⟨g1, t1, cs1, f1, p1, q1, hg1, ht1, hv1, hd1, _, _⟩, _⟩, _, _⟩ := h
  obtain rfl := Option.some.inj (gTab.symm.trans hg0)
  obtain rfl := Option.some.inj (gBas.symm.trans hg1)
  obtain rfl := Option.some.inj (tTab.symm.trans ht0)
  obtain rfl := Option.some.inj (tBas.symm.trans ht1)
  have k0 := cells_of_tab (l := Lib.deBruijn64tab) Tryd.underlying133 Tryd.underlying5 (by kernel_rfl) hd0
  have k1 := cells_of_tab (l := Pri.bases) Tryd.underlying106 Tryd.underlying105 (by kernel_rfl) hd1
  have c0 : ∀ j, j < 64 → W.cell? ⟨1, j, none⟩ = some (.int .u8 (Lib.deBruijn64tab.getD j 0 : Nat)) := fun j hj => by
    rw [World.var?_cell hg0 hv0 j, ← Array.getElem?_toList]; exact k0 j hj
  have c1 : ∀ j, j < 12 → W.cell? ⟨0, j, none⟩ = some (.int .u64 (Pri.bases.getD j 0 : Nat)) := fun j hj => by
    rw [World.var?_cell hg1 hv1 j, ← Array.getElem?_toList]; exact k1 j hj
  exact ⟨c1, fun j hj => c0 j hj, Nat.succ_le_of_lt (World.block_lt_of_cell? W ⟨1, 0, none⟩ (c0 0 (by omega)))⟩
theorem door_met (os : Os) (args : Array Value) : laidMetH Tryd.prog laid2 ((World.doorLaid Tryd.prog 400 os).forCall (fun _ _ => 0) ⟨#[], args, []⟩).memory :=
  laidMetH_of_parts3 (fuel := 8) (laidMet_of_run' 8 (by kernel_rfl) (by kernel_rfl)) (by kernel_rfl) (by kernel_rfl)
theorem cell_spot {W : World} {x : Addr} {v : Value} (h : W.cell? x = some v) : x.spot = none := by
  unfold World.cell? at h
  split at h
  · split at h
    · cases h
    · rename_i hn; cases hs : x.spot with
      | none => rfl
      | some s => rw [hs] at hn; simp at hn
  · cases h
set_option maxRecDepth 100000 in
theorem open_irow {n : Nat} {c0 : Value} {y : DataW H × List MemPlace} (h : DataW.trod enc Tryd.prog W 0 (fun _ => true) true n 22 [c0] = some y) : ∃ l, Rw W (fun _ => True) c0 l.length 1 (icl l) := by
  rcases open_ints Tryd.underlying22 Tryd.underlying3 (by kernel_rfl) h with ⟨hcs, _⟩ | ⟨x, l, c, zs, hcs, _, hl, hm, hz, _, hcell, hwz⟩
  · simp only [List.cons.injEq, and_true] at hcs
    exact ⟨[], by rw [hcs]; exact Rw.nil W _ _⟩
  · simp only [List.cons.injEq, and_true] at hcs
    subst hcs
    have hzl : zs.length = c := by simpa using hz
    have hlen : (zs.take l).length = l := by simp; omega
    refine ⟨zs.take l, some x, c, by rw [hlen], by omega, by unfold maxLen at hm; omega, icl_len _, icl_one _, fun hne => ?_⟩
    rw [hlen] at hne
    have hc0 := hcell 0 (by omega)
    have hsp := cell_spot hc0
    obtain ⟨b, off, sp⟩ := x
    simp only [Addr.add] at hsp
    subst hsp
    refine ⟨b, off, rfl, ⟨World.block_lt_of_cell? W _ (by simpa [Addr.add] using hc0), trivial⟩, fun i u hu => ?_⟩
    have hi : i < l := by
      have := (List.getElem?_eq_some_iff.1 hu).1
      rw [icl_len, hlen] at this; omega
    have h3 := hcell i (by omega)
    rw [Addr.add_lit] at h3
    rw [h3]
    rw [icl_get _ i (by rw [hlen]; exact hi)] at hu
    rw [← Option.some.inj hu]
    simp [List.getD_eq_getElem?_getD, List.getElem?_eq_getElem (show i < zs.length by omega)]
set_option maxRecDepth 100000 in
theorem open_ir {r : Reach} {base : Nat} {v : Value} {d : DataW H} {p : List MemPlace} (hv : Value.okWide Tryd.prog W r base 22 v) (h : DataW.Trod enc Tryd.prog W 0 (fun _ => true) true 22 v d p) :
    ∃ (l : List Int) (xa : Option Addr) (xk : Nat), v = .slice xa l.length xk ∧ Fct.at W (fun _ => True) (.rw (.slice xa l.length xk) l.length 1 (icl l)) := by
  obtain ⟨a, l0, c, rfl⟩ := okWide_slice Tryd.underlying22 hv
  obtain ⟨fuel, hf⟩ := h
  obtain ⟨l, hl⟩ := open_irow (c0 := .slice a l0 c) hf
  obtain ⟨xa, xk, e⟩ := hl.len
  exact ⟨l, xa, xk, e, by rw [← e]; exact hl⟩
end
end Go.Proofs.YteipbcpnnojclaaDoor

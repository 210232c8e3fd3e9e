/- Lines and rows of fates that came in as arguments: opened. -/
import Derived.Test.YtbcfcdcomboljaaSesFrame
import Derived.Test.YtbcfcdcomboljaaLinC
namespace Go.Proofs.Ytbcfcdcomboljaa
open Go.ChangeShapes Go.WideShapes Go.ChangeAt Go.RowKit Go.Deep
set_option linter.unusedVariables false
section
variable {H : Type} {enc : TypeId × Value → H} {W : World}
theorem open_irow {n : Nat} {c0 : Value} {y : DataW H × List MemPlace} (h : DataW.trod enc Try.prog W 0 (fun _ => true) true n 62 [c0] = some y) : ∃ l, Rw W (fun _ => True) c0 l.length 1 (icl l) := by
  rcases open_ints Try.underlying62 Try.underlying3 (by kernel_rfl) h with ⟨hcs, _⟩ | ⟨x, l, c, zs, hcs, _, hl, hm, hz, _, hcell, hwz⟩
  · simp only [List.cons.injEq, and_true] at hcs
    exact ⟨[], by rw [hcs]; exact Rw.nil W _ _⟩
  · simp only [List.cons.injEq, and_true] at hcs
    subst hcs
    have hzl : zs.length = c := by simpa using hz
    have hlen : (zs.take l).length = l := by simp; omega
    refine ⟨zs.take l, some x, c, by rw [hlen], by omega, by unfold maxLen at hm; omega, icl_len _, icl_one _, fun hne => ?_⟩
    rw [hlen] at hne
    have hc0 := hcell 0 (by omega)
    have hsp := cell_spot hc0
    obtain ⟨b, off, sp⟩ := x
    simp only [Addr.add] at hsp
    subst hsp
    refine ⟨b, off, rfl, ⟨World.block_lt_of_cell? W _ (by simpa [Addr.add] using hc0), trivial⟩, fun i u hu => ?_⟩
    have hi : i < l := by
      have := (List.getElem?_eq_some_iff.1 hu).1
      rw [icl_len, hlen] at this; omega
    have h3 := hcell i (by omega)
    rw [Addr.add_lit] at h3
    rw [h3]
    rw [icl_get _ i (by rw [hlen]; exact hi)] at hu
    rw [← Option.some.inj hu]
    simp [List.getD_eq_getElem?_getD, List.getElem?_eq_getElem (show i < zs.length by omega)]
theorem cells_f : Try.prog.cellsOf 72 = 2 := by kernel_rfl
theorem cells_is : Try.prog.cellsOf 62 = 1 := by kernel_rfl
theorem cells_fs : Try.prog.cellsOf 59 = 1 := by kernel_rfl
theorem cells_l : Try.prog.cellsOf 64 = 4 := by kernel_rfl
set_option maxRecDepth 100000 in
theorem trod_fate {fuel : Nat} {cs : List Value} {x : DataW H × List MemPlace} (h : DataW.trod enc Try.prog W 0 (fun _ => true) true fuel 72 cs = some x) : ∃ (p : Int × Int), cs = [.int .i64 p.1, .int .i64 p.2] := by
  obtain ⟨xs, n, rfl, hx, hcl, hlen, hg⟩ := DataW.trod_struct Try.underlying72 h
  rw [cells_f] at hcl
  match cs, hcl with
  | [c0, c1], _ =>
    match xs, hlen with
    | [y0, y1], _ =>
      have g0 : DataW.trod enc Try.prog W 0 (fun _ => true) true n 3 [c0] = some y0 := by have := hg 0 _ rfl; simpa [cells_int] using this
      have g1 : DataW.trod enc Try.prog W 0 (fun _ => true) true n 3 [c1] = some y1 := by have := hg 1 _ rfl; simpa [cells_int] using this
      obtain ⟨a0, e0, _, _⟩ := DataW.trod_int Try.underlying3 g0
      obtain ⟨a1, e1, _, _⟩ := DataW.trod_int Try.underlying3 g1
      simp only [List.cons.injEq, and_true] at e0 e1
      subst e0 e1
      exact ⟨(a0, a1), rfl⟩
set_option maxRecDepth 100000 in
theorem open_frow {fuel : Nat} {c0 : Value} {x : DataW H × List MemPlace} (h : DataW.trod enc Try.prog W 0 (fun _ => true) true fuel 59 [c0] = some x) : ∃ l, Rw W (fun _ => True) c0 l.length 2 (fcl l) := by
  rcases open_slice Try.underlying59 h with ⟨hcs, _⟩ | ⟨a, len, cap, m, n, Dd, Pl, hcs, _, hl, hm, hmm, _, hi⟩
  · simp only [List.cons.injEq, and_true] at hcs
    exact ⟨[], by rw [hcs]; exact Rw.nil W _ _⟩
  · simp only [List.cons.injEq, and_true] at hcs
    subst hcs
    have hmc : m = cap := by simpa using hmm
    subst hmc
    have hex : ∀ i, ∃ p : Int × Int, i < m → a.spot = none ∧ W.cell? ⟨a.block, a.off + i * 2, none⟩ = some (.int .i64 p.1) ∧ W.cell? ⟨a.block, a.off + i * 2 + 1, none⟩ = some (.int .i64 p.2) := by
      intro i
      by_cases him : i < m
      · obtain ⟨cs', hc, ht⟩ := hi i him
        rw [cells_f] at hc
        obtain ⟨_, hcl, hat⟩ := World.cells?_some hc
        obtain ⟨p, rfl⟩ := trod_fate ht
        refine ⟨p, fun _ => ?_⟩
        have hsp : a.spot = none := by
          obtain ⟨cs0, hc0, ht0⟩ := hi 0 (by omega)
          rw [cells_f] at hc0
          obtain ⟨_, _, hat0⟩ := World.cells?_some hc0
          obtain ⟨p0, rfl⟩ := trod_fate ht0
          have k0 := hat0 0 (by simp)
          have := cell_spot (k0.trans rfl)
          simpa [Addr.add] using this
        obtain ⟨b, off, sp⟩ := a
        simp only at hsp
        subst hsp
        have k : ∀ j, j < 2 → W.cell? ⟨b, off + i * 2 + j, none⟩ = [Value.int .i64 p.1, .int .i64 p.2][j]? := by
          intro j hj
          have := hat j (by simpa using hj)
          rw [Addr.add_lit, Addr.add_lit] at this
          exact this
        exact ⟨rfl, k 0 (by omega), k 1 (by omega)⟩
      · exact ⟨(0, 0), fun h => absurd h him⟩
    obtain ⟨f, hf⟩ := Classical.axiomOfChoice hex
    have hlen : ((List.range len).map f).length = len := by simp
    refine ⟨(List.range len).map f, some a, m, by rw [hlen], by rw [hlen]; exact hl, by unfold maxLen at hm; omega, fcl_len _, fcl_one _, fun hne => ?_⟩
    rw [hlen] at hne
    obtain ⟨hsp, h1, _⟩ := hf 0 (by omega)
    have hall := fun i hi => (hf i hi).2
    obtain ⟨b, off, sp⟩ := a
    simp only at hsp
    subst hsp
    refine ⟨b, off, rfl, ⟨World.block_lt_of_cell? W _ h1, trivial⟩, fun i u hu => ?_⟩
    have hi2 : i < len * 2 := by
      have := (List.getElem?_eq_some_iff.1 hu).1
      rw [fcl_len, hlen] at this; exact this
    have hg := fcl_get ((List.range len).map f) (i / 2) (by rw [hlen]; omega)
    simp only [List.getElem_map, List.getElem_range] at hg
    have hc := hall (i / 2) (by omega)
    rcases Nat.mod_two_eq_zero_or_one i with e | e
    · have e2 : i = i / 2 * 2 := by omega
      rw [e2, hg.1] at hu
      rw [← Option.some.inj hu, e2]; 
      have := hc.1
      simpa [show i / 2 * 2 / 2 = i / 2 by omega] using this
    · have e2 : i = i / 2 * 2 + 1 := by omega
      rw [e2, hg.2] at hu
      rw [← Option.some.inj hu, e2]
      have := hc.2
      simpa [show (i / 2 * 2 + 1) / 2 = i / 2 by omega, Nat.add_assoc] using this
set_option maxRecDepth 100000 in
theorem open_fat {r : Reach} {base : Nat} {v : Value} {d : DataW H} {p : List MemPlace} (hv : Value.okWide Try.prog W r base 59 v) (h : DataW.Trod enc Try.prog W 0 (fun _ => true) true 59 v d p) :
    ∃ (l : List (Int × Int)) (xa : Option Addr) (xk : Nat), v = .slice xa l.length xk ∧ Fct.at W (fun _ => True) (.rw (.slice xa l.length xk) l.length 2 (fcl l)) := by
  obtain ⟨a, l0, c, rfl⟩ := okWide_slice Try.underlying59 hv
  obtain ⟨fuel, hf⟩ := h
  obtain ⟨l, hl⟩ := open_frow (c0 := .slice a l0 c) hf
  obtain ⟨xa, xk, e⟩ := hl.len
  exact ⟨l, xa, xk, e, by rw [← e]; exact hl⟩
set_option maxRecDepth 100000 in
theorem open_lin {r : Reach} {base : Nat} {v : Value} {d : DataW H} {p : List MemPlace} (hv : Value.okWide Try.prog W r base 64 v) (h : DataW.Trod enc Try.prog W 0 (fun _ => true) true 64 v d p) :
    ∃ (l : Lin) (xa xb xc : Option Addr) (xj xk xm : Nat), v = .agg #[.int .i64 l.nw, .slice xa l.L.length xj, .slice xb l.ats.length xk, .slice xc l.ft.length xm] ∧ Fct.at W (fun _ => True) (.ms (.slice xa l.L.length xj) l.L) ∧ Fct.at W (fun _ => True) (.rw (.slice xb l.ats.length xk) l.ats.length 1 (icl l.ats)) ∧ Fct.at W (fun _ => True) (.rw (.slice xc l.ft.length xm) l.ft.length 2 (fcl l.ft)) := by
  obtain ⟨cs, rfl, hsz⟩ := okWide_struct Try.underlying64 hv
  obtain ⟨fuel, hf⟩ := h
  obtain ⟨xs, n, rfl, hx, hcl, hlen, hg⟩ := DataW.trod_struct Try.underlying64 hf
  rw [cells_l] at hcl
  have hcs : cs = cs.toList.toArray := Array.toArray_toList.symm
  have hcl' : cs.toList.length = 4 := hcl
  have hg' : ∀ (i : Nat) (f : Field), _ → DataW.trod enc Try.prog W 0 (fun _ => true) true n f.type ((cs.toList.drop f.offset).take (Try.prog.cellsOf f.type)) = xs[i]? := hg
  rw [hcs]
  generalize cs.toList = l at *
  match l, hcl' with
  | [c0, c1, c2, c3], _ =>
    match xs, hlen with
    | [y0, y1, y2, y3], _ =>
      have g0 : DataW.trod enc Try.prog W 0 (fun _ => true) true n 3 [c0] = some y0 := by have := hg' 0 _ rfl; simpa [cells_int] using this
      have g1 : DataW.trod enc Try.prog W 0 (fun _ => true) true n 25 [c1] = some y1 := by have := hg' 1 _ rfl; simpa [cells_ms] using this
      have g2 : DataW.trod enc Try.prog W 0 (fun _ => true) true n 62 [c2] = some y2 := by have := hg' 2 _ rfl; simpa [cells_is] using this
      have g3 : DataW.trod enc Try.prog W 0 (fun _ => true) true n 59 [c3] = some y3 := by have := hg' 3 _ rfl; simpa [cells_fs] using this
      obtain ⟨a0, e0, _, _⟩ := DataW.trod_int Try.underlying3 g0
      obtain ⟨L, hL⟩ := open_msgs g1
      obtain ⟨A, hA⟩ := open_irow g2
      obtain ⟨B, hB⟩ := open_frow g3
      obtain ⟨xa, xj, rfl⟩ := hL.len
      obtain ⟨xb, xk, rfl⟩ := hA.len
      obtain ⟨xc, xm, rfl⟩ := hB.len
      simp only [List.cons.injEq, and_true] at e0
      subst e0
      exact ⟨⟨a0, L, A, B⟩, xa, xb, xc, xj, xk, xm, rfl, hL, hA, hB⟩
end
end Go.Proofs.Ytbcfcdcomboljaa

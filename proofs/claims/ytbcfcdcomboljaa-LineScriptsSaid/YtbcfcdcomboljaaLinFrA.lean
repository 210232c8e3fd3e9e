/- Rows of actions that came in as arguments: opened. -/
import Derived.Test.YtbcfcdcomboljaaLinFrame
import Derived.Test.YtbcfcdcomboljaaLinPm
import Derived.OpenShut
namespace Go.Proofs.Ytbcfcdcomboljaa
open Go.ChangeShapes Go.WideShapes Go.ChangeAt Go.RowKit Go.Deep
set_option linter.unusedVariables false
section
variable {H : Type} {enc : TypeId × Value → H} {W : World}
theorem cells_act : Try.prog.cellsOf 70 = 3 := by kernel_rfl
theorem cells_byte : Try.prog.cellsOf 5 = 1 := by kernel_rfl
theorem acl_len (l : Acts) : (acl l).length = l.length * 3 := by
  induction l with
  | nil => rfl
  | cons x l ih =>
    have e : acl (x :: l) = [.int .u8 (x.1 : Int), .int .u8 (x.2.1 : Int), .int .u8 (x.2.2 : Int)] ++ acl l := rfl
    rw [e, List.length_append, ih]
    simp
    omega
theorem acl_one (l : Acts) : ∀ u ∈ acl l, u.oneCell' = true := by
  intro u hu
  unfold acl at hu
  obtain ⟨x, _, hx⟩ := List.mem_flatMap.1 hu
  simp only [List.mem_cons, List.not_mem_nil, or_false] at hx
  rcases hx with rfl | rfl | rfl <;> rfl
def Byt (x : Nat × Nat × Nat) : Prop := x.1 < 256 ∧ x.2.1 < 256 ∧ x.2.2 < 256
set_option maxRecDepth 100000 in
theorem trod_act {fuel : Nat} {cs : List Value} {x : DataW H × List MemPlace} (h : DataW.trod enc Try.prog W 0 (fun _ => true) true fuel 70 cs = some x) : ∃ (p : Nat × Nat × Nat), cs = [.int .u8 (p.1 : Int), .int .u8 (p.2.1 : Int), .int .u8 (p.2.2 : Int)] ∧ Byt p := by
  obtain ⟨xs, n, rfl, hx, hcl, hlen, hg⟩ := DataW.trod_struct Try.underlying70 h
  rw [cells_act] at hcl
  match cs, hcl with
  | [c0, c1, c2], _ =>
    match xs, hlen with
    | [y0, y1, y2], _ =>
      have g0 : DataW.trod enc Try.prog W 0 (fun _ => true) true n 5 [c0] = some y0 := by have := hg 0 _ rfl; simpa [cells_byte] using this
      have g1 : DataW.trod enc Try.prog W 0 (fun _ => true) true n 5 [c1] = some y1 := by have := hg 1 _ rfl; simpa [cells_byte] using this
      have g2 : DataW.trod enc Try.prog W 0 (fun _ => true) true n 5 [c2] = some y2 := by have := hg 2 _ rfl; simpa [cells_byte] using this
      obtain ⟨a0, e0, _, w0⟩ := DataW.trod_int Try.underlying5 g0
      obtain ⟨a1, e1, _, w1⟩ := DataW.trod_int Try.underlying5 g1
      obtain ⟨a2, e2, _, w2⟩ := DataW.trod_int Try.underlying5 g2
      simp only [List.cons.injEq, and_true] at e0 e1 e2
      subst e0 e1 e2
      have b0 := bounds_u8 w0
      have b1 := bounds_u8 w1
      have b2 := bounds_u8 w2
      refine ⟨(a0.toNat, a1.toNat, a2.toNat), ?_, by unfold Byt; simp only; omega⟩
      simp only [Int.toNat_of_nonneg b0.1, Int.toNat_of_nonneg b1.1, Int.toNat_of_nonneg b2.1]
set_option maxRecDepth 100000 in
theorem open_arow {fuel : Nat} {c0 : Value} {x : DataW H × List MemPlace} (h : DataW.trod enc Try.prog W 0 (fun _ => true) true fuel 60 [c0] = some x) : ∃ l, Rw W (fun _ => True) c0 l.length 3 (acl l) ∧ ∀ x ∈ l, Byt x := by
  rcases open_slice Try.underlying60 h with ⟨hcs, _⟩ | ⟨a, len, cap, m, n, Dd, Pl, hcs, _, hl, hm, hmm, _, hi⟩
  · simp only [List.cons.injEq, and_true] at hcs
    exact ⟨[], by rw [hcs]; exact Rw.nil W _ _, by simp⟩
  · simp only [List.cons.injEq, and_true] at hcs
    subst hcs
    have hmc : m = cap := by simpa using hmm
    subst hmc
    have hex : ∀ i, ∃ p : Nat × Nat × Nat, Byt p ∧ (i < m → a.spot = none ∧ W.cell? ⟨a.block, a.off + i * 3, none⟩ = some (.int .u8 (p.1 : Int)) ∧ W.cell? ⟨a.block, a.off + i * 3 + 1, none⟩ = some (.int .u8 (p.2.1 : Int)) ∧ W.cell? ⟨a.block, a.off + i * 3 + 2, none⟩ = some (.int .u8 (p.2.2 : Int))) := by
      intro i
      by_cases him : i < m
      · obtain ⟨cs', hc, ht⟩ := hi i him
        rw [cells_act] at hc
        obtain ⟨_, hcl, hat⟩ := World.cells?_some hc
        obtain ⟨p, rfl, hp⟩ := trod_act ht
        refine ⟨p, hp, fun _ => ?_⟩
        have hsp : a.spot = none := by
          obtain ⟨cs0, hc0, ht0⟩ := hi 0 (by omega)
          rw [cells_act] at hc0
          obtain ⟨_, _, hat0⟩ := World.cells?_some hc0
          obtain ⟨p0, rfl, _⟩ := trod_act ht0
          have k0 := hat0 0 (by simp)
          have := cell_spot (k0.trans rfl)
          simpa [Addr.add] using this
        obtain ⟨b, off, sp⟩ := a
        simp only at hsp
        subst hsp
        have k : ∀ j, j < 3 → W.cell? ⟨b, off + i * 3 + j, none⟩ = [Value.int .u8 (p.1 : Int), .int .u8 (p.2.1 : Int), .int .u8 (p.2.2 : Int)][j]? := by
          intro j hj
          have := hat j (by simpa using hj)
          rw [Addr.add_lit, Addr.add_lit] at this
          exact this
        exact ⟨rfl, k 0 (by omega), k 1 (by omega), k 2 (by omega)⟩
      · exact ⟨(0, 0, 0), ⟨by decide, by decide, by decide⟩, fun h => absurd h him⟩
    obtain ⟨f, hf⟩ := Classical.axiomOfChoice hex
    have hlen : ((List.range len).map f).length = len := by simp
    refine ⟨(List.range len).map f, ⟨some a, m, by rw [hlen], by rw [hlen]; exact hl, by unfold maxLen at hm; omega, acl_len _, acl_one _, fun hne => ?_⟩, ?_⟩
    · rw [hlen] at hne
      obtain ⟨hsp, h1, _⟩ := (hf 0).2 (by omega)
      have hall := fun i hi => ((hf i).2 hi).2
      obtain ⟨b, off, sp⟩ := a
      simp only at hsp
      subst hsp
      refine ⟨b, off, rfl, ⟨World.block_lt_of_cell? W _ h1, trivial⟩, fun i u hu => ?_⟩
      have hi2 : i < len * 3 := by
        have := (List.getElem?_eq_some_iff.1 hu).1
        rw [acl_len, hlen] at this; exact this
      have hg := acl_get ((List.range len).map f) (i / 3) (by rw [hlen]; omega)
      simp only [List.getElem_map, List.getElem_range] at hg
      have hc := hall (i / 3) (by omega)
      have h3 : i % 3 = 0 ∨ i % 3 = 1 ∨ i % 3 = 2 := by omega
      rcases h3 with e | e | e
      · have e2 : i = i / 3 * 3 := by omega
        rw [e2, hg.1] at hu
        rw [← Option.some.inj hu, e2]
        have := hc.1
        simpa [show i / 3 * 3 / 3 = i / 3 by omega] using this
      · have e2 : i = i / 3 * 3 + 1 := by omega
        rw [e2, hg.2.1] at hu
        rw [← Option.some.inj hu, e2]
        have := hc.2.1
        simpa [show (i / 3 * 3 + 1) / 3 = i / 3 by omega, Nat.add_assoc] using this
      · have e2 : i = i / 3 * 3 + 2 := by omega
        rw [e2, hg.2.2] at hu
        rw [← Option.some.inj hu, e2]
        have := hc.2.2
        simpa [show (i / 3 * 3 + 2) / 3 = i / 3 by omega, Nat.add_assoc] using this
    · intro x hx
      obtain ⟨i, _, rfl⟩ := List.mem_map.1 hx
      exact (hf i).1
set_option maxRecDepth 100000 in
theorem open_act {r : Reach} {base : Nat} {v : Value} {d : DataW H} {p : List MemPlace} (hv : Value.okWide Try.prog W r base 60 v) (h : DataW.Trod enc Try.prog W 0 (fun _ => true) true 60 v d p) :
    ∃ (l : Acts) (xa : Option Addr) (xk : Nat), v = .slice xa l.length xk ∧ Fct.at W (fun _ => True) (.rw (.slice xa l.length xk) l.length 3 (acl l)) ∧ ∀ k (h : k < l.length), l[k].1 < 256 ∧ l[k].2.1 < 256 ∧ l[k].2.2 < 256 := by
  obtain ⟨a, l0, c, rfl⟩ := okWide_slice Try.underlying60 hv
  obtain ⟨fuel, hf⟩ := h
  obtain ⟨l, hl, hB⟩ := open_arow (c0 := .slice a l0 c) hf
  obtain ⟨xa, xk, e⟩ := hl.len
  exact ⟨l, xa, xk, e, by rw [← e]; exact hl, fun k h => hB _ (List.getElem_mem h)⟩
end
end Go.Proofs.Ytbcfcdcomboljaa

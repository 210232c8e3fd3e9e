/- make([]int, n): a box of the call's own, whose cells are n zeros; its elements read and stored. -/
import Derived.Test.YtbcfcdcomboljaaLinF
namespace Go.Proofs.Ytbcfcdcomboljaa
open Go.RowKit
set_option linter.unusedVariables false
theorem icl_rep (n : Nat) : icl (List.replicate n 0) = List.replicate n (.int .i64 0) := by unfold icl; simp
theorem icl_set (l : List Int) (k : Nat) (v : Int) : (icl l).set k (.int .i64 v) = icl (l.set k v) := by unfold icl; simp [List.map_set]
theorem wpl_makeI {D0 : Nat → Prop} {w W : World} {F : List Bx} {G : List Fct} {ops : Array Oper} {rest : List Oper} {o : Oper} {a : Act} {Q : Exit → Act → World → Prop}
    (hg : o.guard = none) (l c : Operand) (hop : o.op = Op.makeSlice 62 l c) (E : Env D0 w F G W) (n : Nat) (hl : a.eval l = .int .i64 (n : Int)) (hc : a.eval c = .int .i64 (n : Int)) (hn : n ≤ 1000000)
    (hK : ∀ W' g, Hid (Env D0 w ((g, 3, icl (List.replicate n 0)) :: F) G W') → wpList Try.prog ops Q rest (a.put o.dst (.slice (some ⟨g, 0, none⟩) n n)) W') :
    wpList Try.prog ops Q (o :: rest) a W := by
  obtain ⟨i0, hi, hz0, hz1, hz2⟩ := info_parts Try.infoInt
  refine wpList_make_full W hg l c 62 hop 0 3 i0 (.int .i64 0) 1 Try.underlying62 hi hz0 hz1 .i64 .i64 n n n hl hc rfl rfl (by rw [hz2]; omega) (by unfold maxLen; omega) (Nat.zero_le _) fun W' hown hgrow => ?_
  refine hK W' _ (Lib.hid ?_)
  have hbw : Below W.heap.size W W' := ⟨hgrow.os, hgrow.tape, hgrow.output, hgrow.size, fun k hk => hgrow.block k hk (by simp)⟩
  rcases hown.2 with ⟨h0, _⟩ | ⟨g', cap', cur, e, _, hg', h2, h3, h4, h5⟩
  · cases h0
  · simp only [Value.slice.injEq, Option.some.injEq, Addr.mk.injEq] at e
    obtain ⟨⟨rfl, _⟩, _, rfl⟩ := e
    have hcs : cur.toList = icl (List.replicate n 0) := by
      have e1 : (madeCells (Value.int .i64 0).cells (n * 1)).toList = List.replicate n (Value.int .i64 0) := by
        rw [Nat.mul_one]; exact toList_madeCells_one _ _
      rw [e1, List.take_of_length_le (by simp [h4])] at h5
      rw [icl_rep]; exact h5
    have E3 := E.gotBox hbw (g := W.heap.size) (T := 3) (cs := cur.toList) ⟨Nat.le_refl _, by rw [Array.toArray_toList]; exact hg'⟩
    rw [hcs] at E3
    exact E3
end Go.Proofs.Ytbcfcdcomboljaa

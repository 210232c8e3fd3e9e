/- slices.Insert in the middle, where there is no room. -/
import Derived.Test.YtbcfcdcomboljaaSesJ
namespace Go.Proofs.Ytbcfcdcomboljaa
open Go.RowKit
set_option linter.unusedVariables false
set_option maxHeartbeats 400000 in
set_option maxRecDepth 100000 in
/-- in the middle, where there is no room -/
theorem insert_grow {B gv g n cap i : Nat} {cs news : List Value} {Tv : TypeId} {w : World} (hX : Box B g 24 cs w) (hl : cs.length = cap * 5) (hi : i < n) (hnc : n ≤ cap) (hroom : cap < n + 1) (hn : n ≤ 1000000) (hnl : news.length = 5)
    (hV : w.heap[gv]? = some (.cells news.toArray Tv (0, 0))) (h1 : ∀ u ∈ news, u.oneCell' = true) (h1c : ∀ u ∈ cs.take (n * 5), u.oneCell' = true) :
    Calls Try.prog 55 #[.slice (some ⟨g, 0, none⟩) n cap, .int .i64 (i : Int), .slice (some ⟨gv, 0, none⟩) 1 1] w fun e w' => (∃ gc cs', e = .returned (.slice (some ⟨w.heap.size, 0, none⟩) (n + 1) gc) ∧ (n + 1 ≤ gc ∧ gc ≤ 9223372036854775807 ∧ cs'.length = gc * 5) ∧ Box w.heap.size w.heap.size 24 cs' w' ∧ cs'.take ((n + 1) * 5) = (cs.take (n * 5)).take (i * 5) ++ news ++ (cs.take (n * 5)).drop (i * 5)) ∧ Below w.heap.size w w' := by
  obtain ⟨i0, hi0, z0, z1, z2⟩ := infoM_open
  have hsz : (Try.prog.info? 24).map (·.size) = some 5 := by rw [hi0]; simp [z1]
  obtain ⟨k, hk⟩ : ∃ k, i + k = n + 1 := ⟨n + 1 - i, by omega⟩
  have hglt : g < w.heap.size := hX.lt
  have hgvlt : gv < w.heap.size := lt_of_block hV
  have hold : (Builtin.firstCells i0.size i (.slice (some ⟨g, 0, none⟩) i cap)).run Try.prog w.drew = .ok (cs.take (i * 5)).toArray w.drew := by
    rw [z1]
    refine run_firstCells_some w.drew 5 i ⟨g, 0, none⟩ i cap (cs.take (i * 5)) (by simp [hl]; omega) (fun j v hj => ?_)
    rw [Addr.add_lit, Nat.zero_add]
    rw [List.getElem?_take] at hj
    split at hj
    · exact (show Box B g 24 cs w.drew from ⟨hX.1, hX.2⟩).cell _ hj
    · cases hj
  have hap : ∀ ty, (Builtin.append_ #[25, 3] ty #[.slice (some ⟨g, 0, none⟩) i cap, .int .i64 (k : Int)]).run Try.prog w = _ := fun ty =>
    run_append_grow_zeros w 25 3 ty 24 i0 mzero .i64 .i64 Try.underlying25 Try.underlying3 hi0 z0 (some ⟨g, 0, none⟩) i cap (cs.take (i * 5)) hold k (by omega) (by omega) (by omega) (by omega) (by rw [z2]; omega) (by rw [z2]; exact growslice_fits (by omega) (by omega))
  obtain ⟨gc, hgc⟩ : ∃ gc, gc = grownCap w (i + k) cap 24 := ⟨_, rfl⟩
  have hge : n + 1 ≤ gc := by rw [hgc, ← hk]; exact grownCap_ge _ _ _ _
  have hgm : gc ≤ 9223372036854775807 := by
    have := grownCap_le_maxLen w (i + k) cap 24 (by unfold maxLen; omega)
    rw [← hgc] at this; unfold maxLen at this; omega
  obtain ⟨A, hA⟩ : ∃ A : Array Value, A = (cs.take (i * 5)).toArray ++ Builtin.zeroCells mzero.cells k ++ Builtin.zeroCells mzero.cells (gc - (i + k)) := ⟨_, rfl⟩
  rw [← hgc, ← hA, hk] at hap
  have hAs : A.size = gc * 5 := by
    rw [hA]; simp only [Array.size_append, size_zeroCells, List.size_toArray, List.length_take, hl, show mzero.cells.size = 5 from rfl]; omega
  have hA0 : ∀ j, j < i * 5 → A.toList[j]? = (cs.take (n * 5))[j]? := by
    intro j hj
    rw [hA]
    simp only [Array.toList_append, List.append_assoc]
    rw [List.getElem?_append_left (by simp [hl]; omega), List.getElem?_take, if_pos hj, List.getElem?_take, if_pos (by omega)]
  obtain ⟨W1, hW1⟩ : ∃ W1, W1 = w.drew.alloc (.cells A 24) := ⟨_, rfl⟩
  rw [← hW1] at hap
  have bel1 : Below w.heap.size w W1 := by rw [hW1]; exact (below_drewN (Below.refl _ _) 1).alloc (Nat.le_refl _) _
  have hX1 : Box w.heap.size w.heap.size 24 A.toList W1 := ⟨Nat.le_refl _, by rw [hW1, Array.toArray_toList]; exact heap_alloc_new w.drew _⟩
  have hcp2 : ∀ ty dc, (Builtin.copy_ #[25, 25] ty #[.slice (some ⟨w.heap.size, i * 5, none⟩) (n + 1 - i) dc, .slice (some ⟨gv, 0, none⟩) 1 1]).run Try.prog W1 = .ok (goInt (Nat.min 1 (n + 1 - i))) (W1.setCells w.heap.size (i * 5) news) := fun ty dc =>
    run_copy_cellsN W1 _ _ ty 24 5 w.heap.size (i * 5) (n + 1 - i) dc ⟨gv, 0, none⟩ 1 1 news Try.underlying25 hsz (by rw [hnl]; simp only [Nat.min_def]; split <;> omega)
      (fun j v hj => by
        rw [Addr.add_lit, Nat.zero_add, bel1.cell (p := ⟨gv, j, none⟩) hgvlt, cell_of_row w gv j news.toArray Tv (0, 0) hV]; simpa using hj)
      (fun j hj => by
        obtain ⟨x, hx⟩ : ∃ x, A.toList[i * 5 + j]? = some x := ⟨_, List.getElem?_eq_getElem (by simp [hAs]; omega)⟩
        rw [hX1.cell _ hx]; rfl) (fun j hj => hX1.frozen _) h1
  obtain ⟨W2, hW2⟩ : ∃ W2, W2 = W1.setCells w.heap.size (i * 5) news := ⟨_, rfl⟩
  have hX2 : Box w.heap.size w.heap.size 24 (setL A.toList (i * 5) news) W2 := by rw [hW2]; exact hX1.setCells _ _ _
  have out2 : ∀ (b o : Nat), b < w.heap.size → W2.cell? ⟨b, o, none⟩ = w.cell? ⟨b, o, none⟩ := fun b o hb => by
    rw [hW2, World.cell?_setCells_out w.heap.size _ _ _ _ (fun h _ => by simp only at h; omega)]; exact bel1.cell (p := ⟨b, o, none⟩) hb
  have hdl : ((cs.take (n * 5)).drop (i * 5)).length = n * 5 - i * 5 := by simp [hl]; omega
  have hcp3 : ∀ ty dc sc, (Builtin.copy_ #[25, 25] ty #[.slice (some ⟨w.heap.size, (i + 1) * 5, none⟩) (n - i) dc, .slice (some ⟨g, i * 5, none⟩) (n - i) sc]).run Try.prog W2.drew = .ok (goInt (Nat.min (n - i) (n - i))) (W2.drew.setCells w.heap.size ((i + 1) * 5) ((cs.take (n * 5)).drop (i * 5))) := fun ty dc sc =>
    run_copy_cellsN W2.drew _ _ ty 24 5 w.heap.size ((i + 1) * 5) (n - i) dc ⟨g, i * 5, none⟩ (n - i) sc ((cs.take (n * 5)).drop (i * 5)) Try.underlying25 hsz (by rw [hdl]; simp only [Nat.min_def]; split <;> omega)
      (fun j v hj => by
        rw [Addr.add_lit]
        rw [List.getElem?_drop, List.getElem?_take] at hj
        split at hj
        · exact (out2 g _ hglt).trans (hX.cell _ hj)
        · cases hj)
      (fun j hj => by
        obtain ⟨x, hx⟩ : ∃ x, (setL A.toList (i * 5) news)[(i + 1) * 5 + j]? = some x := ⟨_, List.getElem?_eq_getElem (by rw [hdl] at hj; rw [setL_length]; simp only [Array.length_toList, hAs]; omega)⟩
        rw [show W2.drew.cell? _ = W2.cell? _ from rfl, hX2.cell _ hx]; rfl) (fun j hj => hX2.frozen _) (fun v hv => h1c v (List.mem_of_mem_drop hv))
  obtain ⟨W3, hW3⟩ : ∃ W3, W3 = W2.drew.setCells w.heap.size ((i + 1) * 5) ((cs.take (n * 5)).drop (i * 5)) := ⟨_, rfl⟩
  have hX3 : Box w.heap.size w.heap.size 24 (setL (setL A.toList (i * 5) news) ((i + 1) * 5) ((cs.take (n * 5)).drop (i * 5))) W3 := by rw [hW3]; exact Box.setCells _ _ _ (show Box _ _ _ _ W2.drew from ⟨hX2.1, hX2.2⟩)
  have below_sets : ∀ (vs : List Value) (o : Nat) (W : World), Below w.heap.size w W → Below w.heap.size w (W.setCells w.heap.size o vs) := by
    intro vs
    induction vs with
    | nil => intro o W h; exact h
    | cons v r ih => intro o W h; exact ih _ _ (h.setCell (Nat.le_refl _) v)
  have bel3 : Below w.heap.size w W3 := by
    rw [hW3]; refine below_sets _ _ _ (below_drewN (n := 1) ?_); rw [hW2]; exact below_sets _ _ _ bel1
  have htk := (ins_take (cs := A.toList) (xs := cs.take (n * 5)) (news := news) (i := i) (n := n) (by simp [hl]; omega) hnl (by omega) (by simp [hAs]; omega) hA0).2
  rw [show i * 5 + 5 = (i + 1) * 5 by omega] at htk
  rw [← hW2] at hcp2
  rw [← hW3] at hcp3
  have AP := Lib.hid hap; have CP2 := Lib.hid hcp2; have CP3 := Lib.hid hcp3
  have FIN : Hid ((n + 1 ≤ gc ∧ gc ≤ 9223372036854775807 ∧ (setL (setL A.toList (i * 5) news) ((i + 1) * 5) ((cs.take (n * 5)).drop (i * 5))).length = gc * 5) ∧ _ ∧ _ ∧ _) := Lib.hid ⟨⟨hge, hgm, by rw [setL_length, setL_length]; simp [hAs]⟩, hX3, htk, bel3⟩
  have hw1 : IntKind.i64.wrap ((n : Int) + 1) = (n : Int) + 1 := by rw [IntKind.wrap_i64]; omega
  have hw2 : IntKind.i64.wrap ((i : Int) + 1) = (i : Int) + 1 := by rw [IntKind.wrap_i64]; omega
  have hw3 : IntKind.i64.wrap ((n : Int) + 1 - (i : Int)) = (k : Int) := by rw [IntKind.wrap_i64]; omega
  have HGE := Lib.hid hge; have HK := Lib.hid hk
  clear hap hcp2 hcp3 hX hV h1 h1c hold hi0 z0 z1 z2 hsz hA hA0 hAs hW1 hW2 hW3 bel1 bel3 hX1 hX2 hX3 out2 below_sets htk hgc hglt hgvlt hk hdl
  have hz2 : ¬ ((i : Int) = (n : Int)) := by omega
  have htn : ((i : Int) + 1).toNat = i + 1 := by omega
  have hb1 : (0 : Int) ≤ (i : Int) + 1 := by omega
  have hb5 : decide ((cap : Int) < (n : Int) + 1) = true := decide_eq_true (by omega)
  have hb2 : ¬ (gc = i + 1) := by omega
  have hb3 : (i : Int) ≤ (n : Int) + 1 := by omega
  have hb4 : ¬ (gc = i) := by omega
  have hb6 : ¬ (cap = i) := by omega
  have hin : i ≤ n := by omega
  have mixed : Try.prog.follows .mixedOrders = true := by kernel_rfl
  go_enter Try.func55, Try.ntmps55
  go_wp2_with (at_builtin; refine Lib.wpList_append_run _ rfl _ _ _ _ rfl _ _ rfl rfl _ _ (AP.out _) ?_)
  rw [CP2.out]
  go_wp2_with fail
  go_region_law_o (refine step_copy_runI rfl _ _ 25 25 rfl (.slice (some ⟨w.heap.size, (i + 1) * 5, none⟩) (n - i) (gc - (i + 1))) (.slice (some ⟨g, i * 5, none⟩) (n - i) (cap - i)) (by simp [Act.eval, Act.put]; done) (by simp [Act.eval, Act.put]; done) (CP3.out _ _ _) ?_)
  go_wp2
  go_ret
  exact ⟨⟨gc, _, rfl, FIN.out.1, FIN.out.2.1, FIN.out.2.2.1⟩, FIN.out.2.2.2⟩
end Go.Proofs.Ytbcfcdcomboljaa

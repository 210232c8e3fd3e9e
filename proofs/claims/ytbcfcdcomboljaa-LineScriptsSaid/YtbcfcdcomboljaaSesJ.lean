/- slices.Insert of one message into a list of the call's own: the walks. -/
import Derived.Test.YtbcfcdcomboljaaSesI
import Derived.Lib.SliceRun
import Derived.Lib.Walk
import Derived.Shelf.Spec.SlicesInsert
namespace Go.Proofs.Ytbcfcdcomboljaa
open Go.RowKit
set_option linter.unusedVariables false
theorem infoM_open : ∃ i0, Try.prog.info? 24 = some i0 ∧ i0.zero = some mzero ∧ i0.size = 5 ∧ i0.bytes = 56 := by
  have := Try.infoM
  cases hh : Try.prog.info? 24 with
  | none => rw [hh] at this; simp at this
  | some i => rw [hh] at this; simp only [Option.map_some, Option.some.injEq, Prod.mk.injEq] at this; exact ⟨i, rfl, this⟩
set_option maxHeartbeats 2000000 in
set_option maxRecDepth 100000 in
/-- at the end -/
theorem insert_end {B gv n : Nat} {v : Value} {xs news : List Value} {w : World} (ho : w.ownsRow B 24 5 v n xs) (hB : B ≤ w.heap.size) (hn : n ≤ 1000000) (hl : news.length = 5) (hc : ∀ j u, news[j]? = some u → w.cell? ⟨gv, j, none⟩ = some u) (h1 : ∀ u ∈ news, u.oneCell' = true) :
    Calls Try.prog 55 #[v, .int .i64 (n : Int), .slice (some ⟨gv, 0, none⟩) 1 1] w fun e w' => (∃ v', e = .returned v' ∧ w'.ownsRow B 24 5 v' (n + 1) (xs ++ news)) ∧ w.grownBy w' v.ownBlock := by
  obtain ⟨i0, hi0, z0, z1, z2⟩ := infoM_open
  have HI := Lib.hid hi0
  have Z0 := Lib.hid z0; have Z1 := Lib.hid z1; have Z2 := Lib.hid z2
  have HO := Lib.hid ho; have HC := Lib.hid hc; have H1 := Lib.hid h1; have HN := Lib.hid hn
  have hf : ∃ a c, v = .slice a n c ∧ (a = none → n = 0) := by
    rcases ho.2 with ⟨rfl, rfl⟩ | ⟨g, cap, cur, rfl, _⟩
    · exact ⟨none, 0, rfl, fun _ => rfl⟩
    · exact ⟨_, _, rfl, by simp⟩
  obtain ⟨a, c, rfl, hz⟩ := hf
  have HZ := Lib.hid hz
  have a3 : n ≤ 1000000 := hn
  have hcn : n ≤ c := by
    rcases ho.2 with ⟨e, rfl⟩ | ⟨g, cap, cur, e, _, _, h, _⟩
    · cases e; exact Nat.le_refl _
    · cases e; exact h
  clear hi0 z0 z1 z2 ho hc h1 hn hz
  go_enter Try.func55, Try.ntmps55
  cases a with
  | none =>
    have h0 := HZ.out rfl
    subst h0
    go_wp2_with (at_builtin; refine wpList_append_own _ rfl _ _ 25 rfl B 24 i0 mzero 5 56 Try.underlying25 HI.out Z0.out Z1.out Z2.out rfl (by omega) _ _ _ rfl HO.out ⟨gv, 0, none⟩ 1 1 news rfl (by rw [hl]) (by intro j u hj; rw [Addr.add_lit, Nat.zero_add]; exact HC.out j u hj) H1.out (by unfold maxLen; omega) (by omega) hB ?_)
    intro v' w1 hown hgrow _
    have HW := Lib.hid hown; have HG := Lib.hid hgrow
    clear hown hgrow
    go_wp2
    go_ret
    exact ⟨⟨v', rfl, HW.out⟩, HG.out⟩
  | some ad =>
    obtain ⟨g, off, sp⟩ := ad
    have hg0 : off = 0 ∧ sp = none := by
      rcases HO.out.2 with ⟨e, _⟩ | ⟨g, cap, cur, e, _⟩
      · cases e
      · cases e; exact ⟨rfl, rfl⟩
    obtain ⟨rfl, rfl⟩ := hg0
    go_wp2_with (at_builtin; refine wpList_append_own _ rfl _ _ 25 rfl B 24 i0 mzero 5 56 Try.underlying25 HI.out Z0.out Z1.out Z2.out rfl (by omega) _ _ _ rfl HO.out ⟨gv, 0, none⟩ 1 1 news rfl (by rw [hl]) (by intro j u hj; rw [Addr.add_lit, Nat.zero_add]; exact HC.out j u hj) H1.out (by unfold maxLen; omega) (by omega) hB ?_)
    all_goals (intro v' w1 hown hgrow _; have HW := Lib.hid hown; have HG := Lib.hid hgrow; clear hown hgrow; go_wp2; go_ret; exact ⟨⟨v', rfl, HW.out⟩, HG.out⟩)
set_option maxHeartbeats 4000000 in
set_option maxRecDepth 100000 in
/-- in the middle, where there is room -/
theorem insert_shift {B gv g n cap i : Nat} {cs news : List Value} {Tv : TypeId} {kv : Nat} {w : World} (hX : Box B g 24 cs w) (hl : cs.length = cap * 5) (hm : cap ≤ 9223372036854775807) (hi : i < n) (hroom : n + 1 ≤ cap) (hn : n ≤ 1000000) (hnl : news.length = 5)
    (hV : w.heap[gv]? = some (.cells news.toArray Tv (0, 0))) (hne : gv ≠ g) (h1 : ∀ u ∈ news, u.oneCell' = true) (h1c : ∀ u ∈ cs.take (n * 5), u.oneCell' = true) :
    Calls Try.prog 55 #[.slice (some ⟨g, 0, none⟩) n cap, .int .i64 (i : Int), .slice (some ⟨gv, 0, none⟩) 1 1] w fun e w' => e = .returned (.slice (some ⟨g, 0, none⟩) (n + 1) cap) ∧ w' = (w.drew.setCells g (i * 5 + 5) ((cs.take (n * 5)).drop (i * 5))).setCells g (i * 5) news := by
  have hsz : (Try.prog.info? 24).map (·.size) = some 5 := by obtain ⟨i0, hi0, _, h, _⟩ := infoM_open; rw [hi0]; simp [h]
  have hsa : w.shape? gv = some (Tv, 5) := by simp [World.shape?, hV, hnl]
  have hsb : w.shape? g = some (24, cap * 5) := by simp [World.shape?, hX.2, hl]
  have hfa : ∀ k, w.frozen? ⟨gv, k, none⟩ = false := fun k => by simp [World.frozen?, hV]
  have hov : ∀ lb cb, (callFunc 81 #[.slice (some ⟨gv, 0, none⟩) 1 1, .slice (some ⟨g, (i + 1) * 5, none⟩) lb cb]).run Try.prog w = .ok (.value (.bool false)) w := fun lb cb => by
    rw [run_callFunc_extern Try.func81 (by kernel_rfl) (by kernel_rfl) (by kernel_rfl) (e := Extern.SlicesOverlaps.overlaps #[25, 25] #[4]) (by kernel_rfl),
      Lib.run_overlaps_apart w 25 4 24 Try.underlying25 5 Try.sizeOf24 ⟨gv, 0, none⟩ ⟨g, (i + 1) * 5, none⟩ 1 1 lb cb hne Tv 24 5 (cap * 5) hsa hsb (by omega) (hfa 0) (hfa 5)]
    rfl
  have HOV := Lib.hid hov
  clear hov
  have mixed : Try.prog.follows .mixedOrders = true := by kernel_rfl
  go_enter Try.func55, Try.ntmps55
  have hw1 : IntKind.i64.wrap ((n : Int) + 1) = (n : Int) + 1 := by rw [IntKind.wrap_i64]; omega
  have hw2 : IntKind.i64.wrap ((i : Int) + 1) = (i : Int) + 1 := by rw [IntKind.wrap_i64]; omega
  have hz2 : ¬ ((i : Int) = (n : Int)) := by omega
  have htn : ((i : Int) + 1).toNat = i + 1 := by omega
  have htm : ((n : Int) + 1).toNat = n + 1 := by omega
  have hb1 : (0 : Int) ≤ (i : Int) + 1 := by omega
  have hin : i ≤ n := by omega
  have hb2 : ¬ (cap = i + 1) := by omega
  have hb3 : (i : Int) ≤ (n : Int) + 1 := by omega
  have hb4 : ¬ (cap = i) := by omega
  have hdl : ((cs.take (n * 5)).drop (i * 5)).length = (n - i) * 5 := by simp [hl]; omega
  have hdc : ∀ j v, ((cs.take (n * 5)).drop (i * 5))[j]? = some v → cs[i * 5 + j]? = some v := by
    intro j v hj
    rw [List.getElem?_drop, List.getElem?_take] at hj
    split at hj
    · exact hj
    · cases hj
  have hXd : Box B g 24 cs w.drew := ⟨hX.1, hX.2⟩
  have hcp1 : ∀ ty dc sc, (Builtin.copy_ #[25, 25] ty #[.slice (some ⟨g, (i + 1) * 5, none⟩) (n - i) dc, .slice (some ⟨g, i * 5, none⟩) (n + 1 - i) sc]).run Try.prog w.drew = .ok (goInt (Nat.min (n + 1 - i) (n - i))) (w.drew.setCells g ((i + 1) * 5) ((cs.take (n * 5)).drop (i * 5))) := fun ty dc sc =>
    run_copy_cellsN w.drew _ _ ty 24 5 g ((i + 1) * 5) (n - i) dc ⟨g, i * 5, none⟩ (n + 1 - i) sc ((cs.take (n * 5)).drop (i * 5)) Try.underlying25 hsz (by rw [hdl]; simp only [Nat.min_def]; split <;> omega)
      (fun j v hj => by rw [Addr.add_lit]; exact hXd.cell _ (hdc j v hj))
      (fun j hj => by
        obtain ⟨x, hx⟩ : ∃ x, cs[(i + 1) * 5 + j]? = some x := ⟨_, List.getElem?_eq_getElem (by omega)⟩
        rw [hXd.cell _ hx]; rfl) (fun j hj => hXd.frozen _) (fun v hv => h1c v (List.mem_of_mem_drop hv))
  obtain ⟨W1, hW1⟩ : ∃ W1, W1 = w.drew.setCells g ((i + 1) * 5) ((cs.take (n * 5)).drop (i * 5)) := ⟨_, rfl⟩
  have hX1 : Box B g 24 (setL cs ((i + 1) * 5) ((cs.take (n * 5)).drop (i * 5))) W1 := by rw [hW1]; exact hXd.setCells _ _ _
  have hV1 : ∀ k, W1.cell? ⟨gv, k, none⟩ = w.cell? ⟨gv, k, none⟩ := fun k => by
    rw [hW1]; exact World.cell?_setCells_out g _ _ _ _ (fun h _ => absurd h hne)
  have hcp2 : ∀ ty dc, (Builtin.copy_ #[25, 25] ty #[.slice (some ⟨g, i * 5, none⟩) (n + 1 - i) dc, .slice (some ⟨gv, 0, none⟩) 1 1]).run Try.prog W1 = .ok (goInt (Nat.min 1 (n + 1 - i))) (W1.setCells g (i * 5) news) := fun ty dc =>
    run_copy_cellsN W1 _ _ ty 24 5 g (i * 5) (n + 1 - i) dc ⟨gv, 0, none⟩ 1 1 news Try.underlying25 hsz (by rw [hnl]; simp only [Nat.min_def]; split <;> omega)
      (fun j v hj => by
        rw [Addr.add_lit, Nat.zero_add, hV1]
        rw [cell_of_row w gv j news.toArray Tv (0, 0) hV]; simpa using hj)
      (fun j hj => by
        obtain ⟨x, hx⟩ : ∃ x, (setL cs ((i + 1) * 5) ((cs.take (n * 5)).drop (i * 5)))[i * 5 + j]? = some x := ⟨_, List.getElem?_eq_getElem (by rw [setL_length]; omega)⟩
        rw [hX1.cell _ hx]; rfl) (fun j hj => hX1.frozen _) h1
  rw [← hW1] at hcp1
  have CP1 := Lib.hid hcp1; have CP2 := Lib.hid hcp2; have HW1 := Lib.hid hW1
  clear hX hV hsa hsb hfa h1 h1c hXd hX1 hV1 hcp1 hcp2 hW1 hdl hdc
  have hov := HOV.out
  go_wp2_with (simp only [hov])
  go_region_law_o (refine step_copy_runI rfl _ _ 25 25 rfl (.slice (some ⟨g, (i + 1) * 5, none⟩) (n - i) (cap - (i + 1))) (.slice (some ⟨g, i * 5, none⟩) (n + 1 - i) (cap - i)) (by simp [Act.eval, Act.put]; done) (by simp [Act.eval, Act.put]; done) (CP1.out _ _ _) ?_)
  go_wp2_with fail
  rw [CP2.out]
  go_wp2
  go_ret
  exact ⟨rfl, by rw [HW1.out, show (i + 1) * 5 = i * 5 + 5 by omega]⟩
end Go.Proofs.Ytbcfcdcomboljaa

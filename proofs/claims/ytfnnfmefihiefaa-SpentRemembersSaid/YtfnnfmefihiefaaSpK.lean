/- slices.Insert of one use into a list of the call's own (printed by Ins.py out of the texts for messages). -/
import Derived.Test.YtfnnfmefihiefaaSpJ
import Derived.Lib.AppendZeros
import Derived.Lib.Overlaps
import Derived.Laws.Externs
import Derived.Laws.IdiomCopy
import Derived.Deep.AppendSrc
import Derived.Lib.SliceRun
import Derived.Lib.Walk
import Derived.Shelf.Spec.SlicesInsert
import Derived.Maps.AppendAt
namespace Go.Proofs.Ytfnnfmefihiefaa
open Go.RowKit
set_option linter.unusedVariables false
/-- append of zeros that wants a new row, whatever the row that it goes on -/
theorem run_append_grow_zeros {P : Program} (w : World) (t tn ty e : TypeId) (i : TypeInfo) (z : Value) (k kn : IntKind) (ht : P.underlying t = some (.slice e)) (htn : P.underlying tn = some (.int kn)) (hi : P.info? e = some i) (hz : i.zero = some z)
    (base : Option Addr) (sLen sCap : Nat) (olds : List Value) (hold : (Builtin.firstCells i.size sLen (.slice base sLen sCap)).run P w.drew = .ok olds.toArray w.drew)
    (n : Nat) (h0 : 0 < n) (hs : 0 < i.size) (hg : sCap < sLen + n) (h63 : ((sLen + n : Nat) : Int) ≤ 9223372036854775807) (h48 : n * i.bytes ≤ 281474976710656) (hfit : Builtin.nextslicecap (sLen + n) sCap * i.bytes ≤ 281474976710656) :
    (Builtin.append_ #[t, tn] ty #[.slice base sLen sCap, .int k n]).run P w =
      .ok (.slice (some ⟨w.heap.size, 0, none⟩) (sLen + n) (grownCap w (sLen + n) sCap e)) (w.drew.alloc (.cells (olds.toArray ++ Builtin.zeroCells z.cells n ++ Builtin.zeroCells z.cells (grownCap w (sLen + n) sCap e - (sLen + n))) e)) := by
  have hn : n ≠ 0 := by omega
  have hw : IntKind.i64.wrap (n : Int) = n := by rw [IntKind.wrap_i64]; omega
  have h63' : ¬ (9223372036854775807 < ((sLen : Int) + (n : Int))) := by omega
  have h48' : ¬ (281474976710656 < Builtin.nextslicecap (sLen + n) sCap * i.bytes) := by omega
  have h48i : ¬ (281474976710656 < (n : Int) * (i.bytes : Int)) := by
    rw [← Int.natCast_mul]
    omega
  have hneg : ¬ ((n : Int) < 0) := by omega
  have hns : ¬ (n * i.size = 0) := Nat.mul_ne_zero hn (by omega)
  have hnc : ¬ (sLen + n ≤ sCap) := by omega
  simp [Builtin.append_, run_underlying ht, run_underlying htn, sizeOf, typeInfo, zeroValue, hi, hz, asInt, asIntOf, hw, hneg, hns, h63', h48', h48i, hnc, Question.forced, hold, newRow, grownCap]
/-- copy, whatever the elements' size -/
theorem run_copy_cellsN {P : Program} (w : World) (dT sT ty elem : TypeId) (size : Nat) (b o dLen dCap : Nat) (a : Addr) (sLen sCap : Nat) (cs : List Value)
    (hu : P.underlying dT = some (.slice elem)) (hs : (P.info? elem).map (·.size) = some size) (hn : cs.length = Nat.min sLen dLen * size)
    (hsrc : ∀ j v, cs[j]? = some v → w.cell? (a.add j) = some v) (hc : ∀ j, j < cs.length → (w.cell? ⟨b, o + j, none⟩).isSome = true) (hf : ∀ j, j < cs.length → w.frozen? ⟨b, o + j, none⟩ = false) (h1 : ∀ v ∈ cs, v.oneCell' = true) :
    (Builtin.copy_ #[dT, sT] ty #[.slice (some ⟨b, o, none⟩) dLen dCap, .slice (some a) sLen sCap]).run P w = .ok (goInt (Nat.min sLen dLen)) (w.setCells b o cs) := by
  have hl := run_loadCells_list (P := P) w a cs hsrc
  have hst := run_storeCells_cells (P := P) b o cs 0 w (by simpa using hc) (by simpa using hf) h1
  cases hq : P.info? elem with
  | none => simp [hq] at hs
  | some i =>
    have hi : i.size = size := by simpa [hq] using hs
    simp [Builtin.copy_, run_underlying hu, Builtin.lenOf, Builtin.firstCells, sizeOf, typeInfo, hq, hi, ← hn, hl, hst]
/-- a row's cells from o on written anew -/
def setL : List Value → Nat → List Value → List Value
  | cs, _, [] => cs
  | cs, o, v :: r => setL (cs.set o v) (o + 1) r
theorem setL_length : ∀ (vs cs : List Value) (o : Nat), (setL cs o vs).length = cs.length
  | [], _, _ => rfl
  | v :: r, cs, o => by rw [setL, setL_length]; simp
theorem setL_get : ∀ (vs cs : List Value) (o j : Nat), o + vs.length ≤ cs.length → (setL cs o vs)[j]? = if o ≤ j ∧ j < o + vs.length then vs[j - o]? else cs[j]?
  | [], cs, o, j, _ => by simp only [setL, List.length_nil]; rw [if_neg (by omega)]
  | v :: r, cs, o, j, h => by
    simp only [List.length_cons] at h
    rw [setL, setL_get r _ _ _ (by simp; omega), List.getElem?_set]
    simp only [List.length_cons]
    by_cases h1 : o = j
    · subst h1
      rw [if_neg (by omega), if_pos rfl, if_pos (by omega), if_pos (by omega)]; simp
    · by_cases h2 : o + 1 ≤ j ∧ j < o + 1 + r.length
      · rw [if_pos h2, if_pos (by omega)]
        rw [show j - o = (j - (o + 1)) + 1 by omega]; simp
      · rw [if_neg h2, if_neg (fun e => h1 e), if_neg (by omega)]
theorem Box.setCells {B b : Nat} {T : TypeId} : ∀ (vs cs : List Value) (o : Nat) {W : World}, Box B b T cs W → Box B b T (setL cs o vs) (W.setCells b o vs)
  | [], _, _, _, h => h
  | v :: r, cs, o, W, h => Box.setCells r (cs.set o v) (o + 1) (h.set o v)
/-- what stands behind the copies of Insert: the part before the place, what is put in, the rest -/
theorem ins_takeUs {cs xs news : List Value} {i n : Nat} (hx : xs.length = n * 83) (hnews : news.length = 83) (hi : i ≤ n) (hc : (n + 1) * 83 ≤ cs.length)
    (h0 : ∀ j, j < i * 83 → cs[j]? = xs[j]?) :
    (setL (setL cs (i * 83 + 83) (xs.drop (i * 83))) (i * 83) news).take ((n + 1) * 83) = xs.take (i * 83) ++ news ++ xs.drop (i * 83) ∧
    (setL (setL cs (i * 83) news) (i * 83 + 83) (xs.drop (i * 83))).take ((n + 1) * 83) = xs.take (i * 83) ++ news ++ xs.drop (i * 83) := by
  have hd : (xs.drop (i * 83)).length = n * 83 - i * 83 := by simp [hx]
  have ht : (xs.take (i * 83)).length = i * 83 := by simp [hx]; omega
  constructor <;>
  · apply List.ext_getElem?
    intro j
    rw [List.getElem?_take]
    by_cases hj : j < (n + 1) * 83
    · rw [if_pos hj, setL_get _ _ _ _ (by rw [setL_length]; simp only [hnews, hd]; omega), setL_get _ _ _ _ (by simp only [hnews, hd]; omega)]
      simp only [hnews, hd]
      by_cases h1 : j < i * 83
      · rw [if_neg (by omega), if_neg (by omega), h0 j h1, List.append_assoc, List.getElem?_append_left (by omega), List.getElem?_take, if_pos h1]
      · by_cases h2 : j < i * 83 + 83
        · first
          | rw [if_pos (by omega), List.append_assoc, List.getElem?_append_right (by omega), List.getElem?_append_left (by omega), ht]
          | rw [if_neg (by omega), if_pos (by omega), List.append_assoc, List.getElem?_append_right (by omega), List.getElem?_append_left (by omega), ht]
        · first
          | rw [if_neg (by omega), if_pos (by omega), List.append_assoc, List.getElem?_append_right (by omega), List.getElem?_append_right (by omega), ht, hnews, show j - (i * 83 + 83) = j - i * 83 - 83 by omega]
          | rw [if_pos (by omega), List.append_assoc, List.getElem?_append_right (by omega), List.getElem?_append_right (by omega), ht, hnews, show j - (i * 83 + 83) = j - i * 83 - 83 by omega]
    · rw [if_neg hj, List.getElem?_eq_none]
      simp only [List.length_append, ht, hnews, hd]; omega
theorem infoM_openUs : ∃ i0, Try.prog.info? 44 = some i0 ∧ i0.zero = some (Value.agg (usc zU nilV nilV).toArray) ∧ i0.size = 83 ∧ i0.bytes = 248 := by
  have := Try.infoUse
  cases hh : Try.prog.info? 44 with
  | none => rw [hh] at this; simp at this
  | some i => rw [hh] at this; simp only [Option.map_some, Option.some.injEq, Prod.mk.injEq] at this; exact ⟨i, rfl, this⟩
set_option maxHeartbeats 2000000 in
set_option maxRecDepth 100000 in
/-- at the end -/
theorem insert_endUs {B gv n : Nat} {v : Value} {xs news : List Value} {w : World} (ho : w.ownsRow B 44 83 v n xs) (hB : B ≤ w.heap.size) (hn : n ≤ 1000000) (hl : news.length = 83) (hc : ∀ j u, news[j]? = some u → w.cell? ⟨gv, j, none⟩ = some u) (h1 : ∀ u ∈ news, u.oneCell' = true) :
    Calls Try.prog 41 #[v, .int .i64 (n : Int), .slice (some ⟨gv, 0, none⟩) 1 1] w fun e w' => (∃ v', e = .returned v' ∧ w'.ownsRow B 44 83 v' (n + 1) (xs ++ news)) ∧ w.grownBy w' v.ownBlock := by
  obtain ⟨i0, hi0, z0, z1, z2⟩ := infoM_openUs
  have HI := Lib.hid hi0
  have Z0 := Lib.hid z0; have Z1 := Lib.hid z1; have Z2 := Lib.hid z2
  have HO := Lib.hid ho; have HC := Lib.hid hc; have H1 := Lib.hid h1; have HN := Lib.hid hn
  have hf : ∃ a c, v = .slice a n c ∧ (a = none → n = 0) := by
    rcases ho.2 with ⟨rfl, rfl⟩ | ⟨g, cap, cur, rfl, _⟩
    · exact ⟨none, 0, rfl, fun _ => rfl⟩
    · exact ⟨_, _, rfl, by simp⟩
  obtain ⟨a, c, rfl, hz⟩ := hf
  have HZ := Lib.hid hz
  have a3 : n ≤ 1000000 := hn
  have hcn : n ≤ c := by
    rcases ho.2 with ⟨e, rfl⟩ | ⟨g, cap, cur, e, _, _, h, _⟩
    · cases e; exact Nat.le_refl _
    · cases e; exact h
  clear hi0 z0 z1 z2 ho hc h1 hn hz
  go_enter Try.func41, Try.ntmps41
  cases a with
  | none =>
    have h0 := HZ.out rfl
    subst h0
    go_wp2_with (at_builtin; refine wpList_append_own _ rfl _ _ 23 rfl B 44 i0 (Value.agg (usc zU nilV nilV).toArray) 83 248 Try.underlying23 HI.out Z0.out Z1.out Z2.out rfl (by omega) _ _ _ rfl HO.out ⟨gv, 0, none⟩ 1 1 news rfl (by rw [hl]) (by intro j u hj; rw [Addr.add_lit, Nat.zero_add]; exact HC.out j u hj) H1.out (by unfold maxLen; omega) (by omega) hB ?_)
    intro v' w1 hown hgrow _
    have HW := Lib.hid hown; have HG := Lib.hid hgrow
    clear hown hgrow
    go_wp2
    go_ret
    exact ⟨⟨v', rfl, HW.out⟩, HG.out⟩
  | some ad =>
    obtain ⟨g, off, sp⟩ := ad
    have hg0 : off = 0 ∧ sp = none := by
      rcases HO.out.2 with ⟨e, _⟩ | ⟨g, cap, cur, e, _⟩
      · cases e
      · cases e; exact ⟨rfl, rfl⟩
    obtain ⟨rfl, rfl⟩ := hg0
    go_wp2_with (at_builtin; refine wpList_append_own _ rfl _ _ 23 rfl B 44 i0 (Value.agg (usc zU nilV nilV).toArray) 83 248 Try.underlying23 HI.out Z0.out Z1.out Z2.out rfl (by omega) _ _ _ rfl HO.out ⟨gv, 0, none⟩ 1 1 news rfl (by rw [hl]) (by intro j u hj; rw [Addr.add_lit, Nat.zero_add]; exact HC.out j u hj) H1.out (by unfold maxLen; omega) (by omega) hB ?_)
    all_goals (intro v' w1 hown hgrow _; have HW := Lib.hid hown; have HG := Lib.hid hgrow; clear hown hgrow; go_wp2; go_ret; exact ⟨⟨v', rfl, HW.out⟩, HG.out⟩)
set_option maxHeartbeats 4000000 in
set_option maxRecDepth 100000 in
/-- in the middle, where there is room -/
theorem insert_shiftUs {B gv g n cap i : Nat} {cs news : List Value} {Tv : TypeId} {kv : Nat} {w : World} (hX : Box B g 44 cs w) (hl : cs.length = cap * 83) (hm : cap ≤ 9223372036854775807) (hi : i < n) (hroom : n + 1 ≤ cap) (hn : n ≤ 1000000) (hnl : news.length = 83)
    (hV : w.heap[gv]? = some (.cells news.toArray Tv (0, 0))) (hne : gv ≠ g) (h1 : ∀ u ∈ news, u.oneCell' = true) (h1c : ∀ u ∈ cs.take (n * 83), u.oneCell' = true) :
    Calls Try.prog 41 #[.slice (some ⟨g, 0, none⟩) n cap, .int .i64 (i : Int), .slice (some ⟨gv, 0, none⟩) 1 1] w fun e w' => e = .returned (.slice (some ⟨g, 0, none⟩) (n + 1) cap) ∧ w' = (w.drew.setCells g (i * 83 + 83) ((cs.take (n * 83)).drop (i * 83))).setCells g (i * 83) news := by
  have hsz : (Try.prog.info? 44).map (·.size) = some 83 := by obtain ⟨i0, hi0, _, h, _⟩ := infoM_openUs; rw [hi0]; simp [h]
  have hsa : w.shape? gv = some (Tv, 83) := by simp [World.shape?, hV, hnl]
  have hsb : w.shape? g = some (44, cap * 83) := by simp [World.shape?, hX.2, hl]
  have hfa : ∀ k, w.frozen? ⟨gv, k, none⟩ = false := fun k => by simp [World.frozen?, hV]
  have hov : ∀ lb cb, (callFunc 59 #[.slice (some ⟨gv, 0, none⟩) 1 1, .slice (some ⟨g, (i + 1) * 83, none⟩) lb cb]).run Try.prog w = .ok (.value (.bool false)) w := fun lb cb => by
    rw [run_callFunc_extern Try.func59 (by kernel_rfl) (by kernel_rfl) (by kernel_rfl) (e := Extern.SlicesOverlaps.overlaps #[23, 23] #[4]) (by kernel_rfl),
      Lib.run_overlaps_apart w 23 4 44 Try.underlying23 83 Try.sizeOf44 ⟨gv, 0, none⟩ ⟨g, (i + 1) * 83, none⟩ 1 1 lb cb hne Tv 44 83 (cap * 83) hsa hsb (by omega) (hfa 0) (hfa 83)]
    rfl
  have HOV := Lib.hid hov
  clear hov
  have mixed : Try.prog.follows .mixedOrders = true := by kernel_rfl
  go_enter Try.func41, Try.ntmps41
  have hw1 : IntKind.i64.wrap ((n : Int) + 1) = (n : Int) + 1 := by rw [IntKind.wrap_i64]; omega
  have hw2 : IntKind.i64.wrap ((i : Int) + 1) = (i : Int) + 1 := by rw [IntKind.wrap_i64]; omega
  have hz2 : ¬ ((i : Int) = (n : Int)) := by omega
  have htn : ((i : Int) + 1).toNat = i + 1 := by omega
  have htm : ((n : Int) + 1).toNat = n + 1 := by omega
  have hb1 : (0 : Int) ≤ (i : Int) + 1 := by omega
  have hin : i ≤ n := by omega
  have hb2 : ¬ (cap = i + 1) := by omega
  have hb3 : (i : Int) ≤ (n : Int) + 1 := by omega
  have hb4 : ¬ (cap = i) := by omega
  have hdl : ((cs.take (n * 83)).drop (i * 83)).length = (n - i) * 83 := by simp [hl]; omega
  have hdc : ∀ j v, ((cs.take (n * 83)).drop (i * 83))[j]? = some v → cs[i * 83 + j]? = some v := by
    intro j v hj
    rw [List.getElem?_drop, List.getElem?_take] at hj
    split at hj
    · exact hj
    · cases hj
  have hXd : Box B g 44 cs w.drew := ⟨hX.1, hX.2⟩
  have hcp1 : ∀ ty dc sc, (Builtin.copy_ #[23, 23] ty #[.slice (some ⟨g, (i + 1) * 83, none⟩) (n - i) dc, .slice (some ⟨g, i * 83, none⟩) (n + 1 - i) sc]).run Try.prog w.drew = .ok (goInt (Nat.min (n + 1 - i) (n - i))) (w.drew.setCells g ((i + 1) * 83) ((cs.take (n * 83)).drop (i * 83))) := fun ty dc sc =>
    run_copy_cellsN w.drew _ _ ty 44 83 g ((i + 1) * 83) (n - i) dc ⟨g, i * 83, none⟩ (n + 1 - i) sc ((cs.take (n * 83)).drop (i * 83)) Try.underlying23 hsz (by rw [hdl]; simp only [Nat.min_def]; split <;> omega)
      (fun j v hj => by rw [Addr.add_lit]; exact hXd.cell _ (hdc j v hj))
      (fun j hj => by
        obtain ⟨x, hx⟩ : ∃ x, cs[(i + 1) * 83 + j]? = some x := ⟨_, List.getElem?_eq_getElem (by omega)⟩
        rw [hXd.cell _ hx]; rfl) (fun j hj => hXd.frozen _) (fun v hv => h1c v (List.mem_of_mem_drop hv))
  obtain ⟨W1, hW1⟩ : ∃ W1, W1 = w.drew.setCells g ((i + 1) * 83) ((cs.take (n * 83)).drop (i * 83)) := ⟨_, rfl⟩
  have hX1 : Box B g 44 (setL cs ((i + 1) * 83) ((cs.take (n * 83)).drop (i * 83))) W1 := by rw [hW1]; exact hXd.setCells _ _ _
  have hV1 : ∀ k, W1.cell? ⟨gv, k, none⟩ = w.cell? ⟨gv, k, none⟩ := fun k => by
    rw [hW1]; exact World.cell?_setCells_out g _ _ _ _ (fun h _ => absurd h hne)
  have hcp2 : ∀ ty dc, (Builtin.copy_ #[23, 23] ty #[.slice (some ⟨g, i * 83, none⟩) (n + 1 - i) dc, .slice (some ⟨gv, 0, none⟩) 1 1]).run Try.prog W1 = .ok (goInt (Nat.min 1 (n + 1 - i))) (W1.setCells g (i * 83) news) := fun ty dc =>
    run_copy_cellsN W1 _ _ ty 44 83 g (i * 83) (n + 1 - i) dc ⟨gv, 0, none⟩ 1 1 news Try.underlying23 hsz (by rw [hnl]; simp only [Nat.min_def]; split <;> omega)
      (fun j v hj => by
        rw [Addr.add_lit, Nat.zero_add, hV1]
        rw [cell_of_row w gv j news.toArray Tv (0, 0) hV]; simpa using hj)
      (fun j hj => by
        obtain ⟨x, hx⟩ : ∃ x, (setL cs ((i + 1) * 83) ((cs.take (n * 83)).drop (i * 83)))[i * 83 + j]? = some x := ⟨_, List.getElem?_eq_getElem (by rw [setL_length]; omega)⟩
        rw [hX1.cell _ hx]; rfl) (fun j hj => hX1.frozen _) h1
  rw [← hW1] at hcp1
  have CP1 := Lib.hid hcp1; have CP2 := Lib.hid hcp2; have HW1 := Lib.hid hW1
  clear hX hV hsa hsb hfa h1 h1c hXd hX1 hV1 hcp1 hcp2 hW1 hdl hdc
  have hov := HOV.out
  go_wp2_with (simp only [hov])
  go_region_law_o (refine step_copy_runI rfl _ _ 23 23 rfl (.slice (some ⟨g, (i + 1) * 83, none⟩) (n - i) (cap - (i + 1))) (.slice (some ⟨g, i * 83, none⟩) (n + 1 - i) (cap - i)) (by simp [Act.eval, Act.put]; done) (by simp [Act.eval, Act.put]; done) (CP1.out _ _ _) ?_)
  go_wp2_with fail
  rw [CP2.out]
  go_wp2
  go_ret
  exact ⟨rfl, by rw [HW1.out, show (i + 1) * 83 = i * 83 + 83 by omega]⟩
set_option maxHeartbeats 400000 in
set_option maxRecDepth 100000 in
/-- in the middle, where there is no room -/
theorem insert_growUs {B gv g n cap i : Nat} {cs news : List Value} {Tv : TypeId} {w : World} (hX : Box B g 44 cs w) (hl : cs.length = cap * 83) (hi : i < n) (hnc : n ≤ cap) (hroom : cap < n + 1) (hn : n ≤ 1000000) (hnl : news.length = 83)
    (hV : w.heap[gv]? = some (.cells news.toArray Tv (0, 0))) (h1 : ∀ u ∈ news, u.oneCell' = true) (h1c : ∀ u ∈ cs.take (n * 83), u.oneCell' = true) :
    Calls Try.prog 41 #[.slice (some ⟨g, 0, none⟩) n cap, .int .i64 (i : Int), .slice (some ⟨gv, 0, none⟩) 1 1] w fun e w' => (∃ gc cs', e = .returned (.slice (some ⟨w.heap.size, 0, none⟩) (n + 1) gc) ∧ (n + 1 ≤ gc ∧ gc ≤ 9223372036854775807 ∧ cs'.length = gc * 83) ∧ Box w.heap.size w.heap.size 44 cs' w' ∧ cs'.take ((n + 1) * 83) = (cs.take (n * 83)).take (i * 83) ++ news ++ (cs.take (n * 83)).drop (i * 83)) ∧ Below w.heap.size w w' := by
  obtain ⟨i0, hi0, z0, z1, z2⟩ := infoM_openUs
  have hsz : (Try.prog.info? 44).map (·.size) = some 83 := by rw [hi0]; simp [z1]
  obtain ⟨k, hk⟩ : ∃ k, i + k = n + 1 := ⟨n + 1 - i, by omega⟩
  have hglt : g < w.heap.size := hX.lt
  have hgvlt : gv < w.heap.size := lt_of_block hV
  have hold : (Builtin.firstCells i0.size i (.slice (some ⟨g, 0, none⟩) i cap)).run Try.prog w.drew = .ok (cs.take (i * 83)).toArray w.drew := by
    rw [z1]
    refine run_firstCells_some w.drew 83 i ⟨g, 0, none⟩ i cap (cs.take (i * 83)) (by simp [hl]; omega) (fun j v hj => ?_)
    rw [Addr.add_lit, Nat.zero_add]
    rw [List.getElem?_take] at hj
    split at hj
    · exact (show Box B g 44 cs w.drew from ⟨hX.1, hX.2⟩).cell _ hj
    · cases hj
  have hap : ∀ ty, (Builtin.append_ #[23, 3] ty #[.slice (some ⟨g, 0, none⟩) i cap, .int .i64 (k : Int)]).run Try.prog w = _ := fun ty =>
    run_append_grow_zeros w 23 3 ty 44 i0 (Value.agg (usc zU nilV nilV).toArray) .i64 .i64 Try.underlying23 Try.underlying3 hi0 z0 (some ⟨g, 0, none⟩) i cap (cs.take (i * 83)) hold k (by omega) (by omega) (by omega) (by omega) (by rw [z2]; omega) (by rw [z2]; exact growslice_fits (by omega) (by omega))
  obtain ⟨gc, hgc⟩ : ∃ gc, gc = grownCap w (i + k) cap 44 := ⟨_, rfl⟩
  have hge : n + 1 ≤ gc := by rw [hgc, ← hk]; exact grownCap_ge _ _ _ _
  have hgm : gc ≤ 9223372036854775807 := by
    have := grownCap_le_maxLen w (i + k) cap 44 (by unfold maxLen; omega)
    rw [← hgc] at this; unfold maxLen at this; omega
  obtain ⟨A, hA⟩ : ∃ A : Array Value, A = (cs.take (i * 83)).toArray ++ Builtin.zeroCells (Value.agg (usc zU nilV nilV).toArray).cells k ++ Builtin.zeroCells (Value.agg (usc zU nilV nilV).toArray).cells (gc - (i + k)) := ⟨_, rfl⟩
  rw [← hgc, ← hA, hk] at hap
  have hAs : A.size = gc * 83 := by
    rw [hA]; simp only [Array.size_append, size_zeroCells, List.size_toArray, List.length_take, hl, show (Value.agg (usc zU nilV nilV).toArray).cells.size = 83 from rfl]; omega
  have hA0 : ∀ j, j < i * 83 → A.toList[j]? = (cs.take (n * 83))[j]? := by
    intro j hj
    rw [hA]
    simp only [Array.toList_append, List.append_assoc]
    rw [List.getElem?_append_left (by simp [hl]; omega), List.getElem?_take, if_pos hj, List.getElem?_take, if_pos (by omega)]
  obtain ⟨W1, hW1⟩ : ∃ W1, W1 = w.drew.alloc (.cells A 44) := ⟨_, rfl⟩
  rw [← hW1] at hap
  have bel1 : Below w.heap.size w W1 := by rw [hW1]; exact (Below.drew (Below.refl _ _)).alloc (Nat.le_refl _) _
  have hX1 : Box w.heap.size w.heap.size 44 A.toList W1 := ⟨Nat.le_refl _, by rw [hW1, Array.toArray_toList]; exact heap_alloc_new w.drew _⟩
  have hcp2 : ∀ ty dc, (Builtin.copy_ #[23, 23] ty #[.slice (some ⟨w.heap.size, i * 83, none⟩) (n + 1 - i) dc, .slice (some ⟨gv, 0, none⟩) 1 1]).run Try.prog W1 = .ok (goInt (Nat.min 1 (n + 1 - i))) (W1.setCells w.heap.size (i * 83) news) := fun ty dc =>
    run_copy_cellsN W1 _ _ ty 44 83 w.heap.size (i * 83) (n + 1 - i) dc ⟨gv, 0, none⟩ 1 1 news Try.underlying23 hsz (by rw [hnl]; simp only [Nat.min_def]; split <;> omega)
      (fun j v hj => by
        rw [Addr.add_lit, Nat.zero_add, bel1.cell (p := ⟨gv, j, none⟩) hgvlt, cell_of_row w gv j news.toArray Tv (0, 0) hV]; simpa using hj)
      (fun j hj => by
        obtain ⟨x, hx⟩ : ∃ x, A.toList[i * 83 + j]? = some x := ⟨_, List.getElem?_eq_getElem (by simp [hAs]; omega)⟩
        rw [hX1.cell _ hx]; rfl) (fun j hj => hX1.frozen _) h1
  obtain ⟨W2, hW2⟩ : ∃ W2, W2 = W1.setCells w.heap.size (i * 83) news := ⟨_, rfl⟩
  have hX2 : Box w.heap.size w.heap.size 44 (setL A.toList (i * 83) news) W2 := by rw [hW2]; exact hX1.setCells _ _ _
  have out2 : ∀ (b o : Nat), b < w.heap.size → W2.cell? ⟨b, o, none⟩ = w.cell? ⟨b, o, none⟩ := fun b o hb => by
    rw [hW2, World.cell?_setCells_out w.heap.size _ _ _ _ (fun h _ => by simp only at h; omega)]; exact bel1.cell (p := ⟨b, o, none⟩) hb
  have hdl : ((cs.take (n * 83)).drop (i * 83)).length = n * 83 - i * 83 := by simp [hl]; omega
  have hcp3 : ∀ ty dc sc, (Builtin.copy_ #[23, 23] ty #[.slice (some ⟨w.heap.size, (i + 1) * 83, none⟩) (n - i) dc, .slice (some ⟨g, i * 83, none⟩) (n - i) sc]).run Try.prog W2.drew = .ok (goInt (Nat.min (n - i) (n - i))) (W2.drew.setCells w.heap.size ((i + 1) * 83) ((cs.take (n * 83)).drop (i * 83))) := fun ty dc sc =>
    run_copy_cellsN W2.drew _ _ ty 44 83 w.heap.size ((i + 1) * 83) (n - i) dc ⟨g, i * 83, none⟩ (n - i) sc ((cs.take (n * 83)).drop (i * 83)) Try.underlying23 hsz (by rw [hdl]; simp only [Nat.min_def]; split <;> omega)
      (fun j v hj => by
        rw [Addr.add_lit]
        rw [List.getElem?_drop, List.getElem?_take] at hj
        split at hj
        · exact (out2 g _ hglt).trans (hX.cell _ hj)
        · cases hj)
      (fun j hj => by
        obtain ⟨x, hx⟩ : ∃ x, (setL A.toList (i * 83) news)[(i + 1) * 83 + j]? = some x := ⟨_, List.getElem?_eq_getElem (by rw [hdl] at hj; rw [setL_length]; simp only [Array.length_toList, hAs]; omega)⟩
        rw [show W2.drew.cell? _ = W2.cell? _ from rfl, hX2.cell _ hx]; rfl) (fun j hj => hX2.frozen _) (fun v hv => h1c v (List.mem_of_mem_drop hv))
  obtain ⟨W3, hW3⟩ : ∃ W3, W3 = W2.drew.setCells w.heap.size ((i + 1) * 83) ((cs.take (n * 83)).drop (i * 83)) := ⟨_, rfl⟩
  have hX3 : Box w.heap.size w.heap.size 44 (setL (setL A.toList (i * 83) news) ((i + 1) * 83) ((cs.take (n * 83)).drop (i * 83))) W3 := by rw [hW3]; exact Box.setCells _ _ _ (show Box _ _ _ _ W2.drew from ⟨hX2.1, hX2.2⟩)
  have below_sets : ∀ (vs : List Value) (o : Nat) (W : World), Below w.heap.size w W → Below w.heap.size w (W.setCells w.heap.size o vs) := by
    intro vs
    induction vs with
    | nil => intro o W h; exact h
    | cons v r ih => intro o W h; exact ih _ _ (h.setCell (Nat.le_refl _) v)
  have bel3 : Below w.heap.size w W3 := by
    rw [hW3]; refine below_sets _ _ _ (Below.drew ?_); rw [hW2]; exact below_sets _ _ _ bel1
  have htk := (ins_takeUs (cs := A.toList) (xs := cs.take (n * 83)) (news := news) (i := i) (n := n) (by simp [hl]; omega) hnl (by omega) (by simp [hAs]; omega) hA0).2
  rw [show i * 83 + 83 = (i + 1) * 83 by omega] at htk
  rw [← hW2] at hcp2
  rw [← hW3] at hcp3
  have AP := Lib.hid hap; have CP2 := Lib.hid hcp2; have CP3 := Lib.hid hcp3
  have FIN : Hid ((n + 1 ≤ gc ∧ gc ≤ 9223372036854775807 ∧ (setL (setL A.toList (i * 83) news) ((i + 1) * 83) ((cs.take (n * 83)).drop (i * 83))).length = gc * 83) ∧ _ ∧ _ ∧ _) := Lib.hid ⟨⟨hge, hgm, by rw [setL_length, setL_length]; simp [hAs]⟩, hX3, htk, bel3⟩
  have hw1 : IntKind.i64.wrap ((n : Int) + 1) = (n : Int) + 1 := by rw [IntKind.wrap_i64]; omega
  have hw2 : IntKind.i64.wrap ((i : Int) + 1) = (i : Int) + 1 := by rw [IntKind.wrap_i64]; omega
  have hw3 : IntKind.i64.wrap ((n : Int) + 1 - (i : Int)) = (k : Int) := by rw [IntKind.wrap_i64]; omega
  have HGE := Lib.hid hge; have HK := Lib.hid hk
  clear hap hcp2 hcp3 hX hV h1 h1c hold hi0 z0 z1 z2 hsz hA hA0 hAs hW1 hW2 hW3 bel1 bel3 hX1 hX2 hX3 out2 below_sets htk hgc hglt hgvlt hk hdl
  have hz2 : ¬ ((i : Int) = (n : Int)) := by omega
  have htn : ((i : Int) + 1).toNat = i + 1 := by omega
  have hb1 : (0 : Int) ≤ (i : Int) + 1 := by omega
  have hb5 : decide ((cap : Int) < (n : Int) + 1) = true := decide_eq_true (by omega)
  have hb2 : ¬ (gc = i + 1) := by omega
  have hb3 : (i : Int) ≤ (n : Int) + 1 := by omega
  have hb4 : ¬ (gc = i) := by omega
  have hb6 : ¬ (cap = i) := by omega
  have hin : i ≤ n := by omega
  have mixed : Try.prog.follows .mixedOrders = true := by kernel_rfl
  go_enter Try.func41, Try.ntmps41
  go_wp2_with (at_builtin; refine Lib.wpList_append_run _ rfl _ _ _ _ rfl _ _ rfl rfl _ _ (AP.out _) ?_)
  rw [CP2.out]
  go_wp2_with fail
  go_region_law_o (refine step_copy_runI rfl _ _ 23 23 rfl (.slice (some ⟨w.heap.size, (i + 1) * 83, none⟩) (n - i) (gc - (i + 1))) (.slice (some ⟨g, i * 83, none⟩) (n - i) (cap - i)) (by simp [Act.eval, Act.put]; done) (by simp [Act.eval, Act.put]; done) (CP3.out _ _ _) ?_)
  go_wp2
  go_ret
  exact ⟨⟨gc, _, rfl, FIN.out.1, FIN.out.2.1, FIN.out.2.2.1⟩, FIN.out.2.2.2⟩
/-- the cells with one message put in -/
def insCUs (cs news : List Value) (n i : Nat) : List Value := (cs.take (n * 83)).take (i * 83) ++ news ++ (cs.take (n * 83)).drop (i * 83)
/-- a list of the call's own came back, one message longer -/
def RetIUs (g n : Nat) (xs : List Value) (w : World) (e : Ending) (w' : World) : Prop := ∃ (g' cap' : Nat) (cs' : List Value), e = .returned (.slice (some ⟨g', 0, none⟩) (n + 1) cap') ∧ (n + 1 ≤ cap' ∧ cap' ≤ 9223372036854775807 ∧ cs'.length = cap' * 83) ∧ (g' = g ∨ w.heap.size ≤ g') ∧ w'.heap[g']? = some (.cells cs'.toArray 44 (0, 0)) ∧ cs'.take ((n + 1) * 83) = xs ∧ Off g w w'
set_option maxHeartbeats 2000000 in
set_option maxRecDepth 100000 in
theorem insert_endBUs {B gv g n cap : Nat} {cs news : List Value} {w : World} (hX : Box B g 44 cs w) (hl : cs.length = cap * 83) (hm : cap ≤ 9223372036854775807) (hnc : n ≤ cap) (hn : n ≤ 1000000) (hnl : news.length = 83) (hc : ∀ j u, news[j]? = some u → w.cell? ⟨gv, j, none⟩ = some u) (h1 : ∀ u ∈ news, u.oneCell' = true) :
    Calls Try.prog 41 #[.slice (some ⟨g, 0, none⟩) n cap, .int .i64 (n : Int), .slice (some ⟨gv, 0, none⟩) 1 1] w fun e w' => RetIUs g n (insCUs cs news n n) w e w' := by
  obtain ⟨i0, hi0, z0, z1, z2⟩ := infoM_openUs
  have ho : w.ownsRow 0 44 83 (.slice (some ⟨g, 0, none⟩) n cap) n (cs.take (n * 83)) := ⟨by simp [hl]; omega, .inr ⟨g, cap, cs.toArray, rfl, Nat.zero_le _, hX.2, hnc, by unfold maxLen; omega, by simpa using hl, by simp⟩⟩
  have HI := Lib.hid hi0
  have Z0 := Lib.hid z0; have Z1 := Lib.hid z1; have Z2 := Lib.hid z2
  have HO := Lib.hid ho; have HC := Lib.hid hc; have H1 := Lib.hid h1; have HN := Lib.hid hn; have HL := Lib.hid hl
  have hins : insCUs cs news n n = cs.take (n * 83) ++ news := by
    unfold insCUs
    rw [List.drop_eq_nil_of_le (List.length_take_le _ _), List.append_nil, List.take_take, Nat.min_self]
  have HINS := Lib.hid hins
  have a3 : n ≤ 1000000 := hn
  clear hi0 z0 z1 z2 ho hc h1 hn hX hl hins
  go_enter Try.func41, Try.ntmps41
  go_wp2_with (at_builtin; refine wpList_append_own_at _ rfl _ _ 23 rfl 0 44 i0 (Value.agg (usc zU nilV nilV).toArray) 83 248 Try.underlying23 HI.out Z0.out Z1.out Z2.out rfl (by omega) _ _ _ rfl HO.out ⟨gv, 0, none⟩ 1 1 news rfl (by rw [hnl]) (by intro j u hj; rw [Addr.add_lit, Nat.zero_add]; exact HC.out j u hj) H1.out (by unfold maxLen; omega) (by omega) (Nat.zero_le _) ?_)
  all_goals (
    intro v' w1 hown hgrow _ hat
    have hf : ∃ (g' cap' : Nat) (cs' : List Value), v' = .slice (some ⟨g', 0, none⟩) (n + 1) cap' ∧ (n + 1 ≤ cap' ∧ cap' ≤ 9223372036854775807 ∧ cs'.length = cap' * 83) ∧ w1.heap[g']? = some (.cells cs'.toArray 44 (0, 0)) ∧ cs'.take ((n + 1) * 83) = cs.take (n * 83) ++ news := by
      rcases hown.2 with ⟨_, h0⟩ | ⟨g', cap', cur, rfl, _, hg, h2, h3, h4, h5⟩
      · omega
      · exact ⟨g', cap', cur.toList, rfl, ⟨h2, by unfold maxLen at h3; omega, by simpa using h4⟩, by rw [Array.toArray_toList]; exact hg, h5⟩
    obtain ⟨g', cap', cs', rfl, b1, b2, b3⟩ := hf
    have hgg : g' = g ∨ w.heap.size ≤ g' := by
      rcases hat with h | h
      · simp [Value.ownBlock] at h; exact .inl h
      · simp [Value.ownBlock] at h; exact .inr (by omega)
    have hoff : Off g w w1 := ⟨hgrow.os, hgrow.tape, hgrow.output, hgrow.size, fun k hk hne => hgrow.block k hk (by simp [Value.ownBlock]; omega)⟩
    have R := Lib.hid b1; have R2 := Lib.hid b2; have R3 := Lib.hid b3; have R4 := Lib.hid hgg; have R5 := Lib.hid hoff
    clear b1 b2 b3 hgg hoff hown hgrow hat
    go_wp2
    go_ret
    exact ⟨g', cap', cs', rfl, R.out, R4.out, R2.out, R3.out.trans HINS.out.symm, R5.out⟩)
/-- slices.Insert of one message, whatever the road -/
theorem insert_mUs {B gv g n cap i : Nat} {cs news : List Value} {Tv : TypeId} {w : World} (hX : Box B g 44 cs w) (hl : cs.length = cap * 83) (hm : cap ≤ 9223372036854775807) (hi : i ≤ n) (hnc : n ≤ cap) (hn : n ≤ 1000000) (hnl : news.length = 83)
    (hV : w.heap[gv]? = some (.cells news.toArray Tv (0, 0))) (hne : gv ≠ g) (h1 : ∀ u ∈ news, u.oneCell' = true) (h1c : ∀ u ∈ cs.take (n * 83), u.oneCell' = true) :
    Calls Try.prog 41 #[.slice (some ⟨g, 0, none⟩) n cap, .int .i64 (i : Int), .slice (some ⟨gv, 0, none⟩) 1 1] w fun e w' => RetIUs g n (insCUs cs news n i) w e w' := by
  have hvc : ∀ j u, news[j]? = some u → w.cell? ⟨gv, j, none⟩ = some u := fun j u hj => by rw [cell_of_row w gv j news.toArray Tv (0, 0) hV]; simpa using hj
  by_cases h : i = n
  · subst h; exact insert_endBUs hX hl hm hnc hn hnl hvc h1
  · by_cases hr : n + 1 ≤ cap
    · refine (insert_shiftUs (kv := 0) hX hl hm (show i < n by omega) hr hn hnl hV hne h1 h1c).mono ?_
      rintro e w' ⟨rfl, rfl⟩
      have hXd : Box B g 44 cs w.drew := ⟨hX.1, hX.2⟩
      have hX2 := Box.setCells news _ (i * 83) (Box.setCells ((cs.take (n * 83)).drop (i * 83)) cs (i * 83 + 83) hXd)
      refine ⟨g, cap, _, rfl, ⟨hr, hm, by rw [setL_length, setL_length]; exact hl⟩, .inl rfl, hX2.2, ?_, Off.sets _ _ _ (Off.sets _ _ _ ⟨rfl, rfl, rfl, Nat.le_refl _, fun _ _ _ => rfl⟩)⟩
      exact (ins_takeUs (cs := cs) (xs := cs.take (n * 83)) (news := news) (i := i) (n := n) (by simp [hl]; omega) hnl hi (by omega) (fun j hj => by rw [List.getElem?_take, if_pos (by omega)])).1
    · refine (insert_growUs hX hl (show i < n by omega) hnc (by omega) hn hnl hV h1 h1c).mono ?_
      rintro e w' ⟨⟨gc, cs', rfl, hb, hB, ht⟩, hbel⟩
      exact ⟨_, gc, cs', rfl, hb, .inr (Nat.le_refl _), hB.2, ht, Off.below hbel⟩
end Go.Proofs.Ytfnnfmefihiefaa

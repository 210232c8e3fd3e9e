/- slices.Insert of one message into a list of the call's own: all roads in one; what a walk holds behind it. -/
import Derived.Test.YtbcfcdcomboljaaSesL
import Derived.Maps.AppendAt
namespace Go.Proofs.Ytbcfcdcomboljaa
open Go.RowKit
set_option linter.unusedVariables false
/-- but for block g the world's old blocks are as they were -/
structure Off (g : Nat) (w w' : World) : Prop where
  os : w'.os = w.os
  tape : w'.tape = w.tape
  output : w'.output = w.output
  size : w.heap.size ≤ w'.heap.size
  block : ∀ k, k < w.heap.size → k ≠ g → w'.heap[k]? = w.heap[k]?
theorem Off.cell {g : Nat} {w w' : World} (h : Off g w w') {b i : Nat} (hb : b < w.heap.size) (hne : b ≠ g) : w'.cell? ⟨b, i, none⟩ = w.cell? ⟨b, i, none⟩ := World.cell?_of_block (w := w) (h.block b hb hne)
theorem Off.sets {g : Nat} {w : World} : ∀ (vs : List Value) (o : Nat) (W : World), Off g w W → Off g w (W.setCells g o vs)
  | [], _, _, h => h
  | v :: r, o, W, h => Off.sets r (o + 1) _ ⟨h.os, h.tape, h.output, by simpa using h.size, fun k hk hne => (Below.heap_setCell _ _ _ _ hne).trans (h.block k hk hne)⟩
theorem Off.below {g : Nat} {w w' : World} (h : Below w.heap.size w w') : Off g w w' := ⟨h.os, h.tape, h.output, h.size, fun k hk _ => h.block k hk⟩
/-- the cells with one message put in -/
def insC (cs news : List Value) (n i : Nat) : List Value := (cs.take (n * 5)).take (i * 5) ++ news ++ (cs.take (n * 5)).drop (i * 5)
/-- a list of the call's own came back, one message longer -/
def RetI (g n : Nat) (xs : List Value) (w : World) (e : Ending) (w' : World) : Prop := ∃ (g' cap' : Nat) (cs' : List Value), e = .returned (.slice (some ⟨g', 0, none⟩) (n + 1) cap') ∧ (n + 1 ≤ cap' ∧ cap' ≤ 9223372036854775807 ∧ cs'.length = cap' * 5) ∧ (g' = g ∨ w.heap.size ≤ g') ∧ w'.heap[g']? = some (.cells cs'.toArray 24 (0, 0)) ∧ cs'.take ((n + 1) * 5) = xs ∧ Off g w w'
set_option maxHeartbeats 2000000 in
set_option maxRecDepth 100000 in
theorem insert_endB {B gv g n cap : Nat} {cs news : List Value} {w : World} (hX : Box B g 24 cs w) (hl : cs.length = cap * 5) (hm : cap ≤ 9223372036854775807) (hnc : n ≤ cap) (hn : n ≤ 1000000) (hnl : news.length = 5) (hc : ∀ j u, news[j]? = some u → w.cell? ⟨gv, j, none⟩ = some u) (h1 : ∀ u ∈ news, u.oneCell' = true) :
    Calls Try.prog 55 #[.slice (some ⟨g, 0, none⟩) n cap, .int .i64 (n : Int), .slice (some ⟨gv, 0, none⟩) 1 1] w fun e w' => RetI g n (insC cs news n n) w e w' := by
  obtain ⟨i0, hi0, z0, z1, z2⟩ := infoM_open
  have ho : w.ownsRow 0 24 5 (.slice (some ⟨g, 0, none⟩) n cap) n (cs.take (n * 5)) := ⟨by simp [hl]; omega, .inr ⟨g, cap, cs.toArray, rfl, Nat.zero_le _, hX.2, hnc, by unfold maxLen; omega, by simpa using hl, by simp⟩⟩
  have HI := Lib.hid hi0
  have Z0 := Lib.hid z0; have Z1 := Lib.hid z1; have Z2 := Lib.hid z2
  have HO := Lib.hid ho; have HC := Lib.hid hc; have H1 := Lib.hid h1; have HN := Lib.hid hn; have HL := Lib.hid hl
  have hins : insC cs news n n = cs.take (n * 5) ++ news := by
    unfold insC
    rw [List.drop_eq_nil_of_le (List.length_take_le _ _), List.append_nil, List.take_take, Nat.min_self]
  have HINS := Lib.hid hins
  have a3 : n ≤ 1000000 := hn
  clear hi0 z0 z1 z2 ho hc h1 hn hX hl hins
  go_enter Try.func55, Try.ntmps55
  go_wp2_with (at_builtin; refine wpList_append_own_at _ rfl _ _ 25 rfl 0 24 i0 mzero 5 56 Try.underlying25 HI.out Z0.out Z1.out Z2.out rfl (by omega) _ _ _ rfl HO.out ⟨gv, 0, none⟩ 1 1 news rfl (by rw [hnl]) (by intro j u hj; rw [Addr.add_lit, Nat.zero_add]; exact HC.out j u hj) H1.out (by unfold maxLen; omega) (by omega) (Nat.zero_le _) ?_)
  all_goals (
    intro v' w1 hown hgrow _ hat
    have hf : ∃ (g' cap' : Nat) (cs' : List Value), v' = .slice (some ⟨g', 0, none⟩) (n + 1) cap' ∧ (n + 1 ≤ cap' ∧ cap' ≤ 9223372036854775807 ∧ cs'.length = cap' * 5) ∧ w1.heap[g']? = some (.cells cs'.toArray 24 (0, 0)) ∧ cs'.take ((n + 1) * 5) = cs.take (n * 5) ++ news := by
      rcases hown.2 with ⟨_, h0⟩ | ⟨g', cap', cur, rfl, _, hg, h2, h3, h4, h5⟩
      · omega
      · exact ⟨g', cap', cur.toList, rfl, ⟨h2, by unfold maxLen at h3; omega, by simpa using h4⟩, by rw [Array.toArray_toList]; exact hg, h5⟩
    obtain ⟨g', cap', cs', rfl, b1, b2, b3⟩ := hf
    have hgg : g' = g ∨ w.heap.size ≤ g' := by
      rcases hat with h | h
      · simp [Value.ownBlock] at h; exact .inl h
      · simp [Value.ownBlock] at h; exact .inr (by omega)
    have hoff : Off g w w1 := ⟨hgrow.os, hgrow.tape, hgrow.output, hgrow.size, fun k hk hne => hgrow.block k hk (by simp [Value.ownBlock]; omega)⟩
    have R := Lib.hid b1; have R2 := Lib.hid b2; have R3 := Lib.hid b3; have R4 := Lib.hid hgg; have R5 := Lib.hid hoff
    clear b1 b2 b3 hgg hoff hown hgrow hat
    go_wp2
    go_ret
    exact ⟨g', cap', cs', rfl, R.out, R4.out, R2.out, R3.out.trans HINS.out.symm, R5.out⟩)
/-- slices.Insert of one message, whatever the road -/
theorem insert_m {B gv g n cap i : Nat} {cs news : List Value} {Tv : TypeId} {w : World} (hX : Box B g 24 cs w) (hl : cs.length = cap * 5) (hm : cap ≤ 9223372036854775807) (hi : i ≤ n) (hnc : n ≤ cap) (hn : n ≤ 1000000) (hnl : news.length = 5)
    (hV : w.heap[gv]? = some (.cells news.toArray Tv (0, 0))) (hne : gv ≠ g) (h1 : ∀ u ∈ news, u.oneCell' = true) (h1c : ∀ u ∈ cs.take (n * 5), u.oneCell' = true) :
    Calls Try.prog 55 #[.slice (some ⟨g, 0, none⟩) n cap, .int .i64 (i : Int), .slice (some ⟨gv, 0, none⟩) 1 1] w fun e w' => RetI g n (insC cs news n i) w e w' := by
  have hvc : ∀ j u, news[j]? = some u → w.cell? ⟨gv, j, none⟩ = some u := fun j u hj => by rw [cell_of_row w gv j news.toArray Tv (0, 0) hV]; simpa using hj
  by_cases h : i = n
  · subst h; exact insert_endB hX hl hm hnc hn hnl hvc h1
  · by_cases hr : n + 1 ≤ cap
    · refine (insert_shift (kv := 0) hX hl hm (show i < n by omega) hr hn hnl hV hne h1 h1c).mono ?_
      rintro e w' ⟨rfl, rfl⟩
      have hXd : Box B g 24 cs w.drew := ⟨hX.1, hX.2⟩
      have hX2 := Box.setCells news _ (i * 5) (Box.setCells ((cs.take (n * 5)).drop (i * 5)) cs (i * 5 + 5) hXd)
      refine ⟨g, cap, _, rfl, ⟨hr, hm, by rw [setL_length, setL_length]; exact hl⟩, .inl rfl, hX2.2, ?_, Off.sets _ _ _ (Off.sets _ _ _ ⟨rfl, rfl, rfl, Nat.le_refl _, fun _ _ _ => rfl⟩)⟩
      exact (ins_take (cs := cs) (xs := cs.take (n * 5)) (news := news) (i := i) (n := n) (by simp [hl]; omega) hnl hi (by omega) (fun j hj => by rw [List.getElem?_take, if_pos (by omega)])).1
    · refine (insert_grow hX hl (show i < n by omega) hnc (by omega) hn hnl hV h1 h1c).mono ?_
      rintro e w' ⟨⟨gc, cs', rfl, hb, hB, ht⟩, hbel⟩
      exact ⟨_, gc, cs', rfl, hb, .inr (Nat.le_refl _), hB.2, ht, Off.below hbel⟩
/-- what a walk holds behind Insert -/
theorem Env.ins {D0 : Nat → Prop} {w W W' : World} {F : List Bx} {G : List Fct} (h : Env D0 w F G W) (idx : Nat) {g g' : Nat} {T : TypeId} {cs cs' : List Value} (e : F[idx]? = some (g, T, cs)) (ho : Off g W W') (hg : g' = g ∨ W.heap.size ≤ g') (hB : W'.heap[g']? = some (.cells cs'.toArray T (0, 0))) :
    Env D0 w (F.set idx (g', T, cs')) G W' := by
  have hBg := h.box.get idx e
  have hge : w.heap.size ≤ g' := by rcases hg with rfl | hg; exact hBg.1; exact Nat.le_trans h.bel.size hg
  have hF : ∀ (F : List Bx) (idx : Nat), F[idx]? = some (g, T, cs) → HeldF w.heap.size F W → HeldF w.heap.size (F.set idx (g', T, cs')) W' := by
    intro F
    induction F with
    | nil => intro idx e; simp at e
    | cons p F ih =>
      intro idx e hh
      rcases idx with _ | idx
      · simp only [List.getElem?_cons_zero, Option.some.injEq] at e
        subst e
        refine ⟨⟨hge, hB⟩, fun q hq e2 => ?_, ?_⟩
        · have hq1 := hh.2.1 q hq
          have hq2 := hh.2.2.old q hq
          rcases hg with rfl | hg
          · exact hq1 e2
          · simp only at e2; omega
        · have hkeep : ∀ (F : List Bx), (∀ q ∈ F, q.1 ≠ g) → HeldF w.heap.size F W → HeldF w.heap.size F W' := by
            intro F
            induction F with
            | nil => intro _ _; exact trivial
            | cons q F ih2 => exact fun hne hh => ⟨⟨hh.1.1, (ho.block _ hh.1.lt (hne q (by simp))).trans hh.1.2⟩, hh.2.1, ih2 (fun r hr => hne r (by simp [hr])) hh.2.2⟩
          exact hkeep F hh.2.1 hh.2.2
      · have e' : F[idx]? = some (g, T, cs) := by simpa using e
        have hm : (g, T, cs) ∈ F := List.mem_of_getElem? e'
        have hpg : p.1 ≠ g := fun e2 => hh.2.1 _ hm e2.symm
        refine ⟨⟨hh.1.1, (ho.block _ hh.1.lt hpg).trans hh.1.2⟩, fun q hq => ?_, ih idx e' hh.2.2⟩
        rcases List.mem_or_eq_of_mem_set hq with hq | rfl
        · exact hh.2.1 q hq
        · simp only
          intro e3
          rcases hg with rfl | hg
          · exact hpg e3.symm
          · have := hh.1.lt; omega
  have hm : (g, T, cs) ∈ F := List.mem_of_getElem? e
  refine ⟨⟨ho.os.trans h.bel.os, ho.tape.trans h.bel.tape, ho.output.trans h.bel.output, Nat.le_trans h.bel.size ho.size, fun k hk => (ho.block k (Nat.lt_of_lt_of_le hk h.bel.size) (by have := hBg.1; omega)).trans (h.bel.block k hk)⟩, hF F idx e h.box, ?_⟩
  refine h.fct.turn ho.size (fun b hl hd => ⟨fun p hp => ?_, hd.2⟩) (fun b i hl hd => ho.cell hl (fun e2 => hd.1 _ hm e2.symm))
  rcases List.mem_or_eq_of_mem_set hp with hp | rfl
  · exact hd.1 p hp
  · simp only
    rcases hg with rfl | hg
    · exact hd.1 _ hm
    · omega
end Go.Proofs.Ytbcfcdcomboljaa

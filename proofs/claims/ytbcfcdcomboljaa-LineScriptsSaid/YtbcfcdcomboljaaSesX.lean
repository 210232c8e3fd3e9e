/- A list of messages of the call's own, by its cells; slices.Clone of messages. -/
import Derived.Test.YtbcfcdcomboljaaSesD
namespace Go.Proofs.Ytbcfcdcomboljaa
open Go.RowKit
set_option linter.unusedVariables false
theorem Env.gotBox {D0 : Nat → Prop} {w W W' : World} {F : List Bx} {G : List Fct} (h : Env D0 w F G W) (hb : Below W.heap.size W W') {g : Nat} {T : TypeId} {cs : List Value} (hB : Box W.heap.size g T cs W') : Env D0 w ((g, T, cs) :: F) G W' := by
  have h' := h.below hb
  refine ⟨h'.bel, ⟨⟨Nat.le_trans h.bel.size hB.1, hB.2⟩, fun q hq e => by have := h.box.old q hq; have := hB.1; simp only at e; omega, h'.box⟩, ?_⟩
  refine h.fct.turn hb.size (fun b hl hd => ⟨fun p hp => ?_, hd.2⟩) (fun b i hl _ => hb.cell (p := ⟨b, i, none⟩) hl)
  rcases List.mem_cons.1 hp with rfl | hp
  · have := hB.1; simp only; omega
  · exact hd.1 p hp
theorem Env.gotMc {D0 : Nat → Prop} {w W W' : World} {F : List Bx} {G : List Fct} {g : Nat} {T : TypeId} {cs : List Value} (h : Env D0 w ((g, T, cs) :: F) G W') (hg : W.heap.size ≤ g) {f : Fct} (hf : f.at W' (fun b => DF D0 w.heap.size F b ∧ b < W.heap.size)) : Env D0 w ((g, T, cs) :: F) (f :: G) W' :=
  h.note f (Fct.turn hf (Nat.le_refl _) (fun b _ hd => ⟨fun p hp => by
    rcases List.mem_cons.1 hp with rfl | hp
    · simp only; omega
    · exact hd.1.1 p hp, hd.1.2⟩) (fun _ _ _ _ => rfl))
theorem getElem?_set5 {cs : List Value} {k : Nat} {a b c d e : Value} (hl : k * 5 + 4 < cs.length) (j : Nat) :
    (((((cs.set (k * 5) a).set (k * 5 + 1) b).set (k * 5 + 2) c).set (k * 5 + 3) d).set (k * 5 + 4) e)[j]? =
      if j = k * 5 then some a else if j = k * 5 + 1 then some b else if j = k * 5 + 2 then some c else if j = k * 5 + 3 then some d else if j = k * 5 + 4 then some e else cs[j]? := by
  simp only [List.getElem?_set, List.length_set]
  by_cases e4 : k * 5 + 4 = j
  · rw [if_pos e4, if_pos (by omega), if_neg (by omega), if_neg (by omega), if_neg (by omega), if_neg (by omega), if_pos e4.symm]
  rw [if_neg e4]
  by_cases e3 : k * 5 + 3 = j
  · rw [if_pos e3, if_pos (by omega), if_neg (by omega), if_neg (by omega), if_neg (by omega), if_pos e3.symm]
  rw [if_neg e3]
  by_cases e2 : k * 5 + 2 = j
  · rw [if_pos e2, if_pos (by omega), if_neg (by omega), if_neg (by omega), if_pos e2.symm]
  rw [if_neg e2]
  by_cases e1 : k * 5 + 1 = j
  · rw [if_pos e1, if_pos (by omega), if_neg (by omega), if_pos e1.symm]
  rw [if_neg e1]
  by_cases e0 : k * 5 = j
  · rw [if_pos e0, if_pos (by omega), if_pos e0.symm]
  rw [if_neg e0]
  rw [if_neg (by omega), if_neg (by omega), if_neg (by omega), if_neg (by omega), if_neg (by omega)]
/-- one message of the list is written anew -/
theorem mc_set {W : World} {D : Nat → Prop} {cs : List Value} {L : List Msg} (h : Fct.at W D (.mc cs L)) (hl : L.length * 5 ≤ cs.length) {k : Nat} (hk : k < L.length) (M : Msg) {ao : Option Addr} {j : Nat} (hb : Bs W D (.slice ao M.body.length j) M.body) :
    Fct.at W D (.mc (((((cs.set (k * 5) (.int .i64 M.fr)).set (k * 5 + 1) (.int .i64 M.to_)).set (k * 5 + 2) (.int .i64 M.kd)).set (k * 5 + 3) (.int .i64 M.nm)).set (k * 5 + 4) (.slice ao M.body.length j)) (L.set k M)) := by
  intro i hi
  have hi' : i < L.length := by simpa using hi
  have hc := fun x => getElem?_set5 (cs := cs) (k := k) (a := .int .i64 M.fr) (b := .int .i64 M.to_) (c := .int .i64 M.kd) (d := .int .i64 M.nm) (e := .slice ao M.body.length j) (by omega) x
  by_cases e : i = k
  · subst e
    simp only [List.getElem_set_self]
    refine ⟨?_, ?_, ?_, ?_, ao, j, ?_, hb⟩
    · rw [hc, if_pos rfl]
    · rw [hc, if_neg (by omega), if_pos rfl]
    · rw [hc, if_neg (by omega), if_neg (by omega), if_pos rfl]
    · rw [hc, if_neg (by omega), if_neg (by omega), if_neg (by omega), if_pos rfl]
    · rw [hc, if_neg (by omega), if_neg (by omega), if_neg (by omega), if_neg (by omega), if_pos rfl]
  · rw [List.getElem_set_ne (fun e2 => e e2.symm)]
    obtain ⟨h1, h2, h3, h4, a2, j2, h5, h6⟩ := h i hi'
    refine ⟨?_, ?_, ?_, ?_, a2, j2, ?_, h6⟩
    all_goals (rw [hc, if_neg (by omega), if_neg (by omega), if_neg (by omega), if_neg (by omega), if_neg (by omega)]; assumption)
/-- a list of the call's own reads as its messages -/
theorem Ms.ofBox {W : World} {D D' : Nat → Prop} {B g : Nat} {T : TypeId} {cs : List Value} {L : List Msg} {cap : Nat} (hB : Box B g T cs W) (h : Fct.at W D (.mc cs L)) (hc : L.length ≤ cap) (hm : cap ≤ 9223372036854775807) (hD : ∀ b, D b → D' b) (hg : D' g) : Ms W D' (.slice (some ⟨g, 0, none⟩) L.length cap) L := by
  refine ⟨_, cap, rfl, hc, hm, fun _ => ⟨g, 0, rfl, ⟨hB.lt, hg⟩, fun i M hi => ?_⟩, trivial⟩
  obtain ⟨hlt, rfl⟩ := List.getElem?_eq_some_iff.1 hi
  obtain ⟨h1, h2, h3, h4, ao, k, h5, h6⟩ := h i hlt
  rw [Nat.zero_add]
  exact ⟨hB.cell _ h1, hB.cell _ h2, hB.cell _ h3, hB.cell _ h4, _, hB.cell _ h5, h6.turn (Nat.le_refl _) (fun b _ hd => hD b hd) (fun _ _ _ _ => rfl)⟩
def mzero : Value := .agg #[.int .i64 0, .int .i64 0, .int .i64 0, .int .i64 0, .slice none 0 0]
theorem Try.infoM : (Try.prog.info? 24).map (fun i => (i.zero, i.size, i.bytes)) = some (some mzero, 5, 56) := by kernel_rfl
/-- slices.Clone of messages: a list of the call's own, by its cells; the bodies are the old ones -/
theorem cloneM_s {D : Nat → Prop} {b off c : Nat} {L : List Msg} {w : World} (h : Fct.at w D (.ms (.slice (some ⟨b, off, none⟩) L.length c) L)) (hl : L.length ≤ 1000000) :
    Calls Try.prog 80 #[.slice (some ⟨b, off, none⟩) L.length c] w fun e w' => (∃ g cap cs, e = .returned (.slice (some ⟨g, 0, none⟩) L.length cap) ∧ (L.length ≤ cap ∧ cap ≤ 9223372036854775807 ∧ cs.length = cap * 5) ∧ Box w.heap.size g 24 cs w' ∧ Fct.at w' (fun b => D b ∧ b < w.heap.size) (.mc cs L)) ∧ Below w.heap.size w w' := by
  obtain ⟨i0, hi0⟩ : ∃ i0, Try.prog.info? 24 = some i0 := by
    have := Try.infoM
    cases hh : Try.prog.info? 24 with
    | none => rw [hh] at this; simp at this
    | some i => exact ⟨i, rfl⟩
  have hi1 := Try.infoM
  rw [hi0] at hi1
  simp only [Option.map_some, Option.some.injEq, Prod.mk.injEq] at hi1
  obtain ⟨z0, z1, z2⟩ := hi1
  -- the cells as they stand
  obtain ⟨news, hnews⟩ : ∃ news : List Value, news = (List.range (L.length * 5)).map fun j => (w.cell? ⟨b, off + j, none⟩).getD (.bool false) := ⟨_, rfl⟩
  have hlen : news.length = L.length * 5 := by rw [hnews]; simp
  have hat : ∀ i (hi : i < L.length), MsAt w D b (off + i * 5) L[i] := fun i hi => Ms.el h i hi
  have hex : ∀ j, j < L.length * 5 → ∃ v, w.cell? ⟨b, off + j, none⟩ = some v ∧ v.oneCell' = true := by
    intro j hj
    obtain ⟨i, r, hi, hr, rfl⟩ : ∃ i r, i < L.length ∧ r < 5 ∧ j = i * 5 + r := ⟨j / 5, j % 5, by omega, Nat.mod_lt _ (by omega), by omega⟩
    obtain ⟨h1, h2, h3, h4, bv, h5, h6⟩ := hat i hi
    obtain ⟨ao, k, rfl⟩ := h6.len
    rw [← Nat.add_assoc]
    match r, hr with
    | 0, _ => exact ⟨_, h1, rfl⟩
    | 1, _ => exact ⟨_, h2, rfl⟩
    | 2, _ => exact ⟨_, h3, rfl⟩
    | 3, _ => exact ⟨_, h4, rfl⟩
    | 4, _ => exact ⟨_, h5, rfl⟩
  have hget : ∀ j v, w.cell? ⟨b, off + j, none⟩ = some v → j < L.length * 5 → news[j]? = some v := by
    intro j v hv hj
    rw [hnews, List.getElem?_map, List.getElem?_range hj]
    simp [hv]
  have hnc : ∀ j u, news[j]? = some u → w.cell? ⟨b, off + j, none⟩ = some u := by
    intro j u hu
    have hj : j < L.length * 5 := by
      have := (List.getElem?_eq_some_iff.1 hu).1; omega
    obtain ⟨v, hv, _⟩ := hex j hj
    rw [hget j v hv hj] at hu
    cases hu; exact hv
  refine (AnyE.slices_Clone Try.laysCloneM i0 mzero 5 56 hi0 z0 z1 z2 rfl (by omega) Try.sizeOf24 b off L.length c news w hlen (by unfold maxLen; omega) (by omega) hnc ?_).mono ?_
  · intro u hu
    obtain ⟨j, hj, rfl⟩ := List.getElem_of_mem hu
    have hj' : j < L.length * 5 := by omega
    obtain ⟨v, hv, h1⟩ := hex j hj'
    have := hget j v hv hj'
    rw [List.getElem?_eq_getElem hj] at this
    cases this; exact h1
  · rintro e w' ⟨v', rfl, ho, hne, hb⟩
    rcases ho.2 with ⟨rfl, hn⟩ | ⟨g, cap, cur, rfl, hbg, hg, hn, hm, hs, ht⟩
    · exact absurd rfl hne
    · refine ⟨⟨g, cap, cur.toList, rfl, ⟨hn, by unfold maxLen at hm; omega, by simpa using hs⟩, ⟨hbg, by rw [Array.toArray_toList]; exact hg⟩, ?_⟩, hb⟩
      intro i hi
      obtain ⟨h1, h2, h3, h4, bv, h5, h6⟩ := hat i hi
      obtain ⟨ao, k, rfl⟩ := h6.len
      have tk : ∀ r v, r < 5 → w.cell? ⟨b, off + (i * 5 + r), none⟩ = some v → cur.toList[i * 5 + r]? = some v := by
        intro r v hr hv
        have h7 := hget (i * 5 + r) v hv (by omega)
        rw [← ht, List.getElem?_take, if_pos (by omega)] at h7
        exact h7
      have hbs : Bs w' (fun b => D b ∧ b < w.heap.size) (.slice ao L[i].body.length k) L[i].body := h6.turn hb.size (fun b hl hd => ⟨hd, hl⟩) (fun b i hl _ => hb.cell (p := ⟨b, i, none⟩) hl)
      exact ⟨tk 0 _ (by omega) h1, tk 1 _ (by omega) (by rw [← Nat.add_assoc]; exact h2), tk 2 _ (by omega) (by rw [← Nat.add_assoc]; exact h3), tk 3 _ (by omega) (by rw [← Nat.add_assoc]; exact h4), ao, k, tk 4 _ (by omega) (by rw [← Nat.add_assoc]; exact h5), hbs⟩
set_option maxHeartbeats 2000000 in
set_option maxRecDepth 100000 in
/-- slices.Clone of a list of no element that is not nil, whatever its address -/
theorem cloneM_zero {a : Addr} {c : Nat} {w : World} : Calls Try.prog 80 #[.slice (some a) 0 c] w fun e w' => (∃ ao k, e = .returned (.slice ao 0 k) ∧ k ≤ 9223372036854775807) ∧ Below w.heap.size w w' := by
  obtain ⟨i0, hi0⟩ : ∃ i0, Try.prog.info? 24 = some i0 := by
    have := Try.infoM
    cases hh : Try.prog.info? 24 with
    | none => rw [hh] at this; simp at this
    | some i => exact ⟨i, rfl⟩
  have hi1 := Try.infoM
  rw [hi0] at hi1
  simp only [Option.map_some, Option.some.injEq, Prod.mk.injEq] at hi1
  obtain ⟨z0, z1, z2⟩ := hi1
  have HI := Lib.hid hi0
  have Z0 := Lib.hid z0; have Z1 := Lib.hid z1; have Z2 := Lib.hid z2
  clear hi0 z0 z1 z2
  have q22 : ∀ (w : World) (a : Option Addr) (n c n' c' : Nat), (binOp .eql 25 (.slice a n c) (.slice none n' c')).run Try.prog w = .ok (.bool a.isNone) w := fun w a n c n' c' => Lib.run_eql_slice_nil w _ _ a n c n' c' Try.underlying25
  go_enter Try.func80, Try.ntmps80
  go_wp2_with (at_builtin; refine wpList_append_own _ rfl _ _ 25 rfl w.heap.size 24 i0 (mzero) 5 56 Try.underlying25 HI.out Z0.out Z1.out Z2.out rfl (by omega) _ _ _ rfl (World.ownsRow_made w #[] 0 (Nat.le_refl _) (Nat.zero_le _) (by simp)) a 0 c [] rfl ?qc1 ?qc2 ?qc3 ?qc4 ?qc5 ?qc6 ?_)
  case qc1 => rfl
  case qc2 => intro j u hj; simp at hj
  case qc3 => intro u hu; simp at hu
  case qc4 => unfold maxLen; omega
  case qc5 => omega
  case qc6 => simp
  intro v' w1 hown hgrow hnil
  have hf : ∃ ao k, v' = .slice ao 0 k ∧ k ≤ 9223372036854775807 := by
    rcases hown.2 with ⟨rfl, _⟩ | ⟨g, cap, cur, rfl, _, _, _, hm, _, _⟩
    · exact ⟨none, 0, rfl, by omega⟩
    · exact ⟨_, cap, rfl, by unfold maxLen at hm; omega⟩
  obtain ⟨ao, k, rfl, hk⟩ := hf
  have HK := Lib.hid hk; have HG := Lib.hid hgrow
  clear hk hgrow hown hnil
  go_wp2
  go_ret
  exact ⟨⟨ao, k, rfl, HK.out⟩, ((Below.refl _ w).alloc (Nat.le_refl _) _).grown HG.out (by simp) (by intro k hk; simp [Value.ownBlock] at hk; omega)⟩
/-- slices.Clone of no message -/
theorem cloneM_n {w : World} {v : Value} {D : Nat → Prop} (h : Fct.at w D (.ms v [])) :
    Calls Try.prog 80 #[v] w fun e w' => (∃ ao k, e = .returned (.slice ao 0 k) ∧ Hid (Ms w' (fun b => D b ∨ w.heap.size ≤ b) (.slice ao 0 k) [])) ∧ Below w.heap.size w w' := by
  have h' := h
  obtain ⟨ao, cap, rfl, h1, h2, h3, h4⟩ := h
  cases ao with
  | none =>
    refine (AnyE.slices_Clone_nil Try.laysCloneM _ _ w).mono ?_
    rintro e w' ⟨rfl, rfl⟩
    exact ⟨⟨none, 0, rfl, Lib.hid (Ms.nil _ _)⟩, Below.refl _ _⟩
  | some a =>
    refine cloneM_zero.mono ?_
    rintro e w' ⟨⟨ao, k, rfl, hk⟩, hb⟩
    exact ⟨⟨ao, k, rfl, Lib.hid ⟨ao, k, rfl, Nat.zero_le _, hk, fun h => absurd rfl h, trivial⟩⟩, hb⟩
end Go.Proofs.Ytbcfcdcomboljaa

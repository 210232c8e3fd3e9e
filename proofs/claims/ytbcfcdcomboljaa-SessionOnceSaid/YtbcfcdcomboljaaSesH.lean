/- session: what the example of the chapter walks: Done of the empty session, Known of the answer. -/
import Derived.Test.YtbcfcdcomboljaaSesF
namespace Go.Proofs.Ytbcfcdcomboljaa
open Go.RowKit
set_option linter.unusedVariables false
theorem S0.ok : SesOk S0 := ⟨⟨by decide, by decide, by decide⟩, by simp [S0], fun _ => ⟨by decide, rfl⟩, fun i h => by simp [S0] at h⟩
/-- slices.Clone of nil -/
theorem cloneM_nil (n c : Nat) (w : World) : Calls Try.prog 80 #[.slice none n c] w fun e w' => e = .returned (.slice none 0 0) ∧ Below w.heap.size w w' :=
  (AnyE.slices_Clone_nil Try.laysCloneM n c w).mono fun e w' h => ⟨h.1, by rw [h.2]; exact Below.refl _ _⟩
theorem copyOf_0 {D : Nat → Prop} {w : World} (h0 : Fct.at w D (.bs (.slice none 0 0) [])) : Calls Try.prog 51 #[.agg #[.int .i64 0, .int .i64 0, .int .i64 0, .int .i64 0, .slice none 0 0]] w fun e w' => (∃ ao k, e = .returned (.agg #[.int .i64 0, .int .i64 0, .int .i64 0, .int .i64 0, .slice ao 0 k]) ∧ Hid (Bs w' (fun b => D b ∨ w.heap.size ≤ b) (.slice ao 0 k) [])) ∧ Below w.heap.size w w' := by
  have h : Fct.at w D (.bs (.slice none ([] : List Nat).length 0) []) := Bs.nil w D
  refine (copyOf_c ⟨0, 0, 0, 0, []⟩ h (by simp)).mono ?_
  rintro e w' ⟨⟨ao, k, rfl, hb⟩, hbel⟩
  exact ⟨⟨ao, k, rfl, hb⟩, hbel⟩
theorem find_nil0 {D : Nat → Prop} (c : Int) {w : World} : Calls Try.prog 50 #[.agg #[.int .i64 0, .bool false, .int .i64 0, .int .i64 0, .int .i64 0, .int .i64 0, .slice none 0 0, .slice none 0 0, .int .i64 0], .int .i64 c] w fun e w' => e = .returned (.tuple #[.int .i64 0, .bool false]) ∧ Below w.heap.size w w' := by
  refine (find_nil (D := D) 0 0 0 0 0 0 false (.slice none 0 0) [] c).mono ?_
  rintro e w' ⟨⟨i, t, hf, rfl⟩, hb⟩
  obtain ⟨h1, _, _, h4⟩ := hf.out
  obtain rfl : i = 0 := by simpa using h1
  cases t
  · exact ⟨rfl, hb⟩
  · obtain ⟨h, _⟩ := h4.1 rfl; simp at h
theorem mc_one {W : World} {D : Nat → Prop} {cs : List Value} {M : Msg} {ao : Option Addr} {k : Nat} (ht : cs.take 5 = [.int .i64 M.fr, .int .i64 M.to_, .int .i64 M.kd, .int .i64 M.nm, .slice ao M.body.length k]) (hb : Bs W D (.slice ao M.body.length k) M.body) : Fct.at W D (.mc cs [M]) := by
  intro i hi
  obtain rfl : i = 0 := by simp at hi; exact hi
  have g : ∀ j, j < 5 → cs[j]? = [Value.int .i64 M.fr, .int .i64 M.to_, .int .i64 M.kd, .int .i64 M.nm, .slice ao M.body.length k][j]? := by
    intro j hj; rw [← ht, List.getElem?_take, if_pos hj]
  exact ⟨g 0 (by omega), g 1 (by omega), g 2 (by omega), g 3 (by omega), ao, k, g 4 (by omega), hb⟩
/-- the empty session, as it is made -/
theorem New_0 (w : World) : Calls Try.prog 30 #[] w fun e w' => e = .returned (.agg #[.int .i64 0, .bool false, .int .i64 0, .int .i64 0, .int .i64 0, .int .i64 0, .slice none 0 0, .slice none 0 0, .int .i64 0]) ∧ Below w.heap.size w w' := by
  go_enter Try.func30, Try.ntmps30
  go_wp2
  refine bodyPost_ret (v := .agg #[.int .i64 0, .bool false, .int .i64 0, .int .i64 0, .int .i64 0, .int .i64 0, .slice none 0 0, .slice none 0 0, .int .i64 0]) (by simp [results, Try.results30, go_sem]) rfl ?_
  exact ⟨rfl, (Below.refl _ _).alloc (Nat.le_refl _) _⟩
set_option maxRecDepth 100000 in
set_option maxHeartbeats 1000000 in
theorem copyAll_0 {D : Nat → Prop}  {w : World}   :
    Calls Try.prog 54 #[.agg #[.int .i64 0, .bool false, .int .i64 0, .int .i64 0, .int .i64 0, .int .i64 0, .slice none 0 0, .slice none 0 0, .int .i64 0]] w fun e w' => (∃ ao k, e = .returned (.agg #[.int .i64 0, .bool false, .int .i64 0, .int .i64 0, .int .i64 0, .int .i64 0, .slice ao 0 k, .slice none 0 0, .int .i64 0]) ∧ Hid (Bs w' (fun b => D b ∨ w.heap.size ≤ b) (.slice ao 0 k) [])) ∧ Below w.heap.size w w' := by
  have E0 := Lib.hid (Env.start D w)
  go_enter Try.func54, Try.ntmps54
  have E00 := Lib.hid (E0.out.note (.bs _ _) (Bs.nil _ _))
  clear E0
  go_wp2_with fail
  have E1 := Lib.hid (((E00.out.push 27 [.int .i64 0, .bool false, .int .i64 0, .int .i64 0, .int .i64 0, .int .i64 0, .slice none 0 0, .slice none 0 0, .int .i64 0] (w.heap.size) (by simp)).push 27 [.int .i64 0, .bool false, .int .i64 0, .int .i64 0, .int .i64 0, .int .i64 0, .slice none 0 0, .slice none 0 0, .int .i64 0] (w.heap.size + 1) (by simp)))
  refine (copyOf_0 (E1.out.fc 0 rfl)).mono ?_
  rintro e w1 ⟨⟨rqa, rqk, rfl, hrq⟩, hb⟩
  have E2 := Lib.hid (E1.out.got (E1.out.below hb) (.bs (.slice rqa 0 rqk) []) hrq.out)
  clear E00 E1 hb hrq
  have b1 := E2.out.bx 1 rfl
  have c1_2 := b1.cell 2 rfl
  have c1_3 := b1.cell 3 rfl
  have c1_4 := b1.cell 4 rfl
  have c1_5 := b1.cell 5 rfl
  have c1_6 := b1.cell 6 rfl
  have f1_2 := b1.frozen 2
  have f1_3 := b1.frozen 3
  have f1_4 := b1.frozen 4
  have f1_5 := b1.frozen 5
  have f1_6 := b1.frozen 6
  clear b1
  have E3 : Hid (Env D w [(w.heap.size + 1, 27, [.int .i64 0, .bool false, .int .i64 0, .int .i64 0, .int .i64 0, .int .i64 0, .slice none 0 0, .slice none 0 0, .int .i64 0]), (w.heap.size, 27, [.int .i64 0, .bool false, .int .i64 0, .int .i64 0, .int .i64 0, .int .i64 0, .slice rqa 0 rqk, .slice none 0 0, .int .i64 0])] [.bs (.slice rqa 0 rqk) [], .bs (.slice none 0 0) []] _) := Lib.hid ((((((E2.out.set 1 2 (.int .i64 0) rfl).set 1 3 (.int .i64 0) rfl).set 1 4 (.int .i64 0) rfl).set 1 5 (.int .i64 0) rfl).set 1 6 (.slice rqa 0 rqk) rfl))
  have b2 := E3.out.bx 1 rfl
  have c2_7 := b2.cell 7 rfl
  clear b2
  go_wp2_with fail
  refine (cloneM_nil _ _ _).mono ?_
  rintro e w2 ⟨rfl, hb⟩
  have E4 := Lib.hid (E3.out.below hb)
  clear c1_2 c1_3 c1_4 c1_5 c1_6 f1_2 f1_3 f1_4 f1_5 f1_6 c2_7 E2 E3 hb
  have b3 := E4.out.bx 1 rfl
  have c3_7 := b3.cell 7 rfl
  have f3_7 := b3.frozen 7
  clear b3
  go_wp2_with fail
  have E5 : Hid (Env D w [(w.heap.size + 1, 27, [.int .i64 0, .bool false, .int .i64 0, .int .i64 0, .int .i64 0, .int .i64 0, .slice none 0 0, .slice none 0 0, .int .i64 0]), (w.heap.size, 27, [.int .i64 0, .bool false, .int .i64 0, .int .i64 0, .int .i64 0, .int .i64 0, .slice rqa 0 rqk, .slice none 0 0, .int .i64 0])] [.bs (.slice rqa 0 rqk) [], .bs (.slice none 0 0) []] _) := Lib.hid ((E4.out.set 1 7 (.slice none 0 0) rfl))
  refine wp_loop_rounds 1 ?_
  rw [rounds_succ]
  have b4 := E5.out.bx 1 rfl
  have c4_0 := b4.cell 0 rfl
  have c4_1 := b4.cell 1 rfl
  have c4_2 := b4.cell 2 rfl
  have c4_3 := b4.cell 3 rfl
  have c4_4 := b4.cell 4 rfl
  have c4_5 := b4.cell 5 rfl
  have c4_6 := b4.cell 6 rfl
  have c4_7 := b4.cell 7 rfl
  have c4_8 := b4.cell 8 rfl
  clear b4
  have b5 := E5.out.bx 0 rfl
  have c5_0 := b5.cell 0 rfl
  have c5_1 := b5.cell 1 rfl
  have c5_2 := b5.cell 2 rfl
  have c5_3 := b5.cell 3 rfl
  have c5_4 := b5.cell 4 rfl
  have c5_5 := b5.cell 5 rfl
  have c5_6 := b5.cell 6 rfl
  have c5_7 := b5.cell 7 rfl
  have c5_8 := b5.cell 8 rfl
  have f5_0 := b5.frozen 0
  have f5_1 := b5.frozen 1
  have f5_2 := b5.frozen 2
  have f5_3 := b5.frozen 3
  have f5_4 := b5.frozen 4
  have f5_5 := b5.frozen 5
  have f5_6 := b5.frozen 6
  have f5_7 := b5.frozen 7
  have f5_8 := b5.frozen 8
  clear b5
  go_wp2
  have E6 : Hid (Env D w [(w.heap.size + 1, 27, [.int .i64 0, .bool false, .int .i64 0, .int .i64 0, .int .i64 0, .int .i64 0, .slice rqa 0 rqk, .slice none 0 0, .int .i64 0]), (w.heap.size, 27, [.int .i64 0, .bool false, .int .i64 0, .int .i64 0, .int .i64 0, .int .i64 0, .slice rqa 0 rqk, .slice none 0 0, .int .i64 0])] [.bs (.slice rqa 0 rqk) [], .bs (.slice none 0 0) []] _) := Lib.hid ((((((((((E5.out.set 0 0 (.int .i64 0) rfl).set 0 1 (.bool false) rfl).set 0 2 (.int .i64 0) rfl).set 0 3 (.int .i64 0) rfl).set 0 4 (.int .i64 0) rfl).set 0 5 (.int .i64 0) rfl).set 0 6 (.slice rqa 0 rqk) rfl).set 0 7 (.slice none 0 0) rfl).set 0 8 (.int .i64 0) rfl))
  have hfin := E6.out
  have q6 := (hfin.bx 0 rfl).cell 0 rfl
  have q7 := (hfin.bx 0 rfl).cell 1 rfl
  have q8 := (hfin.bx 0 rfl).cell 2 rfl
  have q9 := (hfin.bx 0 rfl).cell 3 rfl
  have q10 := (hfin.bx 0 rfl).cell 4 rfl
  have q11 := (hfin.bx 0 rfl).cell 5 rfl
  have q12 := (hfin.bx 0 rfl).cell 6 rfl
  have q13 := (hfin.bx 0 rfl).cell 7 rfl
  have q14 := (hfin.bx 0 rfl).cell 8 rfl
  exact bodyPost_ret (v := .agg #[.int .i64 0, .bool false, .int .i64 0, .int .i64 0, .int .i64 0, .int .i64 0, .slice rqa 0 rqk, .slice none 0 0, .int .i64 0]) (by simp [results, Try.results54, go_sem, q6, q7, q8, q9, q10, q11, q12, q13, q14]) rfl ⟨⟨_, _, rfl, (Lib.hid (hfin.out 0 rfl))⟩, hfin.bel⟩
theorem insert_0 {g : Nat} {T0 : TypeId} {M : Msg} {ao : Option Addr} {k B : Nat} {w : World} (hB : Box B g T0 [.int .i64 M.fr, .int .i64 M.to_, .int .i64 M.kd, .int .i64 M.nm, .slice ao M.body.length k] w) :
    Calls Try.prog 55 #[.slice none 0 0, .int .i64 0, .slice (some ⟨g, 0, none⟩) 1 1] w fun e w' => (∃ g' cap cs, e = .returned (.slice (some ⟨g', 0, none⟩) 1 cap) ∧ (1 ≤ cap ∧ cap ≤ 9223372036854775807) ∧ Box w.heap.size g' 24 cs w' ∧ cs.take 5 = [.int .i64 M.fr, .int .i64 M.to_, .int .i64 M.kd, .int .i64 M.nm, .slice ao M.body.length k]) ∧ Below w.heap.size w w' := by
  obtain ⟨i0, hi0⟩ : ∃ i0, Try.prog.info? 24 = some i0 := by
    have := Try.infoM
    cases hh : Try.prog.info? 24 with
    | none => rw [hh] at this; simp at this
    | some i => exact ⟨i, rfl⟩
  have hi1 := Try.infoM
  rw [hi0] at hi1
  simp only [Option.map_some, Option.some.injEq, Prod.mk.injEq] at hi1
  obtain ⟨z0, z1, z2⟩ := hi1
  have HI := Lib.hid hi0
  have Z0 := Lib.hid z0; have Z1 := Lib.hid z1; have Z2 := Lib.hid z2
  have HB := Lib.hid hB
  clear hi0 z0 z1 z2 hB
  go_enter Try.func55, Try.ntmps55
  go_wp2_with (at_builtin; refine wpList_append_own _ rfl _ _ 25 rfl w.heap.size 24 i0 mzero 5 56 Try.underlying25 HI.out Z0.out Z1.out Z2.out rfl (by omega) _ _ _ rfl (World.ownsRow_nil w _ _ _) ⟨g, 0, none⟩ 1 1 [.int .i64 M.fr, .int .i64 M.to_, .int .i64 M.kd, .int .i64 M.nm, .slice ao M.body.length k] rfl ?qc1 ?qc2 ?qc3 ?qc4 ?qc5 ?qc6 ?qc7)
  case qc1 => rfl
  case qc2 =>
    intro j u hj
    rw [Addr.add_lit]
    simpa using HB.out.cell j hj
  case qc3 =>
    intro u hu
    simp only [List.mem_cons, List.mem_nil_iff, or_false] at hu
    rcases hu with rfl | rfl | rfl | rfl | rfl <;> rfl
  case qc4 => unfold maxLen; omega
  case qc5 => omega
  case qc6 => exact Nat.le_refl _
  intro v' w1 hown hgrow hnil
  rcases hown.2 with ⟨_, hn⟩ | ⟨g', cap, cur, rfl, hbg, hg, hn, hm, hs, ht⟩
  · omega
  have HG := Lib.hid hbg; have Hg := Lib.hid hg; have Hn := Lib.hid hn; have Hm := Lib.hid hm; have Ht := Lib.hid ht; have Hgr := Lib.hid hgrow
  clear hbg hg hn hm hs ht hgrow hnil hown
  go_wp2
  go_ret
  refine ⟨⟨g', cap, cur.toList, rfl, ⟨Hn.out, by have := Hm.out; unfold maxLen at this; omega⟩, ⟨HG.out, by rw [Array.toArray_toList]; exact Hg.out⟩, Ht.out⟩, (Below.refl _ w).grown Hgr.out (Nat.le_refl _) (by intro k hk; simp [Value.ownBlock] at hk)⟩

set_option maxRecDepth 100000 in
set_option maxHeartbeats 1000000 in
theorem Done_0 {D : Nat → Prop} (fr to_ kd nm : Int) (body : List Nat) {xa : Option Addr} {xk : Nat} (fr2 to2 kd2 nm2 : Int) (body2 : List Nat) {ya : Option Addr} {yk : Nat} {w : World} (hx : Fct.at w D (.bs (.slice xa body.length xk) body)) (hy : Fct.at w D (.bs (.slice ya body2.length yk) body2)) (hq0 : msgOk ⟨fr, to_, kd, nm, body⟩ = true) (ha0 : msgOk ⟨fr2, to2, kd2, nm2, body2⟩ = true) :
    Calls Try.prog 17 #[.agg #[.int .i64 0, .bool false, .int .i64 0, .int .i64 0, .int .i64 0, .int .i64 0, .slice none 0 0, .slice none 0 0, .int .i64 0], .agg #[.int .i64 fr, .int .i64 to_, .int .i64 kd, .int .i64 nm, .slice xa body.length xk], .agg #[.int .i64 fr2, .int .i64 to2, .int .i64 kd2, .int .i64 nm2, .slice ya body2.length yk]] w fun e w' => RetSE (fun b => D b ∨ w.heap.size ≤ b) ⟨0, false, M0, [⟨to_, fr, kd2, nm, body2⟩], 0⟩ 0 e w' ∧ Below w.heap.size w w' := by
  have E0 := Lib.hid (((Env.start D w).arg (.bs (.slice xa body.length xk) body) hx).arg (.bs (.slice ya body2.length yk) body2) hy)
  clear hx hy
  go_enter Try.func17, Try.ntmps17
  have hq := Lib.hid hq0
  clear hq0
  have ha := Lib.hid ha0
  clear ha0
  have hl2 := Lib.hid (msgOk.len ha.out)
  go_wp2_with fail
  have E1 := Lib.hid (((((E0.out.push 27 [.int .i64 0, .bool false, .int .i64 0, .int .i64 0, .int .i64 0, .int .i64 0, .slice none 0 0, .slice none 0 0, .int .i64 0] (w.heap.size) (by simp)).push 24 [.int .i64 fr, .int .i64 to_, .int .i64 kd, .int .i64 nm, .slice xa body.length xk] (w.heap.size + 1) (by simp)).push 24 [.int .i64 fr2, .int .i64 to2, .int .i64 kd2, .int .i64 nm2, .slice ya body2.length yk] (w.heap.size + 1 + 1) (by simp)).push 27 [.int .i64 0, .bool false, .int .i64 0, .int .i64 0, .int .i64 0, .int .i64 0, .slice none 0 0, .slice none 0 0, .int .i64 0] (w.heap.size + 1 + 1 + 1) (by simp)))
  refine (Valid_t (S := S0) S0.ok (Bs.nil _ _ : Fct.at _ D (.bs (.slice none 0 0) [])) (Ms.nil _ _ : Fct.at _ D (.ms (.slice none 0 0) []))).mono ?_
  rintro e w1 ⟨rfl, hb⟩
  have E2 := Lib.hid (E1.out.below hb)
  clear E0 E1 hb
  have b1 := E2.out.bx 2 rfl
  have c1_0 := b1.cell 0 rfl
  have c1_1 := b1.cell 1 rfl
  have c1_2 := b1.cell 2 rfl
  have c1_3 := b1.cell 3 rfl
  have c1_4 := b1.cell 4 rfl
  clear b1
  go_wp2_with fail
  refine (message_v ⟨fr, to_, kd, nm, body⟩ hq.out _ _ _).mono ?_
  rintro e w2 ⟨rfl, hb⟩
  have E3 := Lib.hid (E2.out.below hb)
  clear c1_0 c1_1 c1_2 c1_3 c1_4 E2 hb
  have b2 := E3.out.bx 1 rfl
  have c2_0 := b2.cell 0 rfl
  have c2_1 := b2.cell 1 rfl
  have c2_2 := b2.cell 2 rfl
  have c2_3 := b2.cell 3 rfl
  have c2_4 := b2.cell 4 rfl
  clear b2
  go_wp2_with fail
  refine (message_v ⟨fr2, to2, kd2, nm2, body2⟩ ha.out _ _ _).mono ?_
  rintro e w3 ⟨rfl, hb⟩
  have E4 := Lib.hid (E3.out.below hb)
  clear c2_0 c2_1 c2_2 c2_3 c2_4 E3 hb
  have b3 := E4.out.bx 3 rfl
  have c3_0 := b3.cell 0 rfl
  have c3_1 := b3.cell 1 rfl
  have c3_2 := b3.cell 2 rfl
  have c3_3 := b3.cell 3 rfl
  have c3_4 := b3.cell 4 rfl
  have c3_5 := b3.cell 5 rfl
  have c3_6 := b3.cell 6 rfl
  have c3_7 := b3.cell 7 rfl
  have c3_8 := b3.cell 8 rfl
  clear b3
  have b4 := E4.out.bx 2 rfl
  have c4_0 := b4.cell 0 rfl
  clear b4
  go_wp2_with fail
  refine (find_nil0 (D := D) fr).mono ?_
  rintro e w4 ⟨rfl, hb⟩
  have E5 := Lib.hid (E4.out.below hb)
  clear c3_0 c3_1 c3_2 c3_3 c3_4 c3_5 c3_6 c3_7 c3_8 c4_0 E4 hb
  go_wp2_with fail
  have E6 := Lib.hid E5.out.drew
  clear E5
  refine wp_region_held_drew (S := fun w' => True) (by kernel_rfl) (trivial) (fun hHeld => ?_)
  generalize w4.drew = w5 at *
  refine takeW (i := 0) (some 34) (v := ?_) rfl rfl (by kernel_rfl) (by kernel_rfl) (by kernel_rfl) (fun _ _ _ h => h) (by rfl) (by assumption) ?_ ?_
  rotate_left
  · (intro wS hSw; (try dsimp only at hSw); go_simp; try with_reducible rfl)
  try simp only [Act.put, List.setIfInBounds_toArray, List.set_cons_zero, List.set_cons_succ]
  refine takeW (i := 1) (some 35) (v := ?_) rfl rfl (by kernel_rfl) (by kernel_rfl) (by kernel_rfl) (fun _ _ _ h => h) (by rfl) (by assumption) ?_ ?_
  rotate_left
  · (intro wS hSw; (try dsimp only at hSw); go_simp; try with_reducible rfl)
  try simp only [Act.put, List.setIfInBounds_toArray, List.set_cons_zero, List.set_cons_succ]
  refine takeU (i := 2) (some 36) rfl rfl (by kernel_rfl) (by kernel_rfl) (by kernel_rfl) (fun _ _ _ h => h) (by rfl) (by assumption) ?_
  try simp only [Act.put, List.setIfInBounds_toArray, List.set_cons_zero, List.set_cons_succ]
  refine takeU (i := 3) (some 37) rfl rfl (by kernel_rfl) (by kernel_rfl) (by kernel_rfl) (fun _ _ _ h => h) (by rfl) (by assumption) ?_
  try simp only [Act.put, List.setIfInBounds_toArray, List.set_cons_zero, List.set_cons_succ]
  refine takeU (i := 4) (some 38) rfl rfl (by kernel_rfl) (by kernel_rfl) (by kernel_rfl) (fun _ _ _ h => h) (by rfl) (by assumption) ?_
  try simp only [Act.put, List.setIfInBounds_toArray, List.set_cons_zero, List.set_cons_succ]
  refine takeU (i := 5) (some 39) rfl rfl (by kernel_rfl) (by kernel_rfl) (by kernel_rfl) (fun _ _ _ h => h) (by rfl) (by assumption) ?_
  try simp only [Act.put, List.setIfInBounds_toArray, List.set_cons_zero, List.set_cons_succ]
  refine takeU (i := 6) (some 40) rfl rfl (by kernel_rfl) (by kernel_rfl) (by kernel_rfl) (fun _ _ _ h => h) (by rfl) (by assumption) ?_
  try simp only [Act.put, List.setIfInBounds_toArray, List.set_cons_zero, List.set_cons_succ]
  refine takeU (i := 7) (some 41) rfl rfl (by kernel_rfl) (by kernel_rfl) (by kernel_rfl) (fun _ _ _ h => h) (by rfl) (by assumption) ?_
  try simp only [Act.put, List.setIfInBounds_toArray, List.set_cons_zero, List.set_cons_succ]
  refine takeU (i := 8) (some 42) rfl rfl (by kernel_rfl) (by kernel_rfl) (by kernel_rfl) (fun _ _ _ h => h) (by rfl) (by assumption) ?_
  try simp only [Act.put, List.setIfInBounds_toArray, List.set_cons_zero, List.set_cons_succ]
  refine takeU (i := 9) (some 43) rfl rfl (by kernel_rfl) (by kernel_rfl) (by kernel_rfl) (fun _ _ _ h => h) (by rfl) (by assumption) ?_
  try simp only [Act.put, List.setIfInBounds_toArray, List.set_cons_zero, List.set_cons_succ]
  refine takeU (i := 10) (some 44) rfl rfl (by kernel_rfl) (by kernel_rfl) (by kernel_rfl) (fun _ _ _ h => h) (by rfl) (by assumption) ?_
  try simp only [Act.put, List.setIfInBounds_toArray, List.set_cons_zero, List.set_cons_succ]
  refine takeW (i := 11) (some 45) (v := ?_) rfl rfl (by kernel_rfl) (by kernel_rfl) (by kernel_rfl) (fun _ _ _ h => h) (by rfl) (by assumption) ?_ ?_
  rotate_left
  · (intro wS hSw; (try dsimp only at hSw); go_simp; try with_reducible rfl)
  try simp only [Act.put, List.setIfInBounds_toArray, List.set_cons_zero, List.set_cons_succ]
  refine takeW (i := 12) (some 33) (v := ?_) rfl rfl (by kernel_rfl) (by kernel_rfl) (by kernel_rfl) (fun _ _ _ h => h) (by rfl) (by assumption) ?_ ?_
  rotate_left
  · (intro wS hSw; (try dsimp only at hSw); go_simp; try with_reducible rfl)
  try simp only [Act.put, List.setIfInBounds_toArray, List.set_cons_zero, List.set_cons_succ]
  refine wpAnyH_done (by kernel_rfl) ?_ _
  go_wp2_with fail
  have E7 := Lib.hid E6.out.drew
  clear E6
  refine wp_region_held_drew (S := fun w' => True) (by kernel_rfl) (trivial) (fun hHeld => ?_)
  generalize w5.drew = w6 at *
  refine takeW (i := 0) (some 48) (v := ?_) rfl rfl (by kernel_rfl) (by kernel_rfl) (by kernel_rfl) (fun _ _ _ h => h) (by rfl) (by assumption) ?_ ?_
  rotate_left
  · (intro wS hSw; (try dsimp only at hSw); go_simp; try with_reducible rfl)
  try simp only [Act.put, List.setIfInBounds_toArray, List.set_cons_zero, List.set_cons_succ]
  refine takeW (i := 1) (some 49) (v := ?_) rfl rfl (by kernel_rfl) (by kernel_rfl) (by kernel_rfl) (fun _ _ _ h => h) (by rfl) (by assumption) ?_ ?_
  rotate_left
  · (intro wS hSw; (try dsimp only at hSw); go_simp; try with_reducible rfl)
  try simp only [Act.put, List.setIfInBounds_toArray, List.set_cons_zero, List.set_cons_succ]
  refine takeU (i := 2) (some 50) rfl rfl (by kernel_rfl) (by kernel_rfl) (by kernel_rfl) (fun _ _ _ h => h) (by rfl) (by assumption) ?_
  try simp only [Act.put, List.setIfInBounds_toArray, List.set_cons_zero, List.set_cons_succ]
  refine takeU (i := 3) (some 51) rfl rfl (by kernel_rfl) (by kernel_rfl) (by kernel_rfl) (fun _ _ _ h => h) (by rfl) (by assumption) ?_
  try simp only [Act.put, List.setIfInBounds_toArray, List.set_cons_zero, List.set_cons_succ]
  refine takeU (i := 4) (some 52) rfl rfl (by kernel_rfl) (by kernel_rfl) (by kernel_rfl) (fun _ _ _ h => h) (by rfl) (by assumption) ?_
  try simp only [Act.put, List.setIfInBounds_toArray, List.set_cons_zero, List.set_cons_succ]
  refine takeU (i := 5) (some 53) rfl rfl (by kernel_rfl) (by kernel_rfl) (by kernel_rfl) (fun _ _ _ h => h) (by rfl) (by assumption) ?_
  try simp only [Act.put, List.setIfInBounds_toArray, List.set_cons_zero, List.set_cons_succ]
  refine takeU (i := 6) (some 54) rfl rfl (by kernel_rfl) (by kernel_rfl) (by kernel_rfl) (fun _ _ _ h => h) (by rfl) (by assumption) ?_
  try simp only [Act.put, List.setIfInBounds_toArray, List.set_cons_zero, List.set_cons_succ]
  refine takeU (i := 7) (some 55) rfl rfl (by kernel_rfl) (by kernel_rfl) (by kernel_rfl) (fun _ _ _ h => h) (by rfl) (by assumption) ?_
  try simp only [Act.put, List.setIfInBounds_toArray, List.set_cons_zero, List.set_cons_succ]
  refine takeU (i := 8) (some 56) rfl rfl (by kernel_rfl) (by kernel_rfl) (by kernel_rfl) (fun _ _ _ h => h) (by rfl) (by assumption) ?_
  try simp only [Act.put, List.setIfInBounds_toArray, List.set_cons_zero, List.set_cons_succ]
  refine takeU (i := 9) (some 57) rfl rfl (by kernel_rfl) (by kernel_rfl) (by kernel_rfl) (fun _ _ _ h => h) (by rfl) (by assumption) ?_
  try simp only [Act.put, List.setIfInBounds_toArray, List.set_cons_zero, List.set_cons_succ]
  refine takeU (i := 10) (some 58) rfl rfl (by kernel_rfl) (by kernel_rfl) (by kernel_rfl) (fun _ _ _ h => h) (by rfl) (by assumption) ?_
  try simp only [Act.put, List.setIfInBounds_toArray, List.set_cons_zero, List.set_cons_succ]
  refine takeW (i := 11) (some 59) (v := ?_) rfl rfl (by kernel_rfl) (by kernel_rfl) (by kernel_rfl) (fun _ _ _ h => h) (by rfl) (by assumption) ?_ ?_
  rotate_left
  · (intro wS hSw; (try dsimp only at hSw); go_simp; try with_reducible rfl)
  try simp only [Act.put, List.setIfInBounds_toArray, List.set_cons_zero, List.set_cons_succ]
  refine takeW (i := 12) (some 47) (v := ?_) rfl rfl (by kernel_rfl) (by kernel_rfl) (by kernel_rfl) (fun _ _ _ h => h) (by rfl) (by assumption) ?_ ?_
  rotate_left
  · (intro wS hSw; (try dsimp only at hSw); go_simp; try with_reducible rfl)
  try simp only [Act.put, List.setIfInBounds_toArray, List.set_cons_zero, List.set_cons_succ]
  refine wpAnyH_done (by kernel_rfl) ?_ _
  have b5 := E7.out.bx 3 rfl
  have c5_7 := b5.cell 7 rfl
  clear b5
  have b6 := E7.out.bx 3 rfl
  have c6_0 := b6.cell 0 rfl
  have c6_1 := b6.cell 1 rfl
  have c6_2 := b6.cell 2 rfl
  have c6_3 := b6.cell 3 rfl
  have c6_4 := b6.cell 4 rfl
  have c6_5 := b6.cell 5 rfl
  have c6_6 := b6.cell 6 rfl
  have c6_8 := b6.cell 8 rfl
  clear b6
  go_wp2_with fail
  refine (copyAll_0 (D := (DF D w.heap.size [(w.heap.size + 1 + 1 + 1, 27, [.int .i64 0, .bool false, .int .i64 0, .int .i64 0, .int .i64 0, .int .i64 0, .slice none 0 0, .slice none 0 0, .int .i64 0]), (w.heap.size + 1 + 1, 24, [.int .i64 fr2, .int .i64 to2, .int .i64 kd2, .int .i64 nm2, .slice ya body2.length yk]), (w.heap.size + 1, 24, [.int .i64 fr, .int .i64 to_, .int .i64 kd, .int .i64 nm, .slice xa body.length xk]), (w.heap.size, 27, [.int .i64 0, .bool false, .int .i64 0, .int .i64 0, .int .i64 0, .int .i64 0, .slice none 0 0, .slice none 0 0, .int .i64 0])]))).mono ?_
  rintro e w7 ⟨⟨rqa, rqk, rfl, hrq⟩, hb⟩
  have E8 := Lib.hid (E7.out.got (E7.out.below hb) (.bs (.slice rqa 0 rqk) []) hrq.out)
  clear c5_7 c6_0 c6_1 c6_2 c6_3 c6_4 c6_5 c6_6 c6_8 E7 hb hrq
  have E9 := Lib.hid ((E8.out.push 27 [.int .i64 0, .bool false, .int .i64 0, .int .i64 0, .int .i64 0, .int .i64 0, .slice rqa 0 rqk, .slice none 0 0, .int .i64 0] (w7.heap.size) (by simp)))
  have b7 := E9.out.bx 2 rfl
  have c7_0 := b7.cell 0 rfl
  have c7_1 := b7.cell 1 rfl
  have c7_2 := b7.cell 2 rfl
  have c7_3 := b7.cell 3 rfl
  have c7_4 := b7.cell 4 rfl
  clear b7
  go_wp2_with fail
  refine (copyOf_c ⟨fr2, to2, kd2, nm2, body2⟩ (E9.out.fc 1 rfl) hl2.out).mono ?_
  rintro e w8 ⟨⟨aa, ak, rfl, haa⟩, hb⟩
  have E10 := Lib.hid (E9.out.got (E9.out.below hb) (.bs (.slice aa body2.length ak) body2) haa.out)
  clear c7_0 c7_1 c7_2 c7_3 c7_4 E8 E9 hb haa
  go_wp2_with fail
  have E11 := Lib.hid ((E10.out.push 24 [.int .i64 fr2, .int .i64 to2, .int .i64 kd2, .int .i64 nm2, .slice aa body2.length ak] (w8.heap.size) (by simp)))
  clear E10
  generalize w8.alloc (.cells #[.int .i64 fr2, .int .i64 to2, .int .i64 kd2, .int .i64 nm2, .slice aa body2.length ak] 24) = w9 at *
  have E12 := Lib.hid E11.out.drew
  clear E11
  refine wp_region_held_drew (S := fun w' => w'.cell? ⟨w.heap.size + 1, 1, none⟩ = some (.int .i64 to_) ∧ w'.cell? ⟨w.heap.size + 1, 0, none⟩ = some (.int .i64 fr) ∧ w'.cell? ⟨w.heap.size + 1, 3, none⟩ = some (.int .i64 nm)) (by kernel_rfl) (⟨((E12.out.bx 4 rfl).cell 1 rfl), ((E12.out.bx 4 rfl).cell 0 rfl), ((E12.out.bx 4 rfl).cell 3 rfl)⟩) (fun hHeld => ?_)
  generalize w9.drew = w10 at *
  refine takeW (i := 0) (some 75) (v := ?_) rfl rfl (by kernel_rfl) (by kernel_rfl) (by kernel_rfl) (fun _ _ _ h => h) (by rfl) (by assumption) ?_ ?_
  rotate_left
  · (intro wS hSw; (try dsimp only at hSw); go_simp; try with_reducible rfl)
  try simp only [Act.put, List.setIfInBounds_toArray, List.set_cons_zero, List.set_cons_succ]
  refine takeW (i := 1) (some 76) (v := ?_) rfl rfl (by kernel_rfl) (by kernel_rfl) (by kernel_rfl) (fun _ _ _ h => h) (by rfl) (by assumption) ?_ ?_
  rotate_left
  · (intro wS hSw; (try dsimp only at hSw); go_simp; try with_reducible rfl)
  try simp only [Act.put, List.setIfInBounds_toArray, List.set_cons_zero, List.set_cons_succ]
  refine takeW (i := 2) (some 77) (v := ?_) rfl rfl (by kernel_rfl) (by kernel_rfl) (by kernel_rfl) (fun _ _ _ h => h) (by rfl) (by assumption) ?_ ?_
  rotate_left
  · (intro wS hSw; (try dsimp only at hSw); go_simp; try with_reducible rfl)
  try simp only [Act.put, List.setIfInBounds_toArray, List.set_cons_zero, List.set_cons_succ]
  refine takeW (i := 3) (some 78) (v := ?_) rfl rfl (by kernel_rfl) (by kernel_rfl) (by kernel_rfl) (fun _ _ _ h => h) (by rfl) (by assumption) ?_ ?_
  rotate_left
  · (intro wS hSw; (try dsimp only at hSw); go_simp; try with_reducible rfl)
  try simp only [Act.put, List.setIfInBounds_toArray, List.set_cons_zero, List.set_cons_succ]
  refine takeW (i := 4) (some 79) (v := ?_) rfl rfl (by kernel_rfl) (by kernel_rfl) (by kernel_rfl) (fun _ _ _ h => h) (by rfl) (by assumption) ?_ ?_
  rotate_left
  · (intro wS hSw; (try dsimp only at hSw); go_simp; try with_reducible rfl)
  try simp only [Act.put, List.setIfInBounds_toArray, List.set_cons_zero, List.set_cons_succ]
  refine takeW (i := 5) (some 80) (v := ?_) rfl rfl (by kernel_rfl) (by kernel_rfl) (by kernel_rfl) (fun _ _ _ h => h) (by rfl) (by assumption) ?_ ?_
  rotate_left
  · (intro wS hSw; (try dsimp only at hSw); go_simp; try with_reducible rfl)
  try simp only [Act.put, List.setIfInBounds_toArray, List.set_cons_zero, List.set_cons_succ]
  refine takeW (i := 6) (some 81) (v := ?_) rfl rfl (by kernel_rfl) (by kernel_rfl) (by kernel_rfl) (fun _ _ _ h => h) (by rfl) (by assumption) ?_ ?_
  rotate_left
  · (intro wS hSw; (try dsimp only at hSw); go_simp; try with_reducible rfl)
  try simp only [Act.put, List.setIfInBounds_toArray, List.set_cons_zero, List.set_cons_succ]
  have b8 := E12.out.bx 0 rfl
  have c8_0 := b8.cell 0 rfl
  have f8_0 := b8.frozen 0
  clear b8
  refine wpAnyH_next (i := 7) (by kernel_rfl) rfl (fun KK hKK => ?_)
  go_simp
  have E13 : Hid (Env D w [(w8.heap.size, 24, [.int .i64 to_, .int .i64 to2, .int .i64 kd2, .int .i64 nm2, .slice aa body2.length ak]), (w7.heap.size, 27, [.int .i64 0, .bool false, .int .i64 0, .int .i64 0, .int .i64 0, .int .i64 0, .slice rqa 0 rqk, .slice none 0 0, .int .i64 0]), (w.heap.size + 1 + 1 + 1, 27, [.int .i64 0, .bool false, .int .i64 0, .int .i64 0, .int .i64 0, .int .i64 0, .slice none 0 0, .slice none 0 0, .int .i64 0]), (w.heap.size + 1 + 1, 24, [.int .i64 fr2, .int .i64 to2, .int .i64 kd2, .int .i64 nm2, .slice ya body2.length yk]), (w.heap.size + 1, 24, [.int .i64 fr, .int .i64 to_, .int .i64 kd, .int .i64 nm, .slice xa body.length xk]), (w.heap.size, 27, [.int .i64 0, .bool false, .int .i64 0, .int .i64 0, .int .i64 0, .int .i64 0, .slice none 0 0, .slice none 0 0, .int .i64 0])] [.bs (.slice aa body2.length ak) body2, .bs (.slice rqa 0 rqk) [], .bs (.slice ya body2.length yk) body2, .bs (.slice xa body.length xk) body] _) := Lib.hid ((E12.out.set 0 0 (.int .i64 to_) rfl))
  refine hKK.out _ _ (⟨((E13.out.bx 4 rfl).cell 1 rfl), ((E13.out.bx 4 rfl).cell 0 rfl), ((E13.out.bx 4 rfl).cell 3 rfl)⟩) ?_
  clear hKK KK hHeld
  have hHeld : (fun w' : World => w'.cell? ⟨w.heap.size + 1, 1, none⟩ = some (.int .i64 to_) ∧ w'.cell? ⟨w.heap.size + 1, 0, none⟩ = some (.int .i64 fr) ∧ w'.cell? ⟨w.heap.size + 1, 3, none⟩ = some (.int .i64 nm)) (w10.setCell ⟨w8.heap.size, 0, none⟩ (.int .i64 to_)) := ⟨((E13.out.bx 4 rfl).cell 1 rfl), ((E13.out.bx 4 rfl).cell 0 rfl), ((E13.out.bx 4 rfl).cell 3 rfl)⟩
  refine takeW (i := 8) (some 82) (v := ?_) rfl rfl (by kernel_rfl) (by kernel_rfl) (by kernel_rfl) (fun _ _ _ h => h) (by rfl) (by assumption) ?_ ?_
  rotate_left
  · (intro wS hSw; (try dsimp only at hSw); go_simp; try with_reducible rfl)
  try simp only [Act.put, List.setIfInBounds_toArray, List.set_cons_zero, List.set_cons_succ]
  have b9 := E13.out.bx 0 rfl
  have c9_1 := b9.cell 1 rfl
  have f9_1 := b9.frozen 1
  clear b9
  refine wpAnyH_next (i := 9) (by kernel_rfl) rfl (fun KK hKK => ?_)
  go_simp
  have E14 : Hid (Env D w [(w8.heap.size, 24, [.int .i64 to_, .int .i64 fr, .int .i64 kd2, .int .i64 nm2, .slice aa body2.length ak]), (w7.heap.size, 27, [.int .i64 0, .bool false, .int .i64 0, .int .i64 0, .int .i64 0, .int .i64 0, .slice rqa 0 rqk, .slice none 0 0, .int .i64 0]), (w.heap.size + 1 + 1 + 1, 27, [.int .i64 0, .bool false, .int .i64 0, .int .i64 0, .int .i64 0, .int .i64 0, .slice none 0 0, .slice none 0 0, .int .i64 0]), (w.heap.size + 1 + 1, 24, [.int .i64 fr2, .int .i64 to2, .int .i64 kd2, .int .i64 nm2, .slice ya body2.length yk]), (w.heap.size + 1, 24, [.int .i64 fr, .int .i64 to_, .int .i64 kd, .int .i64 nm, .slice xa body.length xk]), (w.heap.size, 27, [.int .i64 0, .bool false, .int .i64 0, .int .i64 0, .int .i64 0, .int .i64 0, .slice none 0 0, .slice none 0 0, .int .i64 0])] [.bs (.slice aa body2.length ak) body2, .bs (.slice rqa 0 rqk) [], .bs (.slice ya body2.length yk) body2, .bs (.slice xa body.length xk) body] _) := Lib.hid ((E13.out.set 0 1 (.int .i64 fr) rfl))
  refine hKK.out _ _ (⟨((E14.out.bx 4 rfl).cell 1 rfl), ((E14.out.bx 4 rfl).cell 0 rfl), ((E14.out.bx 4 rfl).cell 3 rfl)⟩) ?_
  clear hKK KK hHeld
  have hHeld : (fun w' : World => w'.cell? ⟨w.heap.size + 1, 1, none⟩ = some (.int .i64 to_) ∧ w'.cell? ⟨w.heap.size + 1, 0, none⟩ = some (.int .i64 fr) ∧ w'.cell? ⟨w.heap.size + 1, 3, none⟩ = some (.int .i64 nm)) ((w10.setCell ⟨w8.heap.size, 0, none⟩ (.int .i64 to_)).setCell ⟨w8.heap.size, 1, none⟩ (.int .i64 fr)) := ⟨((E14.out.bx 4 rfl).cell 1 rfl), ((E14.out.bx 4 rfl).cell 0 rfl), ((E14.out.bx 4 rfl).cell 3 rfl)⟩
  refine takeW (i := 10) (some 83) (v := ?_) rfl rfl (by kernel_rfl) (by kernel_rfl) (by kernel_rfl) (fun _ _ _ h => h) (by rfl) (by assumption) ?_ ?_
  rotate_left
  · (intro wS hSw; (try dsimp only at hSw); go_simp; try with_reducible rfl)
  try simp only [Act.put, List.setIfInBounds_toArray, List.set_cons_zero, List.set_cons_succ]
  have b10 := E14.out.bx 0 rfl
  have c10_3 := b10.cell 3 rfl
  have f10_3 := b10.frozen 3
  clear b10
  refine wpAnyH_next (i := 11) (by kernel_rfl) rfl (fun KK hKK => ?_)
  go_simp
  have E15 : Hid (Env D w [(w8.heap.size, 24, [.int .i64 to_, .int .i64 fr, .int .i64 kd2, .int .i64 nm, .slice aa body2.length ak]), (w7.heap.size, 27, [.int .i64 0, .bool false, .int .i64 0, .int .i64 0, .int .i64 0, .int .i64 0, .slice rqa 0 rqk, .slice none 0 0, .int .i64 0]), (w.heap.size + 1 + 1 + 1, 27, [.int .i64 0, .bool false, .int .i64 0, .int .i64 0, .int .i64 0, .int .i64 0, .slice none 0 0, .slice none 0 0, .int .i64 0]), (w.heap.size + 1 + 1, 24, [.int .i64 fr2, .int .i64 to2, .int .i64 kd2, .int .i64 nm2, .slice ya body2.length yk]), (w.heap.size + 1, 24, [.int .i64 fr, .int .i64 to_, .int .i64 kd, .int .i64 nm, .slice xa body.length xk]), (w.heap.size, 27, [.int .i64 0, .bool false, .int .i64 0, .int .i64 0, .int .i64 0, .int .i64 0, .slice none 0 0, .slice none 0 0, .int .i64 0])] [.bs (.slice aa body2.length ak) body2, .bs (.slice rqa 0 rqk) [], .bs (.slice ya body2.length yk) body2, .bs (.slice xa body.length xk) body] _) := Lib.hid ((E14.out.set 0 3 (.int .i64 nm) rfl))
  refine hKK.out _ _ (⟨((E15.out.bx 4 rfl).cell 1 rfl), ((E15.out.bx 4 rfl).cell 0 rfl), ((E15.out.bx 4 rfl).cell 3 rfl)⟩) ?_
  clear hKK KK hHeld
  have hHeld : (fun w' : World => w'.cell? ⟨w.heap.size + 1, 1, none⟩ = some (.int .i64 to_) ∧ w'.cell? ⟨w.heap.size + 1, 0, none⟩ = some (.int .i64 fr) ∧ w'.cell? ⟨w.heap.size + 1, 3, none⟩ = some (.int .i64 nm)) (((w10.setCell ⟨w8.heap.size, 0, none⟩ (.int .i64 to_)).setCell ⟨w8.heap.size, 1, none⟩ (.int .i64 fr)).setCell ⟨w8.heap.size, 3, none⟩ (.int .i64 nm)) := ⟨((E15.out.bx 4 rfl).cell 1 rfl), ((E15.out.bx 4 rfl).cell 0 rfl), ((E15.out.bx 4 rfl).cell 3 rfl)⟩
  refine wpAnyH_done (by kernel_rfl) ?_ _
  have b11 := E15.out.bx 1 rfl
  have c11_7 := b11.cell 7 rfl
  clear b11
  have b12 := E15.out.bx 0 rfl
  have c12_0 := b12.cell 0 rfl
  have c12_1 := b12.cell 1 rfl
  have c12_2 := b12.cell 2 rfl
  have c12_3 := b12.cell 3 rfl
  have c12_4 := b12.cell 4 rfl
  clear b12
  go_wp2_with fail
  have E16 := Lib.hid ((E15.out.push 24 [.int .i64 to_, .int .i64 fr, .int .i64 kd2, .int .i64 nm, .slice aa body2.length ak] (w10.heap.size) (by simp)))
  refine (insert_0 (M := ⟨to_, fr, kd2, nm, body2⟩) (E16.out.bx 0 rfl)).mono ?_
  rintro e w11 ⟨⟨lsg, lsc, lss, rfl, lsh, lsB, lsT⟩, hb⟩
  have E17 := Lib.hid (E16.out.gotBox hb lsB)
  clear c8_0 f8_0 c9_1 f9_1 c10_3 f10_3 c11_7 c12_0 c12_1 c12_2 c12_3 c12_4 E12 E13 E14 E15 E16 hb lsB
  have HC := Lib.hid lsh; have HT := Lib.hid lsT; clear lsh lsT
  have b13 := E17.out.bx 3 rfl
  have c13_7 := b13.cell 7 rfl
  have f13_7 := b13.frozen 7
  clear b13
  have E18 : Hid (Env D w [(lsg, 24, lss), (w10.heap.size, 24, [.int .i64 to_, .int .i64 fr, .int .i64 kd2, .int .i64 nm, .slice aa body2.length ak]), (w8.heap.size, 24, [.int .i64 to_, .int .i64 fr, .int .i64 kd2, .int .i64 nm, .slice aa body2.length ak]), (w7.heap.size, 27, [.int .i64 0, .bool false, .int .i64 0, .int .i64 0, .int .i64 0, .int .i64 0, .slice rqa 0 rqk, .slice (some ⟨lsg, 0, none⟩) 1 lsc, .int .i64 0]), (w.heap.size + 1 + 1 + 1, 27, [.int .i64 0, .bool false, .int .i64 0, .int .i64 0, .int .i64 0, .int .i64 0, .slice none 0 0, .slice none 0 0, .int .i64 0]), (w.heap.size + 1 + 1, 24, [.int .i64 fr2, .int .i64 to2, .int .i64 kd2, .int .i64 nm2, .slice ya body2.length yk]), (w.heap.size + 1, 24, [.int .i64 fr, .int .i64 to_, .int .i64 kd, .int .i64 nm, .slice xa body.length xk]), (w.heap.size, 27, [.int .i64 0, .bool false, .int .i64 0, .int .i64 0, .int .i64 0, .int .i64 0, .slice none 0 0, .slice none 0 0, .int .i64 0])] [.bs (.slice aa body2.length ak) body2, .bs (.slice rqa 0 rqk) [], .bs (.slice ya body2.length yk) body2, .bs (.slice xa body.length xk) body] _) := Lib.hid ((E17.out.set 3 7 (.slice (some ⟨lsg, 0, none⟩) 1 lsc) rfl))
  have b14 := E18.out.bx 3 rfl
  have c14_0 := b14.cell 0 rfl
  have c14_1 := b14.cell 1 rfl
  have c14_2 := b14.cell 2 rfl
  have c14_3 := b14.cell 3 rfl
  have c14_4 := b14.cell 4 rfl
  have c14_5 := b14.cell 5 rfl
  have c14_6 := b14.cell 6 rfl
  have c14_7 := b14.cell 7 rfl
  have c14_8 := b14.cell 8 rfl
  clear b14
  have b15 := E18.out.bx 4 rfl
  have c15_0 := b15.cell 0 rfl
  have c15_1 := b15.cell 1 rfl
  have c15_2 := b15.cell 2 rfl
  have c15_3 := b15.cell 3 rfl
  have c15_4 := b15.cell 4 rfl
  have c15_5 := b15.cell 5 rfl
  have c15_6 := b15.cell 6 rfl
  have c15_7 := b15.cell 7 rfl
  have c15_8 := b15.cell 8 rfl
  have f15_0 := b15.frozen 0
  have f15_1 := b15.frozen 1
  have f15_2 := b15.frozen 2
  have f15_3 := b15.frozen 3
  have f15_4 := b15.frozen 4
  have f15_5 := b15.frozen 5
  have f15_6 := b15.frozen 6
  have f15_7 := b15.frozen 7
  have f15_8 := b15.frozen 8
  clear b15
  go_wp2
  have E19 : Hid (Env D w [(lsg, 24, lss), (w10.heap.size, 24, [.int .i64 to_, .int .i64 fr, .int .i64 kd2, .int .i64 nm, .slice aa body2.length ak]), (w8.heap.size, 24, [.int .i64 to_, .int .i64 fr, .int .i64 kd2, .int .i64 nm, .slice aa body2.length ak]), (w7.heap.size, 27, [.int .i64 0, .bool false, .int .i64 0, .int .i64 0, .int .i64 0, .int .i64 0, .slice rqa 0 rqk, .slice (some ⟨lsg, 0, none⟩) 1 lsc, .int .i64 0]), (w.heap.size + 1 + 1 + 1, 27, [.int .i64 0, .bool false, .int .i64 0, .int .i64 0, .int .i64 0, .int .i64 0, .slice rqa 0 rqk, .slice (some ⟨lsg, 0, none⟩) 1 lsc, .int .i64 0]), (w.heap.size + 1 + 1, 24, [.int .i64 fr2, .int .i64 to2, .int .i64 kd2, .int .i64 nm2, .slice ya body2.length yk]), (w.heap.size + 1, 24, [.int .i64 fr, .int .i64 to_, .int .i64 kd, .int .i64 nm, .slice xa body.length xk]), (w.heap.size, 27, [.int .i64 0, .bool false, .int .i64 0, .int .i64 0, .int .i64 0, .int .i64 0, .slice none 0 0, .slice none 0 0, .int .i64 0])] [.bs (.slice aa body2.length ak) body2, .bs (.slice rqa 0 rqk) [], .bs (.slice ya body2.length yk) body2, .bs (.slice xa body.length xk) body] _) := Lib.hid ((((((((((E18.out.set 4 0 (.int .i64 0) rfl).set 4 1 (.bool false) rfl).set 4 2 (.int .i64 0) rfl).set 4 3 (.int .i64 0) rfl).set 4 4 (.int .i64 0) rfl).set 4 5 (.int .i64 0) rfl).set 4 6 (.slice rqa 0 rqk) rfl).set 4 7 (.slice (some ⟨lsg, 0, none⟩) 1 lsc) rfl).set 4 8 (.int .i64 0) rfl))
  have hfin := E19.out
  have q16 := (hfin.bx 4 rfl).cell 0 rfl
  have q17 := (hfin.bx 4 rfl).cell 1 rfl
  have q18 := (hfin.bx 4 rfl).cell 2 rfl
  have q19 := (hfin.bx 4 rfl).cell 3 rfl
  have q20 := (hfin.bx 4 rfl).cell 4 rfl
  have q21 := (hfin.bx 4 rfl).cell 5 rfl
  have q22 := (hfin.bx 4 rfl).cell 6 rfl
  have q23 := (hfin.bx 4 rfl).cell 7 rfl
  have q24 := (hfin.bx 4 rfl).cell 8 rfl
  exact bodyPost_ret (v := .tuple #[.agg #[.int .i64 0, .bool false, .int .i64 0, .int .i64 0, .int .i64 0, .int .i64 0, .slice rqa 0 rqk, .slice (some ⟨lsg, 0, none⟩) 1 lsc, .int .i64 0], .int .i64 0]) (by simp [results, Try.results17, go_sem, q16, q17, q18, q19, q20, q21, q22, q23, q24]) rfl ⟨⟨_, _, _, _, rfl, (Lib.hid (hfin.out 1 rfl)), Lib.hid (Ms.ofBox (L := [⟨to_, fr, kd2, nm, body2⟩]) (hfin.bx 0 rfl) (mc_one HT.out (hfin.fc 0 rfl)) HC.out.1 HC.out.2 (fun _ hd => hd.2) (.inr (hfin.bx 0 rfl).1))⟩, hfin.bel⟩
end Go.Proofs.Ytbcfcdcomboljaa

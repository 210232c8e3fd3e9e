/- session.Done: the place is not there, whatever the list's address. -/
import Derived.Test.YtbcfcdcomboljaaSesP
import Derived.Test.YtbcfcdcomboljaaSesE
namespace Go.Proofs.Ytbcfcdcomboljaa
open Go.RowKit
set_option linter.unusedVariables false
theorem found_nil {c : Int} {i : Nat} {t : Bool} (h : Found [] c i t) : i = 0 ∧ t = false := by
  obtain ⟨h1, _, _, h4⟩ := h
  obtain rfl : i = 0 := by simpa using h1
  cases t
  · exact ⟨rfl, rfl⟩
  · obtain ⟨h, _⟩ := h4.1 rfl; simp at h
set_option maxRecDepth 100000 in
set_option maxHeartbeats 2000000 in
theorem Done_insA {D : Nat → Prop} (nx fr to_ kd nm tr : Int) (wt : Bool) (body : List Nat) (dn : List Msg) {xa : Option Addr} {xk : Nat} {da : Addr} {dj : Nat} (fr2 to2 kd2 nm2 : Int) (body2 : List Nat) {ya : Option Addr} {yk : Nat} (fr3 to3 kd3 nm3 : Int) (body3 : List Nat) {za : Option Addr} {zk : Nat} {w : World} (hx : Fct.at w D (.bs (.slice xa body.length xk) body)) (hy : Fct.at w D (.ms (.slice (some da) dn.length dj) dn)) (hz : Fct.at w D (.bs (.slice ya body2.length yk) body2)) (hv : Fct.at w D (.bs (.slice za body3.length zk) body3)) (hS0 : SesOk ⟨nx, wt, ⟨fr, to_, kd, nm, body⟩, dn, tr⟩) (hq0 : msgOk ⟨fr2, to2, kd2, nm2, body2⟩ = true) (ha0 : msgOk ⟨fr3, to3, kd3, nm3, body3⟩ = true) (hn0 : ∀ k (h : k < dn.length), dn[k].to_ ≠ fr2) (h90 : ¬ dn.length = 1000) :
    Calls Try.prog 17 #[.agg #[.int .i64 nx, .bool wt, .int .i64 fr, .int .i64 to_, .int .i64 kd, .int .i64 nm, .slice xa body.length xk, .slice (some da) dn.length dj, .int .i64 tr], .agg #[.int .i64 fr2, .int .i64 to2, .int .i64 kd2, .int .i64 nm2, .slice ya body2.length yk], .agg #[.int .i64 fr3, .int .i64 to3, .int .i64 kd3, .int .i64 nm3, .slice za body3.length zk]] w fun e w' => (∃ fi, Found dn fr2 fi false ∧ RetSE (fun b => D b ∨ w.heap.size ≤ b) ⟨nx, wt, ⟨fr, to_, kd, nm, body⟩, insL dn fi ⟨to2, fr2, kd3, nm2, body3⟩, tr⟩ 0 e w') ∧ Below w.heap.size w w' := by
  have E0 := Lib.hid (((((Env.start D w).arg (.bs (.slice xa body.length xk) body) hx).arg (.ms (.slice (some da) dn.length dj) dn) hy).arg (.bs (.slice ya body2.length yk) body2) hz).arg (.bs (.slice za body3.length zk) body3) hv)
  clear hx hy hz hv
  go_enter Try.func17, Try.ntmps17
  have hS := Lib.hid hS0
  clear hS0
  have hq := Lib.hid hq0
  clear hq0
  have ha := Lib.hid ha0
  clear ha0
  have hn := Lib.hid hn0
  clear hn0
  have h9 := Lib.hid h90
  clear h90
  have hF := Lib.hid (SesOk.fair hS.out)
  have hA := Lib.hid (asc_of hS.out.2.2.2)
  have a3 : dn.length ≤ 1000 := hS.out.1.2.2
  have hl3 := Lib.hid (msgOk.len ha.out)
  go_wp2_with fail
  have E1 := Lib.hid (((((E0.out.push 27 [.int .i64 nx, .bool wt, .int .i64 fr, .int .i64 to_, .int .i64 kd, .int .i64 nm, .slice xa body.length xk, .slice (some da) dn.length dj, .int .i64 tr] (w.heap.size) (by simp)).push 24 [.int .i64 fr2, .int .i64 to2, .int .i64 kd2, .int .i64 nm2, .slice ya body2.length yk] (w.heap.size + 1) (by simp)).push 24 [.int .i64 fr3, .int .i64 to3, .int .i64 kd3, .int .i64 nm3, .slice za body3.length zk] (w.heap.size + 1 + 1) (by simp)).push 27 [.int .i64 0, .bool false, .int .i64 0, .int .i64 0, .int .i64 0, .int .i64 0, .slice none 0 0, .slice none 0 0, .int .i64 0] (w.heap.size + 1 + 1 + 1) (by simp)))
  refine (Valid_t (S := ⟨nx, wt, ⟨fr, to_, kd, nm, body⟩, dn, tr⟩) hS.out (E1.out.fc 3 rfl) (E1.out.fc 2 rfl)).mono ?_
  rintro e w1 ⟨rfl, hb⟩
  have E2 := Lib.hid (E1.out.below hb)
  clear E0 E1 hb
  have b1 := E2.out.bx 2 rfl
  have c1_0 := b1.cell 0 rfl
  have c1_1 := b1.cell 1 rfl
  have c1_2 := b1.cell 2 rfl
  have c1_3 := b1.cell 3 rfl
  have c1_4 := b1.cell 4 rfl
  clear b1
  go_wp2_with fail
  refine (message_v ⟨fr2, to2, kd2, nm2, body2⟩ hq.out _ _ _).mono ?_
  rintro e w2 ⟨rfl, hb⟩
  have E3 := Lib.hid (E2.out.below hb)
  clear c1_0 c1_1 c1_2 c1_3 c1_4 E2 hb
  have b2 := E3.out.bx 1 rfl
  have c2_0 := b2.cell 0 rfl
  have c2_1 := b2.cell 1 rfl
  have c2_2 := b2.cell 2 rfl
  have c2_3 := b2.cell 3 rfl
  have c2_4 := b2.cell 4 rfl
  clear b2
  go_wp2_with fail
  refine (message_v ⟨fr3, to3, kd3, nm3, body3⟩ ha.out _ _ _).mono ?_
  rintro e w3 ⟨rfl, hb⟩
  have E4 := Lib.hid (E3.out.below hb)
  clear c2_0 c2_1 c2_2 c2_3 c2_4 E3 hb
  have b3 := E4.out.bx 3 rfl
  have c3_0 := b3.cell 0 rfl
  have c3_1 := b3.cell 1 rfl
  have c3_2 := b3.cell 2 rfl
  have c3_3 := b3.cell 3 rfl
  have c3_4 := b3.cell 4 rfl
  have c3_5 := b3.cell 5 rfl
  have c3_6 := b3.cell 6 rfl
  have c3_7 := b3.cell 7 rfl
  have c3_8 := b3.cell 8 rfl
  clear b3
  have b4 := E4.out.bx 2 rfl
  have c4_0 := b4.cell 0 rfl
  clear b4
  go_wp2_with fail
  refine (find_c (S := ⟨nx, wt, ⟨fr, to_, kd, nm, body⟩, dn, tr⟩) fr2 hS.out (E4.out.fc 2 rfl)).mono ?_
  rintro e w4 ⟨⟨fi, ft, hfo, rfl⟩, hb⟩
  have E5 := Lib.hid (E4.out.below hb)
  clear c3_0 c3_1 c3_2 c3_3 c3_4 c3_5 c3_6 c3_7 c3_8 c4_0 E4 hb
  obtain rfl := found_no hfo.out hn.out; have HFI := hfo; clear hfo
  go_wp2_with fail
  have E6 := Lib.hid E5.out.drew
  clear E5
  refine wp_region_held_drew (S := fun w' => True) (by kernel_rfl) (trivial) (fun hHeld => ?_)
  generalize w4.drew = w5 at *
  refine takeW (i := 0) (some 34) (v := ?_) rfl rfl (by kernel_rfl) (by kernel_rfl) (by kernel_rfl) (fun _ _ _ h => h) (by rfl) (by assumption) ?_ ?_
  rotate_left
  · (intro wS hSw; (try dsimp only at hSw); go_simp; try with_reducible rfl)
  try simp only [Act.put, List.setIfInBounds_toArray, List.set_cons_zero, List.set_cons_succ]
  refine takeW (i := 1) (some 35) (v := ?_) rfl rfl (by kernel_rfl) (by kernel_rfl) (by kernel_rfl) (fun _ _ _ h => h) (by rfl) (by assumption) ?_ ?_
  rotate_left
  · (intro wS hSw; (try dsimp only at hSw); go_simp; try with_reducible rfl)
  try simp only [Act.put, List.setIfInBounds_toArray, List.set_cons_zero, List.set_cons_succ]
  refine takeU (i := 2) (some 36) rfl rfl (by kernel_rfl) (by kernel_rfl) (by kernel_rfl) (fun _ _ _ h => h) (by rfl) (by assumption) ?_
  try simp only [Act.put, List.setIfInBounds_toArray, List.set_cons_zero, List.set_cons_succ]
  refine takeU (i := 3) (some 37) rfl rfl (by kernel_rfl) (by kernel_rfl) (by kernel_rfl) (fun _ _ _ h => h) (by rfl) (by assumption) ?_
  try simp only [Act.put, List.setIfInBounds_toArray, List.set_cons_zero, List.set_cons_succ]
  refine takeU (i := 4) (some 38) rfl rfl (by kernel_rfl) (by kernel_rfl) (by kernel_rfl) (fun _ _ _ h => h) (by rfl) (by assumption) ?_
  try simp only [Act.put, List.setIfInBounds_toArray, List.set_cons_zero, List.set_cons_succ]
  refine takeU (i := 5) (some 39) rfl rfl (by kernel_rfl) (by kernel_rfl) (by kernel_rfl) (fun _ _ _ h => h) (by rfl) (by assumption) ?_
  try simp only [Act.put, List.setIfInBounds_toArray, List.set_cons_zero, List.set_cons_succ]
  refine takeU (i := 6) (some 40) rfl rfl (by kernel_rfl) (by kernel_rfl) (by kernel_rfl) (fun _ _ _ h => h) (by rfl) (by assumption) ?_
  try simp only [Act.put, List.setIfInBounds_toArray, List.set_cons_zero, List.set_cons_succ]
  refine takeU (i := 7) (some 41) rfl rfl (by kernel_rfl) (by kernel_rfl) (by kernel_rfl) (fun _ _ _ h => h) (by rfl) (by assumption) ?_
  try simp only [Act.put, List.setIfInBounds_toArray, List.set_cons_zero, List.set_cons_succ]
  refine takeU (i := 8) (some 42) rfl rfl (by kernel_rfl) (by kernel_rfl) (by kernel_rfl) (fun _ _ _ h => h) (by rfl) (by assumption) ?_
  try simp only [Act.put, List.setIfInBounds_toArray, List.set_cons_zero, List.set_cons_succ]
  refine takeU (i := 9) (some 43) rfl rfl (by kernel_rfl) (by kernel_rfl) (by kernel_rfl) (fun _ _ _ h => h) (by rfl) (by assumption) ?_
  try simp only [Act.put, List.setIfInBounds_toArray, List.set_cons_zero, List.set_cons_succ]
  refine takeU (i := 10) (some 44) rfl rfl (by kernel_rfl) (by kernel_rfl) (by kernel_rfl) (fun _ _ _ h => h) (by rfl) (by assumption) ?_
  try simp only [Act.put, List.setIfInBounds_toArray, List.set_cons_zero, List.set_cons_succ]
  refine takeW (i := 11) (some 45) (v := ?_) rfl rfl (by kernel_rfl) (by kernel_rfl) (by kernel_rfl) (fun _ _ _ h => h) (by rfl) (by assumption) ?_ ?_
  rotate_left
  · (intro wS hSw; (try dsimp only at hSw); go_simp; try with_reducible rfl)
  try simp only [Act.put, List.setIfInBounds_toArray, List.set_cons_zero, List.set_cons_succ]
  refine takeW (i := 12) (some 33) (v := ?_) rfl rfl (by kernel_rfl) (by kernel_rfl) (by kernel_rfl) (fun _ _ _ h => h) (by rfl) (by assumption) ?_ ?_
  rotate_left
  · (intro wS hSw; (try dsimp only at hSw); go_simp; try with_reducible rfl)
  try simp only [Act.put, List.setIfInBounds_toArray, List.set_cons_zero, List.set_cons_succ]
  refine wpAnyH_done (by kernel_rfl) ?_ _
  go_wp2_with fail
  have E7 := Lib.hid E6.out.drew
  clear E6
  refine wp_region_held_drew (S := fun w' => True) (by kernel_rfl) (trivial) (fun hHeld => ?_)
  generalize w5.drew = w6 at *
  refine takeW (i := 0) (some 48) (v := ?_) rfl rfl (by kernel_rfl) (by kernel_rfl) (by kernel_rfl) (fun _ _ _ h => h) (by rfl) (by assumption) ?_ ?_
  rotate_left
  · (intro wS hSw; (try dsimp only at hSw); go_simp; try with_reducible rfl)
  try simp only [Act.put, List.setIfInBounds_toArray, List.set_cons_zero, List.set_cons_succ]
  refine takeW (i := 1) (some 49) (v := ?_) rfl rfl (by kernel_rfl) (by kernel_rfl) (by kernel_rfl) (fun _ _ _ h => h) (by rfl) (by assumption) ?_ ?_
  rotate_left
  · (intro wS hSw; (try dsimp only at hSw); go_simp; try with_reducible rfl)
  try simp only [Act.put, List.setIfInBounds_toArray, List.set_cons_zero, List.set_cons_succ]
  refine takeU (i := 2) (some 50) rfl rfl (by kernel_rfl) (by kernel_rfl) (by kernel_rfl) (fun _ _ _ h => h) (by rfl) (by assumption) ?_
  try simp only [Act.put, List.setIfInBounds_toArray, List.set_cons_zero, List.set_cons_succ]
  refine takeU (i := 3) (some 51) rfl rfl (by kernel_rfl) (by kernel_rfl) (by kernel_rfl) (fun _ _ _ h => h) (by rfl) (by assumption) ?_
  try simp only [Act.put, List.setIfInBounds_toArray, List.set_cons_zero, List.set_cons_succ]
  refine takeU (i := 4) (some 52) rfl rfl (by kernel_rfl) (by kernel_rfl) (by kernel_rfl) (fun _ _ _ h => h) (by rfl) (by assumption) ?_
  try simp only [Act.put, List.setIfInBounds_toArray, List.set_cons_zero, List.set_cons_succ]
  refine takeU (i := 5) (some 53) rfl rfl (by kernel_rfl) (by kernel_rfl) (by kernel_rfl) (fun _ _ _ h => h) (by rfl) (by assumption) ?_
  try simp only [Act.put, List.setIfInBounds_toArray, List.set_cons_zero, List.set_cons_succ]
  refine takeU (i := 6) (some 54) rfl rfl (by kernel_rfl) (by kernel_rfl) (by kernel_rfl) (fun _ _ _ h => h) (by rfl) (by assumption) ?_
  try simp only [Act.put, List.setIfInBounds_toArray, List.set_cons_zero, List.set_cons_succ]
  refine takeU (i := 7) (some 55) rfl rfl (by kernel_rfl) (by kernel_rfl) (by kernel_rfl) (fun _ _ _ h => h) (by rfl) (by assumption) ?_
  try simp only [Act.put, List.setIfInBounds_toArray, List.set_cons_zero, List.set_cons_succ]
  refine takeU (i := 8) (some 56) rfl rfl (by kernel_rfl) (by kernel_rfl) (by kernel_rfl) (fun _ _ _ h => h) (by rfl) (by assumption) ?_
  try simp only [Act.put, List.setIfInBounds_toArray, List.set_cons_zero, List.set_cons_succ]
  refine takeU (i := 9) (some 57) rfl rfl (by kernel_rfl) (by kernel_rfl) (by kernel_rfl) (fun _ _ _ h => h) (by rfl) (by assumption) ?_
  try simp only [Act.put, List.setIfInBounds_toArray, List.set_cons_zero, List.set_cons_succ]
  refine takeU (i := 10) (some 58) rfl rfl (by kernel_rfl) (by kernel_rfl) (by kernel_rfl) (fun _ _ _ h => h) (by rfl) (by assumption) ?_
  try simp only [Act.put, List.setIfInBounds_toArray, List.set_cons_zero, List.set_cons_succ]
  refine takeW (i := 11) (some 59) (v := ?_) rfl rfl (by kernel_rfl) (by kernel_rfl) (by kernel_rfl) (fun _ _ _ h => h) (by rfl) (by assumption) ?_ ?_
  rotate_left
  · (intro wS hSw; (try dsimp only at hSw); go_simp; try with_reducible rfl)
  try simp only [Act.put, List.setIfInBounds_toArray, List.set_cons_zero, List.set_cons_succ]
  refine takeW (i := 12) (some 47) (v := ?_) rfl rfl (by kernel_rfl) (by kernel_rfl) (by kernel_rfl) (fun _ _ _ h => h) (by rfl) (by assumption) ?_ ?_
  rotate_left
  · (intro wS hSw; (try dsimp only at hSw); go_simp; try with_reducible rfl)
  try simp only [Act.put, List.setIfInBounds_toArray, List.set_cons_zero, List.set_cons_succ]
  refine wpAnyH_done (by kernel_rfl) ?_ _
  have t5 : ((dn.length : Int) == 1000) = false := by have := h9.out; simp; omega
  have b5 := E7.out.bx 3 rfl
  have c5_7 := b5.cell 7 rfl
  clear b5
  have b6 := E7.out.bx 3 rfl
  have c6_0 := b6.cell 0 rfl
  have c6_1 := b6.cell 1 rfl
  have c6_2 := b6.cell 2 rfl
  have c6_3 := b6.cell 3 rfl
  have c6_4 := b6.cell 4 rfl
  have c6_5 := b6.cell 5 rfl
  have c6_6 := b6.cell 6 rfl
  have c6_8 := b6.cell 8 rfl
  clear b6
  go_wp2_with fail
  refine (copyAll_own nx fr to_ kd nm tr wt body dn (E7.out.fc 3 rfl) (E7.out.fc 2 rfl) hF.out.1 hF.out.2).mono ?_
  rintro e w7 ⟨⟨rqa, rqk, lsg, lsj, lss, rfl, lsh, lsB, lsb, lsm⟩, hb⟩
  have E8 := Lib.hid (E7.out.gotOwn (E7.out.gotOwn (E7.out.gotBox hb lsB) (.bs (.slice rqa body.length rqk) body) lsb) (.mc lss dn) lsm)
  clear c5_7 c6_0 c6_1 c6_2 c6_3 c6_4 c6_5 c6_6 c6_8 E7 hb lsB lsb lsm
  have HC := Lib.hid lsh; clear lsh
  have E9 := Lib.hid ((E8.out.push 27 [.int .i64 nx, .bool wt, .int .i64 fr, .int .i64 to_, .int .i64 kd, .int .i64 nm, .slice rqa body.length rqk, .slice (some ⟨lsg, 0, none⟩) dn.length lsj, .int .i64 tr] (w7.heap.size) (by simp)))
  have b7 := E9.out.bx 3 rfl
  have c7_0 := b7.cell 0 rfl
  have c7_1 := b7.cell 1 rfl
  have c7_2 := b7.cell 2 rfl
  have c7_3 := b7.cell 3 rfl
  have c7_4 := b7.cell 4 rfl
  clear b7
  go_wp2_with fail
  refine (copyOf_c ⟨fr3, to3, kd3, nm3, body3⟩ (E9.out.fc 2 rfl) hl3.out).mono ?_
  rintro e w8 ⟨⟨aa, ak, rfl, haa⟩, hb⟩
  have E10 := Lib.hid (E9.out.got (E9.out.below hb) (.bs (.slice aa body3.length ak) body3) haa.out)
  clear c7_0 c7_1 c7_2 c7_3 c7_4 E8 E9 hb haa
  go_wp2_with fail
  have E11 := Lib.hid ((E10.out.push 24 [.int .i64 fr3, .int .i64 to3, .int .i64 kd3, .int .i64 nm3, .slice aa body3.length ak] (w8.heap.size) (by simp)))
  clear E10
  generalize w8.alloc (.cells #[.int .i64 fr3, .int .i64 to3, .int .i64 kd3, .int .i64 nm3, .slice aa body3.length ak] 24) = w9 at *
  have E12 := Lib.hid E11.out.drew
  clear E11
  refine wp_region_held_drew (S := fun w' => w'.cell? ⟨w.heap.size + 1, 1, none⟩ = some (.int .i64 to2) ∧ w'.cell? ⟨w.heap.size + 1, 0, none⟩ = some (.int .i64 fr2) ∧ w'.cell? ⟨w.heap.size + 1, 3, none⟩ = some (.int .i64 nm2)) (by kernel_rfl) (⟨((E12.out.bx 5 rfl).cell 1 rfl), ((E12.out.bx 5 rfl).cell 0 rfl), ((E12.out.bx 5 rfl).cell 3 rfl)⟩) (fun hHeld => ?_)
  generalize w9.drew = w10 at *
  refine takeW (i := 0) (some 75) (v := ?_) rfl rfl (by kernel_rfl) (by kernel_rfl) (by kernel_rfl) (fun _ _ _ h => h) (by rfl) (by assumption) ?_ ?_
  rotate_left
  · (intro wS hSw; (try dsimp only at hSw); go_simp; try with_reducible rfl)
  try simp only [Act.put, List.setIfInBounds_toArray, List.set_cons_zero, List.set_cons_succ]
  refine takeW (i := 1) (some 76) (v := ?_) rfl rfl (by kernel_rfl) (by kernel_rfl) (by kernel_rfl) (fun _ _ _ h => h) (by rfl) (by assumption) ?_ ?_
  rotate_left
  · (intro wS hSw; (try dsimp only at hSw); go_simp; try with_reducible rfl)
  try simp only [Act.put, List.setIfInBounds_toArray, List.set_cons_zero, List.set_cons_succ]
  refine takeW (i := 2) (some 77) (v := ?_) rfl rfl (by kernel_rfl) (by kernel_rfl) (by kernel_rfl) (fun _ _ _ h => h) (by rfl) (by assumption) ?_ ?_
  rotate_left
  · (intro wS hSw; (try dsimp only at hSw); go_simp; try with_reducible rfl)
  try simp only [Act.put, List.setIfInBounds_toArray, List.set_cons_zero, List.set_cons_succ]
  refine takeW (i := 3) (some 78) (v := ?_) rfl rfl (by kernel_rfl) (by kernel_rfl) (by kernel_rfl) (fun _ _ _ h => h) (by rfl) (by assumption) ?_ ?_
  rotate_left
  · (intro wS hSw; (try dsimp only at hSw); go_simp; try with_reducible rfl)
  try simp only [Act.put, List.setIfInBounds_toArray, List.set_cons_zero, List.set_cons_succ]
  refine takeW (i := 4) (some 79) (v := ?_) rfl rfl (by kernel_rfl) (by kernel_rfl) (by kernel_rfl) (fun _ _ _ h => h) (by rfl) (by assumption) ?_ ?_
  rotate_left
  · (intro wS hSw; (try dsimp only at hSw); go_simp; try with_reducible rfl)
  try simp only [Act.put, List.setIfInBounds_toArray, List.set_cons_zero, List.set_cons_succ]
  refine takeW (i := 5) (some 80) (v := ?_) rfl rfl (by kernel_rfl) (by kernel_rfl) (by kernel_rfl) (fun _ _ _ h => h) (by rfl) (by assumption) ?_ ?_
  rotate_left
  · (intro wS hSw; (try dsimp only at hSw); go_simp; try with_reducible rfl)
  try simp only [Act.put, List.setIfInBounds_toArray, List.set_cons_zero, List.set_cons_succ]
  refine takeW (i := 6) (some 81) (v := ?_) rfl rfl (by kernel_rfl) (by kernel_rfl) (by kernel_rfl) (fun _ _ _ h => h) (by rfl) (by assumption) ?_ ?_
  rotate_left
  · (intro wS hSw; (try dsimp only at hSw); go_simp; try with_reducible rfl)
  try simp only [Act.put, List.setIfInBounds_toArray, List.set_cons_zero, List.set_cons_succ]
  have b8 := E12.out.bx 0 rfl
  have c8_0 := b8.cell 0 rfl
  have f8_0 := b8.frozen 0
  clear b8
  refine wpAnyH_next (i := 7) (by kernel_rfl) rfl (fun KK hKK => ?_)
  go_simp
  have E13 : Hid (Env D w [(w8.heap.size, 24, [.int .i64 to2, .int .i64 to3, .int .i64 kd3, .int .i64 nm3, .slice aa body3.length ak]), (w7.heap.size, 27, [.int .i64 nx, .bool wt, .int .i64 fr, .int .i64 to_, .int .i64 kd, .int .i64 nm, .slice rqa body.length rqk, .slice (some ⟨lsg, 0, none⟩) dn.length lsj, .int .i64 tr]), (lsg, 24, lss), (w.heap.size + 1 + 1 + 1, 27, [.int .i64 0, .bool false, .int .i64 0, .int .i64 0, .int .i64 0, .int .i64 0, .slice none 0 0, .slice none 0 0, .int .i64 0]), (w.heap.size + 1 + 1, 24, [.int .i64 fr3, .int .i64 to3, .int .i64 kd3, .int .i64 nm3, .slice za body3.length zk]), (w.heap.size + 1, 24, [.int .i64 fr2, .int .i64 to2, .int .i64 kd2, .int .i64 nm2, .slice ya body2.length yk]), (w.heap.size, 27, [.int .i64 nx, .bool wt, .int .i64 fr, .int .i64 to_, .int .i64 kd, .int .i64 nm, .slice xa body.length xk, .slice (some da) dn.length dj, .int .i64 tr])] [.bs (.slice aa body3.length ak) body3, .mc lss dn, .bs (.slice rqa body.length rqk) body, .bs (.slice za body3.length zk) body3, .bs (.slice ya body2.length yk) body2, .ms (.slice (some da) dn.length dj) dn, .bs (.slice xa body.length xk) body] _) := Lib.hid ((E12.out.set 0 0 (.int .i64 to2) rfl))
  refine hKK.out _ _ (⟨((E13.out.bx 5 rfl).cell 1 rfl), ((E13.out.bx 5 rfl).cell 0 rfl), ((E13.out.bx 5 rfl).cell 3 rfl)⟩) ?_
  clear hKK KK hHeld
  have hHeld : (fun w' : World => w'.cell? ⟨w.heap.size + 1, 1, none⟩ = some (.int .i64 to2) ∧ w'.cell? ⟨w.heap.size + 1, 0, none⟩ = some (.int .i64 fr2) ∧ w'.cell? ⟨w.heap.size + 1, 3, none⟩ = some (.int .i64 nm2)) (w10.setCell ⟨w8.heap.size, 0, none⟩ (.int .i64 to2)) := ⟨((E13.out.bx 5 rfl).cell 1 rfl), ((E13.out.bx 5 rfl).cell 0 rfl), ((E13.out.bx 5 rfl).cell 3 rfl)⟩
  refine takeW (i := 8) (some 82) (v := ?_) rfl rfl (by kernel_rfl) (by kernel_rfl) (by kernel_rfl) (fun _ _ _ h => h) (by rfl) (by assumption) ?_ ?_
  rotate_left
  · (intro wS hSw; (try dsimp only at hSw); go_simp; try with_reducible rfl)
  try simp only [Act.put, List.setIfInBounds_toArray, List.set_cons_zero, List.set_cons_succ]
  have b9 := E13.out.bx 0 rfl
  have c9_1 := b9.cell 1 rfl
  have f9_1 := b9.frozen 1
  clear b9
  refine wpAnyH_next (i := 9) (by kernel_rfl) rfl (fun KK hKK => ?_)
  go_simp
  have E14 : Hid (Env D w [(w8.heap.size, 24, [.int .i64 to2, .int .i64 fr2, .int .i64 kd3, .int .i64 nm3, .slice aa body3.length ak]), (w7.heap.size, 27, [.int .i64 nx, .bool wt, .int .i64 fr, .int .i64 to_, .int .i64 kd, .int .i64 nm, .slice rqa body.length rqk, .slice (some ⟨lsg, 0, none⟩) dn.length lsj, .int .i64 tr]), (lsg, 24, lss), (w.heap.size + 1 + 1 + 1, 27, [.int .i64 0, .bool false, .int .i64 0, .int .i64 0, .int .i64 0, .int .i64 0, .slice none 0 0, .slice none 0 0, .int .i64 0]), (w.heap.size + 1 + 1, 24, [.int .i64 fr3, .int .i64 to3, .int .i64 kd3, .int .i64 nm3, .slice za body3.length zk]), (w.heap.size + 1, 24, [.int .i64 fr2, .int .i64 to2, .int .i64 kd2, .int .i64 nm2, .slice ya body2.length yk]), (w.heap.size, 27, [.int .i64 nx, .bool wt, .int .i64 fr, .int .i64 to_, .int .i64 kd, .int .i64 nm, .slice xa body.length xk, .slice (some da) dn.length dj, .int .i64 tr])] [.bs (.slice aa body3.length ak) body3, .mc lss dn, .bs (.slice rqa body.length rqk) body, .bs (.slice za body3.length zk) body3, .bs (.slice ya body2.length yk) body2, .ms (.slice (some da) dn.length dj) dn, .bs (.slice xa body.length xk) body] _) := Lib.hid ((E13.out.set 0 1 (.int .i64 fr2) rfl))
  refine hKK.out _ _ (⟨((E14.out.bx 5 rfl).cell 1 rfl), ((E14.out.bx 5 rfl).cell 0 rfl), ((E14.out.bx 5 rfl).cell 3 rfl)⟩) ?_
  clear hKK KK hHeld
  have hHeld : (fun w' : World => w'.cell? ⟨w.heap.size + 1, 1, none⟩ = some (.int .i64 to2) ∧ w'.cell? ⟨w.heap.size + 1, 0, none⟩ = some (.int .i64 fr2) ∧ w'.cell? ⟨w.heap.size + 1, 3, none⟩ = some (.int .i64 nm2)) ((w10.setCell ⟨w8.heap.size, 0, none⟩ (.int .i64 to2)).setCell ⟨w8.heap.size, 1, none⟩ (.int .i64 fr2)) := ⟨((E14.out.bx 5 rfl).cell 1 rfl), ((E14.out.bx 5 rfl).cell 0 rfl), ((E14.out.bx 5 rfl).cell 3 rfl)⟩
  refine takeW (i := 10) (some 83) (v := ?_) rfl rfl (by kernel_rfl) (by kernel_rfl) (by kernel_rfl) (fun _ _ _ h => h) (by rfl) (by assumption) ?_ ?_
  rotate_left
  · (intro wS hSw; (try dsimp only at hSw); go_simp; try with_reducible rfl)
  try simp only [Act.put, List.setIfInBounds_toArray, List.set_cons_zero, List.set_cons_succ]
  have b10 := E14.out.bx 0 rfl
  have c10_3 := b10.cell 3 rfl
  have f10_3 := b10.frozen 3
  clear b10
  refine wpAnyH_next (i := 11) (by kernel_rfl) rfl (fun KK hKK => ?_)
  go_simp
  have E15 : Hid (Env D w [(w8.heap.size, 24, [.int .i64 to2, .int .i64 fr2, .int .i64 kd3, .int .i64 nm2, .slice aa body3.length ak]), (w7.heap.size, 27, [.int .i64 nx, .bool wt, .int .i64 fr, .int .i64 to_, .int .i64 kd, .int .i64 nm, .slice rqa body.length rqk, .slice (some ⟨lsg, 0, none⟩) dn.length lsj, .int .i64 tr]), (lsg, 24, lss), (w.heap.size + 1 + 1 + 1, 27, [.int .i64 0, .bool false, .int .i64 0, .int .i64 0, .int .i64 0, .int .i64 0, .slice none 0 0, .slice none 0 0, .int .i64 0]), (w.heap.size + 1 + 1, 24, [.int .i64 fr3, .int .i64 to3, .int .i64 kd3, .int .i64 nm3, .slice za body3.length zk]), (w.heap.size + 1, 24, [.int .i64 fr2, .int .i64 to2, .int .i64 kd2, .int .i64 nm2, .slice ya body2.length yk]), (w.heap.size, 27, [.int .i64 nx, .bool wt, .int .i64 fr, .int .i64 to_, .int .i64 kd, .int .i64 nm, .slice xa body.length xk, .slice (some da) dn.length dj, .int .i64 tr])] [.bs (.slice aa body3.length ak) body3, .mc lss dn, .bs (.slice rqa body.length rqk) body, .bs (.slice za body3.length zk) body3, .bs (.slice ya body2.length yk) body2, .ms (.slice (some da) dn.length dj) dn, .bs (.slice xa body.length xk) body] _) := Lib.hid ((E14.out.set 0 3 (.int .i64 nm2) rfl))
  refine hKK.out _ _ (⟨((E15.out.bx 5 rfl).cell 1 rfl), ((E15.out.bx 5 rfl).cell 0 rfl), ((E15.out.bx 5 rfl).cell 3 rfl)⟩) ?_
  clear hKK KK hHeld
  have hHeld : (fun w' : World => w'.cell? ⟨w.heap.size + 1, 1, none⟩ = some (.int .i64 to2) ∧ w'.cell? ⟨w.heap.size + 1, 0, none⟩ = some (.int .i64 fr2) ∧ w'.cell? ⟨w.heap.size + 1, 3, none⟩ = some (.int .i64 nm2)) (((w10.setCell ⟨w8.heap.size, 0, none⟩ (.int .i64 to2)).setCell ⟨w8.heap.size, 1, none⟩ (.int .i64 fr2)).setCell ⟨w8.heap.size, 3, none⟩ (.int .i64 nm2)) := ⟨((E15.out.bx 5 rfl).cell 1 rfl), ((E15.out.bx 5 rfl).cell 0 rfl), ((E15.out.bx 5 rfl).cell 3 rfl)⟩
  refine wpAnyH_done (by kernel_rfl) ?_ _
  have b11 := E15.out.bx 1 rfl
  have c11_7 := b11.cell 7 rfl
  clear b11
  have b12 := E15.out.bx 0 rfl
  have c12_0 := b12.cell 0 rfl
  have c12_1 := b12.cell 1 rfl
  have c12_2 := b12.cell 2 rfl
  have c12_3 := b12.cell 3 rfl
  have c12_4 := b12.cell 4 rfl
  clear b12
  go_wp2_with fail
  have E16 := Lib.hid ((E15.out.push 24 [.int .i64 to2, .int .i64 fr2, .int .i64 kd3, .int .i64 nm2, .slice aa body3.length ak] (w10.heap.size) (by simp)))
  refine (insert_m (E16.out.bx 3 rfl) HC.out.2.2 HC.out.2.1 HFI.out.1 HC.out.1 (by omega) rfl (E16.out.bx 0 rfl).2 (fun e => E16.out.box.2.1 _ (List.mem_of_getElem? (i := 2) rfl) e.symm) (by intro u hu; simp at hu; rcases hu with rfl | rfl | rfl | rfl | rfl <;> rfl) (mc_cells (E16.out.fc 1 rfl) (by have := HC.out; omega))).mono ?_
  rintro e w11 ⟨ng, nc, ns, rfl, nh, nd, nB, nt, no⟩
  have E17 := Lib.hid (E16.out.ins 3 rfl no nd nB)
  clear c8_0 f8_0 c9_1 f9_1 c10_3 f10_3 c11_7 c12_0 c12_1 c12_2 c12_3 c12_4 E12 E13 E14 E15 E16 nd nB no
  have NH := Lib.hid nh; have NT := Lib.hid nt; clear nh nt
  have b13 := E17.out.bx 2 rfl
  have c13_7 := b13.cell 7 rfl
  have f13_7 := b13.frozen 7
  clear b13
  have E18 : Hid (Env D w [(w10.heap.size, 24, [.int .i64 to2, .int .i64 fr2, .int .i64 kd3, .int .i64 nm2, .slice aa body3.length ak]), (w8.heap.size, 24, [.int .i64 to2, .int .i64 fr2, .int .i64 kd3, .int .i64 nm2, .slice aa body3.length ak]), (w7.heap.size, 27, [.int .i64 nx, .bool wt, .int .i64 fr, .int .i64 to_, .int .i64 kd, .int .i64 nm, .slice rqa body.length rqk, .slice (some ⟨ng, 0, none⟩) (dn.length + 1) nc, .int .i64 tr]), (ng, 24, ns), (w.heap.size + 1 + 1 + 1, 27, [.int .i64 0, .bool false, .int .i64 0, .int .i64 0, .int .i64 0, .int .i64 0, .slice none 0 0, .slice none 0 0, .int .i64 0]), (w.heap.size + 1 + 1, 24, [.int .i64 fr3, .int .i64 to3, .int .i64 kd3, .int .i64 nm3, .slice za body3.length zk]), (w.heap.size + 1, 24, [.int .i64 fr2, .int .i64 to2, .int .i64 kd2, .int .i64 nm2, .slice ya body2.length yk]), (w.heap.size, 27, [.int .i64 nx, .bool wt, .int .i64 fr, .int .i64 to_, .int .i64 kd, .int .i64 nm, .slice xa body.length xk, .slice (some da) dn.length dj, .int .i64 tr])] [.bs (.slice aa body3.length ak) body3, .mc lss dn, .bs (.slice rqa body.length rqk) body, .bs (.slice za body3.length zk) body3, .bs (.slice ya body2.length yk) body2, .ms (.slice (some da) dn.length dj) dn, .bs (.slice xa body.length xk) body] _) := Lib.hid ((E17.out.set 2 7 (.slice (some ⟨ng, 0, none⟩) (dn.length + 1) nc) rfl))
  have b14 := E18.out.bx 2 rfl
  have c14_0 := b14.cell 0 rfl
  have c14_1 := b14.cell 1 rfl
  have c14_2 := b14.cell 2 rfl
  have c14_3 := b14.cell 3 rfl
  have c14_4 := b14.cell 4 rfl
  have c14_5 := b14.cell 5 rfl
  have c14_6 := b14.cell 6 rfl
  have c14_7 := b14.cell 7 rfl
  have c14_8 := b14.cell 8 rfl
  clear b14
  have b15 := E18.out.bx 4 rfl
  have c15_0 := b15.cell 0 rfl
  have c15_1 := b15.cell 1 rfl
  have c15_2 := b15.cell 2 rfl
  have c15_3 := b15.cell 3 rfl
  have c15_4 := b15.cell 4 rfl
  have c15_5 := b15.cell 5 rfl
  have c15_6 := b15.cell 6 rfl
  have c15_7 := b15.cell 7 rfl
  have c15_8 := b15.cell 8 rfl
  have f15_0 := b15.frozen 0
  have f15_1 := b15.frozen 1
  have f15_2 := b15.frozen 2
  have f15_3 := b15.frozen 3
  have f15_4 := b15.frozen 4
  have f15_5 := b15.frozen 5
  have f15_6 := b15.frozen 6
  have f15_7 := b15.frozen 7
  have f15_8 := b15.frozen 8
  clear b15
  have hln : (insL dn fi ⟨to2, fr2, kd3, nm2, body3⟩).length = dn.length + 1 := insL_length _ _ _ HFI.out.1
  go_wp2
  have E19 : Hid (Env D w [(w10.heap.size, 24, [.int .i64 to2, .int .i64 fr2, .int .i64 kd3, .int .i64 nm2, .slice aa body3.length ak]), (w8.heap.size, 24, [.int .i64 to2, .int .i64 fr2, .int .i64 kd3, .int .i64 nm2, .slice aa body3.length ak]), (w7.heap.size, 27, [.int .i64 nx, .bool wt, .int .i64 fr, .int .i64 to_, .int .i64 kd, .int .i64 nm, .slice rqa body.length rqk, .slice (some ⟨ng, 0, none⟩) (dn.length + 1) nc, .int .i64 tr]), (ng, 24, ns), (w.heap.size + 1 + 1 + 1, 27, [.int .i64 nx, .bool wt, .int .i64 fr, .int .i64 to_, .int .i64 kd, .int .i64 nm, .slice rqa body.length rqk, .slice (some ⟨ng, 0, none⟩) (dn.length + 1) nc, .int .i64 tr]), (w.heap.size + 1 + 1, 24, [.int .i64 fr3, .int .i64 to3, .int .i64 kd3, .int .i64 nm3, .slice za body3.length zk]), (w.heap.size + 1, 24, [.int .i64 fr2, .int .i64 to2, .int .i64 kd2, .int .i64 nm2, .slice ya body2.length yk]), (w.heap.size, 27, [.int .i64 nx, .bool wt, .int .i64 fr, .int .i64 to_, .int .i64 kd, .int .i64 nm, .slice xa body.length xk, .slice (some da) dn.length dj, .int .i64 tr])] [.bs (.slice aa body3.length ak) body3, .mc lss dn, .bs (.slice rqa body.length rqk) body, .bs (.slice za body3.length zk) body3, .bs (.slice ya body2.length yk) body2, .ms (.slice (some da) dn.length dj) dn, .bs (.slice xa body.length xk) body] _) := Lib.hid ((((((((((E18.out.set 4 0 (.int .i64 nx) rfl).set 4 1 (.bool wt) rfl).set 4 2 (.int .i64 fr) rfl).set 4 3 (.int .i64 to_) rfl).set 4 4 (.int .i64 kd) rfl).set 4 5 (.int .i64 nm) rfl).set 4 6 (.slice rqa body.length rqk) rfl).set 4 7 (.slice (some ⟨ng, 0, none⟩) (dn.length + 1) nc) rfl).set 4 8 (.int .i64 tr) rfl))
  have hfin := E19.out
  have q16 := (hfin.bx 4 rfl).cell 0 rfl
  have q17 := (hfin.bx 4 rfl).cell 1 rfl
  have q18 := (hfin.bx 4 rfl).cell 2 rfl
  have q19 := (hfin.bx 4 rfl).cell 3 rfl
  have q20 := (hfin.bx 4 rfl).cell 4 rfl
  have q21 := (hfin.bx 4 rfl).cell 5 rfl
  have q22 := (hfin.bx 4 rfl).cell 6 rfl
  have q23 := (hfin.bx 4 rfl).cell 7 rfl
  have q24 := (hfin.bx 4 rfl).cell 8 rfl
  exact bodyPost_ret (v := .tuple #[.agg #[.int .i64 nx, .bool wt, .int .i64 fr, .int .i64 to_, .int .i64 kd, .int .i64 nm, .slice rqa body.length rqk, .slice (some ⟨ng, 0, none⟩) (dn.length + 1) nc, .int .i64 tr], .int .i64 0]) (by simp [results, Try.results17, go_sem, q16, q17, q18, q19, q20, q21, q22, q23, q24]) rfl ⟨⟨fi, HFI.out, rqa, rqk, some ⟨ng, 0, none⟩, nc, by dsimp only; rw [hln], (Lib.hid (hfin.out 2 rfl)), Lib.hid (Ms.ofBox (hfin.bx 3 rfl) (mc_ins (M := ⟨to2, fr2, kd3, nm2, body3⟩) (hfin.fc 1 rfl) (by have := HC.out; omega) HFI.out.1 NT.out (hfin.fc 0 rfl)) (by rw [hln]; exact NH.out.1) NH.out.2.1 (fun _ hd => hd.2) (.inr (hfin.bx 3 rfl).1))⟩, hfin.bel⟩
set_option maxRecDepth 100000 in
set_option maxHeartbeats 2000000 in
theorem Done_insN {D : Nat → Prop} (nx fr to_ kd nm tr : Int) (wt : Bool) (body : List Nat) {xa : Option Addr} {xk dj : Nat} (fr2 to2 kd2 nm2 : Int) (body2 : List Nat) {ya : Option Addr} {yk : Nat} (fr3 to3 kd3 nm3 : Int) (body3 : List Nat) {za : Option Addr} {zk : Nat} {w : World} (hx : Fct.at w D (.bs (.slice xa body.length xk) body)) (hy : Fct.at w D (.ms (.slice none 0 dj) [])) (hz : Fct.at w D (.bs (.slice ya body2.length yk) body2)) (hv : Fct.at w D (.bs (.slice za body3.length zk) body3)) (hS0 : SesOk ⟨nx, wt, ⟨fr, to_, kd, nm, body⟩, [], tr⟩) (hq0 : msgOk ⟨fr2, to2, kd2, nm2, body2⟩ = true) (ha0 : msgOk ⟨fr3, to3, kd3, nm3, body3⟩ = true) :
    Calls Try.prog 17 #[.agg #[.int .i64 nx, .bool wt, .int .i64 fr, .int .i64 to_, .int .i64 kd, .int .i64 nm, .slice xa body.length xk, .slice none 0 dj, .int .i64 tr], .agg #[.int .i64 fr2, .int .i64 to2, .int .i64 kd2, .int .i64 nm2, .slice ya body2.length yk], .agg #[.int .i64 fr3, .int .i64 to3, .int .i64 kd3, .int .i64 nm3, .slice za body3.length zk]] w fun e w' => RetSE (fun b => D b ∨ w.heap.size ≤ b) ⟨nx, wt, ⟨fr, to_, kd, nm, body⟩, [⟨to2, fr2, kd3, nm2, body3⟩], tr⟩ 0 e w' ∧ Below w.heap.size w w' := by
  have E0 := Lib.hid (((((Env.start D w).arg (.bs (.slice xa body.length xk) body) hx).arg (.ms (.slice none 0 dj) []) hy).arg (.bs (.slice ya body2.length yk) body2) hz).arg (.bs (.slice za body3.length zk) body3) hv)
  clear hx hy hz hv
  go_enter Try.func17, Try.ntmps17
  have hS := Lib.hid hS0
  clear hS0
  have hq := Lib.hid hq0
  clear hq0
  have ha := Lib.hid ha0
  clear ha0
  have hF := Lib.hid (SesOk.fair hS.out)
  have hl3 := Lib.hid (msgOk.len ha.out)
  have hA := Lib.hid True.intro
  go_wp2_with fail
  have E1 := Lib.hid (((((E0.out.push 27 [.int .i64 nx, .bool wt, .int .i64 fr, .int .i64 to_, .int .i64 kd, .int .i64 nm, .slice xa body.length xk, .slice none 0 dj, .int .i64 tr] (w.heap.size) (by simp)).push 24 [.int .i64 fr2, .int .i64 to2, .int .i64 kd2, .int .i64 nm2, .slice ya body2.length yk] (w.heap.size + 1) (by simp)).push 24 [.int .i64 fr3, .int .i64 to3, .int .i64 kd3, .int .i64 nm3, .slice za body3.length zk] (w.heap.size + 1 + 1) (by simp)).push 27 [.int .i64 0, .bool false, .int .i64 0, .int .i64 0, .int .i64 0, .int .i64 0, .slice none 0 0, .slice none 0 0, .int .i64 0] (w.heap.size + 1 + 1 + 1) (by simp)))
  refine (Valid_t (S := ⟨nx, wt, ⟨fr, to_, kd, nm, body⟩, [], tr⟩) hS.out (E1.out.fc 3 rfl) (E1.out.fc 2 rfl)).mono ?_
  rintro e w1 ⟨rfl, hb⟩
  have E2 := Lib.hid (E1.out.below hb)
  clear E0 E1 hb
  have b1 := E2.out.bx 2 rfl
  have c1_0 := b1.cell 0 rfl
  have c1_1 := b1.cell 1 rfl
  have c1_2 := b1.cell 2 rfl
  have c1_3 := b1.cell 3 rfl
  have c1_4 := b1.cell 4 rfl
  clear b1
  go_wp2_with fail
  refine (message_v ⟨fr2, to2, kd2, nm2, body2⟩ hq.out _ _ _).mono ?_
  rintro e w2 ⟨rfl, hb⟩
  have E3 := Lib.hid (E2.out.below hb)
  clear c1_0 c1_1 c1_2 c1_3 c1_4 E2 hb
  have b2 := E3.out.bx 1 rfl
  have c2_0 := b2.cell 0 rfl
  have c2_1 := b2.cell 1 rfl
  have c2_2 := b2.cell 2 rfl
  have c2_3 := b2.cell 3 rfl
  have c2_4 := b2.cell 4 rfl
  clear b2
  go_wp2_with fail
  refine (message_v ⟨fr3, to3, kd3, nm3, body3⟩ ha.out _ _ _).mono ?_
  rintro e w3 ⟨rfl, hb⟩
  have E4 := Lib.hid (E3.out.below hb)
  clear c2_0 c2_1 c2_2 c2_3 c2_4 E3 hb
  have b3 := E4.out.bx 3 rfl
  have c3_0 := b3.cell 0 rfl
  have c3_1 := b3.cell 1 rfl
  have c3_2 := b3.cell 2 rfl
  have c3_3 := b3.cell 3 rfl
  have c3_4 := b3.cell 4 rfl
  have c3_5 := b3.cell 5 rfl
  have c3_6 := b3.cell 6 rfl
  have c3_7 := b3.cell 7 rfl
  have c3_8 := b3.cell 8 rfl
  clear b3
  have b4 := E4.out.bx 2 rfl
  have c4_0 := b4.cell 0 rfl
  clear b4
  go_wp2_with fail
  refine (find_c (S := ⟨nx, wt, ⟨fr, to_, kd, nm, body⟩, [], tr⟩) fr2 hS.out (E4.out.fc 2 rfl)).mono ?_
  rintro e w4 ⟨⟨fi, ft, hfo, rfl⟩, hb⟩
  have E5 := Lib.hid (E4.out.below hb)
  clear c3_0 c3_1 c3_2 c3_3 c3_4 c3_5 c3_6 c3_7 c3_8 c4_0 E4 hb
  obtain ⟨rfl, rfl⟩ := found_nil hfo.out; clear hfo; (try simp only [Int.ofNat_eq_zero, Int.natCast_zero, Nat.cast_zero] at *)
  go_wp2_with fail
  have E6 := Lib.hid E5.out.drew
  clear E5
  refine wp_region_held_drew (S := fun w' => True) (by kernel_rfl) (trivial) (fun hHeld => ?_)
  generalize w4.drew = w5 at *
  refine takeW (i := 0) (some 34) (v := ?_) rfl rfl (by kernel_rfl) (by kernel_rfl) (by kernel_rfl) (fun _ _ _ h => h) (by rfl) (by assumption) ?_ ?_
  rotate_left
  · (intro wS hSw; (try dsimp only at hSw); go_simp; try with_reducible rfl)
  try simp only [Act.put, List.setIfInBounds_toArray, List.set_cons_zero, List.set_cons_succ]
  refine takeW (i := 1) (some 35) (v := ?_) rfl rfl (by kernel_rfl) (by kernel_rfl) (by kernel_rfl) (fun _ _ _ h => h) (by rfl) (by assumption) ?_ ?_
  rotate_left
  · (intro wS hSw; (try dsimp only at hSw); go_simp; try with_reducible rfl)
  try simp only [Act.put, List.setIfInBounds_toArray, List.set_cons_zero, List.set_cons_succ]
  refine takeU (i := 2) (some 36) rfl rfl (by kernel_rfl) (by kernel_rfl) (by kernel_rfl) (fun _ _ _ h => h) (by rfl) (by assumption) ?_
  try simp only [Act.put, List.setIfInBounds_toArray, List.set_cons_zero, List.set_cons_succ]
  refine takeU (i := 3) (some 37) rfl rfl (by kernel_rfl) (by kernel_rfl) (by kernel_rfl) (fun _ _ _ h => h) (by rfl) (by assumption) ?_
  try simp only [Act.put, List.setIfInBounds_toArray, List.set_cons_zero, List.set_cons_succ]
  refine takeU (i := 4) (some 38) rfl rfl (by kernel_rfl) (by kernel_rfl) (by kernel_rfl) (fun _ _ _ h => h) (by rfl) (by assumption) ?_
  try simp only [Act.put, List.setIfInBounds_toArray, List.set_cons_zero, List.set_cons_succ]
  refine takeU (i := 5) (some 39) rfl rfl (by kernel_rfl) (by kernel_rfl) (by kernel_rfl) (fun _ _ _ h => h) (by rfl) (by assumption) ?_
  try simp only [Act.put, List.setIfInBounds_toArray, List.set_cons_zero, List.set_cons_succ]
  refine takeU (i := 6) (some 40) rfl rfl (by kernel_rfl) (by kernel_rfl) (by kernel_rfl) (fun _ _ _ h => h) (by rfl) (by assumption) ?_
  try simp only [Act.put, List.setIfInBounds_toArray, List.set_cons_zero, List.set_cons_succ]
  refine takeU (i := 7) (some 41) rfl rfl (by kernel_rfl) (by kernel_rfl) (by kernel_rfl) (fun _ _ _ h => h) (by rfl) (by assumption) ?_
  try simp only [Act.put, List.setIfInBounds_toArray, List.set_cons_zero, List.set_cons_succ]
  refine takeU (i := 8) (some 42) rfl rfl (by kernel_rfl) (by kernel_rfl) (by kernel_rfl) (fun _ _ _ h => h) (by rfl) (by assumption) ?_
  try simp only [Act.put, List.setIfInBounds_toArray, List.set_cons_zero, List.set_cons_succ]
  refine takeU (i := 9) (some 43) rfl rfl (by kernel_rfl) (by kernel_rfl) (by kernel_rfl) (fun _ _ _ h => h) (by rfl) (by assumption) ?_
  try simp only [Act.put, List.setIfInBounds_toArray, List.set_cons_zero, List.set_cons_succ]
  refine takeU (i := 10) (some 44) rfl rfl (by kernel_rfl) (by kernel_rfl) (by kernel_rfl) (fun _ _ _ h => h) (by rfl) (by assumption) ?_
  try simp only [Act.put, List.setIfInBounds_toArray, List.set_cons_zero, List.set_cons_succ]
  refine takeW (i := 11) (some 45) (v := ?_) rfl rfl (by kernel_rfl) (by kernel_rfl) (by kernel_rfl) (fun _ _ _ h => h) (by rfl) (by assumption) ?_ ?_
  rotate_left
  · (intro wS hSw; (try dsimp only at hSw); go_simp; try with_reducible rfl)
  try simp only [Act.put, List.setIfInBounds_toArray, List.set_cons_zero, List.set_cons_succ]
  refine takeW (i := 12) (some 33) (v := ?_) rfl rfl (by kernel_rfl) (by kernel_rfl) (by kernel_rfl) (fun _ _ _ h => h) (by rfl) (by assumption) ?_ ?_
  rotate_left
  · (intro wS hSw; (try dsimp only at hSw); go_simp; try with_reducible rfl)
  try simp only [Act.put, List.setIfInBounds_toArray, List.set_cons_zero, List.set_cons_succ]
  refine wpAnyH_done (by kernel_rfl) ?_ _
  go_wp2_with fail
  have E7 := Lib.hid E6.out.drew
  clear E6
  refine wp_region_held_drew (S := fun w' => True) (by kernel_rfl) (trivial) (fun hHeld => ?_)
  generalize w5.drew = w6 at *
  refine takeW (i := 0) (some 48) (v := ?_) rfl rfl (by kernel_rfl) (by kernel_rfl) (by kernel_rfl) (fun _ _ _ h => h) (by rfl) (by assumption) ?_ ?_
  rotate_left
  · (intro wS hSw; (try dsimp only at hSw); go_simp; try with_reducible rfl)
  try simp only [Act.put, List.setIfInBounds_toArray, List.set_cons_zero, List.set_cons_succ]
  refine takeW (i := 1) (some 49) (v := ?_) rfl rfl (by kernel_rfl) (by kernel_rfl) (by kernel_rfl) (fun _ _ _ h => h) (by rfl) (by assumption) ?_ ?_
  rotate_left
  · (intro wS hSw; (try dsimp only at hSw); go_simp; try with_reducible rfl)
  try simp only [Act.put, List.setIfInBounds_toArray, List.set_cons_zero, List.set_cons_succ]
  refine takeU (i := 2) (some 50) rfl rfl (by kernel_rfl) (by kernel_rfl) (by kernel_rfl) (fun _ _ _ h => h) (by rfl) (by assumption) ?_
  try simp only [Act.put, List.setIfInBounds_toArray, List.set_cons_zero, List.set_cons_succ]
  refine takeU (i := 3) (some 51) rfl rfl (by kernel_rfl) (by kernel_rfl) (by kernel_rfl) (fun _ _ _ h => h) (by rfl) (by assumption) ?_
  try simp only [Act.put, List.setIfInBounds_toArray, List.set_cons_zero, List.set_cons_succ]
  refine takeU (i := 4) (some 52) rfl rfl (by kernel_rfl) (by kernel_rfl) (by kernel_rfl) (fun _ _ _ h => h) (by rfl) (by assumption) ?_
  try simp only [Act.put, List.setIfInBounds_toArray, List.set_cons_zero, List.set_cons_succ]
  refine takeU (i := 5) (some 53) rfl rfl (by kernel_rfl) (by kernel_rfl) (by kernel_rfl) (fun _ _ _ h => h) (by rfl) (by assumption) ?_
  try simp only [Act.put, List.setIfInBounds_toArray, List.set_cons_zero, List.set_cons_succ]
  refine takeU (i := 6) (some 54) rfl rfl (by kernel_rfl) (by kernel_rfl) (by kernel_rfl) (fun _ _ _ h => h) (by rfl) (by assumption) ?_
  try simp only [Act.put, List.setIfInBounds_toArray, List.set_cons_zero, List.set_cons_succ]
  refine takeU (i := 7) (some 55) rfl rfl (by kernel_rfl) (by kernel_rfl) (by kernel_rfl) (fun _ _ _ h => h) (by rfl) (by assumption) ?_
  try simp only [Act.put, List.setIfInBounds_toArray, List.set_cons_zero, List.set_cons_succ]
  refine takeU (i := 8) (some 56) rfl rfl (by kernel_rfl) (by kernel_rfl) (by kernel_rfl) (fun _ _ _ h => h) (by rfl) (by assumption) ?_
  try simp only [Act.put, List.setIfInBounds_toArray, List.set_cons_zero, List.set_cons_succ]
  refine takeU (i := 9) (some 57) rfl rfl (by kernel_rfl) (by kernel_rfl) (by kernel_rfl) (fun _ _ _ h => h) (by rfl) (by assumption) ?_
  try simp only [Act.put, List.setIfInBounds_toArray, List.set_cons_zero, List.set_cons_succ]
  refine takeU (i := 10) (some 58) rfl rfl (by kernel_rfl) (by kernel_rfl) (by kernel_rfl) (fun _ _ _ h => h) (by rfl) (by assumption) ?_
  try simp only [Act.put, List.setIfInBounds_toArray, List.set_cons_zero, List.set_cons_succ]
  refine takeW (i := 11) (some 59) (v := ?_) rfl rfl (by kernel_rfl) (by kernel_rfl) (by kernel_rfl) (fun _ _ _ h => h) (by rfl) (by assumption) ?_ ?_
  rotate_left
  · (intro wS hSw; (try dsimp only at hSw); go_simp; try with_reducible rfl)
  try simp only [Act.put, List.setIfInBounds_toArray, List.set_cons_zero, List.set_cons_succ]
  refine takeW (i := 12) (some 47) (v := ?_) rfl rfl (by kernel_rfl) (by kernel_rfl) (by kernel_rfl) (fun _ _ _ h => h) (by rfl) (by assumption) ?_ ?_
  rotate_left
  · (intro wS hSw; (try dsimp only at hSw); go_simp; try with_reducible rfl)
  try simp only [Act.put, List.setIfInBounds_toArray, List.set_cons_zero, List.set_cons_succ]
  refine wpAnyH_done (by kernel_rfl) ?_ _
  have b5 := E7.out.bx 3 rfl
  have c5_7 := b5.cell 7 rfl
  clear b5
  have b6 := E7.out.bx 3 rfl
  have c6_0 := b6.cell 0 rfl
  have c6_1 := b6.cell 1 rfl
  have c6_2 := b6.cell 2 rfl
  have c6_3 := b6.cell 3 rfl
  have c6_4 := b6.cell 4 rfl
  have c6_5 := b6.cell 5 rfl
  have c6_6 := b6.cell 6 rfl
  have c6_8 := b6.cell 8 rfl
  clear b6
  go_wp2_with fail
  refine (copyAll_eN nx fr to_ kd nm tr wt body (E7.out.fc 3 rfl) hF.out.1).mono ?_
  rintro e w7 ⟨⟨rqa, rqk, rfl, hrq⟩, hb⟩
  have E8 := Lib.hid (E7.out.got (E7.out.below hb) (.bs (.slice rqa body.length rqk) body) hrq.out)
  clear c5_7 c6_0 c6_1 c6_2 c6_3 c6_4 c6_5 c6_6 c6_8 E7 hb hrq
  have E9 := Lib.hid ((E8.out.push 27 [.int .i64 nx, .bool wt, .int .i64 fr, .int .i64 to_, .int .i64 kd, .int .i64 nm, .slice rqa body.length rqk, .slice none 0 0, .int .i64 tr] (w7.heap.size) (by simp)))
  have b7 := E9.out.bx 2 rfl
  have c7_0 := b7.cell 0 rfl
  have c7_1 := b7.cell 1 rfl
  have c7_2 := b7.cell 2 rfl
  have c7_3 := b7.cell 3 rfl
  have c7_4 := b7.cell 4 rfl
  clear b7
  go_wp2_with fail
  refine (copyOf_c ⟨fr3, to3, kd3, nm3, body3⟩ (E9.out.fc 1 rfl) hl3.out).mono ?_
  rintro e w8 ⟨⟨aa, ak, rfl, haa⟩, hb⟩
  have E10 := Lib.hid (E9.out.got (E9.out.below hb) (.bs (.slice aa body3.length ak) body3) haa.out)
  clear c7_0 c7_1 c7_2 c7_3 c7_4 E8 E9 hb haa
  go_wp2_with fail
  have E11 := Lib.hid ((E10.out.push 24 [.int .i64 fr3, .int .i64 to3, .int .i64 kd3, .int .i64 nm3, .slice aa body3.length ak] (w8.heap.size) (by simp)))
  clear E10
  generalize w8.alloc (.cells #[.int .i64 fr3, .int .i64 to3, .int .i64 kd3, .int .i64 nm3, .slice aa body3.length ak] 24) = w9 at *
  have E12 := Lib.hid E11.out.drew
  clear E11
  refine wp_region_held_drew (S := fun w' => w'.cell? ⟨w.heap.size + 1, 1, none⟩ = some (.int .i64 to2) ∧ w'.cell? ⟨w.heap.size + 1, 0, none⟩ = some (.int .i64 fr2) ∧ w'.cell? ⟨w.heap.size + 1, 3, none⟩ = some (.int .i64 nm2)) (by kernel_rfl) (⟨((E12.out.bx 4 rfl).cell 1 rfl), ((E12.out.bx 4 rfl).cell 0 rfl), ((E12.out.bx 4 rfl).cell 3 rfl)⟩) (fun hHeld => ?_)
  generalize w9.drew = w10 at *
  refine takeW (i := 0) (some 75) (v := ?_) rfl rfl (by kernel_rfl) (by kernel_rfl) (by kernel_rfl) (fun _ _ _ h => h) (by rfl) (by assumption) ?_ ?_
  rotate_left
  · (intro wS hSw; (try dsimp only at hSw); go_simp; try with_reducible rfl)
  try simp only [Act.put, List.setIfInBounds_toArray, List.set_cons_zero, List.set_cons_succ]
  refine takeW (i := 1) (some 76) (v := ?_) rfl rfl (by kernel_rfl) (by kernel_rfl) (by kernel_rfl) (fun _ _ _ h => h) (by rfl) (by assumption) ?_ ?_
  rotate_left
  · (intro wS hSw; (try dsimp only at hSw); go_simp; try with_reducible rfl)
  try simp only [Act.put, List.setIfInBounds_toArray, List.set_cons_zero, List.set_cons_succ]
  refine takeW (i := 2) (some 77) (v := ?_) rfl rfl (by kernel_rfl) (by kernel_rfl) (by kernel_rfl) (fun _ _ _ h => h) (by rfl) (by assumption) ?_ ?_
  rotate_left
  · (intro wS hSw; (try dsimp only at hSw); go_simp; try with_reducible rfl)
  try simp only [Act.put, List.setIfInBounds_toArray, List.set_cons_zero, List.set_cons_succ]
  refine takeW (i := 3) (some 78) (v := ?_) rfl rfl (by kernel_rfl) (by kernel_rfl) (by kernel_rfl) (fun _ _ _ h => h) (by rfl) (by assumption) ?_ ?_
  rotate_left
  · (intro wS hSw; (try dsimp only at hSw); go_simp; try with_reducible rfl)
  try simp only [Act.put, List.setIfInBounds_toArray, List.set_cons_zero, List.set_cons_succ]
  refine takeW (i := 4) (some 79) (v := ?_) rfl rfl (by kernel_rfl) (by kernel_rfl) (by kernel_rfl) (fun _ _ _ h => h) (by rfl) (by assumption) ?_ ?_
  rotate_left
  · (intro wS hSw; (try dsimp only at hSw); go_simp; try with_reducible rfl)
  try simp only [Act.put, List.setIfInBounds_toArray, List.set_cons_zero, List.set_cons_succ]
  refine takeW (i := 5) (some 80) (v := ?_) rfl rfl (by kernel_rfl) (by kernel_rfl) (by kernel_rfl) (fun _ _ _ h => h) (by rfl) (by assumption) ?_ ?_
  rotate_left
  · (intro wS hSw; (try dsimp only at hSw); go_simp; try with_reducible rfl)
  try simp only [Act.put, List.setIfInBounds_toArray, List.set_cons_zero, List.set_cons_succ]
  refine takeW (i := 6) (some 81) (v := ?_) rfl rfl (by kernel_rfl) (by kernel_rfl) (by kernel_rfl) (fun _ _ _ h => h) (by rfl) (by assumption) ?_ ?_
  rotate_left
  · (intro wS hSw; (try dsimp only at hSw); go_simp; try with_reducible rfl)
  try simp only [Act.put, List.setIfInBounds_toArray, List.set_cons_zero, List.set_cons_succ]
  have b8 := E12.out.bx 0 rfl
  have c8_0 := b8.cell 0 rfl
  have f8_0 := b8.frozen 0
  clear b8
  refine wpAnyH_next (i := 7) (by kernel_rfl) rfl (fun KK hKK => ?_)
  go_simp
  have E13 : Hid (Env D w [(w8.heap.size, 24, [.int .i64 to2, .int .i64 to3, .int .i64 kd3, .int .i64 nm3, .slice aa body3.length ak]), (w7.heap.size, 27, [.int .i64 nx, .bool wt, .int .i64 fr, .int .i64 to_, .int .i64 kd, .int .i64 nm, .slice rqa body.length rqk, .slice none 0 0, .int .i64 tr]), (w.heap.size + 1 + 1 + 1, 27, [.int .i64 0, .bool false, .int .i64 0, .int .i64 0, .int .i64 0, .int .i64 0, .slice none 0 0, .slice none 0 0, .int .i64 0]), (w.heap.size + 1 + 1, 24, [.int .i64 fr3, .int .i64 to3, .int .i64 kd3, .int .i64 nm3, .slice za body3.length zk]), (w.heap.size + 1, 24, [.int .i64 fr2, .int .i64 to2, .int .i64 kd2, .int .i64 nm2, .slice ya body2.length yk]), (w.heap.size, 27, [.int .i64 nx, .bool wt, .int .i64 fr, .int .i64 to_, .int .i64 kd, .int .i64 nm, .slice xa body.length xk, .slice none 0 dj, .int .i64 tr])] [.bs (.slice aa body3.length ak) body3, .bs (.slice rqa body.length rqk) body, .bs (.slice za body3.length zk) body3, .bs (.slice ya body2.length yk) body2, .ms (.slice none 0 dj) [], .bs (.slice xa body.length xk) body] _) := Lib.hid ((E12.out.set 0 0 (.int .i64 to2) rfl))
  refine hKK.out _ _ (⟨((E13.out.bx 4 rfl).cell 1 rfl), ((E13.out.bx 4 rfl).cell 0 rfl), ((E13.out.bx 4 rfl).cell 3 rfl)⟩) ?_
  clear hKK KK hHeld
  have hHeld : (fun w' : World => w'.cell? ⟨w.heap.size + 1, 1, none⟩ = some (.int .i64 to2) ∧ w'.cell? ⟨w.heap.size + 1, 0, none⟩ = some (.int .i64 fr2) ∧ w'.cell? ⟨w.heap.size + 1, 3, none⟩ = some (.int .i64 nm2)) (w10.setCell ⟨w8.heap.size, 0, none⟩ (.int .i64 to2)) := ⟨((E13.out.bx 4 rfl).cell 1 rfl), ((E13.out.bx 4 rfl).cell 0 rfl), ((E13.out.bx 4 rfl).cell 3 rfl)⟩
  refine takeW (i := 8) (some 82) (v := ?_) rfl rfl (by kernel_rfl) (by kernel_rfl) (by kernel_rfl) (fun _ _ _ h => h) (by rfl) (by assumption) ?_ ?_
  rotate_left
  · (intro wS hSw; (try dsimp only at hSw); go_simp; try with_reducible rfl)
  try simp only [Act.put, List.setIfInBounds_toArray, List.set_cons_zero, List.set_cons_succ]
  have b9 := E13.out.bx 0 rfl
  have c9_1 := b9.cell 1 rfl
  have f9_1 := b9.frozen 1
  clear b9
  refine wpAnyH_next (i := 9) (by kernel_rfl) rfl (fun KK hKK => ?_)
  go_simp
  have E14 : Hid (Env D w [(w8.heap.size, 24, [.int .i64 to2, .int .i64 fr2, .int .i64 kd3, .int .i64 nm3, .slice aa body3.length ak]), (w7.heap.size, 27, [.int .i64 nx, .bool wt, .int .i64 fr, .int .i64 to_, .int .i64 kd, .int .i64 nm, .slice rqa body.length rqk, .slice none 0 0, .int .i64 tr]), (w.heap.size + 1 + 1 + 1, 27, [.int .i64 0, .bool false, .int .i64 0, .int .i64 0, .int .i64 0, .int .i64 0, .slice none 0 0, .slice none 0 0, .int .i64 0]), (w.heap.size + 1 + 1, 24, [.int .i64 fr3, .int .i64 to3, .int .i64 kd3, .int .i64 nm3, .slice za body3.length zk]), (w.heap.size + 1, 24, [.int .i64 fr2, .int .i64 to2, .int .i64 kd2, .int .i64 nm2, .slice ya body2.length yk]), (w.heap.size, 27, [.int .i64 nx, .bool wt, .int .i64 fr, .int .i64 to_, .int .i64 kd, .int .i64 nm, .slice xa body.length xk, .slice none 0 dj, .int .i64 tr])] [.bs (.slice aa body3.length ak) body3, .bs (.slice rqa body.length rqk) body, .bs (.slice za body3.length zk) body3, .bs (.slice ya body2.length yk) body2, .ms (.slice none 0 dj) [], .bs (.slice xa body.length xk) body] _) := Lib.hid ((E13.out.set 0 1 (.int .i64 fr2) rfl))
  refine hKK.out _ _ (⟨((E14.out.bx 4 rfl).cell 1 rfl), ((E14.out.bx 4 rfl).cell 0 rfl), ((E14.out.bx 4 rfl).cell 3 rfl)⟩) ?_
  clear hKK KK hHeld
  have hHeld : (fun w' : World => w'.cell? ⟨w.heap.size + 1, 1, none⟩ = some (.int .i64 to2) ∧ w'.cell? ⟨w.heap.size + 1, 0, none⟩ = some (.int .i64 fr2) ∧ w'.cell? ⟨w.heap.size + 1, 3, none⟩ = some (.int .i64 nm2)) ((w10.setCell ⟨w8.heap.size, 0, none⟩ (.int .i64 to2)).setCell ⟨w8.heap.size, 1, none⟩ (.int .i64 fr2)) := ⟨((E14.out.bx 4 rfl).cell 1 rfl), ((E14.out.bx 4 rfl).cell 0 rfl), ((E14.out.bx 4 rfl).cell 3 rfl)⟩
  refine takeW (i := 10) (some 83) (v := ?_) rfl rfl (by kernel_rfl) (by kernel_rfl) (by kernel_rfl) (fun _ _ _ h => h) (by rfl) (by assumption) ?_ ?_
  rotate_left
  · (intro wS hSw; (try dsimp only at hSw); go_simp; try with_reducible rfl)
  try simp only [Act.put, List.setIfInBounds_toArray, List.set_cons_zero, List.set_cons_succ]
  have b10 := E14.out.bx 0 rfl
  have c10_3 := b10.cell 3 rfl
  have f10_3 := b10.frozen 3
  clear b10
  refine wpAnyH_next (i := 11) (by kernel_rfl) rfl (fun KK hKK => ?_)
  go_simp
  have E15 : Hid (Env D w [(w8.heap.size, 24, [.int .i64 to2, .int .i64 fr2, .int .i64 kd3, .int .i64 nm2, .slice aa body3.length ak]), (w7.heap.size, 27, [.int .i64 nx, .bool wt, .int .i64 fr, .int .i64 to_, .int .i64 kd, .int .i64 nm, .slice rqa body.length rqk, .slice none 0 0, .int .i64 tr]), (w.heap.size + 1 + 1 + 1, 27, [.int .i64 0, .bool false, .int .i64 0, .int .i64 0, .int .i64 0, .int .i64 0, .slice none 0 0, .slice none 0 0, .int .i64 0]), (w.heap.size + 1 + 1, 24, [.int .i64 fr3, .int .i64 to3, .int .i64 kd3, .int .i64 nm3, .slice za body3.length zk]), (w.heap.size + 1, 24, [.int .i64 fr2, .int .i64 to2, .int .i64 kd2, .int .i64 nm2, .slice ya body2.length yk]), (w.heap.size, 27, [.int .i64 nx, .bool wt, .int .i64 fr, .int .i64 to_, .int .i64 kd, .int .i64 nm, .slice xa body.length xk, .slice none 0 dj, .int .i64 tr])] [.bs (.slice aa body3.length ak) body3, .bs (.slice rqa body.length rqk) body, .bs (.slice za body3.length zk) body3, .bs (.slice ya body2.length yk) body2, .ms (.slice none 0 dj) [], .bs (.slice xa body.length xk) body] _) := Lib.hid ((E14.out.set 0 3 (.int .i64 nm2) rfl))
  refine hKK.out _ _ (⟨((E15.out.bx 4 rfl).cell 1 rfl), ((E15.out.bx 4 rfl).cell 0 rfl), ((E15.out.bx 4 rfl).cell 3 rfl)⟩) ?_
  clear hKK KK hHeld
  have hHeld : (fun w' : World => w'.cell? ⟨w.heap.size + 1, 1, none⟩ = some (.int .i64 to2) ∧ w'.cell? ⟨w.heap.size + 1, 0, none⟩ = some (.int .i64 fr2) ∧ w'.cell? ⟨w.heap.size + 1, 3, none⟩ = some (.int .i64 nm2)) (((w10.setCell ⟨w8.heap.size, 0, none⟩ (.int .i64 to2)).setCell ⟨w8.heap.size, 1, none⟩ (.int .i64 fr2)).setCell ⟨w8.heap.size, 3, none⟩ (.int .i64 nm2)) := ⟨((E15.out.bx 4 rfl).cell 1 rfl), ((E15.out.bx 4 rfl).cell 0 rfl), ((E15.out.bx 4 rfl).cell 3 rfl)⟩
  refine wpAnyH_done (by kernel_rfl) ?_ _
  have b11 := E15.out.bx 1 rfl
  have c11_7 := b11.cell 7 rfl
  clear b11
  have b12 := E15.out.bx 0 rfl
  have c12_0 := b12.cell 0 rfl
  have c12_1 := b12.cell 1 rfl
  have c12_2 := b12.cell 2 rfl
  have c12_3 := b12.cell 3 rfl
  have c12_4 := b12.cell 4 rfl
  clear b12
  go_wp2_with fail
  have E16 := Lib.hid ((E15.out.push 24 [.int .i64 to2, .int .i64 fr2, .int .i64 kd3, .int .i64 nm2, .slice aa body3.length ak] (w10.heap.size) (by simp)))
  refine (insert_0 (M := ⟨to2, fr2, kd3, nm2, body3⟩) (E16.out.bx 0 rfl)).mono ?_
  rintro e w11 ⟨⟨lsg, lsc, lss, rfl, lsh, lsB, lsT⟩, hb⟩
  have E17 := Lib.hid (E16.out.gotBox hb lsB)
  clear c8_0 f8_0 c9_1 f9_1 c10_3 f10_3 c11_7 c12_0 c12_1 c12_2 c12_3 c12_4 E12 E13 E14 E15 E16 hb lsB
  have HC := Lib.hid lsh; have HT := Lib.hid lsT; clear lsh lsT
  have b13 := E17.out.bx 3 rfl
  have c13_7 := b13.cell 7 rfl
  have f13_7 := b13.frozen 7
  clear b13
  have E18 : Hid (Env D w [(lsg, 24, lss), (w10.heap.size, 24, [.int .i64 to2, .int .i64 fr2, .int .i64 kd3, .int .i64 nm2, .slice aa body3.length ak]), (w8.heap.size, 24, [.int .i64 to2, .int .i64 fr2, .int .i64 kd3, .int .i64 nm2, .slice aa body3.length ak]), (w7.heap.size, 27, [.int .i64 nx, .bool wt, .int .i64 fr, .int .i64 to_, .int .i64 kd, .int .i64 nm, .slice rqa body.length rqk, .slice (some ⟨lsg, 0, none⟩) 1 lsc, .int .i64 tr]), (w.heap.size + 1 + 1 + 1, 27, [.int .i64 0, .bool false, .int .i64 0, .int .i64 0, .int .i64 0, .int .i64 0, .slice none 0 0, .slice none 0 0, .int .i64 0]), (w.heap.size + 1 + 1, 24, [.int .i64 fr3, .int .i64 to3, .int .i64 kd3, .int .i64 nm3, .slice za body3.length zk]), (w.heap.size + 1, 24, [.int .i64 fr2, .int .i64 to2, .int .i64 kd2, .int .i64 nm2, .slice ya body2.length yk]), (w.heap.size, 27, [.int .i64 nx, .bool wt, .int .i64 fr, .int .i64 to_, .int .i64 kd, .int .i64 nm, .slice xa body.length xk, .slice none 0 dj, .int .i64 tr])] [.bs (.slice aa body3.length ak) body3, .bs (.slice rqa body.length rqk) body, .bs (.slice za body3.length zk) body3, .bs (.slice ya body2.length yk) body2, .ms (.slice none 0 dj) [], .bs (.slice xa body.length xk) body] _) := Lib.hid ((E17.out.set 3 7 (.slice (some ⟨lsg, 0, none⟩) 1 lsc) rfl))
  have b14 := E18.out.bx 3 rfl
  have c14_0 := b14.cell 0 rfl
  have c14_1 := b14.cell 1 rfl
  have c14_2 := b14.cell 2 rfl
  have c14_3 := b14.cell 3 rfl
  have c14_4 := b14.cell 4 rfl
  have c14_5 := b14.cell 5 rfl
  have c14_6 := b14.cell 6 rfl
  have c14_7 := b14.cell 7 rfl
  have c14_8 := b14.cell 8 rfl
  clear b14
  have b15 := E18.out.bx 4 rfl
  have c15_0 := b15.cell 0 rfl
  have c15_1 := b15.cell 1 rfl
  have c15_2 := b15.cell 2 rfl
  have c15_3 := b15.cell 3 rfl
  have c15_4 := b15.cell 4 rfl
  have c15_5 := b15.cell 5 rfl
  have c15_6 := b15.cell 6 rfl
  have c15_7 := b15.cell 7 rfl
  have c15_8 := b15.cell 8 rfl
  have f15_0 := b15.frozen 0
  have f15_1 := b15.frozen 1
  have f15_2 := b15.frozen 2
  have f15_3 := b15.frozen 3
  have f15_4 := b15.frozen 4
  have f15_5 := b15.frozen 5
  have f15_6 := b15.frozen 6
  have f15_7 := b15.frozen 7
  have f15_8 := b15.frozen 8
  clear b15
  go_wp2
  have E19 : Hid (Env D w [(lsg, 24, lss), (w10.heap.size, 24, [.int .i64 to2, .int .i64 fr2, .int .i64 kd3, .int .i64 nm2, .slice aa body3.length ak]), (w8.heap.size, 24, [.int .i64 to2, .int .i64 fr2, .int .i64 kd3, .int .i64 nm2, .slice aa body3.length ak]), (w7.heap.size, 27, [.int .i64 nx, .bool wt, .int .i64 fr, .int .i64 to_, .int .i64 kd, .int .i64 nm, .slice rqa body.length rqk, .slice (some ⟨lsg, 0, none⟩) 1 lsc, .int .i64 tr]), (w.heap.size + 1 + 1 + 1, 27, [.int .i64 nx, .bool wt, .int .i64 fr, .int .i64 to_, .int .i64 kd, .int .i64 nm, .slice rqa body.length rqk, .slice (some ⟨lsg, 0, none⟩) 1 lsc, .int .i64 tr]), (w.heap.size + 1 + 1, 24, [.int .i64 fr3, .int .i64 to3, .int .i64 kd3, .int .i64 nm3, .slice za body3.length zk]), (w.heap.size + 1, 24, [.int .i64 fr2, .int .i64 to2, .int .i64 kd2, .int .i64 nm2, .slice ya body2.length yk]), (w.heap.size, 27, [.int .i64 nx, .bool wt, .int .i64 fr, .int .i64 to_, .int .i64 kd, .int .i64 nm, .slice xa body.length xk, .slice none 0 dj, .int .i64 tr])] [.bs (.slice aa body3.length ak) body3, .bs (.slice rqa body.length rqk) body, .bs (.slice za body3.length zk) body3, .bs (.slice ya body2.length yk) body2, .ms (.slice none 0 dj) [], .bs (.slice xa body.length xk) body] _) := Lib.hid ((((((((((E18.out.set 4 0 (.int .i64 nx) rfl).set 4 1 (.bool wt) rfl).set 4 2 (.int .i64 fr) rfl).set 4 3 (.int .i64 to_) rfl).set 4 4 (.int .i64 kd) rfl).set 4 5 (.int .i64 nm) rfl).set 4 6 (.slice rqa body.length rqk) rfl).set 4 7 (.slice (some ⟨lsg, 0, none⟩) 1 lsc) rfl).set 4 8 (.int .i64 tr) rfl))
  have hfin := E19.out
  have q16 := (hfin.bx 4 rfl).cell 0 rfl
  have q17 := (hfin.bx 4 rfl).cell 1 rfl
  have q18 := (hfin.bx 4 rfl).cell 2 rfl
  have q19 := (hfin.bx 4 rfl).cell 3 rfl
  have q20 := (hfin.bx 4 rfl).cell 4 rfl
  have q21 := (hfin.bx 4 rfl).cell 5 rfl
  have q22 := (hfin.bx 4 rfl).cell 6 rfl
  have q23 := (hfin.bx 4 rfl).cell 7 rfl
  have q24 := (hfin.bx 4 rfl).cell 8 rfl
  exact bodyPost_ret (v := .tuple #[.agg #[.int .i64 nx, .bool wt, .int .i64 fr, .int .i64 to_, .int .i64 kd, .int .i64 nm, .slice rqa body.length rqk, .slice (some ⟨lsg, 0, none⟩) 1 lsc, .int .i64 tr], .int .i64 0]) (by simp [results, Try.results17, go_sem, q16, q17, q18, q19, q20, q21, q22, q23, q24]) rfl ⟨⟨_, _, _, _, rfl, (Lib.hid (hfin.out 1 rfl)), Lib.hid (Ms.ofBox (L := [⟨to2, fr2, kd3, nm2, body3⟩]) (hfin.bx 0 rfl) (mc_one HT.out (hfin.fc 0 rfl)) HC.out.1 HC.out.2 (fun _ hd => hd.2) (.inr (hfin.bx 0 rfl).1))⟩, hfin.bel⟩
end Go.Proofs.Ytbcfcdcomboljaa

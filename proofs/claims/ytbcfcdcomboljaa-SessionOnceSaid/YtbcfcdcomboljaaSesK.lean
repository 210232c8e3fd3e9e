/- session.Known of an answer that is there; the example of the chapter. -/
import Derived.Test.YtbcfcdcomboljaaSesH
namespace Go.Proofs.Ytbcfcdcomboljaa
open Go.RowKit
set_option linter.unusedVariables false
theorem found_at {L : List Msg} {c : Int} {i : Nat} {t : Bool} (h : Found L c i t) (hA : Asc L) {k : Nat} (hk : k < L.length) (hc : L[k].to_ = c) : k = i ∧ t = true := by
  obtain ⟨h1, h2, h3, h4⟩ := h
  have hki : ¬ k < i := fun hki => by have := h2 k hk hki; omega
  have hik : ¬ i < k := fun hik => by
    have a := h3 i (by omega) (Nat.le_refl _)
    have b := hA i k (by omega) hk hik
    omega
  have e : k = i := by omega
  subst e
  exact ⟨rfl, h4.2 ⟨hk, hc⟩⟩
set_option maxRecDepth 100000 in
set_option maxHeartbeats 1000000 in
theorem Known_ok {D : Nat → Prop} (nx fr to_ kd nm tr : Int) (wt : Bool) (body : List Nat) (dn : List Msg) {xa : Option Addr} {xk db df dj : Nat} (fr2 to2 kd2 nm2 : Int) (body2 : List Nat) {ya : Option Addr} {yk : Nat} (kk : Nat) {w : World} (hx : Fct.at w D (.bs (.slice xa body.length xk) body)) (hy : Fct.at w D (.ms (.slice (some ⟨db, df, none⟩) dn.length dj) dn)) (hz : Fct.at w D (.bs (.slice ya body2.length yk) body2)) (hS0 : SesOk ⟨nx, wt, ⟨fr, to_, kd, nm, body⟩, dn, tr⟩) (hm0 : msgOk ⟨fr2, to2, kd2, nm2, body2⟩ = true) (hk : kk < dn.length) (hf0 : dn[kk].to_ = fr2 ∧ dn[kk].nm = nm2) :
    Calls Try.prog 15 #[.agg #[.int .i64 nx, .bool wt, .int .i64 fr, .int .i64 to_, .int .i64 kd, .int .i64 nm, .slice xa body.length xk, .slice (some ⟨db, df, none⟩) dn.length dj, .int .i64 tr], .agg #[.int .i64 fr2, .int .i64 to2, .int .i64 kd2, .int .i64 nm2, .slice ya body2.length yk]] w fun e w' => RetME (fun b => D b ∨ w.heap.size ≤ b) (dn.getD kk M0) 0 e w' ∧ Below w.heap.size w w' := by
  have E0 := Lib.hid ((((Env.start D w).arg (.bs (.slice xa body.length xk) body) hx).arg (.ms (.slice (some ⟨db, df, none⟩) dn.length dj) dn) hy).arg (.bs (.slice ya body2.length yk) body2) hz)
  clear hx hy hz
  go_enter Try.func15, Try.ntmps15
  have hS := Lib.hid hS0
  clear hS0
  have hm := Lib.hid hm0
  clear hm0
  have hf := Lib.hid hf0
  clear hf0
  have hF := Lib.hid (SesOk.fair hS.out)
  have hA := Lib.hid (asc_of hS.out.2.2.2)
  have a3 : dn.length ≤ 1000 := hS.out.1.2.2
  go_wp2_with fail
  have E1 := Lib.hid ((((E0.out.push 27 [.int .i64 nx, .bool wt, .int .i64 fr, .int .i64 to_, .int .i64 kd, .int .i64 nm, .slice xa body.length xk, .slice (some ⟨db, df, none⟩) dn.length dj, .int .i64 tr] (w.heap.size) (by simp)).push 24 [.int .i64 fr2, .int .i64 to2, .int .i64 kd2, .int .i64 nm2, .slice ya body2.length yk] (w.heap.size + 1) (by simp)).push 24 [.int .i64 0, .int .i64 0, .int .i64 0, .int .i64 0, .slice none 0 0] (w.heap.size + 1 + 1) (by simp)))
  refine (Valid_t (S := ⟨nx, wt, ⟨fr, to_, kd, nm, body⟩, dn, tr⟩) hS.out (E1.out.fc 2 rfl) (E1.out.fc 1 rfl)).mono ?_
  rintro e w1 ⟨rfl, hb⟩
  have E2 := Lib.hid (E1.out.below hb)
  clear E0 E1 hb
  have b1 := E2.out.bx 1 rfl
  have c1_0 := b1.cell 0 rfl
  have c1_1 := b1.cell 1 rfl
  have c1_2 := b1.cell 2 rfl
  have c1_3 := b1.cell 3 rfl
  have c1_4 := b1.cell 4 rfl
  clear b1
  go_wp2_with fail
  refine (message_v ⟨fr2, to2, kd2, nm2, body2⟩ hm.out _ _ _).mono ?_
  rintro e w2 ⟨rfl, hb⟩
  have E3 := Lib.hid (E2.out.below hb)
  clear c1_0 c1_1 c1_2 c1_3 c1_4 E2 hb
  have b2 := E3.out.bx 2 rfl
  have c2_0 := b2.cell 0 rfl
  have c2_1 := b2.cell 1 rfl
  have c2_2 := b2.cell 2 rfl
  have c2_3 := b2.cell 3 rfl
  have c2_4 := b2.cell 4 rfl
  have c2_5 := b2.cell 5 rfl
  have c2_6 := b2.cell 6 rfl
  have c2_7 := b2.cell 7 rfl
  have c2_8 := b2.cell 8 rfl
  clear b2
  have b3 := E3.out.bx 1 rfl
  have c3_0 := b3.cell 0 rfl
  clear b3
  go_wp2_with fail
  refine (find_c (S := ⟨nx, wt, ⟨fr, to_, kd, nm, body⟩, dn, tr⟩) fr2 hS.out (E3.out.fc 1 rfl)).mono ?_
  rintro e w3 ⟨⟨fi, ft, hfo, rfl⟩, hb⟩
  have E4 := Lib.hid (E3.out.below hb)
  clear c2_0 c2_1 c2_2 c2_3 c2_4 c2_5 c2_6 c2_7 c2_8 c3_0 E3 hb
  obtain ⟨e1, e2⟩ := found_at hfo.out hA.out hk hf.out.1; clear hfo; subst e1 e2
  have t1 : decide (dn[kk].nm < nm2) = false := decide_eq_false (by have := hf.out.2; omega)
  have t2 : decide (nm2 < dn[kk].nm) = false := decide_eq_false (by have := hf.out.2; omega)
  obtain ⟨ua, uk, E50⟩ := E4.out.els 1 rfl (kk) hk
  have E5 : Hid (Env D w [(w.heap.size + 1 + 1, 24, [.int .i64 0, .int .i64 0, .int .i64 0, .int .i64 0, .slice none 0 0]), (w.heap.size + 1, 24, [.int .i64 fr2, .int .i64 to2, .int .i64 kd2, .int .i64 nm2, .slice ya body2.length yk]), (w.heap.size, 27, [.int .i64 nx, .bool wt, .int .i64 fr, .int .i64 to_, .int .i64 kd, .int .i64 nm, .slice xa body.length xk, .slice (some ⟨db, df, none⟩) dn.length dj, .int .i64 tr])] [.ce db (df + kk * 5) (.int .i64 dn[kk].fr), .ce db (df + kk * 5 + 1) (.int .i64 dn[kk].to_), .ce db (df + kk * 5 + 2) (.int .i64 dn[kk].kd), .ce db (df + kk * 5 + 3) (.int .i64 dn[kk].nm), .ce db (df + kk * 5 + 4) (.slice ua dn[kk].body.length uk), .bs (.slice ua dn[kk].body.length uk) dn[kk].body, .bs (.slice ya body2.length yk) body2, .ms (.slice (some ⟨db, df, none⟩) dn.length dj) dn, .bs (.slice xa body.length xk) body] _) := Lib.hid E50
  clear E50 E4
  go_wp2_with fail
  have E6 := Lib.hid E5.out.drew
  clear E5
  refine wp_region_held_drew (S := fun w' => w'.cell? ⟨w.heap.size, 7, none⟩ = some (.slice (some ⟨db, df, none⟩) dn.length dj) ∧ w'.cell? ⟨w.heap.size + 1, 3, none⟩ = some (.int .i64 nm2) ∧ w'.cell? ⟨db, df + kk * 5 + 3, none⟩ = some (.int .i64 dn[kk].nm)) (by kernel_rfl) (⟨((E6.out.bx 2 rfl).cell 7 rfl), ((E6.out.bx 1 rfl).cell 3 rfl), (E6.out.fc 3 rfl).2⟩) (fun hHeld => ?_)
  generalize w3.drew = w4 at *
  refine takeW (i := 0) (some 25) (v := ?_) rfl rfl (by kernel_rfl) (by kernel_rfl) (by kernel_rfl) (fun _ _ _ h => h) (by rfl) (by assumption) ?_ ?_
  rotate_left
  · (intro wS hSw; (try dsimp only at hSw); go_simp; try with_reducible rfl)
  try simp only [Act.put, List.setIfInBounds_toArray, List.set_cons_zero, List.set_cons_succ]
  refine takeW (i := 1) (some 26) (v := ?_) rfl rfl (by kernel_rfl) (by kernel_rfl) (by kernel_rfl) (fun _ _ _ h => h) (by rfl) (by assumption) ?_ ?_
  rotate_left
  · (intro wS hSw; (try dsimp only at hSw); go_simp; try with_reducible rfl)
  try simp only [Act.put, List.setIfInBounds_toArray, List.set_cons_zero, List.set_cons_succ]
  refine takeW (i := 2) (some 27) (v := ?_) rfl rfl (by kernel_rfl) (by kernel_rfl) (by kernel_rfl) (fun _ _ _ h => h) (by rfl) (by assumption) ?_ ?_
  rotate_left
  · (intro wS hSw; (try dsimp only at hSw); go_simp; try with_reducible rfl)
  try simp only [Act.put, List.setIfInBounds_toArray, List.set_cons_zero, List.set_cons_succ]
  refine takeW (i := 3) (some 28) (v := ?_) rfl rfl (by kernel_rfl) (by kernel_rfl) (by kernel_rfl) (fun _ _ _ h => h) (by rfl) (by assumption) ?_ ?_
  rotate_left
  · (intro wS hSw; (try dsimp only at hSw); go_simp; try with_reducible rfl)
  try simp only [Act.put, List.setIfInBounds_toArray, List.set_cons_zero, List.set_cons_succ]
  refine takeW (i := 4) (some 29) (v := ?_) rfl rfl (by kernel_rfl) (by kernel_rfl) (by kernel_rfl) (fun _ _ _ h => h) (by rfl) (by assumption) ?_ ?_
  rotate_left
  · (intro wS hSw; (try dsimp only at hSw); go_simp; try with_reducible rfl)
  try simp only [Act.put, List.setIfInBounds_toArray, List.set_cons_zero, List.set_cons_succ]
  refine takeW (i := 5) (some 30) (v := ?_) rfl rfl (by kernel_rfl) (by kernel_rfl) (by kernel_rfl) (fun _ _ _ h => h) (by rfl) (by assumption) ?_ ?_
  rotate_left
  · (intro wS hSw; (try dsimp only at hSw); go_simp; try with_reducible rfl)
  try simp only [Act.put, List.setIfInBounds_toArray, List.set_cons_zero, List.set_cons_succ]
  refine takeW (i := 6) (some 31) (v := ?_) rfl rfl (by kernel_rfl) (by kernel_rfl) (by kernel_rfl) (fun _ _ _ h => h) (by rfl) (by assumption) ?_ ?_
  rotate_left
  · (intro wS hSw; (try dsimp only at hSw); go_simp; try with_reducible rfl)
  try simp only [Act.put, List.setIfInBounds_toArray, List.set_cons_zero, List.set_cons_succ]
  refine takeW (i := 7) (some 32) (v := ?_) rfl rfl (by kernel_rfl) (by kernel_rfl) (by kernel_rfl) (fun _ _ _ h => h) (by rfl) (by assumption) ?_ ?_
  rotate_left
  · (intro wS hSw; (try dsimp only at hSw); go_simp; try with_reducible rfl)
  try simp only [Act.put, List.setIfInBounds_toArray, List.set_cons_zero, List.set_cons_succ]
  refine takeW (i := 8) (some 33) (v := ?_) rfl rfl (by kernel_rfl) (by kernel_rfl) (by kernel_rfl) (fun _ _ _ h => h) (by rfl) (by assumption) ?_ ?_
  rotate_left
  · (intro wS hSw; (try dsimp only at hSw); go_simp; try with_reducible rfl)
  try simp only [Act.put, List.setIfInBounds_toArray, List.set_cons_zero, List.set_cons_succ]
  refine takeW (i := 9) (some 34) (v := ?_) rfl rfl (by kernel_rfl) (by kernel_rfl) (by kernel_rfl) (fun _ _ _ h => h) (by rfl) (by assumption) ?_ ?_
  rotate_left
  · (intro wS hSw; (try dsimp only at hSw); go_simp; try with_reducible rfl)
  try simp only [Act.put, List.setIfInBounds_toArray, List.set_cons_zero, List.set_cons_succ]
  refine takeW (i := 10) (some 35) (v := ?_) rfl rfl (by kernel_rfl) (by kernel_rfl) (by kernel_rfl) (fun _ _ _ h => h) (by rfl) (by assumption) ?_ ?_
  rotate_left
  · (intro wS hSw; (try dsimp only at hSw); go_simp; try with_reducible rfl)
  try simp only [Act.put, List.setIfInBounds_toArray, List.set_cons_zero, List.set_cons_succ]
  refine takeW (i := 11) (some 36) (v := ?_) rfl rfl (by kernel_rfl) (by kernel_rfl) (by kernel_rfl) (fun _ _ _ h => h) (by rfl) (by assumption) ?_ ?_
  rotate_left
  · (intro wS hSw; (try dsimp only at hSw); go_simp; try with_reducible rfl)
  try simp only [Act.put, List.setIfInBounds_toArray, List.set_cons_zero, List.set_cons_succ]
  refine takeW (i := 12) (some 37) (v := ?_) rfl rfl (by kernel_rfl) (by kernel_rfl) (by kernel_rfl) (fun _ _ _ h => h) (by rfl) (by assumption) ?_ ?_
  rotate_left
  · (intro wS hSw; (try dsimp only at hSw); go_simp; try with_reducible rfl)
  try simp only [Act.put, List.setIfInBounds_toArray, List.set_cons_zero, List.set_cons_succ]
  refine takeW (i := 13) (some 24) (v := ?_) rfl rfl (by kernel_rfl) (by kernel_rfl) (by kernel_rfl) (fun _ _ _ h => h) (by rfl) (by assumption) ?_ ?_
  rotate_left
  · (intro wS hSw; (try dsimp only at hSw); go_simp; try with_reducible rfl)
  try simp only [Act.put, List.setIfInBounds_toArray, List.set_cons_zero, List.set_cons_succ]
  refine wpAnyH_done (by kernel_rfl) ?_ _
  go_wp2_with fail
  have E7 := Lib.hid E6.out.drew
  clear E6
  refine wp_region_held_drew (S := fun w' => w'.cell? ⟨w.heap.size, 7, none⟩ = some (.slice (some ⟨db, df, none⟩) dn.length dj) ∧ w'.cell? ⟨w.heap.size + 1, 3, none⟩ = some (.int .i64 nm2) ∧ w'.cell? ⟨db, df + kk * 5 + 3, none⟩ = some (.int .i64 dn[kk].nm)) (by kernel_rfl) (⟨((E7.out.bx 2 rfl).cell 7 rfl), ((E7.out.bx 1 rfl).cell 3 rfl), (E7.out.fc 3 rfl).2⟩) (fun hHeld => ?_)
  generalize w4.drew = w5 at *
  refine takeW (i := 0) (some 40) (v := ?_) rfl rfl (by kernel_rfl) (by kernel_rfl) (by kernel_rfl) (fun _ _ _ h => h) (by rfl) (by assumption) ?_ ?_
  rotate_left
  · (intro wS hSw; (try dsimp only at hSw); go_simp; try with_reducible rfl)
  try simp only [Act.put, List.setIfInBounds_toArray, List.set_cons_zero, List.set_cons_succ]
  refine takeW (i := 1) (some 41) (v := ?_) rfl rfl (by kernel_rfl) (by kernel_rfl) (by kernel_rfl) (fun _ _ _ h => h) (by rfl) (by assumption) ?_ ?_
  rotate_left
  · (intro wS hSw; (try dsimp only at hSw); go_simp; try with_reducible rfl)
  try simp only [Act.put, List.setIfInBounds_toArray, List.set_cons_zero, List.set_cons_succ]
  refine takeW (i := 2) (some 42) (v := ?_) rfl rfl (by kernel_rfl) (by kernel_rfl) (by kernel_rfl) (fun _ _ _ h => h) (by rfl) (by assumption) ?_ ?_
  rotate_left
  · (intro wS hSw; (try dsimp only at hSw); go_simp; try with_reducible rfl)
  try simp only [Act.put, List.setIfInBounds_toArray, List.set_cons_zero, List.set_cons_succ]
  refine takeW (i := 3) (some 43) (v := ?_) rfl rfl (by kernel_rfl) (by kernel_rfl) (by kernel_rfl) (fun _ _ _ h => h) (by rfl) (by assumption) ?_ ?_
  rotate_left
  · (intro wS hSw; (try dsimp only at hSw); go_simp; try with_reducible rfl)
  try simp only [Act.put, List.setIfInBounds_toArray, List.set_cons_zero, List.set_cons_succ]
  refine takeW (i := 4) (some 44) (v := ?_) rfl rfl (by kernel_rfl) (by kernel_rfl) (by kernel_rfl) (fun _ _ _ h => h) (by rfl) (by assumption) ?_ ?_
  rotate_left
  · (intro wS hSw; (try dsimp only at hSw); go_simp; try with_reducible rfl)
  try simp only [Act.put, List.setIfInBounds_toArray, List.set_cons_zero, List.set_cons_succ]
  refine takeW (i := 5) (some 45) (v := ?_) rfl rfl (by kernel_rfl) (by kernel_rfl) (by kernel_rfl) (fun _ _ _ h => h) (by rfl) (by assumption) ?_ ?_
  rotate_left
  · (intro wS hSw; (try dsimp only at hSw); go_simp; try with_reducible rfl)
  try simp only [Act.put, List.setIfInBounds_toArray, List.set_cons_zero, List.set_cons_succ]
  refine takeW (i := 6) (some 46) (v := ?_) rfl rfl (by kernel_rfl) (by kernel_rfl) (by kernel_rfl) (fun _ _ _ h => h) (by rfl) (by assumption) ?_ ?_
  rotate_left
  · (intro wS hSw; (try dsimp only at hSw); go_simp; try with_reducible rfl)
  try simp only [Act.put, List.setIfInBounds_toArray, List.set_cons_zero, List.set_cons_succ]
  refine takeW (i := 7) (some 47) (v := ?_) rfl rfl (by kernel_rfl) (by kernel_rfl) (by kernel_rfl) (fun _ _ _ h => h) (by rfl) (by assumption) ?_ ?_
  rotate_left
  · (intro wS hSw; (try dsimp only at hSw); go_simp; try with_reducible rfl)
  try simp only [Act.put, List.setIfInBounds_toArray, List.set_cons_zero, List.set_cons_succ]
  refine takeW (i := 8) (some 48) (v := ?_) rfl rfl (by kernel_rfl) (by kernel_rfl) (by kernel_rfl) (fun _ _ _ h => h) (by rfl) (by assumption) ?_ ?_
  rotate_left
  · (intro wS hSw; (try dsimp only at hSw); go_simp; try with_reducible rfl)
  try simp only [Act.put, List.setIfInBounds_toArray, List.set_cons_zero, List.set_cons_succ]
  refine takeW (i := 9) (some 39) (v := ?_) rfl rfl (by kernel_rfl) (by kernel_rfl) (by kernel_rfl) (fun _ _ _ h => h) (by rfl) (by assumption) ?_ ?_
  rotate_left
  · (intro wS hSw; (try dsimp only at hSw); go_simp; try with_reducible rfl)
  try simp only [Act.put, List.setIfInBounds_toArray, List.set_cons_zero, List.set_cons_succ]
  refine wpAnyH_done (by kernel_rfl) ?_ _
  have u0 := (E7.out.fc 0 rfl).2
  have u1 := (E7.out.fc 1 rfl).2
  have u2 := (E7.out.fc 2 rfl).2
  have u3 := (E7.out.fc 3 rfl).2
  have u4 := (E7.out.fc 4 rfl).2
  have b4 := E7.out.bx 2 rfl
  have c4_7 := b4.cell 7 rfl
  clear b4
  go_wp2_with fail
  refine (copyOf_c dn[kk] (E7.out.fc 5 rfl) (hF.out.2.2 kk hk)).mono ?_
  rintro e w6 ⟨⟨nba, nbk, rfl, hnb⟩, hb⟩
  have E8 := Lib.hid (E7.out.got (E7.out.below hb) (.bs (.slice nba dn[kk].body.length nbk) dn[kk].body) hnb.out)
  clear u0 u1 u2 u3 u4 c4_7 E7 hb hnb
  have b5 := E8.out.bx 0 rfl
  have c5_0 := b5.cell 0 rfl
  have c5_1 := b5.cell 1 rfl
  have c5_2 := b5.cell 2 rfl
  have c5_3 := b5.cell 3 rfl
  have c5_4 := b5.cell 4 rfl
  have f5_0 := b5.frozen 0
  have f5_1 := b5.frozen 1
  have f5_2 := b5.frozen 2
  have f5_3 := b5.frozen 3
  have f5_4 := b5.frozen 4
  clear b5
  have hgd : dn.getD kk M0 = dn[kk] := by simp [hk]
  go_wp2
  have E9 : Hid (Env D w [(w.heap.size + 1 + 1, 24, [.int .i64 dn[kk].fr, .int .i64 dn[kk].to_, .int .i64 dn[kk].kd, .int .i64 dn[kk].nm, .slice nba dn[kk].body.length nbk]), (w.heap.size + 1, 24, [.int .i64 fr2, .int .i64 to2, .int .i64 kd2, .int .i64 nm2, .slice ya body2.length yk]), (w.heap.size, 27, [.int .i64 nx, .bool wt, .int .i64 fr, .int .i64 to_, .int .i64 kd, .int .i64 nm, .slice xa body.length xk, .slice (some ⟨db, df, none⟩) dn.length dj, .int .i64 tr])] [.bs (.slice nba dn[kk].body.length nbk) dn[kk].body, .ce db (df + kk * 5) (.int .i64 dn[kk].fr), .ce db (df + kk * 5 + 1) (.int .i64 dn[kk].to_), .ce db (df + kk * 5 + 2) (.int .i64 dn[kk].kd), .ce db (df + kk * 5 + 3) (.int .i64 dn[kk].nm), .ce db (df + kk * 5 + 4) (.slice ua dn[kk].body.length uk), .bs (.slice ua dn[kk].body.length uk) dn[kk].body, .bs (.slice ya body2.length yk) body2, .ms (.slice (some ⟨db, df, none⟩) dn.length dj) dn, .bs (.slice xa body.length xk) body] _) := Lib.hid ((((((E8.out.set 0 0 (.int .i64 dn[kk].fr) rfl).set 0 1 (.int .i64 dn[kk].to_) rfl).set 0 2 (.int .i64 dn[kk].kd) rfl).set 0 3 (.int .i64 dn[kk].nm) rfl).set 0 4 (.slice nba dn[kk].body.length nbk) rfl))
  have hfin := E9.out
  have q6 := (hfin.bx 0 rfl).cell 0 rfl
  have q7 := (hfin.bx 0 rfl).cell 1 rfl
  have q8 := (hfin.bx 0 rfl).cell 2 rfl
  have q9 := (hfin.bx 0 rfl).cell 3 rfl
  have q10 := (hfin.bx 0 rfl).cell 4 rfl
  exact bodyPost_ret (v := .tuple #[.agg #[.int .i64 dn[kk].fr, .int .i64 dn[kk].to_, .int .i64 dn[kk].kd, .int .i64 dn[kk].nm, .slice nba dn[kk].body.length nbk], .int .i64 0]) (by simp [results, Try.results15, go_sem, q6, q7, q8, q9, q10]) rfl ⟨by rw [hgd]; exact ⟨_, _, rfl, (Lib.hid (hfin.out 0 rfl))⟩, hfin.bel⟩
/-- the example of the chapter -/
def ms1 : Msg := ⟨1, 2, 7, 0, []⟩
def ms2 : Msg := ⟨0, 0, 8, 0, []⟩
def ms3 : Msg := ⟨2, 1, 8, 0, []⟩
def ss1 : Ses := ⟨1, true, ms1, [], 1⟩
def ss3 : Ses := ⟨0, false, M0, [ms3], 0⟩
theorem ss1.ok : SesOk ss1 := ⟨⟨by decide, by decide, by decide⟩, fun _ => ⟨by decide, by decide, by decide, by decide⟩, (fun h => absurd h (by decide)), (fun i h => absurd h (by simp [ss1]))⟩
theorem ss3.ok : SesOk ss3 := ⟨⟨by decide, by decide, by decide⟩, (fun h => absurd h (by decide)), (fun _ => ⟨by decide, by decide⟩), fun i h hi => by
  obtain rfl : i = 0 := by simp [ss3] at h; exact h
  exact ⟨(show msgOk ms3 = true by decide), fun j hj e => by omega⟩⟩
theorem ask_aw {D : Nat → Prop} {w : World} : Calls Try.prog 24 #[.agg #[.int .i64 0, .bool false, .int .i64 0, .int .i64 0, .int .i64 0, .int .i64 0, .slice none 0 0, .slice none 0 0, .int .i64 0], .agg #[.int .i64 1, .int .i64 2, .int .i64 7, .int .i64 0, .slice none 0 0]] w fun e w' => (∃ ao k bo j co i, e = .returned (.tuple #[.agg #[.int .i64 1, .bool true, .int .i64 1, .int .i64 2, .int .i64 7, .int .i64 0, .slice ao 0 k, .slice bo 0 j, .int .i64 1], .agg #[.int .i64 1, .int .i64 2, .int .i64 7, .int .i64 0, .slice co 0 i], .int .i64 0]) ∧ Hid (Bs w' (fun b => D b ∨ w.heap.size ≤ b) (.slice ao 0 k) []) ∧ Hid (Ms w' (fun b => D b ∨ w.heap.size ≤ b) (.slice bo 0 j) []) ∧ Hid (Bs w' (fun b => D b ∨ w.heap.size ≤ b) (.slice co 0 i) [])) ∧ Below w.heap.size w w' :=
  Ask_0 0 0 0 0 0 0 [] [] 1 2 7 0 [] (Bs.nil w D) (Ms.nil w D) (Bs.nil w D) S0.ok (by decide) (by decide)
theorem done_aw {D : Nat → Prop} {xa : Option Addr} {xk : Nat} {w : World} (hx : Fct.at w D (.bs (.slice xa 0 xk) [])) : Calls Try.prog 17 #[.agg #[.int .i64 0, .bool false, .int .i64 0, .int .i64 0, .int .i64 0, .int .i64 0, .slice none 0 0, .slice none 0 0, .int .i64 0], .agg #[.int .i64 1, .int .i64 2, .int .i64 7, .int .i64 0, .slice xa 0 xk], .agg #[.int .i64 0, .int .i64 0, .int .i64 8, .int .i64 0, .slice none 0 0]] w fun e w' => (∃ ao k bo j, e = .returned (.tuple #[.agg #[.int .i64 0, .bool false, .int .i64 0, .int .i64 0, .int .i64 0, .int .i64 0, .slice ao 0 k, .slice bo 1 j, .int .i64 0], .int .i64 0]) ∧ Hid (Bs w' (fun b => D b ∨ w.heap.size ≤ b) (.slice ao 0 k) []) ∧ Hid (Ms w' (fun b => D b ∨ w.heap.size ≤ b) (.slice bo 1 j) [ms3])) ∧ Below w.heap.size w w' :=
  Done_0 1 2 7 0 [] 0 0 8 0 [] hx (Bs.nil w D) (by decide) (by decide)
theorem known_aw {D : Nat → Prop} {xa da ya : Option Addr} {xk dj yk : Nat} {w : World} (hx : Fct.at w D (.bs (.slice xa 0 xk) [])) (hy : Fct.at w D (.ms (.slice da 1 dj) [ms3])) (hz : Fct.at w D (.bs (.slice ya 0 yk) [])) : Calls Try.prog 15 #[.agg #[.int .i64 0, .bool false, .int .i64 0, .int .i64 0, .int .i64 0, .int .i64 0, .slice xa 0 xk, .slice da 1 dj, .int .i64 0], .agg #[.int .i64 1, .int .i64 2, .int .i64 7, .int .i64 0, .slice ya 0 yk]] w fun e w' => (∃ ao k, e = .returned (.tuple #[.agg #[.int .i64 2, .int .i64 1, .int .i64 8, .int .i64 0, .slice ao 0 k], .int .i64 0]) ∧ Hid (Bs w' (fun b => D b ∨ w.heap.size ≤ b) (.slice ao 0 k) [])) ∧ Below w.heap.size w w' := by
  obtain ⟨b, off, j, e⟩ := Ms.open hy (by simp)
  rw [e] at hy ⊢
  exact Known_ok 0 0 0 0 0 0 false [] [ms3] 1 2 7 0 [] 0 hx hy hz ss3.ok (by decide) (by simp) ⟨rfl, rfl⟩
theorem accept_aw {D : Nat → Prop} {xa da ya : Option Addr} {xk dj yk : Nat} {w : World} (hx : Fct.at w D (.bs (.slice xa 0 xk) [])) (hy : Fct.at w D (.ms (.slice da 0 dj) [])) (hz : Fct.at w D (.bs (.slice ya 0 yk) [])) : Calls Try.prog 28 #[.agg #[.int .i64 1, .bool true, .int .i64 1, .int .i64 2, .int .i64 7, .int .i64 0, .slice xa 0 xk, .slice da 0 dj, .int .i64 1], .agg #[.int .i64 2, .int .i64 1, .int .i64 8, .int .i64 0, .slice ya 0 yk]] w fun e w' => (∃ ao k bo j, e = .returned (.tuple #[.agg #[.int .i64 1, .bool false, .int .i64 0, .int .i64 0, .int .i64 0, .int .i64 0, .slice ao 0 k, .slice bo 0 j, .int .i64 0], .bool true, .int .i64 0]) ∧ Hid (Bs w' (fun b => D b ∨ w.heap.size ≤ b) (.slice ao 0 k) []) ∧ Hid (Ms w' (fun b => D b ∨ w.heap.size ≤ b) (.slice bo 0 j) [])) ∧ Below w.heap.size w w' :=
  Accept_t 1 1 2 7 0 1 [] [] 2 1 8 0 [] hx hy hz ss1.ok (by decide) (by decide)
set_option maxRecDepth 100000 in
set_option maxHeartbeats 1000000 in
theorem awake_c {D : Nat → Prop}  {w : World}   :
    Calls Try.prog 12 #[] w fun e w' => e = .returned (.bool true) ∧ Below w.heap.size w w' := by
  have E0 := Lib.hid (Env.start D w)
  go_enter Try.func12, Try.ntmps12
  go_wp2_with fail
  refine (New_0 _).mono ?_
  rintro e w1 ⟨rfl, hb⟩
  have E1 := Lib.hid (E0.out.below hb)
  clear E0 hb
  go_wp2_with fail
  refine (ask_aw (D := (DF D w.heap.size []))).mono ?_
  rintro e w2 ⟨⟨pa, pk, pb, pj, qa, qk, rfl, hp1, hp2, hq⟩, hb⟩
  have E2 := Lib.hid (E1.out.got (E1.out.got (E1.out.got (E1.out.below hb) (.bs (.slice pa 0 pk) []) hp1.out) (.ms (.slice pb 0 pj) []) hp2.out) (.bs (.slice qa 0 qk) []) hq.out)
  clear E1 hb hp1 hp2 hq
  go_wp2_with fail
  have E3 := Lib.hid (((E2.out.push 27 [.int .i64 1, .bool true, .int .i64 1, .int .i64 2, .int .i64 7, .int .i64 0, .slice pa 0 pk, .slice pb 0 pj, .int .i64 1] (w2.heap.size) (by simp)).push 24 [.int .i64 1, .int .i64 2, .int .i64 7, .int .i64 0, .slice qa 0 qk] (w2.heap.size + 1) (by simp)))
  clear E2
  generalize (w2.alloc (.cells #[.int .i64 1, .bool true, .int .i64 1, .int .i64 2, .int .i64 7, .int .i64 0, .slice pa 0 pk, .slice pb 0 pj, .int .i64 1] 27)).alloc (.cells #[.int .i64 1, .int .i64 2, .int .i64 7, .int .i64 0, .slice qa 0 qk] 24) = w3 at *
  have E4 := Lib.hid E3.out.drew
  clear E3
  refine wp_region_held_drew (S := fun w' => w'.cell? ⟨w2.heap.size + 1, 0, none⟩ = some (.int .i64 1) ∧ w'.cell? ⟨w2.heap.size + 1, 1, none⟩ = some (.int .i64 2) ∧ w'.cell? ⟨w2.heap.size + 1, 2, none⟩ = some (.int .i64 7) ∧ w'.cell? ⟨w2.heap.size + 1, 3, none⟩ = some (.int .i64 0) ∧ w'.cell? ⟨w2.heap.size + 1, 4, none⟩ = some (.slice qa 0 qk)) (by kernel_rfl) (⟨((E4.out.bx 0 rfl).cell 0 rfl), ((E4.out.bx 0 rfl).cell 1 rfl), ((E4.out.bx 0 rfl).cell 2 rfl), ((E4.out.bx 0 rfl).cell 3 rfl), ((E4.out.bx 0 rfl).cell 4 rfl)⟩) (fun hHeld => ?_)
  generalize w3.drew = w4 at *
  refine takeW (i := 1) (some 19) (v := ?_) rfl rfl (by kernel_rfl) (by kernel_rfl) (by kernel_rfl) (fun _ _ _ h => h) (by rfl) (by assumption) ?_ ?_
  rotate_left
  · (intro wS hSw; (try dsimp only at hSw); go_simp; try with_reducible rfl)
  try simp only [Act.put, List.setIfInBounds_toArray, List.set_cons_zero, List.set_cons_succ]
  refine takeW (i := 2) (some 20) (v := ?_) rfl rfl (by kernel_rfl) (by kernel_rfl) (by kernel_rfl) (fun _ _ _ h => h) (by rfl) (by assumption) ?_ ?_
  rotate_left
  · (intro wS hSw; (try dsimp only at hSw); go_simp; try with_reducible rfl)
  try simp only [Act.put, List.setIfInBounds_toArray, List.set_cons_zero, List.set_cons_succ]
  refine wpAnyH_ready (rs := [0, 7]) (by kernel_rfl) (by simp) ?_
  refine AllReadyH.cons rfl (fun KK hKK => ?_) (AllReadyH.cons rfl (fun KK hKK => ?_) AllReadyH.nil)
  · skip
    go_simp
    refine (New_0 _).mono ?_
    rintro e w5 ⟨rfl, hbr⟩
    have E5 := Lib.hid (E4.out.below hbr)
    clear E4 hbr
    (try dsimp only)
    clear hHeld
    refine hKK.out _ _ (⟨((E5.out.bx 0 rfl).cell 0 rfl), ((E5.out.bx 0 rfl).cell 1 rfl), ((E5.out.bx 0 rfl).cell 2 rfl), ((E5.out.bx 0 rfl).cell 3 rfl), ((E5.out.bx 0 rfl).cell 4 rfl)⟩) (fun hHeld => ?_)
    clear hKK KK
    try simp only [Act.put, List.setIfInBounds_toArray, List.set_cons_zero, List.set_cons_succ]
    refine wpAnyH_ready (rs := [3, 7]) (by kernel_rfl) (by simp) ?_
    refine AllReadyH.cons rfl (fun KK hKK => ?_) (AllReadyH.cons rfl (fun KK hKK => ?_) AllReadyH.nil)
    · skip
      go_simp
      refine (done_aw (E5.out.fc 0 rfl)).mono ?_
      rintro e w6 ⟨⟨da, dk, db, dj, rfl, hd1, hd2⟩, hbr⟩
      have E6 := Lib.hid (E5.out.got (E5.out.got (E5.out.below hbr) (.bs (.slice da 0 dk) []) hd1.out) (.ms (.slice db 1 dj) [ms3]) hd2.out)
      clear E5 hbr hd1 hd2
      (try dsimp only)
      clear hHeld
      refine hKK.out _ _ (⟨((E6.out.bx 0 rfl).cell 0 rfl), ((E6.out.bx 0 rfl).cell 1 rfl), ((E6.out.bx 0 rfl).cell 2 rfl), ((E6.out.bx 0 rfl).cell 3 rfl), ((E6.out.bx 0 rfl).cell 4 rfl)⟩) (fun hHeld => ?_)
      clear hKK KK
      try simp only [Act.put, List.setIfInBounds_toArray, List.set_cons_zero, List.set_cons_succ]
      refine takeW (i := 4) (some 17) (v := ?_) rfl rfl (by kernel_rfl) (by kernel_rfl) (by kernel_rfl) (fun _ _ _ h => h) (by rfl) (by assumption) ?_ ?_
      rotate_left
      · (intro wS hSw; (try dsimp only at hSw); go_simp; try with_reducible rfl)
      try simp only [Act.put, List.setIfInBounds_toArray, List.set_cons_zero, List.set_cons_succ]
      refine takeW (i := 5) (some 22) (v := ?_) rfl rfl (by kernel_rfl) (by kernel_rfl) (by kernel_rfl) (fun _ _ _ h => h) (by rfl) (by assumption) ?_ ?_
      rotate_left
      · (intro wS hSw; (try dsimp only at hSw); go_simp; try with_reducible rfl)
      try simp only [Act.put, List.setIfInBounds_toArray, List.set_cons_zero, List.set_cons_succ]
      refine takeW (i := 6) (some 23) (v := ?_) rfl rfl (by kernel_rfl) (by kernel_rfl) (by kernel_rfl) (fun _ _ _ h => h) (by rfl) (by assumption) ?_ ?_
      rotate_left
      · (intro wS hSw; (try dsimp only at hSw); go_simp; try with_reducible rfl)
      try simp only [Act.put, List.setIfInBounds_toArray, List.set_cons_zero, List.set_cons_succ]
      refine wpAnyH_ready (rs := [7]) (by kernel_rfl) (by simp) ?_
      refine AllReadyH.cons rfl (fun KK hKK => ?_) AllReadyH.nil
      go_simp
      have E7 := Lib.hid ((E6.out.push 27 [.int .i64 0, .bool false, .int .i64 0, .int .i64 0, .int .i64 0, .int .i64 0, .slice none 0 0, .slice none 0 0, .int .i64 0] (w6.heap.size) (by simp)))
      (try dsimp only)
      clear hHeld
      refine hKK.out _ _ (⟨((E7.out.bx 1 rfl).cell 0 rfl), ((E7.out.bx 1 rfl).cell 1 rfl), ((E7.out.bx 1 rfl).cell 2 rfl), ((E7.out.bx 1 rfl).cell 3 rfl), ((E7.out.bx 1 rfl).cell 4 rfl)⟩) (fun hHeld => ?_)
      clear hKK KK
      try simp only [Act.put, List.setIfInBounds_toArray, List.set_cons_zero, List.set_cons_succ]
      clear E6
      generalize w6.alloc (.cells #[.int .i64 0, .bool false, .int .i64 0, .int .i64 0, .int .i64 0, .int .i64 0, .slice none 0 0, .slice none 0 0, .int .i64 0] 27) = w7 at *
      have b1 := E7.out.bx 0 rfl
      have c1_0 := b1.cell 0 rfl
      have c1_1 := b1.cell 1 rfl
      have c1_2 := b1.cell 2 rfl
      have c1_3 := b1.cell 3 rfl
      have c1_4 := b1.cell 4 rfl
      have c1_5 := b1.cell 5 rfl
      have c1_6 := b1.cell 6 rfl
      have c1_7 := b1.cell 7 rfl
      have c1_8 := b1.cell 8 rfl
      have f1_0 := b1.frozen 0
      have f1_1 := b1.frozen 1
      have f1_2 := b1.frozen 2
      have f1_3 := b1.frozen 3
      have f1_4 := b1.frozen 4
      have f1_5 := b1.frozen 5
      have f1_6 := b1.frozen 6
      have f1_7 := b1.frozen 7
      have f1_8 := b1.frozen 8
      clear b1
      refine wpAnyH_next (i := 8) (by kernel_rfl) rfl (fun KK hKK => ?_)
      go_simp
      have E8 : Hid (Env D w [(w6.heap.size, 27, [.int .i64 0, .bool false, .int .i64 0, .int .i64 0, .int .i64 0, .int .i64 0, .slice da 0 dk, .slice db 1 dj, .int .i64 0]), (w2.heap.size + 1, 24, [.int .i64 1, .int .i64 2, .int .i64 7, .int .i64 0, .slice qa 0 qk]), (w2.heap.size, 27, [.int .i64 1, .bool true, .int .i64 1, .int .i64 2, .int .i64 7, .int .i64 0, .slice pa 0 pk, .slice pb 0 pj, .int .i64 1])] [.ms (.slice db 1 dj) [ms3], .bs (.slice da 0 dk) [], .bs (.slice qa 0 qk) [], .ms (.slice pb 0 pj) [], .bs (.slice pa 0 pk) []] _) := Lib.hid ((((((((((E7.out.set 0 0 (.int .i64 0) rfl).set 0 1 (.bool false) rfl).set 0 2 (.int .i64 0) rfl).set 0 3 (.int .i64 0) rfl).set 0 4 (.int .i64 0) rfl).set 0 5 (.int .i64 0) rfl).set 0 6 (.slice da 0 dk) rfl).set 0 7 (.slice db 1 dj) rfl).set 0 8 (.int .i64 0) rfl))
      refine hKK.out _ _ (⟨((E8.out.bx 1 rfl).cell 0 rfl), ((E8.out.bx 1 rfl).cell 1 rfl), ((E8.out.bx 1 rfl).cell 2 rfl), ((E8.out.bx 1 rfl).cell 3 rfl), ((E8.out.bx 1 rfl).cell 4 rfl)⟩) ?_
      clear hKK KK hHeld
      have hHeld : (fun w' : World => w'.cell? ⟨w2.heap.size + 1, 0, none⟩ = some (.int .i64 1) ∧ w'.cell? ⟨w2.heap.size + 1, 1, none⟩ = some (.int .i64 2) ∧ w'.cell? ⟨w2.heap.size + 1, 2, none⟩ = some (.int .i64 7) ∧ w'.cell? ⟨w2.heap.size + 1, 3, none⟩ = some (.int .i64 0) ∧ w'.cell? ⟨w2.heap.size + 1, 4, none⟩ = some (.slice qa 0 qk)) (((((((((w7.setCell ⟨w6.heap.size, 0, none⟩ (.int .i64 0)).setCell ⟨w6.heap.size, 1, none⟩ (.bool false)).setCell ⟨w6.heap.size, 2, none⟩ (.int .i64 0)).setCell ⟨w6.heap.size, 3, none⟩ (.int .i64 0)).setCell ⟨w6.heap.size, 4, none⟩ (.int .i64 0)).setCell ⟨w6.heap.size, 5, none⟩ (.int .i64 0)).setCell ⟨w6.heap.size, 6, none⟩ (.slice da 0 dk)).setCell ⟨w6.heap.size, 7, none⟩ (.slice db 1 dj)).setCell ⟨w6.heap.size, 8, none⟩ (.int .i64 0)) := ⟨((E8.out.bx 1 rfl).cell 0 rfl), ((E8.out.bx 1 rfl).cell 1 rfl), ((E8.out.bx 1 rfl).cell 2 rfl), ((E8.out.bx 1 rfl).cell 3 rfl), ((E8.out.bx 1 rfl).cell 4 rfl)⟩
      refine wpAnyH_next (i := 9) (by kernel_rfl) rfl (fun KK hKK => ?_)
      go_simp
      refine hKK.out _ _ (⟨((E8.out.bx 1 rfl).cell 0 rfl), ((E8.out.bx 1 rfl).cell 1 rfl), ((E8.out.bx 1 rfl).cell 2 rfl), ((E8.out.bx 1 rfl).cell 3 rfl), ((E8.out.bx 1 rfl).cell 4 rfl)⟩) ?_
      clear hKK KK hHeld
      have hHeld : (fun w' : World => w'.cell? ⟨w2.heap.size + 1, 0, none⟩ = some (.int .i64 1) ∧ w'.cell? ⟨w2.heap.size + 1, 1, none⟩ = some (.int .i64 2) ∧ w'.cell? ⟨w2.heap.size + 1, 2, none⟩ = some (.int .i64 7) ∧ w'.cell? ⟨w2.heap.size + 1, 3, none⟩ = some (.int .i64 0) ∧ w'.cell? ⟨w2.heap.size + 1, 4, none⟩ = some (.slice qa 0 qk)) (((((((((w7.setCell ⟨w6.heap.size, 0, none⟩ (.int .i64 0)).setCell ⟨w6.heap.size, 1, none⟩ (.bool false)).setCell ⟨w6.heap.size, 2, none⟩ (.int .i64 0)).setCell ⟨w6.heap.size, 3, none⟩ (.int .i64 0)).setCell ⟨w6.heap.size, 4, none⟩ (.int .i64 0)).setCell ⟨w6.heap.size, 5, none⟩ (.int .i64 0)).setCell ⟨w6.heap.size, 6, none⟩ (.slice da 0 dk)).setCell ⟨w6.heap.size, 7, none⟩ (.slice db 1 dj)).setCell ⟨w6.heap.size, 8, none⟩ (.int .i64 0)) := ⟨((E8.out.bx 1 rfl).cell 0 rfl), ((E8.out.bx 1 rfl).cell 1 rfl), ((E8.out.bx 1 rfl).cell 2 rfl), ((E8.out.bx 1 rfl).cell 3 rfl), ((E8.out.bx 1 rfl).cell 4 rfl)⟩
      refine wpAnyH_done (by kernel_rfl) ?_ _
      have b2 := E8.out.bx 0 rfl
      have c2_0 := b2.cell 0 rfl
      have c2_1 := b2.cell 1 rfl
      have c2_2 := b2.cell 2 rfl
      have c2_3 := b2.cell 3 rfl
      have c2_4 := b2.cell 4 rfl
      have c2_5 := b2.cell 5 rfl
      have c2_6 := b2.cell 6 rfl
      have c2_7 := b2.cell 7 rfl
      have c2_8 := b2.cell 8 rfl
      clear b2
      have b3 := E8.out.bx 1 rfl
      have c3_0 := b3.cell 0 rfl
      have c3_1 := b3.cell 1 rfl
      have c3_2 := b3.cell 2 rfl
      have c3_3 := b3.cell 3 rfl
      have c3_4 := b3.cell 4 rfl
      clear b3
      go_wp2_with fail
      refine (known_aw (E8.out.fc 1 rfl) (E8.out.fc 0 rfl) (E8.out.fc 2 rfl)).mono ?_
      rintro e w8 ⟨⟨ka, kq, rfl, hk9⟩, hb⟩
      have E9 := Lib.hid (E8.out.got (E8.out.below hb) (.bs (.slice ka 0 kq) []) hk9.out)
      clear c1_0 c1_1 c1_2 c1_3 c1_4 c1_5 c1_6 c1_7 c1_8 f1_0 f1_1 f1_2 f1_3 f1_4 f1_5 f1_6 f1_7 f1_8 c2_0 c2_1 c2_2 c2_3 c2_4 c2_5 c2_6 c2_7 c2_8 c3_0 c3_1 c3_2 c3_3 c3_4 E7 E8 hb hk9
      have E10 := Lib.hid ((E9.out.push 24 [.int .i64 2, .int .i64 1, .int .i64 8, .int .i64 0, .slice ka 0 kq] (w8.heap.size) (by simp)))
      have b4 := E10.out.bx 3 rfl
      have c4_0 := b4.cell 0 rfl
      have c4_1 := b4.cell 1 rfl
      have c4_2 := b4.cell 2 rfl
      have c4_3 := b4.cell 3 rfl
      have c4_4 := b4.cell 4 rfl
      have c4_5 := b4.cell 5 rfl
      have c4_6 := b4.cell 6 rfl
      have c4_7 := b4.cell 7 rfl
      have c4_8 := b4.cell 8 rfl
      clear b4
      have b5 := E10.out.bx 0 rfl
      have c5_0 := b5.cell 0 rfl
      have c5_1 := b5.cell 1 rfl
      have c5_2 := b5.cell 2 rfl
      have c5_3 := b5.cell 3 rfl
      have c5_4 := b5.cell 4 rfl
      clear b5
      go_wp2_with fail
      refine (accept_aw (E10.out.fc 5 rfl) (E10.out.fc 4 rfl) (E10.out.fc 0 rfl)).mono ?_
      rintro e w9 ⟨⟨ta, tk, tb, tj, rfl, ht1, ht2⟩, hb⟩
      have E11 := Lib.hid (E10.out.got (E10.out.got (E10.out.below hb) (.bs (.slice ta 0 tk) []) ht1.out) (.ms (.slice tb 0 tj) []) ht2.out)
      clear c4_0 c4_1 c4_2 c4_3 c4_4 c4_5 c4_6 c4_7 c4_8 c5_0 c5_1 c5_2 c5_3 c5_4 E9 E10 hb ht1 ht2
      have b6 := E11.out.bx 3 rfl
      have c6_0 := b6.cell 0 rfl
      have c6_1 := b6.cell 1 rfl
      have c6_2 := b6.cell 2 rfl
      have c6_3 := b6.cell 3 rfl
      have c6_4 := b6.cell 4 rfl
      have c6_5 := b6.cell 5 rfl
      have c6_6 := b6.cell 6 rfl
      have c6_7 := b6.cell 7 rfl
      have c6_8 := b6.cell 8 rfl
      have f6_0 := b6.frozen 0
      have f6_1 := b6.frozen 1
      have f6_2 := b6.frozen 2
      have f6_3 := b6.frozen 3
      have f6_4 := b6.frozen 4
      have f6_5 := b6.frozen 5
      have f6_6 := b6.frozen 6
      have f6_7 := b6.frozen 7
      have f6_8 := b6.frozen 8
      clear b6
      have E12 : Hid (Env D w [(w8.heap.size, 24, [.int .i64 2, .int .i64 1, .int .i64 8, .int .i64 0, .slice ka 0 kq]), (w6.heap.size, 27, [.int .i64 0, .bool false, .int .i64 0, .int .i64 0, .int .i64 0, .int .i64 0, .slice da 0 dk, .slice db 1 dj, .int .i64 0]), (w2.heap.size + 1, 24, [.int .i64 1, .int .i64 2, .int .i64 7, .int .i64 0, .slice qa 0 qk]), (w2.heap.size, 27, [.int .i64 1, .bool false, .int .i64 0, .int .i64 0, .int .i64 0, .int .i64 0, .slice ta 0 tk, .slice tb 0 tj, .int .i64 0])] [.ms (.slice tb 0 tj) [], .bs (.slice ta 0 tk) [], .bs (.slice ka 0 kq) [], .ms (.slice db 1 dj) [ms3], .bs (.slice da 0 dk) [], .bs (.slice qa 0 qk) [], .ms (.slice pb 0 pj) [], .bs (.slice pa 0 pk) []] _) := Lib.hid ((((((((((E11.out.set 3 0 (.int .i64 1) rfl).set 3 1 (.bool false) rfl).set 3 2 (.int .i64 0) rfl).set 3 3 (.int .i64 0) rfl).set 3 4 (.int .i64 0) rfl).set 3 5 (.int .i64 0) rfl).set 3 6 (.slice ta 0 tk) rfl).set 3 7 (.slice tb 0 tj) rfl).set 3 8 (.int .i64 0) rfl))
      have b7 := E12.out.bx 2 rfl
      have c7_3 := b7.cell 3 rfl
      clear b7
      have b8 := E12.out.bx 0 rfl
      have c8_0 := b8.cell 0 rfl
      clear b8
      have b9 := E12.out.bx 0 rfl
      have c9_1 := b9.cell 1 rfl
      clear b9
      have b10 := E12.out.bx 0 rfl
      have c10_2 := b10.cell 2 rfl
      clear b10
      have b11 := E12.out.bx 3 rfl
      have c11_1 := b11.cell 1 rfl
      clear b11
      have b12 := E12.out.bx 3 rfl
      have c12_0 := b12.cell 0 rfl
      clear b12
      have hfin := Lib.hid E12.out.bel
      go_wp2
      go_ret
      exact ⟨rfl, hfin.out⟩
    · skip
      go_simp
      have E6 := Lib.hid ((E5.out.push 27 [.int .i64 0, .bool false, .int .i64 0, .int .i64 0, .int .i64 0, .int .i64 0, .slice none 0 0, .slice none 0 0, .int .i64 0] (w5.heap.size) (by simp)))
      (try dsimp only)
      clear hHeld
      refine hKK.out _ _ (⟨((E6.out.bx 1 rfl).cell 0 rfl), ((E6.out.bx 1 rfl).cell 1 rfl), ((E6.out.bx 1 rfl).cell 2 rfl), ((E6.out.bx 1 rfl).cell 3 rfl), ((E6.out.bx 1 rfl).cell 4 rfl)⟩) (fun hHeld => ?_)
      clear hKK KK
      try simp only [Act.put, List.setIfInBounds_toArray, List.set_cons_zero, List.set_cons_succ]
      clear E5
      generalize w5.alloc (.cells #[.int .i64 0, .bool false, .int .i64 0, .int .i64 0, .int .i64 0, .int .i64 0, .slice none 0 0, .slice none 0 0, .int .i64 0] 27) = w6 at *
      refine wpAnyH_ready (rs := [3]) (by kernel_rfl) (by simp) ?_
      refine AllReadyH.cons rfl (fun KK hKK => ?_) AllReadyH.nil
      go_simp
      refine (done_aw (E6.out.fc 0 rfl)).mono ?_
      rintro e w7 ⟨⟨da, dk, db, dj, rfl, hd1, hd2⟩, hbr⟩
      have E7 := Lib.hid (E6.out.got (E6.out.got (E6.out.below hbr) (.bs (.slice da 0 dk) []) hd1.out) (.ms (.slice db 1 dj) [ms3]) hd2.out)
      clear E6 hbr hd1 hd2
      (try dsimp only)
      clear hHeld
      refine hKK.out _ _ (⟨((E7.out.bx 1 rfl).cell 0 rfl), ((E7.out.bx 1 rfl).cell 1 rfl), ((E7.out.bx 1 rfl).cell 2 rfl), ((E7.out.bx 1 rfl).cell 3 rfl), ((E7.out.bx 1 rfl).cell 4 rfl)⟩) (fun hHeld => ?_)
      clear hKK KK
      try simp only [Act.put, List.setIfInBounds_toArray, List.set_cons_zero, List.set_cons_succ]
      refine takeW (i := 4) (some 17) (v := ?_) rfl rfl (by kernel_rfl) (by kernel_rfl) (by kernel_rfl) (fun _ _ _ h => h) (by rfl) (by assumption) ?_ ?_
      rotate_left
      · (intro wS hSw; (try dsimp only at hSw); go_simp; try with_reducible rfl)
      try simp only [Act.put, List.setIfInBounds_toArray, List.set_cons_zero, List.set_cons_succ]
      refine takeW (i := 5) (some 22) (v := ?_) rfl rfl (by kernel_rfl) (by kernel_rfl) (by kernel_rfl) (fun _ _ _ h => h) (by rfl) (by assumption) ?_ ?_
      rotate_left
      · (intro wS hSw; (try dsimp only at hSw); go_simp; try with_reducible rfl)
      try simp only [Act.put, List.setIfInBounds_toArray, List.set_cons_zero, List.set_cons_succ]
      refine takeW (i := 6) (some 23) (v := ?_) rfl rfl (by kernel_rfl) (by kernel_rfl) (by kernel_rfl) (fun _ _ _ h => h) (by rfl) (by assumption) ?_ ?_
      rotate_left
      · (intro wS hSw; (try dsimp only at hSw); go_simp; try with_reducible rfl)
      try simp only [Act.put, List.setIfInBounds_toArray, List.set_cons_zero, List.set_cons_succ]
      have b1 := E7.out.bx 0 rfl
      have c1_0 := b1.cell 0 rfl
      have c1_1 := b1.cell 1 rfl
      have c1_2 := b1.cell 2 rfl
      have c1_3 := b1.cell 3 rfl
      have c1_4 := b1.cell 4 rfl
      have c1_5 := b1.cell 5 rfl
      have c1_6 := b1.cell 6 rfl
      have c1_7 := b1.cell 7 rfl
      have c1_8 := b1.cell 8 rfl
      have f1_0 := b1.frozen 0
      have f1_1 := b1.frozen 1
      have f1_2 := b1.frozen 2
      have f1_3 := b1.frozen 3
      have f1_4 := b1.frozen 4
      have f1_5 := b1.frozen 5
      have f1_6 := b1.frozen 6
      have f1_7 := b1.frozen 7
      have f1_8 := b1.frozen 8
      clear b1
      refine wpAnyH_next (i := 8) (by kernel_rfl) rfl (fun KK hKK => ?_)
      go_simp
      have E8 : Hid (Env D w [(w5.heap.size, 27, [.int .i64 0, .bool false, .int .i64 0, .int .i64 0, .int .i64 0, .int .i64 0, .slice da 0 dk, .slice db 1 dj, .int .i64 0]), (w2.heap.size + 1, 24, [.int .i64 1, .int .i64 2, .int .i64 7, .int .i64 0, .slice qa 0 qk]), (w2.heap.size, 27, [.int .i64 1, .bool true, .int .i64 1, .int .i64 2, .int .i64 7, .int .i64 0, .slice pa 0 pk, .slice pb 0 pj, .int .i64 1])] [.ms (.slice db 1 dj) [ms3], .bs (.slice da 0 dk) [], .bs (.slice qa 0 qk) [], .ms (.slice pb 0 pj) [], .bs (.slice pa 0 pk) []] _) := Lib.hid ((((((((((E7.out.set 0 0 (.int .i64 0) rfl).set 0 1 (.bool false) rfl).set 0 2 (.int .i64 0) rfl).set 0 3 (.int .i64 0) rfl).set 0 4 (.int .i64 0) rfl).set 0 5 (.int .i64 0) rfl).set 0 6 (.slice da 0 dk) rfl).set 0 7 (.slice db 1 dj) rfl).set 0 8 (.int .i64 0) rfl))
      refine hKK.out _ _ (⟨((E8.out.bx 1 rfl).cell 0 rfl), ((E8.out.bx 1 rfl).cell 1 rfl), ((E8.out.bx 1 rfl).cell 2 rfl), ((E8.out.bx 1 rfl).cell 3 rfl), ((E8.out.bx 1 rfl).cell 4 rfl)⟩) ?_
      clear hKK KK hHeld
      have hHeld : (fun w' : World => w'.cell? ⟨w2.heap.size + 1, 0, none⟩ = some (.int .i64 1) ∧ w'.cell? ⟨w2.heap.size + 1, 1, none⟩ = some (.int .i64 2) ∧ w'.cell? ⟨w2.heap.size + 1, 2, none⟩ = some (.int .i64 7) ∧ w'.cell? ⟨w2.heap.size + 1, 3, none⟩ = some (.int .i64 0) ∧ w'.cell? ⟨w2.heap.size + 1, 4, none⟩ = some (.slice qa 0 qk)) (((((((((w7.setCell ⟨w5.heap.size, 0, none⟩ (.int .i64 0)).setCell ⟨w5.heap.size, 1, none⟩ (.bool false)).setCell ⟨w5.heap.size, 2, none⟩ (.int .i64 0)).setCell ⟨w5.heap.size, 3, none⟩ (.int .i64 0)).setCell ⟨w5.heap.size, 4, none⟩ (.int .i64 0)).setCell ⟨w5.heap.size, 5, none⟩ (.int .i64 0)).setCell ⟨w5.heap.size, 6, none⟩ (.slice da 0 dk)).setCell ⟨w5.heap.size, 7, none⟩ (.slice db 1 dj)).setCell ⟨w5.heap.size, 8, none⟩ (.int .i64 0)) := ⟨((E8.out.bx 1 rfl).cell 0 rfl), ((E8.out.bx 1 rfl).cell 1 rfl), ((E8.out.bx 1 rfl).cell 2 rfl), ((E8.out.bx 1 rfl).cell 3 rfl), ((E8.out.bx 1 rfl).cell 4 rfl)⟩
      refine wpAnyH_next (i := 9) (by kernel_rfl) rfl (fun KK hKK => ?_)
      go_simp
      refine hKK.out _ _ (⟨((E8.out.bx 1 rfl).cell 0 rfl), ((E8.out.bx 1 rfl).cell 1 rfl), ((E8.out.bx 1 rfl).cell 2 rfl), ((E8.out.bx 1 rfl).cell 3 rfl), ((E8.out.bx 1 rfl).cell 4 rfl)⟩) ?_
      clear hKK KK hHeld
      have hHeld : (fun w' : World => w'.cell? ⟨w2.heap.size + 1, 0, none⟩ = some (.int .i64 1) ∧ w'.cell? ⟨w2.heap.size + 1, 1, none⟩ = some (.int .i64 2) ∧ w'.cell? ⟨w2.heap.size + 1, 2, none⟩ = some (.int .i64 7) ∧ w'.cell? ⟨w2.heap.size + 1, 3, none⟩ = some (.int .i64 0) ∧ w'.cell? ⟨w2.heap.size + 1, 4, none⟩ = some (.slice qa 0 qk)) (((((((((w7.setCell ⟨w5.heap.size, 0, none⟩ (.int .i64 0)).setCell ⟨w5.heap.size, 1, none⟩ (.bool false)).setCell ⟨w5.heap.size, 2, none⟩ (.int .i64 0)).setCell ⟨w5.heap.size, 3, none⟩ (.int .i64 0)).setCell ⟨w5.heap.size, 4, none⟩ (.int .i64 0)).setCell ⟨w5.heap.size, 5, none⟩ (.int .i64 0)).setCell ⟨w5.heap.size, 6, none⟩ (.slice da 0 dk)).setCell ⟨w5.heap.size, 7, none⟩ (.slice db 1 dj)).setCell ⟨w5.heap.size, 8, none⟩ (.int .i64 0)) := ⟨((E8.out.bx 1 rfl).cell 0 rfl), ((E8.out.bx 1 rfl).cell 1 rfl), ((E8.out.bx 1 rfl).cell 2 rfl), ((E8.out.bx 1 rfl).cell 3 rfl), ((E8.out.bx 1 rfl).cell 4 rfl)⟩
      refine wpAnyH_done (by kernel_rfl) ?_ _
      have b2 := E8.out.bx 0 rfl
      have c2_0 := b2.cell 0 rfl
      have c2_1 := b2.cell 1 rfl
      have c2_2 := b2.cell 2 rfl
      have c2_3 := b2.cell 3 rfl
      have c2_4 := b2.cell 4 rfl
      have c2_5 := b2.cell 5 rfl
      have c2_6 := b2.cell 6 rfl
      have c2_7 := b2.cell 7 rfl
      have c2_8 := b2.cell 8 rfl
      clear b2
      have b3 := E8.out.bx 1 rfl
      have c3_0 := b3.cell 0 rfl
      have c3_1 := b3.cell 1 rfl
      have c3_2 := b3.cell 2 rfl
      have c3_3 := b3.cell 3 rfl
      have c3_4 := b3.cell 4 rfl
      clear b3
      go_wp2_with fail
      refine (known_aw (E8.out.fc 1 rfl) (E8.out.fc 0 rfl) (E8.out.fc 2 rfl)).mono ?_
      rintro e w8 ⟨⟨ka, kq, rfl, hk9⟩, hb⟩
      have E9 := Lib.hid (E8.out.got (E8.out.below hb) (.bs (.slice ka 0 kq) []) hk9.out)
      clear c1_0 c1_1 c1_2 c1_3 c1_4 c1_5 c1_6 c1_7 c1_8 f1_0 f1_1 f1_2 f1_3 f1_4 f1_5 f1_6 f1_7 f1_8 c2_0 c2_1 c2_2 c2_3 c2_4 c2_5 c2_6 c2_7 c2_8 c3_0 c3_1 c3_2 c3_3 c3_4 E7 E8 hb hk9
      have E10 := Lib.hid ((E9.out.push 24 [.int .i64 2, .int .i64 1, .int .i64 8, .int .i64 0, .slice ka 0 kq] (w8.heap.size) (by simp)))
      have b4 := E10.out.bx 3 rfl
      have c4_0 := b4.cell 0 rfl
      have c4_1 := b4.cell 1 rfl
      have c4_2 := b4.cell 2 rfl
      have c4_3 := b4.cell 3 rfl
      have c4_4 := b4.cell 4 rfl
      have c4_5 := b4.cell 5 rfl
      have c4_6 := b4.cell 6 rfl
      have c4_7 := b4.cell 7 rfl
      have c4_8 := b4.cell 8 rfl
      clear b4
      have b5 := E10.out.bx 0 rfl
      have c5_0 := b5.cell 0 rfl
      have c5_1 := b5.cell 1 rfl
      have c5_2 := b5.cell 2 rfl
      have c5_3 := b5.cell 3 rfl
      have c5_4 := b5.cell 4 rfl
      clear b5
      go_wp2_with fail
      refine (accept_aw (E10.out.fc 5 rfl) (E10.out.fc 4 rfl) (E10.out.fc 0 rfl)).mono ?_
      rintro e w9 ⟨⟨ta, tk, tb, tj, rfl, ht1, ht2⟩, hb⟩
      have E11 := Lib.hid (E10.out.got (E10.out.got (E10.out.below hb) (.bs (.slice ta 0 tk) []) ht1.out) (.ms (.slice tb 0 tj) []) ht2.out)
      clear c4_0 c4_1 c4_2 c4_3 c4_4 c4_5 c4_6 c4_7 c4_8 c5_0 c5_1 c5_2 c5_3 c5_4 E9 E10 hb ht1 ht2
      have b6 := E11.out.bx 3 rfl
      have c6_0 := b6.cell 0 rfl
      have c6_1 := b6.cell 1 rfl
      have c6_2 := b6.cell 2 rfl
      have c6_3 := b6.cell 3 rfl
      have c6_4 := b6.cell 4 rfl
      have c6_5 := b6.cell 5 rfl
      have c6_6 := b6.cell 6 rfl
      have c6_7 := b6.cell 7 rfl
      have c6_8 := b6.cell 8 rfl
      have f6_0 := b6.frozen 0
      have f6_1 := b6.frozen 1
      have f6_2 := b6.frozen 2
      have f6_3 := b6.frozen 3
      have f6_4 := b6.frozen 4
      have f6_5 := b6.frozen 5
      have f6_6 := b6.frozen 6
      have f6_7 := b6.frozen 7
      have f6_8 := b6.frozen 8
      clear b6
      have E12 : Hid (Env D w [(w8.heap.size, 24, [.int .i64 2, .int .i64 1, .int .i64 8, .int .i64 0, .slice ka 0 kq]), (w5.heap.size, 27, [.int .i64 0, .bool false, .int .i64 0, .int .i64 0, .int .i64 0, .int .i64 0, .slice da 0 dk, .slice db 1 dj, .int .i64 0]), (w2.heap.size + 1, 24, [.int .i64 1, .int .i64 2, .int .i64 7, .int .i64 0, .slice qa 0 qk]), (w2.heap.size, 27, [.int .i64 1, .bool false, .int .i64 0, .int .i64 0, .int .i64 0, .int .i64 0, .slice ta 0 tk, .slice tb 0 tj, .int .i64 0])] [.ms (.slice tb 0 tj) [], .bs (.slice ta 0 tk) [], .bs (.slice ka 0 kq) [], .ms (.slice db 1 dj) [ms3], .bs (.slice da 0 dk) [], .bs (.slice qa 0 qk) [], .ms (.slice pb 0 pj) [], .bs (.slice pa 0 pk) []] _) := Lib.hid ((((((((((E11.out.set 3 0 (.int .i64 1) rfl).set 3 1 (.bool false) rfl).set 3 2 (.int .i64 0) rfl).set 3 3 (.int .i64 0) rfl).set 3 4 (.int .i64 0) rfl).set 3 5 (.int .i64 0) rfl).set 3 6 (.slice ta 0 tk) rfl).set 3 7 (.slice tb 0 tj) rfl).set 3 8 (.int .i64 0) rfl))
      have b7 := E12.out.bx 2 rfl
      have c7_3 := b7.cell 3 rfl
      clear b7
      have b8 := E12.out.bx 0 rfl
      have c8_0 := b8.cell 0 rfl
      clear b8
      have b9 := E12.out.bx 0 rfl
      have c9_1 := b9.cell 1 rfl
      clear b9
      have b10 := E12.out.bx 0 rfl
      have c10_2 := b10.cell 2 rfl
      clear b10
      have b11 := E12.out.bx 3 rfl
      have c11_1 := b11.cell 1 rfl
      clear b11
      have b12 := E12.out.bx 3 rfl
      have c12_0 := b12.cell 0 rfl
      clear b12
      have hfin := Lib.hid E12.out.bel
      go_wp2
      go_ret
      exact ⟨rfl, hfin.out⟩
  · skip
    go_simp
    have E5 := Lib.hid ((E4.out.push 27 [.int .i64 0, .bool false, .int .i64 0, .int .i64 0, .int .i64 0, .int .i64 0, .slice none 0 0, .slice none 0 0, .int .i64 0] (w4.heap.size) (by simp)))
    (try dsimp only)
    clear hHeld
    refine hKK.out _ _ (⟨((E5.out.bx 1 rfl).cell 0 rfl), ((E5.out.bx 1 rfl).cell 1 rfl), ((E5.out.bx 1 rfl).cell 2 rfl), ((E5.out.bx 1 rfl).cell 3 rfl), ((E5.out.bx 1 rfl).cell 4 rfl)⟩) (fun hHeld => ?_)
    clear hKK KK
    try simp only [Act.put, List.setIfInBounds_toArray, List.set_cons_zero, List.set_cons_succ]
    clear E4
    generalize w4.alloc (.cells #[.int .i64 0, .bool false, .int .i64 0, .int .i64 0, .int .i64 0, .int .i64 0, .slice none 0 0, .slice none 0 0, .int .i64 0] 27) = w5 at *
    refine wpAnyH_ready (rs := [0]) (by kernel_rfl) (by simp) ?_
    refine AllReadyH.cons rfl (fun KK hKK => ?_) AllReadyH.nil
    go_simp
    refine (New_0 _).mono ?_
    rintro e w6 ⟨rfl, hbr⟩
    have E6 := Lib.hid (E5.out.below hbr)
    clear E5 hbr
    (try dsimp only)
    clear hHeld
    refine hKK.out _ _ (⟨((E6.out.bx 1 rfl).cell 0 rfl), ((E6.out.bx 1 rfl).cell 1 rfl), ((E6.out.bx 1 rfl).cell 2 rfl), ((E6.out.bx 1 rfl).cell 3 rfl), ((E6.out.bx 1 rfl).cell 4 rfl)⟩) (fun hHeld => ?_)
    clear hKK KK
    try simp only [Act.put, List.setIfInBounds_toArray, List.set_cons_zero, List.set_cons_succ]
    refine wpAnyH_ready (rs := [3]) (by kernel_rfl) (by simp) ?_
    refine AllReadyH.cons rfl (fun KK hKK => ?_) AllReadyH.nil
    go_simp
    refine (done_aw (E6.out.fc 0 rfl)).mono ?_
    rintro e w7 ⟨⟨da, dk, db, dj, rfl, hd1, hd2⟩, hbr⟩
    have E7 := Lib.hid (E6.out.got (E6.out.got (E6.out.below hbr) (.bs (.slice da 0 dk) []) hd1.out) (.ms (.slice db 1 dj) [ms3]) hd2.out)
    clear E6 hbr hd1 hd2
    (try dsimp only)
    clear hHeld
    refine hKK.out _ _ (⟨((E7.out.bx 1 rfl).cell 0 rfl), ((E7.out.bx 1 rfl).cell 1 rfl), ((E7.out.bx 1 rfl).cell 2 rfl), ((E7.out.bx 1 rfl).cell 3 rfl), ((E7.out.bx 1 rfl).cell 4 rfl)⟩) (fun hHeld => ?_)
    clear hKK KK
    try simp only [Act.put, List.setIfInBounds_toArray, List.set_cons_zero, List.set_cons_succ]
    refine takeW (i := 4) (some 17) (v := ?_) rfl rfl (by kernel_rfl) (by kernel_rfl) (by kernel_rfl) (fun _ _ _ h => h) (by rfl) (by assumption) ?_ ?_
    rotate_left
    · (intro wS hSw; (try dsimp only at hSw); go_simp; try with_reducible rfl)
    try simp only [Act.put, List.setIfInBounds_toArray, List.set_cons_zero, List.set_cons_succ]
    refine takeW (i := 5) (some 22) (v := ?_) rfl rfl (by kernel_rfl) (by kernel_rfl) (by kernel_rfl) (fun _ _ _ h => h) (by rfl) (by assumption) ?_ ?_
    rotate_left
    · (intro wS hSw; (try dsimp only at hSw); go_simp; try with_reducible rfl)
    try simp only [Act.put, List.setIfInBounds_toArray, List.set_cons_zero, List.set_cons_succ]
    refine takeW (i := 6) (some 23) (v := ?_) rfl rfl (by kernel_rfl) (by kernel_rfl) (by kernel_rfl) (fun _ _ _ h => h) (by rfl) (by assumption) ?_ ?_
    rotate_left
    · (intro wS hSw; (try dsimp only at hSw); go_simp; try with_reducible rfl)
    try simp only [Act.put, List.setIfInBounds_toArray, List.set_cons_zero, List.set_cons_succ]
    have b1 := E7.out.bx 0 rfl
    have c1_0 := b1.cell 0 rfl
    have c1_1 := b1.cell 1 rfl
    have c1_2 := b1.cell 2 rfl
    have c1_3 := b1.cell 3 rfl
    have c1_4 := b1.cell 4 rfl
    have c1_5 := b1.cell 5 rfl
    have c1_6 := b1.cell 6 rfl
    have c1_7 := b1.cell 7 rfl
    have c1_8 := b1.cell 8 rfl
    have f1_0 := b1.frozen 0
    have f1_1 := b1.frozen 1
    have f1_2 := b1.frozen 2
    have f1_3 := b1.frozen 3
    have f1_4 := b1.frozen 4
    have f1_5 := b1.frozen 5
    have f1_6 := b1.frozen 6
    have f1_7 := b1.frozen 7
    have f1_8 := b1.frozen 8
    clear b1
    refine wpAnyH_next (i := 8) (by kernel_rfl) rfl (fun KK hKK => ?_)
    go_simp
    have E8 : Hid (Env D w [(w4.heap.size, 27, [.int .i64 0, .bool false, .int .i64 0, .int .i64 0, .int .i64 0, .int .i64 0, .slice da 0 dk, .slice db 1 dj, .int .i64 0]), (w2.heap.size + 1, 24, [.int .i64 1, .int .i64 2, .int .i64 7, .int .i64 0, .slice qa 0 qk]), (w2.heap.size, 27, [.int .i64 1, .bool true, .int .i64 1, .int .i64 2, .int .i64 7, .int .i64 0, .slice pa 0 pk, .slice pb 0 pj, .int .i64 1])] [.ms (.slice db 1 dj) [ms3], .bs (.slice da 0 dk) [], .bs (.slice qa 0 qk) [], .ms (.slice pb 0 pj) [], .bs (.slice pa 0 pk) []] _) := Lib.hid ((((((((((E7.out.set 0 0 (.int .i64 0) rfl).set 0 1 (.bool false) rfl).set 0 2 (.int .i64 0) rfl).set 0 3 (.int .i64 0) rfl).set 0 4 (.int .i64 0) rfl).set 0 5 (.int .i64 0) rfl).set 0 6 (.slice da 0 dk) rfl).set 0 7 (.slice db 1 dj) rfl).set 0 8 (.int .i64 0) rfl))
    refine hKK.out _ _ (⟨((E8.out.bx 1 rfl).cell 0 rfl), ((E8.out.bx 1 rfl).cell 1 rfl), ((E8.out.bx 1 rfl).cell 2 rfl), ((E8.out.bx 1 rfl).cell 3 rfl), ((E8.out.bx 1 rfl).cell 4 rfl)⟩) ?_
    clear hKK KK hHeld
    have hHeld : (fun w' : World => w'.cell? ⟨w2.heap.size + 1, 0, none⟩ = some (.int .i64 1) ∧ w'.cell? ⟨w2.heap.size + 1, 1, none⟩ = some (.int .i64 2) ∧ w'.cell? ⟨w2.heap.size + 1, 2, none⟩ = some (.int .i64 7) ∧ w'.cell? ⟨w2.heap.size + 1, 3, none⟩ = some (.int .i64 0) ∧ w'.cell? ⟨w2.heap.size + 1, 4, none⟩ = some (.slice qa 0 qk)) (((((((((w7.setCell ⟨w4.heap.size, 0, none⟩ (.int .i64 0)).setCell ⟨w4.heap.size, 1, none⟩ (.bool false)).setCell ⟨w4.heap.size, 2, none⟩ (.int .i64 0)).setCell ⟨w4.heap.size, 3, none⟩ (.int .i64 0)).setCell ⟨w4.heap.size, 4, none⟩ (.int .i64 0)).setCell ⟨w4.heap.size, 5, none⟩ (.int .i64 0)).setCell ⟨w4.heap.size, 6, none⟩ (.slice da 0 dk)).setCell ⟨w4.heap.size, 7, none⟩ (.slice db 1 dj)).setCell ⟨w4.heap.size, 8, none⟩ (.int .i64 0)) := ⟨((E8.out.bx 1 rfl).cell 0 rfl), ((E8.out.bx 1 rfl).cell 1 rfl), ((E8.out.bx 1 rfl).cell 2 rfl), ((E8.out.bx 1 rfl).cell 3 rfl), ((E8.out.bx 1 rfl).cell 4 rfl)⟩
    refine wpAnyH_next (i := 9) (by kernel_rfl) rfl (fun KK hKK => ?_)
    go_simp
    refine hKK.out _ _ (⟨((E8.out.bx 1 rfl).cell 0 rfl), ((E8.out.bx 1 rfl).cell 1 rfl), ((E8.out.bx 1 rfl).cell 2 rfl), ((E8.out.bx 1 rfl).cell 3 rfl), ((E8.out.bx 1 rfl).cell 4 rfl)⟩) ?_
    clear hKK KK hHeld
    have hHeld : (fun w' : World => w'.cell? ⟨w2.heap.size + 1, 0, none⟩ = some (.int .i64 1) ∧ w'.cell? ⟨w2.heap.size + 1, 1, none⟩ = some (.int .i64 2) ∧ w'.cell? ⟨w2.heap.size + 1, 2, none⟩ = some (.int .i64 7) ∧ w'.cell? ⟨w2.heap.size + 1, 3, none⟩ = some (.int .i64 0) ∧ w'.cell? ⟨w2.heap.size + 1, 4, none⟩ = some (.slice qa 0 qk)) (((((((((w7.setCell ⟨w4.heap.size, 0, none⟩ (.int .i64 0)).setCell ⟨w4.heap.size, 1, none⟩ (.bool false)).setCell ⟨w4.heap.size, 2, none⟩ (.int .i64 0)).setCell ⟨w4.heap.size, 3, none⟩ (.int .i64 0)).setCell ⟨w4.heap.size, 4, none⟩ (.int .i64 0)).setCell ⟨w4.heap.size, 5, none⟩ (.int .i64 0)).setCell ⟨w4.heap.size, 6, none⟩ (.slice da 0 dk)).setCell ⟨w4.heap.size, 7, none⟩ (.slice db 1 dj)).setCell ⟨w4.heap.size, 8, none⟩ (.int .i64 0)) := ⟨((E8.out.bx 1 rfl).cell 0 rfl), ((E8.out.bx 1 rfl).cell 1 rfl), ((E8.out.bx 1 rfl).cell 2 rfl), ((E8.out.bx 1 rfl).cell 3 rfl), ((E8.out.bx 1 rfl).cell 4 rfl)⟩
    refine wpAnyH_done (by kernel_rfl) ?_ _
    have b2 := E8.out.bx 0 rfl
    have c2_0 := b2.cell 0 rfl
    have c2_1 := b2.cell 1 rfl
    have c2_2 := b2.cell 2 rfl
    have c2_3 := b2.cell 3 rfl
    have c2_4 := b2.cell 4 rfl
    have c2_5 := b2.cell 5 rfl
    have c2_6 := b2.cell 6 rfl
    have c2_7 := b2.cell 7 rfl
    have c2_8 := b2.cell 8 rfl
    clear b2
    have b3 := E8.out.bx 1 rfl
    have c3_0 := b3.cell 0 rfl
    have c3_1 := b3.cell 1 rfl
    have c3_2 := b3.cell 2 rfl
    have c3_3 := b3.cell 3 rfl
    have c3_4 := b3.cell 4 rfl
    clear b3
    go_wp2_with fail
    refine (known_aw (E8.out.fc 1 rfl) (E8.out.fc 0 rfl) (E8.out.fc 2 rfl)).mono ?_
    rintro e w8 ⟨⟨ka, kq, rfl, hk9⟩, hb⟩
    have E9 := Lib.hid (E8.out.got (E8.out.below hb) (.bs (.slice ka 0 kq) []) hk9.out)
    clear c1_0 c1_1 c1_2 c1_3 c1_4 c1_5 c1_6 c1_7 c1_8 f1_0 f1_1 f1_2 f1_3 f1_4 f1_5 f1_6 f1_7 f1_8 c2_0 c2_1 c2_2 c2_3 c2_4 c2_5 c2_6 c2_7 c2_8 c3_0 c3_1 c3_2 c3_3 c3_4 E7 E8 hb hk9
    have E10 := Lib.hid ((E9.out.push 24 [.int .i64 2, .int .i64 1, .int .i64 8, .int .i64 0, .slice ka 0 kq] (w8.heap.size) (by simp)))
    have b4 := E10.out.bx 3 rfl
    have c4_0 := b4.cell 0 rfl
    have c4_1 := b4.cell 1 rfl
    have c4_2 := b4.cell 2 rfl
    have c4_3 := b4.cell 3 rfl
    have c4_4 := b4.cell 4 rfl
    have c4_5 := b4.cell 5 rfl
    have c4_6 := b4.cell 6 rfl
    have c4_7 := b4.cell 7 rfl
    have c4_8 := b4.cell 8 rfl
    clear b4
    have b5 := E10.out.bx 0 rfl
    have c5_0 := b5.cell 0 rfl
    have c5_1 := b5.cell 1 rfl
    have c5_2 := b5.cell 2 rfl
    have c5_3 := b5.cell 3 rfl
    have c5_4 := b5.cell 4 rfl
    clear b5
    go_wp2_with fail
    refine (accept_aw (E10.out.fc 5 rfl) (E10.out.fc 4 rfl) (E10.out.fc 0 rfl)).mono ?_
    rintro e w9 ⟨⟨ta, tk, tb, tj, rfl, ht1, ht2⟩, hb⟩
    have E11 := Lib.hid (E10.out.got (E10.out.got (E10.out.below hb) (.bs (.slice ta 0 tk) []) ht1.out) (.ms (.slice tb 0 tj) []) ht2.out)
    clear c4_0 c4_1 c4_2 c4_3 c4_4 c4_5 c4_6 c4_7 c4_8 c5_0 c5_1 c5_2 c5_3 c5_4 E9 E10 hb ht1 ht2
    have b6 := E11.out.bx 3 rfl
    have c6_0 := b6.cell 0 rfl
    have c6_1 := b6.cell 1 rfl
    have c6_2 := b6.cell 2 rfl
    have c6_3 := b6.cell 3 rfl
    have c6_4 := b6.cell 4 rfl
    have c6_5 := b6.cell 5 rfl
    have c6_6 := b6.cell 6 rfl
    have c6_7 := b6.cell 7 rfl
    have c6_8 := b6.cell 8 rfl
    have f6_0 := b6.frozen 0
    have f6_1 := b6.frozen 1
    have f6_2 := b6.frozen 2
    have f6_3 := b6.frozen 3
    have f6_4 := b6.frozen 4
    have f6_5 := b6.frozen 5
    have f6_6 := b6.frozen 6
    have f6_7 := b6.frozen 7
    have f6_8 := b6.frozen 8
    clear b6
    have E12 : Hid (Env D w [(w8.heap.size, 24, [.int .i64 2, .int .i64 1, .int .i64 8, .int .i64 0, .slice ka 0 kq]), (w4.heap.size, 27, [.int .i64 0, .bool false, .int .i64 0, .int .i64 0, .int .i64 0, .int .i64 0, .slice da 0 dk, .slice db 1 dj, .int .i64 0]), (w2.heap.size + 1, 24, [.int .i64 1, .int .i64 2, .int .i64 7, .int .i64 0, .slice qa 0 qk]), (w2.heap.size, 27, [.int .i64 1, .bool false, .int .i64 0, .int .i64 0, .int .i64 0, .int .i64 0, .slice ta 0 tk, .slice tb 0 tj, .int .i64 0])] [.ms (.slice tb 0 tj) [], .bs (.slice ta 0 tk) [], .bs (.slice ka 0 kq) [], .ms (.slice db 1 dj) [ms3], .bs (.slice da 0 dk) [], .bs (.slice qa 0 qk) [], .ms (.slice pb 0 pj) [], .bs (.slice pa 0 pk) []] _) := Lib.hid ((((((((((E11.out.set 3 0 (.int .i64 1) rfl).set 3 1 (.bool false) rfl).set 3 2 (.int .i64 0) rfl).set 3 3 (.int .i64 0) rfl).set 3 4 (.int .i64 0) rfl).set 3 5 (.int .i64 0) rfl).set 3 6 (.slice ta 0 tk) rfl).set 3 7 (.slice tb 0 tj) rfl).set 3 8 (.int .i64 0) rfl))
    have b7 := E12.out.bx 2 rfl
    have c7_3 := b7.cell 3 rfl
    clear b7
    have b8 := E12.out.bx 0 rfl
    have c8_0 := b8.cell 0 rfl
    clear b8
    have b9 := E12.out.bx 0 rfl
    have c9_1 := b9.cell 1 rfl
    clear b9
    have b10 := E12.out.bx 0 rfl
    have c10_2 := b10.cell 2 rfl
    clear b10
    have b11 := E12.out.bx 3 rfl
    have c11_1 := b11.cell 1 rfl
    clear b11
    have b12 := E12.out.bx 3 rfl
    have c12_0 := b12.cell 0 rfl
    clear b12
    have hfin := Lib.hid E12.out.bel
    go_wp2
    go_ret
    exact ⟨rfl, hfin.out⟩
end Go.Proofs.Ytbcfcdcomboljaa

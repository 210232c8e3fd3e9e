/- right, of certificates with 0 parts. -/
import Derived.Test.YtinlfogpbologaaDoorPriP
namespace Go.Proofs.YtinlfogpbologaaDoor
open Go.RowKit DivMath WordMath
set_option linter.unusedVariables false
set_option linter.unusedSimpArgs false
open Nn.NatMath in
theorem cmp_gt {a b : Nat} (h : a ≤ b) : decide (0 < Nn.NatMath.cmp a b) = false := by
  unfold Nn.NatMath.cmp
  split
  · rfl
  · have : a = b := by omega
    subst this; simp
open Nn.NatMath in
theorem cmp_lt' {a b : Nat} (h : a < b) : decide (0 ≤ Nn.NatMath.cmp a b) = false := by
  have := Nn.NatMath.cmp_lt_iff a b
  rw [decide_eq_true h, decide_eq_true_eq] at this
  exact decide_eq_false (by omega)
theorem cmp_ge' {a b : Nat} (h : b ≤ a) : decide (Nn.NatMath.cmp a b < 0) = false := by
  rw [Nn.NatMath.cmp_lt_iff]; exact decide_eq_false (by omega)
theorem cmp_self (a : Nat) : Nn.NatMath.cmp a a = 0 := by
  have := Nn.NatMath.cmp_zero_iff a a
  rw [decide_eq_true rfl, beq_iff_eq] at this; exact this
theorem bl_word {N : Nat} (h : One N) : decide ((1024 : Int) < (Nn.NatMath.bl N : Nat)) = false := by
  have : Nn.NatMath.bl N ≤ 32 := Nn.NatMath.bl_le_iff.2 (by have := h.2; omega)
  exact decide_eq_false (by omega)
theorem bl_some {N : Nat} (h : One N) : (((Nn.NatMath.bl N : Nat) : Int) == 0) = false := by
  have : Nn.NatMath.bl N ≠ 0 := by unfold Nn.NatMath.bl; rw [if_neg (by have := h.1; omega)]; omega
  exact beq_eq_false_iff_ne.2 (by omega)
set_option maxRecDepth 100000 in
set_option maxHeartbeats 4000000 in
theorem right_0 {D : Nat → Prop} (Nx Rx Lx : Nat) {xna xra xza : Option Addr} {xnk xrk xzk : Nat} {w : World} (hxn : Fct.at w D (.rw (.slice xna 1 xnk) 1 1 (wd Nx))) (hxr : Fct.at w D (.rw (.slice xra 1 xrk) 1 1 (wd Rx))) (kx0 : Cok Nx Rx Lx []) :
    Calls Tryd.prog 126 #[.agg #[.slice xna 1 xnk, .slice xra 1 xrk, .slice xza 0 xzk]] w fun e w' => e = .returned (.bool true) ∧ Below w.heap.size w w' := by
  have E0 := Lib.hid (((Env.start D w).arg (.rw (.slice xna 1 xnk) 1 1 (wd Nx)) hxn).arg (.rw (.slice xra 1 xrk) 1 1 (wd Rx)) hxr)
  clear hxn hxr
  go_enter Tryd.func126, Tryd.ntmps126
  have kx := Lib.hid kx0
  clear kx0
  obtain ⟨⟨j1, j2, j3⟩, j4, j5, j6, j7, j8, j9⟩ := kx.out
  have oN := Lib.hid j1
  have oR := Lib.hid j2
  have oL := Lib.hid j3
  have hlt := Lib.hid j4
  have hsub := Lib.hid j6
  have hpw := Lib.hid j7
  obtain ⟨c1, hc1⟩ : ∃ c, Nn.NatMath.cmp Nx 2 = c := ⟨_, rfl⟩
  have t1 := cmp_ge' j5
  rw [hc1] at t1
  have C1 := Lib.hid hc1
  obtain ⟨b1, hb1⟩ : ∃ b, Nn.NatMath.bl Nx = b := ⟨_, rfl⟩
  have t2 := bl_word j1
  rw [hb1] at t2
  have B1 := Lib.hid hb1
  obtain ⟨b2, hb2⟩ : ∃ b, Nn.NatMath.bl Rx = b := ⟨_, rfl⟩
  have t3 := bl_some j2
  rw [hb2] at t3
  have B2 := Lib.hid hb2
  have t4 : (b2 == 0) = false := by rw [beq_eq_false_iff_ne]; rw [beq_eq_false_iff_ne] at t3; omega
  obtain ⟨c2, hc2⟩ : ∃ c, Nn.NatMath.cmp Rx Nx = c := ⟨_, rfl⟩
  have t5 := cmp_lt' j4
  rw [hc2] at t5
  have C2 := Lib.hid hc2
  have t6 : decide ((1024 : Int) < (b1 : Int)) = false := t2
  have t7 : decide (1024 < b1) = false := decide_eq_false (by rw [decide_eq_false_iff_not] at t2; omega)
  have PE : Hid (1 = Lx) := Lib.hid j8
  clear hc1 hb1 hb2 hc2 t2 j1 j2 j3 j4 j5 j6 j7 j8 j9
  go_wp2_with fail
  have E1 : Hid (Env D w [(w.heap.size, 99, [.slice xna 1 xnk, .slice xra 1 xrk, .slice xza 0 xzk])] [.rw (.slice xra 1 xrk) 1 1 (wd Rx), .rw (.slice xna 1 xnk) 1 1 (wd Nx)] _) := Lib.hid ((E0.out.push 99 [.slice xna 1 xnk, .slice xra 1 xrk, .slice xza 0 xzk] (w.heap.size) (by simp)))
  clear E0
  generalize w.alloc (.cells #[.slice xna 1 xnk, .slice xra 1 xrk, .slice xza 0 xzk] 99) = w1 at *
  have E2 := Lib.hid E1.out.drew
  clear E1
  refine wp_regionU (S := fun w' => w'.cell? ⟨w.heap.size, 0, none⟩ = some (.slice xna 1 xnk) ∧ w'.cell? ⟨w.heap.size, 1, none⟩ = some (.slice xra 1 xrk)) [] (by kernel_rfl) (⟨((E2.out.bx 0 rfl).cell 0 rfl), ((E2.out.bx 0 rfl).cell 1 rfl)⟩) (fun hHeld => ?_)
  generalize w1.drew = w2 at *
  refine uTake (i := 0) (some 8) (v := ?_) rfl rfl (by kernel_rfl) (by kernel_rfl) (by kernel_rfl) (by kernel_rfl) (fun _ _ _ h => h) (by rfl) (by assumption) ?_ ?_
  rotate_left
  · (intro wS hSw; (try dsimp only at hSw); go_simp; try with_reducible rfl)
  try simp only [Act.put, List.setIfInBounds_toArray, List.set_cons_zero, List.set_cons_succ]
  refine uTake (i := 1) (some 9) (v := ?_) rfl rfl (by kernel_rfl) (by kernel_rfl) (by kernel_rfl) (by kernel_rfl) (fun _ _ _ h => h) (by rfl) (by assumption) ?_ ?_
  rotate_left
  · (intro wS hSw; (try dsimp only at hSw); go_simp; try with_reducible rfl)
  try simp only [Act.put, List.setIfInBounds_toArray, List.set_cons_zero, List.set_cons_succ]
  refine uReady (rs := [2]) (by kernel_rfl) (by simp) ?_
  refine ReadyU.cons rfl (fun KK hKK => ?_) ReadyU.nil
  go_simp
  refine (valid1 oN.out (E2.out.fc 1 rfl)).mono ?_
  rintro e w3 ⟨rfl, hb⟩
  have E3 := Lib.hid (E2.out.below hb)
  clear E2 hb
  (try dsimp only)
  clear hHeld
  refine hKK.out _ _ (⟨((E3.out.bx 0 rfl).cell 0 rfl), ((E3.out.bx 0 rfl).cell 1 rfl)⟩) (fun hHeld => ?_)
  clear hKK KK
  try simp only [Act.put, List.setIfInBounds_toArray, List.set_cons_zero, List.set_cons_succ]
  refine uTake (i := 3) (some 11) (v := ?_) rfl rfl (by kernel_rfl) (by kernel_rfl) (by kernel_rfl) (by kernel_rfl) (fun _ _ _ h => h) (by rfl) (by assumption) ?_ ?_
  rotate_left
  · (intro wS hSw; (try dsimp only at hSw); go_simp; try with_reducible rfl)
  try simp only [Act.put, List.setIfInBounds_toArray, List.set_cons_zero, List.set_cons_succ]
  refine uTake (i := 4) (some 12) (v := ?_) rfl rfl (by kernel_rfl) (by kernel_rfl) (by kernel_rfl) (by kernel_rfl) (fun _ _ _ h => h) (by rfl) (by assumption) ?_ ?_
  rotate_left
  · (intro wS hSw; (try dsimp only at hSw); go_simp; try with_reducible rfl)
  try simp only [Act.put, List.setIfInBounds_toArray, List.set_cons_zero, List.set_cons_succ]
  refine uTake (i := 5) (some 13) (v := ?_) rfl rfl (by kernel_rfl) (by kernel_rfl) (by kernel_rfl) (by kernel_rfl) (fun _ _ _ h => h) (by rfl) (by assumption) ?_ ?_
  rotate_left
  · (intro wS hSw; (try dsimp only at hSw); go_simp; try with_reducible rfl)
  try simp only [Act.put, List.setIfInBounds_toArray, List.set_cons_zero, List.set_cons_succ]
  refine uTake (i := 6) (some 14) (v := ?_) rfl rfl (by kernel_rfl) (by kernel_rfl) (by kernel_rfl) (by kernel_rfl) (fun _ _ _ h => h) (by rfl) (by assumption) ?_ ?_
  rotate_left
  · (intro wS hSw; (try dsimp only at hSw); go_simp; try with_reducible rfl)
  try simp only [Act.put, List.setIfInBounds_toArray, List.set_cons_zero, List.set_cons_succ]
  refine uReady (rs := [7]) (by kernel_rfl) (by simp) ?_
  refine ReadyU.cons rfl (fun KK hKK => ?_) ReadyU.nil
  go_simp
  refine (valid1 oR.out (E3.out.fc 0 rfl)).mono ?_
  rintro e w4 ⟨rfl, hb⟩
  have E4 := Lib.hid (E3.out.below hb)
  clear E3 hb
  (try dsimp only)
  clear hHeld
  refine hKK.out _ _ (⟨((E4.out.bx 0 rfl).cell 0 rfl), ((E4.out.bx 0 rfl).cell 1 rfl)⟩) (fun hHeld => ?_)
  clear hKK KK
  try simp only [Act.put, List.setIfInBounds_toArray, List.set_cons_zero, List.set_cons_succ]
  refine uTake (i := 8) (some 16) (v := ?_) rfl rfl (by kernel_rfl) (by kernel_rfl) (by kernel_rfl) (by kernel_rfl) (fun _ _ _ h => h) (by rfl) (by assumption) ?_ ?_
  rotate_left
  · (intro wS hSw; (try dsimp only at hSw); go_simp; try with_reducible rfl)
  try simp only [Act.put, List.setIfInBounds_toArray, List.set_cons_zero, List.set_cons_succ]
  refine uTake (i := 9) (some 17) (v := ?_) rfl rfl (by kernel_rfl) (by kernel_rfl) (by kernel_rfl) (by kernel_rfl) (fun _ _ _ h => h) (by rfl) (by assumption) ?_ ?_
  rotate_left
  · (intro wS hSw; (try dsimp only at hSw); go_simp; try with_reducible rfl)
  try simp only [Act.put, List.setIfInBounds_toArray, List.set_cons_zero, List.set_cons_succ]
  refine uTake (i := 10) (some 18) (v := ?_) rfl rfl (by kernel_rfl) (by kernel_rfl) (by kernel_rfl) (by kernel_rfl) (fun _ _ _ h => h) (by rfl) (by assumption) ?_ ?_
  rotate_left
  · (intro wS hSw; (try dsimp only at hSw); go_simp; try with_reducible rfl)
  try simp only [Act.put, List.setIfInBounds_toArray, List.set_cons_zero, List.set_cons_succ]
  refine uTake (i := 11) (some 19) (v := ?_) rfl rfl (by kernel_rfl) (by kernel_rfl) (by kernel_rfl) (by kernel_rfl) (fun _ _ _ h => h) (by rfl) (by assumption) ?_ ?_
  rotate_left
  · (intro wS hSw; (try dsimp only at hSw); go_simp; try with_reducible rfl)
  try simp only [Act.put, List.setIfInBounds_toArray, List.set_cons_zero, List.set_cons_succ]
  refine uTake (i := 12) (some 20) (v := ?_) rfl rfl (by kernel_rfl) (by kernel_rfl) (by kernel_rfl) (by kernel_rfl) (fun _ _ _ h => h) (by rfl) (by assumption) ?_ ?_
  rotate_left
  · (intro wS hSw; (try dsimp only at hSw); go_simp; try with_reducible rfl)
  try simp only [Act.put, List.setIfInBounds_toArray, List.set_cons_zero, List.set_cons_succ]
  refine uReady (rs := [13]) (by kernel_rfl) (by simp) ?_
  refine ReadyU.cons rfl (fun KK hKK => ?_) ReadyU.nil
  go_simp
  refine (bits1 B1.out oN.out (E4.out.fc 1 rfl)).mono ?_
  rintro e w5 ⟨rfl, hb⟩
  have E5 := Lib.hid (E4.out.below hb)
  clear E4 hb
  (try dsimp only)
  clear hHeld
  refine hKK.out _ _ (⟨((E5.out.bx 0 rfl).cell 0 rfl), ((E5.out.bx 0 rfl).cell 1 rfl)⟩) (fun hHeld => ?_)
  clear hKK KK
  try simp only [Act.put, List.setIfInBounds_toArray, List.set_cons_zero, List.set_cons_succ]
  refine uTake (i := 14) (some 22) (v := ?_) rfl rfl (by kernel_rfl) (by kernel_rfl) (by kernel_rfl) (by kernel_rfl) (fun _ _ _ h => h) (by rfl) (by assumption) ?_ ?_
  rotate_left
  · (intro wS hSw; (try dsimp only at hSw); go_simp; try with_reducible rfl)
  try simp only [Act.put, List.setIfInBounds_toArray, List.set_cons_zero, List.set_cons_succ]
  refine uTake (i := 15) (some 23) (v := ?_) rfl rfl (by kernel_rfl) (by kernel_rfl) (by kernel_rfl) (by kernel_rfl) (fun _ _ _ h => h) (by rfl) (by assumption) ?_ ?_
  rotate_left
  · (intro wS hSw; (try dsimp only at hSw); go_simp; try with_reducible rfl)
  try simp only [Act.put, List.setIfInBounds_toArray, List.set_cons_zero, List.set_cons_succ]
  refine uTake (i := 16) (some 24) (v := ?_) rfl rfl (by kernel_rfl) (by kernel_rfl) (by kernel_rfl) (by kernel_rfl) (fun _ _ _ h => h) (by rfl) (by assumption) ?_ ?_
  rotate_left
  · (intro wS hSw; (try dsimp only at hSw); go_simp; try with_reducible rfl)
  try simp only [Act.put, List.setIfInBounds_toArray, List.set_cons_zero, List.set_cons_succ]
  refine uTake (i := 17) (some 25) (v := ?_) rfl rfl (by kernel_rfl) (by kernel_rfl) (by kernel_rfl) (by kernel_rfl) (fun _ _ _ h => h) (by rfl) (by assumption) ?_ ?_
  rotate_left
  · (intro wS hSw; (try dsimp only at hSw); go_simp; try with_reducible rfl)
  try simp only [Act.put, List.setIfInBounds_toArray, List.set_cons_zero, List.set_cons_succ]
  refine uTake (i := 18) (some 26) (v := ?_) rfl rfl (by kernel_rfl) (by kernel_rfl) (by kernel_rfl) (by kernel_rfl) (fun _ _ _ h => h) (by rfl) (by assumption) ?_ ?_
  rotate_left
  · (intro wS hSw; (try dsimp only at hSw); go_simp; try with_reducible rfl)
  try simp only [Act.put, List.setIfInBounds_toArray, List.set_cons_zero, List.set_cons_succ]
  refine uReady (rs := [19]) (by kernel_rfl) (by simp) ?_
  refine ReadyU.cons rfl (fun KK hKK => ?_) ReadyU.nil
  go_simp
  refine (nat1 2 ⟨by decide, by decide⟩).mono ?_
  rintro e w6 ⟨⟨oa, ok, rfl, oh⟩, hb⟩
  have E6 := Lib.hid (E5.out.got (E5.out.below hb) (.rw (.slice oa 1 ok) 1 1 (wd 2)) (Lib.hid (Rw.ge oh.out)).out)
  clear E5 hb
  (try dsimp only)
  clear hHeld
  refine hKK.out _ _ (⟨((E6.out.bx 0 rfl).cell 0 rfl), ((E6.out.bx 0 rfl).cell 1 rfl)⟩) (fun hHeld => ?_)
  clear hKK KK
  try simp only [Act.put, List.setIfInBounds_toArray, List.set_cons_zero, List.set_cons_succ]
  refine uReady (rs := [20]) (by kernel_rfl) (by simp) ?_
  refine ReadyU.cons rfl (fun KK hKK => ?_) ReadyU.nil
  go_simp
  refine (cmp1 C1.out oN.out ⟨by decide, by decide⟩ (E6.out.fc 2 rfl) (E6.out.fc 0 rfl)).mono ?_
  rintro e w7 ⟨rfl, hb⟩
  have E7 := Lib.hid (E6.out.below hb)
  clear E6 hb
  (try dsimp only)
  clear hHeld
  refine hKK.out _ _ (⟨((E7.out.bx 0 rfl).cell 0 rfl), ((E7.out.bx 0 rfl).cell 1 rfl)⟩) (fun hHeld => ?_)
  clear hKK KK
  try simp only [Act.put, List.setIfInBounds_toArray, List.set_cons_zero, List.set_cons_succ]
  refine uTake (i := 21) (some 29) (v := ?_) rfl rfl (by kernel_rfl) (by kernel_rfl) (by kernel_rfl) (by kernel_rfl) (fun _ _ _ h => h) (by rfl) (by assumption) ?_ ?_
  rotate_left
  · (intro wS hSw; (try dsimp only at hSw); go_simp; try with_reducible rfl)
  try simp only [Act.put, List.setIfInBounds_toArray, List.set_cons_zero, List.set_cons_succ]
  refine uTake (i := 22) (some 30) (v := ?_) rfl rfl (by kernel_rfl) (by kernel_rfl) (by kernel_rfl) (by kernel_rfl) (fun _ _ _ h => h) (by rfl) (by assumption) ?_ ?_
  rotate_left
  · (intro wS hSw; (try dsimp only at hSw); go_simp; try with_reducible rfl)
  try simp only [Act.put, List.setIfInBounds_toArray, List.set_cons_zero, List.set_cons_succ]
  refine uDone (by kernel_rfl) ?_ _
  have b1 := E7.out.bx 0 rfl
  have c1_1 := b1.cell 1 rfl
  clear b1
  go_wp2_with fail
  refine (bits1 B2.out oR.out (E7.out.fc 1 rfl)).mono ?_
  rintro e w8 ⟨rfl, hb⟩
  have E8 := Lib.hid (E7.out.below hb)
  clear c1_1 E7 hb
  have b2 := E8.out.bx 0 rfl
  have c2_1 := b2.cell 1 rfl
  clear b2
  have b3 := E8.out.bx 0 rfl
  have c3_0 := b3.cell 0 rfl
  clear b3
  go_wp2_with fail
  refine (cmp1 C2.out oR.out oN.out (E8.out.fc 1 rfl) (E8.out.fc 2 rfl)).mono ?_
  rintro e w9 ⟨rfl, hb⟩
  have E9 := Lib.hid (E8.out.below hb)
  clear c2_1 c3_0 E8 hb
  go_wp2_with fail
  have E10 := Lib.hid E9.out.drew
  clear E9
  refine wp_regionU (S := fun w' => w'.cell? ⟨w.heap.size, 0, none⟩ = some (.slice xna 1 xnk)) [] (by kernel_rfl) (((E10.out.bx 0 rfl).cell 0 rfl)) (fun hHeld => ?_)
  generalize w9.drew = w10 at *
  refine uTake (i := 0) (some 44) (v := ?_) rfl rfl (by kernel_rfl) (by kernel_rfl) (by kernel_rfl) (by kernel_rfl) (fun _ _ _ h => h) (by rfl) (by assumption) ?_ ?_
  rotate_left
  · (intro wS hSw; (try dsimp only at hSw); go_simp; try with_reducible rfl)
  try simp only [Act.put, List.setIfInBounds_toArray, List.set_cons_zero, List.set_cons_succ]
  refine uTake (i := 1) (some 45) (v := ?_) rfl rfl (by kernel_rfl) (by kernel_rfl) (by kernel_rfl) (by kernel_rfl) (fun _ _ _ h => h) (by rfl) (by assumption) ?_ ?_
  rotate_left
  · (intro wS hSw; (try dsimp only at hSw); go_simp; try with_reducible rfl)
  try simp only [Act.put, List.setIfInBounds_toArray, List.set_cons_zero, List.set_cons_succ]
  refine uReady (rs := [2, 7]) (by kernel_rfl) (by simp) ?_
  refine (ReadyU.cons rfl (fun KK hKK => ?_) (ReadyU.cons rfl (fun KK hKK => ?_) ReadyU.nil))
  · skip
    go_simp
    refine (nat1 1 ⟨by decide, by decide⟩).mono ?_
    rintro e w11 ⟨⟨ia, ik, rfl, ih⟩, hb⟩
    have E11 := Lib.hid (E10.out.got (E10.out.below hb) (.rw (.slice ia 1 ik) 1 1 (wd 1)) (Lib.hid (Rw.ge ih.out)).out)
    clear E10 hb
    (try dsimp only)
    clear hHeld
    refine hKK.out _ _ (((E11.out.bx 0 rfl).cell 0 rfl)) (fun hHeld => ?_)
    clear hKK KK
    try simp only [Act.put, List.setIfInBounds_toArray, List.set_cons_zero, List.set_cons_succ]
    refine uReady (rs := [3, 7]) (by kernel_rfl) (by simp) ?_
    refine (ReadyU.cons rfl (fun KK hKK => ?_) (ReadyU.cons rfl (fun KK hKK => ?_) ReadyU.nil))
    · skip
      go_simp
      refine (sub1 hsub.out oL.out oN.out ⟨by decide, by decide⟩ (E11.out.fc 3 rfl) (E11.out.fc 0 rfl)).mono ?_
      rintro e w12 ⟨⟨la, lk, rfl, lh⟩, hb⟩
      have E12 := Lib.hid (E11.out.got (E11.out.below hb) (.rw (.slice la 1 lk) 1 1 (wd Lx)) (Lib.hid (Rw.ge lh.out)).out)
      clear E11 hb
      (try dsimp only)
      clear hHeld
      refine hKK.out _ _ (((E12.out.bx 0 rfl).cell 0 rfl)) (fun hHeld => ?_)
      clear hKK KK
      try simp only [Act.put, List.setIfInBounds_toArray, List.set_cons_zero, List.set_cons_succ]
      refine uTake (i := 4) (some 43) (v := ?_) rfl rfl (by kernel_rfl) (by kernel_rfl) (by kernel_rfl) (by kernel_rfl) (fun _ _ _ h => h) (by rfl) (by assumption) ?_ ?_
      rotate_left
      · (intro wS hSw; (try dsimp only at hSw); go_simp; try with_reducible rfl)
      try simp only [Act.put, List.setIfInBounds_toArray, List.set_cons_zero, List.set_cons_succ]
      refine uTake (i := 5) (some 48) (v := ?_) rfl rfl (by kernel_rfl) (by kernel_rfl) (by kernel_rfl) (by kernel_rfl) (fun _ _ _ h => h) (by rfl) (by assumption) ?_ ?_
      rotate_left
      · (intro wS hSw; (try dsimp only at hSw); go_simp; try with_reducible rfl)
      try simp only [Act.put, List.setIfInBounds_toArray, List.set_cons_zero, List.set_cons_succ]
      refine uTake (i := 6) (some 49) (v := ?_) rfl rfl (by kernel_rfl) (by kernel_rfl) (by kernel_rfl) (by kernel_rfl) (fun _ _ _ h => h) (by rfl) (by assumption) ?_ ?_
      rotate_left
      · (intro wS hSw; (try dsimp only at hSw); go_simp; try with_reducible rfl)
      try simp only [Act.put, List.setIfInBounds_toArray, List.set_cons_zero, List.set_cons_succ]
      refine uReady (rs := [7]) (by kernel_rfl) (by simp) ?_
      refine ReadyU.cons rfl (fun KK hKK => ?_) ReadyU.nil
      go_simp
      have E13 : Hid (Env D w [(w12.heap.size, 96, [.slice none 0 0]), (w.heap.size, 99, [.slice xna 1 xnk, .slice xra 1 xrk, .slice xza 0 xzk])] [.rw (.slice la 1 lk) 1 1 (wd Lx), .rw (.slice ia 1 ik) 1 1 (wd 1), .rw (.slice oa 1 ok) 1 1 (wd 2), .rw (.slice xra 1 xrk) 1 1 (wd Rx), .rw (.slice xna 1 xnk) 1 1 (wd Nx)] _) := Lib.hid ((E12.out.push 96 [.slice none 0 0] (w12.heap.size) (by simp)))
      (try dsimp only)
      clear hHeld
      refine hKK.out _ _ (((E13.out.bx 1 rfl).cell 0 rfl)) (fun hHeld => ?_)
      clear hKK KK
      try simp only [Act.put, List.setIfInBounds_toArray, List.set_cons_zero, List.set_cons_succ]
      clear E12
      generalize w12.alloc (.cells #[.slice none 0 0] 96) = w13 at *
      have b4 := E13.out.bx 0 rfl
      have c4_0 := b4.cell 0 rfl
      have f4_0 := b4.frozen 0
      clear b4
      refine uReady (rs := [8]) (by kernel_rfl) (by simp) ?_
      refine ReadyU.cons rfl (fun KK hKK => ?_) ReadyU.nil
      go_simp
      have E14 : Hid (Env D w [(w12.heap.size, 96, [.slice la 1 lk]), (w.heap.size, 99, [.slice xna 1 xnk, .slice xra 1 xrk, .slice xza 0 xzk])] [.rw (.slice la 1 lk) 1 1 (wd Lx), .rw (.slice ia 1 ik) 1 1 (wd 1), .rw (.slice oa 1 ok) 1 1 (wd 2), .rw (.slice xra 1 xrk) 1 1 (wd Rx), .rw (.slice xna 1 xnk) 1 1 (wd Nx)] _) := Lib.hid ((E13.out.set 0 0 (.slice la 1 lk) rfl))
      (try dsimp only)
      clear hHeld
      refine hKK.out _ _ (((E14.out.bx 1 rfl).cell 0 rfl)) (fun hHeld => ?_)
      clear hKK KK
      try simp only [Act.put, List.setIfInBounds_toArray, List.set_cons_zero, List.set_cons_succ]
      refine uTake (i := 9) (some 4) (v := ?_) rfl rfl (by kernel_rfl) (by kernel_rfl) (by kernel_rfl) (by kernel_rfl) (fun _ _ _ h => h) (by rfl) (by assumption) ?_ ?_
      rotate_left
      · (intro wS hSw; (try dsimp only at hSw); go_simp; try with_reducible rfl)
      try simp only [Act.put, List.setIfInBounds_toArray, List.set_cons_zero, List.set_cons_succ]
      refine uDone (by kernel_rfl) ?_ _
      clear c4_0 f4_0 E13
      generalize w13.setCell ⟨w12.heap.size, 0, none⟩ (.slice la 1 lk) = w14 at *
      go_wp2_with fail
      refine (nat1 1 ⟨by decide, by decide⟩).mono ?_
      rintro e w15 ⟨⟨ua, uk, rfl, uh⟩, hb⟩
      have E15 := Lib.hid (E14.out.got (E14.out.below hb) (.rw (.slice ua 1 uk) 1 1 (wd 1)) (Lib.hid (Rw.ge uh.out)).out)
      clear E14 hb
      have E16 : Hid (Env D w [(w15.heap.size, 96, [.slice ua 1 uk]), (w12.heap.size, 96, [.slice la 1 lk]), (w.heap.size, 99, [.slice xna 1 xnk, .slice xra 1 xrk, .slice xza 0 xzk])] [.rw (.slice ua 1 uk) 1 1 (wd 1), .rw (.slice la 1 lk) 1 1 (wd Lx), .rw (.slice ia 1 ik) 1 1 (wd 1), .rw (.slice oa 1 ok) 1 1 (wd 2), .rw (.slice xra 1 xrk) 1 1 (wd Rx), .rw (.slice xna 1 xnk) 1 1 (wd Nx)] _) := Lib.hid ((E15.out.push 96 [.slice ua 1 uk] (w15.heap.size) (by simp)))
      have b5 := E16.out.bx 2 rfl
      have c5_2 := b5.cell 2 rfl
      clear b5
      go_wp2_with fail
      clear c5_2 E15
      generalize w15.alloc (.cells #[.slice ua 1 uk] 96) = w16 at *
      go_loopg [56] (0) (fun gk s56 wr => ∃ (k : Int) (P : Nat) (qa : Option Addr) (qk : Nat), s56 = .int .i64 k ∧ Hid (Env D w [(w15.heap.size, 96, [.slice qa 1 qk]), (w12.heap.size, 96, [.slice la 1 lk]), (w.heap.size, 99, [.slice xna 1 xnk, .slice xra 1 xrk, .slice xza 0 xzk])] [.rw (.slice qa 1 qk) 1 1 (wd P), .rw (.slice la 1 lk) 1 1 (wd Lx), .rw (.slice ia 1 ik) 1 1 (wd 1), .rw (.slice oa 1 ok) 1 1 (wd 2), .rw (.slice xra 1 xrk) 1 1 (wd Rx), .rw (.slice xna 1 xnk) 1 1 (wd Nx)] wr) ∧ Hid (((0 ≤ k ∧ k ≤ 0) ∧ gk = 0 - k.toNat) ∧ (k = 0 → P = 1)))
      case atStart => exact ⟨0, 1, ua, uk, rfl, Lib.hid E16.out, Lib.hid ⟨⟨by omega, rfl⟩, fun _ => rfl⟩⟩
      case round =>
        clear E16
        obtain ⟨k, P, qa, qk, rfl, EL, HA⟩ := hrel
        obtain ⟨⟨a1, a2⟩, a3⟩ := HA.out
        have HP := Lib.hid a3
        clear HA a3
        have hk' : k = 0 := by omega
        clear a1
        rcases hk' with rfl
        · skip
          have hP : P = 1 := HP.out rfl
          have hPL : P = Lx := by rw [hP]; exact PE.out
          subst hPL
          clear HP hP
          have b6 := EL.out.bx 0 rfl
          have c6_0 := b6.cell 0 rfl
          clear b6
          have b7 := EL.out.bx 1 rfl
          have c7_0 := b7.cell 0 rfl
          clear b7
          go_wp2_with fail
          refine (cmp1 (cmp_self _) oL.out oL.out (EL.out.fc 0 rfl) (EL.out.fc 1 rfl)).mono ?_
          rintro e w17 ⟨rfl, hb⟩
          have E17 := Lib.hid (EL.out.below hb)
          clear c6_0 c7_0 EL hb
          have b8 := E17.out.bx 2 rfl
          have c8_0 := b8.cell 0 rfl
          have c8_1 := b8.cell 1 rfl
          have c8_2 := b8.cell 2 rfl
          clear b8
          have b9 := E17.out.bx 1 rfl
          have c9_0 := b9.cell 0 rfl
          clear b9
          go_wp2_with fail
          refine (one1 Nx Rx P (Fct.any (E17.out.fc 5 rfl)) (Fct.any (E17.out.fc 4 rfl)) (Fct.any (E17.out.fc 1 rfl)) 1 hpw.out ⟨by decide, by decide⟩ oN.out oR.out oL.out hlt.out rfl).mono ?_
          rintro e w18 ⟨rfl, hb⟩
          have E18 := Lib.hid (E17.out.below hb)
          clear c8_0 c8_1 c8_2 c9_0 E17 hb
          have b10 := E18.out.bx 2 rfl
          have c10_2 := b10.cell 2 rfl
          clear b10
          go_wp2_with fail
          refine (ccon0 Nx Rx P  (w12.heap.size) (w.heap.size) (Fct.any (E18.out.fc 5 rfl)) (Fct.any (E18.out.fc 4 rfl)) (Fct.any (E18.out.fc 1 rfl)) ⟨⟨(E18.out.bx 1 rfl).lt, trivial⟩, (E18.out.bx 1 rfl).cell 0 rfl⟩ ⟨⟨(E18.out.bx 2 rfl).lt, trivial⟩, (E18.out.bx 2 rfl).cell 0 rfl⟩ ⟨⟨(E18.out.bx 2 rfl).lt, trivial⟩, (E18.out.bx 2 rfl).cell 1 rfl⟩ ⟨⟨(E18.out.bx 2 rfl).lt, trivial⟩, (E18.out.bx 2 rfl).cell 2 rfl⟩  oN.out oR.out oL.out hlt.out ).mono ?_
          rintro e w19 ⟨rfl, hb⟩
          have E19 := Lib.hid (E18.out.below hb)
          clear c10_2 E18 hb
          have hfin := Lib.hid E19.out.bel
          go_wp2
          go_ret
          exact ⟨rfl, hfin.out⟩
    · skip
      go_simp
      have E12 : Hid (Env D w [(w11.heap.size, 96, [.slice none 0 0]), (w.heap.size, 99, [.slice xna 1 xnk, .slice xra 1 xrk, .slice xza 0 xzk])] [.rw (.slice ia 1 ik) 1 1 (wd 1), .rw (.slice oa 1 ok) 1 1 (wd 2), .rw (.slice xra 1 xrk) 1 1 (wd Rx), .rw (.slice xna 1 xnk) 1 1 (wd Nx)] _) := Lib.hid ((E11.out.push 96 [.slice none 0 0] (w11.heap.size) (by simp)))
      (try dsimp only)
      clear hHeld
      refine hKK.out _ _ (((E12.out.bx 1 rfl).cell 0 rfl)) (fun hHeld => ?_)
      clear hKK KK
      try simp only [Act.put, List.setIfInBounds_toArray, List.set_cons_zero, List.set_cons_succ]
      clear E11
      generalize w11.alloc (.cells #[.slice none 0 0] 96) = w12 at *
      refine uReady (rs := [3]) (by kernel_rfl) (by simp) ?_
      refine ReadyU.cons rfl (fun KK hKK => ?_) ReadyU.nil
      go_simp
      refine (sub1 hsub.out oL.out oN.out ⟨by decide, by decide⟩ (E12.out.fc 3 rfl) (E12.out.fc 0 rfl)).mono ?_
      rintro e w13 ⟨⟨la, lk, rfl, lh⟩, hb⟩
      have E13 := Lib.hid (E12.out.got (E12.out.below hb) (.rw (.slice la 1 lk) 1 1 (wd Lx)) (Lib.hid (Rw.ge lh.out)).out)
      clear E12 hb
      (try dsimp only)
      clear hHeld
      refine hKK.out _ _ (((E13.out.bx 1 rfl).cell 0 rfl)) (fun hHeld => ?_)
      clear hKK KK
      try simp only [Act.put, List.setIfInBounds_toArray, List.set_cons_zero, List.set_cons_succ]
      refine uTake (i := 4) (some 43) (v := ?_) rfl rfl (by kernel_rfl) (by kernel_rfl) (by kernel_rfl) (by kernel_rfl) (fun _ _ _ h => h) (by rfl) (by assumption) ?_ ?_
      rotate_left
      · (intro wS hSw; (try dsimp only at hSw); go_simp; try with_reducible rfl)
      try simp only [Act.put, List.setIfInBounds_toArray, List.set_cons_zero, List.set_cons_succ]
      refine uTake (i := 5) (some 48) (v := ?_) rfl rfl (by kernel_rfl) (by kernel_rfl) (by kernel_rfl) (by kernel_rfl) (fun _ _ _ h => h) (by rfl) (by assumption) ?_ ?_
      rotate_left
      · (intro wS hSw; (try dsimp only at hSw); go_simp; try with_reducible rfl)
      try simp only [Act.put, List.setIfInBounds_toArray, List.set_cons_zero, List.set_cons_succ]
      refine uTake (i := 6) (some 49) (v := ?_) rfl rfl (by kernel_rfl) (by kernel_rfl) (by kernel_rfl) (by kernel_rfl) (fun _ _ _ h => h) (by rfl) (by assumption) ?_ ?_
      rotate_left
      · (intro wS hSw; (try dsimp only at hSw); go_simp; try with_reducible rfl)
      try simp only [Act.put, List.setIfInBounds_toArray, List.set_cons_zero, List.set_cons_succ]
      have b4 := E13.out.bx 0 rfl
      have c4_0 := b4.cell 0 rfl
      have f4_0 := b4.frozen 0
      clear b4
      refine uReady (rs := [8]) (by kernel_rfl) (by simp) ?_
      refine ReadyU.cons rfl (fun KK hKK => ?_) ReadyU.nil
      go_simp
      have E14 : Hid (Env D w [(w11.heap.size, 96, [.slice la 1 lk]), (w.heap.size, 99, [.slice xna 1 xnk, .slice xra 1 xrk, .slice xza 0 xzk])] [.rw (.slice la 1 lk) 1 1 (wd Lx), .rw (.slice ia 1 ik) 1 1 (wd 1), .rw (.slice oa 1 ok) 1 1 (wd 2), .rw (.slice xra 1 xrk) 1 1 (wd Rx), .rw (.slice xna 1 xnk) 1 1 (wd Nx)] _) := Lib.hid ((E13.out.set 0 0 (.slice la 1 lk) rfl))
      (try dsimp only)
      clear hHeld
      refine hKK.out _ _ (((E14.out.bx 1 rfl).cell 0 rfl)) (fun hHeld => ?_)
      clear hKK KK
      try simp only [Act.put, List.setIfInBounds_toArray, List.set_cons_zero, List.set_cons_succ]
      refine uTake (i := 9) (some 4) (v := ?_) rfl rfl (by kernel_rfl) (by kernel_rfl) (by kernel_rfl) (by kernel_rfl) (fun _ _ _ h => h) (by rfl) (by assumption) ?_ ?_
      rotate_left
      · (intro wS hSw; (try dsimp only at hSw); go_simp; try with_reducible rfl)
      try simp only [Act.put, List.setIfInBounds_toArray, List.set_cons_zero, List.set_cons_succ]
      refine uDone (by kernel_rfl) ?_ _
      clear c4_0 f4_0 E13
      generalize w13.setCell ⟨w11.heap.size, 0, none⟩ (.slice la 1 lk) = w14 at *
      go_wp2_with fail
      refine (nat1 1 ⟨by decide, by decide⟩).mono ?_
      rintro e w15 ⟨⟨ua, uk, rfl, uh⟩, hb⟩
      have E15 := Lib.hid (E14.out.got (E14.out.below hb) (.rw (.slice ua 1 uk) 1 1 (wd 1)) (Lib.hid (Rw.ge uh.out)).out)
      clear E14 hb
      have E16 : Hid (Env D w [(w15.heap.size, 96, [.slice ua 1 uk]), (w11.heap.size, 96, [.slice la 1 lk]), (w.heap.size, 99, [.slice xna 1 xnk, .slice xra 1 xrk, .slice xza 0 xzk])] [.rw (.slice ua 1 uk) 1 1 (wd 1), .rw (.slice la 1 lk) 1 1 (wd Lx), .rw (.slice ia 1 ik) 1 1 (wd 1), .rw (.slice oa 1 ok) 1 1 (wd 2), .rw (.slice xra 1 xrk) 1 1 (wd Rx), .rw (.slice xna 1 xnk) 1 1 (wd Nx)] _) := Lib.hid ((E15.out.push 96 [.slice ua 1 uk] (w15.heap.size) (by simp)))
      have b5 := E16.out.bx 2 rfl
      have c5_2 := b5.cell 2 rfl
      clear b5
      go_wp2_with fail
      clear c5_2 E15
      generalize w15.alloc (.cells #[.slice ua 1 uk] 96) = w16 at *
      go_loopg [56] (0) (fun gk s56 wr => ∃ (k : Int) (P : Nat) (qa : Option Addr) (qk : Nat), s56 = .int .i64 k ∧ Hid (Env D w [(w15.heap.size, 96, [.slice qa 1 qk]), (w11.heap.size, 96, [.slice la 1 lk]), (w.heap.size, 99, [.slice xna 1 xnk, .slice xra 1 xrk, .slice xza 0 xzk])] [.rw (.slice qa 1 qk) 1 1 (wd P), .rw (.slice la 1 lk) 1 1 (wd Lx), .rw (.slice ia 1 ik) 1 1 (wd 1), .rw (.slice oa 1 ok) 1 1 (wd 2), .rw (.slice xra 1 xrk) 1 1 (wd Rx), .rw (.slice xna 1 xnk) 1 1 (wd Nx)] wr) ∧ Hid (((0 ≤ k ∧ k ≤ 0) ∧ gk = 0 - k.toNat) ∧ (k = 0 → P = 1)))
      case atStart => exact ⟨0, 1, ua, uk, rfl, Lib.hid E16.out, Lib.hid ⟨⟨by omega, rfl⟩, fun _ => rfl⟩⟩
      case round =>
        clear E16
        obtain ⟨k, P, qa, qk, rfl, EL, HA⟩ := hrel
        obtain ⟨⟨a1, a2⟩, a3⟩ := HA.out
        have HP := Lib.hid a3
        clear HA a3
        have hk' : k = 0 := by omega
        clear a1
        rcases hk' with rfl
        · skip
          have hP : P = 1 := HP.out rfl
          have hPL : P = Lx := by rw [hP]; exact PE.out
          subst hPL
          clear HP hP
          have b6 := EL.out.bx 0 rfl
          have c6_0 := b6.cell 0 rfl
          clear b6
          have b7 := EL.out.bx 1 rfl
          have c7_0 := b7.cell 0 rfl
          clear b7
          go_wp2_with fail
          refine (cmp1 (cmp_self _) oL.out oL.out (EL.out.fc 0 rfl) (EL.out.fc 1 rfl)).mono ?_
          rintro e w17 ⟨rfl, hb⟩
          have E17 := Lib.hid (EL.out.below hb)
          clear c6_0 c7_0 EL hb
          have b8 := E17.out.bx 2 rfl
          have c8_0 := b8.cell 0 rfl
          have c8_1 := b8.cell 1 rfl
          have c8_2 := b8.cell 2 rfl
          clear b8
          have b9 := E17.out.bx 1 rfl
          have c9_0 := b9.cell 0 rfl
          clear b9
          go_wp2_with fail
          refine (one1 Nx Rx P (Fct.any (E17.out.fc 5 rfl)) (Fct.any (E17.out.fc 4 rfl)) (Fct.any (E17.out.fc 1 rfl)) 1 hpw.out ⟨by decide, by decide⟩ oN.out oR.out oL.out hlt.out rfl).mono ?_
          rintro e w18 ⟨rfl, hb⟩
          have E18 := Lib.hid (E17.out.below hb)
          clear c8_0 c8_1 c8_2 c9_0 E17 hb
          have b10 := E18.out.bx 2 rfl
          have c10_2 := b10.cell 2 rfl
          clear b10
          go_wp2_with fail
          refine (ccon0 Nx Rx P  (w11.heap.size) (w.heap.size) (Fct.any (E18.out.fc 5 rfl)) (Fct.any (E18.out.fc 4 rfl)) (Fct.any (E18.out.fc 1 rfl)) ⟨⟨(E18.out.bx 1 rfl).lt, trivial⟩, (E18.out.bx 1 rfl).cell 0 rfl⟩ ⟨⟨(E18.out.bx 2 rfl).lt, trivial⟩, (E18.out.bx 2 rfl).cell 0 rfl⟩ ⟨⟨(E18.out.bx 2 rfl).lt, trivial⟩, (E18.out.bx 2 rfl).cell 1 rfl⟩ ⟨⟨(E18.out.bx 2 rfl).lt, trivial⟩, (E18.out.bx 2 rfl).cell 2 rfl⟩  oN.out oR.out oL.out hlt.out ).mono ?_
          rintro e w19 ⟨rfl, hb⟩
          have E19 := Lib.hid (E18.out.below hb)
          clear c10_2 E18 hb
          have hfin := Lib.hid E19.out.bel
          go_wp2
          go_ret
          exact ⟨rfl, hfin.out⟩
  · skip
    go_simp
    have E11 : Hid (Env D w [(w10.heap.size, 96, [.slice none 0 0]), (w.heap.size, 99, [.slice xna 1 xnk, .slice xra 1 xrk, .slice xza 0 xzk])] [.rw (.slice oa 1 ok) 1 1 (wd 2), .rw (.slice xra 1 xrk) 1 1 (wd Rx), .rw (.slice xna 1 xnk) 1 1 (wd Nx)] _) := Lib.hid ((E10.out.push 96 [.slice none 0 0] (w10.heap.size) (by simp)))
    (try dsimp only)
    clear hHeld
    refine hKK.out _ _ (((E11.out.bx 1 rfl).cell 0 rfl)) (fun hHeld => ?_)
    clear hKK KK
    try simp only [Act.put, List.setIfInBounds_toArray, List.set_cons_zero, List.set_cons_succ]
    clear E10
    generalize w10.alloc (.cells #[.slice none 0 0] 96) = w11 at *
    refine uReady (rs := [2]) (by kernel_rfl) (by simp) ?_
    refine ReadyU.cons rfl (fun KK hKK => ?_) ReadyU.nil
    go_simp
    refine (nat1 1 ⟨by decide, by decide⟩).mono ?_
    rintro e w12 ⟨⟨ia, ik, rfl, ih⟩, hb⟩
    have E12 := Lib.hid (E11.out.got (E11.out.below hb) (.rw (.slice ia 1 ik) 1 1 (wd 1)) (Lib.hid (Rw.ge ih.out)).out)
    clear E11 hb
    (try dsimp only)
    clear hHeld
    refine hKK.out _ _ (((E12.out.bx 1 rfl).cell 0 rfl)) (fun hHeld => ?_)
    clear hKK KK
    try simp only [Act.put, List.setIfInBounds_toArray, List.set_cons_zero, List.set_cons_succ]
    refine uReady (rs := [3]) (by kernel_rfl) (by simp) ?_
    refine ReadyU.cons rfl (fun KK hKK => ?_) ReadyU.nil
    go_simp
    refine (sub1 hsub.out oL.out oN.out ⟨by decide, by decide⟩ (E12.out.fc 3 rfl) (E12.out.fc 0 rfl)).mono ?_
    rintro e w13 ⟨⟨la, lk, rfl, lh⟩, hb⟩
    have E13 := Lib.hid (E12.out.got (E12.out.below hb) (.rw (.slice la 1 lk) 1 1 (wd Lx)) (Lib.hid (Rw.ge lh.out)).out)
    clear E12 hb
    (try dsimp only)
    clear hHeld
    refine hKK.out _ _ (((E13.out.bx 1 rfl).cell 0 rfl)) (fun hHeld => ?_)
    clear hKK KK
    try simp only [Act.put, List.setIfInBounds_toArray, List.set_cons_zero, List.set_cons_succ]
    refine uTake (i := 4) (some 43) (v := ?_) rfl rfl (by kernel_rfl) (by kernel_rfl) (by kernel_rfl) (by kernel_rfl) (fun _ _ _ h => h) (by rfl) (by assumption) ?_ ?_
    rotate_left
    · (intro wS hSw; (try dsimp only at hSw); go_simp; try with_reducible rfl)
    try simp only [Act.put, List.setIfInBounds_toArray, List.set_cons_zero, List.set_cons_succ]
    refine uTake (i := 5) (some 48) (v := ?_) rfl rfl (by kernel_rfl) (by kernel_rfl) (by kernel_rfl) (by kernel_rfl) (fun _ _ _ h => h) (by rfl) (by assumption) ?_ ?_
    rotate_left
    · (intro wS hSw; (try dsimp only at hSw); go_simp; try with_reducible rfl)
    try simp only [Act.put, List.setIfInBounds_toArray, List.set_cons_zero, List.set_cons_succ]
    refine uTake (i := 6) (some 49) (v := ?_) rfl rfl (by kernel_rfl) (by kernel_rfl) (by kernel_rfl) (by kernel_rfl) (fun _ _ _ h => h) (by rfl) (by assumption) ?_ ?_
    rotate_left
    · (intro wS hSw; (try dsimp only at hSw); go_simp; try with_reducible rfl)
    try simp only [Act.put, List.setIfInBounds_toArray, List.set_cons_zero, List.set_cons_succ]
    have b4 := E13.out.bx 0 rfl
    have c4_0 := b4.cell 0 rfl
    have f4_0 := b4.frozen 0
    clear b4
    refine uReady (rs := [8]) (by kernel_rfl) (by simp) ?_
    refine ReadyU.cons rfl (fun KK hKK => ?_) ReadyU.nil
    go_simp
    have E14 : Hid (Env D w [(w10.heap.size, 96, [.slice la 1 lk]), (w.heap.size, 99, [.slice xna 1 xnk, .slice xra 1 xrk, .slice xza 0 xzk])] [.rw (.slice la 1 lk) 1 1 (wd Lx), .rw (.slice ia 1 ik) 1 1 (wd 1), .rw (.slice oa 1 ok) 1 1 (wd 2), .rw (.slice xra 1 xrk) 1 1 (wd Rx), .rw (.slice xna 1 xnk) 1 1 (wd Nx)] _) := Lib.hid ((E13.out.set 0 0 (.slice la 1 lk) rfl))
    (try dsimp only)
    clear hHeld
    refine hKK.out _ _ (((E14.out.bx 1 rfl).cell 0 rfl)) (fun hHeld => ?_)
    clear hKK KK
    try simp only [Act.put, List.setIfInBounds_toArray, List.set_cons_zero, List.set_cons_succ]
    refine uTake (i := 9) (some 4) (v := ?_) rfl rfl (by kernel_rfl) (by kernel_rfl) (by kernel_rfl) (by kernel_rfl) (fun _ _ _ h => h) (by rfl) (by assumption) ?_ ?_
    rotate_left
    · (intro wS hSw; (try dsimp only at hSw); go_simp; try with_reducible rfl)
    try simp only [Act.put, List.setIfInBounds_toArray, List.set_cons_zero, List.set_cons_succ]
    refine uDone (by kernel_rfl) ?_ _
    clear c4_0 f4_0 E13
    generalize w13.setCell ⟨w10.heap.size, 0, none⟩ (.slice la 1 lk) = w14 at *
    go_wp2_with fail
    refine (nat1 1 ⟨by decide, by decide⟩).mono ?_
    rintro e w15 ⟨⟨ua, uk, rfl, uh⟩, hb⟩
    have E15 := Lib.hid (E14.out.got (E14.out.below hb) (.rw (.slice ua 1 uk) 1 1 (wd 1)) (Lib.hid (Rw.ge uh.out)).out)
    clear E14 hb
    have E16 : Hid (Env D w [(w15.heap.size, 96, [.slice ua 1 uk]), (w10.heap.size, 96, [.slice la 1 lk]), (w.heap.size, 99, [.slice xna 1 xnk, .slice xra 1 xrk, .slice xza 0 xzk])] [.rw (.slice ua 1 uk) 1 1 (wd 1), .rw (.slice la 1 lk) 1 1 (wd Lx), .rw (.slice ia 1 ik) 1 1 (wd 1), .rw (.slice oa 1 ok) 1 1 (wd 2), .rw (.slice xra 1 xrk) 1 1 (wd Rx), .rw (.slice xna 1 xnk) 1 1 (wd Nx)] _) := Lib.hid ((E15.out.push 96 [.slice ua 1 uk] (w15.heap.size) (by simp)))
    have b5 := E16.out.bx 2 rfl
    have c5_2 := b5.cell 2 rfl
    clear b5
    go_wp2_with fail
    clear c5_2 E15
    generalize w15.alloc (.cells #[.slice ua 1 uk] 96) = w16 at *
    go_loopg [56] (0) (fun gk s56 wr => ∃ (k : Int) (P : Nat) (qa : Option Addr) (qk : Nat), s56 = .int .i64 k ∧ Hid (Env D w [(w15.heap.size, 96, [.slice qa 1 qk]), (w10.heap.size, 96, [.slice la 1 lk]), (w.heap.size, 99, [.slice xna 1 xnk, .slice xra 1 xrk, .slice xza 0 xzk])] [.rw (.slice qa 1 qk) 1 1 (wd P), .rw (.slice la 1 lk) 1 1 (wd Lx), .rw (.slice ia 1 ik) 1 1 (wd 1), .rw (.slice oa 1 ok) 1 1 (wd 2), .rw (.slice xra 1 xrk) 1 1 (wd Rx), .rw (.slice xna 1 xnk) 1 1 (wd Nx)] wr) ∧ Hid (((0 ≤ k ∧ k ≤ 0) ∧ gk = 0 - k.toNat) ∧ (k = 0 → P = 1)))
    case atStart => exact ⟨0, 1, ua, uk, rfl, Lib.hid E16.out, Lib.hid ⟨⟨by omega, rfl⟩, fun _ => rfl⟩⟩
    case round =>
      clear E16
      obtain ⟨k, P, qa, qk, rfl, EL, HA⟩ := hrel
      obtain ⟨⟨a1, a2⟩, a3⟩ := HA.out
      have HP := Lib.hid a3
      clear HA a3
      have hk' : k = 0 := by omega
      clear a1
      rcases hk' with rfl
      · skip
        have hP : P = 1 := HP.out rfl
        have hPL : P = Lx := by rw [hP]; exact PE.out
        subst hPL
        clear HP hP
        have b6 := EL.out.bx 0 rfl
        have c6_0 := b6.cell 0 rfl
        clear b6
        have b7 := EL.out.bx 1 rfl
        have c7_0 := b7.cell 0 rfl
        clear b7
        go_wp2_with fail
        refine (cmp1 (cmp_self _) oL.out oL.out (EL.out.fc 0 rfl) (EL.out.fc 1 rfl)).mono ?_
        rintro e w17 ⟨rfl, hb⟩
        have E17 := Lib.hid (EL.out.below hb)
        clear c6_0 c7_0 EL hb
        have b8 := E17.out.bx 2 rfl
        have c8_0 := b8.cell 0 rfl
        have c8_1 := b8.cell 1 rfl
        have c8_2 := b8.cell 2 rfl
        clear b8
        have b9 := E17.out.bx 1 rfl
        have c9_0 := b9.cell 0 rfl
        clear b9
        go_wp2_with fail
        refine (one1 Nx Rx P (Fct.any (E17.out.fc 5 rfl)) (Fct.any (E17.out.fc 4 rfl)) (Fct.any (E17.out.fc 1 rfl)) 1 hpw.out ⟨by decide, by decide⟩ oN.out oR.out oL.out hlt.out rfl).mono ?_
        rintro e w18 ⟨rfl, hb⟩
        have E18 := Lib.hid (E17.out.below hb)
        clear c8_0 c8_1 c8_2 c9_0 E17 hb
        have b10 := E18.out.bx 2 rfl
        have c10_2 := b10.cell 2 rfl
        clear b10
        go_wp2_with fail
        refine (ccon0 Nx Rx P  (w10.heap.size) (w.heap.size) (Fct.any (E18.out.fc 5 rfl)) (Fct.any (E18.out.fc 4 rfl)) (Fct.any (E18.out.fc 1 rfl)) ⟨⟨(E18.out.bx 1 rfl).lt, trivial⟩, (E18.out.bx 1 rfl).cell 0 rfl⟩ ⟨⟨(E18.out.bx 2 rfl).lt, trivial⟩, (E18.out.bx 2 rfl).cell 0 rfl⟩ ⟨⟨(E18.out.bx 2 rfl).lt, trivial⟩, (E18.out.bx 2 rfl).cell 1 rfl⟩ ⟨⟨(E18.out.bx 2 rfl).lt, trivial⟩, (E18.out.bx 2 rfl).cell 2 rfl⟩  oN.out oR.out oL.out hlt.out ).mono ?_
        rintro e w19 ⟨rfl, hb⟩
        have E19 := Lib.hid (E18.out.below hb)
        clear c10_2 E18 hb
        have hfin := Lib.hid E19.out.bel
        go_wp2
        go_ret
        exact ⟨rfl, hfin.out⟩
end Go.Proofs.YtinlfogpbologaaDoor

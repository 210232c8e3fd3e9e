/- right, of certificates with 1 parts. -/
import Derived.Test.YtinlfogpbologaaDoorPriQa
namespace Go.Proofs.YtinlfogpbologaaDoor
open Go.RowKit DivMath WordMath
set_option linter.unusedVariables false
set_option linter.unusedSimpArgs false
set_option maxRecDepth 100000 in
set_option maxHeartbeats 4000000 in
theorem right_1 {D : Nat → Prop} (Nx Rx Lx Np Rp Lp : Nat) {xna xra xza pna pra pza : Option Addr} {xnk xrk xzk pnk prk pzk : Nat} {w : World} (hxn : Fct.at w D (.rw (.slice xna 1 xnk) 1 1 (wd Nx))) (hxr : Fct.at w D (.rw (.slice xra 1 xrk) 1 1 (wd Rx))) (hxz : Fct.at w D (.rw (.slice xza 1 xzk) 1 3 [.slice pna 1 pnk, .slice pra 1 prk, .slice pza 0 pzk])) (hpn : Fct.at w D (.rw (.slice pna 1 pnk) 1 1 (wd Np))) (hpr : Fct.at w D (.rw (.slice pra 1 prk) 1 1 (wd Rp))) (kx0 : Cok Nx Rx Lx [Np]) (kp0 : Cok Np Rp Lp []) :
    Calls Tryd.prog 126 #[.agg #[.slice xna 1 xnk, .slice xra 1 xrk, .slice xza 1 xzk]] w fun e w' => e = .returned (.bool true) ∧ Below w.heap.size w w' := by
  have E0 := Lib.hid ((((((Env.start D w).arg (.rw (.slice xna 1 xnk) 1 1 (wd Nx)) hxn).arg (.rw (.slice xra 1 xrk) 1 1 (wd Rx)) hxr).arg (.rw (.slice xza 1 xzk) 1 3 [.slice pna 1 pnk, .slice pra 1 prk, .slice pza 0 pzk]) hxz).arg (.rw (.slice pna 1 pnk) 1 1 (wd Np)) hpn).arg (.rw (.slice pra 1 prk) 1 1 (wd Rp)) hpr)
  clear hxn hxr hxz hpn hpr
  go_enter Tryd.func126, Tryd.ntmps126
  have kx := Lib.hid kx0
  have kp := Lib.hid kp0
  clear kx0 kp0
  obtain ⟨⟨j1, j2, j3⟩, j4, j5, j6, j7, j8, j9⟩ := kx.out
  have oN := Lib.hid j1
  have oR := Lib.hid j2
  have oL := Lib.hid j3
  have hlt := Lib.hid j4
  have hsub := Lib.hid j6
  have hpw := Lib.hid j7
  obtain ⟨c1, hc1⟩ : ∃ c, Nn.NatMath.cmp Nx 2 = c := ⟨_, rfl⟩
  have t1 := cmp_ge' j5
  rw [hc1] at t1
  have C1 := Lib.hid hc1
  obtain ⟨b1, hb1⟩ : ∃ b, Nn.NatMath.bl Nx = b := ⟨_, rfl⟩
  have t2 := bl_word j1
  rw [hb1] at t2
  have B1 := Lib.hid hb1
  obtain ⟨b2, hb2⟩ : ∃ b, Nn.NatMath.bl Rx = b := ⟨_, rfl⟩
  have t3 := bl_some j2
  rw [hb2] at t3
  have B2 := Lib.hid hb2
  have t4 : (b2 == 0) = false := by rw [beq_eq_false_iff_ne]; rw [beq_eq_false_iff_ne] at t3; omega
  obtain ⟨c2, hc2⟩ : ∃ c, Nn.NatMath.cmp Rx Nx = c := ⟨_, rfl⟩
  have t5 := cmp_lt' j4
  rw [hc2] at t5
  have C2 := Lib.hid hc2
  have t6 : decide ((1024 : Int) < (b1 : Int)) = false := t2
  have t7 : decide (1024 < b1) = false := decide_eq_false (by rw [decide_eq_false_iff_not] at t2; omega)
  have PE : Hid (1 * Np = Lx) := Lib.hid j8
  have Kp : Hid (PartOk Nx Rx Lx Np) := Lib.hid (j9 _ (by simp))
  clear hc1 hb1 hb2 hc2 t2 j1 j2 j3 j4 j5 j6 j7 j8 j9
  obtain ⟨xzb, xzo, rfl⟩ := Rw.addr (E0.out.fc 2 rfl) (by omega)
  go_wp2_with fail
  have E1 : Hid (Env D w [(w.heap.size, 99, [.slice xna 1 xnk, .slice xra 1 xrk, .slice (some ⟨xzb, xzo, none⟩) 1 xzk])] [.rw (.slice pra 1 prk) 1 1 (wd Rp), .rw (.slice pna 1 pnk) 1 1 (wd Np), .rw (.slice (some ⟨xzb, xzo, none⟩) 1 xzk) 1 3 [.slice pna 1 pnk, .slice pra 1 prk, .slice pza 0 pzk], .rw (.slice xra 1 xrk) 1 1 (wd Rx), .rw (.slice xna 1 xnk) 1 1 (wd Nx)] _) := Lib.hid ((E0.out.push 99 [.slice xna 1 xnk, .slice xra 1 xrk, .slice (some ⟨xzb, xzo, none⟩) 1 xzk] (w.heap.size) (by simp)))
  clear E0
  generalize w.alloc (.cells #[.slice xna 1 xnk, .slice xra 1 xrk, .slice (some ⟨xzb, xzo, none⟩) 1 xzk] 99) = w1 at *
  have E2 := Lib.hid E1.out.drew
  clear E1
  refine wp_regionU (S := fun w' => w'.cell? ⟨w.heap.size, 0, none⟩ = some (.slice xna 1 xnk) ∧ w'.cell? ⟨w.heap.size, 1, none⟩ = some (.slice xra 1 xrk)) [] (by kernel_rfl) (⟨((E2.out.bx 0 rfl).cell 0 rfl), ((E2.out.bx 0 rfl).cell 1 rfl)⟩) (fun hHeld => ?_)
  generalize w1.drew = w2 at *
  refine uTake (i := 0) (some 8) (v := ?_) rfl rfl (by kernel_rfl) (by kernel_rfl) (by kernel_rfl) (by kernel_rfl) (fun _ _ _ h => h) (by rfl) (by assumption) ?_ ?_
  rotate_left
  · (intro wS hSw; (try dsimp only at hSw); go_simp; try with_reducible rfl)
  try simp only [Act.put, List.setIfInBounds_toArray, List.set_cons_zero, List.set_cons_succ]
  refine uTake (i := 1) (some 9) (v := ?_) rfl rfl (by kernel_rfl) (by kernel_rfl) (by kernel_rfl) (by kernel_rfl) (fun _ _ _ h => h) (by rfl) (by assumption) ?_ ?_
  rotate_left
  · (intro wS hSw; (try dsimp only at hSw); go_simp; try with_reducible rfl)
  try simp only [Act.put, List.setIfInBounds_toArray, List.set_cons_zero, List.set_cons_succ]
  refine uReady (rs := [2]) (by kernel_rfl) (by simp) ?_
  refine ReadyU.cons rfl (fun KK hKK => ?_) ReadyU.nil
  go_simp
  refine (valid1 oN.out (E2.out.fc 4 rfl)).mono ?_
  rintro e w3 ⟨rfl, hb⟩
  have E3 := Lib.hid (E2.out.below hb)
  clear E2 hb
  (try dsimp only)
  clear hHeld
  refine hKK.out _ _ (⟨((E3.out.bx 0 rfl).cell 0 rfl), ((E3.out.bx 0 rfl).cell 1 rfl)⟩) (fun hHeld => ?_)
  clear hKK KK
  try simp only [Act.put, List.setIfInBounds_toArray, List.set_cons_zero, List.set_cons_succ]
  refine uTake (i := 3) (some 11) (v := ?_) rfl rfl (by kernel_rfl) (by kernel_rfl) (by kernel_rfl) (by kernel_rfl) (fun _ _ _ h => h) (by rfl) (by assumption) ?_ ?_
  rotate_left
  · (intro wS hSw; (try dsimp only at hSw); go_simp; try with_reducible rfl)
  try simp only [Act.put, List.setIfInBounds_toArray, List.set_cons_zero, List.set_cons_succ]
  refine uTake (i := 4) (some 12) (v := ?_) rfl rfl (by kernel_rfl) (by kernel_rfl) (by kernel_rfl) (by kernel_rfl) (fun _ _ _ h => h) (by rfl) (by assumption) ?_ ?_
  rotate_left
  · (intro wS hSw; (try dsimp only at hSw); go_simp; try with_reducible rfl)
  try simp only [Act.put, List.setIfInBounds_toArray, List.set_cons_zero, List.set_cons_succ]
  refine uTake (i := 5) (some 13) (v := ?_) rfl rfl (by kernel_rfl) (by kernel_rfl) (by kernel_rfl) (by kernel_rfl) (fun _ _ _ h => h) (by rfl) (by assumption) ?_ ?_
  rotate_left
  · (intro wS hSw; (try dsimp only at hSw); go_simp; try with_reducible rfl)
  try simp only [Act.put, List.setIfInBounds_toArray, List.set_cons_zero, List.set_cons_succ]
  refine uTake (i := 6) (some 14) (v := ?_) rfl rfl (by kernel_rfl) (by kernel_rfl) (by kernel_rfl) (by kernel_rfl) (fun _ _ _ h => h) (by rfl) (by assumption) ?_ ?_
  rotate_left
  · (intro wS hSw; (try dsimp only at hSw); go_simp; try with_reducible rfl)
  try simp only [Act.put, List.setIfInBounds_toArray, List.set_cons_zero, List.set_cons_succ]
  refine uReady (rs := [7]) (by kernel_rfl) (by simp) ?_
  refine ReadyU.cons rfl (fun KK hKK => ?_) ReadyU.nil
  go_simp
  refine (valid1 oR.out (E3.out.fc 3 rfl)).mono ?_
  rintro e w4 ⟨rfl, hb⟩
  have E4 := Lib.hid (E3.out.below hb)
  clear E3 hb
  (try dsimp only)
  clear hHeld
  refine hKK.out _ _ (⟨((E4.out.bx 0 rfl).cell 0 rfl), ((E4.out.bx 0 rfl).cell 1 rfl)⟩) (fun hHeld => ?_)
  clear hKK KK
  try simp only [Act.put, List.setIfInBounds_toArray, List.set_cons_zero, List.set_cons_succ]
  refine uTake (i := 8) (some 16) (v := ?_) rfl rfl (by kernel_rfl) (by kernel_rfl) (by kernel_rfl) (by kernel_rfl) (fun _ _ _ h => h) (by rfl) (by assumption) ?_ ?_
  rotate_left
  · (intro wS hSw; (try dsimp only at hSw); go_simp; try with_reducible rfl)
  try simp only [Act.put, List.setIfInBounds_toArray, List.set_cons_zero, List.set_cons_succ]
  refine uTake (i := 9) (some 17) (v := ?_) rfl rfl (by kernel_rfl) (by kernel_rfl) (by kernel_rfl) (by kernel_rfl) (fun _ _ _ h => h) (by rfl) (by assumption) ?_ ?_
  rotate_left
  · (intro wS hSw; (try dsimp only at hSw); go_simp; try with_reducible rfl)
  try simp only [Act.put, List.setIfInBounds_toArray, List.set_cons_zero, List.set_cons_succ]
  refine uTake (i := 10) (some 18) (v := ?_) rfl rfl (by kernel_rfl) (by kernel_rfl) (by kernel_rfl) (by kernel_rfl) (fun _ _ _ h => h) (by rfl) (by assumption) ?_ ?_
  rotate_left
  · (intro wS hSw; (try dsimp only at hSw); go_simp; try with_reducible rfl)
  try simp only [Act.put, List.setIfInBounds_toArray, List.set_cons_zero, List.set_cons_succ]
  refine uTake (i := 11) (some 19) (v := ?_) rfl rfl (by kernel_rfl) (by kernel_rfl) (by kernel_rfl) (by kernel_rfl) (fun _ _ _ h => h) (by rfl) (by assumption) ?_ ?_
  rotate_left
  · (intro wS hSw; (try dsimp only at hSw); go_simp; try with_reducible rfl)
  try simp only [Act.put, List.setIfInBounds_toArray, List.set_cons_zero, List.set_cons_succ]
  refine uTake (i := 12) (some 20) (v := ?_) rfl rfl (by kernel_rfl) (by kernel_rfl) (by kernel_rfl) (by kernel_rfl) (fun _ _ _ h => h) (by rfl) (by assumption) ?_ ?_
  rotate_left
  · (intro wS hSw; (try dsimp only at hSw); go_simp; try with_reducible rfl)
  try simp only [Act.put, List.setIfInBounds_toArray, List.set_cons_zero, List.set_cons_succ]
  refine uReady (rs := [13]) (by kernel_rfl) (by simp) ?_
  refine ReadyU.cons rfl (fun KK hKK => ?_) ReadyU.nil
  go_simp
  refine (bits1 B1.out oN.out (E4.out.fc 4 rfl)).mono ?_
  rintro e w5 ⟨rfl, hb⟩
  have E5 := Lib.hid (E4.out.below hb)
  clear E4 hb
  (try dsimp only)
  clear hHeld
  refine hKK.out _ _ (⟨((E5.out.bx 0 rfl).cell 0 rfl), ((E5.out.bx 0 rfl).cell 1 rfl)⟩) (fun hHeld => ?_)
  clear hKK KK
  try simp only [Act.put, List.setIfInBounds_toArray, List.set_cons_zero, List.set_cons_succ]
  refine uTake (i := 14) (some 22) (v := ?_) rfl rfl (by kernel_rfl) (by kernel_rfl) (by kernel_rfl) (by kernel_rfl) (fun _ _ _ h => h) (by rfl) (by assumption) ?_ ?_
  rotate_left
  · (intro wS hSw; (try dsimp only at hSw); go_simp; try with_reducible rfl)
  try simp only [Act.put, List.setIfInBounds_toArray, List.set_cons_zero, List.set_cons_succ]
  refine uTake (i := 15) (some 23) (v := ?_) rfl rfl (by kernel_rfl) (by kernel_rfl) (by kernel_rfl) (by kernel_rfl) (fun _ _ _ h => h) (by rfl) (by assumption) ?_ ?_
  rotate_left
  · (intro wS hSw; (try dsimp only at hSw); go_simp; try with_reducible rfl)
  try simp only [Act.put, List.setIfInBounds_toArray, List.set_cons_zero, List.set_cons_succ]
  refine uTake (i := 16) (some 24) (v := ?_) rfl rfl (by kernel_rfl) (by kernel_rfl) (by kernel_rfl) (by kernel_rfl) (fun _ _ _ h => h) (by rfl) (by assumption) ?_ ?_
  rotate_left
  · (intro wS hSw; (try dsimp only at hSw); go_simp; try with_reducible rfl)
  try simp only [Act.put, List.setIfInBounds_toArray, List.set_cons_zero, List.set_cons_succ]
  refine uTake (i := 17) (some 25) (v := ?_) rfl rfl (by kernel_rfl) (by kernel_rfl) (by kernel_rfl) (by kernel_rfl) (fun _ _ _ h => h) (by rfl) (by assumption) ?_ ?_
  rotate_left
  · (intro wS hSw; (try dsimp only at hSw); go_simp; try with_reducible rfl)
  try simp only [Act.put, List.setIfInBounds_toArray, List.set_cons_zero, List.set_cons_succ]
  refine uTake (i := 18) (some 26) (v := ?_) rfl rfl (by kernel_rfl) (by kernel_rfl) (by kernel_rfl) (by kernel_rfl) (fun _ _ _ h => h) (by rfl) (by assumption) ?_ ?_
  rotate_left
  · (intro wS hSw; (try dsimp only at hSw); go_simp; try with_reducible rfl)
  try simp only [Act.put, List.setIfInBounds_toArray, List.set_cons_zero, List.set_cons_succ]
  refine uReady (rs := [19]) (by kernel_rfl) (by simp) ?_
  refine ReadyU.cons rfl (fun KK hKK => ?_) ReadyU.nil
  go_simp
  refine (nat1 2 ⟨by decide, by decide⟩).mono ?_
  rintro e w6 ⟨⟨oa, ok, rfl, oh⟩, hb⟩
  have E6 := Lib.hid (E5.out.got (E5.out.below hb) (.rw (.slice oa 1 ok) 1 1 (wd 2)) (Lib.hid (Rw.ge oh.out)).out)
  clear E5 hb
  (try dsimp only)
  clear hHeld
  refine hKK.out _ _ (⟨((E6.out.bx 0 rfl).cell 0 rfl), ((E6.out.bx 0 rfl).cell 1 rfl)⟩) (fun hHeld => ?_)
  clear hKK KK
  try simp only [Act.put, List.setIfInBounds_toArray, List.set_cons_zero, List.set_cons_succ]
  refine uReady (rs := [20]) (by kernel_rfl) (by simp) ?_
  refine ReadyU.cons rfl (fun KK hKK => ?_) ReadyU.nil
  go_simp
  refine (cmp1 C1.out oN.out ⟨by decide, by decide⟩ (E6.out.fc 5 rfl) (E6.out.fc 0 rfl)).mono ?_
  rintro e w7 ⟨rfl, hb⟩
  have E7 := Lib.hid (E6.out.below hb)
  clear E6 hb
  (try dsimp only)
  clear hHeld
  refine hKK.out _ _ (⟨((E7.out.bx 0 rfl).cell 0 rfl), ((E7.out.bx 0 rfl).cell 1 rfl)⟩) (fun hHeld => ?_)
  clear hKK KK
  try simp only [Act.put, List.setIfInBounds_toArray, List.set_cons_zero, List.set_cons_succ]
  refine uTake (i := 21) (some 29) (v := ?_) rfl rfl (by kernel_rfl) (by kernel_rfl) (by kernel_rfl) (by kernel_rfl) (fun _ _ _ h => h) (by rfl) (by assumption) ?_ ?_
  rotate_left
  · (intro wS hSw; (try dsimp only at hSw); go_simp; try with_reducible rfl)
  try simp only [Act.put, List.setIfInBounds_toArray, List.set_cons_zero, List.set_cons_succ]
  refine uTake (i := 22) (some 30) (v := ?_) rfl rfl (by kernel_rfl) (by kernel_rfl) (by kernel_rfl) (by kernel_rfl) (fun _ _ _ h => h) (by rfl) (by assumption) ?_ ?_
  rotate_left
  · (intro wS hSw; (try dsimp only at hSw); go_simp; try with_reducible rfl)
  try simp only [Act.put, List.setIfInBounds_toArray, List.set_cons_zero, List.set_cons_succ]
  refine uDone (by kernel_rfl) ?_ _
  have b1 := E7.out.bx 0 rfl
  have c1_1 := b1.cell 1 rfl
  clear b1
  go_wp2_with fail
  refine (bits1 B2.out oR.out (E7.out.fc 4 rfl)).mono ?_
  rintro e w8 ⟨rfl, hb⟩
  have E8 := Lib.hid (E7.out.below hb)
  clear c1_1 E7 hb
  have b2 := E8.out.bx 0 rfl
  have c2_1 := b2.cell 1 rfl
  clear b2
  have b3 := E8.out.bx 0 rfl
  have c3_0 := b3.cell 0 rfl
  clear b3
  go_wp2_with fail
  refine (cmp1 C2.out oR.out oN.out (E8.out.fc 4 rfl) (E8.out.fc 5 rfl)).mono ?_
  rintro e w9 ⟨rfl, hb⟩
  have E9 := Lib.hid (E8.out.below hb)
  clear c2_1 c3_0 E8 hb
  go_wp2_with fail
  have E10 := Lib.hid E9.out.drew
  clear E9
  refine wp_regionU (S := fun w' => w'.cell? ⟨w.heap.size, 0, none⟩ = some (.slice xna 1 xnk)) [] (by kernel_rfl) (((E10.out.bx 0 rfl).cell 0 rfl)) (fun hHeld => ?_)
  generalize w9.drew = w10 at *
  refine uTake (i := 0) (some 44) (v := ?_) rfl rfl (by kernel_rfl) (by kernel_rfl) (by kernel_rfl) (by kernel_rfl) (fun _ _ _ h => h) (by rfl) (by assumption) ?_ ?_
  rotate_left
  · (intro wS hSw; (try dsimp only at hSw); go_simp; try with_reducible rfl)
  try simp only [Act.put, List.setIfInBounds_toArray, List.set_cons_zero, List.set_cons_succ]
  refine uTake (i := 1) (some 45) (v := ?_) rfl rfl (by kernel_rfl) (by kernel_rfl) (by kernel_rfl) (by kernel_rfl) (fun _ _ _ h => h) (by rfl) (by assumption) ?_ ?_
  rotate_left
  · (intro wS hSw; (try dsimp only at hSw); go_simp; try with_reducible rfl)
  try simp only [Act.put, List.setIfInBounds_toArray, List.set_cons_zero, List.set_cons_succ]
  refine uReady (rs := [2, 7]) (by kernel_rfl) (by simp) ?_
  refine (ReadyU.cons rfl (fun KK hKK => ?_) (ReadyU.cons rfl (fun KK hKK => ?_) ReadyU.nil))
  · skip
    go_simp
    refine (nat1 1 ⟨by decide, by decide⟩).mono ?_
    rintro e w11 ⟨⟨ia, ik, rfl, ih⟩, hb⟩
    have E11 := Lib.hid (E10.out.got (E10.out.below hb) (.rw (.slice ia 1 ik) 1 1 (wd 1)) (Lib.hid (Rw.ge ih.out)).out)
    clear E10 hb
    (try dsimp only)
    clear hHeld
    refine hKK.out _ _ (((E11.out.bx 0 rfl).cell 0 rfl)) (fun hHeld => ?_)
    clear hKK KK
    try simp only [Act.put, List.setIfInBounds_toArray, List.set_cons_zero, List.set_cons_succ]
    refine uReady (rs := [3, 7]) (by kernel_rfl) (by simp) ?_
    refine (ReadyU.cons rfl (fun KK hKK => ?_) (ReadyU.cons rfl (fun KK hKK => ?_) ReadyU.nil))
    · skip
      go_simp
      refine (sub1 hsub.out oL.out oN.out ⟨by decide, by decide⟩ (E11.out.fc 6 rfl) (E11.out.fc 0 rfl)).mono ?_
      rintro e w12 ⟨⟨la, lk, rfl, lh⟩, hb⟩
      have E12 := Lib.hid (E11.out.got (E11.out.below hb) (.rw (.slice la 1 lk) 1 1 (wd Lx)) (Lib.hid (Rw.ge lh.out)).out)
      clear E11 hb
      (try dsimp only)
      clear hHeld
      refine hKK.out _ _ (((E12.out.bx 0 rfl).cell 0 rfl)) (fun hHeld => ?_)
      clear hKK KK
      try simp only [Act.put, List.setIfInBounds_toArray, List.set_cons_zero, List.set_cons_succ]
      refine uTake (i := 4) (some 43) (v := ?_) rfl rfl (by kernel_rfl) (by kernel_rfl) (by kernel_rfl) (by kernel_rfl) (fun _ _ _ h => h) (by rfl) (by assumption) ?_ ?_
      rotate_left
      · (intro wS hSw; (try dsimp only at hSw); go_simp; try with_reducible rfl)
      try simp only [Act.put, List.setIfInBounds_toArray, List.set_cons_zero, List.set_cons_succ]
      refine uTake (i := 5) (some 48) (v := ?_) rfl rfl (by kernel_rfl) (by kernel_rfl) (by kernel_rfl) (by kernel_rfl) (fun _ _ _ h => h) (by rfl) (by assumption) ?_ ?_
      rotate_left
      · (intro wS hSw; (try dsimp only at hSw); go_simp; try with_reducible rfl)
      try simp only [Act.put, List.setIfInBounds_toArray, List.set_cons_zero, List.set_cons_succ]
      refine uTake (i := 6) (some 49) (v := ?_) rfl rfl (by kernel_rfl) (by kernel_rfl) (by kernel_rfl) (by kernel_rfl) (fun _ _ _ h => h) (by rfl) (by assumption) ?_ ?_
      rotate_left
      · (intro wS hSw; (try dsimp only at hSw); go_simp; try with_reducible rfl)
      try simp only [Act.put, List.setIfInBounds_toArray, List.set_cons_zero, List.set_cons_succ]
      refine uReady (rs := [7]) (by kernel_rfl) (by simp) ?_
      refine ReadyU.cons rfl (fun KK hKK => ?_) ReadyU.nil
      go_simp
      have E13 : Hid (Env D w [(w12.heap.size, 96, [.slice none 0 0]), (w.heap.size, 99, [.slice xna 1 xnk, .slice xra 1 xrk, .slice (some ⟨xzb, xzo, none⟩) 1 xzk])] [.rw (.slice la 1 lk) 1 1 (wd Lx), .rw (.slice ia 1 ik) 1 1 (wd 1), .rw (.slice oa 1 ok) 1 1 (wd 2), .rw (.slice pra 1 prk) 1 1 (wd Rp), .rw (.slice pna 1 pnk) 1 1 (wd Np), .rw (.slice (some ⟨xzb, xzo, none⟩) 1 xzk) 1 3 [.slice pna 1 pnk, .slice pra 1 prk, .slice pza 0 pzk], .rw (.slice xra 1 xrk) 1 1 (wd Rx), .rw (.slice xna 1 xnk) 1 1 (wd Nx)] _) := Lib.hid ((E12.out.push 96 [.slice none 0 0] (w12.heap.size) (by simp)))
      (try dsimp only)
      clear hHeld
      refine hKK.out _ _ (((E13.out.bx 1 rfl).cell 0 rfl)) (fun hHeld => ?_)
      clear hKK KK
      try simp only [Act.put, List.setIfInBounds_toArray, List.set_cons_zero, List.set_cons_succ]
      clear E12
      generalize w12.alloc (.cells #[.slice none 0 0] 96) = w13 at *
      have b4 := E13.out.bx 0 rfl
      have c4_0 := b4.cell 0 rfl
      have f4_0 := b4.frozen 0
      clear b4
      refine uReady (rs := [8]) (by kernel_rfl) (by simp) ?_
      refine ReadyU.cons rfl (fun KK hKK => ?_) ReadyU.nil
      go_simp
      have E14 : Hid (Env D w [(w12.heap.size, 96, [.slice la 1 lk]), (w.heap.size, 99, [.slice xna 1 xnk, .slice xra 1 xrk, .slice (some ⟨xzb, xzo, none⟩) 1 xzk])] [.rw (.slice la 1 lk) 1 1 (wd Lx), .rw (.slice ia 1 ik) 1 1 (wd 1), .rw (.slice oa 1 ok) 1 1 (wd 2), .rw (.slice pra 1 prk) 1 1 (wd Rp), .rw (.slice pna 1 pnk) 1 1 (wd Np), .rw (.slice (some ⟨xzb, xzo, none⟩) 1 xzk) 1 3 [.slice pna 1 pnk, .slice pra 1 prk, .slice pza 0 pzk], .rw (.slice xra 1 xrk) 1 1 (wd Rx), .rw (.slice xna 1 xnk) 1 1 (wd Nx)] _) := Lib.hid ((E13.out.set 0 0 (.slice la 1 lk) rfl))
      (try dsimp only)
      clear hHeld
      refine hKK.out _ _ (((E14.out.bx 1 rfl).cell 0 rfl)) (fun hHeld => ?_)
      clear hKK KK
      try simp only [Act.put, List.setIfInBounds_toArray, List.set_cons_zero, List.set_cons_succ]
      refine uTake (i := 9) (some 4) (v := ?_) rfl rfl (by kernel_rfl) (by kernel_rfl) (by kernel_rfl) (by kernel_rfl) (fun _ _ _ h => h) (by rfl) (by assumption) ?_ ?_
      rotate_left
      · (intro wS hSw; (try dsimp only at hSw); go_simp; try with_reducible rfl)
      try simp only [Act.put, List.setIfInBounds_toArray, List.set_cons_zero, List.set_cons_succ]
      refine uDone (by kernel_rfl) ?_ _
      clear c4_0 f4_0 E13
      generalize w13.setCell ⟨w12.heap.size, 0, none⟩ (.slice la 1 lk) = w14 at *
      go_wp2_with fail
      refine (nat1 1 ⟨by decide, by decide⟩).mono ?_
      rintro e w15 ⟨⟨ua, uk, rfl, uh⟩, hb⟩
      have E15 := Lib.hid (E14.out.got (E14.out.below hb) (.rw (.slice ua 1 uk) 1 1 (wd 1)) (Lib.hid (Rw.ge uh.out)).out)
      clear E14 hb
      have E16 : Hid (Env D w [(w15.heap.size, 96, [.slice ua 1 uk]), (w12.heap.size, 96, [.slice la 1 lk]), (w.heap.size, 99, [.slice xna 1 xnk, .slice xra 1 xrk, .slice (some ⟨xzb, xzo, none⟩) 1 xzk])] [.rw (.slice ua 1 uk) 1 1 (wd 1), .rw (.slice la 1 lk) 1 1 (wd Lx), .rw (.slice ia 1 ik) 1 1 (wd 1), .rw (.slice oa 1 ok) 1 1 (wd 2), .rw (.slice pra 1 prk) 1 1 (wd Rp), .rw (.slice pna 1 pnk) 1 1 (wd Np), .rw (.slice (some ⟨xzb, xzo, none⟩) 1 xzk) 1 3 [.slice pna 1 pnk, .slice pra 1 prk, .slice pza 0 pzk], .rw (.slice xra 1 xrk) 1 1 (wd Rx), .rw (.slice xna 1 xnk) 1 1 (wd Nx)] _) := Lib.hid ((E15.out.push 96 [.slice ua 1 uk] (w15.heap.size) (by simp)))
      have b5 := E16.out.bx 2 rfl
      have c5_2 := b5.cell 2 rfl
      clear b5
      go_wp2_with fail
      clear c5_2 E15
      generalize w15.alloc (.cells #[.slice ua 1 uk] 96) = w16 at *
      go_loopg [56] (1) (fun gk s56 wr => ∃ (k : Int) (P : Nat) (qa : Option Addr) (qk : Nat), s56 = .int .i64 k ∧ Hid (Env D w [(w15.heap.size, 96, [.slice qa 1 qk]), (w12.heap.size, 96, [.slice la 1 lk]), (w.heap.size, 99, [.slice xna 1 xnk, .slice xra 1 xrk, .slice (some ⟨xzb, xzo, none⟩) 1 xzk])] [.rw (.slice qa 1 qk) 1 1 (wd P), .rw (.slice la 1 lk) 1 1 (wd Lx), .rw (.slice ia 1 ik) 1 1 (wd 1), .rw (.slice oa 1 ok) 1 1 (wd 2), .rw (.slice pra 1 prk) 1 1 (wd Rp), .rw (.slice pna 1 pnk) 1 1 (wd Np), .rw (.slice (some ⟨xzb, xzo, none⟩) 1 xzk) 1 3 [.slice pna 1 pnk, .slice pra 1 prk, .slice pza 0 pzk], .rw (.slice xra 1 xrk) 1 1 (wd Rx), .rw (.slice xna 1 xnk) 1 1 (wd Nx)] wr) ∧ Hid (((0 ≤ k ∧ k ≤ 1) ∧ gk = 1 - k.toNat) ∧ (k = 0 → P = 1) ∧ (k = 1 → P = 1 * Np)))
      case atStart => exact ⟨0, 1, ua, uk, rfl, Lib.hid E16.out, Lib.hid ⟨⟨by omega, rfl⟩, fun _ => rfl, fun h => by omega⟩⟩
      case round =>
        clear E16
        obtain ⟨k, P, qa, qk, rfl, EL, HA⟩ := hrel
        obtain ⟨⟨a1, a2⟩, a3⟩ := HA.out
        have HP := Lib.hid a3
        clear HA a3
        have hk' : k = 0 ∨ k = 1 := by omega
        clear a1
        rcases hk' with rfl | rfl
        · skip
          have hP : P = 1 := HP.out.1 rfl
          have oP : Hid (One P) := Lib.hid (by rw [hP]; exact ⟨by decide, by decide⟩)
          have oM : Hid (One Np) := Lib.hid kp.out.1.1
          obtain ⟨P2, hP2⟩ : ∃ x, P * Np = x := ⟨_, rfl⟩
          have e2 : P2 = 1 * Np := by rw [← hP2, hP]
          have hle : P2 ≤ Lx := by rw [e2, PE.out]; exact Nat.le_refl _
          have oP2 : Hid (One P2) := Lib.hid ⟨by rw [← hP2]; exact Nat.mul_pos oP.out.1 oM.out.1, Nat.lt_of_le_of_lt hle oL.out.2⟩
          obtain ⟨c4, hc4⟩ : ∃ c, Nn.NatMath.cmp P2 Lx = c := ⟨_, rfl⟩
          have t8 := cmp_gt hle
          rw [hc4] at t8
          have C4 := Lib.hid hc4
          have HP2 := Lib.hid hP2
          have HE2 := Lib.hid e2
          clear hc4 hP2 e2 hle hP HP
          have E17 : Hid (Env D w [(w15.heap.size, 96, [.slice qa 1 qk]), (w12.heap.size, 96, [.slice la 1 lk]), (w.heap.size, 99, [.slice xna 1 xnk, .slice xra 1 xrk, .slice (some ⟨xzb, xzo, none⟩) 1 xzk])] [.ce xzb xzo (.slice pna 1 pnk), .ce xzb (xzo + 1) (.slice pra 1 prk), .ce xzb (xzo + 2) (.slice pza 0 pzk), .rw (.slice qa 1 qk) 1 1 (wd P), .rw (.slice la 1 lk) 1 1 (wd Lx), .rw (.slice ia 1 ik) 1 1 (wd 1), .rw (.slice oa 1 ok) 1 1 (wd 2), .rw (.slice pra 1 prk) 1 1 (wd Rp), .rw (.slice pna 1 pnk) 1 1 (wd Np), .rw (.slice (some ⟨xzb, xzo, none⟩) 1 xzk) 1 3 [.slice pna 1 pnk, .slice pra 1 prk, .slice pza 0 pzk], .rw (.slice xra 1 xrk) 1 1 (wd Rx), .rw (.slice xna 1 xnk) 1 1 (wd Nx)] _) := Lib.hid (EL.out.el3 6 rfl (by omega) (a := 0) (c := 1) (d := 2) rfl rfl rfl)
          clear EL
          have y0 := (E17.out.fc 0 rfl).2
          have y1 := (E17.out.fc 1 rfl).2
          have y2 := (E17.out.fc 2 rfl).2
          go_wp2_with fail
          have E18 : Hid (Env D w [(wr.heap.size, 99, [.slice pna 1 pnk, .slice pra 1 prk, .slice pza 0 pzk]), (w15.heap.size, 96, [.slice qa 1 qk]), (w12.heap.size, 96, [.slice la 1 lk]), (w.heap.size, 99, [.slice xna 1 xnk, .slice xra 1 xrk, .slice (some ⟨xzb, xzo, none⟩) 1 xzk])] [.ce xzb xzo (.slice pna 1 pnk), .ce xzb (xzo + 1) (.slice pra 1 prk), .ce xzb (xzo + 2) (.slice pza 0 pzk), .rw (.slice qa 1 qk) 1 1 (wd P), .rw (.slice la 1 lk) 1 1 (wd Lx), .rw (.slice ia 1 ik) 1 1 (wd 1), .rw (.slice oa 1 ok) 1 1 (wd 2), .rw (.slice pra 1 prk) 1 1 (wd Rp), .rw (.slice pna 1 pnk) 1 1 (wd Np), .rw (.slice (some ⟨xzb, xzo, none⟩) 1 xzk) 1 3 [.slice pna 1 pnk, .slice pra 1 prk, .slice pza 0 pzk], .rw (.slice xra 1 xrk) 1 1 (wd Rx), .rw (.slice xna 1 xnk) 1 1 (wd Nx)] _) := Lib.hid ((E17.out.push 99 [.slice pna 1 pnk, .slice pra 1 prk, .slice pza 0 pzk] (wr.heap.size) (by simp)))
          clear y0 y1 y2 E17
          generalize wr.alloc (.cells #[.slice pna 1 pnk, .slice pra 1 prk, .slice pza 0 pzk] 99) = w17 at *
          have E19 := Lib.hid E18.out.drew
          clear E18
          refine wp_regionU (S := fun w' => w'.cell? ⟨wr.heap.size, 0, none⟩ = some (.slice pna 1 pnk) ∧ w'.cell? ⟨wr.heap.size, 1, none⟩ = some (.slice pra 1 prk) ∧ w'.cell? ⟨wr.heap.size, 2, none⟩ = some (.slice pza 0 pzk)) [] (by kernel_rfl) (⟨((E19.out.bx 0 rfl).cell 0 rfl), ((E19.out.bx 0 rfl).cell 1 rfl), ((E19.out.bx 0 rfl).cell 2 rfl)⟩) (fun hHeld => ?_)
          generalize w17.drew = w18 at *
          refine uTake (i := 0) (some 61) (v := ?_) rfl rfl (by kernel_rfl) (by kernel_rfl) (by kernel_rfl) (by kernel_rfl) (fun _ _ _ h => h) (by rfl) (by assumption) ?_ ?_
          rotate_left
          · (intro wS hSw; (try dsimp only at hSw); go_simp; try with_reducible rfl)
          try simp only [Act.put, List.setIfInBounds_toArray, List.set_cons_zero, List.set_cons_succ]
          refine uReady (rs := [1]) (by kernel_rfl) (by simp) ?_
          refine ReadyU.cons rfl (fun KK hKK => ?_) ReadyU.nil
          go_simp
          refine (right_0 Np Rp Lp (E19.out.fc 8 rfl) (E19.out.fc 7 rfl) kp.out).mono ?_
          rintro e w19 ⟨rfl, hb⟩
          have E20 := Lib.hid (E19.out.below hb)
          clear E19 hb
          (try dsimp only)
          clear hHeld
          refine hKK.out _ _ (⟨((E20.out.bx 0 rfl).cell 0 rfl), ((E20.out.bx 0 rfl).cell 1 rfl), ((E20.out.bx 0 rfl).cell 2 rfl)⟩) (fun hHeld => ?_)
          clear hKK KK
          try simp only [Act.put, List.setIfInBounds_toArray, List.set_cons_zero, List.set_cons_succ]
          refine uTake (i := 2) (some 63) (v := ?_) rfl rfl (by kernel_rfl) (by kernel_rfl) (by kernel_rfl) (by kernel_rfl) (fun _ _ _ h => h) (by rfl) (by assumption) ?_ ?_
          rotate_left
          · (intro wS hSw; (try dsimp only at hSw); go_simp; try with_reducible rfl)
          try simp only [Act.put, List.setIfInBounds_toArray, List.set_cons_zero, List.set_cons_succ]
          refine uTake (i := 3) (some 64) (v := ?_) rfl rfl (by kernel_rfl) (by kernel_rfl) (by kernel_rfl) (by kernel_rfl) (fun _ _ _ h => h) (by rfl) (by assumption) ?_ ?_
          rotate_left
          · (intro wS hSw; (try dsimp only at hSw); go_simp; try with_reducible rfl)
          try simp only [Act.put, List.setIfInBounds_toArray, List.set_cons_zero, List.set_cons_succ]
          refine uTake (i := 4) (some 65) (v := ?_) rfl rfl (by kernel_rfl) (by kernel_rfl) (by kernel_rfl) (by kernel_rfl) (fun _ _ _ h => h) (by rfl) (by assumption) ?_ ?_
          rotate_left
          · (intro wS hSw; (try dsimp only at hSw); go_simp; try with_reducible rfl)
          try simp only [Act.put, List.setIfInBounds_toArray, List.set_cons_zero, List.set_cons_succ]
          refine uTake (i := 5) (some 66) (v := ?_) rfl rfl (by kernel_rfl) (by kernel_rfl) (by kernel_rfl) (by kernel_rfl) (fun _ _ _ h => h) (by rfl) (by assumption) ?_ ?_
          rotate_left
          · (intro wS hSw; (try dsimp only at hSw); go_simp; try with_reducible rfl)
          try simp only [Act.put, List.setIfInBounds_toArray, List.set_cons_zero, List.set_cons_succ]
          refine uTake (i := 6) (some 67) (v := ?_) rfl rfl (by kernel_rfl) (by kernel_rfl) (by kernel_rfl) (by kernel_rfl) (fun _ _ _ h => h) (by rfl) (by assumption) ?_ ?_
          rotate_left
          · (intro wS hSw; (try dsimp only at hSw); go_simp; try with_reducible rfl)
          try simp only [Act.put, List.setIfInBounds_toArray, List.set_cons_zero, List.set_cons_succ]
          refine uPass (i := 7) (some 68) rfl rfl (by kernel_rfl) (by kernel_rfl) (by kernel_rfl) (by kernel_rfl) (fun _ _ _ h => h) (by rfl) (by assumption) ?_
          try simp only [Act.put, List.setIfInBounds_toArray, List.set_cons_zero, List.set_cons_succ]
          refine uPass (i := 8) (some 69) rfl rfl (by kernel_rfl) (by kernel_rfl) (by kernel_rfl) (by kernel_rfl) (fun _ _ _ h => h) (by rfl) (by assumption) ?_
          try simp only [Act.put, List.setIfInBounds_toArray, List.set_cons_zero, List.set_cons_succ]
          refine uPass (i := 9) (some 70) rfl rfl (by kernel_rfl) (by kernel_rfl) (by kernel_rfl) (by kernel_rfl) (fun _ _ _ h => h) (by rfl) (by assumption) ?_
          try simp only [Act.put, List.setIfInBounds_toArray, List.set_cons_zero, List.set_cons_succ]
          refine uPass (i := 10) (some 71) rfl rfl (by kernel_rfl) (by kernel_rfl) (by kernel_rfl) (by kernel_rfl) (fun _ _ _ h => h) (by rfl) (by assumption) ?_
          try simp only [Act.put, List.setIfInBounds_toArray, List.set_cons_zero, List.set_cons_succ]
          refine uPass (i := 11) (some 72) rfl rfl (by kernel_rfl) (by kernel_rfl) (by kernel_rfl) (by kernel_rfl) (fun _ _ _ h => h) (by rfl) (by assumption) ?_
          try simp only [Act.put, List.setIfInBounds_toArray, List.set_cons_zero, List.set_cons_succ]
          refine uPass (i := 12) (some 73) rfl rfl (by kernel_rfl) (by kernel_rfl) (by kernel_rfl) (by kernel_rfl) (fun _ _ _ h => h) (by rfl) (by assumption) ?_
          try simp only [Act.put, List.setIfInBounds_toArray, List.set_cons_zero, List.set_cons_succ]
          refine uPass (i := 13) (some 74) rfl rfl (by kernel_rfl) (by kernel_rfl) (by kernel_rfl) (by kernel_rfl) (fun _ _ _ h => h) (by rfl) (by assumption) ?_
          try simp only [Act.put, List.setIfInBounds_toArray, List.set_cons_zero, List.set_cons_succ]
          refine uPass (i := 14) (some 75) rfl rfl (by kernel_rfl) (by kernel_rfl) (by kernel_rfl) (by kernel_rfl) (fun _ _ _ h => h) (by rfl) (by assumption) ?_
          try simp only [Act.put, List.setIfInBounds_toArray, List.set_cons_zero, List.set_cons_succ]
          refine uPass (i := 15) (some 76) rfl rfl (by kernel_rfl) (by kernel_rfl) (by kernel_rfl) (by kernel_rfl) (fun _ _ _ h => h) (by rfl) (by assumption) ?_
          try simp only [Act.put, List.setIfInBounds_toArray, List.set_cons_zero, List.set_cons_succ]
          refine uPass (i := 16) (some 77) rfl rfl (by kernel_rfl) (by kernel_rfl) (by kernel_rfl) (by kernel_rfl) (fun _ _ _ h => h) (by rfl) (by assumption) ?_
          try simp only [Act.put, List.setIfInBounds_toArray, List.set_cons_zero, List.set_cons_succ]
          refine uPass (i := 17) (some 78) rfl rfl (by kernel_rfl) (by kernel_rfl) (by kernel_rfl) (by kernel_rfl) (fun _ _ _ h => h) (by rfl) (by assumption) ?_
          try simp only [Act.put, List.setIfInBounds_toArray, List.set_cons_zero, List.set_cons_succ]
          refine uTake (i := 18) (some 79) (v := ?_) rfl rfl (by kernel_rfl) (by kernel_rfl) (by kernel_rfl) (by kernel_rfl) (fun _ _ _ h => h) (by rfl) (by assumption) ?_ ?_
          rotate_left
          · (intro wS hSw; (try dsimp only at hSw); go_simp; try with_reducible rfl)
          try simp only [Act.put, List.setIfInBounds_toArray, List.set_cons_zero, List.set_cons_succ]
          refine uTake (i := 19) (some 80) (v := ?_) rfl rfl (by kernel_rfl) (by kernel_rfl) (by kernel_rfl) (by kernel_rfl) (fun _ _ _ h => h) (by rfl) (by assumption) ?_ ?_
          rotate_left
          · (intro wS hSw; (try dsimp only at hSw); go_simp; try with_reducible rfl)
          try simp only [Act.put, List.setIfInBounds_toArray, List.set_cons_zero, List.set_cons_succ]
          refine uDone (by kernel_rfl) ?_ _
          have b6 := E20.out.bx 1 rfl
          have c6_0 := b6.cell 0 rfl
          clear b6
          have b7 := E20.out.bx 0 rfl
          have c7_0 := b7.cell 0 rfl
          clear b7
          go_wp2_with fail
          refine (mul1 HP2.out oP2.out oP.out oM.out (E20.out.fc 3 rfl) (E20.out.fc 8 rfl)).mono ?_
          rintro e w20 ⟨⟨ma, mk, rfl, mh⟩, hb⟩
          have E21 := Lib.hid (E20.out.got (E20.out.below hb) (.rw (.slice ma 1 mk) 1 1 (wd P2)) (Lib.hid (Rw.ge mh.out)).out)
          clear c6_0 c7_0 E20 hb
          have b8 := E21.out.bx 1 rfl
          have c8_0 := b8.cell 0 rfl
          have f8_0 := b8.frozen 0
          clear b8
          have E22 : Hid (Env D w [(wr.heap.size, 99, [.slice pna 1 pnk, .slice pra 1 prk, .slice pza 0 pzk]), (w15.heap.size, 96, [.slice ma 1 mk]), (w12.heap.size, 96, [.slice la 1 lk]), (w.heap.size, 99, [.slice xna 1 xnk, .slice xra 1 xrk, .slice (some ⟨xzb, xzo, none⟩) 1 xzk])] [.rw (.slice ma 1 mk) 1 1 (wd P2), .ce xzb xzo (.slice pna 1 pnk), .ce xzb (xzo + 1) (.slice pra 1 prk), .ce xzb (xzo + 2) (.slice pza 0 pzk), .rw (.slice qa 1 qk) 1 1 (wd P), .rw (.slice la 1 lk) 1 1 (wd Lx), .rw (.slice ia 1 ik) 1 1 (wd 1), .rw (.slice oa 1 ok) 1 1 (wd 2), .rw (.slice pra 1 prk) 1 1 (wd Rp), .rw (.slice pna 1 pnk) 1 1 (wd Np), .rw (.slice (some ⟨xzb, xzo, none⟩) 1 xzk) 1 3 [.slice pna 1 pnk, .slice pra 1 prk, .slice pza 0 pzk], .rw (.slice xra 1 xrk) 1 1 (wd Rx), .rw (.slice xna 1 xnk) 1 1 (wd Nx)] _) := Lib.hid ((E21.out.set 1 0 (.slice ma 1 mk) rfl))
          have b9 := E22.out.bx 2 rfl
          have c9_0 := b9.cell 0 rfl
          clear b9
          go_wp2_with fail
          refine (cmp1 C4.out oP2.out oL.out (E22.out.fc 0 rfl) (E22.out.fc 5 rfl)).mono ?_
          rintro e w21 ⟨rfl, hb⟩
          have E23 := Lib.hid (E22.out.below hb)
          clear c8_0 f8_0 c9_0 E21 E22 hb
          have hZ := (E23.out.drop)
          have EZ : Hid (Env D w [(w15.heap.size, 96, [.slice ma 1 mk]), (w12.heap.size, 96, [.slice la 1 lk]), (w.heap.size, 99, [.slice xna 1 xnk, .slice xra 1 xrk, .slice (some ⟨xzb, xzo, none⟩) 1 xzk])] [.rw (.slice ma 1 mk) 1 1 (wd P2), .rw (.slice la 1 lk) 1 1 (wd Lx), .rw (.slice ia 1 ik) 1 1 (wd 1), .rw (.slice oa 1 ok) 1 1 (wd 2), .rw (.slice pra 1 prk) 1 1 (wd Rp), .rw (.slice pna 1 pnk) 1 1 (wd Np), .rw (.slice (some ⟨xzb, xzo, none⟩) 1 xzk) 1 3 [.slice pna 1 pnk, .slice pra 1 prk, .slice pza 0 pzk], .rw (.slice xra 1 xrk) 1 1 (wd Rx), .rw (.slice xna 1 xnk) 1 1 (wd Nx)] _) := Lib.hid ⟨hZ.bel, hZ.box, ⟨hZ.fc 0 rfl, ⟨hZ.fc 5 rfl, ⟨hZ.fc 6 rfl, ⟨hZ.fc 7 rfl, ⟨hZ.fc 8 rfl, ⟨hZ.fc 9 rfl, ⟨hZ.fc 10 rfl, ⟨hZ.fc 11 rfl, ⟨hZ.fc 12 rfl, trivial⟩⟩⟩⟩⟩⟩⟩⟩⟩⟩
          clear hZ
          go_wp2
          go_roundg (1 - 1)
          case rel => exact ⟨1, P2, ma, mk, rfl, EZ, Lib.hid ⟨⟨by omega, rfl⟩, fun h => by omega, fun h => HE2.out⟩⟩
          case measure => (simp at a2; omega)
        · skip
          have hP : P = 1 * Np := HP.out.2 rfl
          have hPL : P = Lx := by rw [hP]; exact PE.out
          subst hPL
          clear HP hP
          have b6 := EL.out.bx 0 rfl
          have c6_0 := b6.cell 0 rfl
          clear b6
          have b7 := EL.out.bx 1 rfl
          have c7_0 := b7.cell 0 rfl
          clear b7
          go_wp2_with fail
          refine (cmp1 (cmp_self _) oL.out oL.out (EL.out.fc 0 rfl) (EL.out.fc 1 rfl)).mono ?_
          rintro e w17 ⟨rfl, hb⟩
          have E17 := Lib.hid (EL.out.below hb)
          clear c6_0 c7_0 EL hb
          have b8 := E17.out.bx 2 rfl
          have c8_0 := b8.cell 0 rfl
          have c8_1 := b8.cell 1 rfl
          have c8_2 := b8.cell 2 rfl
          clear b8
          have b9 := E17.out.bx 1 rfl
          have c9_0 := b9.cell 0 rfl
          clear b9
          go_wp2_with fail
          refine (one1 Nx Rx P (Fct.any (E17.out.fc 8 rfl)) (Fct.any (E17.out.fc 7 rfl)) (Fct.any (E17.out.fc 1 rfl)) 1 hpw.out ⟨by decide, by decide⟩ oN.out oR.out oL.out hlt.out rfl).mono ?_
          rintro e w18 ⟨rfl, hb⟩
          have E18 := Lib.hid (E17.out.below hb)
          clear c8_0 c8_1 c8_2 c9_0 E17 hb
          have b10 := E18.out.bx 2 rfl
          have c10_2 := b10.cell 2 rfl
          clear b10
          go_wp2_with fail
          refine (ccon1 Nx Rx P Np (w12.heap.size) (w.heap.size) (Fct.any (E18.out.fc 8 rfl)) (Fct.any (E18.out.fc 7 rfl)) (Fct.any (E18.out.fc 1 rfl)) ⟨⟨(E18.out.bx 1 rfl).lt, trivial⟩, (E18.out.bx 1 rfl).cell 0 rfl⟩ ⟨⟨(E18.out.bx 2 rfl).lt, trivial⟩, (E18.out.bx 2 rfl).cell 0 rfl⟩ ⟨⟨(E18.out.bx 2 rfl).lt, trivial⟩, (E18.out.bx 2 rfl).cell 1 rfl⟩ ⟨⟨(E18.out.bx 2 rfl).lt, trivial⟩, (E18.out.bx 2 rfl).cell 2 rfl⟩ (Fct.any (E18.out.fc 6 rfl)) (Fct.any (E18.out.fc 5 rfl)) oN.out oR.out oL.out hlt.out Kp.out).mono ?_
          rintro e w19 ⟨rfl, hb⟩
          have E19 := Lib.hid (E18.out.below hb)
          clear c10_2 E18 hb
          have hfin := Lib.hid E19.out.bel
          go_wp2
          go_ret
          exact ⟨rfl, hfin.out⟩
    · skip
      go_simp
      have E12 : Hid (Env D w [(w11.heap.size, 96, [.slice none 0 0]), (w.heap.size, 99, [.slice xna 1 xnk, .slice xra 1 xrk, .slice (some ⟨xzb, xzo, none⟩) 1 xzk])] [.rw (.slice ia 1 ik) 1 1 (wd 1), .rw (.slice oa 1 ok) 1 1 (wd 2), .rw (.slice pra 1 prk) 1 1 (wd Rp), .rw (.slice pna 1 pnk) 1 1 (wd Np), .rw (.slice (some ⟨xzb, xzo, none⟩) 1 xzk) 1 3 [.slice pna 1 pnk, .slice pra 1 prk, .slice pza 0 pzk], .rw (.slice xra 1 xrk) 1 1 (wd Rx), .rw (.slice xna 1 xnk) 1 1 (wd Nx)] _) := Lib.hid ((E11.out.push 96 [.slice none 0 0] (w11.heap.size) (by simp)))
      (try dsimp only)
      clear hHeld
      refine hKK.out _ _ (((E12.out.bx 1 rfl).cell 0 rfl)) (fun hHeld => ?_)
      clear hKK KK
      try simp only [Act.put, List.setIfInBounds_toArray, List.set_cons_zero, List.set_cons_succ]
      clear E11
      generalize w11.alloc (.cells #[.slice none 0 0] 96) = w12 at *
      refine uReady (rs := [3]) (by kernel_rfl) (by simp) ?_
      refine ReadyU.cons rfl (fun KK hKK => ?_) ReadyU.nil
      go_simp
      refine (sub1 hsub.out oL.out oN.out ⟨by decide, by decide⟩ (E12.out.fc 6 rfl) (E12.out.fc 0 rfl)).mono ?_
      rintro e w13 ⟨⟨la, lk, rfl, lh⟩, hb⟩
      have E13 := Lib.hid (E12.out.got (E12.out.below hb) (.rw (.slice la 1 lk) 1 1 (wd Lx)) (Lib.hid (Rw.ge lh.out)).out)
      clear E12 hb
      (try dsimp only)
      clear hHeld
      refine hKK.out _ _ (((E13.out.bx 1 rfl).cell 0 rfl)) (fun hHeld => ?_)
      clear hKK KK
      try simp only [Act.put, List.setIfInBounds_toArray, List.set_cons_zero, List.set_cons_succ]
      refine uTake (i := 4) (some 43) (v := ?_) rfl rfl (by kernel_rfl) (by kernel_rfl) (by kernel_rfl) (by kernel_rfl) (fun _ _ _ h => h) (by rfl) (by assumption) ?_ ?_
      rotate_left
      · (intro wS hSw; (try dsimp only at hSw); go_simp; try with_reducible rfl)
      try simp only [Act.put, List.setIfInBounds_toArray, List.set_cons_zero, List.set_cons_succ]
      refine uTake (i := 5) (some 48) (v := ?_) rfl rfl (by kernel_rfl) (by kernel_rfl) (by kernel_rfl) (by kernel_rfl) (fun _ _ _ h => h) (by rfl) (by assumption) ?_ ?_
      rotate_left
      · (intro wS hSw; (try dsimp only at hSw); go_simp; try with_reducible rfl)
      try simp only [Act.put, List.setIfInBounds_toArray, List.set_cons_zero, List.set_cons_succ]
      refine uTake (i := 6) (some 49) (v := ?_) rfl rfl (by kernel_rfl) (by kernel_rfl) (by kernel_rfl) (by kernel_rfl) (fun _ _ _ h => h) (by rfl) (by assumption) ?_ ?_
      rotate_left
      · (intro wS hSw; (try dsimp only at hSw); go_simp; try with_reducible rfl)
      try simp only [Act.put, List.setIfInBounds_toArray, List.set_cons_zero, List.set_cons_succ]
      have b4 := E13.out.bx 0 rfl
      have c4_0 := b4.cell 0 rfl
      have f4_0 := b4.frozen 0
      clear b4
      refine uReady (rs := [8]) (by kernel_rfl) (by simp) ?_
      refine ReadyU.cons rfl (fun KK hKK => ?_) ReadyU.nil
      go_simp
      have E14 : Hid (Env D w [(w11.heap.size, 96, [.slice la 1 lk]), (w.heap.size, 99, [.slice xna 1 xnk, .slice xra 1 xrk, .slice (some ⟨xzb, xzo, none⟩) 1 xzk])] [.rw (.slice la 1 lk) 1 1 (wd Lx), .rw (.slice ia 1 ik) 1 1 (wd 1), .rw (.slice oa 1 ok) 1 1 (wd 2), .rw (.slice pra 1 prk) 1 1 (wd Rp), .rw (.slice pna 1 pnk) 1 1 (wd Np), .rw (.slice (some ⟨xzb, xzo, none⟩) 1 xzk) 1 3 [.slice pna 1 pnk, .slice pra 1 prk, .slice pza 0 pzk], .rw (.slice xra 1 xrk) 1 1 (wd Rx), .rw (.slice xna 1 xnk) 1 1 (wd Nx)] _) := Lib.hid ((E13.out.set 0 0 (.slice la 1 lk) rfl))
      (try dsimp only)
      clear hHeld
      refine hKK.out _ _ (((E14.out.bx 1 rfl).cell 0 rfl)) (fun hHeld => ?_)
      clear hKK KK
      try simp only [Act.put, List.setIfInBounds_toArray, List.set_cons_zero, List.set_cons_succ]
      refine uTake (i := 9) (some 4) (v := ?_) rfl rfl (by kernel_rfl) (by kernel_rfl) (by kernel_rfl) (by kernel_rfl) (fun _ _ _ h => h) (by rfl) (by assumption) ?_ ?_
      rotate_left
      · (intro wS hSw; (try dsimp only at hSw); go_simp; try with_reducible rfl)
      try simp only [Act.put, List.setIfInBounds_toArray, List.set_cons_zero, List.set_cons_succ]
      refine uDone (by kernel_rfl) ?_ _
      clear c4_0 f4_0 E13
      generalize w13.setCell ⟨w11.heap.size, 0, none⟩ (.slice la 1 lk) = w14 at *
      go_wp2_with fail
      refine (nat1 1 ⟨by decide, by decide⟩).mono ?_
      rintro e w15 ⟨⟨ua, uk, rfl, uh⟩, hb⟩
      have E15 := Lib.hid (E14.out.got (E14.out.below hb) (.rw (.slice ua 1 uk) 1 1 (wd 1)) (Lib.hid (Rw.ge uh.out)).out)
      clear E14 hb
      have E16 : Hid (Env D w [(w15.heap.size, 96, [.slice ua 1 uk]), (w11.heap.size, 96, [.slice la 1 lk]), (w.heap.size, 99, [.slice xna 1 xnk, .slice xra 1 xrk, .slice (some ⟨xzb, xzo, none⟩) 1 xzk])] [.rw (.slice ua 1 uk) 1 1 (wd 1), .rw (.slice la 1 lk) 1 1 (wd Lx), .rw (.slice ia 1 ik) 1 1 (wd 1), .rw (.slice oa 1 ok) 1 1 (wd 2), .rw (.slice pra 1 prk) 1 1 (wd Rp), .rw (.slice pna 1 pnk) 1 1 (wd Np), .rw (.slice (some ⟨xzb, xzo, none⟩) 1 xzk) 1 3 [.slice pna 1 pnk, .slice pra 1 prk, .slice pza 0 pzk], .rw (.slice xra 1 xrk) 1 1 (wd Rx), .rw (.slice xna 1 xnk) 1 1 (wd Nx)] _) := Lib.hid ((E15.out.push 96 [.slice ua 1 uk] (w15.heap.size) (by simp)))
      have b5 := E16.out.bx 2 rfl
      have c5_2 := b5.cell 2 rfl
      clear b5
      go_wp2_with fail
      clear c5_2 E15
      generalize w15.alloc (.cells #[.slice ua 1 uk] 96) = w16 at *
      go_loopg [56] (1) (fun gk s56 wr => ∃ (k : Int) (P : Nat) (qa : Option Addr) (qk : Nat), s56 = .int .i64 k ∧ Hid (Env D w [(w15.heap.size, 96, [.slice qa 1 qk]), (w11.heap.size, 96, [.slice la 1 lk]), (w.heap.size, 99, [.slice xna 1 xnk, .slice xra 1 xrk, .slice (some ⟨xzb, xzo, none⟩) 1 xzk])] [.rw (.slice qa 1 qk) 1 1 (wd P), .rw (.slice la 1 lk) 1 1 (wd Lx), .rw (.slice ia 1 ik) 1 1 (wd 1), .rw (.slice oa 1 ok) 1 1 (wd 2), .rw (.slice pra 1 prk) 1 1 (wd Rp), .rw (.slice pna 1 pnk) 1 1 (wd Np), .rw (.slice (some ⟨xzb, xzo, none⟩) 1 xzk) 1 3 [.slice pna 1 pnk, .slice pra 1 prk, .slice pza 0 pzk], .rw (.slice xra 1 xrk) 1 1 (wd Rx), .rw (.slice xna 1 xnk) 1 1 (wd Nx)] wr) ∧ Hid (((0 ≤ k ∧ k ≤ 1) ∧ gk = 1 - k.toNat) ∧ (k = 0 → P = 1) ∧ (k = 1 → P = 1 * Np)))
      case atStart => exact ⟨0, 1, ua, uk, rfl, Lib.hid E16.out, Lib.hid ⟨⟨by omega, rfl⟩, fun _ => rfl, fun h => by omega⟩⟩
      case round =>
        clear E16
        obtain ⟨k, P, qa, qk, rfl, EL, HA⟩ := hrel
        obtain ⟨⟨a1, a2⟩, a3⟩ := HA.out
        have HP := Lib.hid a3
        clear HA a3
        have hk' : k = 0 ∨ k = 1 := by omega
        clear a1
        rcases hk' with rfl | rfl
        · skip
          have hP : P = 1 := HP.out.1 rfl
          have oP : Hid (One P) := Lib.hid (by rw [hP]; exact ⟨by decide, by decide⟩)
          have oM : Hid (One Np) := Lib.hid kp.out.1.1
          obtain ⟨P2, hP2⟩ : ∃ x, P * Np = x := ⟨_, rfl⟩
          have e2 : P2 = 1 * Np := by rw [← hP2, hP]
          have hle : P2 ≤ Lx := by rw [e2, PE.out]; exact Nat.le_refl _
          have oP2 : Hid (One P2) := Lib.hid ⟨by rw [← hP2]; exact Nat.mul_pos oP.out.1 oM.out.1, Nat.lt_of_le_of_lt hle oL.out.2⟩
          obtain ⟨c4, hc4⟩ : ∃ c, Nn.NatMath.cmp P2 Lx = c := ⟨_, rfl⟩
          have t8 := cmp_gt hle
          rw [hc4] at t8
          have C4 := Lib.hid hc4
          have HP2 := Lib.hid hP2
          have HE2 := Lib.hid e2
          clear hc4 hP2 e2 hle hP HP
          have E17 : Hid (Env D w [(w15.heap.size, 96, [.slice qa 1 qk]), (w11.heap.size, 96, [.slice la 1 lk]), (w.heap.size, 99, [.slice xna 1 xnk, .slice xra 1 xrk, .slice (some ⟨xzb, xzo, none⟩) 1 xzk])] [.ce xzb xzo (.slice pna 1 pnk), .ce xzb (xzo + 1) (.slice pra 1 prk), .ce xzb (xzo + 2) (.slice pza 0 pzk), .rw (.slice qa 1 qk) 1 1 (wd P), .rw (.slice la 1 lk) 1 1 (wd Lx), .rw (.slice ia 1 ik) 1 1 (wd 1), .rw (.slice oa 1 ok) 1 1 (wd 2), .rw (.slice pra 1 prk) 1 1 (wd Rp), .rw (.slice pna 1 pnk) 1 1 (wd Np), .rw (.slice (some ⟨xzb, xzo, none⟩) 1 xzk) 1 3 [.slice pna 1 pnk, .slice pra 1 prk, .slice pza 0 pzk], .rw (.slice xra 1 xrk) 1 1 (wd Rx), .rw (.slice xna 1 xnk) 1 1 (wd Nx)] _) := Lib.hid (EL.out.el3 6 rfl (by omega) (a := 0) (c := 1) (d := 2) rfl rfl rfl)
          clear EL
          have y0 := (E17.out.fc 0 rfl).2
          have y1 := (E17.out.fc 1 rfl).2
          have y2 := (E17.out.fc 2 rfl).2
          go_wp2_with fail
          have E18 : Hid (Env D w [(wr.heap.size, 99, [.slice pna 1 pnk, .slice pra 1 prk, .slice pza 0 pzk]), (w15.heap.size, 96, [.slice qa 1 qk]), (w11.heap.size, 96, [.slice la 1 lk]), (w.heap.size, 99, [.slice xna 1 xnk, .slice xra 1 xrk, .slice (some ⟨xzb, xzo, none⟩) 1 xzk])] [.ce xzb xzo (.slice pna 1 pnk), .ce xzb (xzo + 1) (.slice pra 1 prk), .ce xzb (xzo + 2) (.slice pza 0 pzk), .rw (.slice qa 1 qk) 1 1 (wd P), .rw (.slice la 1 lk) 1 1 (wd Lx), .rw (.slice ia 1 ik) 1 1 (wd 1), .rw (.slice oa 1 ok) 1 1 (wd 2), .rw (.slice pra 1 prk) 1 1 (wd Rp), .rw (.slice pna 1 pnk) 1 1 (wd Np), .rw (.slice (some ⟨xzb, xzo, none⟩) 1 xzk) 1 3 [.slice pna 1 pnk, .slice pra 1 prk, .slice pza 0 pzk], .rw (.slice xra 1 xrk) 1 1 (wd Rx), .rw (.slice xna 1 xnk) 1 1 (wd Nx)] _) := Lib.hid ((E17.out.push 99 [.slice pna 1 pnk, .slice pra 1 prk, .slice pza 0 pzk] (wr.heap.size) (by simp)))
          clear y0 y1 y2 E17
          generalize wr.alloc (.cells #[.slice pna 1 pnk, .slice pra 1 prk, .slice pza 0 pzk] 99) = w17 at *
          have E19 := Lib.hid E18.out.drew
          clear E18
          refine wp_regionU (S := fun w' => w'.cell? ⟨wr.heap.size, 0, none⟩ = some (.slice pna 1 pnk) ∧ w'.cell? ⟨wr.heap.size, 1, none⟩ = some (.slice pra 1 prk) ∧ w'.cell? ⟨wr.heap.size, 2, none⟩ = some (.slice pza 0 pzk)) [] (by kernel_rfl) (⟨((E19.out.bx 0 rfl).cell 0 rfl), ((E19.out.bx 0 rfl).cell 1 rfl), ((E19.out.bx 0 rfl).cell 2 rfl)⟩) (fun hHeld => ?_)
          generalize w17.drew = w18 at *
          refine uTake (i := 0) (some 61) (v := ?_) rfl rfl (by kernel_rfl) (by kernel_rfl) (by kernel_rfl) (by kernel_rfl) (fun _ _ _ h => h) (by rfl) (by assumption) ?_ ?_
          rotate_left
          · (intro wS hSw; (try dsimp only at hSw); go_simp; try with_reducible rfl)
          try simp only [Act.put, List.setIfInBounds_toArray, List.set_cons_zero, List.set_cons_succ]
          refine uReady (rs := [1]) (by kernel_rfl) (by simp) ?_
          refine ReadyU.cons rfl (fun KK hKK => ?_) ReadyU.nil
          go_simp
          refine (right_0 Np Rp Lp (E19.out.fc 8 rfl) (E19.out.fc 7 rfl) kp.out).mono ?_
          rintro e w19 ⟨rfl, hb⟩
          have E20 := Lib.hid (E19.out.below hb)
          clear E19 hb
          (try dsimp only)
          clear hHeld
          refine hKK.out _ _ (⟨((E20.out.bx 0 rfl).cell 0 rfl), ((E20.out.bx 0 rfl).cell 1 rfl), ((E20.out.bx 0 rfl).cell 2 rfl)⟩) (fun hHeld => ?_)
          clear hKK KK
          try simp only [Act.put, List.setIfInBounds_toArray, List.set_cons_zero, List.set_cons_succ]
          refine uTake (i := 2) (some 63) (v := ?_) rfl rfl (by kernel_rfl) (by kernel_rfl) (by kernel_rfl) (by kernel_rfl) (fun _ _ _ h => h) (by rfl) (by assumption) ?_ ?_
          rotate_left
          · (intro wS hSw; (try dsimp only at hSw); go_simp; try with_reducible rfl)
          try simp only [Act.put, List.setIfInBounds_toArray, List.set_cons_zero, List.set_cons_succ]
          refine uTake (i := 3) (some 64) (v := ?_) rfl rfl (by kernel_rfl) (by kernel_rfl) (by kernel_rfl) (by kernel_rfl) (fun _ _ _ h => h) (by rfl) (by assumption) ?_ ?_
          rotate_left
          · (intro wS hSw; (try dsimp only at hSw); go_simp; try with_reducible rfl)
          try simp only [Act.put, List.setIfInBounds_toArray, List.set_cons_zero, List.set_cons_succ]
          refine uTake (i := 4) (some 65) (v := ?_) rfl rfl (by kernel_rfl) (by kernel_rfl) (by kernel_rfl) (by kernel_rfl) (fun _ _ _ h => h) (by rfl) (by assumption) ?_ ?_
          rotate_left
          · (intro wS hSw; (try dsimp only at hSw); go_simp; try with_reducible rfl)
          try simp only [Act.put, List.setIfInBounds_toArray, List.set_cons_zero, List.set_cons_succ]
          refine uTake (i := 5) (some 66) (v := ?_) rfl rfl (by kernel_rfl) (by kernel_rfl) (by kernel_rfl) (by kernel_rfl) (fun _ _ _ h => h) (by rfl) (by assumption) ?_ ?_
          rotate_left
          · (intro wS hSw; (try dsimp only at hSw); go_simp; try with_reducible rfl)
          try simp only [Act.put, List.setIfInBounds_toArray, List.set_cons_zero, List.set_cons_succ]
          refine uTake (i := 6) (some 67) (v := ?_) rfl rfl (by kernel_rfl) (by kernel_rfl) (by kernel_rfl) (by kernel_rfl) (fun _ _ _ h => h) (by rfl) (by assumption) ?_ ?_
          rotate_left
          · (intro wS hSw; (try dsimp only at hSw); go_simp; try with_reducible rfl)
          try simp only [Act.put, List.setIfInBounds_toArray, List.set_cons_zero, List.set_cons_succ]
          refine uPass (i := 7) (some 68) rfl rfl (by kernel_rfl) (by kernel_rfl) (by kernel_rfl) (by kernel_rfl) (fun _ _ _ h => h) (by rfl) (by assumption) ?_
          try simp only [Act.put, List.setIfInBounds_toArray, List.set_cons_zero, List.set_cons_succ]
          refine uPass (i := 8) (some 69) rfl rfl (by kernel_rfl) (by kernel_rfl) (by kernel_rfl) (by kernel_rfl) (fun _ _ _ h => h) (by rfl) (by assumption) ?_
          try simp only [Act.put, List.setIfInBounds_toArray, List.set_cons_zero, List.set_cons_succ]
          refine uPass (i := 9) (some 70) rfl rfl (by kernel_rfl) (by kernel_rfl) (by kernel_rfl) (by kernel_rfl) (fun _ _ _ h => h) (by rfl) (by assumption) ?_
          try simp only [Act.put, List.setIfInBounds_toArray, List.set_cons_zero, List.set_cons_succ]
          refine uPass (i := 10) (some 71) rfl rfl (by kernel_rfl) (by kernel_rfl) (by kernel_rfl) (by kernel_rfl) (fun _ _ _ h => h) (by rfl) (by assumption) ?_
          try simp only [Act.put, List.setIfInBounds_toArray, List.set_cons_zero, List.set_cons_succ]
          refine uPass (i := 11) (some 72) rfl rfl (by kernel_rfl) (by kernel_rfl) (by kernel_rfl) (by kernel_rfl) (fun _ _ _ h => h) (by rfl) (by assumption) ?_
          try simp only [Act.put, List.setIfInBounds_toArray, List.set_cons_zero, List.set_cons_succ]
          refine uPass (i := 12) (some 73) rfl rfl (by kernel_rfl) (by kernel_rfl) (by kernel_rfl) (by kernel_rfl) (fun _ _ _ h => h) (by rfl) (by assumption) ?_
          try simp only [Act.put, List.setIfInBounds_toArray, List.set_cons_zero, List.set_cons_succ]
          refine uPass (i := 13) (some 74) rfl rfl (by kernel_rfl) (by kernel_rfl) (by kernel_rfl) (by kernel_rfl) (fun _ _ _ h => h) (by rfl) (by assumption) ?_
          try simp only [Act.put, List.setIfInBounds_toArray, List.set_cons_zero, List.set_cons_succ]
          refine uPass (i := 14) (some 75) rfl rfl (by kernel_rfl) (by kernel_rfl) (by kernel_rfl) (by kernel_rfl) (fun _ _ _ h => h) (by rfl) (by assumption) ?_
          try simp only [Act.put, List.setIfInBounds_toArray, List.set_cons_zero, List.set_cons_succ]
          refine uPass (i := 15) (some 76) rfl rfl (by kernel_rfl) (by kernel_rfl) (by kernel_rfl) (by kernel_rfl) (fun _ _ _ h => h) (by rfl) (by assumption) ?_
          try simp only [Act.put, List.setIfInBounds_toArray, List.set_cons_zero, List.set_cons_succ]
          refine uPass (i := 16) (some 77) rfl rfl (by kernel_rfl) (by kernel_rfl) (by kernel_rfl) (by kernel_rfl) (fun _ _ _ h => h) (by rfl) (by assumption) ?_
          try simp only [Act.put, List.setIfInBounds_toArray, List.set_cons_zero, List.set_cons_succ]
          refine uPass (i := 17) (some 78) rfl rfl (by kernel_rfl) (by kernel_rfl) (by kernel_rfl) (by kernel_rfl) (fun _ _ _ h => h) (by rfl) (by assumption) ?_
          try simp only [Act.put, List.setIfInBounds_toArray, List.set_cons_zero, List.set_cons_succ]
          refine uTake (i := 18) (some 79) (v := ?_) rfl rfl (by kernel_rfl) (by kernel_rfl) (by kernel_rfl) (by kernel_rfl) (fun _ _ _ h => h) (by rfl) (by assumption) ?_ ?_
          rotate_left
          · (intro wS hSw; (try dsimp only at hSw); go_simp; try with_reducible rfl)
          try simp only [Act.put, List.setIfInBounds_toArray, List.set_cons_zero, List.set_cons_succ]
          refine uTake (i := 19) (some 80) (v := ?_) rfl rfl (by kernel_rfl) (by kernel_rfl) (by kernel_rfl) (by kernel_rfl) (fun _ _ _ h => h) (by rfl) (by assumption) ?_ ?_
          rotate_left
          · (intro wS hSw; (try dsimp only at hSw); go_simp; try with_reducible rfl)
          try simp only [Act.put, List.setIfInBounds_toArray, List.set_cons_zero, List.set_cons_succ]
          refine uDone (by kernel_rfl) ?_ _
          have b6 := E20.out.bx 1 rfl
          have c6_0 := b6.cell 0 rfl
          clear b6
          have b7 := E20.out.bx 0 rfl
          have c7_0 := b7.cell 0 rfl
          clear b7
          go_wp2_with fail
          refine (mul1 HP2.out oP2.out oP.out oM.out (E20.out.fc 3 rfl) (E20.out.fc 8 rfl)).mono ?_
          rintro e w20 ⟨⟨ma, mk, rfl, mh⟩, hb⟩
          have E21 := Lib.hid (E20.out.got (E20.out.below hb) (.rw (.slice ma 1 mk) 1 1 (wd P2)) (Lib.hid (Rw.ge mh.out)).out)
          clear c6_0 c7_0 E20 hb
          have b8 := E21.out.bx 1 rfl
          have c8_0 := b8.cell 0 rfl
          have f8_0 := b8.frozen 0
          clear b8
          have E22 : Hid (Env D w [(wr.heap.size, 99, [.slice pna 1 pnk, .slice pra 1 prk, .slice pza 0 pzk]), (w15.heap.size, 96, [.slice ma 1 mk]), (w11.heap.size, 96, [.slice la 1 lk]), (w.heap.size, 99, [.slice xna 1 xnk, .slice xra 1 xrk, .slice (some ⟨xzb, xzo, none⟩) 1 xzk])] [.rw (.slice ma 1 mk) 1 1 (wd P2), .ce xzb xzo (.slice pna 1 pnk), .ce xzb (xzo + 1) (.slice pra 1 prk), .ce xzb (xzo + 2) (.slice pza 0 pzk), .rw (.slice qa 1 qk) 1 1 (wd P), .rw (.slice la 1 lk) 1 1 (wd Lx), .rw (.slice ia 1 ik) 1 1 (wd 1), .rw (.slice oa 1 ok) 1 1 (wd 2), .rw (.slice pra 1 prk) 1 1 (wd Rp), .rw (.slice pna 1 pnk) 1 1 (wd Np), .rw (.slice (some ⟨xzb, xzo, none⟩) 1 xzk) 1 3 [.slice pna 1 pnk, .slice pra 1 prk, .slice pza 0 pzk], .rw (.slice xra 1 xrk) 1 1 (wd Rx), .rw (.slice xna 1 xnk) 1 1 (wd Nx)] _) := Lib.hid ((E21.out.set 1 0 (.slice ma 1 mk) rfl))
          have b9 := E22.out.bx 2 rfl
          have c9_0 := b9.cell 0 rfl
          clear b9
          go_wp2_with fail
          refine (cmp1 C4.out oP2.out oL.out (E22.out.fc 0 rfl) (E22.out.fc 5 rfl)).mono ?_
          rintro e w21 ⟨rfl, hb⟩
          have E23 := Lib.hid (E22.out.below hb)
          clear c8_0 f8_0 c9_0 E21 E22 hb
          have hZ := (E23.out.drop)
          have EZ : Hid (Env D w [(w15.heap.size, 96, [.slice ma 1 mk]), (w11.heap.size, 96, [.slice la 1 lk]), (w.heap.size, 99, [.slice xna 1 xnk, .slice xra 1 xrk, .slice (some ⟨xzb, xzo, none⟩) 1 xzk])] [.rw (.slice ma 1 mk) 1 1 (wd P2), .rw (.slice la 1 lk) 1 1 (wd Lx), .rw (.slice ia 1 ik) 1 1 (wd 1), .rw (.slice oa 1 ok) 1 1 (wd 2), .rw (.slice pra 1 prk) 1 1 (wd Rp), .rw (.slice pna 1 pnk) 1 1 (wd Np), .rw (.slice (some ⟨xzb, xzo, none⟩) 1 xzk) 1 3 [.slice pna 1 pnk, .slice pra 1 prk, .slice pza 0 pzk], .rw (.slice xra 1 xrk) 1 1 (wd Rx), .rw (.slice xna 1 xnk) 1 1 (wd Nx)] _) := Lib.hid ⟨hZ.bel, hZ.box, ⟨hZ.fc 0 rfl, ⟨hZ.fc 5 rfl, ⟨hZ.fc 6 rfl, ⟨hZ.fc 7 rfl, ⟨hZ.fc 8 rfl, ⟨hZ.fc 9 rfl, ⟨hZ.fc 10 rfl, ⟨hZ.fc 11 rfl, ⟨hZ.fc 12 rfl, trivial⟩⟩⟩⟩⟩⟩⟩⟩⟩⟩
          clear hZ
          go_wp2
          go_roundg (1 - 1)
          case rel => exact ⟨1, P2, ma, mk, rfl, EZ, Lib.hid ⟨⟨by omega, rfl⟩, fun h => by omega, fun h => HE2.out⟩⟩
          case measure => (simp at a2; omega)
        · skip
          have hP : P = 1 * Np := HP.out.2 rfl
          have hPL : P = Lx := by rw [hP]; exact PE.out
          subst hPL
          clear HP hP
          have b6 := EL.out.bx 0 rfl
          have c6_0 := b6.cell 0 rfl
          clear b6
          have b7 := EL.out.bx 1 rfl
          have c7_0 := b7.cell 0 rfl
          clear b7
          go_wp2_with fail
          refine (cmp1 (cmp_self _) oL.out oL.out (EL.out.fc 0 rfl) (EL.out.fc 1 rfl)).mono ?_
          rintro e w17 ⟨rfl, hb⟩
          have E17 := Lib.hid (EL.out.below hb)
          clear c6_0 c7_0 EL hb
          have b8 := E17.out.bx 2 rfl
          have c8_0 := b8.cell 0 rfl
          have c8_1 := b8.cell 1 rfl
          have c8_2 := b8.cell 2 rfl
          clear b8
          have b9 := E17.out.bx 1 rfl
          have c9_0 := b9.cell 0 rfl
          clear b9
          go_wp2_with fail
          refine (one1 Nx Rx P (Fct.any (E17.out.fc 8 rfl)) (Fct.any (E17.out.fc 7 rfl)) (Fct.any (E17.out.fc 1 rfl)) 1 hpw.out ⟨by decide, by decide⟩ oN.out oR.out oL.out hlt.out rfl).mono ?_
          rintro e w18 ⟨rfl, hb⟩
          have E18 := Lib.hid (E17.out.below hb)
          clear c8_0 c8_1 c8_2 c9_0 E17 hb
          have b10 := E18.out.bx 2 rfl
          have c10_2 := b10.cell 2 rfl
          clear b10
          go_wp2_with fail
          refine (ccon1 Nx Rx P Np (w11.heap.size) (w.heap.size) (Fct.any (E18.out.fc 8 rfl)) (Fct.any (E18.out.fc 7 rfl)) (Fct.any (E18.out.fc 1 rfl)) ⟨⟨(E18.out.bx 1 rfl).lt, trivial⟩, (E18.out.bx 1 rfl).cell 0 rfl⟩ ⟨⟨(E18.out.bx 2 rfl).lt, trivial⟩, (E18.out.bx 2 rfl).cell 0 rfl⟩ ⟨⟨(E18.out.bx 2 rfl).lt, trivial⟩, (E18.out.bx 2 rfl).cell 1 rfl⟩ ⟨⟨(E18.out.bx 2 rfl).lt, trivial⟩, (E18.out.bx 2 rfl).cell 2 rfl⟩ (Fct.any (E18.out.fc 6 rfl)) (Fct.any (E18.out.fc 5 rfl)) oN.out oR.out oL.out hlt.out Kp.out).mono ?_
          rintro e w19 ⟨rfl, hb⟩
          have E19 := Lib.hid (E18.out.below hb)
          clear c10_2 E18 hb
          have hfin := Lib.hid E19.out.bel
          go_wp2
          go_ret
          exact ⟨rfl, hfin.out⟩
  · skip
    go_simp
    have E11 : Hid (Env D w [(w10.heap.size, 96, [.slice none 0 0]), (w.heap.size, 99, [.slice xna 1 xnk, .slice xra 1 xrk, .slice (some ⟨xzb, xzo, none⟩) 1 xzk])] [.rw (.slice oa 1 ok) 1 1 (wd 2), .rw (.slice pra 1 prk) 1 1 (wd Rp), .rw (.slice pna 1 pnk) 1 1 (wd Np), .rw (.slice (some ⟨xzb, xzo, none⟩) 1 xzk) 1 3 [.slice pna 1 pnk, .slice pra 1 prk, .slice pza 0 pzk], .rw (.slice xra 1 xrk) 1 1 (wd Rx), .rw (.slice xna 1 xnk) 1 1 (wd Nx)] _) := Lib.hid ((E10.out.push 96 [.slice none 0 0] (w10.heap.size) (by simp)))
    (try dsimp only)
    clear hHeld
    refine hKK.out _ _ (((E11.out.bx 1 rfl).cell 0 rfl)) (fun hHeld => ?_)
    clear hKK KK
    try simp only [Act.put, List.setIfInBounds_toArray, List.set_cons_zero, List.set_cons_succ]
    clear E10
    generalize w10.alloc (.cells #[.slice none 0 0] 96) = w11 at *
    refine uReady (rs := [2]) (by kernel_rfl) (by simp) ?_
    refine ReadyU.cons rfl (fun KK hKK => ?_) ReadyU.nil
    go_simp
    refine (nat1 1 ⟨by decide, by decide⟩).mono ?_
    rintro e w12 ⟨⟨ia, ik, rfl, ih⟩, hb⟩
    have E12 := Lib.hid (E11.out.got (E11.out.below hb) (.rw (.slice ia 1 ik) 1 1 (wd 1)) (Lib.hid (Rw.ge ih.out)).out)
    clear E11 hb
    (try dsimp only)
    clear hHeld
    refine hKK.out _ _ (((E12.out.bx 1 rfl).cell 0 rfl)) (fun hHeld => ?_)
    clear hKK KK
    try simp only [Act.put, List.setIfInBounds_toArray, List.set_cons_zero, List.set_cons_succ]
    refine uReady (rs := [3]) (by kernel_rfl) (by simp) ?_
    refine ReadyU.cons rfl (fun KK hKK => ?_) ReadyU.nil
    go_simp
    refine (sub1 hsub.out oL.out oN.out ⟨by decide, by decide⟩ (E12.out.fc 6 rfl) (E12.out.fc 0 rfl)).mono ?_
    rintro e w13 ⟨⟨la, lk, rfl, lh⟩, hb⟩
    have E13 := Lib.hid (E12.out.got (E12.out.below hb) (.rw (.slice la 1 lk) 1 1 (wd Lx)) (Lib.hid (Rw.ge lh.out)).out)
    clear E12 hb
    (try dsimp only)
    clear hHeld
    refine hKK.out _ _ (((E13.out.bx 1 rfl).cell 0 rfl)) (fun hHeld => ?_)
    clear hKK KK
    try simp only [Act.put, List.setIfInBounds_toArray, List.set_cons_zero, List.set_cons_succ]
    refine uTake (i := 4) (some 43) (v := ?_) rfl rfl (by kernel_rfl) (by kernel_rfl) (by kernel_rfl) (by kernel_rfl) (fun _ _ _ h => h) (by rfl) (by assumption) ?_ ?_
    rotate_left
    · (intro wS hSw; (try dsimp only at hSw); go_simp; try with_reducible rfl)
    try simp only [Act.put, List.setIfInBounds_toArray, List.set_cons_zero, List.set_cons_succ]
    refine uTake (i := 5) (some 48) (v := ?_) rfl rfl (by kernel_rfl) (by kernel_rfl) (by kernel_rfl) (by kernel_rfl) (fun _ _ _ h => h) (by rfl) (by assumption) ?_ ?_
    rotate_left
    · (intro wS hSw; (try dsimp only at hSw); go_simp; try with_reducible rfl)
    try simp only [Act.put, List.setIfInBounds_toArray, List.set_cons_zero, List.set_cons_succ]
    refine uTake (i := 6) (some 49) (v := ?_) rfl rfl (by kernel_rfl) (by kernel_rfl) (by kernel_rfl) (by kernel_rfl) (fun _ _ _ h => h) (by rfl) (by assumption) ?_ ?_
    rotate_left
    · (intro wS hSw; (try dsimp only at hSw); go_simp; try with_reducible rfl)
    try simp only [Act.put, List.setIfInBounds_toArray, List.set_cons_zero, List.set_cons_succ]
    have b4 := E13.out.bx 0 rfl
    have c4_0 := b4.cell 0 rfl
    have f4_0 := b4.frozen 0
    clear b4
    refine uReady (rs := [8]) (by kernel_rfl) (by simp) ?_
    refine ReadyU.cons rfl (fun KK hKK => ?_) ReadyU.nil
    go_simp
    have E14 : Hid (Env D w [(w10.heap.size, 96, [.slice la 1 lk]), (w.heap.size, 99, [.slice xna 1 xnk, .slice xra 1 xrk, .slice (some ⟨xzb, xzo, none⟩) 1 xzk])] [.rw (.slice la 1 lk) 1 1 (wd Lx), .rw (.slice ia 1 ik) 1 1 (wd 1), .rw (.slice oa 1 ok) 1 1 (wd 2), .rw (.slice pra 1 prk) 1 1 (wd Rp), .rw (.slice pna 1 pnk) 1 1 (wd Np), .rw (.slice (some ⟨xzb, xzo, none⟩) 1 xzk) 1 3 [.slice pna 1 pnk, .slice pra 1 prk, .slice pza 0 pzk], .rw (.slice xra 1 xrk) 1 1 (wd Rx), .rw (.slice xna 1 xnk) 1 1 (wd Nx)] _) := Lib.hid ((E13.out.set 0 0 (.slice la 1 lk) rfl))
    (try dsimp only)
    clear hHeld
    refine hKK.out _ _ (((E14.out.bx 1 rfl).cell 0 rfl)) (fun hHeld => ?_)
    clear hKK KK
    try simp only [Act.put, List.setIfInBounds_toArray, List.set_cons_zero, List.set_cons_succ]
    refine uTake (i := 9) (some 4) (v := ?_) rfl rfl (by kernel_rfl) (by kernel_rfl) (by kernel_rfl) (by kernel_rfl) (fun _ _ _ h => h) (by rfl) (by assumption) ?_ ?_
    rotate_left
    · (intro wS hSw; (try dsimp only at hSw); go_simp; try with_reducible rfl)
    try simp only [Act.put, List.setIfInBounds_toArray, List.set_cons_zero, List.set_cons_succ]
    refine uDone (by kernel_rfl) ?_ _
    clear c4_0 f4_0 E13
    generalize w13.setCell ⟨w10.heap.size, 0, none⟩ (.slice la 1 lk) = w14 at *
    go_wp2_with fail
    refine (nat1 1 ⟨by decide, by decide⟩).mono ?_
    rintro e w15 ⟨⟨ua, uk, rfl, uh⟩, hb⟩
    have E15 := Lib.hid (E14.out.got (E14.out.below hb) (.rw (.slice ua 1 uk) 1 1 (wd 1)) (Lib.hid (Rw.ge uh.out)).out)
    clear E14 hb
    have E16 : Hid (Env D w [(w15.heap.size, 96, [.slice ua 1 uk]), (w10.heap.size, 96, [.slice la 1 lk]), (w.heap.size, 99, [.slice xna 1 xnk, .slice xra 1 xrk, .slice (some ⟨xzb, xzo, none⟩) 1 xzk])] [.rw (.slice ua 1 uk) 1 1 (wd 1), .rw (.slice la 1 lk) 1 1 (wd Lx), .rw (.slice ia 1 ik) 1 1 (wd 1), .rw (.slice oa 1 ok) 1 1 (wd 2), .rw (.slice pra 1 prk) 1 1 (wd Rp), .rw (.slice pna 1 pnk) 1 1 (wd Np), .rw (.slice (some ⟨xzb, xzo, none⟩) 1 xzk) 1 3 [.slice pna 1 pnk, .slice pra 1 prk, .slice pza 0 pzk], .rw (.slice xra 1 xrk) 1 1 (wd Rx), .rw (.slice xna 1 xnk) 1 1 (wd Nx)] _) := Lib.hid ((E15.out.push 96 [.slice ua 1 uk] (w15.heap.size) (by simp)))
    have b5 := E16.out.bx 2 rfl
    have c5_2 := b5.cell 2 rfl
    clear b5
    go_wp2_with fail
    clear c5_2 E15
    generalize w15.alloc (.cells #[.slice ua 1 uk] 96) = w16 at *
    go_loopg [56] (1) (fun gk s56 wr => ∃ (k : Int) (P : Nat) (qa : Option Addr) (qk : Nat), s56 = .int .i64 k ∧ Hid (Env D w [(w15.heap.size, 96, [.slice qa 1 qk]), (w10.heap.size, 96, [.slice la 1 lk]), (w.heap.size, 99, [.slice xna 1 xnk, .slice xra 1 xrk, .slice (some ⟨xzb, xzo, none⟩) 1 xzk])] [.rw (.slice qa 1 qk) 1 1 (wd P), .rw (.slice la 1 lk) 1 1 (wd Lx), .rw (.slice ia 1 ik) 1 1 (wd 1), .rw (.slice oa 1 ok) 1 1 (wd 2), .rw (.slice pra 1 prk) 1 1 (wd Rp), .rw (.slice pna 1 pnk) 1 1 (wd Np), .rw (.slice (some ⟨xzb, xzo, none⟩) 1 xzk) 1 3 [.slice pna 1 pnk, .slice pra 1 prk, .slice pza 0 pzk], .rw (.slice xra 1 xrk) 1 1 (wd Rx), .rw (.slice xna 1 xnk) 1 1 (wd Nx)] wr) ∧ Hid (((0 ≤ k ∧ k ≤ 1) ∧ gk = 1 - k.toNat) ∧ (k = 0 → P = 1) ∧ (k = 1 → P = 1 * Np)))
    case atStart => exact ⟨0, 1, ua, uk, rfl, Lib.hid E16.out, Lib.hid ⟨⟨by omega, rfl⟩, fun _ => rfl, fun h => by omega⟩⟩
    case round =>
      clear E16
      obtain ⟨k, P, qa, qk, rfl, EL, HA⟩ := hrel
      obtain ⟨⟨a1, a2⟩, a3⟩ := HA.out
      have HP := Lib.hid a3
      clear HA a3
      have hk' : k = 0 ∨ k = 1 := by omega
      clear a1
      rcases hk' with rfl | rfl
      · skip
        have hP : P = 1 := HP.out.1 rfl
        have oP : Hid (One P) := Lib.hid (by rw [hP]; exact ⟨by decide, by decide⟩)
        have oM : Hid (One Np) := Lib.hid kp.out.1.1
        obtain ⟨P2, hP2⟩ : ∃ x, P * Np = x := ⟨_, rfl⟩
        have e2 : P2 = 1 * Np := by rw [← hP2, hP]
        have hle : P2 ≤ Lx := by rw [e2, PE.out]; exact Nat.le_refl _
        have oP2 : Hid (One P2) := Lib.hid ⟨by rw [← hP2]; exact Nat.mul_pos oP.out.1 oM.out.1, Nat.lt_of_le_of_lt hle oL.out.2⟩
        obtain ⟨c4, hc4⟩ : ∃ c, Nn.NatMath.cmp P2 Lx = c := ⟨_, rfl⟩
        have t8 := cmp_gt hle
        rw [hc4] at t8
        have C4 := Lib.hid hc4
        have HP2 := Lib.hid hP2
        have HE2 := Lib.hid e2
        clear hc4 hP2 e2 hle hP HP
        have E17 : Hid (Env D w [(w15.heap.size, 96, [.slice qa 1 qk]), (w10.heap.size, 96, [.slice la 1 lk]), (w.heap.size, 99, [.slice xna 1 xnk, .slice xra 1 xrk, .slice (some ⟨xzb, xzo, none⟩) 1 xzk])] [.ce xzb xzo (.slice pna 1 pnk), .ce xzb (xzo + 1) (.slice pra 1 prk), .ce xzb (xzo + 2) (.slice pza 0 pzk), .rw (.slice qa 1 qk) 1 1 (wd P), .rw (.slice la 1 lk) 1 1 (wd Lx), .rw (.slice ia 1 ik) 1 1 (wd 1), .rw (.slice oa 1 ok) 1 1 (wd 2), .rw (.slice pra 1 prk) 1 1 (wd Rp), .rw (.slice pna 1 pnk) 1 1 (wd Np), .rw (.slice (some ⟨xzb, xzo, none⟩) 1 xzk) 1 3 [.slice pna 1 pnk, .slice pra 1 prk, .slice pza 0 pzk], .rw (.slice xra 1 xrk) 1 1 (wd Rx), .rw (.slice xna 1 xnk) 1 1 (wd Nx)] _) := Lib.hid (EL.out.el3 6 rfl (by omega) (a := 0) (c := 1) (d := 2) rfl rfl rfl)
        clear EL
        have y0 := (E17.out.fc 0 rfl).2
        have y1 := (E17.out.fc 1 rfl).2
        have y2 := (E17.out.fc 2 rfl).2
        go_wp2_with fail
        have E18 : Hid (Env D w [(wr.heap.size, 99, [.slice pna 1 pnk, .slice pra 1 prk, .slice pza 0 pzk]), (w15.heap.size, 96, [.slice qa 1 qk]), (w10.heap.size, 96, [.slice la 1 lk]), (w.heap.size, 99, [.slice xna 1 xnk, .slice xra 1 xrk, .slice (some ⟨xzb, xzo, none⟩) 1 xzk])] [.ce xzb xzo (.slice pna 1 pnk), .ce xzb (xzo + 1) (.slice pra 1 prk), .ce xzb (xzo + 2) (.slice pza 0 pzk), .rw (.slice qa 1 qk) 1 1 (wd P), .rw (.slice la 1 lk) 1 1 (wd Lx), .rw (.slice ia 1 ik) 1 1 (wd 1), .rw (.slice oa 1 ok) 1 1 (wd 2), .rw (.slice pra 1 prk) 1 1 (wd Rp), .rw (.slice pna 1 pnk) 1 1 (wd Np), .rw (.slice (some ⟨xzb, xzo, none⟩) 1 xzk) 1 3 [.slice pna 1 pnk, .slice pra 1 prk, .slice pza 0 pzk], .rw (.slice xra 1 xrk) 1 1 (wd Rx), .rw (.slice xna 1 xnk) 1 1 (wd Nx)] _) := Lib.hid ((E17.out.push 99 [.slice pna 1 pnk, .slice pra 1 prk, .slice pza 0 pzk] (wr.heap.size) (by simp)))
        clear y0 y1 y2 E17
        generalize wr.alloc (.cells #[.slice pna 1 pnk, .slice pra 1 prk, .slice pza 0 pzk] 99) = w17 at *
        have E19 := Lib.hid E18.out.drew
        clear E18
        refine wp_regionU (S := fun w' => w'.cell? ⟨wr.heap.size, 0, none⟩ = some (.slice pna 1 pnk) ∧ w'.cell? ⟨wr.heap.size, 1, none⟩ = some (.slice pra 1 prk) ∧ w'.cell? ⟨wr.heap.size, 2, none⟩ = some (.slice pza 0 pzk)) [] (by kernel_rfl) (⟨((E19.out.bx 0 rfl).cell 0 rfl), ((E19.out.bx 0 rfl).cell 1 rfl), ((E19.out.bx 0 rfl).cell 2 rfl)⟩) (fun hHeld => ?_)
        generalize w17.drew = w18 at *
        refine uTake (i := 0) (some 61) (v := ?_) rfl rfl (by kernel_rfl) (by kernel_rfl) (by kernel_rfl) (by kernel_rfl) (fun _ _ _ h => h) (by rfl) (by assumption) ?_ ?_
        rotate_left
        · (intro wS hSw; (try dsimp only at hSw); go_simp; try with_reducible rfl)
        try simp only [Act.put, List.setIfInBounds_toArray, List.set_cons_zero, List.set_cons_succ]
        refine uReady (rs := [1]) (by kernel_rfl) (by simp) ?_
        refine ReadyU.cons rfl (fun KK hKK => ?_) ReadyU.nil
        go_simp
        refine (right_0 Np Rp Lp (E19.out.fc 8 rfl) (E19.out.fc 7 rfl) kp.out).mono ?_
        rintro e w19 ⟨rfl, hb⟩
        have E20 := Lib.hid (E19.out.below hb)
        clear E19 hb
        (try dsimp only)
        clear hHeld
        refine hKK.out _ _ (⟨((E20.out.bx 0 rfl).cell 0 rfl), ((E20.out.bx 0 rfl).cell 1 rfl), ((E20.out.bx 0 rfl).cell 2 rfl)⟩) (fun hHeld => ?_)
        clear hKK KK
        try simp only [Act.put, List.setIfInBounds_toArray, List.set_cons_zero, List.set_cons_succ]
        refine uTake (i := 2) (some 63) (v := ?_) rfl rfl (by kernel_rfl) (by kernel_rfl) (by kernel_rfl) (by kernel_rfl) (fun _ _ _ h => h) (by rfl) (by assumption) ?_ ?_
        rotate_left
        · (intro wS hSw; (try dsimp only at hSw); go_simp; try with_reducible rfl)
        try simp only [Act.put, List.setIfInBounds_toArray, List.set_cons_zero, List.set_cons_succ]
        refine uTake (i := 3) (some 64) (v := ?_) rfl rfl (by kernel_rfl) (by kernel_rfl) (by kernel_rfl) (by kernel_rfl) (fun _ _ _ h => h) (by rfl) (by assumption) ?_ ?_
        rotate_left
        · (intro wS hSw; (try dsimp only at hSw); go_simp; try with_reducible rfl)
        try simp only [Act.put, List.setIfInBounds_toArray, List.set_cons_zero, List.set_cons_succ]
        refine uTake (i := 4) (some 65) (v := ?_) rfl rfl (by kernel_rfl) (by kernel_rfl) (by kernel_rfl) (by kernel_rfl) (fun _ _ _ h => h) (by rfl) (by assumption) ?_ ?_
        rotate_left
        · (intro wS hSw; (try dsimp only at hSw); go_simp; try with_reducible rfl)
        try simp only [Act.put, List.setIfInBounds_toArray, List.set_cons_zero, List.set_cons_succ]
        refine uTake (i := 5) (some 66) (v := ?_) rfl rfl (by kernel_rfl) (by kernel_rfl) (by kernel_rfl) (by kernel_rfl) (fun _ _ _ h => h) (by rfl) (by assumption) ?_ ?_
        rotate_left
        · (intro wS hSw; (try dsimp only at hSw); go_simp; try with_reducible rfl)
        try simp only [Act.put, List.setIfInBounds_toArray, List.set_cons_zero, List.set_cons_succ]
        refine uTake (i := 6) (some 67) (v := ?_) rfl rfl (by kernel_rfl) (by kernel_rfl) (by kernel_rfl) (by kernel_rfl) (fun _ _ _ h => h) (by rfl) (by assumption) ?_ ?_
        rotate_left
        · (intro wS hSw; (try dsimp only at hSw); go_simp; try with_reducible rfl)
        try simp only [Act.put, List.setIfInBounds_toArray, List.set_cons_zero, List.set_cons_succ]
        refine uPass (i := 7) (some 68) rfl rfl (by kernel_rfl) (by kernel_rfl) (by kernel_rfl) (by kernel_rfl) (fun _ _ _ h => h) (by rfl) (by assumption) ?_
        try simp only [Act.put, List.setIfInBounds_toArray, List.set_cons_zero, List.set_cons_succ]
        refine uPass (i := 8) (some 69) rfl rfl (by kernel_rfl) (by kernel_rfl) (by kernel_rfl) (by kernel_rfl) (fun _ _ _ h => h) (by rfl) (by assumption) ?_
        try simp only [Act.put, List.setIfInBounds_toArray, List.set_cons_zero, List.set_cons_succ]
        refine uPass (i := 9) (some 70) rfl rfl (by kernel_rfl) (by kernel_rfl) (by kernel_rfl) (by kernel_rfl) (fun _ _ _ h => h) (by rfl) (by assumption) ?_
        try simp only [Act.put, List.setIfInBounds_toArray, List.set_cons_zero, List.set_cons_succ]
        refine uPass (i := 10) (some 71) rfl rfl (by kernel_rfl) (by kernel_rfl) (by kernel_rfl) (by kernel_rfl) (fun _ _ _ h => h) (by rfl) (by assumption) ?_
        try simp only [Act.put, List.setIfInBounds_toArray, List.set_cons_zero, List.set_cons_succ]
        refine uPass (i := 11) (some 72) rfl rfl (by kernel_rfl) (by kernel_rfl) (by kernel_rfl) (by kernel_rfl) (fun _ _ _ h => h) (by rfl) (by assumption) ?_
        try simp only [Act.put, List.setIfInBounds_toArray, List.set_cons_zero, List.set_cons_succ]
        refine uPass (i := 12) (some 73) rfl rfl (by kernel_rfl) (by kernel_rfl) (by kernel_rfl) (by kernel_rfl) (fun _ _ _ h => h) (by rfl) (by assumption) ?_
        try simp only [Act.put, List.setIfInBounds_toArray, List.set_cons_zero, List.set_cons_succ]
        refine uPass (i := 13) (some 74) rfl rfl (by kernel_rfl) (by kernel_rfl) (by kernel_rfl) (by kernel_rfl) (fun _ _ _ h => h) (by rfl) (by assumption) ?_
        try simp only [Act.put, List.setIfInBounds_toArray, List.set_cons_zero, List.set_cons_succ]
        refine uPass (i := 14) (some 75) rfl rfl (by kernel_rfl) (by kernel_rfl) (by kernel_rfl) (by kernel_rfl) (fun _ _ _ h => h) (by rfl) (by assumption) ?_
        try simp only [Act.put, List.setIfInBounds_toArray, List.set_cons_zero, List.set_cons_succ]
        refine uPass (i := 15) (some 76) rfl rfl (by kernel_rfl) (by kernel_rfl) (by kernel_rfl) (by kernel_rfl) (fun _ _ _ h => h) (by rfl) (by assumption) ?_
        try simp only [Act.put, List.setIfInBounds_toArray, List.set_cons_zero, List.set_cons_succ]
        refine uPass (i := 16) (some 77) rfl rfl (by kernel_rfl) (by kernel_rfl) (by kernel_rfl) (by kernel_rfl) (fun _ _ _ h => h) (by rfl) (by assumption) ?_
        try simp only [Act.put, List.setIfInBounds_toArray, List.set_cons_zero, List.set_cons_succ]
        refine uPass (i := 17) (some 78) rfl rfl (by kernel_rfl) (by kernel_rfl) (by kernel_rfl) (by kernel_rfl) (fun _ _ _ h => h) (by rfl) (by assumption) ?_
        try simp only [Act.put, List.setIfInBounds_toArray, List.set_cons_zero, List.set_cons_succ]
        refine uTake (i := 18) (some 79) (v := ?_) rfl rfl (by kernel_rfl) (by kernel_rfl) (by kernel_rfl) (by kernel_rfl) (fun _ _ _ h => h) (by rfl) (by assumption) ?_ ?_
        rotate_left
        · (intro wS hSw; (try dsimp only at hSw); go_simp; try with_reducible rfl)
        try simp only [Act.put, List.setIfInBounds_toArray, List.set_cons_zero, List.set_cons_succ]
        refine uTake (i := 19) (some 80) (v := ?_) rfl rfl (by kernel_rfl) (by kernel_rfl) (by kernel_rfl) (by kernel_rfl) (fun _ _ _ h => h) (by rfl) (by assumption) ?_ ?_
        rotate_left
        · (intro wS hSw; (try dsimp only at hSw); go_simp; try with_reducible rfl)
        try simp only [Act.put, List.setIfInBounds_toArray, List.set_cons_zero, List.set_cons_succ]
        refine uDone (by kernel_rfl) ?_ _
        have b6 := E20.out.bx 1 rfl
        have c6_0 := b6.cell 0 rfl
        clear b6
        have b7 := E20.out.bx 0 rfl
        have c7_0 := b7.cell 0 rfl
        clear b7
        go_wp2_with fail
        refine (mul1 HP2.out oP2.out oP.out oM.out (E20.out.fc 3 rfl) (E20.out.fc 8 rfl)).mono ?_
        rintro e w20 ⟨⟨ma, mk, rfl, mh⟩, hb⟩
        have E21 := Lib.hid (E20.out.got (E20.out.below hb) (.rw (.slice ma 1 mk) 1 1 (wd P2)) (Lib.hid (Rw.ge mh.out)).out)
        clear c6_0 c7_0 E20 hb
        have b8 := E21.out.bx 1 rfl
        have c8_0 := b8.cell 0 rfl
        have f8_0 := b8.frozen 0
        clear b8
        have E22 : Hid (Env D w [(wr.heap.size, 99, [.slice pna 1 pnk, .slice pra 1 prk, .slice pza 0 pzk]), (w15.heap.size, 96, [.slice ma 1 mk]), (w10.heap.size, 96, [.slice la 1 lk]), (w.heap.size, 99, [.slice xna 1 xnk, .slice xra 1 xrk, .slice (some ⟨xzb, xzo, none⟩) 1 xzk])] [.rw (.slice ma 1 mk) 1 1 (wd P2), .ce xzb xzo (.slice pna 1 pnk), .ce xzb (xzo + 1) (.slice pra 1 prk), .ce xzb (xzo + 2) (.slice pza 0 pzk), .rw (.slice qa 1 qk) 1 1 (wd P), .rw (.slice la 1 lk) 1 1 (wd Lx), .rw (.slice ia 1 ik) 1 1 (wd 1), .rw (.slice oa 1 ok) 1 1 (wd 2), .rw (.slice pra 1 prk) 1 1 (wd Rp), .rw (.slice pna 1 pnk) 1 1 (wd Np), .rw (.slice (some ⟨xzb, xzo, none⟩) 1 xzk) 1 3 [.slice pna 1 pnk, .slice pra 1 prk, .slice pza 0 pzk], .rw (.slice xra 1 xrk) 1 1 (wd Rx), .rw (.slice xna 1 xnk) 1 1 (wd Nx)] _) := Lib.hid ((E21.out.set 1 0 (.slice ma 1 mk) rfl))
        have b9 := E22.out.bx 2 rfl
        have c9_0 := b9.cell 0 rfl
        clear b9
        go_wp2_with fail
        refine (cmp1 C4.out oP2.out oL.out (E22.out.fc 0 rfl) (E22.out.fc 5 rfl)).mono ?_
        rintro e w21 ⟨rfl, hb⟩
        have E23 := Lib.hid (E22.out.below hb)
        clear c8_0 f8_0 c9_0 E21 E22 hb
        have hZ := (E23.out.drop)
        have EZ : Hid (Env D w [(w15.heap.size, 96, [.slice ma 1 mk]), (w10.heap.size, 96, [.slice la 1 lk]), (w.heap.size, 99, [.slice xna 1 xnk, .slice xra 1 xrk, .slice (some ⟨xzb, xzo, none⟩) 1 xzk])] [.rw (.slice ma 1 mk) 1 1 (wd P2), .rw (.slice la 1 lk) 1 1 (wd Lx), .rw (.slice ia 1 ik) 1 1 (wd 1), .rw (.slice oa 1 ok) 1 1 (wd 2), .rw (.slice pra 1 prk) 1 1 (wd Rp), .rw (.slice pna 1 pnk) 1 1 (wd Np), .rw (.slice (some ⟨xzb, xzo, none⟩) 1 xzk) 1 3 [.slice pna 1 pnk, .slice pra 1 prk, .slice pza 0 pzk], .rw (.slice xra 1 xrk) 1 1 (wd Rx), .rw (.slice xna 1 xnk) 1 1 (wd Nx)] _) := Lib.hid ⟨hZ.bel, hZ.box, ⟨hZ.fc 0 rfl, ⟨hZ.fc 5 rfl, ⟨hZ.fc 6 rfl, ⟨hZ.fc 7 rfl, ⟨hZ.fc 8 rfl, ⟨hZ.fc 9 rfl, ⟨hZ.fc 10 rfl, ⟨hZ.fc 11 rfl, ⟨hZ.fc 12 rfl, trivial⟩⟩⟩⟩⟩⟩⟩⟩⟩⟩
        clear hZ
        go_wp2
        go_roundg (1 - 1)
        case rel => exact ⟨1, P2, ma, mk, rfl, EZ, Lib.hid ⟨⟨by omega, rfl⟩, fun h => by omega, fun h => HE2.out⟩⟩
        case measure => (simp at a2; omega)
      · skip
        have hP : P = 1 * Np := HP.out.2 rfl
        have hPL : P = Lx := by rw [hP]; exact PE.out
        subst hPL
        clear HP hP
        have b6 := EL.out.bx 0 rfl
        have c6_0 := b6.cell 0 rfl
        clear b6
        have b7 := EL.out.bx 1 rfl
        have c7_0 := b7.cell 0 rfl
        clear b7
        go_wp2_with fail
        refine (cmp1 (cmp_self _) oL.out oL.out (EL.out.fc 0 rfl) (EL.out.fc 1 rfl)).mono ?_
        rintro e w17 ⟨rfl, hb⟩
        have E17 := Lib.hid (EL.out.below hb)
        clear c6_0 c7_0 EL hb
        have b8 := E17.out.bx 2 rfl
        have c8_0 := b8.cell 0 rfl
        have c8_1 := b8.cell 1 rfl
        have c8_2 := b8.cell 2 rfl
        clear b8
        have b9 := E17.out.bx 1 rfl
        have c9_0 := b9.cell 0 rfl
        clear b9
        go_wp2_with fail
        refine (one1 Nx Rx P (Fct.any (E17.out.fc 8 rfl)) (Fct.any (E17.out.fc 7 rfl)) (Fct.any (E17.out.fc 1 rfl)) 1 hpw.out ⟨by decide, by decide⟩ oN.out oR.out oL.out hlt.out rfl).mono ?_
        rintro e w18 ⟨rfl, hb⟩
        have E18 := Lib.hid (E17.out.below hb)
        clear c8_0 c8_1 c8_2 c9_0 E17 hb
        have b10 := E18.out.bx 2 rfl
        have c10_2 := b10.cell 2 rfl
        clear b10
        go_wp2_with fail
        refine (ccon1 Nx Rx P Np (w10.heap.size) (w.heap.size) (Fct.any (E18.out.fc 8 rfl)) (Fct.any (E18.out.fc 7 rfl)) (Fct.any (E18.out.fc 1 rfl)) ⟨⟨(E18.out.bx 1 rfl).lt, trivial⟩, (E18.out.bx 1 rfl).cell 0 rfl⟩ ⟨⟨(E18.out.bx 2 rfl).lt, trivial⟩, (E18.out.bx 2 rfl).cell 0 rfl⟩ ⟨⟨(E18.out.bx 2 rfl).lt, trivial⟩, (E18.out.bx 2 rfl).cell 1 rfl⟩ ⟨⟨(E18.out.bx 2 rfl).lt, trivial⟩, (E18.out.bx 2 rfl).cell 2 rfl⟩ (Fct.any (E18.out.fc 6 rfl)) (Fct.any (E18.out.fc 5 rfl)) oN.out oR.out oL.out hlt.out Kp.out).mono ?_
        rintro e w19 ⟨rfl, hb⟩
        have E19 := Lib.hid (E18.out.below hb)
        clear c10_2 E18 hb
        have hfin := Lib.hid E19.out.bel
        go_wp2
        go_ret
        exact ⟨rfl, hfin.out⟩
end Go.Proofs.YtinlfogpbologaaDoor

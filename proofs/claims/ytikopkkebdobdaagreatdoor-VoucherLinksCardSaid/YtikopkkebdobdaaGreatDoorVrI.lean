/- right, Verify, of certificates. -/
import Derived.Test.YtikopkkebdobdaaGreatDoorVrH
namespace Go.Proofs.YtikopkkebdobdaaGreatDoor
open Go.RowKit DivMath WordMath
set_option linter.unusedVariables false
set_option linter.unusedSimpArgs false
def RightH (d : Nat) : Prop := ∀ (c : Ct) {xna xra xza : Option Addr} {xnk xrk xzk : Nat} {w : World}, Fct.at w (fun _ => True) (.gn (gCt d c (.slice xna 1 xnk) (.slice xra 1 xrk) (.slice xza c.parts.length xzk))) → CtOk d c → Calls Tryz.prog 100 #[.agg #[.slice xna 1 xnk, .slice xra 1 xrk, .slice xza c.parts.length xzk]] w fun e w' => e = .returned (.bool true) ∧ Below w.heap.size w w'
theorem wrapI_one {j k : Nat} (h : j + 1 = k) (h2 : k ≤ 1000) : IntKind.i64.wrap ((k : Int) - 1) = (j : Int) := by rw [IntKind.wrap_i64]; omega
theorem wrap64_one {j k : Nat} (h : j + 1 = k) (h2 : k ≤ 1000) : wrap64 ((k : Int) - 1) = (j : Int) := by rw [IntWalk.wrap64_in _ (by omega)]; omega
set_option maxRecDepth 100000 in
set_option maxHeartbeats 8000000 in
theorem right_s {D : Nat → Prop} (d : Nat) (c : Ct) {xna xra xza : Option Addr} {xnk xrk xzk : Nat} {w : World} (hx : Fct.at w D (.gn (gCt (d + 1) c (.slice xna 1 xnk) (.slice xra 1 xrk) (.slice xza c.parts.length xzk)))) (IHR0 : RightH d) (hk0 : CtOk (d + 1) c) :
    Calls Tryz.prog 100 #[.agg #[.slice xna 1 xnk, .slice xra 1 xrk, .slice xza c.parts.length xzk]] w fun e w' => e = .returned (.bool true) ∧ Below w.heap.size w w' := by
  have E0 := Lib.hid ((Env.start D w).arg (.gn (gCt (d + 1) c (.slice xna 1 xnk) (.slice xra 1 xrk) (.slice xza c.parts.length xzk))) hx)
  clear hx
  go_enter Tryz.func100, Tryz.ntmps100
  have IHR := Lib.hid IHR0
  have hk := Lib.hid hk0
  clear IHR0 hk0
  obtain ⟨Nx, hNx⟩ : ∃ n, c.num = n := ⟨_, rfl⟩
  obtain ⟨Rx, hRx⟩ : ∃ n, c.root = n := ⟨_, rfl⟩
  obtain ⟨Lx, hLx⟩ : ∃ n, Nx - 1 = n := ⟨_, rfl⟩
  have HNx := Lib.hid hNx
  have HRx := Lib.hid hRx
  have HLx := Lib.hid hLx
  have hkx := hk.out
  unfold CtOk at hkx
  rw [hNx, hRx, hLx] at hkx
  obtain ⟨⟨⟨j1, j2, j3⟩, j4, j5, j6, j7, j8, j9⟩, kp, kq, ks, ki, kn⟩ := hkx
  have E0b : Hid (Env D w [] [.rw (.slice xna 1 xnk) 1 1 (wd Nx), .rw (.slice xra 1 xrk) 1 1 (wd Rx), .gn (gCt (d + 1) c (.slice xna 1 xnk) (.slice xra 1 xrk) (.slice xza c.parts.length xzk))] w) := Lib.hid (by have h1 := gCt.n (E0.out.fc 0 rfl); have h2 := gCt.r (E0.out.fc 0 rfl); rw [hNx] at h1; rw [hRx] at h2; exact (E0.out.note _ h2).note _ h1)
  clear E0
  have oN := Lib.hid j1
  have oR := Lib.hid j2
  have oL := Lib.hid j3
  have hlt := Lib.hid j4
  have hsub := Lib.hid j6
  have hpw := Lib.hid j7
  have KP := Lib.hid kp
  have KQ := Lib.hid kq
  have KS := Lib.hid ks
  have KI := Lib.hid ki
  obtain ⟨c1, hc1⟩ : ∃ c, Nn.NatMath.cmp Nx 2 = c := ⟨_, rfl⟩
  have t1 := cmp_ge' j5
  rw [hc1] at t1
  have C1 := Lib.hid hc1
  obtain ⟨b1, hb1⟩ : ∃ b, Nn.NatMath.bl Nx = b := ⟨_, rfl⟩
  have t2 := bl_word j1
  rw [hb1] at t2
  have B1 := Lib.hid hb1
  obtain ⟨b2, hb2⟩ : ∃ b, Nn.NatMath.bl Rx = b := ⟨_, rfl⟩
  have t3 := bl_some j2
  rw [hb2] at t3
  have B2 := Lib.hid hb2
  have t4 : (b2 == 0) = false := by rw [beq_eq_false_iff_ne]; rw [beq_eq_false_iff_ne] at t3; omega
  obtain ⟨c2, hc2⟩ : ∃ c, Nn.NatMath.cmp Rx Nx = c := ⟨_, rfl⟩
  have t5 := cmp_lt' j4
  rw [hc2] at t5
  have C2 := Lib.hid hc2
  have t6 : decide ((1024 : Int) < (b1 : Int)) = false := t2
  have t7 : decide (1024 < b1) = false := decide_eq_false (by rw [decide_eq_false_iff_not] at t2; omega)
  clear hc1 hb1 hb2 hc2 t2 j1 j2 j3 j4 j5 j6 j7 j8 j9 kp kq ks ki hNx hRx hLx
  go_wp2_with fail
  have E1 := Lib.hid ((E0b.out.push 57 [.slice xna 1 xnk, .slice xra 1 xrk, .slice xza c.parts.length xzk] (w.heap.size) (by simp)))
  clear E0b
  generalize w.alloc (.cells #[.slice xna 1 xnk, .slice xra 1 xrk, .slice xza c.parts.length xzk] 57) = w1 at *
  have E2 := Lib.hid E1.out.drew
  clear E1
  refine wp_regionU (S := fun w' => w'.cell? ⟨w.heap.size, 0, none⟩ = some (.slice xna 1 xnk) ∧ w'.cell? ⟨w.heap.size, 1, none⟩ = some (.slice xra 1 xrk)) [] (by kernel_rfl) (⟨((E2.out.bx 0 rfl).cell 0 rfl), ((E2.out.bx 0 rfl).cell 1 rfl)⟩) (fun hHeld => ?_)
  generalize w1.drew = w2 at *
  refine uTk (i := 0) (some 8) (v := ?_) ?_ ?_
  rotate_left
  · (intro wS hSw; (try dsimp only at hSw); go_simp; try with_reducible rfl)
  try simp only [Act.put, pq0, pq1, pq2]
  refine uTk (i := 1) (some 9) (v := ?_) ?_ ?_
  rotate_left
  · (intro wS hSw; (try dsimp only at hSw); go_simp; try with_reducible rfl)
  try simp only [Act.put, pq0, pq1, pq2]
  refine uReady (rs := [2]) (by kernel_rfl) (by simp) ?_
  refine ReadyU.cons rfl (fun KK hKK => ?_) ReadyU.nil
  go_simp
  refine (valid1 oN.out (E2.out.fc 0 rfl)).mono ?_
  rintro e w3 ⟨rfl, hb⟩
  have E3 := Lib.hid (E2.out.below hb)
  clear E2 hb
  (try dsimp only)
  clear hHeld
  refine hKK.out _ _ (⟨((E3.out.bx 0 rfl).cell 0 rfl), ((E3.out.bx 0 rfl).cell 1 rfl)⟩) (fun hHeld => ?_)
  clear hKK KK
  try simp only [Act.put, pq0, pq1, pq2]
  refine uTk (i := 3) (some 11) (v := ?_) ?_ ?_
  rotate_left
  · (intro wS hSw; (try dsimp only at hSw); go_simp; try with_reducible rfl)
  try simp only [Act.put, pq0, pq1, pq2]
  refine uTk (i := 4) (some 12) (v := ?_) ?_ ?_
  rotate_left
  · (intro wS hSw; (try dsimp only at hSw); go_simp; try with_reducible rfl)
  try simp only [Act.put, pq0, pq1, pq2]
  refine uTk (i := 5) (some 13) (v := ?_) ?_ ?_
  rotate_left
  · (intro wS hSw; (try dsimp only at hSw); go_simp; try with_reducible rfl)
  try simp only [Act.put, pq0, pq1, pq2]
  refine uTk (i := 6) (some 14) (v := ?_) ?_ ?_
  rotate_left
  · (intro wS hSw; (try dsimp only at hSw); go_simp; try with_reducible rfl)
  try simp only [Act.put, pq0, pq1, pq2]
  refine uReady (rs := [7]) (by kernel_rfl) (by simp) ?_
  refine ReadyU.cons rfl (fun KK hKK => ?_) ReadyU.nil
  go_simp
  refine (valid1 oR.out (E3.out.fc 1 rfl)).mono ?_
  rintro e w4 ⟨rfl, hb⟩
  have E4 := Lib.hid (E3.out.below hb)
  clear E3 hb
  (try dsimp only)
  clear hHeld
  refine hKK.out _ _ (⟨((E4.out.bx 0 rfl).cell 0 rfl), ((E4.out.bx 0 rfl).cell 1 rfl)⟩) (fun hHeld => ?_)
  clear hKK KK
  try simp only [Act.put, pq0, pq1, pq2]
  refine uTk (i := 8) (some 16) (v := ?_) ?_ ?_
  rotate_left
  · (intro wS hSw; (try dsimp only at hSw); go_simp; try with_reducible rfl)
  try simp only [Act.put, pq0, pq1, pq2]
  refine uTk (i := 9) (some 17) (v := ?_) ?_ ?_
  rotate_left
  · (intro wS hSw; (try dsimp only at hSw); go_simp; try with_reducible rfl)
  try simp only [Act.put, pq0, pq1, pq2]
  refine uTk (i := 10) (some 18) (v := ?_) ?_ ?_
  rotate_left
  · (intro wS hSw; (try dsimp only at hSw); go_simp; try with_reducible rfl)
  try simp only [Act.put, pq0, pq1, pq2]
  refine uTk (i := 11) (some 19) (v := ?_) ?_ ?_
  rotate_left
  · (intro wS hSw; (try dsimp only at hSw); go_simp; try with_reducible rfl)
  try simp only [Act.put, pq0, pq1, pq2]
  refine uTk (i := 12) (some 20) (v := ?_) ?_ ?_
  rotate_left
  · (intro wS hSw; (try dsimp only at hSw); go_simp; try with_reducible rfl)
  try simp only [Act.put, pq0, pq1, pq2]
  refine uReady (rs := [13]) (by kernel_rfl) (by simp) ?_
  refine ReadyU.cons rfl (fun KK hKK => ?_) ReadyU.nil
  go_simp
  refine (bits1 B1.out oN.out (E4.out.fc 0 rfl)).mono ?_
  rintro e w5 ⟨rfl, hb⟩
  have E5 := Lib.hid (E4.out.below hb)
  clear E4 hb
  (try dsimp only)
  clear hHeld
  refine hKK.out _ _ (⟨((E5.out.bx 0 rfl).cell 0 rfl), ((E5.out.bx 0 rfl).cell 1 rfl)⟩) (fun hHeld => ?_)
  clear hKK KK
  try simp only [Act.put, pq0, pq1, pq2]
  refine uTk (i := 14) (some 22) (v := ?_) ?_ ?_
  rotate_left
  · (intro wS hSw; (try dsimp only at hSw); go_simp; try with_reducible rfl)
  try simp only [Act.put, pq0, pq1, pq2]
  refine uTk (i := 15) (some 23) (v := ?_) ?_ ?_
  rotate_left
  · (intro wS hSw; (try dsimp only at hSw); go_simp; try with_reducible rfl)
  try simp only [Act.put, pq0, pq1, pq2]
  refine uTk (i := 16) (some 24) (v := ?_) ?_ ?_
  rotate_left
  · (intro wS hSw; (try dsimp only at hSw); go_simp; try with_reducible rfl)
  try simp only [Act.put, pq0, pq1, pq2]
  refine uTk (i := 17) (some 25) (v := ?_) ?_ ?_
  rotate_left
  · (intro wS hSw; (try dsimp only at hSw); go_simp; try with_reducible rfl)
  try simp only [Act.put, pq0, pq1, pq2]
  refine uTk (i := 18) (some 26) (v := ?_) ?_ ?_
  rotate_left
  · (intro wS hSw; (try dsimp only at hSw); go_simp; try with_reducible rfl)
  try simp only [Act.put, pq0, pq1, pq2]
  refine uReady (rs := [19]) (by kernel_rfl) (by simp) ?_
  refine ReadyU.cons rfl (fun KK hKK => ?_) ReadyU.nil
  go_simp
  refine (nat1 2 ⟨by decide, by decide⟩).mono ?_
  rintro e w6 ⟨⟨oa, ok, rfl, oh⟩, hb⟩
  have E6 := Lib.hid (E5.out.got (E5.out.below hb) (.rw (.slice oa 1 ok) 1 1 (wd 2)) (Lib.hid (Rw.ge oh.out)).out)
  clear E5 hb
  (try dsimp only)
  clear hHeld
  refine hKK.out _ _ (⟨((E6.out.bx 0 rfl).cell 0 rfl), ((E6.out.bx 0 rfl).cell 1 rfl)⟩) (fun hHeld => ?_)
  clear hKK KK
  try simp only [Act.put, pq0, pq1, pq2]
  refine uReady (rs := [20]) (by kernel_rfl) (by simp) ?_
  refine ReadyU.cons rfl (fun KK hKK => ?_) ReadyU.nil
  go_simp
  refine (cmp1 C1.out oN.out ⟨by decide, by decide⟩ (E6.out.fc 1 rfl) (E6.out.fc 0 rfl)).mono ?_
  rintro e w7 ⟨rfl, hb⟩
  have E7 := Lib.hid (E6.out.below hb)
  clear E6 hb
  (try dsimp only)
  clear hHeld
  refine hKK.out _ _ (⟨((E7.out.bx 0 rfl).cell 0 rfl), ((E7.out.bx 0 rfl).cell 1 rfl)⟩) (fun hHeld => ?_)
  clear hKK KK
  try simp only [Act.put, pq0, pq1, pq2]
  refine uTk (i := 21) (some 29) (v := ?_) ?_ ?_
  rotate_left
  · (intro wS hSw; (try dsimp only at hSw); go_simp; try with_reducible rfl)
  try simp only [Act.put, pq0, pq1, pq2]
  refine uTk (i := 22) (some 30) (v := ?_) ?_ ?_
  rotate_left
  · (intro wS hSw; (try dsimp only at hSw); go_simp; try with_reducible rfl)
  try simp only [Act.put, pq0, pq1, pq2]
  refine uDone (by kernel_rfl) ?_ _
  have b1 := E7.out.bx 0 rfl
  have c1_1 := b1.cell 1 rfl
  clear b1
  go_wp2_with fail
  refine (bits1 B2.out oR.out (E7.out.fc 2 rfl)).mono ?_
  rintro e w8 ⟨rfl, hb⟩
  have E8 := Lib.hid (E7.out.below hb)
  clear c1_1 E7 hb
  have b2 := E8.out.bx 0 rfl
  have c2_1 := b2.cell 1 rfl
  clear b2
  have b3 := E8.out.bx 0 rfl
  have c3_0 := b3.cell 0 rfl
  clear b3
  go_wp2_with fail
  refine (cmp1 C2.out oR.out oN.out (E8.out.fc 2 rfl) (E8.out.fc 1 rfl)).mono ?_
  rintro e w9 ⟨rfl, hb⟩
  have E9 := Lib.hid (E8.out.below hb)
  clear c2_1 c3_0 E8 hb
  go_upto_region 5 with (fail)
  go_cut [3, 4] (fun s3 s4 wx => ∃ bg ia ik la lk, s3 = .pointer (some ⟨bg, 0, none⟩) ∧ s4 = .int .i64 0 ∧ Hid (Env D w [(bg, 24, [.slice la 1 lk]), (w.heap.size, 57, [.slice xna 1 xnk, .slice xra 1 xrk, .slice xza c.parts.length xzk])] [.rw (.slice la 1 lk) 1 1 (wd Lx), .rw (.slice ia 1 ik) 1 1 (wd 1), .rw (.slice oa 1 ok) 1 1 (wd 2), .rw (.slice xna 1 xnk) 1 1 (wd Nx), .rw (.slice xra 1 xrk) 1 1 (wd Rx), .gn (gCt (d + 1) c (.slice xna 1 xnk) (.slice xra 1 xrk) (.slice xza c.parts.length xzk))] wx))
  case first =>
    have E10 := Lib.hid E9.out.drew
    clear E9
    refine wp_regionU (S := fun w' => w'.cell? ⟨w.heap.size, 0, none⟩ = some (.slice xna 1 xnk)) [] (by kernel_rfl) (((E10.out.bx 0 rfl).cell 0 rfl)) (fun hHeld => ?_)
    generalize w9.drew = w10 at *
    refine uTk (i := 0) (some 44) (v := ?_) ?_ ?_
    rotate_left
    · (intro wS hSw; (try dsimp only at hSw); go_simp; try with_reducible rfl)
    try simp only [Act.put, pq0, pq1, pq2]
    refine uTk (i := 1) (some 45) (v := ?_) ?_ ?_
    rotate_left
    · (intro wS hSw; (try dsimp only at hSw); go_simp; try with_reducible rfl)
    try simp only [Act.put, pq0, pq1, pq2]
    refine uReady (rs := [2, 7]) (by kernel_rfl) (by simp) ?_
    refine (ReadyU.cons rfl (fun KK hKK => ?_) (ReadyU.cons rfl (fun KK hKK => ?_) ReadyU.nil))
    · skip
      go_simp
      refine (nat1 1 ⟨by decide, by decide⟩).mono ?_
      rintro e w11 ⟨⟨ia, ik, rfl, ih⟩, hb⟩
      have E11 := Lib.hid (E10.out.got (E10.out.below hb) (.rw (.slice ia 1 ik) 1 1 (wd 1)) (Lib.hid (Rw.ge ih.out)).out)
      clear E10 hb
      (try dsimp only)
      clear hHeld
      refine hKK.out _ _ (((E11.out.bx 0 rfl).cell 0 rfl)) (fun hHeld => ?_)
      clear hKK KK
      try simp only [Act.put, pq0, pq1, pq2]
      refine uReady (rs := [3, 7]) (by kernel_rfl) (by simp) ?_
      refine (ReadyU.cons rfl (fun KK hKK => ?_) (ReadyU.cons rfl (fun KK hKK => ?_) ReadyU.nil))
      · skip
        go_simp
        refine (sub1 hsub.out oL.out oN.out ⟨by decide, by decide⟩ (E11.out.fc 2 rfl) (E11.out.fc 0 rfl)).mono ?_
        rintro e w12 ⟨⟨la, lk, rfl, lh⟩, hb⟩
        have E12 := Lib.hid (E11.out.got (E11.out.below hb) (.rw (.slice la 1 lk) 1 1 (wd Lx)) (Lib.hid (Rw.ge lh.out)).out)
        clear E11 hb
        (try dsimp only)
        clear hHeld
        refine hKK.out _ _ (((E12.out.bx 0 rfl).cell 0 rfl)) (fun hHeld => ?_)
        clear hKK KK
        try simp only [Act.put, pq0, pq1, pq2]
        refine uTk (i := 4) (some 43) (v := ?_) ?_ ?_
        rotate_left
        · (intro wS hSw; (try dsimp only at hSw); go_simp; try with_reducible rfl)
        try simp only [Act.put, pq0, pq1, pq2]
        refine uTk (i := 5) (some 48) (v := ?_) ?_ ?_
        rotate_left
        · (intro wS hSw; (try dsimp only at hSw); go_simp; try with_reducible rfl)
        try simp only [Act.put, pq0, pq1, pq2]
        refine uTk (i := 6) (some 49) (v := ?_) ?_ ?_
        rotate_left
        · (intro wS hSw; (try dsimp only at hSw); go_simp; try with_reducible rfl)
        try simp only [Act.put, pq0, pq1, pq2]
        refine uReady (rs := [7]) (by kernel_rfl) (by simp) ?_
        refine ReadyU.cons rfl (fun KK hKK => ?_) ReadyU.nil
        go_simp
        have E13 := Lib.hid ((E12.out.push 24 [.slice none 0 0] (w12.heap.size) (by simp)))
        (try dsimp only)
        clear hHeld
        refine hKK.out _ _ (((E13.out.bx 1 rfl).cell 0 rfl)) (fun hHeld => ?_)
        clear hKK KK
        try simp only [Act.put, pq0, pq1, pq2]
        clear E12
        generalize w12.alloc (.cells #[.slice none 0 0] 24) = w13 at *
        have b4 := E13.out.bx 0 rfl
        have c4_0 := b4.cell 0 rfl
        have f4_0 := b4.frozen 0
        clear b4
        refine uReady (rs := [8]) (by kernel_rfl) (by simp) ?_
        refine ReadyU.cons rfl (fun KK hKK => ?_) ReadyU.nil
        go_simp
        have E14 : Hid (Env D w [(w12.heap.size, 24, [.slice la 1 lk]), (w.heap.size, 57, [.slice xna 1 xnk, .slice xra 1 xrk, .slice xza c.parts.length xzk])] [.rw (.slice la 1 lk) 1 1 (wd Lx), .rw (.slice ia 1 ik) 1 1 (wd 1), .rw (.slice oa 1 ok) 1 1 (wd 2), .rw (.slice xna 1 xnk) 1 1 (wd Nx), .rw (.slice xra 1 xrk) 1 1 (wd Rx), .gn (gCt (d + 1) c (.slice xna 1 xnk) (.slice xra 1 xrk) (.slice xza c.parts.length xzk))] _) := Lib.hid ((E13.out.set 0 0 (.slice la 1 lk) rfl))
        (try dsimp only)
        clear hHeld
        refine hKK.out _ _ (((E14.out.bx 1 rfl).cell 0 rfl)) (fun hHeld => ?_)
        clear hKK KK
        try simp only [Act.put, pq0, pq1, pq2]
        refine uTk (i := 9) (some 4) (v := ?_) ?_ ?_
        rotate_left
        · (intro wS hSw; (try dsimp only at hSw); go_simp; try with_reducible rfl)
        try simp only [Act.put, pq0, pq1, pq2]
        refine uDone (by kernel_rfl) ?_ _
        go_wp2_with fail
        go_meet
        exact ⟨w12.heap.size, ia, ik, la, lk, rfl, rfl, Lib.hid E14.out⟩
      · skip
        go_simp
        have E12 := Lib.hid ((E11.out.push 24 [.slice none 0 0] (w11.heap.size) (by simp)))
        (try dsimp only)
        clear hHeld
        refine hKK.out _ _ (((E12.out.bx 1 rfl).cell 0 rfl)) (fun hHeld => ?_)
        clear hKK KK
        try simp only [Act.put, pq0, pq1, pq2]
        clear E11
        generalize w11.alloc (.cells #[.slice none 0 0] 24) = w12 at *
        refine uReady (rs := [3]) (by kernel_rfl) (by simp) ?_
        refine ReadyU.cons rfl (fun KK hKK => ?_) ReadyU.nil
        go_simp
        refine (sub1 hsub.out oL.out oN.out ⟨by decide, by decide⟩ (E12.out.fc 2 rfl) (E12.out.fc 0 rfl)).mono ?_
        rintro e w13 ⟨⟨la, lk, rfl, lh⟩, hb⟩
        have E13 := Lib.hid (E12.out.got (E12.out.below hb) (.rw (.slice la 1 lk) 1 1 (wd Lx)) (Lib.hid (Rw.ge lh.out)).out)
        clear E12 hb
        (try dsimp only)
        clear hHeld
        refine hKK.out _ _ (((E13.out.bx 1 rfl).cell 0 rfl)) (fun hHeld => ?_)
        clear hKK KK
        try simp only [Act.put, pq0, pq1, pq2]
        refine uTk (i := 4) (some 43) (v := ?_) ?_ ?_
        rotate_left
        · (intro wS hSw; (try dsimp only at hSw); go_simp; try with_reducible rfl)
        try simp only [Act.put, pq0, pq1, pq2]
        refine uTk (i := 5) (some 48) (v := ?_) ?_ ?_
        rotate_left
        · (intro wS hSw; (try dsimp only at hSw); go_simp; try with_reducible rfl)
        try simp only [Act.put, pq0, pq1, pq2]
        refine uTk (i := 6) (some 49) (v := ?_) ?_ ?_
        rotate_left
        · (intro wS hSw; (try dsimp only at hSw); go_simp; try with_reducible rfl)
        try simp only [Act.put, pq0, pq1, pq2]
        have b4 := E13.out.bx 0 rfl
        have c4_0 := b4.cell 0 rfl
        have f4_0 := b4.frozen 0
        clear b4
        refine uReady (rs := [8]) (by kernel_rfl) (by simp) ?_
        refine ReadyU.cons rfl (fun KK hKK => ?_) ReadyU.nil
        go_simp
        have E14 : Hid (Env D w [(w11.heap.size, 24, [.slice la 1 lk]), (w.heap.size, 57, [.slice xna 1 xnk, .slice xra 1 xrk, .slice xza c.parts.length xzk])] [.rw (.slice la 1 lk) 1 1 (wd Lx), .rw (.slice ia 1 ik) 1 1 (wd 1), .rw (.slice oa 1 ok) 1 1 (wd 2), .rw (.slice xna 1 xnk) 1 1 (wd Nx), .rw (.slice xra 1 xrk) 1 1 (wd Rx), .gn (gCt (d + 1) c (.slice xna 1 xnk) (.slice xra 1 xrk) (.slice xza c.parts.length xzk))] _) := Lib.hid ((E13.out.set 0 0 (.slice la 1 lk) rfl))
        (try dsimp only)
        clear hHeld
        refine hKK.out _ _ (((E14.out.bx 1 rfl).cell 0 rfl)) (fun hHeld => ?_)
        clear hKK KK
        try simp only [Act.put, pq0, pq1, pq2]
        refine uTk (i := 9) (some 4) (v := ?_) ?_ ?_
        rotate_left
        · (intro wS hSw; (try dsimp only at hSw); go_simp; try with_reducible rfl)
        try simp only [Act.put, pq0, pq1, pq2]
        refine uDone (by kernel_rfl) ?_ _
        go_wp2_with fail
        go_meet
        exact ⟨w11.heap.size, ia, ik, la, lk, rfl, rfl, Lib.hid E14.out⟩
    · skip
      go_simp
      have E11 := Lib.hid ((E10.out.push 24 [.slice none 0 0] (w10.heap.size) (by simp)))
      (try dsimp only)
      clear hHeld
      refine hKK.out _ _ (((E11.out.bx 1 rfl).cell 0 rfl)) (fun hHeld => ?_)
      clear hKK KK
      try simp only [Act.put, pq0, pq1, pq2]
      clear E10
      generalize w10.alloc (.cells #[.slice none 0 0] 24) = w11 at *
      refine uReady (rs := [2]) (by kernel_rfl) (by simp) ?_
      refine ReadyU.cons rfl (fun KK hKK => ?_) ReadyU.nil
      go_simp
      refine (nat1 1 ⟨by decide, by decide⟩).mono ?_
      rintro e w12 ⟨⟨ia, ik, rfl, ih⟩, hb⟩
      have E12 := Lib.hid (E11.out.got (E11.out.below hb) (.rw (.slice ia 1 ik) 1 1 (wd 1)) (Lib.hid (Rw.ge ih.out)).out)
      clear E11 hb
      (try dsimp only)
      clear hHeld
      refine hKK.out _ _ (((E12.out.bx 1 rfl).cell 0 rfl)) (fun hHeld => ?_)
      clear hKK KK
      try simp only [Act.put, pq0, pq1, pq2]
      refine uReady (rs := [3]) (by kernel_rfl) (by simp) ?_
      refine ReadyU.cons rfl (fun KK hKK => ?_) ReadyU.nil
      go_simp
      refine (sub1 hsub.out oL.out oN.out ⟨by decide, by decide⟩ (E12.out.fc 2 rfl) (E12.out.fc 0 rfl)).mono ?_
      rintro e w13 ⟨⟨la, lk, rfl, lh⟩, hb⟩
      have E13 := Lib.hid (E12.out.got (E12.out.below hb) (.rw (.slice la 1 lk) 1 1 (wd Lx)) (Lib.hid (Rw.ge lh.out)).out)
      clear E12 hb
      (try dsimp only)
      clear hHeld
      refine hKK.out _ _ (((E13.out.bx 1 rfl).cell 0 rfl)) (fun hHeld => ?_)
      clear hKK KK
      try simp only [Act.put, pq0, pq1, pq2]
      refine uTk (i := 4) (some 43) (v := ?_) ?_ ?_
      rotate_left
      · (intro wS hSw; (try dsimp only at hSw); go_simp; try with_reducible rfl)
      try simp only [Act.put, pq0, pq1, pq2]
      refine uTk (i := 5) (some 48) (v := ?_) ?_ ?_
      rotate_left
      · (intro wS hSw; (try dsimp only at hSw); go_simp; try with_reducible rfl)
      try simp only [Act.put, pq0, pq1, pq2]
      refine uTk (i := 6) (some 49) (v := ?_) ?_ ?_
      rotate_left
      · (intro wS hSw; (try dsimp only at hSw); go_simp; try with_reducible rfl)
      try simp only [Act.put, pq0, pq1, pq2]
      have b4 := E13.out.bx 0 rfl
      have c4_0 := b4.cell 0 rfl
      have f4_0 := b4.frozen 0
      clear b4
      refine uReady (rs := [8]) (by kernel_rfl) (by simp) ?_
      refine ReadyU.cons rfl (fun KK hKK => ?_) ReadyU.nil
      go_simp
      have E14 : Hid (Env D w [(w10.heap.size, 24, [.slice la 1 lk]), (w.heap.size, 57, [.slice xna 1 xnk, .slice xra 1 xrk, .slice xza c.parts.length xzk])] [.rw (.slice la 1 lk) 1 1 (wd Lx), .rw (.slice ia 1 ik) 1 1 (wd 1), .rw (.slice oa 1 ok) 1 1 (wd 2), .rw (.slice xna 1 xnk) 1 1 (wd Nx), .rw (.slice xra 1 xrk) 1 1 (wd Rx), .gn (gCt (d + 1) c (.slice xna 1 xnk) (.slice xra 1 xrk) (.slice xza c.parts.length xzk))] _) := Lib.hid ((E13.out.set 0 0 (.slice la 1 lk) rfl))
      (try dsimp only)
      clear hHeld
      refine hKK.out _ _ (((E14.out.bx 1 rfl).cell 0 rfl)) (fun hHeld => ?_)
      clear hKK KK
      try simp only [Act.put, pq0, pq1, pq2]
      refine uTk (i := 9) (some 4) (v := ?_) ?_ ?_
      rotate_left
      · (intro wS hSw; (try dsimp only at hSw); go_simp; try with_reducible rfl)
      try simp only [Act.put, pq0, pq1, pq2]
      refine uDone (by kernel_rfl) ?_ _
      go_wp2_with fail
      go_meet
      exact ⟨w10.heap.size, ia, ik, la, lk, rfl, rfl, Lib.hid E14.out⟩
  case rest =>
    obtain ⟨bg, ia, ik, la, lk, rfl, rfl, E15⟩ := hcut
    clear E9
    go_wp2_with fail
    refine (nat1 1 ⟨by decide, by decide⟩).mono ?_
    rintro e w14 ⟨⟨ua, uk, rfl, uh⟩, hb⟩
    have E16 := Lib.hid (E15.out.got (E15.out.below hb) (.rw (.slice ua 1 uk) 1 1 (wd 1)) (Lib.hid (Rw.ge uh.out)).out)
    clear E15 hb
    have E17 := Lib.hid ((E16.out.push 24 [.slice ua 1 uk] (w14.heap.size) (by simp)))
    have b5 := E17.out.bx 2 rfl
    have c5_2 := b5.cell 2 rfl
    clear b5
    go_wp2_with fail
    clear c5_2 E16
    generalize w14.alloc (.cells #[.slice ua 1 uk] 24) = w15 at *
    go_loopg [56] (c.parts.length) (fun gk s56 wr => ∃ (k P : Nat) (pa : Option Addr) (pk : Nat), s56 = .int .i64 (k : Int) ∧ Hid (Env D w [(w14.heap.size, 24, [.slice pa 1 pk]), (bg, 24, [.slice la 1 lk]), (w.heap.size, 57, [.slice xna 1 xnk, .slice xra 1 xrk, .slice xza c.parts.length xzk])] [.rw (.slice pa 1 pk) 1 1 (wd P), .rw (.slice la 1 lk) 1 1 (wd Lx), .rw (.slice ia 1 ik) 1 1 (wd 1), .rw (.slice oa 1 ok) 1 1 (wd 2), .rw (.slice xna 1 xnk) 1 1 (wd Nx), .rw (.slice xra 1 xrk) 1 1 (wd Rx), .gn (gCt (d + 1) c (.slice xna 1 xnk) (.slice xra 1 xrk) (.slice xza c.parts.length xzk))] wr) ∧ Hid ((k ≤ c.parts.length ∧ gk = c.parts.length - k) ∧ P = c.pr k))
    case atStart => exact ⟨0, 1, ua, uk, rfl, Lib.hid E17.out, Lib.hid ⟨⟨Nat.zero_le _, rfl⟩, rfl⟩⟩
    case round =>
      clear E17
      obtain ⟨k, P, pa, pk, rfl, EL, HA⟩ := hrel
      obtain ⟨⟨a1, a2⟩, a3⟩ := HA.out
      have HP := Lib.hid a3
      clear HA a3
      by_cases hy : k = c.parts.length
      rotate_left
      · have hk9 : k < c.parts.length := by omega
        have HK := Lib.hid hk9
        have v6 : decide ((k : Int) < (c.parts.length : Int)) = true := decide_eq_true (by omega)
        have v6n : decide (k < c.parts.length) = true := decide_eq_true (by omega)
        clear hy
        obtain ⟨M, hM⟩ : ∃ m, c.parts[k].num = m := ⟨_, rfl⟩
        have HMn := Lib.hid hM
        have HKO : Hid (CtOk d c.parts[k]) := Lib.hid (KI.out k hk9)
        have oP : Hid (One P) := Lib.hid (by rw [HP.out]; exact (KQ.out k (Nat.le_of_lt hk9)).1)
        have oM : Hid (One M) := Lib.hid (by rw [← hM]; have h := HKO.out; revert h; cases d with | zero => intro h; cases h | succ d => intro h; exact h.1.1.1)
        obtain ⟨P2, hP2⟩ : ∃ x, P * M = x := ⟨_, rfl⟩
        have e2 : P2 = c.pr (k + 1) := by rw [← hP2, HP.out, Ct.pr_succ hk9]; exact congrArg (c.pr k * ·) hM.symm
        have hle : P2 ≤ Lx := by rw [e2]; exact (KQ.out (k + 1) hk9).2
        have oP2 : Hid (One P2) := Lib.hid (by rw [e2]; exact (KQ.out (k + 1) hk9).1)
        obtain ⟨c4, hc4⟩ : ∃ c, Nn.NatMath.cmp P2 Lx = c := ⟨_, rfl⟩
        have t8 := cmp_gt hle
        rw [hc4] at t8
        have C4 := Lib.hid hc4
        have HP2 := Lib.hid hP2
        have HE2 := Lib.hid e2
        clear hc4 hP2 e2 hle HP hM
        go_upto_region 11 with (fail)
        obtain ⟨xzb, xzo, rfl⟩ := gCt.addr (EL.out.fc 6 rfl) (by omega)
        by_cases hk0 : k = 0
        · skip
          have v8 : decide ((0 : Int) < (k : Int)) = false := decide_eq_false (by omega)
          have v9 : decide (0 < k) = false := decide_eq_false (by omega)
          clear hk0
          obtain ⟨yna, ynk, yra, yrk, yza, yzk, E180⟩ := EL.out.elCt 6 rfl (k) hk9
          have E18 : Hid (Env D w [(w14.heap.size, 24, [.slice pa 1 pk]), (bg, 24, [.slice la 1 lk]), (w.heap.size, 57, [.slice xna 1 xnk, .slice xra 1 xrk, .slice (some ⟨xzb, xzo, none⟩) c.parts.length xzk])] [.ce xzb (xzo + k * 3) (.slice yna 1 ynk), .ce xzb (xzo + k * 3 + 1) (.slice yra 1 yrk), .ce xzb (xzo + k * 3 + 2) (.slice yza c.parts[k].parts.length yzk), .gn (gCt d c.parts[k] (.slice yna 1 ynk) (.slice yra 1 yrk) (.slice yza c.parts[k].parts.length yzk)), .rw (.slice pa 1 pk) 1 1 (wd P), .rw (.slice la 1 lk) 1 1 (wd Lx), .rw (.slice ia 1 ik) 1 1 (wd 1), .rw (.slice oa 1 ok) 1 1 (wd 2), .rw (.slice xna 1 xnk) 1 1 (wd Nx), .rw (.slice xra 1 xrk) 1 1 (wd Rx), .gn (gCt (d + 1) c (.slice xna 1 xnk) (.slice xra 1 xrk) (.slice (some ⟨xzb, xzo, none⟩) c.parts.length xzk))] _) := Lib.hid E180
          clear E180 EL
          have q0 := (E18.out.fc 0 rfl).2
          have q1 := (E18.out.fc 1 rfl).2
          have q2 := (E18.out.fc 2 rfl).2
          go_wp2_with fail
          have E19 := Lib.hid ((E18.out.push 57 [.slice yna 1 ynk, .slice yra 1 yrk, .slice yza c.parts[k].parts.length yzk] (wr.heap.size) (by simp)))
          clear q0 q1 q2 E18
          generalize wr.alloc (.cells #[.slice yna 1 ynk, .slice yra 1 yrk, .slice yza c.parts[k].parts.length yzk] 57) = w16 at *
          have E20 := Lib.hid E19.out.drew
          clear E19
          refine wp_regionU (S := fun w' => w'.cell? ⟨wr.heap.size, 0, none⟩ = some (.slice yna 1 ynk) ∧ w'.cell? ⟨wr.heap.size, 1, none⟩ = some (.slice yra 1 yrk) ∧ w'.cell? ⟨wr.heap.size, 2, none⟩ = some (.slice yza c.parts[k].parts.length yzk)) [] (by kernel_rfl) (⟨((E20.out.bx 0 rfl).cell 0 rfl), ((E20.out.bx 0 rfl).cell 1 rfl), ((E20.out.bx 0 rfl).cell 2 rfl)⟩) (fun hHeld => ?_)
          generalize w16.drew = w17 at *
          refine uTk (i := 0) (some 61) (v := ?_) ?_ ?_
          rotate_left
          · (intro wS hSw; (try dsimp only at hSw); go_simp; try with_reducible rfl)
          try simp only [Act.put, pq0, pq1, pq2]
          refine uReady (rs := [1]) (by kernel_rfl) (by simp) ?_
          refine ReadyU.cons rfl (fun KK hKK => ?_) ReadyU.nil
          go_simp
          refine (IHR.out c.parts[k] (gCt.any (E20.out.fc 3 rfl)) HKO.out).mono ?_
          rintro e w18 ⟨rfl, hb⟩
          have E21 := Lib.hid (E20.out.below hb)
          clear E20 hb
          (try dsimp only)
          clear hHeld
          refine hKK.out _ _ (⟨((E21.out.bx 0 rfl).cell 0 rfl), ((E21.out.bx 0 rfl).cell 1 rfl), ((E21.out.bx 0 rfl).cell 2 rfl)⟩) (fun hHeld => ?_)
          clear hKK KK
          try simp only [Act.put, pq0, pq1, pq2]
          refine uTk (i := 2) (some 63) (v := ?_) ?_ ?_
          rotate_left
          · (intro wS hSw; (try dsimp only at hSw); go_simp; try with_reducible rfl)
          try simp only [Act.put, pq0, pq1, pq2]
          refine uTk (i := 3) (some 64) (v := ?_) ?_ ?_
          rotate_left
          · (intro wS hSw; (try dsimp only at hSw); go_simp; try with_reducible rfl)
          try simp only [Act.put, pq0, pq1, pq2]
          refine uTk (i := 4) (some 65) (v := ?_) ?_ ?_
          rotate_left
          · (intro wS hSw; (try dsimp only at hSw); go_simp; try with_reducible rfl)
          try simp only [Act.put, pq0, pq1, pq2]
          refine uTk (i := 5) (some 66) (v := ?_) ?_ ?_
          rotate_left
          · (intro wS hSw; (try dsimp only at hSw); go_simp; try with_reducible rfl)
          try simp only [Act.put, pq0, pq1, pq2]
          refine uTk (i := 6) (some 67) (v := ?_) ?_ ?_
          rotate_left
          · (intro wS hSw; (try dsimp only at hSw); go_simp; try with_reducible rfl)
          try simp only [Act.put, pq0, pq1, pq2]
          refine uPs (i := 7) (some 68) ?_
          try simp only [Act.put, pq0, pq1, pq2]
          refine uPs (i := 8) (some 69) ?_
          try simp only [Act.put, pq0, pq1, pq2]
          refine uPs (i := 9) (some 70) ?_
          try simp only [Act.put, pq0, pq1, pq2]
          refine uPs (i := 10) (some 71) ?_
          try simp only [Act.put, pq0, pq1, pq2]
          refine uPs (i := 11) (some 72) ?_
          try simp only [Act.put, pq0, pq1, pq2]
          refine uPs (i := 12) (some 73) ?_
          try simp only [Act.put, pq0, pq1, pq2]
          refine uPs (i := 13) (some 74) ?_
          try simp only [Act.put, pq0, pq1, pq2]
          refine uPs (i := 14) (some 75) ?_
          try simp only [Act.put, pq0, pq1, pq2]
          refine uPs (i := 15) (some 76) ?_
          try simp only [Act.put, pq0, pq1, pq2]
          refine uPs (i := 16) (some 77) ?_
          try simp only [Act.put, pq0, pq1, pq2]
          refine uPs (i := 17) (some 78) ?_
          try simp only [Act.put, pq0, pq1, pq2]
          refine uTk (i := 18) (some 79) (v := ?_) ?_ ?_
          rotate_left
          · (intro wS hSw; (try dsimp only at hSw); go_simp; try with_reducible rfl)
          try simp only [Act.put, pq0, pq1, pq2]
          refine uTk (i := 19) (some 80) (v := ?_) ?_ ?_
          rotate_left
          · (intro wS hSw; (try dsimp only at hSw); go_simp; try with_reducible rfl)
          try simp only [Act.put, pq0, pq1, pq2]
          refine uDone (by kernel_rfl) ?_ _
          have b6 := E21.out.bx 1 rfl
          have c6_0 := b6.cell 0 rfl
          clear b6
          have b7 := E21.out.bx 0 rfl
          have c7_0 := b7.cell 0 rfl
          clear b7
          go_wp2_with fail
          refine (mul1 HP2.out oP2.out oP.out oM.out (E21.out.fc 4 rfl) (by have h := gCt.n (E21.out.fc 3 rfl); rw [HMn.out] at h; exact h)).mono ?_
          rintro e w19 ⟨⟨ma, mk, rfl, mh⟩, hb⟩
          have E22 := Lib.hid (E21.out.got (E21.out.below hb) (.rw (.slice ma 1 mk) 1 1 (wd P2)) (Lib.hid (Rw.ge mh.out)).out)
          clear c6_0 c7_0 E21 hb
          have b8 := E22.out.bx 1 rfl
          have c8_0 := b8.cell 0 rfl
          have f8_0 := b8.frozen 0
          clear b8
          have E23 : Hid (Env D w [(wr.heap.size, 57, [.slice yna 1 ynk, .slice yra 1 yrk, .slice yza c.parts[k].parts.length yzk]), (w14.heap.size, 24, [.slice ma 1 mk]), (bg, 24, [.slice la 1 lk]), (w.heap.size, 57, [.slice xna 1 xnk, .slice xra 1 xrk, .slice (some ⟨xzb, xzo, none⟩) c.parts.length xzk])] [.rw (.slice ma 1 mk) 1 1 (wd P2), .ce xzb (xzo + k * 3) (.slice yna 1 ynk), .ce xzb (xzo + k * 3 + 1) (.slice yra 1 yrk), .ce xzb (xzo + k * 3 + 2) (.slice yza c.parts[k].parts.length yzk), .gn (gCt d c.parts[k] (.slice yna 1 ynk) (.slice yra 1 yrk) (.slice yza c.parts[k].parts.length yzk)), .rw (.slice pa 1 pk) 1 1 (wd P), .rw (.slice la 1 lk) 1 1 (wd Lx), .rw (.slice ia 1 ik) 1 1 (wd 1), .rw (.slice oa 1 ok) 1 1 (wd 2), .rw (.slice xna 1 xnk) 1 1 (wd Nx), .rw (.slice xra 1 xrk) 1 1 (wd Rx), .gn (gCt (d + 1) c (.slice xna 1 xnk) (.slice xra 1 xrk) (.slice (some ⟨xzb, xzo, none⟩) c.parts.length xzk))] _) := Lib.hid ((E22.out.set 1 0 (.slice ma 1 mk) rfl))
          have b9 := E23.out.bx 2 rfl
          have c9_0 := b9.cell 0 rfl
          clear b9
          go_wp2_with fail
          refine (cmp1 C4.out oP2.out oL.out (E23.out.fc 0 rfl) (E23.out.fc 6 rfl)).mono ?_
          rintro e w20 ⟨rfl, hb⟩
          have E24 := Lib.hid (E23.out.below hb)
          clear c8_0 f8_0 c9_0 E22 E23 hb
          have hZ := (E24.out.drop)
          have EZ : Hid (Env D w [(w14.heap.size, 24, [.slice ma 1 mk]), (bg, 24, [.slice la 1 lk]), (w.heap.size, 57, [.slice xna 1 xnk, .slice xra 1 xrk, .slice (some ⟨xzb, xzo, none⟩) c.parts.length xzk])] [.rw (.slice ma 1 mk) 1 1 (wd P2), .rw (.slice la 1 lk) 1 1 (wd Lx), .rw (.slice ia 1 ik) 1 1 (wd 1), .rw (.slice oa 1 ok) 1 1 (wd 2), .rw (.slice xna 1 xnk) 1 1 (wd Nx), .rw (.slice xra 1 xrk) 1 1 (wd Rx), .gn (gCt (d + 1) c (.slice xna 1 xnk) (.slice xra 1 xrk) (.slice (some ⟨xzb, xzo, none⟩) c.parts.length xzk))] _) := Lib.hid ⟨hZ.bel, hZ.box, ⟨hZ.fc 0 rfl, ⟨hZ.fc 6 rfl, ⟨hZ.fc 7 rfl, ⟨hZ.fc 8 rfl, ⟨hZ.fc 9 rfl, ⟨hZ.fc 10 rfl, ⟨hZ.fc 11 rfl, trivial⟩⟩⟩⟩⟩⟩⟩⟩
          clear hZ
          go_wp2
          go_roundg (c.parts.length - (k + 1))
          case rel => exact ⟨k + 1, P2, ma, mk, rfl, EZ, Lib.hid ⟨⟨by have := HK.out; omega, rfl⟩, HE2.out⟩⟩
          case measure => have := HK.out; omega
        · skip
          obtain ⟨j, hj⟩ : ∃ j, j + 1 = k := ⟨k - 1, by omega⟩
          have hj9 : j < c.parts.length := by omega
          have wz := wrapI_one hj (by omega)
          have wy := wrap64_one hj (by omega)
          have v8 : decide ((0 : Int) < (k : Int)) = true := decide_eq_true (by omega)
          have v9 : decide (0 < k) = true := decide_eq_true (by omega)
          have hsrt : c.parts[j].num ≤ M := by have h := KS.out j (by omega); rw [← HMn.out]; simp only [hj] at h; exact h
          obtain ⟨c3, hc3⟩ : ∃ q, Nn.NatMath.cmp c.parts[j].num M = q := ⟨_, rfl⟩
          have t9 := cmp_gt hsrt
          rw [hc3] at t9
          have C3 := Lib.hid hc3
          have HJ := Lib.hid hj9
          have oJ : Hid (One c.parts[j].num) := Lib.hid (by have h := KI.out j hj9; revert h; cases d with | zero => intro h; cases h | succ d => intro h; exact h.1.1.1)
          clear hc3 hsrt hj hk0
          obtain ⟨vna, vnk, vra, vrk, vza, vzk, E180⟩ := EL.out.elCt 6 rfl (j) HJ.out
          have E18 : Hid (Env D w [(w14.heap.size, 24, [.slice pa 1 pk]), (bg, 24, [.slice la 1 lk]), (w.heap.size, 57, [.slice xna 1 xnk, .slice xra 1 xrk, .slice (some ⟨xzb, xzo, none⟩) c.parts.length xzk])] [.ce xzb (xzo + j * 3) (.slice vna 1 vnk), .ce xzb (xzo + j * 3 + 1) (.slice vra 1 vrk), .ce xzb (xzo + j * 3 + 2) (.slice vza c.parts[j].parts.length vzk), .gn (gCt d c.parts[j] (.slice vna 1 vnk) (.slice vra 1 vrk) (.slice vza c.parts[j].parts.length vzk)), .rw (.slice pa 1 pk) 1 1 (wd P), .rw (.slice la 1 lk) 1 1 (wd Lx), .rw (.slice ia 1 ik) 1 1 (wd 1), .rw (.slice oa 1 ok) 1 1 (wd 2), .rw (.slice xna 1 xnk) 1 1 (wd Nx), .rw (.slice xra 1 xrk) 1 1 (wd Rx), .gn (gCt (d + 1) c (.slice xna 1 xnk) (.slice xra 1 xrk) (.slice (some ⟨xzb, xzo, none⟩) c.parts.length xzk))] _) := Lib.hid E180
          clear E180 EL
          have r0 := (E18.out.fc 0 rfl).2
          obtain ⟨yna, ynk, yra, yrk, yza, yzk, E190⟩ := E18.out.elCt 10 rfl (k) hk9
          have E19 : Hid (Env D w [(w14.heap.size, 24, [.slice pa 1 pk]), (bg, 24, [.slice la 1 lk]), (w.heap.size, 57, [.slice xna 1 xnk, .slice xra 1 xrk, .slice (some ⟨xzb, xzo, none⟩) c.parts.length xzk])] [.ce xzb (xzo + k * 3) (.slice yna 1 ynk), .ce xzb (xzo + k * 3 + 1) (.slice yra 1 yrk), .ce xzb (xzo + k * 3 + 2) (.slice yza c.parts[k].parts.length yzk), .gn (gCt d c.parts[k] (.slice yna 1 ynk) (.slice yra 1 yrk) (.slice yza c.parts[k].parts.length yzk)), .ce xzb (xzo + j * 3) (.slice vna 1 vnk), .ce xzb (xzo + j * 3 + 1) (.slice vra 1 vrk), .ce xzb (xzo + j * 3 + 2) (.slice vza c.parts[j].parts.length vzk), .gn (gCt d c.parts[j] (.slice vna 1 vnk) (.slice vra 1 vrk) (.slice vza c.parts[j].parts.length vzk)), .rw (.slice pa 1 pk) 1 1 (wd P), .rw (.slice la 1 lk) 1 1 (wd Lx), .rw (.slice ia 1 ik) 1 1 (wd 1), .rw (.slice oa 1 ok) 1 1 (wd 2), .rw (.slice xna 1 xnk) 1 1 (wd Nx), .rw (.slice xra 1 xrk) 1 1 (wd Rx), .gn (gCt (d + 1) c (.slice xna 1 xnk) (.slice xra 1 xrk) (.slice (some ⟨xzb, xzo, none⟩) c.parts.length xzk))] _) := Lib.hid E190
          clear E190 E18
          have q0 := (E19.out.fc 0 rfl).2
          have q1 := (E19.out.fc 1 rfl).2
          have q2 := (E19.out.fc 2 rfl).2
          go_wp2_with fail
          have E20 := Lib.hid ((E19.out.push 57 [.slice yna 1 ynk, .slice yra 1 yrk, .slice yza c.parts[k].parts.length yzk] (wr.heap.size) (by simp)))
          clear r0 q0 q1 q2 E19
          generalize wr.alloc (.cells #[.slice yna 1 ynk, .slice yra 1 yrk, .slice yza c.parts[k].parts.length yzk] 57) = w16 at *
          have E21 := Lib.hid E20.out.drew
          clear E20
          refine wp_regionU (S := fun w' => w'.cell? ⟨wr.heap.size, 0, none⟩ = some (.slice yna 1 ynk) ∧ w'.cell? ⟨wr.heap.size, 1, none⟩ = some (.slice yra 1 yrk) ∧ w'.cell? ⟨wr.heap.size, 2, none⟩ = some (.slice yza c.parts[k].parts.length yzk) ∧ w'.cell? ⟨w.heap.size, 2, none⟩ = some (.slice (some ⟨xzb, xzo, none⟩) c.parts.length xzk) ∧ w'.cell? ⟨xzb, (xzo + j * 3), none⟩ = some (.slice vna 1 vnk)) [] (by kernel_rfl) (⟨((E21.out.bx 0 rfl).cell 0 rfl), ((E21.out.bx 0 rfl).cell 1 rfl), ((E21.out.bx 0 rfl).cell 2 rfl), ((E21.out.bx 3 rfl).cell 2 rfl), (E21.out.fc 4 rfl).2⟩) (fun hHeld => ?_)
          generalize w16.drew = w17 at *
          refine uTk (i := 0) (some 61) (v := ?_) ?_ ?_
          rotate_left
          · (intro wS hSw; (try dsimp only at hSw); go_simp; try with_reducible rfl)
          try simp only [Act.put, pq0, pq1, pq2]
          refine uReady (rs := [1]) (by kernel_rfl) (by simp) ?_
          refine ReadyU.cons rfl (fun KK hKK => ?_) ReadyU.nil
          go_simp
          refine (IHR.out c.parts[k] (gCt.any (E21.out.fc 3 rfl)) HKO.out).mono ?_
          rintro e w18 ⟨rfl, hb⟩
          have E22 := Lib.hid (E21.out.below hb)
          clear E21 hb
          (try dsimp only)
          clear hHeld
          refine hKK.out _ _ (⟨((E22.out.bx 0 rfl).cell 0 rfl), ((E22.out.bx 0 rfl).cell 1 rfl), ((E22.out.bx 0 rfl).cell 2 rfl), ((E22.out.bx 3 rfl).cell 2 rfl), (E22.out.fc 4 rfl).2⟩) (fun hHeld => ?_)
          clear hKK KK
          try simp only [Act.put, pq0, pq1, pq2]
          refine uTk (i := 2) (some 63) (v := ?_) ?_ ?_
          rotate_left
          · (intro wS hSw; (try dsimp only at hSw); go_simp; try with_reducible rfl)
          try simp only [Act.put, pq0, pq1, pq2]
          refine uTk (i := 3) (some 64) (v := ?_) ?_ ?_
          rotate_left
          · (intro wS hSw; (try dsimp only at hSw); go_simp; try with_reducible rfl)
          try simp only [Act.put, pq0, pq1, pq2]
          refine uTk (i := 4) (some 65) (v := ?_) ?_ ?_
          rotate_left
          · (intro wS hSw; (try dsimp only at hSw); go_simp; try with_reducible rfl)
          try simp only [Act.put, pq0, pq1, pq2]
          refine uTk (i := 5) (some 66) (v := ?_) ?_ ?_
          rotate_left
          · (intro wS hSw; (try dsimp only at hSw); go_simp; try with_reducible rfl)
          try simp only [Act.put, pq0, pq1, pq2]
          refine uTk (i := 6) (some 67) (v := ?_) ?_ ?_
          rotate_left
          · (intro wS hSw; (try dsimp only at hSw); go_simp; try with_reducible rfl)
          try simp only [Act.put, pq0, pq1, pq2]
          refine uTk (i := 7) (some 68) (v := ?_) ?_ ?_
          rotate_left
          · (intro wS hSw; (try dsimp only at hSw); go_simp; try with_reducible rfl)
          try simp only [Act.put, pq0, pq1, pq2]
          refine uTk (i := 8) (some 69) (v := ?_) ?_ ?_
          rotate_left
          · (intro wS hSw; (try dsimp only at hSw); go_simp; try with_reducible rfl)
          try simp only [Act.put, pq0, pq1, pq2]
          refine uTk (i := 9) (some 70) (v := ?_) ?_ ?_
          rotate_left
          · (intro wS hSw; (try dsimp only at hSw); go_simp; try with_reducible rfl)
          try simp only [Act.put, pq0, pq1, pq2]
          refine uTk (i := 10) (some 71) (v := ?_) ?_ ?_
          rotate_left
          · (intro wS hSw; (try dsimp only at hSw); go_simp; try with_reducible rfl)
          try simp only [Act.put, pq0, pq1, pq2]
          refine uTk (i := 11) (some 72) (v := ?_) ?_ ?_
          rotate_left
          · (intro wS hSw; (try dsimp only at hSw); go_simp; try with_reducible rfl)
          try simp only [Act.put, pq0, pq1, pq2]
          refine uTk (i := 12) (some 73) (v := ?_) ?_ ?_
          rotate_left
          · (intro wS hSw; (try dsimp only at hSw); go_simp; try with_reducible rfl)
          try simp only [Act.put, pq0, pq1, pq2]
          refine uTk (i := 13) (some 74) (v := ?_) ?_ ?_
          rotate_left
          · (intro wS hSw; (try dsimp only at hSw); go_simp; try with_reducible rfl)
          try simp only [Act.put, pq0, pq1, pq2]
          refine uTk (i := 14) (some 75) (v := ?_) ?_ ?_
          rotate_left
          · (intro wS hSw; (try dsimp only at hSw); go_simp; try with_reducible rfl)
          try simp only [Act.put, pq0, pq1, pq2]
          refine uTk (i := 15) (some 76) (v := ?_) ?_ ?_
          rotate_left
          · (intro wS hSw; (try dsimp only at hSw); go_simp; try with_reducible rfl)
          try simp only [Act.put, pq0, pq1, pq2]
          refine uReady (rs := [16]) (by kernel_rfl) (by simp) ?_
          refine ReadyU.cons rfl (fun KK hKK => ?_) ReadyU.nil
          go_simp
          refine (cmp1 C3.out oJ.out oM.out (gCt.n (E22.out.fc 7 rfl)) (by have h := gCt.n (E22.out.fc 3 rfl); rw [HMn.out] at h; exact h)).mono ?_
          rintro e w19 ⟨rfl, hb⟩
          have E23 := Lib.hid (E22.out.below hb)
          clear E22 hb
          (try dsimp only)
          clear hHeld
          refine hKK.out _ _ (⟨((E23.out.bx 0 rfl).cell 0 rfl), ((E23.out.bx 0 rfl).cell 1 rfl), ((E23.out.bx 0 rfl).cell 2 rfl), ((E23.out.bx 3 rfl).cell 2 rfl), (E23.out.fc 4 rfl).2⟩) (fun hHeld => ?_)
          clear hKK KK
          try simp only [Act.put, pq0, pq1, pq2]
          refine uTk (i := 17) (some 78) (v := ?_) ?_ ?_
          rotate_left
          · (intro wS hSw; (try dsimp only at hSw); go_simp; try with_reducible rfl)
          try simp only [Act.put, pq0, pq1, pq2]
          refine uTk (i := 18) (some 79) (v := ?_) ?_ ?_
          rotate_left
          · (intro wS hSw; (try dsimp only at hSw); go_simp; try with_reducible rfl)
          try simp only [Act.put, pq0, pq1, pq2]
          refine uTk (i := 19) (some 80) (v := ?_) ?_ ?_
          rotate_left
          · (intro wS hSw; (try dsimp only at hSw); go_simp; try with_reducible rfl)
          try simp only [Act.put, pq0, pq1, pq2]
          refine uDone (by kernel_rfl) ?_ _
          have b6 := E23.out.bx 1 rfl
          have c6_0 := b6.cell 0 rfl
          clear b6
          have b7 := E23.out.bx 0 rfl
          have c7_0 := b7.cell 0 rfl
          clear b7
          go_wp2_with fail
          refine (mul1 HP2.out oP2.out oP.out oM.out (E23.out.fc 8 rfl) (by have h := gCt.n (E23.out.fc 3 rfl); rw [HMn.out] at h; exact h)).mono ?_
          rintro e w20 ⟨⟨ma, mk, rfl, mh⟩, hb⟩
          have E24 := Lib.hid (E23.out.got (E23.out.below hb) (.rw (.slice ma 1 mk) 1 1 (wd P2)) (Lib.hid (Rw.ge mh.out)).out)
          clear c6_0 c7_0 E23 hb
          have b8 := E24.out.bx 1 rfl
          have c8_0 := b8.cell 0 rfl
          have f8_0 := b8.frozen 0
          clear b8
          have E25 : Hid (Env D w [(wr.heap.size, 57, [.slice yna 1 ynk, .slice yra 1 yrk, .slice yza c.parts[k].parts.length yzk]), (w14.heap.size, 24, [.slice ma 1 mk]), (bg, 24, [.slice la 1 lk]), (w.heap.size, 57, [.slice xna 1 xnk, .slice xra 1 xrk, .slice (some ⟨xzb, xzo, none⟩) c.parts.length xzk])] [.rw (.slice ma 1 mk) 1 1 (wd P2), .ce xzb (xzo + k * 3) (.slice yna 1 ynk), .ce xzb (xzo + k * 3 + 1) (.slice yra 1 yrk), .ce xzb (xzo + k * 3 + 2) (.slice yza c.parts[k].parts.length yzk), .gn (gCt d c.parts[k] (.slice yna 1 ynk) (.slice yra 1 yrk) (.slice yza c.parts[k].parts.length yzk)), .ce xzb (xzo + j * 3) (.slice vna 1 vnk), .ce xzb (xzo + j * 3 + 1) (.slice vra 1 vrk), .ce xzb (xzo + j * 3 + 2) (.slice vza c.parts[j].parts.length vzk), .gn (gCt d c.parts[j] (.slice vna 1 vnk) (.slice vra 1 vrk) (.slice vza c.parts[j].parts.length vzk)), .rw (.slice pa 1 pk) 1 1 (wd P), .rw (.slice la 1 lk) 1 1 (wd Lx), .rw (.slice ia 1 ik) 1 1 (wd 1), .rw (.slice oa 1 ok) 1 1 (wd 2), .rw (.slice xna 1 xnk) 1 1 (wd Nx), .rw (.slice xra 1 xrk) 1 1 (wd Rx), .gn (gCt (d + 1) c (.slice xna 1 xnk) (.slice xra 1 xrk) (.slice (some ⟨xzb, xzo, none⟩) c.parts.length xzk))] _) := Lib.hid ((E24.out.set 1 0 (.slice ma 1 mk) rfl))
          have b9 := E25.out.bx 2 rfl
          have c9_0 := b9.cell 0 rfl
          clear b9
          go_wp2_with fail
          refine (cmp1 C4.out oP2.out oL.out (E25.out.fc 0 rfl) (E25.out.fc 10 rfl)).mono ?_
          rintro e w21 ⟨rfl, hb⟩
          have E26 := Lib.hid (E25.out.below hb)
          clear c8_0 f8_0 c9_0 E24 E25 hb
          have hZ := (E26.out.drop)
          have EZ : Hid (Env D w [(w14.heap.size, 24, [.slice ma 1 mk]), (bg, 24, [.slice la 1 lk]), (w.heap.size, 57, [.slice xna 1 xnk, .slice xra 1 xrk, .slice (some ⟨xzb, xzo, none⟩) c.parts.length xzk])] [.rw (.slice ma 1 mk) 1 1 (wd P2), .rw (.slice la 1 lk) 1 1 (wd Lx), .rw (.slice ia 1 ik) 1 1 (wd 1), .rw (.slice oa 1 ok) 1 1 (wd 2), .rw (.slice xna 1 xnk) 1 1 (wd Nx), .rw (.slice xra 1 xrk) 1 1 (wd Rx), .gn (gCt (d + 1) c (.slice xna 1 xnk) (.slice xra 1 xrk) (.slice (some ⟨xzb, xzo, none⟩) c.parts.length xzk))] _) := Lib.hid ⟨hZ.bel, hZ.box, ⟨hZ.fc 0 rfl, ⟨hZ.fc 10 rfl, ⟨hZ.fc 11 rfl, ⟨hZ.fc 12 rfl, ⟨hZ.fc 13 rfl, ⟨hZ.fc 14 rfl, ⟨hZ.fc 15 rfl, trivial⟩⟩⟩⟩⟩⟩⟩⟩
          clear hZ
          go_wp2
          go_roundg (c.parts.length - (k + 1))
          case rel => exact ⟨k + 1, P2, ma, mk, rfl, EZ, Lib.hid ⟨⟨by have := HK.out; omega, rfl⟩, HE2.out⟩⟩
          case measure => have := HK.out; omega
      have v6 : decide ((k : Int) < (c.parts.length : Int)) = false := decide_eq_false (by omega)
      have v6n : decide (k < c.parts.length) = false := decide_eq_false (by omega)
      have hPL : P = Lx := by rw [HP.out, hy]; exact KP.out
      clear hy
      subst hPL
      clear HP
      have b6 := EL.out.bx 0 rfl
      have c6_0 := b6.cell 0 rfl
      clear b6
      have b7 := EL.out.bx 1 rfl
      have c7_0 := b7.cell 0 rfl
      clear b7
      go_wp2_with fail
      refine (cmp1 (cmp_self _) oL.out oL.out (EL.out.fc 0 rfl) (EL.out.fc 1 rfl)).mono ?_
      rintro e w16 ⟨rfl, hb⟩
      have E18 := Lib.hid (EL.out.below hb)
      clear c6_0 c7_0 EL hb
      have b8 := E18.out.bx 2 rfl
      have c8_0 := b8.cell 0 rfl
      have c8_1 := b8.cell 1 rfl
      have c8_2 := b8.cell 2 rfl
      clear b8
      have b9 := E18.out.bx 1 rfl
      have c9_0 := b9.cell 0 rfl
      clear b9
      go_wp2_with fail
      refine (one1 Nx Rx P (Fct.any (E18.out.fc 4 rfl)) (Fct.any (E18.out.fc 5 rfl)) (Fct.any (E18.out.fc 1 rfl)) 1 hpw.out ⟨by decide, by decide⟩ oN.out oR.out oL.out hlt.out rfl).mono ?_
      rintro e w17 ⟨rfl, hb⟩
      have E19 := Lib.hid (E18.out.below hb)
      clear c8_0 c8_1 c8_2 c9_0 E18 hb
      have b10 := E19.out.bx 2 rfl
      have c10_2 := b10.cell 2 rfl
      clear b10
      go_wp2_with fail
      refine (ccon_g d c (bg) (w.heap.size) (gCt.any (E19.out.fc 6 rfl)) (by rw [HNx.out, HLx.out]; exact Fct.any (E19.out.fc 1 rfl)) ⟨⟨(E19.out.bx 1 rfl).lt, trivial⟩, (E19.out.bx 1 rfl).cell 0 rfl⟩ ⟨⟨(E19.out.bx 2 rfl).lt, trivial⟩, (E19.out.bx 2 rfl).cell 0 rfl⟩ ⟨⟨(E19.out.bx 2 rfl).lt, trivial⟩, (E19.out.bx 2 rfl).cell 1 rfl⟩ ⟨⟨(E19.out.bx 2 rfl).lt, trivial⟩, (E19.out.bx 2 rfl).cell 2 rfl⟩ hk.out).mono ?_
      rintro e w18 ⟨rfl, hb⟩
      have E20 := Lib.hid (E19.out.below hb)
      clear c10_2 E19 hb
      have hfin := Lib.hid E20.out.bel
      go_wp2
      go_ret
      exact ⟨rfl, hfin.out⟩
theorem right_g : ∀ d, RightH d
  | 0, c, _, _, _, _, _, _, _, _, h => by cases h
  | d + 1, c, _, _, _, _, _, _, w, hx, hk => right_s d c hx (right_g d) hk
set_option maxRecDepth 100000 in
set_option maxHeartbeats 1000000 in
theorem Verify_g {D : Nat → Prop} (d : Nat) (c : Ct) {xna xra xza : Option Addr} {xnk xrk xzk : Nat} {w : World} (hx : Fct.at w D (.gn (gCt d c (.slice xna 1 xnk) (.slice xra 1 xrk) (.slice xza c.parts.length xzk)))) (s : Nat) (hs0 : Ct.sz d c = s) (h1 : s ≤ 1000) (h0 : 0 < s) (hk0 : CtOk d c) :
    Calls Tryz.prog 65 #[.agg #[.slice xna 1 xnk, .slice xra 1 xrk, .slice xza c.parts.length xzk]] w fun e w' => e = .returned (.bool true) ∧ Below w.heap.size w w' := by
  have E0 := Lib.hid ((Env.start D w).arg (.gn (gCt d c (.slice xna 1 xnk) (.slice xra 1 xrk) (.slice xza c.parts.length xzk))) hx)
  clear hx
  go_enter Tryz.func65, Tryz.ntmps65
  have hs := Lib.hid hs0
  have hk := Lib.hid hk0
  clear hs0 hk0
  have t1 : decide ((0 : Int) < (s : Int)) = true := decide_eq_true (by omega)
  have t2 : decide (0 < s) = true := decide_eq_true h0
  go_wp2_with fail
  have E1 := Lib.hid ((E0.out.push 57 [.slice xna 1 xnk, .slice xra 1 xrk, .slice xza c.parts.length xzk] (w.heap.size) (by simp)))
  refine (Size_g d c (E1.out.fc 0 rfl) s hs.out h1 hk.out).mono ?_
  rintro e w1 ⟨rfl, hb⟩
  have E2 := Lib.hid (E1.out.below hb)
  clear E0 E1 hb
  have b1 := E2.out.bx 0 rfl
  have c1_0 := b1.cell 0 rfl
  have c1_1 := b1.cell 1 rfl
  have c1_2 := b1.cell 2 rfl
  clear b1
  go_wp2_with fail
  refine (right_g d c (gCt.any (E2.out.fc 0 rfl)) hk.out).mono ?_
  rintro e w2 ⟨rfl, hb⟩
  have E3 := Lib.hid (E2.out.below hb)
  clear c1_0 c1_1 c1_2 E2 hb
  have hfin := Lib.hid E3.out.bel
  go_wp2
  go_ret
  exact ⟨rfl, hfin.out⟩
end Go.Proofs.YtikopkkebdobdaaGreatDoor

/- NaturalShifts: the walk of the statement. -/
import Derived.Test.YtgogfjehbaiklaaNatS4
import Derived.Deep.DeepCutAuto
namespace Go.Proofs.Ytgogfjehbaiklaa
open Go.RowKit NatMath
set_option linter.unusedVariables false
set_option linter.unusedSimpArgs false


set_option maxRecDepth 100000 in
set_option maxHeartbeats 4000000 in
theorem NaturalShifts_lo (ao : Option Addr) (ca N n i k : Nat) (w : World) (ha : Nt w (.slice ao (len N) ca) N) (hl : len N ≤ 64) (hk : n % 2100 = k) (hn : n ≤ 65535) (hi : i ≤ 65535) (hs : k < 2048) :
    Calls Try.prog 6 #[.agg #[.slice ao (len N) ca], .int .u16 (n : Int), .int .u16 (i : Int)] w fun e w' => e = .returned (.bool true) ∧ Below w.heap.size w w' := by
  have HL := Lib.hid hl
  have hn1 : (len N : Int) ≤ 64 := by omega
  have hkb : k < 2100 := by omega
  have hki : (k : Int) ≤ 10000 := by omega
  have e1 : (n : Int) % 2100 = (k : Int) := by omega
  have e2 : (n : Int).tmod 2100 = (k : Int) := by rw [Int.tmod_eq_emod_of_nonneg (by omega)]; exact e1
  have t1 : decide ((k : Int) < 2048) = true := decide_eq_true (by omega)
  have E0 := Lib.hid ((EnvN.start w).numN ha)
  obtain ⟨L, lc, hL⟩ := BV.some (N * 2 ^ k)
  obtain ⟨R, hR⟩ : ∃ R, Hid (N / 2 ^ k = R) := ⟨_, Lib.hid rfl⟩
  have HRl : Hid (len R ≤ 64) := Lib.hid (by rw [← hR.out]; exact Nat.le_trans (len_mono (Nat.div_le_self _ _)) hl)
  obtain ⟨b1, hb1⟩ : ∃ b, Hid (bl N = b) := ⟨_, Lib.hid rfl⟩
  have hb1l : b1 ≤ 2048 := by rw [← hb1.out]; exact len_bl.1 hl
  obtain ⟨b3, hb3⟩ : ∃ b, Hid (bl R = b) := ⟨_, Lib.hid rfl⟩
  have hb3e : b3 = b1 - k := by rw [← hb3.out, ← hR.out, bl_div, hb1.out]
  obtain ⟨t, ht⟩ : ∃ t, Hid (bt R i = t) := ⟨_, Lib.hid rfl⟩
  have ht2 : Hid (bt N (i + k) = t) := Lib.hid (by rw [← ht.out, ← hR.out, bt_shift])
  have htt : (t != t) = false := by cases t <;> rfl
  have f1 : IntKind.i64.wrap ((b1 : Int) - (k : Int)) = (b1 : Int) - (k : Int) := IntWalk.i64_in _ (by omega)
  have f2 : max (0 : Int) ((b1 : Int) - (k : Int)) = (b3 : Int) := by omega
  have f3 : IntKind.i64.wrap ((i : Int) + (k : Int)) = ((i + k : Nat) : Int) := by rw [IntWalk.i64_in _ (by omega)]; omega
  have f4 : IntKind.i64.wrap (i : Int) = (i : Int) := IntWalk.i64_in _ (by omega)
  have hik : ((i + k : Nat) : Int) ≤ 1000000 := by omega
  have f5 : IntKind.i64.wrap ((b1 : Int) + (k : Int)) = ((b1 + k : Nat) : Int) := by rw [IntWalk.i64_in _ (by omega)]; omega
  have hbk : b1 + k < 100000 := by omega
  have hz : N = 0 ↔ len N = 0 := len_eq_zero.symm
  have HZ := Lib.hid hz
  have o1 : Hid (len 1 ≤ 64) := Lib.hid (by rw [one_len]; omega)
  obtain ⟨pw, hpw⟩ : ∃ p, Hid (2 ^ k = p) := ⟨_, Lib.hid rfl⟩
  have HPl : Hid (len pw ≤ 64) := Lib.hid (by rw [← hpw.out]; exact (len_pow k).2 hs)
  have HP : Hid (BV (1 * 2 ^ k) pw 0) := Lib.hid (Or.inl ⟨by rw [Nat.one_mul]; exact (len_pow k).2 hs, by rw [Nat.one_mul, hpw.out], rfl⟩)
  have HP0 : Hid (pw ≠ 0) := Lib.hid (by rw [← hpw.out]; exact Nat.ne_of_gt (Nat.two_pow_pos k))
  obtain ⟨rm, hrm⟩ : ∃ r, Hid (N % pw = r) := ⟨_, Lib.hid rfl⟩
  have HD : Hid (N / pw = R) := Lib.hid (by rw [← hpw.out]; exact hR.out)
  clear ha hl hb3e hz
  generalize hikk : i + k = ik at *
  generalize hbkk : b1 + k = bk at *
  have hbk2 := Lib.hid hbkk
  clear hikk hbkk
  go_enter Try.func6, Try.ntmps6
  go_wp2_with fail
  have EB := Lib.hid ((E0.out.push (.slice ao (len N) ca) 24))
  refine (awake_c _).mono ?_
  rintro e w1 ⟨rfl, hb⟩
  have E1 := Lib.hid ((EB.out.below hb))
  clear hb EB E0
  obtain ⟨⟨_, ⟨p0, q0⟩, _⟩, _⟩ := E1.out
  go_wp2_with fail
  refine (great_one_c ao (len N) ca w1 (by omega) _ rfl).mono ?_
  rintro e w2 ⟨⟨hg, rfl⟩ | ⟨_, rfl⟩, hb⟩
  · exact absurd hg (by omega)
  have E2 := Lib.hid ((E1.out.below hb))
  clear p0 q0 hb E1
  obtain ⟨⟨_, ⟨p0, q0⟩, _⟩, _⟩ := E2.out
  go_wp2_with fail
  refine (validB (E2.out.nt 0 rfl) HL.out).mono ?_
  rintro e w3 ⟨rfl, hb⟩
  have E3 := Lib.hid ((E2.out.below hb))
  clear p0 q0 hb E2
  obtain ⟨⟨_, ⟨p0, q0⟩, _⟩, _⟩ := E3.out
  go_wp2_with fail
  refine (ofRes 1 _ (by omega)).mono ?_
  rintro e w4 ⟨⟨oa, ok, rfl, ho⟩, hb⟩
  have E4 := Lib.hid (((E3.out.below hb).numN (ho.out : Nt _ _ 1)))
  clear p0 q0 hb ho E3
  obtain ⟨⟨_, ⟨p0, q0⟩, _⟩, _⟩ := E4.out
  go_wp2_with fail
  have EB := Lib.hid ((E4.out.push (.slice oa (len 1) ok) 24))
  refine (shlB HP (EB.out.nt 0 rfl) o1.out hki).mono ?_
  rintro e w5 ⟨⟨pa, pk, rfl, hp⟩, hb⟩
  have E5 := Lib.hid (((EB.out.below hb).numN (hp.out : Nt _ _ pw)))
  clear p0 q0 hb EB hp E4
  obtain ⟨⟨_, ⟨p0, q0⟩, ⟨p1, q1⟩, _⟩, _⟩ := E5.out
  go_wp2_with fail
  have EB := Lib.hid ((E5.out.push (.slice pa (len pw) pk) 24))
  refine (shlB hL (EB.out.nt 2 rfl) HL.out hki).mono ?_
  rintro e w6 ⟨⟨la, lk, rfl, hl⟩, hb⟩
  have E6 := Lib.hid (((EB.out.below hb).numN (hl.out : Nt _ _ L)))
  clear p0 q0 p1 q1 hb EB hl E5
  obtain ⟨⟨_, ⟨p0, q0⟩, ⟨p1, q1⟩, ⟨p2, q2⟩, _⟩, _⟩ := E6.out
  go_upto_if 60 with (fail)
  have EB := Lib.hid ((E6.out.push (.slice la (len L) lk) 24))
  clear p0 q0 p1 q1 p2 q2
  obtain ⟨⟨_, ⟨p0, q0⟩, ⟨p1, q1⟩, ⟨p2, q2⟩, ⟨p3, q3⟩, _⟩, _⟩ := EB.out
  go_cut [] (fun wx => Hid (EnvN w [(⟨w6.heap.size, 0, none⟩, .slice la (len L) lk), (⟨w5.heap.size, 0, none⟩, .slice pa (len pw) pk), (⟨w4.heap.size, 0, none⟩, .slice oa (len 1) ok), (⟨w.heap.size, 0, none⟩, .slice ao (len N) ca)] [(.slice la (len L) lk, digs L), (.slice pa (len pw) pk, digs pw), (.slice oa (len 1) ok, digs 1), (.slice ao (len N) ca, digs N)] wx))
  case first => as_aux_lemma =>
    rcases hL.out with ⟨l1, rfl, rfl⟩ | ⟨l1, rfl, rfl⟩
    · have L1 := Lib.hid l1
      clear l1
      have hB : Hid (N * 2 ^ k / 2 ^ k = N) := Lib.hid (Nat.mul_div_cancel _ (Nat.two_pow_pos k))
      go_wp2_with fail
      refine (shrB hB (EB.out.nt 0 rfl) L1.out hki).mono ?_
      rintro e w7 ⟨⟨qa, qk, rfl, hq⟩, hb⟩
      have E7 := Lib.hid (((EB.out.below hb).numN (hq.out : Nt _ _ N)))
      clear p0 q0 p1 q1 p2 q2 p3 q3 hb hq EB
      obtain ⟨⟨_, ⟨p0, q0⟩, ⟨p1, q1⟩, ⟨p2, q2⟩, ⟨p3, q3⟩, _⟩, _⟩ := E7.out
      by_cases h0 : N = 0
      · have z0 : decide (0 < (len N : Int)) = false := decide_eq_false (by have := HZ.out.1 h0; omega)
        have z1 : decide (0 < len N) = false := decide_eq_false (by have := HZ.out.1 h0; omega)
        clear h0
        go_wp2_with fail
        have E8 := Lib.hid ((E7.out.push (.slice qa (len N) qk) 24))
        clear p0 q0 p1 q1 p2 q2 p3 q3 E7
        generalize w7.alloc (.cells #[.slice qa (len N) qk] 24) = w8 at *
        obtain ⟨⟨_, ⟨p0, q0⟩, ⟨p1, q1⟩, ⟨p2, q2⟩, ⟨p3, q3⟩, ⟨p4, q4⟩, _⟩, _⟩ := E8.out
        have BB : Hid (Below w8.heap.size w8 w8.drew) := Lib.hid (below_drewN (Below.refl _ _) 1)
        obtain ⟨⟨_, ⟨z0, _⟩, ⟨z1, _⟩, ⟨z2, _⟩, ⟨z3, _⟩, ⟨z4, _⟩, _⟩, _⟩ := E8.out.below BB.out
        refine wp_region_held_drew (S := fun w' => w'.cell? ⟨w7.heap.size, 0, none⟩ = some (.slice qa (len N) qk) ∧ w'.cell? ⟨w6.heap.size, 0, none⟩ = some (.slice la (len (N * 2 ^ k)) lk) ∧ w'.cell? ⟨w5.heap.size, 0, none⟩ = some (.slice pa (len pw) pk) ∧ w'.cell? ⟨w4.heap.size, 0, none⟩ = some (.slice oa (len 1) ok) ∧ w'.cell? ⟨w.heap.size, 0, none⟩ = some (.slice ao (len N) ca) ∧ Hid (Below w8.heap.size w8 w')) (by kernel_rfl) (by exact ⟨z0, z1, z2, z3, z4, BB⟩) (fun hHeld => ?_)
        refine takeW (i := 0) (some 68) (v := ?_) rfl rfl (by kernel_rfl) (by kernel_rfl) (by kernel_rfl) (fun _ _ _ h => h) (by rfl) (by assumption) ?_ ?_
        rotate_left
        · (intro wS hSw; (try dsimp only at hSw); go_simp; try with_reducible rfl)
        try simp only [Act.put, List.setIfInBounds_toArray, List.set_cons_zero, List.set_cons_succ]
        refine takeW (i := 1) (some 69) (v := ?_) rfl rfl (by kernel_rfl) (by kernel_rfl) (by kernel_rfl) (fun _ _ _ h => h) (by rfl) (by assumption) ?_ ?_
        rotate_left
        · (intro wS hSw; (try dsimp only at hSw); go_simp; try with_reducible rfl)
        try simp only [Act.put, List.setIfInBounds_toArray, List.set_cons_zero, List.set_cons_succ]
        refine takeW (i := 2) (some 70) (v := ?_) rfl rfl (by kernel_rfl) (by kernel_rfl) (by kernel_rfl) (fun _ _ _ h => h) (by rfl) (by assumption) ?_ ?_
        rotate_left
        · (intro wS hSw; (try dsimp only at hSw); go_simp; try with_reducible rfl)
        try simp only [Act.put, List.setIfInBounds_toArray, List.set_cons_zero, List.set_cons_succ]
        refine takeW (i := 3) (some 71) (v := ?_) rfl rfl (by kernel_rfl) (by kernel_rfl) (by kernel_rfl) (fun _ _ _ h => h) (by rfl) (by assumption) ?_ ?_
        rotate_left
        · (intro wS hSw; (try dsimp only at hSw); go_simp; try with_reducible rfl)
        try simp only [Act.put, List.setIfInBounds_toArray, List.set_cons_zero, List.set_cons_succ]
        refine takeW (i := 4) (some 72) (v := ?_) rfl rfl (by kernel_rfl) (by kernel_rfl) (by kernel_rfl) (fun _ _ _ h => h) (by rfl) (by assumption) ?_ ?_
        rotate_left
        · (intro wS hSw; (try dsimp only at hSw); go_simp; try with_reducible rfl)
        try simp only [Act.put, List.setIfInBounds_toArray, List.set_cons_zero, List.set_cons_succ]
        refine wpAnyH_ready (rs := [5]) (by kernel_rfl) (by simp) ?_
        refine AllReadyH.cons rfl (fun KK hKK => ?_) AllReadyH.nil
        go_simp
        refine (sameB ((E8.out.below BB.out).nt 0 rfl) ((E8.out.below BB.out).nt 4 rfl)).mono ?_
        rintro e w9r0 ⟨rfl, hbr⟩
        replace BB := Lib.hid (below_step2 BB.out hbr)
        clear z0 z1 z2 z3 z4
        obtain ⟨⟨_, ⟨z0, _⟩, ⟨z1, _⟩, ⟨z2, _⟩, ⟨z3, _⟩, ⟨z4, _⟩, _⟩, _⟩ := E8.out.below BB.out
        (try dsimp only)
        clear hHeld hbr
        refine hKK.out _ _ ?_ (fun hHeld => ?_)
        · exact ⟨z0, z1, z2, z3, z4, BB⟩
        clear hKK KK
        try simp only [Act.put, List.setIfInBounds_toArray, List.set_cons_zero, List.set_cons_succ]
        refine takeW (i := 6) (some 74) (v := ?_) rfl rfl (by kernel_rfl) (by kernel_rfl) (by kernel_rfl) (fun _ _ _ h => h) (by rfl) (by assumption) ?_ ?_
        rotate_left
        · (intro wS hSw; (try dsimp only at hSw); go_simp; try with_reducible rfl)
        try simp only [Act.put, List.setIfInBounds_toArray, List.set_cons_zero, List.set_cons_succ]
        refine takeW (i := 7) (some 75) (v := ?_) rfl rfl (by kernel_rfl) (by kernel_rfl) (by kernel_rfl) (fun _ _ _ h => h) (by rfl) (by assumption) ?_ ?_
        rotate_left
        · (intro wS hSw; (try dsimp only at hSw); go_simp; try with_reducible rfl)
        try simp only [Act.put, List.setIfInBounds_toArray, List.set_cons_zero, List.set_cons_succ]
        refine takeW (i := 8) (some 76) (v := ?_) rfl rfl (by kernel_rfl) (by kernel_rfl) (by kernel_rfl) (fun _ _ _ h => h) (by rfl) (by assumption) ?_ ?_
        rotate_left
        · (intro wS hSw; (try dsimp only at hSw); go_simp; try with_reducible rfl)
        try simp only [Act.put, List.setIfInBounds_toArray, List.set_cons_zero, List.set_cons_succ]
        refine takeW (i := 9) (some 77) (v := ?_) rfl rfl (by kernel_rfl) (by kernel_rfl) (by kernel_rfl) (fun _ _ _ h => h) (by rfl) (by assumption) ?_ ?_
        rotate_left
        · (intro wS hSw; (try dsimp only at hSw); go_simp; try with_reducible rfl)
        try simp only [Act.put, List.setIfInBounds_toArray, List.set_cons_zero, List.set_cons_succ]
        refine takeW (i := 10) (some 78) (v := ?_) rfl rfl (by kernel_rfl) (by kernel_rfl) (by kernel_rfl) (fun _ _ _ h => h) (by rfl) (by assumption) ?_ ?_
        rotate_left
        · (intro wS hSw; (try dsimp only at hSw); go_simp; try with_reducible rfl)
        try simp only [Act.put, List.setIfInBounds_toArray, List.set_cons_zero, List.set_cons_succ]
        refine takeW (i := 11) (some 79) (v := ?_) rfl rfl (by kernel_rfl) (by kernel_rfl) (by kernel_rfl) (fun _ _ _ h => h) (by rfl) (by assumption) ?_ ?_
        rotate_left
        · (intro wS hSw; (try dsimp only at hSw); go_simp; try with_reducible rfl)
        try simp only [Act.put, List.setIfInBounds_toArray, List.set_cons_zero, List.set_cons_succ]
        refine takeW (i := 12) (some 80) (v := ?_) rfl rfl (by kernel_rfl) (by kernel_rfl) (by kernel_rfl) (fun _ _ _ h => h) (by rfl) (by assumption) ?_ ?_
        rotate_left
        · (intro wS hSw; (try dsimp only at hSw); go_simp; try with_reducible rfl)
        try simp only [Act.put, List.setIfInBounds_toArray, List.set_cons_zero, List.set_cons_succ]
        refine takeW (i := 13) (some 81) (v := ?_) rfl rfl (by kernel_rfl) (by kernel_rfl) (by kernel_rfl) (fun _ _ _ h => h) (by rfl) (by assumption) ?_ ?_
        rotate_left
        · (intro wS hSw; (try dsimp only at hSw); go_simp; try with_reducible rfl)
        try simp only [Act.put, List.setIfInBounds_toArray, List.set_cons_zero, List.set_cons_succ]
        refine takeU (i := 14) (some 82) rfl rfl (by kernel_rfl) (by kernel_rfl) (by kernel_rfl) (fun _ _ _ h => h) (by rfl) (by assumption) ?_
        try simp only [Act.put, List.setIfInBounds_toArray, List.set_cons_zero, List.set_cons_succ]
        refine takeU (i := 15) (some 83) rfl rfl (by kernel_rfl) (by kernel_rfl) (by kernel_rfl) (fun _ _ _ h => h) (by rfl) (by assumption) ?_
        try simp only [Act.put, List.setIfInBounds_toArray, List.set_cons_zero, List.set_cons_succ]
        refine takeU (i := 16) (some 84) rfl rfl (by kernel_rfl) (by kernel_rfl) (by kernel_rfl) (fun _ _ _ h => h) (by rfl) (by assumption) ?_
        try simp only [Act.put, List.setIfInBounds_toArray, List.set_cons_zero, List.set_cons_succ]
        refine takeU (i := 17) (some 85) rfl rfl (by kernel_rfl) (by kernel_rfl) (by kernel_rfl) (fun _ _ _ h => h) (by rfl) (by assumption) ?_
        try simp only [Act.put, List.setIfInBounds_toArray, List.set_cons_zero, List.set_cons_succ]
        refine takeU (i := 18) (some 86) rfl rfl (by kernel_rfl) (by kernel_rfl) (by kernel_rfl) (fun _ _ _ h => h) (by rfl) (by assumption) ?_
        try simp only [Act.put, List.setIfInBounds_toArray, List.set_cons_zero, List.set_cons_succ]
        refine takeU (i := 19) (some 87) rfl rfl (by kernel_rfl) (by kernel_rfl) (by kernel_rfl) (fun _ _ _ h => h) (by rfl) (by assumption) ?_
        try simp only [Act.put, List.setIfInBounds_toArray, List.set_cons_zero, List.set_cons_succ]
        refine takeU (i := 20) (some 88) rfl rfl (by kernel_rfl) (by kernel_rfl) (by kernel_rfl) (fun _ _ _ h => h) (by rfl) (by assumption) ?_
        try simp only [Act.put, List.setIfInBounds_toArray, List.set_cons_zero, List.set_cons_succ]
        refine takeW (i := 21) (some 89) (v := ?_) rfl rfl (by kernel_rfl) (by kernel_rfl) (by kernel_rfl) (fun _ _ _ h => h) (by rfl) (by assumption) ?_ ?_
        rotate_left
        · (intro wS hSw; (try dsimp only at hSw); go_simp; try with_reducible rfl)
        try simp only [Act.put, List.setIfInBounds_toArray, List.set_cons_zero, List.set_cons_succ]
        refine takeW (i := 22) (some 90) (v := ?_) rfl rfl (by kernel_rfl) (by kernel_rfl) (by kernel_rfl) (fun _ _ _ h => h) (by rfl) (by assumption) ?_ ?_
        rotate_left
        · (intro wS hSw; (try dsimp only at hSw); go_simp; try with_reducible rfl)
        try simp only [Act.put, List.setIfInBounds_toArray, List.set_cons_zero, List.set_cons_succ]
        refine wpAnyH_done (by kernel_rfl) ?_ _
        clear hHeld
        have E9 := Lib.hid ((E8.out.below BB.out))
        clear p0 q0 p1 q1 p2 q2 p3 q3 p4 q4 BB z0 z1 z2 z3 z4 E8
        obtain ⟨⟨_, ⟨p0, q0⟩, ⟨p1, q1⟩, ⟨p2, q2⟩, ⟨p3, q3⟩, ⟨p4, q4⟩, _⟩, _⟩ := E9.out
        go_wp2_with fail
        go_meet
        exact Lib.hid (E9.out.pop.popn)
      · have z0 : decide (0 < (len N : Int)) = true := decide_eq_true (by have := not_congr HZ.out; omega)
        have z1 : decide (0 < len N) = true := decide_eq_true (by have := not_congr HZ.out; omega)
        have hb2 : Hid (bl (N * 2 ^ k) = bk) := Lib.hid (by rw [bl_shift h0, hb1.out, hbk2.out])
        clear h0
        go_wp2_with fail
        have E8 := Lib.hid ((E7.out.push (.slice qa (len N) qk) 24))
        clear p0 q0 p1 q1 p2 q2 p3 q3 E7
        generalize w7.alloc (.cells #[.slice qa (len N) qk] 24) = w8 at *
        obtain ⟨⟨_, ⟨p0, q0⟩, ⟨p1, q1⟩, ⟨p2, q2⟩, ⟨p3, q3⟩, ⟨p4, q4⟩, _⟩, _⟩ := E8.out
        have BB : Hid (Below w8.heap.size w8 w8.drew) := Lib.hid (below_drewN (Below.refl _ _) 1)
        obtain ⟨⟨_, ⟨z0, _⟩, ⟨z1, _⟩, ⟨z2, _⟩, ⟨z3, _⟩, ⟨z4, _⟩, _⟩, _⟩ := E8.out.below BB.out
        refine wp_region_held_drew (S := fun w' => w'.cell? ⟨w7.heap.size, 0, none⟩ = some (.slice qa (len N) qk) ∧ w'.cell? ⟨w6.heap.size, 0, none⟩ = some (.slice la (len (N * 2 ^ k)) lk) ∧ w'.cell? ⟨w5.heap.size, 0, none⟩ = some (.slice pa (len pw) pk) ∧ w'.cell? ⟨w4.heap.size, 0, none⟩ = some (.slice oa (len 1) ok) ∧ w'.cell? ⟨w.heap.size, 0, none⟩ = some (.slice ao (len N) ca) ∧ Hid (Below w8.heap.size w8 w')) (by kernel_rfl) (by exact ⟨z0, z1, z2, z3, z4, BB⟩) (fun hHeld => ?_)
        refine takeW (i := 0) (some 68) (v := ?_) rfl rfl (by kernel_rfl) (by kernel_rfl) (by kernel_rfl) (fun _ _ _ h => h) (by rfl) (by assumption) ?_ ?_
        rotate_left
        · (intro wS hSw; (try dsimp only at hSw); go_simp; try with_reducible rfl)
        try simp only [Act.put, List.setIfInBounds_toArray, List.set_cons_zero, List.set_cons_succ]
        refine takeW (i := 1) (some 69) (v := ?_) rfl rfl (by kernel_rfl) (by kernel_rfl) (by kernel_rfl) (fun _ _ _ h => h) (by rfl) (by assumption) ?_ ?_
        rotate_left
        · (intro wS hSw; (try dsimp only at hSw); go_simp; try with_reducible rfl)
        try simp only [Act.put, List.setIfInBounds_toArray, List.set_cons_zero, List.set_cons_succ]
        refine takeW (i := 2) (some 70) (v := ?_) rfl rfl (by kernel_rfl) (by kernel_rfl) (by kernel_rfl) (fun _ _ _ h => h) (by rfl) (by assumption) ?_ ?_
        rotate_left
        · (intro wS hSw; (try dsimp only at hSw); go_simp; try with_reducible rfl)
        try simp only [Act.put, List.setIfInBounds_toArray, List.set_cons_zero, List.set_cons_succ]
        refine takeW (i := 3) (some 71) (v := ?_) rfl rfl (by kernel_rfl) (by kernel_rfl) (by kernel_rfl) (fun _ _ _ h => h) (by rfl) (by assumption) ?_ ?_
        rotate_left
        · (intro wS hSw; (try dsimp only at hSw); go_simp; try with_reducible rfl)
        try simp only [Act.put, List.setIfInBounds_toArray, List.set_cons_zero, List.set_cons_succ]
        refine takeW (i := 4) (some 72) (v := ?_) rfl rfl (by kernel_rfl) (by kernel_rfl) (by kernel_rfl) (fun _ _ _ h => h) (by rfl) (by assumption) ?_ ?_
        rotate_left
        · (intro wS hSw; (try dsimp only at hSw); go_simp; try with_reducible rfl)
        try simp only [Act.put, List.setIfInBounds_toArray, List.set_cons_zero, List.set_cons_succ]
        refine wpAnyH_ready (rs := [5]) (by kernel_rfl) (by simp) ?_
        refine AllReadyH.cons rfl (fun KK hKK => ?_) AllReadyH.nil
        go_simp
        refine (sameB ((E8.out.below BB.out).nt 0 rfl) ((E8.out.below BB.out).nt 4 rfl)).mono ?_
        rintro e w9r0 ⟨rfl, hbr⟩
        replace BB := Lib.hid (below_step2 BB.out hbr)
        clear z0 z1 z2 z3 z4
        obtain ⟨⟨_, ⟨z0, _⟩, ⟨z1, _⟩, ⟨z2, _⟩, ⟨z3, _⟩, ⟨z4, _⟩, _⟩, _⟩ := E8.out.below BB.out
        (try dsimp only)
        clear hHeld hbr
        refine hKK.out _ _ ?_ (fun hHeld => ?_)
        · exact ⟨z0, z1, z2, z3, z4, BB⟩
        clear hKK KK
        try simp only [Act.put, List.setIfInBounds_toArray, List.set_cons_zero, List.set_cons_succ]
        refine takeW (i := 6) (some 74) (v := ?_) rfl rfl (by kernel_rfl) (by kernel_rfl) (by kernel_rfl) (fun _ _ _ h => h) (by rfl) (by assumption) ?_ ?_
        rotate_left
        · (intro wS hSw; (try dsimp only at hSw); go_simp; try with_reducible rfl)
        try simp only [Act.put, List.setIfInBounds_toArray, List.set_cons_zero, List.set_cons_succ]
        refine takeW (i := 7) (some 75) (v := ?_) rfl rfl (by kernel_rfl) (by kernel_rfl) (by kernel_rfl) (fun _ _ _ h => h) (by rfl) (by assumption) ?_ ?_
        rotate_left
        · (intro wS hSw; (try dsimp only at hSw); go_simp; try with_reducible rfl)
        try simp only [Act.put, List.setIfInBounds_toArray, List.set_cons_zero, List.set_cons_succ]
        refine takeW (i := 8) (some 76) (v := ?_) rfl rfl (by kernel_rfl) (by kernel_rfl) (by kernel_rfl) (fun _ _ _ h => h) (by rfl) (by assumption) ?_ ?_
        rotate_left
        · (intro wS hSw; (try dsimp only at hSw); go_simp; try with_reducible rfl)
        try simp only [Act.put, List.setIfInBounds_toArray, List.set_cons_zero, List.set_cons_succ]
        refine takeW (i := 9) (some 77) (v := ?_) rfl rfl (by kernel_rfl) (by kernel_rfl) (by kernel_rfl) (fun _ _ _ h => h) (by rfl) (by assumption) ?_ ?_
        rotate_left
        · (intro wS hSw; (try dsimp only at hSw); go_simp; try with_reducible rfl)
        try simp only [Act.put, List.setIfInBounds_toArray, List.set_cons_zero, List.set_cons_succ]
        refine takeW (i := 10) (some 78) (v := ?_) rfl rfl (by kernel_rfl) (by kernel_rfl) (by kernel_rfl) (fun _ _ _ h => h) (by rfl) (by assumption) ?_ ?_
        rotate_left
        · (intro wS hSw; (try dsimp only at hSw); go_simp; try with_reducible rfl)
        try simp only [Act.put, List.setIfInBounds_toArray, List.set_cons_zero, List.set_cons_succ]
        refine takeW (i := 11) (some 79) (v := ?_) rfl rfl (by kernel_rfl) (by kernel_rfl) (by kernel_rfl) (fun _ _ _ h => h) (by rfl) (by assumption) ?_ ?_
        rotate_left
        · (intro wS hSw; (try dsimp only at hSw); go_simp; try with_reducible rfl)
        try simp only [Act.put, List.setIfInBounds_toArray, List.set_cons_zero, List.set_cons_succ]
        refine takeW (i := 12) (some 80) (v := ?_) rfl rfl (by kernel_rfl) (by kernel_rfl) (by kernel_rfl) (fun _ _ _ h => h) (by rfl) (by assumption) ?_ ?_
        rotate_left
        · (intro wS hSw; (try dsimp only at hSw); go_simp; try with_reducible rfl)
        try simp only [Act.put, List.setIfInBounds_toArray, List.set_cons_zero, List.set_cons_succ]
        refine takeW (i := 13) (some 81) (v := ?_) rfl rfl (by kernel_rfl) (by kernel_rfl) (by kernel_rfl) (fun _ _ _ h => h) (by rfl) (by assumption) ?_ ?_
        rotate_left
        · (intro wS hSw; (try dsimp only at hSw); go_simp; try with_reducible rfl)
        try simp only [Act.put, List.setIfInBounds_toArray, List.set_cons_zero, List.set_cons_succ]
        refine takeW (i := 14) (some 82) (v := ?_) rfl rfl (by kernel_rfl) (by kernel_rfl) (by kernel_rfl) (fun _ _ _ h => h) (by rfl) (by assumption) ?_ ?_
        rotate_left
        · (intro wS hSw; (try dsimp only at hSw); go_simp; try with_reducible rfl)
        try simp only [Act.put, List.setIfInBounds_toArray, List.set_cons_zero, List.set_cons_succ]
        refine takeW (i := 16) (some 84) (v := ?_) rfl rfl (by kernel_rfl) (by kernel_rfl) (by kernel_rfl) (fun _ _ _ h => h) (by rfl) (by assumption) ?_ ?_
        rotate_left
        · (intro wS hSw; (try dsimp only at hSw); go_simp; try with_reducible rfl)
        try simp only [Act.put, List.setIfInBounds_toArray, List.set_cons_zero, List.set_cons_succ]
        refine takeW (i := 18) (some 86) (v := ?_) rfl rfl (by kernel_rfl) (by kernel_rfl) (by kernel_rfl) (fun _ _ _ h => h) (by rfl) (by assumption) ?_ ?_
        rotate_left
        · (intro wS hSw; (try dsimp only at hSw); go_simp; try with_reducible rfl)
        try simp only [Act.put, List.setIfInBounds_toArray, List.set_cons_zero, List.set_cons_succ]
        refine wpAnyH_ready (rs := [15]) (by kernel_rfl) (by simp) ?_
        refine AllReadyH.cons rfl (fun KK hKK => ?_) AllReadyH.nil
        go_simp
        refine (bitsB hb2 ((E8.out.below BB.out).nt 1 rfl) L1.out).mono ?_
        rintro e w9r1 ⟨rfl, hbr⟩
        replace BB := Lib.hid (below_step2 BB.out hbr)
        clear z0 z1 z2 z3 z4
        obtain ⟨⟨_, ⟨z0, _⟩, ⟨z1, _⟩, ⟨z2, _⟩, ⟨z3, _⟩, ⟨z4, _⟩, _⟩, _⟩ := E8.out.below BB.out
        (try dsimp only)
        clear hHeld hbr
        refine hKK.out _ _ ?_ (fun hHeld => ?_)
        · exact ⟨z0, z1, z2, z3, z4, BB⟩
        clear hKK KK
        try simp only [Act.put, List.setIfInBounds_toArray, List.set_cons_zero, List.set_cons_succ]
        refine wpAnyH_ready (rs := [17]) (by kernel_rfl) (by simp) ?_
        refine AllReadyH.cons rfl (fun KK hKK => ?_) AllReadyH.nil
        go_simp
        refine (bitsB hb1 ((E8.out.below BB.out).nt 4 rfl) HL.out).mono ?_
        rintro e w9r2 ⟨rfl, hbr⟩
        replace BB := Lib.hid (below_step2 BB.out hbr)
        clear z0 z1 z2 z3 z4
        obtain ⟨⟨_, ⟨z0, _⟩, ⟨z1, _⟩, ⟨z2, _⟩, ⟨z3, _⟩, ⟨z4, _⟩, _⟩, _⟩ := E8.out.below BB.out
        (try dsimp only)
        clear hHeld hbr
        refine hKK.out _ _ ?_ (fun hHeld => ?_)
        · exact ⟨z0, z1, z2, z3, z4, BB⟩
        clear hKK KK
        try simp only [Act.put, List.setIfInBounds_toArray, List.set_cons_zero, List.set_cons_succ]
        refine takeW (i := 19) (some 87) (v := ?_) rfl rfl (by kernel_rfl) (by kernel_rfl) (by kernel_rfl) (fun _ _ _ h => h) (by rfl) (by assumption) ?_ ?_
        rotate_left
        · (intro wS hSw; (try dsimp only at hSw); go_simp; try with_reducible rfl)
        try simp only [Act.put, List.setIfInBounds_toArray, List.set_cons_zero, List.set_cons_succ]
        refine takeW (i := 20) (some 88) (v := ?_) rfl rfl (by kernel_rfl) (by kernel_rfl) (by kernel_rfl) (fun _ _ _ h => h) (by rfl) (by assumption) ?_ ?_
        rotate_left
        · (intro wS hSw; (try dsimp only at hSw); go_simp; try with_reducible rfl)
        try simp only [Act.put, List.setIfInBounds_toArray, List.set_cons_zero, List.set_cons_succ]
        refine takeW (i := 21) (some 89) (v := ?_) rfl rfl (by kernel_rfl) (by kernel_rfl) (by kernel_rfl) (fun _ _ _ h => h) (by rfl) (by assumption) ?_ ?_
        rotate_left
        · (intro wS hSw; (try dsimp only at hSw); go_simp; try with_reducible rfl)
        try simp only [Act.put, List.setIfInBounds_toArray, List.set_cons_zero, List.set_cons_succ]
        refine takeW (i := 22) (some 90) (v := ?_) rfl rfl (by kernel_rfl) (by kernel_rfl) (by kernel_rfl) (fun _ _ _ h => h) (by rfl) (by assumption) ?_ ?_
        rotate_left
        · (intro wS hSw; (try dsimp only at hSw); go_simp; try with_reducible rfl)
        try simp only [Act.put, List.setIfInBounds_toArray, List.set_cons_zero, List.set_cons_succ]
        refine wpAnyH_done (by kernel_rfl) ?_ _
        clear hHeld
        have E9 := Lib.hid ((E8.out.below BB.out))
        clear p0 q0 p1 q1 p2 q2 p3 q3 p4 q4 BB z0 z1 z2 z3 z4 E8
        obtain ⟨⟨_, ⟨p0, q0⟩, ⟨p1, q1⟩, ⟨p2, q2⟩, ⟨p3, q3⟩, ⟨p4, q4⟩, _⟩, _⟩ := E9.out
        go_wp2_with fail
        go_meet
        exact Lib.hid (E9.out.pop.popn)
    · have hN0 : N ≠ 0 := fun e => l1 (by rw [e, Nat.zero_mul, len_zero]; omega)
      have hbig : decide (bk ≤ 2048) = false := decide_eq_false (fun hh => l1 (len_bl.2 (by rw [bl_shift hN0, hb1.out, hbk2.out]; omega)))
      have hbig2 : decide ((bk : Int) ≤ 2048) = false := decide_eq_false (by have := of_decide_eq_false hbig; omega)
      have ebk : (b1 : Int) + (k : Int) = (bk : Int) := by have := hbk2.out; omega
      clear l1 hN0
      go_wp2_with fail
      refine (bitsB hb1 (EB.out.nt 3 rfl) HL.out).mono ?_
      rintro e w7 ⟨rfl, hb⟩
      have E7 := Lib.hid ((EB.out.below hb))
      clear p0 q0 p1 q1 p2 q2 p3 q3 hb EB
      obtain ⟨⟨_, ⟨p0, q0⟩, ⟨p1, q1⟩, ⟨p2, q2⟩, ⟨p3, q3⟩, _⟩, _⟩ := E7.out
      go_wp2_with fail
      go_meet
      exact E7
  case rest => as_aux_lemma =>
    clear EB p0 q0 p1 q1 p2 q2 p3 q3
    have E200 := hcut
    clear hcut
    obtain ⟨⟨_, ⟨p0, q0⟩, ⟨p1, q1⟩, ⟨p2, q2⟩, ⟨p3, q3⟩, _⟩, _⟩ := E200.out
    go_wp2_with fail
    refine (shrB hR (E200.out.nt 3 rfl) HL.out hki).mono ?_
    rintro e w201 ⟨⟨ra, rk, rfl, hr⟩, hb⟩
    have E201 := Lib.hid (((E200.out.below hb).numN (hr.out : Nt _ _ R)))
    clear p0 q0 p1 q1 p2 q2 p3 q3 hb hr E200
    obtain ⟨⟨_, ⟨p0, q0⟩, ⟨p1, q1⟩, ⟨p2, q2⟩, ⟨p3, q3⟩, _⟩, _⟩ := E201.out
    go_wp2_with fail
    have E202 := Lib.hid ((E201.out.push (.slice ra (len R) rk) 24))
    clear p0 q0 p1 q1 p2 q2 p3 q3 E201
    generalize w201.alloc (.cells #[.slice ra (len R) rk] 24) = w202 at *
    obtain ⟨⟨_, ⟨p0, q0⟩, ⟨p1, q1⟩, ⟨p2, q2⟩, ⟨p3, q3⟩, ⟨p4, q4⟩, _⟩, _⟩ := E202.out
    have BB : Hid (Below w202.heap.size w202 w202.drew) := Lib.hid (below_drewN (Below.refl _ _) 1)
    obtain ⟨⟨_, ⟨z0, _⟩, ⟨z1, _⟩, ⟨z2, _⟩, ⟨z3, _⟩, ⟨z4, _⟩, _⟩, _⟩ := E202.out.below BB.out
    refine wp_region_held_drew (S := fun w' => w'.cell? ⟨w201.heap.size, 0, none⟩ = some (.slice ra (len R) rk) ∧ w'.cell? ⟨w6.heap.size, 0, none⟩ = some (.slice la (len L) lk) ∧ w'.cell? ⟨w5.heap.size, 0, none⟩ = some (.slice pa (len pw) pk) ∧ w'.cell? ⟨w4.heap.size, 0, none⟩ = some (.slice oa (len 1) ok) ∧ w'.cell? ⟨w.heap.size, 0, none⟩ = some (.slice ao (len N) ca) ∧ Hid (Below w202.heap.size w202 w')) (by kernel_rfl) (by exact ⟨z0, z1, z2, z3, z4, BB⟩) (fun hHeld => ?_)
    refine takeW (i := 0) (some 107) (v := ?_) rfl rfl (by kernel_rfl) (by kernel_rfl) (by kernel_rfl) (fun _ _ _ h => h) (by rfl) (by assumption) ?_ ?_
    rotate_left
    · (intro wS hSw; (try dsimp only at hSw); go_simp; try with_reducible rfl)
    try simp only [Act.put, List.setIfInBounds_toArray, List.set_cons_zero, List.set_cons_succ]
    refine takeW (i := 1) (some 108) (v := ?_) rfl rfl (by kernel_rfl) (by kernel_rfl) (by kernel_rfl) (fun _ _ _ h => h) (by rfl) (by assumption) ?_ ?_
    rotate_left
    · (intro wS hSw; (try dsimp only at hSw); go_simp; try with_reducible rfl)
    try simp only [Act.put, List.setIfInBounds_toArray, List.set_cons_zero, List.set_cons_succ]
    refine takeW (i := 2) (some 109) (v := ?_) rfl rfl (by kernel_rfl) (by kernel_rfl) (by kernel_rfl) (fun _ _ _ h => h) (by rfl) (by assumption) ?_ ?_
    rotate_left
    · (intro wS hSw; (try dsimp only at hSw); go_simp; try with_reducible rfl)
    try simp only [Act.put, List.setIfInBounds_toArray, List.set_cons_zero, List.set_cons_succ]
    refine takeW (i := 3) (some 110) (v := ?_) rfl rfl (by kernel_rfl) (by kernel_rfl) (by kernel_rfl) (fun _ _ _ h => h) (by rfl) (by assumption) ?_ ?_
    rotate_left
    · (intro wS hSw; (try dsimp only at hSw); go_simp; try with_reducible rfl)
    try simp only [Act.put, List.setIfInBounds_toArray, List.set_cons_zero, List.set_cons_succ]
    refine takeW (i := 5) (some 112) (v := ?_) rfl rfl (by kernel_rfl) (by kernel_rfl) (by kernel_rfl) (fun _ _ _ h => h) (by rfl) (by assumption) ?_ ?_
    rotate_left
    · (intro wS hSw; (try dsimp only at hSw); go_simp; try with_reducible rfl)
    try simp only [Act.put, List.setIfInBounds_toArray, List.set_cons_zero, List.set_cons_succ]
    refine takeW (i := 7) (some 114) (v := ?_) rfl rfl (by kernel_rfl) (by kernel_rfl) (by kernel_rfl) (fun _ _ _ h => h) (by rfl) (by assumption) ?_ ?_
    rotate_left
    · (intro wS hSw; (try dsimp only at hSw); go_simp; try with_reducible rfl)
    try simp only [Act.put, List.setIfInBounds_toArray, List.set_cons_zero, List.set_cons_succ]
    refine wpAnyH_ready (rs := [4]) (by kernel_rfl) (by simp) ?_
    refine AllReadyH.cons rfl (fun KK hKK => ?_) AllReadyH.nil
    go_simp
    refine (bitsB hb3 ((E202.out.below BB.out).nt 0 rfl) HRl.out).mono ?_
    rintro e w203r0 ⟨rfl, hbr⟩
    replace BB := Lib.hid (below_step2 BB.out hbr)
    clear z0 z1 z2 z3 z4
    obtain ⟨⟨_, ⟨z0, _⟩, ⟨z1, _⟩, ⟨z2, _⟩, ⟨z3, _⟩, ⟨z4, _⟩, _⟩, _⟩ := E202.out.below BB.out
    (try dsimp only)
    clear hHeld hbr
    refine hKK.out _ _ ?_ (fun hHeld => ?_)
    · exact ⟨z0, z1, z2, z3, z4, BB⟩
    clear hKK KK
    try simp only [Act.put, List.setIfInBounds_toArray, List.set_cons_zero, List.set_cons_succ]
    refine wpAnyH_ready (rs := [6]) (by kernel_rfl) (by simp) ?_
    refine AllReadyH.cons rfl (fun KK hKK => ?_) AllReadyH.nil
    go_simp
    refine (bitsB hb1 ((E202.out.below BB.out).nt 4 rfl) HL.out).mono ?_
    rintro e w203r1 ⟨rfl, hbr⟩
    replace BB := Lib.hid (below_step2 BB.out hbr)
    clear z0 z1 z2 z3 z4
    obtain ⟨⟨_, ⟨z0, _⟩, ⟨z1, _⟩, ⟨z2, _⟩, ⟨z3, _⟩, ⟨z4, _⟩, _⟩, _⟩ := E202.out.below BB.out
    (try dsimp only)
    clear hHeld hbr
    refine hKK.out _ _ ?_ (fun hHeld => ?_)
    · exact ⟨z0, z1, z2, z3, z4, BB⟩
    clear hKK KK
    try simp only [Act.put, List.setIfInBounds_toArray, List.set_cons_zero, List.set_cons_succ]
    refine takeW (i := 8) (some 115) (v := ?_) rfl rfl (by kernel_rfl) (by kernel_rfl) (by kernel_rfl) (fun _ _ _ h => h) (by rfl) (by assumption) ?_ ?_
    rotate_left
    · (intro wS hSw; (try dsimp only at hSw); go_simp; try with_reducible rfl)
    try simp only [Act.put, List.setIfInBounds_toArray, List.set_cons_zero, List.set_cons_succ]
    refine takeW (i := 9) (some 116) (v := ?_) rfl rfl (by kernel_rfl) (by kernel_rfl) (by kernel_rfl) (fun _ _ _ h => h) (by rfl) (by assumption) ?_ ?_
    rotate_left
    · (intro wS hSw; (try dsimp only at hSw); go_simp; try with_reducible rfl)
    try simp only [Act.put, List.setIfInBounds_toArray, List.set_cons_zero, List.set_cons_succ]
    refine takeW (i := 10) (some 117) (v := ?_) rfl rfl (by kernel_rfl) (by kernel_rfl) (by kernel_rfl) (fun _ _ _ h => h) (by rfl) (by assumption) ?_ ?_
    rotate_left
    · (intro wS hSw; (try dsimp only at hSw); go_simp; try with_reducible rfl)
    try simp only [Act.put, List.setIfInBounds_toArray, List.set_cons_zero, List.set_cons_succ]
    refine takeW (i := 11) (some 118) (v := ?_) rfl rfl (by kernel_rfl) (by kernel_rfl) (by kernel_rfl) (fun _ _ _ h => h) (by rfl) (by assumption) ?_ ?_
    rotate_left
    · (intro wS hSw; (try dsimp only at hSw); go_simp; try with_reducible rfl)
    try simp only [Act.put, List.setIfInBounds_toArray, List.set_cons_zero, List.set_cons_succ]
    refine takeW (i := 12) (some 119) (v := ?_) rfl rfl (by kernel_rfl) (by kernel_rfl) (by kernel_rfl) (fun _ _ _ h => h) (by rfl) (by assumption) ?_ ?_
    rotate_left
    · (intro wS hSw; (try dsimp only at hSw); go_simp; try with_reducible rfl)
    try simp only [Act.put, List.setIfInBounds_toArray, List.set_cons_zero, List.set_cons_succ]
    refine takeW (i := 13) (some 120) (v := ?_) rfl rfl (by kernel_rfl) (by kernel_rfl) (by kernel_rfl) (fun _ _ _ h => h) (by rfl) (by assumption) ?_ ?_
    rotate_left
    · (intro wS hSw; (try dsimp only at hSw); go_simp; try with_reducible rfl)
    try simp only [Act.put, List.setIfInBounds_toArray, List.set_cons_zero, List.set_cons_succ]
    refine takeW (i := 14) (some 121) (v := ?_) rfl rfl (by kernel_rfl) (by kernel_rfl) (by kernel_rfl) (fun _ _ _ h => h) (by rfl) (by assumption) ?_ ?_
    rotate_left
    · (intro wS hSw; (try dsimp only at hSw); go_simp; try with_reducible rfl)
    try simp only [Act.put, List.setIfInBounds_toArray, List.set_cons_zero, List.set_cons_succ]
    refine takeW (i := 15) (some 122) (v := ?_) rfl rfl (by kernel_rfl) (by kernel_rfl) (by kernel_rfl) (fun _ _ _ h => h) (by rfl) (by assumption) ?_ ?_
    rotate_left
    · (intro wS hSw; (try dsimp only at hSw); go_simp; try with_reducible rfl)
    try simp only [Act.put, List.setIfInBounds_toArray, List.set_cons_zero, List.set_cons_succ]
    refine takeW (i := 17) (some 124) (v := ?_) rfl rfl (by kernel_rfl) (by kernel_rfl) (by kernel_rfl) (fun _ _ _ h => h) (by rfl) (by assumption) ?_ ?_
    rotate_left
    · (intro wS hSw; (try dsimp only at hSw); go_simp; try with_reducible rfl)
    try simp only [Act.put, List.setIfInBounds_toArray, List.set_cons_zero, List.set_cons_succ]
    refine takeW (i := 18) (some 125) (v := ?_) rfl rfl (by kernel_rfl) (by kernel_rfl) (by kernel_rfl) (fun _ _ _ h => h) (by rfl) (by assumption) ?_ ?_
    rotate_left
    · (intro wS hSw; (try dsimp only at hSw); go_simp; try with_reducible rfl)
    try simp only [Act.put, List.setIfInBounds_toArray, List.set_cons_zero, List.set_cons_succ]
    refine takeW (i := 19) (some 126) (v := ?_) rfl rfl (by kernel_rfl) (by kernel_rfl) (by kernel_rfl) (fun _ _ _ h => h) (by rfl) (by assumption) ?_ ?_
    rotate_left
    · (intro wS hSw; (try dsimp only at hSw); go_simp; try with_reducible rfl)
    try simp only [Act.put, List.setIfInBounds_toArray, List.set_cons_zero, List.set_cons_succ]
    refine takeW (i := 20) (some 127) (v := ?_) rfl rfl (by kernel_rfl) (by kernel_rfl) (by kernel_rfl) (fun _ _ _ h => h) (by rfl) (by assumption) ?_ ?_
    rotate_left
    · (intro wS hSw; (try dsimp only at hSw); go_simp; try with_reducible rfl)
    try simp only [Act.put, List.setIfInBounds_toArray, List.set_cons_zero, List.set_cons_succ]
    refine takeW (i := 21) (some 128) (v := ?_) rfl rfl (by kernel_rfl) (by kernel_rfl) (by kernel_rfl) (fun _ _ _ h => h) (by rfl) (by assumption) ?_ ?_
    rotate_left
    · (intro wS hSw; (try dsimp only at hSw); go_simp; try with_reducible rfl)
    try simp only [Act.put, List.setIfInBounds_toArray, List.set_cons_zero, List.set_cons_succ]
    refine wpAnyH_ready (rs := [16]) (by kernel_rfl) (by simp) ?_
    refine AllReadyH.cons rfl (fun KK hKK => ?_) AllReadyH.nil
    go_simp
    refine (bitB ht ((E202.out.below BB.out).nt 0 rfl) HRl.out (by omega)).mono ?_
    rintro e w203r2 ⟨rfl, hbr⟩
    replace BB := Lib.hid (below_step2 BB.out hbr)
    clear z0 z1 z2 z3 z4
    obtain ⟨⟨_, ⟨z0, _⟩, ⟨z1, _⟩, ⟨z2, _⟩, ⟨z3, _⟩, ⟨z4, _⟩, _⟩, _⟩ := E202.out.below BB.out
    (try dsimp only)
    clear hHeld hbr
    refine hKK.out _ _ ?_ (fun hHeld => ?_)
    · exact ⟨z0, z1, z2, z3, z4, BB⟩
    clear hKK KK
    try simp only [Act.put, List.setIfInBounds_toArray, List.set_cons_zero, List.set_cons_succ]
    refine wpAnyH_ready (rs := [22]) (by kernel_rfl) (by simp) ?_
    refine AllReadyH.cons rfl (fun KK hKK => ?_) AllReadyH.nil
    go_simp
    refine (bitB ht2 ((E202.out.below BB.out).nt 4 rfl) HL.out hik).mono ?_
    rintro e w203r3 ⟨rfl, hbr⟩
    replace BB := Lib.hid (below_step2 BB.out hbr)
    clear z0 z1 z2 z3 z4
    obtain ⟨⟨_, ⟨z0, _⟩, ⟨z1, _⟩, ⟨z2, _⟩, ⟨z3, _⟩, ⟨z4, _⟩, _⟩, _⟩ := E202.out.below BB.out
    (try dsimp only)
    clear hHeld hbr
    refine hKK.out _ _ ?_ (fun hHeld => ?_)
    · exact ⟨z0, z1, z2, z3, z4, BB⟩
    clear hKK KK
    try simp only [Act.put, List.setIfInBounds_toArray, List.set_cons_zero, List.set_cons_succ]
    refine takeW (i := 23) (some 130) (v := ?_) rfl rfl (by kernel_rfl) (by kernel_rfl) (by kernel_rfl) (fun _ _ _ h => h) (by rfl) (by assumption) ?_ ?_
    rotate_left
    · (intro wS hSw; (try dsimp only at hSw); go_simp; try with_reducible rfl)
    try simp only [Act.put, List.setIfInBounds_toArray, List.set_cons_zero, List.set_cons_succ]
    refine takeW (i := 24) (some 131) (v := ?_) rfl rfl (by kernel_rfl) (by kernel_rfl) (by kernel_rfl) (fun _ _ _ h => h) (by rfl) (by assumption) ?_ ?_
    rotate_left
    · (intro wS hSw; (try dsimp only at hSw); go_simp; try with_reducible rfl)
    try simp only [Act.put, List.setIfInBounds_toArray, List.set_cons_zero, List.set_cons_succ]
    refine wpAnyH_done (by kernel_rfl) ?_ _
    clear hHeld
    have E203 := Lib.hid ((E202.out.below BB.out))
    clear p0 q0 p1 q1 p2 q2 p3 q3 p4 q4 BB z0 z1 z2 z3 z4 E202
    obtain ⟨⟨_, ⟨p0, q0⟩, ⟨p1, q1⟩, ⟨p2, q2⟩, ⟨p3, q3⟩, ⟨p4, q4⟩, _⟩, _⟩ := E203.out
    go_wp2_with fail
    refine (divB HD hrm (E203.out.nt 4 rfl) (E203.out.nt 2 rfl) HL.out HPl.out HP0.out).mono ?_
    rintro e w204 ⟨⟨qa, qk, ma, mk, rfl, hq, hr⟩, hb⟩
    have E204 := Lib.hid ((((E203.out.below hb).numN (hq.out : Nt _ _ R)).numN (hr.out : Nt _ _ rm)))
    clear p0 q0 p1 q1 p2 q2 p3 q3 p4 q4 hb hq hr E203
    obtain ⟨⟨_, ⟨p0, q0⟩, ⟨p1, q1⟩, ⟨p2, q2⟩, ⟨p3, q3⟩, ⟨p4, q4⟩, _⟩, _⟩ := E204.out
    go_wp2_with fail
    have EB := Lib.hid (((E204.out.push (.slice qa (len R) qk) 24).pushAt (.slice ma (len rm) mk) 24 (w204.heap.size + 1) (by simp)))
    refine (sameB (EB.out.nt 1 rfl) (EB.out.nt 2 rfl)).mono ?_
    rintro e w205 ⟨rfl, hb⟩
    have E205 := Lib.hid ((EB.out.below hb))
    clear p0 q0 p1 q1 p2 q2 p3 q3 p4 q4 hb EB E204
    obtain ⟨⟨_, ⟨p0, q0⟩, ⟨p1, q1⟩, ⟨p2, q2⟩, ⟨p3, q3⟩, ⟨p4, q4⟩, ⟨p5, q5⟩, ⟨p6, q6⟩, _⟩, _⟩ := E205.out
    have hfin := Lib.hid E205.out.1.1
    clear p0 q0 p1 q1 p2 q2 p3 q3 p4 q4 p5 q5 p6 q6
    go_wp2
    go_ret
    exact ⟨rfl, hfin.out⟩

set_option maxRecDepth 100000 in
set_option maxHeartbeats 4000000 in
theorem NaturalShifts_hi (ao : Option Addr) (ca N n i k : Nat) (w : World) (ha : Nt w (.slice ao (len N) ca) N) (hl : len N ≤ 64) (hk : n % 2100 = k) (hn : n ≤ 65535) (hi : i ≤ 65535) (hs : 2048 ≤ k) :
    Calls Try.prog 6 #[.agg #[.slice ao (len N) ca], .int .u16 (n : Int), .int .u16 (i : Int)] w fun e w' => e = .returned (.bool true) ∧ Below w.heap.size w w' := by
  have HL := Lib.hid hl
  have hn1 : (len N : Int) ≤ 64 := by omega
  have hkb : k < 2100 := by omega
  have hki : (k : Int) ≤ 10000 := by omega
  have e1 : (n : Int) % 2100 = (k : Int) := by omega
  have e2 : (n : Int).tmod 2100 = (k : Int) := by rw [Int.tmod_eq_emod_of_nonneg (by omega)]; exact e1
  have t1 : decide ((k : Int) < 2048) = false := decide_eq_false (by omega)
  have E0 := Lib.hid ((EnvN.start w).numN ha)
  obtain ⟨L, lc, hL⟩ := BV.some (N * 2 ^ k)
  obtain ⟨R, hR⟩ : ∃ R, Hid (N / 2 ^ k = R) := ⟨_, Lib.hid rfl⟩
  have HRl : Hid (len R ≤ 64) := Lib.hid (by rw [← hR.out]; exact Nat.le_trans (len_mono (Nat.div_le_self _ _)) hl)
  obtain ⟨b1, hb1⟩ : ∃ b, Hid (bl N = b) := ⟨_, Lib.hid rfl⟩
  have hb1l : b1 ≤ 2048 := by rw [← hb1.out]; exact len_bl.1 hl
  obtain ⟨b3, hb3⟩ : ∃ b, Hid (bl R = b) := ⟨_, Lib.hid rfl⟩
  have hb3e : b3 = b1 - k := by rw [← hb3.out, ← hR.out, bl_div, hb1.out]
  obtain ⟨t, ht⟩ : ∃ t, Hid (bt R i = t) := ⟨_, Lib.hid rfl⟩
  have ht2 : Hid (bt N (i + k) = t) := Lib.hid (by rw [← ht.out, ← hR.out, bt_shift])
  have htt : (t != t) = false := by cases t <;> rfl
  have f1 : IntKind.i64.wrap ((b1 : Int) - (k : Int)) = (b1 : Int) - (k : Int) := IntWalk.i64_in _ (by omega)
  have f2 : max (0 : Int) ((b1 : Int) - (k : Int)) = (b3 : Int) := by omega
  have f3 : IntKind.i64.wrap ((i : Int) + (k : Int)) = ((i + k : Nat) : Int) := by rw [IntWalk.i64_in _ (by omega)]; omega
  have f4 : IntKind.i64.wrap (i : Int) = (i : Int) := IntWalk.i64_in _ (by omega)
  have hik : ((i + k : Nat) : Int) ≤ 1000000 := by omega
  have f5 : IntKind.i64.wrap ((b1 : Int) + (k : Int)) = ((b1 + k : Nat) : Int) := by rw [IntWalk.i64_in _ (by omega)]; omega
  have hbk : b1 + k < 100000 := by omega
  have hz : N = 0 ↔ len N = 0 := len_eq_zero.symm
  have HZ := Lib.hid hz
  have o1 : Hid (len 1 ≤ 64) := Lib.hid (by rw [one_len]; omega)
  have HP : Hid (BV (1 * 2 ^ k) 0 9) := Lib.hid (Or.inr ⟨by rw [Nat.one_mul, len_pow]; omega, rfl, rfl⟩)
  have hR0 : Hid (len R = 0) := Lib.hid (by
    rw [← hR.out, Nat.div_eq_of_lt (bl_le_iff.1 (by rw [hb1.out]; omega)), len_zero])
  clear ha hl hb3e hz
  generalize hikk : i + k = ik at *
  generalize hbkk : b1 + k = bk at *
  have hbk2 := Lib.hid hbkk
  clear hikk hbkk
  go_enter Try.func6, Try.ntmps6
  go_wp2_with fail
  have EB := Lib.hid ((E0.out.push (.slice ao (len N) ca) 24))
  refine (awake_c _).mono ?_
  rintro e w1 ⟨rfl, hb⟩
  have E1 := Lib.hid ((EB.out.below hb))
  clear hb EB E0
  obtain ⟨⟨_, ⟨p0, q0⟩, _⟩, _⟩ := E1.out
  go_wp2_with fail
  refine (great_one_c ao (len N) ca w1 (by omega) _ rfl).mono ?_
  rintro e w2 ⟨⟨hg, rfl⟩ | ⟨_, rfl⟩, hb⟩
  · exact absurd hg (by omega)
  have E2 := Lib.hid ((E1.out.below hb))
  clear p0 q0 hb E1
  obtain ⟨⟨_, ⟨p0, q0⟩, _⟩, _⟩ := E2.out
  go_wp2_with fail
  refine (validB (E2.out.nt 0 rfl) HL.out).mono ?_
  rintro e w3 ⟨rfl, hb⟩
  have E3 := Lib.hid ((E2.out.below hb))
  clear p0 q0 hb E2
  obtain ⟨⟨_, ⟨p0, q0⟩, _⟩, _⟩ := E3.out
  go_wp2_with fail
  refine (ofRes 1 _ (by omega)).mono ?_
  rintro e w4 ⟨⟨oa, ok, rfl, ho⟩, hb⟩
  have E4 := Lib.hid (((E3.out.below hb).numN (ho.out : Nt _ _ 1)))
  clear p0 q0 hb ho E3
  obtain ⟨⟨_, ⟨p0, q0⟩, _⟩, _⟩ := E4.out
  go_wp2_with fail
  have EB := Lib.hid ((E4.out.push (.slice oa (len 1) ok) 24))
  refine (shlB HP (EB.out.nt 0 rfl) o1.out hki).mono ?_
  rintro e w5 ⟨⟨pa, pk, rfl, hp⟩, hb⟩
  have E5 := Lib.hid (((EB.out.below hb).numN (hp.out : Nt _ _ 0)))
  clear p0 q0 hb EB hp E4
  obtain ⟨⟨_, ⟨p0, q0⟩, ⟨p1, q1⟩, _⟩, _⟩ := E5.out
  go_wp2_with fail
  have EB := Lib.hid ((E5.out.push (.slice pa (len 0) pk) 24))
  refine (shlB hL (EB.out.nt 2 rfl) HL.out hki).mono ?_
  rintro e w6 ⟨⟨la, lk, rfl, hl⟩, hb⟩
  have E6 := Lib.hid (((EB.out.below hb).numN (hl.out : Nt _ _ L)))
  clear p0 q0 p1 q1 hb EB hl E5
  obtain ⟨⟨_, ⟨p0, q0⟩, ⟨p1, q1⟩, ⟨p2, q2⟩, _⟩, _⟩ := E6.out
  go_upto_if 60 with (fail)
  have EB := Lib.hid ((E6.out.push (.slice la (len L) lk) 24))
  clear p0 q0 p1 q1 p2 q2
  obtain ⟨⟨_, ⟨p0, q0⟩, ⟨p1, q1⟩, ⟨p2, q2⟩, ⟨p3, q3⟩, _⟩, _⟩ := EB.out
  go_cut [] (fun wx => Hid (EnvN w [(⟨w6.heap.size, 0, none⟩, .slice la (len L) lk), (⟨w5.heap.size, 0, none⟩, .slice pa (len 0) pk), (⟨w4.heap.size, 0, none⟩, .slice oa (len 1) ok), (⟨w.heap.size, 0, none⟩, .slice ao (len N) ca)] [(.slice la (len L) lk, digs L), (.slice pa (len 0) pk, digs 0), (.slice oa (len 1) ok, digs 1), (.slice ao (len N) ca, digs N)] wx))
  case first => as_aux_lemma =>
    rcases hL.out with ⟨l1, rfl, rfl⟩ | ⟨l1, rfl, rfl⟩
    · have L1 := Lib.hid l1
      clear l1
      have hB : Hid (N * 2 ^ k / 2 ^ k = N) := Lib.hid (Nat.mul_div_cancel _ (Nat.two_pow_pos k))
      go_wp2_with fail
      refine (shrB hB (EB.out.nt 0 rfl) L1.out hki).mono ?_
      rintro e w7 ⟨⟨qa, qk, rfl, hq⟩, hb⟩
      have E7 := Lib.hid (((EB.out.below hb).numN (hq.out : Nt _ _ N)))
      clear p0 q0 p1 q1 p2 q2 p3 q3 hb hq EB
      obtain ⟨⟨_, ⟨p0, q0⟩, ⟨p1, q1⟩, ⟨p2, q2⟩, ⟨p3, q3⟩, _⟩, _⟩ := E7.out
      by_cases h0 : N = 0
      · have z0 : decide (0 < (len N : Int)) = false := decide_eq_false (by have := HZ.out.1 h0; omega)
        have z1 : decide (0 < len N) = false := decide_eq_false (by have := HZ.out.1 h0; omega)
        clear h0
        go_wp2_with fail
        have E8 := Lib.hid ((E7.out.push (.slice qa (len N) qk) 24))
        clear p0 q0 p1 q1 p2 q2 p3 q3 E7
        generalize w7.alloc (.cells #[.slice qa (len N) qk] 24) = w8 at *
        obtain ⟨⟨_, ⟨p0, q0⟩, ⟨p1, q1⟩, ⟨p2, q2⟩, ⟨p3, q3⟩, ⟨p4, q4⟩, _⟩, _⟩ := E8.out
        have BB : Hid (Below w8.heap.size w8 w8.drew) := Lib.hid (below_drewN (Below.refl _ _) 1)
        obtain ⟨⟨_, ⟨z0, _⟩, ⟨z1, _⟩, ⟨z2, _⟩, ⟨z3, _⟩, ⟨z4, _⟩, _⟩, _⟩ := E8.out.below BB.out
        refine wp_region_held_drew (S := fun w' => w'.cell? ⟨w7.heap.size, 0, none⟩ = some (.slice qa (len N) qk) ∧ w'.cell? ⟨w6.heap.size, 0, none⟩ = some (.slice la (len (N * 2 ^ k)) lk) ∧ w'.cell? ⟨w5.heap.size, 0, none⟩ = some (.slice pa (len 0) pk) ∧ w'.cell? ⟨w4.heap.size, 0, none⟩ = some (.slice oa (len 1) ok) ∧ w'.cell? ⟨w.heap.size, 0, none⟩ = some (.slice ao (len N) ca) ∧ Hid (Below w8.heap.size w8 w')) (by kernel_rfl) (by exact ⟨z0, z1, z2, z3, z4, BB⟩) (fun hHeld => ?_)
        refine takeW (i := 0) (some 68) (v := ?_) rfl rfl (by kernel_rfl) (by kernel_rfl) (by kernel_rfl) (fun _ _ _ h => h) (by rfl) (by assumption) ?_ ?_
        rotate_left
        · (intro wS hSw; (try dsimp only at hSw); go_simp; try with_reducible rfl)
        try simp only [Act.put, List.setIfInBounds_toArray, List.set_cons_zero, List.set_cons_succ]
        refine takeW (i := 1) (some 69) (v := ?_) rfl rfl (by kernel_rfl) (by kernel_rfl) (by kernel_rfl) (fun _ _ _ h => h) (by rfl) (by assumption) ?_ ?_
        rotate_left
        · (intro wS hSw; (try dsimp only at hSw); go_simp; try with_reducible rfl)
        try simp only [Act.put, List.setIfInBounds_toArray, List.set_cons_zero, List.set_cons_succ]
        refine takeW (i := 2) (some 70) (v := ?_) rfl rfl (by kernel_rfl) (by kernel_rfl) (by kernel_rfl) (fun _ _ _ h => h) (by rfl) (by assumption) ?_ ?_
        rotate_left
        · (intro wS hSw; (try dsimp only at hSw); go_simp; try with_reducible rfl)
        try simp only [Act.put, List.setIfInBounds_toArray, List.set_cons_zero, List.set_cons_succ]
        refine takeW (i := 3) (some 71) (v := ?_) rfl rfl (by kernel_rfl) (by kernel_rfl) (by kernel_rfl) (fun _ _ _ h => h) (by rfl) (by assumption) ?_ ?_
        rotate_left
        · (intro wS hSw; (try dsimp only at hSw); go_simp; try with_reducible rfl)
        try simp only [Act.put, List.setIfInBounds_toArray, List.set_cons_zero, List.set_cons_succ]
        refine takeW (i := 4) (some 72) (v := ?_) rfl rfl (by kernel_rfl) (by kernel_rfl) (by kernel_rfl) (fun _ _ _ h => h) (by rfl) (by assumption) ?_ ?_
        rotate_left
        · (intro wS hSw; (try dsimp only at hSw); go_simp; try with_reducible rfl)
        try simp only [Act.put, List.setIfInBounds_toArray, List.set_cons_zero, List.set_cons_succ]
        refine wpAnyH_ready (rs := [5]) (by kernel_rfl) (by simp) ?_
        refine AllReadyH.cons rfl (fun KK hKK => ?_) AllReadyH.nil
        go_simp
        refine (sameB ((E8.out.below BB.out).nt 0 rfl) ((E8.out.below BB.out).nt 4 rfl)).mono ?_
        rintro e w9r0 ⟨rfl, hbr⟩
        replace BB := Lib.hid (below_step2 BB.out hbr)
        clear z0 z1 z2 z3 z4
        obtain ⟨⟨_, ⟨z0, _⟩, ⟨z1, _⟩, ⟨z2, _⟩, ⟨z3, _⟩, ⟨z4, _⟩, _⟩, _⟩ := E8.out.below BB.out
        (try dsimp only)
        clear hHeld hbr
        refine hKK.out _ _ ?_ (fun hHeld => ?_)
        · exact ⟨z0, z1, z2, z3, z4, BB⟩
        clear hKK KK
        try simp only [Act.put, List.setIfInBounds_toArray, List.set_cons_zero, List.set_cons_succ]
        refine takeW (i := 6) (some 74) (v := ?_) rfl rfl (by kernel_rfl) (by kernel_rfl) (by kernel_rfl) (fun _ _ _ h => h) (by rfl) (by assumption) ?_ ?_
        rotate_left
        · (intro wS hSw; (try dsimp only at hSw); go_simp; try with_reducible rfl)
        try simp only [Act.put, List.setIfInBounds_toArray, List.set_cons_zero, List.set_cons_succ]
        refine takeW (i := 7) (some 75) (v := ?_) rfl rfl (by kernel_rfl) (by kernel_rfl) (by kernel_rfl) (fun _ _ _ h => h) (by rfl) (by assumption) ?_ ?_
        rotate_left
        · (intro wS hSw; (try dsimp only at hSw); go_simp; try with_reducible rfl)
        try simp only [Act.put, List.setIfInBounds_toArray, List.set_cons_zero, List.set_cons_succ]
        refine takeW (i := 8) (some 76) (v := ?_) rfl rfl (by kernel_rfl) (by kernel_rfl) (by kernel_rfl) (fun _ _ _ h => h) (by rfl) (by assumption) ?_ ?_
        rotate_left
        · (intro wS hSw; (try dsimp only at hSw); go_simp; try with_reducible rfl)
        try simp only [Act.put, List.setIfInBounds_toArray, List.set_cons_zero, List.set_cons_succ]
        refine takeW (i := 9) (some 77) (v := ?_) rfl rfl (by kernel_rfl) (by kernel_rfl) (by kernel_rfl) (fun _ _ _ h => h) (by rfl) (by assumption) ?_ ?_
        rotate_left
        · (intro wS hSw; (try dsimp only at hSw); go_simp; try with_reducible rfl)
        try simp only [Act.put, List.setIfInBounds_toArray, List.set_cons_zero, List.set_cons_succ]
        refine takeW (i := 10) (some 78) (v := ?_) rfl rfl (by kernel_rfl) (by kernel_rfl) (by kernel_rfl) (fun _ _ _ h => h) (by rfl) (by assumption) ?_ ?_
        rotate_left
        · (intro wS hSw; (try dsimp only at hSw); go_simp; try with_reducible rfl)
        try simp only [Act.put, List.setIfInBounds_toArray, List.set_cons_zero, List.set_cons_succ]
        refine takeW (i := 11) (some 79) (v := ?_) rfl rfl (by kernel_rfl) (by kernel_rfl) (by kernel_rfl) (fun _ _ _ h => h) (by rfl) (by assumption) ?_ ?_
        rotate_left
        · (intro wS hSw; (try dsimp only at hSw); go_simp; try with_reducible rfl)
        try simp only [Act.put, List.setIfInBounds_toArray, List.set_cons_zero, List.set_cons_succ]
        refine takeW (i := 12) (some 80) (v := ?_) rfl rfl (by kernel_rfl) (by kernel_rfl) (by kernel_rfl) (fun _ _ _ h => h) (by rfl) (by assumption) ?_ ?_
        rotate_left
        · (intro wS hSw; (try dsimp only at hSw); go_simp; try with_reducible rfl)
        try simp only [Act.put, List.setIfInBounds_toArray, List.set_cons_zero, List.set_cons_succ]
        refine takeW (i := 13) (some 81) (v := ?_) rfl rfl (by kernel_rfl) (by kernel_rfl) (by kernel_rfl) (fun _ _ _ h => h) (by rfl) (by assumption) ?_ ?_
        rotate_left
        · (intro wS hSw; (try dsimp only at hSw); go_simp; try with_reducible rfl)
        try simp only [Act.put, List.setIfInBounds_toArray, List.set_cons_zero, List.set_cons_succ]
        refine takeU (i := 14) (some 82) rfl rfl (by kernel_rfl) (by kernel_rfl) (by kernel_rfl) (fun _ _ _ h => h) (by rfl) (by assumption) ?_
        try simp only [Act.put, List.setIfInBounds_toArray, List.set_cons_zero, List.set_cons_succ]
        refine takeU (i := 15) (some 83) rfl rfl (by kernel_rfl) (by kernel_rfl) (by kernel_rfl) (fun _ _ _ h => h) (by rfl) (by assumption) ?_
        try simp only [Act.put, List.setIfInBounds_toArray, List.set_cons_zero, List.set_cons_succ]
        refine takeU (i := 16) (some 84) rfl rfl (by kernel_rfl) (by kernel_rfl) (by kernel_rfl) (fun _ _ _ h => h) (by rfl) (by assumption) ?_
        try simp only [Act.put, List.setIfInBounds_toArray, List.set_cons_zero, List.set_cons_succ]
        refine takeU (i := 17) (some 85) rfl rfl (by kernel_rfl) (by kernel_rfl) (by kernel_rfl) (fun _ _ _ h => h) (by rfl) (by assumption) ?_
        try simp only [Act.put, List.setIfInBounds_toArray, List.set_cons_zero, List.set_cons_succ]
        refine takeU (i := 18) (some 86) rfl rfl (by kernel_rfl) (by kernel_rfl) (by kernel_rfl) (fun _ _ _ h => h) (by rfl) (by assumption) ?_
        try simp only [Act.put, List.setIfInBounds_toArray, List.set_cons_zero, List.set_cons_succ]
        refine takeU (i := 19) (some 87) rfl rfl (by kernel_rfl) (by kernel_rfl) (by kernel_rfl) (fun _ _ _ h => h) (by rfl) (by assumption) ?_
        try simp only [Act.put, List.setIfInBounds_toArray, List.set_cons_zero, List.set_cons_succ]
        refine takeU (i := 20) (some 88) rfl rfl (by kernel_rfl) (by kernel_rfl) (by kernel_rfl) (fun _ _ _ h => h) (by rfl) (by assumption) ?_
        try simp only [Act.put, List.setIfInBounds_toArray, List.set_cons_zero, List.set_cons_succ]
        refine takeW (i := 21) (some 89) (v := ?_) rfl rfl (by kernel_rfl) (by kernel_rfl) (by kernel_rfl) (fun _ _ _ h => h) (by rfl) (by assumption) ?_ ?_
        rotate_left
        · (intro wS hSw; (try dsimp only at hSw); go_simp; try with_reducible rfl)
        try simp only [Act.put, List.setIfInBounds_toArray, List.set_cons_zero, List.set_cons_succ]
        refine takeW (i := 22) (some 90) (v := ?_) rfl rfl (by kernel_rfl) (by kernel_rfl) (by kernel_rfl) (fun _ _ _ h => h) (by rfl) (by assumption) ?_ ?_
        rotate_left
        · (intro wS hSw; (try dsimp only at hSw); go_simp; try with_reducible rfl)
        try simp only [Act.put, List.setIfInBounds_toArray, List.set_cons_zero, List.set_cons_succ]
        refine wpAnyH_done (by kernel_rfl) ?_ _
        clear hHeld
        have E9 := Lib.hid ((E8.out.below BB.out))
        clear p0 q0 p1 q1 p2 q2 p3 q3 p4 q4 BB z0 z1 z2 z3 z4 E8
        obtain ⟨⟨_, ⟨p0, q0⟩, ⟨p1, q1⟩, ⟨p2, q2⟩, ⟨p3, q3⟩, ⟨p4, q4⟩, _⟩, _⟩ := E9.out
        go_wp2_with fail
        go_meet
        exact Lib.hid (E9.out.pop.popn)
      · have z0 : decide (0 < (len N : Int)) = true := decide_eq_true (by have := not_congr HZ.out; omega)
        have z1 : decide (0 < len N) = true := decide_eq_true (by have := not_congr HZ.out; omega)
        have hb2 : Hid (bl (N * 2 ^ k) = bk) := Lib.hid (by rw [bl_shift h0, hb1.out, hbk2.out])
        clear h0
        go_wp2_with fail
        have E8 := Lib.hid ((E7.out.push (.slice qa (len N) qk) 24))
        clear p0 q0 p1 q1 p2 q2 p3 q3 E7
        generalize w7.alloc (.cells #[.slice qa (len N) qk] 24) = w8 at *
        obtain ⟨⟨_, ⟨p0, q0⟩, ⟨p1, q1⟩, ⟨p2, q2⟩, ⟨p3, q3⟩, ⟨p4, q4⟩, _⟩, _⟩ := E8.out
        have BB : Hid (Below w8.heap.size w8 w8.drew) := Lib.hid (below_drewN (Below.refl _ _) 1)
        obtain ⟨⟨_, ⟨z0, _⟩, ⟨z1, _⟩, ⟨z2, _⟩, ⟨z3, _⟩, ⟨z4, _⟩, _⟩, _⟩ := E8.out.below BB.out
        refine wp_region_held_drew (S := fun w' => w'.cell? ⟨w7.heap.size, 0, none⟩ = some (.slice qa (len N) qk) ∧ w'.cell? ⟨w6.heap.size, 0, none⟩ = some (.slice la (len (N * 2 ^ k)) lk) ∧ w'.cell? ⟨w5.heap.size, 0, none⟩ = some (.slice pa (len 0) pk) ∧ w'.cell? ⟨w4.heap.size, 0, none⟩ = some (.slice oa (len 1) ok) ∧ w'.cell? ⟨w.heap.size, 0, none⟩ = some (.slice ao (len N) ca) ∧ Hid (Below w8.heap.size w8 w')) (by kernel_rfl) (by exact ⟨z0, z1, z2, z3, z4, BB⟩) (fun hHeld => ?_)
        refine takeW (i := 0) (some 68) (v := ?_) rfl rfl (by kernel_rfl) (by kernel_rfl) (by kernel_rfl) (fun _ _ _ h => h) (by rfl) (by assumption) ?_ ?_
        rotate_left
        · (intro wS hSw; (try dsimp only at hSw); go_simp; try with_reducible rfl)
        try simp only [Act.put, List.setIfInBounds_toArray, List.set_cons_zero, List.set_cons_succ]
        refine takeW (i := 1) (some 69) (v := ?_) rfl rfl (by kernel_rfl) (by kernel_rfl) (by kernel_rfl) (fun _ _ _ h => h) (by rfl) (by assumption) ?_ ?_
        rotate_left
        · (intro wS hSw; (try dsimp only at hSw); go_simp; try with_reducible rfl)
        try simp only [Act.put, List.setIfInBounds_toArray, List.set_cons_zero, List.set_cons_succ]
        refine takeW (i := 2) (some 70) (v := ?_) rfl rfl (by kernel_rfl) (by kernel_rfl) (by kernel_rfl) (fun _ _ _ h => h) (by rfl) (by assumption) ?_ ?_
        rotate_left
        · (intro wS hSw; (try dsimp only at hSw); go_simp; try with_reducible rfl)
        try simp only [Act.put, List.setIfInBounds_toArray, List.set_cons_zero, List.set_cons_succ]
        refine takeW (i := 3) (some 71) (v := ?_) rfl rfl (by kernel_rfl) (by kernel_rfl) (by kernel_rfl) (fun _ _ _ h => h) (by rfl) (by assumption) ?_ ?_
        rotate_left
        · (intro wS hSw; (try dsimp only at hSw); go_simp; try with_reducible rfl)
        try simp only [Act.put, List.setIfInBounds_toArray, List.set_cons_zero, List.set_cons_succ]
        refine takeW (i := 4) (some 72) (v := ?_) rfl rfl (by kernel_rfl) (by kernel_rfl) (by kernel_rfl) (fun _ _ _ h => h) (by rfl) (by assumption) ?_ ?_
        rotate_left
        · (intro wS hSw; (try dsimp only at hSw); go_simp; try with_reducible rfl)
        try simp only [Act.put, List.setIfInBounds_toArray, List.set_cons_zero, List.set_cons_succ]
        refine wpAnyH_ready (rs := [5]) (by kernel_rfl) (by simp) ?_
        refine AllReadyH.cons rfl (fun KK hKK => ?_) AllReadyH.nil
        go_simp
        refine (sameB ((E8.out.below BB.out).nt 0 rfl) ((E8.out.below BB.out).nt 4 rfl)).mono ?_
        rintro e w9r0 ⟨rfl, hbr⟩
        replace BB := Lib.hid (below_step2 BB.out hbr)
        clear z0 z1 z2 z3 z4
        obtain ⟨⟨_, ⟨z0, _⟩, ⟨z1, _⟩, ⟨z2, _⟩, ⟨z3, _⟩, ⟨z4, _⟩, _⟩, _⟩ := E8.out.below BB.out
        (try dsimp only)
        clear hHeld hbr
        refine hKK.out _ _ ?_ (fun hHeld => ?_)
        · exact ⟨z0, z1, z2, z3, z4, BB⟩
        clear hKK KK
        try simp only [Act.put, List.setIfInBounds_toArray, List.set_cons_zero, List.set_cons_succ]
        refine takeW (i := 6) (some 74) (v := ?_) rfl rfl (by kernel_rfl) (by kernel_rfl) (by kernel_rfl) (fun _ _ _ h => h) (by rfl) (by assumption) ?_ ?_
        rotate_left
        · (intro wS hSw; (try dsimp only at hSw); go_simp; try with_reducible rfl)
        try simp only [Act.put, List.setIfInBounds_toArray, List.set_cons_zero, List.set_cons_succ]
        refine takeW (i := 7) (some 75) (v := ?_) rfl rfl (by kernel_rfl) (by kernel_rfl) (by kernel_rfl) (fun _ _ _ h => h) (by rfl) (by assumption) ?_ ?_
        rotate_left
        · (intro wS hSw; (try dsimp only at hSw); go_simp; try with_reducible rfl)
        try simp only [Act.put, List.setIfInBounds_toArray, List.set_cons_zero, List.set_cons_succ]
        refine takeW (i := 8) (some 76) (v := ?_) rfl rfl (by kernel_rfl) (by kernel_rfl) (by kernel_rfl) (fun _ _ _ h => h) (by rfl) (by assumption) ?_ ?_
        rotate_left
        · (intro wS hSw; (try dsimp only at hSw); go_simp; try with_reducible rfl)
        try simp only [Act.put, List.setIfInBounds_toArray, List.set_cons_zero, List.set_cons_succ]
        refine takeW (i := 9) (some 77) (v := ?_) rfl rfl (by kernel_rfl) (by kernel_rfl) (by kernel_rfl) (fun _ _ _ h => h) (by rfl) (by assumption) ?_ ?_
        rotate_left
        · (intro wS hSw; (try dsimp only at hSw); go_simp; try with_reducible rfl)
        try simp only [Act.put, List.setIfInBounds_toArray, List.set_cons_zero, List.set_cons_succ]
        refine takeW (i := 10) (some 78) (v := ?_) rfl rfl (by kernel_rfl) (by kernel_rfl) (by kernel_rfl) (fun _ _ _ h => h) (by rfl) (by assumption) ?_ ?_
        rotate_left
        · (intro wS hSw; (try dsimp only at hSw); go_simp; try with_reducible rfl)
        try simp only [Act.put, List.setIfInBounds_toArray, List.set_cons_zero, List.set_cons_succ]
        refine takeW (i := 11) (some 79) (v := ?_) rfl rfl (by kernel_rfl) (by kernel_rfl) (by kernel_rfl) (fun _ _ _ h => h) (by rfl) (by assumption) ?_ ?_
        rotate_left
        · (intro wS hSw; (try dsimp only at hSw); go_simp; try with_reducible rfl)
        try simp only [Act.put, List.setIfInBounds_toArray, List.set_cons_zero, List.set_cons_succ]
        refine takeW (i := 12) (some 80) (v := ?_) rfl rfl (by kernel_rfl) (by kernel_rfl) (by kernel_rfl) (fun _ _ _ h => h) (by rfl) (by assumption) ?_ ?_
        rotate_left
        · (intro wS hSw; (try dsimp only at hSw); go_simp; try with_reducible rfl)
        try simp only [Act.put, List.setIfInBounds_toArray, List.set_cons_zero, List.set_cons_succ]
        refine takeW (i := 13) (some 81) (v := ?_) rfl rfl (by kernel_rfl) (by kernel_rfl) (by kernel_rfl) (fun _ _ _ h => h) (by rfl) (by assumption) ?_ ?_
        rotate_left
        · (intro wS hSw; (try dsimp only at hSw); go_simp; try with_reducible rfl)
        try simp only [Act.put, List.setIfInBounds_toArray, List.set_cons_zero, List.set_cons_succ]
        refine takeW (i := 14) (some 82) (v := ?_) rfl rfl (by kernel_rfl) (by kernel_rfl) (by kernel_rfl) (fun _ _ _ h => h) (by rfl) (by assumption) ?_ ?_
        rotate_left
        · (intro wS hSw; (try dsimp only at hSw); go_simp; try with_reducible rfl)
        try simp only [Act.put, List.setIfInBounds_toArray, List.set_cons_zero, List.set_cons_succ]
        refine takeW (i := 16) (some 84) (v := ?_) rfl rfl (by kernel_rfl) (by kernel_rfl) (by kernel_rfl) (fun _ _ _ h => h) (by rfl) (by assumption) ?_ ?_
        rotate_left
        · (intro wS hSw; (try dsimp only at hSw); go_simp; try with_reducible rfl)
        try simp only [Act.put, List.setIfInBounds_toArray, List.set_cons_zero, List.set_cons_succ]
        refine takeW (i := 18) (some 86) (v := ?_) rfl rfl (by kernel_rfl) (by kernel_rfl) (by kernel_rfl) (fun _ _ _ h => h) (by rfl) (by assumption) ?_ ?_
        rotate_left
        · (intro wS hSw; (try dsimp only at hSw); go_simp; try with_reducible rfl)
        try simp only [Act.put, List.setIfInBounds_toArray, List.set_cons_zero, List.set_cons_succ]
        refine wpAnyH_ready (rs := [15]) (by kernel_rfl) (by simp) ?_
        refine AllReadyH.cons rfl (fun KK hKK => ?_) AllReadyH.nil
        go_simp
        refine (bitsB hb2 ((E8.out.below BB.out).nt 1 rfl) L1.out).mono ?_
        rintro e w9r1 ⟨rfl, hbr⟩
        replace BB := Lib.hid (below_step2 BB.out hbr)
        clear z0 z1 z2 z3 z4
        obtain ⟨⟨_, ⟨z0, _⟩, ⟨z1, _⟩, ⟨z2, _⟩, ⟨z3, _⟩, ⟨z4, _⟩, _⟩, _⟩ := E8.out.below BB.out
        (try dsimp only)
        clear hHeld hbr
        refine hKK.out _ _ ?_ (fun hHeld => ?_)
        · exact ⟨z0, z1, z2, z3, z4, BB⟩
        clear hKK KK
        try simp only [Act.put, List.setIfInBounds_toArray, List.set_cons_zero, List.set_cons_succ]
        refine wpAnyH_ready (rs := [17]) (by kernel_rfl) (by simp) ?_
        refine AllReadyH.cons rfl (fun KK hKK => ?_) AllReadyH.nil
        go_simp
        refine (bitsB hb1 ((E8.out.below BB.out).nt 4 rfl) HL.out).mono ?_
        rintro e w9r2 ⟨rfl, hbr⟩
        replace BB := Lib.hid (below_step2 BB.out hbr)
        clear z0 z1 z2 z3 z4
        obtain ⟨⟨_, ⟨z0, _⟩, ⟨z1, _⟩, ⟨z2, _⟩, ⟨z3, _⟩, ⟨z4, _⟩, _⟩, _⟩ := E8.out.below BB.out
        (try dsimp only)
        clear hHeld hbr
        refine hKK.out _ _ ?_ (fun hHeld => ?_)
        · exact ⟨z0, z1, z2, z3, z4, BB⟩
        clear hKK KK
        try simp only [Act.put, List.setIfInBounds_toArray, List.set_cons_zero, List.set_cons_succ]
        refine takeW (i := 19) (some 87) (v := ?_) rfl rfl (by kernel_rfl) (by kernel_rfl) (by kernel_rfl) (fun _ _ _ h => h) (by rfl) (by assumption) ?_ ?_
        rotate_left
        · (intro wS hSw; (try dsimp only at hSw); go_simp; try with_reducible rfl)
        try simp only [Act.put, List.setIfInBounds_toArray, List.set_cons_zero, List.set_cons_succ]
        refine takeW (i := 20) (some 88) (v := ?_) rfl rfl (by kernel_rfl) (by kernel_rfl) (by kernel_rfl) (fun _ _ _ h => h) (by rfl) (by assumption) ?_ ?_
        rotate_left
        · (intro wS hSw; (try dsimp only at hSw); go_simp; try with_reducible rfl)
        try simp only [Act.put, List.setIfInBounds_toArray, List.set_cons_zero, List.set_cons_succ]
        refine takeW (i := 21) (some 89) (v := ?_) rfl rfl (by kernel_rfl) (by kernel_rfl) (by kernel_rfl) (fun _ _ _ h => h) (by rfl) (by assumption) ?_ ?_
        rotate_left
        · (intro wS hSw; (try dsimp only at hSw); go_simp; try with_reducible rfl)
        try simp only [Act.put, List.setIfInBounds_toArray, List.set_cons_zero, List.set_cons_succ]
        refine takeW (i := 22) (some 90) (v := ?_) rfl rfl (by kernel_rfl) (by kernel_rfl) (by kernel_rfl) (fun _ _ _ h => h) (by rfl) (by assumption) ?_ ?_
        rotate_left
        · (intro wS hSw; (try dsimp only at hSw); go_simp; try with_reducible rfl)
        try simp only [Act.put, List.setIfInBounds_toArray, List.set_cons_zero, List.set_cons_succ]
        refine wpAnyH_done (by kernel_rfl) ?_ _
        clear hHeld
        have E9 := Lib.hid ((E8.out.below BB.out))
        clear p0 q0 p1 q1 p2 q2 p3 q3 p4 q4 BB z0 z1 z2 z3 z4 E8
        obtain ⟨⟨_, ⟨p0, q0⟩, ⟨p1, q1⟩, ⟨p2, q2⟩, ⟨p3, q3⟩, ⟨p4, q4⟩, _⟩, _⟩ := E9.out
        go_wp2_with fail
        go_meet
        exact Lib.hid (E9.out.pop.popn)
    · have hN0 : N ≠ 0 := fun e => l1 (by rw [e, Nat.zero_mul, len_zero]; omega)
      have hbig : decide (bk ≤ 2048) = false := decide_eq_false (fun hh => l1 (len_bl.2 (by rw [bl_shift hN0, hb1.out, hbk2.out]; omega)))
      have hbig2 : decide ((bk : Int) ≤ 2048) = false := decide_eq_false (by have := of_decide_eq_false hbig; omega)
      have ebk : (b1 : Int) + (k : Int) = (bk : Int) := by have := hbk2.out; omega
      clear l1 hN0
      go_wp2_with fail
      refine (bitsB hb1 (EB.out.nt 3 rfl) HL.out).mono ?_
      rintro e w7 ⟨rfl, hb⟩
      have E7 := Lib.hid ((EB.out.below hb))
      clear p0 q0 p1 q1 p2 q2 p3 q3 hb EB
      obtain ⟨⟨_, ⟨p0, q0⟩, ⟨p1, q1⟩, ⟨p2, q2⟩, ⟨p3, q3⟩, _⟩, _⟩ := E7.out
      go_wp2_with fail
      go_meet
      exact E7
  case rest => as_aux_lemma =>
    clear EB p0 q0 p1 q1 p2 q2 p3 q3
    have E200 := hcut
    clear hcut
    obtain ⟨⟨_, ⟨p0, q0⟩, ⟨p1, q1⟩, ⟨p2, q2⟩, ⟨p3, q3⟩, _⟩, _⟩ := E200.out
    go_wp2_with fail
    refine (shrB hR (E200.out.nt 3 rfl) HL.out hki).mono ?_
    rintro e w201 ⟨⟨ra, rk, rfl, hr⟩, hb⟩
    have E201 := Lib.hid (((E200.out.below hb).numN (hr.out : Nt _ _ R)))
    clear p0 q0 p1 q1 p2 q2 p3 q3 hb hr E200
    obtain ⟨⟨_, ⟨p0, q0⟩, ⟨p1, q1⟩, ⟨p2, q2⟩, ⟨p3, q3⟩, _⟩, _⟩ := E201.out
    go_wp2_with fail
    have E202 := Lib.hid ((E201.out.push (.slice ra (len R) rk) 24))
    clear p0 q0 p1 q1 p2 q2 p3 q3 E201
    generalize w201.alloc (.cells #[.slice ra (len R) rk] 24) = w202 at *
    obtain ⟨⟨_, ⟨p0, q0⟩, ⟨p1, q1⟩, ⟨p2, q2⟩, ⟨p3, q3⟩, ⟨p4, q4⟩, _⟩, _⟩ := E202.out
    have BB : Hid (Below w202.heap.size w202 w202.drew) := Lib.hid (below_drewN (Below.refl _ _) 1)
    obtain ⟨⟨_, ⟨z0, _⟩, ⟨z1, _⟩, ⟨z2, _⟩, ⟨z3, _⟩, ⟨z4, _⟩, _⟩, _⟩ := E202.out.below BB.out
    refine wp_region_held_drew (S := fun w' => w'.cell? ⟨w201.heap.size, 0, none⟩ = some (.slice ra (len R) rk) ∧ w'.cell? ⟨w6.heap.size, 0, none⟩ = some (.slice la (len L) lk) ∧ w'.cell? ⟨w5.heap.size, 0, none⟩ = some (.slice pa (len 0) pk) ∧ w'.cell? ⟨w4.heap.size, 0, none⟩ = some (.slice oa (len 1) ok) ∧ w'.cell? ⟨w.heap.size, 0, none⟩ = some (.slice ao (len N) ca) ∧ Hid (Below w202.heap.size w202 w')) (by kernel_rfl) (by exact ⟨z0, z1, z2, z3, z4, BB⟩) (fun hHeld => ?_)
    refine takeW (i := 0) (some 107) (v := ?_) rfl rfl (by kernel_rfl) (by kernel_rfl) (by kernel_rfl) (fun _ _ _ h => h) (by rfl) (by assumption) ?_ ?_
    rotate_left
    · (intro wS hSw; (try dsimp only at hSw); go_simp; try with_reducible rfl)
    try simp only [Act.put, List.setIfInBounds_toArray, List.set_cons_zero, List.set_cons_succ]
    refine takeW (i := 1) (some 108) (v := ?_) rfl rfl (by kernel_rfl) (by kernel_rfl) (by kernel_rfl) (fun _ _ _ h => h) (by rfl) (by assumption) ?_ ?_
    rotate_left
    · (intro wS hSw; (try dsimp only at hSw); go_simp; try with_reducible rfl)
    try simp only [Act.put, List.setIfInBounds_toArray, List.set_cons_zero, List.set_cons_succ]
    refine takeW (i := 2) (some 109) (v := ?_) rfl rfl (by kernel_rfl) (by kernel_rfl) (by kernel_rfl) (fun _ _ _ h => h) (by rfl) (by assumption) ?_ ?_
    rotate_left
    · (intro wS hSw; (try dsimp only at hSw); go_simp; try with_reducible rfl)
    try simp only [Act.put, List.setIfInBounds_toArray, List.set_cons_zero, List.set_cons_succ]
    refine takeW (i := 3) (some 110) (v := ?_) rfl rfl (by kernel_rfl) (by kernel_rfl) (by kernel_rfl) (fun _ _ _ h => h) (by rfl) (by assumption) ?_ ?_
    rotate_left
    · (intro wS hSw; (try dsimp only at hSw); go_simp; try with_reducible rfl)
    try simp only [Act.put, List.setIfInBounds_toArray, List.set_cons_zero, List.set_cons_succ]
    refine takeW (i := 5) (some 112) (v := ?_) rfl rfl (by kernel_rfl) (by kernel_rfl) (by kernel_rfl) (fun _ _ _ h => h) (by rfl) (by assumption) ?_ ?_
    rotate_left
    · (intro wS hSw; (try dsimp only at hSw); go_simp; try with_reducible rfl)
    try simp only [Act.put, List.setIfInBounds_toArray, List.set_cons_zero, List.set_cons_succ]
    refine takeW (i := 7) (some 114) (v := ?_) rfl rfl (by kernel_rfl) (by kernel_rfl) (by kernel_rfl) (fun _ _ _ h => h) (by rfl) (by assumption) ?_ ?_
    rotate_left
    · (intro wS hSw; (try dsimp only at hSw); go_simp; try with_reducible rfl)
    try simp only [Act.put, List.setIfInBounds_toArray, List.set_cons_zero, List.set_cons_succ]
    refine wpAnyH_ready (rs := [4]) (by kernel_rfl) (by simp) ?_
    refine AllReadyH.cons rfl (fun KK hKK => ?_) AllReadyH.nil
    go_simp
    refine (bitsB hb3 ((E202.out.below BB.out).nt 0 rfl) HRl.out).mono ?_
    rintro e w203r0 ⟨rfl, hbr⟩
    replace BB := Lib.hid (below_step2 BB.out hbr)
    clear z0 z1 z2 z3 z4
    obtain ⟨⟨_, ⟨z0, _⟩, ⟨z1, _⟩, ⟨z2, _⟩, ⟨z3, _⟩, ⟨z4, _⟩, _⟩, _⟩ := E202.out.below BB.out
    (try dsimp only)
    clear hHeld hbr
    refine hKK.out _ _ ?_ (fun hHeld => ?_)
    · exact ⟨z0, z1, z2, z3, z4, BB⟩
    clear hKK KK
    try simp only [Act.put, List.setIfInBounds_toArray, List.set_cons_zero, List.set_cons_succ]
    refine wpAnyH_ready (rs := [6]) (by kernel_rfl) (by simp) ?_
    refine AllReadyH.cons rfl (fun KK hKK => ?_) AllReadyH.nil
    go_simp
    refine (bitsB hb1 ((E202.out.below BB.out).nt 4 rfl) HL.out).mono ?_
    rintro e w203r1 ⟨rfl, hbr⟩
    replace BB := Lib.hid (below_step2 BB.out hbr)
    clear z0 z1 z2 z3 z4
    obtain ⟨⟨_, ⟨z0, _⟩, ⟨z1, _⟩, ⟨z2, _⟩, ⟨z3, _⟩, ⟨z4, _⟩, _⟩, _⟩ := E202.out.below BB.out
    (try dsimp only)
    clear hHeld hbr
    refine hKK.out _ _ ?_ (fun hHeld => ?_)
    · exact ⟨z0, z1, z2, z3, z4, BB⟩
    clear hKK KK
    try simp only [Act.put, List.setIfInBounds_toArray, List.set_cons_zero, List.set_cons_succ]
    refine takeW (i := 8) (some 115) (v := ?_) rfl rfl (by kernel_rfl) (by kernel_rfl) (by kernel_rfl) (fun _ _ _ h => h) (by rfl) (by assumption) ?_ ?_
    rotate_left
    · (intro wS hSw; (try dsimp only at hSw); go_simp; try with_reducible rfl)
    try simp only [Act.put, List.setIfInBounds_toArray, List.set_cons_zero, List.set_cons_succ]
    refine takeW (i := 9) (some 116) (v := ?_) rfl rfl (by kernel_rfl) (by kernel_rfl) (by kernel_rfl) (fun _ _ _ h => h) (by rfl) (by assumption) ?_ ?_
    rotate_left
    · (intro wS hSw; (try dsimp only at hSw); go_simp; try with_reducible rfl)
    try simp only [Act.put, List.setIfInBounds_toArray, List.set_cons_zero, List.set_cons_succ]
    refine takeW (i := 10) (some 117) (v := ?_) rfl rfl (by kernel_rfl) (by kernel_rfl) (by kernel_rfl) (fun _ _ _ h => h) (by rfl) (by assumption) ?_ ?_
    rotate_left
    · (intro wS hSw; (try dsimp only at hSw); go_simp; try with_reducible rfl)
    try simp only [Act.put, List.setIfInBounds_toArray, List.set_cons_zero, List.set_cons_succ]
    refine takeW (i := 11) (some 118) (v := ?_) rfl rfl (by kernel_rfl) (by kernel_rfl) (by kernel_rfl) (fun _ _ _ h => h) (by rfl) (by assumption) ?_ ?_
    rotate_left
    · (intro wS hSw; (try dsimp only at hSw); go_simp; try with_reducible rfl)
    try simp only [Act.put, List.setIfInBounds_toArray, List.set_cons_zero, List.set_cons_succ]
    refine takeW (i := 12) (some 119) (v := ?_) rfl rfl (by kernel_rfl) (by kernel_rfl) (by kernel_rfl) (fun _ _ _ h => h) (by rfl) (by assumption) ?_ ?_
    rotate_left
    · (intro wS hSw; (try dsimp only at hSw); go_simp; try with_reducible rfl)
    try simp only [Act.put, List.setIfInBounds_toArray, List.set_cons_zero, List.set_cons_succ]
    refine takeW (i := 13) (some 120) (v := ?_) rfl rfl (by kernel_rfl) (by kernel_rfl) (by kernel_rfl) (fun _ _ _ h => h) (by rfl) (by assumption) ?_ ?_
    rotate_left
    · (intro wS hSw; (try dsimp only at hSw); go_simp; try with_reducible rfl)
    try simp only [Act.put, List.setIfInBounds_toArray, List.set_cons_zero, List.set_cons_succ]
    refine takeW (i := 14) (some 121) (v := ?_) rfl rfl (by kernel_rfl) (by kernel_rfl) (by kernel_rfl) (fun _ _ _ h => h) (by rfl) (by assumption) ?_ ?_
    rotate_left
    · (intro wS hSw; (try dsimp only at hSw); go_simp; try with_reducible rfl)
    try simp only [Act.put, List.setIfInBounds_toArray, List.set_cons_zero, List.set_cons_succ]
    refine takeW (i := 15) (some 122) (v := ?_) rfl rfl (by kernel_rfl) (by kernel_rfl) (by kernel_rfl) (fun _ _ _ h => h) (by rfl) (by assumption) ?_ ?_
    rotate_left
    · (intro wS hSw; (try dsimp only at hSw); go_simp; try with_reducible rfl)
    try simp only [Act.put, List.setIfInBounds_toArray, List.set_cons_zero, List.set_cons_succ]
    refine takeW (i := 17) (some 124) (v := ?_) rfl rfl (by kernel_rfl) (by kernel_rfl) (by kernel_rfl) (fun _ _ _ h => h) (by rfl) (by assumption) ?_ ?_
    rotate_left
    · (intro wS hSw; (try dsimp only at hSw); go_simp; try with_reducible rfl)
    try simp only [Act.put, List.setIfInBounds_toArray, List.set_cons_zero, List.set_cons_succ]
    refine takeW (i := 18) (some 125) (v := ?_) rfl rfl (by kernel_rfl) (by kernel_rfl) (by kernel_rfl) (fun _ _ _ h => h) (by rfl) (by assumption) ?_ ?_
    rotate_left
    · (intro wS hSw; (try dsimp only at hSw); go_simp; try with_reducible rfl)
    try simp only [Act.put, List.setIfInBounds_toArray, List.set_cons_zero, List.set_cons_succ]
    refine takeW (i := 19) (some 126) (v := ?_) rfl rfl (by kernel_rfl) (by kernel_rfl) (by kernel_rfl) (fun _ _ _ h => h) (by rfl) (by assumption) ?_ ?_
    rotate_left
    · (intro wS hSw; (try dsimp only at hSw); go_simp; try with_reducible rfl)
    try simp only [Act.put, List.setIfInBounds_toArray, List.set_cons_zero, List.set_cons_succ]
    refine takeW (i := 20) (some 127) (v := ?_) rfl rfl (by kernel_rfl) (by kernel_rfl) (by kernel_rfl) (fun _ _ _ h => h) (by rfl) (by assumption) ?_ ?_
    rotate_left
    · (intro wS hSw; (try dsimp only at hSw); go_simp; try with_reducible rfl)
    try simp only [Act.put, List.setIfInBounds_toArray, List.set_cons_zero, List.set_cons_succ]
    refine takeW (i := 21) (some 128) (v := ?_) rfl rfl (by kernel_rfl) (by kernel_rfl) (by kernel_rfl) (fun _ _ _ h => h) (by rfl) (by assumption) ?_ ?_
    rotate_left
    · (intro wS hSw; (try dsimp only at hSw); go_simp; try with_reducible rfl)
    try simp only [Act.put, List.setIfInBounds_toArray, List.set_cons_zero, List.set_cons_succ]
    refine wpAnyH_ready (rs := [16]) (by kernel_rfl) (by simp) ?_
    refine AllReadyH.cons rfl (fun KK hKK => ?_) AllReadyH.nil
    go_simp
    refine (bitB ht ((E202.out.below BB.out).nt 0 rfl) HRl.out (by omega)).mono ?_
    rintro e w203r2 ⟨rfl, hbr⟩
    replace BB := Lib.hid (below_step2 BB.out hbr)
    clear z0 z1 z2 z3 z4
    obtain ⟨⟨_, ⟨z0, _⟩, ⟨z1, _⟩, ⟨z2, _⟩, ⟨z3, _⟩, ⟨z4, _⟩, _⟩, _⟩ := E202.out.below BB.out
    (try dsimp only)
    clear hHeld hbr
    refine hKK.out _ _ ?_ (fun hHeld => ?_)
    · exact ⟨z0, z1, z2, z3, z4, BB⟩
    clear hKK KK
    try simp only [Act.put, List.setIfInBounds_toArray, List.set_cons_zero, List.set_cons_succ]
    refine wpAnyH_ready (rs := [22]) (by kernel_rfl) (by simp) ?_
    refine AllReadyH.cons rfl (fun KK hKK => ?_) AllReadyH.nil
    go_simp
    refine (bitB ht2 ((E202.out.below BB.out).nt 4 rfl) HL.out hik).mono ?_
    rintro e w203r3 ⟨rfl, hbr⟩
    replace BB := Lib.hid (below_step2 BB.out hbr)
    clear z0 z1 z2 z3 z4
    obtain ⟨⟨_, ⟨z0, _⟩, ⟨z1, _⟩, ⟨z2, _⟩, ⟨z3, _⟩, ⟨z4, _⟩, _⟩, _⟩ := E202.out.below BB.out
    (try dsimp only)
    clear hHeld hbr
    refine hKK.out _ _ ?_ (fun hHeld => ?_)
    · exact ⟨z0, z1, z2, z3, z4, BB⟩
    clear hKK KK
    try simp only [Act.put, List.setIfInBounds_toArray, List.set_cons_zero, List.set_cons_succ]
    refine takeW (i := 23) (some 130) (v := ?_) rfl rfl (by kernel_rfl) (by kernel_rfl) (by kernel_rfl) (fun _ _ _ h => h) (by rfl) (by assumption) ?_ ?_
    rotate_left
    · (intro wS hSw; (try dsimp only at hSw); go_simp; try with_reducible rfl)
    try simp only [Act.put, List.setIfInBounds_toArray, List.set_cons_zero, List.set_cons_succ]
    refine takeW (i := 24) (some 131) (v := ?_) rfl rfl (by kernel_rfl) (by kernel_rfl) (by kernel_rfl) (fun _ _ _ h => h) (by rfl) (by assumption) ?_ ?_
    rotate_left
    · (intro wS hSw; (try dsimp only at hSw); go_simp; try with_reducible rfl)
    try simp only [Act.put, List.setIfInBounds_toArray, List.set_cons_zero, List.set_cons_succ]
    refine wpAnyH_done (by kernel_rfl) ?_ _
    clear hHeld
    have E203 := Lib.hid ((E202.out.below BB.out))
    clear p0 q0 p1 q1 p2 q2 p3 q3 p4 q4 BB z0 z1 z2 z3 z4 E202
    obtain ⟨⟨_, ⟨p0, q0⟩, ⟨p1, q1⟩, ⟨p2, q2⟩, ⟨p3, q3⟩, ⟨p4, q4⟩, _⟩, _⟩ := E203.out
    have lz := hR0.out
    have hfin := Lib.hid E203.out.1.1
    go_wp2
    go_ret
    exact ⟨rfl, hfin.out⟩

set_option maxHeartbeats 1000000 in
theorem NaturalShifts_bad (ao : Option Addr) (ca : Nat) (l : List Nat) (n i : Int) (w : World) (ha : Sl w (.slice ao l.length ca) l) (hv : vld l = false) :
    Calls Try.prog 6 #[.agg #[.slice ao l.length ca], .int .u16 n, .int .u16 i] w fun e w' => e = .returned (.bool true) ∧ Below w.heap.size w w' := by
  have n1 := ha.len63
  have K1 := Lib.hid hv
  have E0 := Lib.hid ((EnvN.start w).num ha)
  clear ha hv
  generalize hll : l.length = m at *
  clear hll
  go_enter Try.func6, Try.ntmps6
  go_wp2_with fail
  have EB := Lib.hid ((E0.out.push (.slice ao m ca) 24))
  refine (awake_c _).mono ?_
  rintro e w1 ⟨rfl, hb⟩
  have E1 := Lib.hid ((EB.out.below hb))
  clear hb EB E0
  obtain ⟨⟨_, ⟨p0, q0⟩, _⟩, _⟩ := E1.out
  go_wp2_with fail
  refine (great_one_c ao m ca w1 (by omega) _ rfl).mono ?_
  rintro e w2 ⟨⟨hg, rfl⟩ | ⟨_, rfl⟩, hb⟩
  · have hfin := Lib.hid (E1.out.below hb).1.1
    clear hb
    go_wp2
    go_ret
    exact ⟨rfl, hfin.out⟩
  have E2 := Lib.hid ((E1.out.below hb))
  clear p0 q0 hb E1
  obtain ⟨⟨_, ⟨p0, q0⟩, _⟩, _⟩ := E2.out
  go_wp2_with fail
  refine (validS K1 (E2.out.sl 0 rfl)).mono ?_
  rintro e w3 ⟨rfl, hb⟩
  have E3 := Lib.hid ((E2.out.below hb))
  clear p0 q0 hb E2
  obtain ⟨⟨_, ⟨p0, q0⟩, _⟩, _⟩ := E3.out
  have hfin := Lib.hid E3.out.1.1
  clear p0 q0
  go_wp2
  go_ret
  exact ⟨rfl, hfin.out⟩

theorem NaturalShifts_walk (a : Value) (n i : Int) (l : List Nat) (hn : (Lit.int IntKind.u16 n).wf = true) (hi : (Lit.int IntKind.u16 i).wf = true) (w : World) (ha : Sl w a l) :
    Calls Try.prog 6 #[.agg #[a], .int .u16 n, .int .u16 i] w fun e w' => e = .returned (.bool true) ∧ Below w.heap.size w w' := by
  simp only [Lit.wf, Bool.and_eq_true, decide_eq_true_eq] at hn hi
  have n0 : (0 : Int) ≤ n := hn.1
  have n1 : n ≤ 65535 := hn.2
  have i0 : (0 : Int) ≤ i := hi.1
  have i1 : i ≤ 65535 := hi.2
  cases hv : vld l
  · obtain ⟨ao, ca, rfl, _⟩ := ha.open
    exact NaturalShifts_bad ao ca l n i w ha hv
  · obtain ⟨N, rfl, hl, hN⟩ := vld_nt ha hv
    obtain ⟨ao, ca, rfl, _⟩ := hN.open
    obtain ⟨n', rfl⟩ := Int.eq_ofNat_of_zero_le n0
    obtain ⟨i', rfl⟩ := Int.eq_ofNat_of_zero_le i0
    by_cases h : n' % 2100 < 2048
    · exact NaturalShifts_lo ao ca N n' i' _ w hN hl rfl (by omega) (by omega) h
    · exact NaturalShifts_hi ao ca N n' i' _ w hN hl rfl (by omega) (by omega) (by omega)
end Go.Proofs.Ytgogfjehbaiklaa

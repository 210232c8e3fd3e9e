/- the chapter's example. -/
import Derived.Test.YtfnnfmefihiefaaSpU
namespace Go.Proofs.Ytfnnfmefihiefaa
open Go.RowKit
set_option linter.unusedVariables false
set_option linter.unusedSimpArgs false
theorem wI_of {a : Int} (h : -9223372036854775808 ≤ a ∧ a ≤ 9223372036854775807) : wI a := by
  show (decide (IntKind.i64.min ≤ a) && decide (a ≤ IntKind.i64.max)) = true
  rw [decide_eq_true (show IntKind.i64.min ≤ a from h.1), decide_eq_true (show a ≤ IntKind.i64.max from h.2)]; rfl
set_option maxRecDepth 100000 in
set_option maxHeartbeats 4000000 in
theorem awake_c {D : Nat → Prop}  {w : World}   :
    Calls Try.prog 8 #[] w fun e w' => e = .returned (.bool true) ∧ Below w.heap.size w w' := by
  have E0 : Hid (Env D w [] [] w) := Lib.hid (Env.start D w)
  go_enter Try.func8, Try.ntmps8
  have HWIs := Lib.hid (And.intro (wI_of (a := 5) (by omega)) (wI_of (a := 1) (by omega)))
  have HWIt := Lib.hid (And.intro (wI_of (a := 5) (by omega)) (wI_of (a := 2) (by omega)))
  have HWIu := HWIs
  go_wp2_with fail
  refine (new_c (D := fun _ => True)).mono ?_
  rintro e w1 ⟨rfl, hb⟩
  have E1 : Hid (Env D w [] [] w1) := Lib.hid (E0.out.below hb)
  clear E0 hb
  have E2 : Hid (Env D w [(w1.heap.size, 3, [.int .i64 7, .int .i64 9])] [] _) := Lib.hid ((E1.out.push 3 [.int .i64 7, .int .i64 9] (w1.heap.size) (by simp)))
  go_wp2_with fail
  refine (made_c 5 1 [7, 9] (D := fun _ => True) (Rw.ofBox (cs := icl [7, 9]) (n := 2) (k := 1) (cap := 2) (E2.out.bx 0 rfl) rfl (icl_one _) (by omega) (by omega)) HWIs.out (by simp)).mono ?_
  rintro e w2 ⟨⟨sa, sb, rfl, sh⟩, hb⟩
  have E3 : Hid (Env D w [(w1.heap.size, 3, [.int .i64 7, .int .i64 9])] [.gn (gSp (mkS 5 1 [7, 9]) sa sb)] w2) := Lib.hid (E2.out.got (E2.out.below hb) (.gn (gSp (mkS 5 1 [7, 9]) sa sb)) (Lib.hid (gSp.ge sh.out)).out)
  clear E1 E2 hb
  have E4 : Hid (Env D w [(w1.heap.size, 3, [.int .i64 7, .int .i64 9])] [.gn (gUl (.slice none ([] : List Uv).length 0) []), .gn (gSp (mkS 5 1 [7, 9]) sa sb)] _) := Lib.hid (E3.out.note (.gn (gUl (.slice none ([] : List Uv).length 0) [])) (gUl.nil _ _))
  clear E3
  go_wp2_with fail
  refine (put_t [] (mkS 5 1 [7, 9]) (E4.out.fc 0 rfl) (E4.out.fc 1 rfl) (by intro x hx; cases hx) (st_bd aw1_st) (by simp) (L := awT) (C := []) (n := 0) aw_res1).mono ?_
  rintro e w3 ⟨⟨pa, pk, pX, pc, pj, pY, rfl, p1, p2, pH, pI⟩, hb⟩
  have E5 : Hid (Env D w [(w1.heap.size, 3, [.int .i64 7, .int .i64 9])] [.gn (gUl (.slice pc pY.length pj) pY), .gn (gUl (.slice pa pX.length pk) pX), .gn (gUl (.slice none ([] : List Uv).length 0) []), .gn (gSp (mkS 5 1 [7, 9]) sa sb)] w3) := Lib.hid (E4.out.got (E4.out.got (E4.out.below hb) (.gn (gUl (.slice pa pX.length pk) pX)) pH.out) (.gn (gUl (.slice pc pY.length pj) pY)) pI.out)
  clear E4 hb pH pI
  have pL := Lib.hid p1; have pC := Lib.hid p2; clear p1 p2
  go_upto_region 2 with (fail)
  have E6 : Hid (Env D w [(w3.heap.size, 25, [.slice pa pX.length pk]), (w1.heap.size, 3, [.int .i64 7, .int .i64 9])] [.gn (gUl (.slice pc pY.length pj) pY), .gn (gUl (.slice pa pX.length pk) pX), .gn (gUl (.slice none ([] : List Uv).length 0) []), .gn (gSp (mkS 5 1 [7, 9]) sa sb)] _) := Lib.hid ((E5.out.push 25 [.slice pa pX.length pk] (w3.heap.size) (by simp)))
  clear E5
  generalize w3.alloc (.cells #[.slice pa pX.length pk] 25) = w4 at *
  have HB1 : Hid (ValidT (pX.map Uv.u)) := Lib.hid (by rw [pL.out]; exact awT_valid)
  go_upto_region 2 with (fail)
  go_cut [4, 5, 6] (fun s4 s5 s6 wx => ∃ gq ta tb qa qk qX qc qj qY, s4 = .pointer (some ⟨gq, 0, none⟩) ∧ s5 = .slice qc qY.length qj ∧ s6 = .int .i64 0 ∧ Hid (Env D w [(gq, 25, [.slice qa qX.length qk]), (w3.heap.size, 25, [.slice pa pX.length pk]), (w1.heap.size, 3, [.int .i64 7, .int .i64 9])] [.gn (gUl (.slice qc qY.length qj) qY), .gn (gUl (.slice qa qX.length qk) qX), .gn (gSp (mkS 5 2 [9, 8]) ta tb), .gn (gUl (.slice pc pY.length pj) pY), .gn (gUl (.slice pa pX.length pk) pX), .gn (gUl (.slice none ([] : List Uv).length 0) []), .gn (gSp (mkS 5 1 [7, 9]) sa sb)] wx) ∧ Hid (qX.map Uv.u = awU) ∧ Hid (qY.map Uv.u = [useOf aw1 1]))
  case first =>
    have E7 : Hid (Env D w [(w3.heap.size, 25, [.slice pa pX.length pk]), (w1.heap.size, 3, [.int .i64 7, .int .i64 9])] [.gn (gUl (.slice pc pY.length pj) pY), .gn (gUl (.slice pa pX.length pk) pX), .gn (gUl (.slice none ([] : List Uv).length 0) []), .gn (gSp (mkS 5 1 [7, 9]) sa sb)] (w4.drew)) := Lib.hid E6.out.drew
    clear E6
    refine wp_regionU (S := fun w' => w'.cell? ⟨w3.heap.size, 0, none⟩ = some (.slice pa pX.length pk)) [] (by kernel_rfl) (((E7.out.bx 0 rfl).cell 0 rfl)) (fun hHeld => ?_)
    generalize w4.drew = w5 at *
    refine uTake (i := 0) (some 19) (v := ?_) rfl rfl (by kernel_rfl) (by kernel_rfl) (by kernel_rfl) (by kernel_rfl) (fun _ _ _ h => h) (by rfl) (by assumption) ?_ ?_
    rotate_left
    · (intro wS hSw; (try dsimp only at hSw); go_simp; try with_reducible rfl)
    try simp only [Act.put, List.setIfInBounds_toArray, List.set_cons_zero, List.set_cons_succ]
    refine uReady (rs := [1, 8]) (by kernel_rfl) (by simp) ?_
    refine (ReadyU.cons rfl (fun KK hKK => ?_) (ReadyU.cons rfl (fun KK hKK => ?_) ReadyU.nil))
    · skip
      go_simp
      have E8 : Hid (Env D w [(w5.heap.size, 3, [.int .i64 9, .int .i64 8]), (w3.heap.size, 25, [.slice pa pX.length pk]), (w1.heap.size, 3, [.int .i64 7, .int .i64 9])] [.gn (gUl (.slice pc pY.length pj) pY), .gn (gUl (.slice pa pX.length pk) pX), .gn (gUl (.slice none ([] : List Uv).length 0) []), .gn (gSp (mkS 5 1 [7, 9]) sa sb)] _) := Lib.hid ((E7.out.push 3 [.int .i64 9, .int .i64 8] (w5.heap.size) (by simp)))
      (try dsimp only)
      clear hHeld
      refine hKK.out _ _ (((E8.out.bx 1 rfl).cell 0 rfl)) (fun hHeld => ?_)
      clear hKK KK
      try simp only [Act.put, List.setIfInBounds_toArray, List.set_cons_zero, List.set_cons_succ]
      clear E7
      generalize w5.alloc (.cells #[.int .i64 9, .int .i64 8] 3) = w6 at *
      refine uReady (rs := [2, 8]) (by kernel_rfl) (by simp) ?_
      refine (ReadyU.cons rfl (fun KK hKK => ?_) (ReadyU.cons rfl (fun KK hKK => ?_) ReadyU.nil))
      · skip
        go_simp
        refine (made_c 5 2 [9, 8] (D := fun _ => True) (Rw.ofBox (cs := icl [9, 8]) (n := 2) (k := 1) (cap := 2) (E8.out.bx 0 rfl) rfl (icl_one _) (by omega) (by omega)) HWIt.out (by simp)).mono ?_
        rintro e w7 ⟨⟨ta, tb, rfl, th⟩, hb⟩
        have E9 : Hid (Env D w [(w5.heap.size, 3, [.int .i64 9, .int .i64 8]), (w3.heap.size, 25, [.slice pa pX.length pk]), (w1.heap.size, 3, [.int .i64 7, .int .i64 9])] [.gn (gSp (mkS 5 2 [9, 8]) ta tb), .gn (gUl (.slice pc pY.length pj) pY), .gn (gUl (.slice pa pX.length pk) pX), .gn (gUl (.slice none ([] : List Uv).length 0) []), .gn (gSp (mkS 5 1 [7, 9]) sa sb)] w7) := Lib.hid (E8.out.got (E8.out.below hb) (.gn (gSp (mkS 5 2 [9, 8]) ta tb)) (Lib.hid (gSp.ge th.out)).out)
        clear E8 hb
        (try dsimp only)
        clear hHeld
        refine hKK.out _ _ (((E9.out.bx 1 rfl).cell 0 rfl)) (fun hHeld => ?_)
        clear hKK KK
        try simp only [Act.put, List.setIfInBounds_toArray, List.set_cons_zero, List.set_cons_succ]
        refine uReady (rs := [3, 8]) (by kernel_rfl) (by simp) ?_
        refine (ReadyU.cons rfl (fun KK hKK => ?_) (ReadyU.cons rfl (fun KK hKK => ?_) ReadyU.nil))
        · skip
          go_simp
          refine (put_t pX (mkS 5 2 [9, 8]) (E9.out.fc 2 rfl) (E9.out.fc 0 rfl) (valid_bd HB1.out) (st_bd aw2_st) (Nat.le_trans (valid_len HB1.out) (by omega)) (L := awU) (C := [useOf aw1 1]) (n := 0) (by rw [pL.out]; exact aw_res2)).mono ?_
          rintro e w8 ⟨⟨qa, qk, qX, qc, qj, qY, rfl, q1, q2, qH, qI⟩, hb⟩
          have E10 : Hid (Env D w [(w5.heap.size, 3, [.int .i64 9, .int .i64 8]), (w3.heap.size, 25, [.slice pa pX.length pk]), (w1.heap.size, 3, [.int .i64 7, .int .i64 9])] [.gn (gUl (.slice qc qY.length qj) qY), .gn (gUl (.slice qa qX.length qk) qX), .gn (gSp (mkS 5 2 [9, 8]) ta tb), .gn (gUl (.slice pc pY.length pj) pY), .gn (gUl (.slice pa pX.length pk) pX), .gn (gUl (.slice none ([] : List Uv).length 0) []), .gn (gSp (mkS 5 1 [7, 9]) sa sb)] w8) := Lib.hid (E9.out.got (E9.out.got (E9.out.below hb) (.gn (gUl (.slice qa qX.length qk) qX)) qH.out) (.gn (gUl (.slice qc qY.length qj) qY)) qI.out)
          clear E9 hb qH qI
          have qL := Lib.hid q1; have qC := Lib.hid q2; clear q1 q2
          (try dsimp only)
          clear hHeld
          refine hKK.out _ _ (((E10.out.bx 1 rfl).cell 0 rfl)) (fun hHeld => ?_)
          clear hKK KK
          try simp only [Act.put, List.setIfInBounds_toArray, List.set_cons_zero, List.set_cons_succ]
          refine uTake (i := 4) (some 18) (v := ?_) rfl rfl (by kernel_rfl) (by kernel_rfl) (by kernel_rfl) (by kernel_rfl) (fun _ _ _ h => h) (by rfl) (by assumption) ?_ ?_
          rotate_left
          · (intro wS hSw; (try dsimp only at hSw); go_simp; try with_reducible rfl)
          try simp only [Act.put, List.setIfInBounds_toArray, List.set_cons_zero, List.set_cons_succ]
          refine uTake (i := 5) (some 23) (v := ?_) rfl rfl (by kernel_rfl) (by kernel_rfl) (by kernel_rfl) (by kernel_rfl) (fun _ _ _ h => h) (by rfl) (by assumption) ?_ ?_
          rotate_left
          · (intro wS hSw; (try dsimp only at hSw); go_simp; try with_reducible rfl)
          try simp only [Act.put, List.setIfInBounds_toArray, List.set_cons_zero, List.set_cons_succ]
          refine uTake (i := 6) (some 24) (v := ?_) rfl rfl (by kernel_rfl) (by kernel_rfl) (by kernel_rfl) (by kernel_rfl) (fun _ _ _ h => h) (by rfl) (by assumption) ?_ ?_
          rotate_left
          · (intro wS hSw; (try dsimp only at hSw); go_simp; try with_reducible rfl)
          try simp only [Act.put, List.setIfInBounds_toArray, List.set_cons_zero, List.set_cons_succ]
          refine uTake (i := 7) (some 25) (v := ?_) rfl rfl (by kernel_rfl) (by kernel_rfl) (by kernel_rfl) (by kernel_rfl) (fun _ _ _ h => h) (by rfl) (by assumption) ?_ ?_
          rotate_left
          · (intro wS hSw; (try dsimp only at hSw); go_simp; try with_reducible rfl)
          try simp only [Act.put, List.setIfInBounds_toArray, List.set_cons_zero, List.set_cons_succ]
          refine uReady (rs := [8]) (by kernel_rfl) (by simp) ?_
          refine ReadyU.cons rfl (fun KK hKK => ?_) ReadyU.nil
          go_simp
          have E11 : Hid (Env D w [(w8.heap.size, 25, [.slice none 0 0]), (w5.heap.size, 3, [.int .i64 9, .int .i64 8]), (w3.heap.size, 25, [.slice pa pX.length pk]), (w1.heap.size, 3, [.int .i64 7, .int .i64 9])] [.gn (gUl (.slice qc qY.length qj) qY), .gn (gUl (.slice qa qX.length qk) qX), .gn (gSp (mkS 5 2 [9, 8]) ta tb), .gn (gUl (.slice pc pY.length pj) pY), .gn (gUl (.slice pa pX.length pk) pX), .gn (gUl (.slice none ([] : List Uv).length 0) []), .gn (gSp (mkS 5 1 [7, 9]) sa sb)] _) := Lib.hid ((E10.out.push 25 [.slice none 0 0] (w8.heap.size) (by simp)))
          (try dsimp only)
          clear hHeld
          refine hKK.out _ _ (((E11.out.bx 2 rfl).cell 0 rfl)) (fun hHeld => ?_)
          clear hKK KK
          try simp only [Act.put, List.setIfInBounds_toArray, List.set_cons_zero, List.set_cons_succ]
          clear E10
          generalize w8.alloc (.cells #[.slice none 0 0] 25) = w9 at *
          have b1 := E11.out.bx 0 rfl
          have c1_0 := b1.cell 0 rfl
          have f1_0 := b1.frozen 0
          clear b1
          refine uReady (rs := [9]) (by kernel_rfl) (by simp) ?_
          refine ReadyU.cons rfl (fun KK hKK => ?_) ReadyU.nil
          go_simp
          have E12 : Hid (Env D w [(w8.heap.size, 25, [.slice qa qX.length qk]), (w5.heap.size, 3, [.int .i64 9, .int .i64 8]), (w3.heap.size, 25, [.slice pa pX.length pk]), (w1.heap.size, 3, [.int .i64 7, .int .i64 9])] [.gn (gUl (.slice qc qY.length qj) qY), .gn (gUl (.slice qa qX.length qk) qX), .gn (gSp (mkS 5 2 [9, 8]) ta tb), .gn (gUl (.slice pc pY.length pj) pY), .gn (gUl (.slice pa pX.length pk) pX), .gn (gUl (.slice none ([] : List Uv).length 0) []), .gn (gSp (mkS 5 1 [7, 9]) sa sb)] _) := Lib.hid ((E11.out.set 0 0 (.slice qa qX.length qk) rfl))
          (try dsimp only)
          clear hHeld
          refine hKK.out _ _ (((E12.out.bx 2 rfl).cell 0 rfl)) (fun hHeld => ?_)
          clear hKK KK
          try simp only [Act.put, List.setIfInBounds_toArray, List.set_cons_zero, List.set_cons_succ]
          refine uTake (i := 10) (some 5) (v := ?_) rfl rfl (by kernel_rfl) (by kernel_rfl) (by kernel_rfl) (by kernel_rfl) (fun _ _ _ h => h) (by rfl) (by assumption) ?_ ?_
          rotate_left
          · (intro wS hSw; (try dsimp only at hSw); go_simp; try with_reducible rfl)
          try simp only [Act.put, List.setIfInBounds_toArray, List.set_cons_zero, List.set_cons_succ]
          refine uTake (i := 11) (some 6) (v := ?_) rfl rfl (by kernel_rfl) (by kernel_rfl) (by kernel_rfl) (by kernel_rfl) (fun _ _ _ h => h) (by rfl) (by assumption) ?_ ?_
          rotate_left
          · (intro wS hSw; (try dsimp only at hSw); go_simp; try with_reducible rfl)
          try simp only [Act.put, List.setIfInBounds_toArray, List.set_cons_zero, List.set_cons_succ]
          refine uDone (by kernel_rfl) ?_ _
          go_wp2_with fail
          go_meet
          exact ⟨w8.heap.size, ta, tb, qa, qk, qX, qc, qj, qY, rfl, rfl, rfl, Lib.hid ((Env.perm (F' := [(w5.heap.size, 3, [.int .i64 9, .int .i64 8]), (w8.heap.size, 25, [.slice qa qX.length qk]), (w3.heap.size, 25, [.slice pa pX.length pk]), (w1.heap.size, 3, [.int .i64 7, .int .i64 9])]) E12.out (List.Perm.swap ..)).drop), qL, qC⟩
        · skip
          go_simp
          have E10 : Hid (Env D w [(w7.heap.size, 25, [.slice none 0 0]), (w5.heap.size, 3, [.int .i64 9, .int .i64 8]), (w3.heap.size, 25, [.slice pa pX.length pk]), (w1.heap.size, 3, [.int .i64 7, .int .i64 9])] [.gn (gSp (mkS 5 2 [9, 8]) ta tb), .gn (gUl (.slice pc pY.length pj) pY), .gn (gUl (.slice pa pX.length pk) pX), .gn (gUl (.slice none ([] : List Uv).length 0) []), .gn (gSp (mkS 5 1 [7, 9]) sa sb)] _) := Lib.hid ((E9.out.push 25 [.slice none 0 0] (w7.heap.size) (by simp)))
          (try dsimp only)
          clear hHeld
          refine hKK.out _ _ (((E10.out.bx 2 rfl).cell 0 rfl)) (fun hHeld => ?_)
          clear hKK KK
          try simp only [Act.put, List.setIfInBounds_toArray, List.set_cons_zero, List.set_cons_succ]
          clear E9
          generalize w7.alloc (.cells #[.slice none 0 0] 25) = w8 at *
          refine uReady (rs := [3]) (by kernel_rfl) (by simp) ?_
          refine ReadyU.cons rfl (fun KK hKK => ?_) ReadyU.nil
          go_simp
          refine (put_t pX (mkS 5 2 [9, 8]) (E10.out.fc 2 rfl) (E10.out.fc 0 rfl) (valid_bd HB1.out) (st_bd aw2_st) (Nat.le_trans (valid_len HB1.out) (by omega)) (L := awU) (C := [useOf aw1 1]) (n := 0) (by rw [pL.out]; exact aw_res2)).mono ?_
          rintro e w9 ⟨⟨qa, qk, qX, qc, qj, qY, rfl, q1, q2, qH, qI⟩, hb⟩
          have E11 : Hid (Env D w [(w7.heap.size, 25, [.slice none 0 0]), (w5.heap.size, 3, [.int .i64 9, .int .i64 8]), (w3.heap.size, 25, [.slice pa pX.length pk]), (w1.heap.size, 3, [.int .i64 7, .int .i64 9])] [.gn (gUl (.slice qc qY.length qj) qY), .gn (gUl (.slice qa qX.length qk) qX), .gn (gSp (mkS 5 2 [9, 8]) ta tb), .gn (gUl (.slice pc pY.length pj) pY), .gn (gUl (.slice pa pX.length pk) pX), .gn (gUl (.slice none ([] : List Uv).length 0) []), .gn (gSp (mkS 5 1 [7, 9]) sa sb)] w9) := Lib.hid (E10.out.got (E10.out.got (E10.out.below hb) (.gn (gUl (.slice qa qX.length qk) qX)) qH.out) (.gn (gUl (.slice qc qY.length qj) qY)) qI.out)
          clear E10 hb qH qI
          have qL := Lib.hid q1; have qC := Lib.hid q2; clear q1 q2
          (try dsimp only)
          clear hHeld
          refine hKK.out _ _ (((E11.out.bx 2 rfl).cell 0 rfl)) (fun hHeld => ?_)
          clear hKK KK
          try simp only [Act.put, List.setIfInBounds_toArray, List.set_cons_zero, List.set_cons_succ]
          refine uTake (i := 4) (some 18) (v := ?_) rfl rfl (by kernel_rfl) (by kernel_rfl) (by kernel_rfl) (by kernel_rfl) (fun _ _ _ h => h) (by rfl) (by assumption) ?_ ?_
          rotate_left
          · (intro wS hSw; (try dsimp only at hSw); go_simp; try with_reducible rfl)
          try simp only [Act.put, List.setIfInBounds_toArray, List.set_cons_zero, List.set_cons_succ]
          refine uTake (i := 5) (some 23) (v := ?_) rfl rfl (by kernel_rfl) (by kernel_rfl) (by kernel_rfl) (by kernel_rfl) (fun _ _ _ h => h) (by rfl) (by assumption) ?_ ?_
          rotate_left
          · (intro wS hSw; (try dsimp only at hSw); go_simp; try with_reducible rfl)
          try simp only [Act.put, List.setIfInBounds_toArray, List.set_cons_zero, List.set_cons_succ]
          refine uTake (i := 6) (some 24) (v := ?_) rfl rfl (by kernel_rfl) (by kernel_rfl) (by kernel_rfl) (by kernel_rfl) (fun _ _ _ h => h) (by rfl) (by assumption) ?_ ?_
          rotate_left
          · (intro wS hSw; (try dsimp only at hSw); go_simp; try with_reducible rfl)
          try simp only [Act.put, List.setIfInBounds_toArray, List.set_cons_zero, List.set_cons_succ]
          refine uTake (i := 7) (some 25) (v := ?_) rfl rfl (by kernel_rfl) (by kernel_rfl) (by kernel_rfl) (by kernel_rfl) (fun _ _ _ h => h) (by rfl) (by assumption) ?_ ?_
          rotate_left
          · (intro wS hSw; (try dsimp only at hSw); go_simp; try with_reducible rfl)
          try simp only [Act.put, List.setIfInBounds_toArray, List.set_cons_zero, List.set_cons_succ]
          have b1 := E11.out.bx 0 rfl
          have c1_0 := b1.cell 0 rfl
          have f1_0 := b1.frozen 0
          clear b1
          refine uReady (rs := [9]) (by kernel_rfl) (by simp) ?_
          refine ReadyU.cons rfl (fun KK hKK => ?_) ReadyU.nil
          go_simp
          have E12 : Hid (Env D w [(w7.heap.size, 25, [.slice qa qX.length qk]), (w5.heap.size, 3, [.int .i64 9, .int .i64 8]), (w3.heap.size, 25, [.slice pa pX.length pk]), (w1.heap.size, 3, [.int .i64 7, .int .i64 9])] [.gn (gUl (.slice qc qY.length qj) qY), .gn (gUl (.slice qa qX.length qk) qX), .gn (gSp (mkS 5 2 [9, 8]) ta tb), .gn (gUl (.slice pc pY.length pj) pY), .gn (gUl (.slice pa pX.length pk) pX), .gn (gUl (.slice none ([] : List Uv).length 0) []), .gn (gSp (mkS 5 1 [7, 9]) sa sb)] _) := Lib.hid ((E11.out.set 0 0 (.slice qa qX.length qk) rfl))
          (try dsimp only)
          clear hHeld
          refine hKK.out _ _ (((E12.out.bx 2 rfl).cell 0 rfl)) (fun hHeld => ?_)
          clear hKK KK
          try simp only [Act.put, List.setIfInBounds_toArray, List.set_cons_zero, List.set_cons_succ]
          refine uTake (i := 10) (some 5) (v := ?_) rfl rfl (by kernel_rfl) (by kernel_rfl) (by kernel_rfl) (by kernel_rfl) (fun _ _ _ h => h) (by rfl) (by assumption) ?_ ?_
          rotate_left
          · (intro wS hSw; (try dsimp only at hSw); go_simp; try with_reducible rfl)
          try simp only [Act.put, List.setIfInBounds_toArray, List.set_cons_zero, List.set_cons_succ]
          refine uTake (i := 11) (some 6) (v := ?_) rfl rfl (by kernel_rfl) (by kernel_rfl) (by kernel_rfl) (by kernel_rfl) (fun _ _ _ h => h) (by rfl) (by assumption) ?_ ?_
          rotate_left
          · (intro wS hSw; (try dsimp only at hSw); go_simp; try with_reducible rfl)
          try simp only [Act.put, List.setIfInBounds_toArray, List.set_cons_zero, List.set_cons_succ]
          refine uDone (by kernel_rfl) ?_ _
          go_wp2_with fail
          go_meet
          exact ⟨w7.heap.size, ta, tb, qa, qk, qX, qc, qj, qY, rfl, rfl, rfl, Lib.hid ((Env.perm (F' := [(w5.heap.size, 3, [.int .i64 9, .int .i64 8]), (w7.heap.size, 25, [.slice qa qX.length qk]), (w3.heap.size, 25, [.slice pa pX.length pk]), (w1.heap.size, 3, [.int .i64 7, .int .i64 9])]) E12.out (List.Perm.swap ..)).drop), qL, qC⟩
      · skip
        go_simp
        have E9 : Hid (Env D w [(w6.heap.size, 25, [.slice none 0 0]), (w5.heap.size, 3, [.int .i64 9, .int .i64 8]), (w3.heap.size, 25, [.slice pa pX.length pk]), (w1.heap.size, 3, [.int .i64 7, .int .i64 9])] [.gn (gUl (.slice pc pY.length pj) pY), .gn (gUl (.slice pa pX.length pk) pX), .gn (gUl (.slice none ([] : List Uv).length 0) []), .gn (gSp (mkS 5 1 [7, 9]) sa sb)] _) := Lib.hid ((E8.out.push 25 [.slice none 0 0] (w6.heap.size) (by simp)))
        (try dsimp only)
        clear hHeld
        refine hKK.out _ _ (((E9.out.bx 2 rfl).cell 0 rfl)) (fun hHeld => ?_)
        clear hKK KK
        try simp only [Act.put, List.setIfInBounds_toArray, List.set_cons_zero, List.set_cons_succ]
        clear E8
        generalize w6.alloc (.cells #[.slice none 0 0] 25) = w7 at *
        refine uReady (rs := [2]) (by kernel_rfl) (by simp) ?_
        refine ReadyU.cons rfl (fun KK hKK => ?_) ReadyU.nil
        go_simp
        refine (made_c 5 2 [9, 8] (D := fun _ => True) (Rw.ofBox (cs := icl [9, 8]) (n := 2) (k := 1) (cap := 2) (E9.out.bx 1 rfl) rfl (icl_one _) (by omega) (by omega)) HWIt.out (by simp)).mono ?_
        rintro e w8 ⟨⟨ta, tb, rfl, th⟩, hb⟩
        have E10 : Hid (Env D w [(w6.heap.size, 25, [.slice none 0 0]), (w5.heap.size, 3, [.int .i64 9, .int .i64 8]), (w3.heap.size, 25, [.slice pa pX.length pk]), (w1.heap.size, 3, [.int .i64 7, .int .i64 9])] [.gn (gSp (mkS 5 2 [9, 8]) ta tb), .gn (gUl (.slice pc pY.length pj) pY), .gn (gUl (.slice pa pX.length pk) pX), .gn (gUl (.slice none ([] : List Uv).length 0) []), .gn (gSp (mkS 5 1 [7, 9]) sa sb)] w8) := Lib.hid (E9.out.got (E9.out.below hb) (.gn (gSp (mkS 5 2 [9, 8]) ta tb)) (Lib.hid (gSp.ge th.out)).out)
        clear E9 hb
        (try dsimp only)
        clear hHeld
        refine hKK.out _ _ (((E10.out.bx 2 rfl).cell 0 rfl)) (fun hHeld => ?_)
        clear hKK KK
        try simp only [Act.put, List.setIfInBounds_toArray, List.set_cons_zero, List.set_cons_succ]
        refine uReady (rs := [3]) (by kernel_rfl) (by simp) ?_
        refine ReadyU.cons rfl (fun KK hKK => ?_) ReadyU.nil
        go_simp
        refine (put_t pX (mkS 5 2 [9, 8]) (E10.out.fc 2 rfl) (E10.out.fc 0 rfl) (valid_bd HB1.out) (st_bd aw2_st) (Nat.le_trans (valid_len HB1.out) (by omega)) (L := awU) (C := [useOf aw1 1]) (n := 0) (by rw [pL.out]; exact aw_res2)).mono ?_
        rintro e w9 ⟨⟨qa, qk, qX, qc, qj, qY, rfl, q1, q2, qH, qI⟩, hb⟩
        have E11 : Hid (Env D w [(w6.heap.size, 25, [.slice none 0 0]), (w5.heap.size, 3, [.int .i64 9, .int .i64 8]), (w3.heap.size, 25, [.slice pa pX.length pk]), (w1.heap.size, 3, [.int .i64 7, .int .i64 9])] [.gn (gUl (.slice qc qY.length qj) qY), .gn (gUl (.slice qa qX.length qk) qX), .gn (gSp (mkS 5 2 [9, 8]) ta tb), .gn (gUl (.slice pc pY.length pj) pY), .gn (gUl (.slice pa pX.length pk) pX), .gn (gUl (.slice none ([] : List Uv).length 0) []), .gn (gSp (mkS 5 1 [7, 9]) sa sb)] w9) := Lib.hid (E10.out.got (E10.out.got (E10.out.below hb) (.gn (gUl (.slice qa qX.length qk) qX)) qH.out) (.gn (gUl (.slice qc qY.length qj) qY)) qI.out)
        clear E10 hb qH qI
        have qL := Lib.hid q1; have qC := Lib.hid q2; clear q1 q2
        (try dsimp only)
        clear hHeld
        refine hKK.out _ _ (((E11.out.bx 2 rfl).cell 0 rfl)) (fun hHeld => ?_)
        clear hKK KK
        try simp only [Act.put, List.setIfInBounds_toArray, List.set_cons_zero, List.set_cons_succ]
        refine uTake (i := 4) (some 18) (v := ?_) rfl rfl (by kernel_rfl) (by kernel_rfl) (by kernel_rfl) (by kernel_rfl) (fun _ _ _ h => h) (by rfl) (by assumption) ?_ ?_
        rotate_left
        · (intro wS hSw; (try dsimp only at hSw); go_simp; try with_reducible rfl)
        try simp only [Act.put, List.setIfInBounds_toArray, List.set_cons_zero, List.set_cons_succ]
        refine uTake (i := 5) (some 23) (v := ?_) rfl rfl (by kernel_rfl) (by kernel_rfl) (by kernel_rfl) (by kernel_rfl) (fun _ _ _ h => h) (by rfl) (by assumption) ?_ ?_
        rotate_left
        · (intro wS hSw; (try dsimp only at hSw); go_simp; try with_reducible rfl)
        try simp only [Act.put, List.setIfInBounds_toArray, List.set_cons_zero, List.set_cons_succ]
        refine uTake (i := 6) (some 24) (v := ?_) rfl rfl (by kernel_rfl) (by kernel_rfl) (by kernel_rfl) (by kernel_rfl) (fun _ _ _ h => h) (by rfl) (by assumption) ?_ ?_
        rotate_left
        · (intro wS hSw; (try dsimp only at hSw); go_simp; try with_reducible rfl)
        try simp only [Act.put, List.setIfInBounds_toArray, List.set_cons_zero, List.set_cons_succ]
        refine uTake (i := 7) (some 25) (v := ?_) rfl rfl (by kernel_rfl) (by kernel_rfl) (by kernel_rfl) (by kernel_rfl) (fun _ _ _ h => h) (by rfl) (by assumption) ?_ ?_
        rotate_left
        · (intro wS hSw; (try dsimp only at hSw); go_simp; try with_reducible rfl)
        try simp only [Act.put, List.setIfInBounds_toArray, List.set_cons_zero, List.set_cons_succ]
        have b1 := E11.out.bx 0 rfl
        have c1_0 := b1.cell 0 rfl
        have f1_0 := b1.frozen 0
        clear b1
        refine uReady (rs := [9]) (by kernel_rfl) (by simp) ?_
        refine ReadyU.cons rfl (fun KK hKK => ?_) ReadyU.nil
        go_simp
        have E12 : Hid (Env D w [(w6.heap.size, 25, [.slice qa qX.length qk]), (w5.heap.size, 3, [.int .i64 9, .int .i64 8]), (w3.heap.size, 25, [.slice pa pX.length pk]), (w1.heap.size, 3, [.int .i64 7, .int .i64 9])] [.gn (gUl (.slice qc qY.length qj) qY), .gn (gUl (.slice qa qX.length qk) qX), .gn (gSp (mkS 5 2 [9, 8]) ta tb), .gn (gUl (.slice pc pY.length pj) pY), .gn (gUl (.slice pa pX.length pk) pX), .gn (gUl (.slice none ([] : List Uv).length 0) []), .gn (gSp (mkS 5 1 [7, 9]) sa sb)] _) := Lib.hid ((E11.out.set 0 0 (.slice qa qX.length qk) rfl))
        (try dsimp only)
        clear hHeld
        refine hKK.out _ _ (((E12.out.bx 2 rfl).cell 0 rfl)) (fun hHeld => ?_)
        clear hKK KK
        try simp only [Act.put, List.setIfInBounds_toArray, List.set_cons_zero, List.set_cons_succ]
        refine uTake (i := 10) (some 5) (v := ?_) rfl rfl (by kernel_rfl) (by kernel_rfl) (by kernel_rfl) (by kernel_rfl) (fun _ _ _ h => h) (by rfl) (by assumption) ?_ ?_
        rotate_left
        · (intro wS hSw; (try dsimp only at hSw); go_simp; try with_reducible rfl)
        try simp only [Act.put, List.setIfInBounds_toArray, List.set_cons_zero, List.set_cons_succ]
        refine uTake (i := 11) (some 6) (v := ?_) rfl rfl (by kernel_rfl) (by kernel_rfl) (by kernel_rfl) (by kernel_rfl) (fun _ _ _ h => h) (by rfl) (by assumption) ?_ ?_
        rotate_left
        · (intro wS hSw; (try dsimp only at hSw); go_simp; try with_reducible rfl)
        try simp only [Act.put, List.setIfInBounds_toArray, List.set_cons_zero, List.set_cons_succ]
        refine uDone (by kernel_rfl) ?_ _
        go_wp2_with fail
        go_meet
        exact ⟨w6.heap.size, ta, tb, qa, qk, qX, qc, qj, qY, rfl, rfl, rfl, Lib.hid ((Env.perm (F' := [(w5.heap.size, 3, [.int .i64 9, .int .i64 8]), (w6.heap.size, 25, [.slice qa qX.length qk]), (w3.heap.size, 25, [.slice pa pX.length pk]), (w1.heap.size, 3, [.int .i64 7, .int .i64 9])]) E12.out (List.Perm.swap ..)).drop), qL, qC⟩
    · skip
      go_simp
      have E8 : Hid (Env D w [(w5.heap.size, 25, [.slice none 0 0]), (w3.heap.size, 25, [.slice pa pX.length pk]), (w1.heap.size, 3, [.int .i64 7, .int .i64 9])] [.gn (gUl (.slice pc pY.length pj) pY), .gn (gUl (.slice pa pX.length pk) pX), .gn (gUl (.slice none ([] : List Uv).length 0) []), .gn (gSp (mkS 5 1 [7, 9]) sa sb)] _) := Lib.hid ((E7.out.push 25 [.slice none 0 0] (w5.heap.size) (by simp)))
      (try dsimp only)
      clear hHeld
      refine hKK.out _ _ (((E8.out.bx 1 rfl).cell 0 rfl)) (fun hHeld => ?_)
      clear hKK KK
      try simp only [Act.put, List.setIfInBounds_toArray, List.set_cons_zero, List.set_cons_succ]
      clear E7
      generalize w5.alloc (.cells #[.slice none 0 0] 25) = w6 at *
      refine uReady (rs := [1]) (by kernel_rfl) (by simp) ?_
      refine ReadyU.cons rfl (fun KK hKK => ?_) ReadyU.nil
      go_simp
      have E9 : Hid (Env D w [(w6.heap.size, 3, [.int .i64 9, .int .i64 8]), (w5.heap.size, 25, [.slice none 0 0]), (w3.heap.size, 25, [.slice pa pX.length pk]), (w1.heap.size, 3, [.int .i64 7, .int .i64 9])] [.gn (gUl (.slice pc pY.length pj) pY), .gn (gUl (.slice pa pX.length pk) pX), .gn (gUl (.slice none ([] : List Uv).length 0) []), .gn (gSp (mkS 5 1 [7, 9]) sa sb)] _) := Lib.hid ((E8.out.push 3 [.int .i64 9, .int .i64 8] (w6.heap.size) (by simp)))
      (try dsimp only)
      clear hHeld
      refine hKK.out _ _ (((E9.out.bx 2 rfl).cell 0 rfl)) (fun hHeld => ?_)
      clear hKK KK
      try simp only [Act.put, List.setIfInBounds_toArray, List.set_cons_zero, List.set_cons_succ]
      clear E8
      generalize w6.alloc (.cells #[.int .i64 9, .int .i64 8] 3) = w7 at *
      refine uReady (rs := [2]) (by kernel_rfl) (by simp) ?_
      refine ReadyU.cons rfl (fun KK hKK => ?_) ReadyU.nil
      go_simp
      refine (made_c 5 2 [9, 8] (D := fun _ => True) (Rw.ofBox (cs := icl [9, 8]) (n := 2) (k := 1) (cap := 2) (E9.out.bx 0 rfl) rfl (icl_one _) (by omega) (by omega)) HWIt.out (by simp)).mono ?_
      rintro e w8 ⟨⟨ta, tb, rfl, th⟩, hb⟩
      have E10 : Hid (Env D w [(w6.heap.size, 3, [.int .i64 9, .int .i64 8]), (w5.heap.size, 25, [.slice none 0 0]), (w3.heap.size, 25, [.slice pa pX.length pk]), (w1.heap.size, 3, [.int .i64 7, .int .i64 9])] [.gn (gSp (mkS 5 2 [9, 8]) ta tb), .gn (gUl (.slice pc pY.length pj) pY), .gn (gUl (.slice pa pX.length pk) pX), .gn (gUl (.slice none ([] : List Uv).length 0) []), .gn (gSp (mkS 5 1 [7, 9]) sa sb)] w8) := Lib.hid (E9.out.got (E9.out.below hb) (.gn (gSp (mkS 5 2 [9, 8]) ta tb)) (Lib.hid (gSp.ge th.out)).out)
      clear E9 hb
      (try dsimp only)
      clear hHeld
      refine hKK.out _ _ (((E10.out.bx 2 rfl).cell 0 rfl)) (fun hHeld => ?_)
      clear hKK KK
      try simp only [Act.put, List.setIfInBounds_toArray, List.set_cons_zero, List.set_cons_succ]
      refine uReady (rs := [3]) (by kernel_rfl) (by simp) ?_
      refine ReadyU.cons rfl (fun KK hKK => ?_) ReadyU.nil
      go_simp
      refine (put_t pX (mkS 5 2 [9, 8]) (E10.out.fc 2 rfl) (E10.out.fc 0 rfl) (valid_bd HB1.out) (st_bd aw2_st) (Nat.le_trans (valid_len HB1.out) (by omega)) (L := awU) (C := [useOf aw1 1]) (n := 0) (by rw [pL.out]; exact aw_res2)).mono ?_
      rintro e w9 ⟨⟨qa, qk, qX, qc, qj, qY, rfl, q1, q2, qH, qI⟩, hb⟩
      have E11 : Hid (Env D w [(w6.heap.size, 3, [.int .i64 9, .int .i64 8]), (w5.heap.size, 25, [.slice none 0 0]), (w3.heap.size, 25, [.slice pa pX.length pk]), (w1.heap.size, 3, [.int .i64 7, .int .i64 9])] [.gn (gUl (.slice qc qY.length qj) qY), .gn (gUl (.slice qa qX.length qk) qX), .gn (gSp (mkS 5 2 [9, 8]) ta tb), .gn (gUl (.slice pc pY.length pj) pY), .gn (gUl (.slice pa pX.length pk) pX), .gn (gUl (.slice none ([] : List Uv).length 0) []), .gn (gSp (mkS 5 1 [7, 9]) sa sb)] w9) := Lib.hid (E10.out.got (E10.out.got (E10.out.below hb) (.gn (gUl (.slice qa qX.length qk) qX)) qH.out) (.gn (gUl (.slice qc qY.length qj) qY)) qI.out)
      clear E10 hb qH qI
      have qL := Lib.hid q1; have qC := Lib.hid q2; clear q1 q2
      (try dsimp only)
      clear hHeld
      refine hKK.out _ _ (((E11.out.bx 2 rfl).cell 0 rfl)) (fun hHeld => ?_)
      clear hKK KK
      try simp only [Act.put, List.setIfInBounds_toArray, List.set_cons_zero, List.set_cons_succ]
      refine uTake (i := 4) (some 18) (v := ?_) rfl rfl (by kernel_rfl) (by kernel_rfl) (by kernel_rfl) (by kernel_rfl) (fun _ _ _ h => h) (by rfl) (by assumption) ?_ ?_
      rotate_left
      · (intro wS hSw; (try dsimp only at hSw); go_simp; try with_reducible rfl)
      try simp only [Act.put, List.setIfInBounds_toArray, List.set_cons_zero, List.set_cons_succ]
      refine uTake (i := 5) (some 23) (v := ?_) rfl rfl (by kernel_rfl) (by kernel_rfl) (by kernel_rfl) (by kernel_rfl) (fun _ _ _ h => h) (by rfl) (by assumption) ?_ ?_
      rotate_left
      · (intro wS hSw; (try dsimp only at hSw); go_simp; try with_reducible rfl)
      try simp only [Act.put, List.setIfInBounds_toArray, List.set_cons_zero, List.set_cons_succ]
      refine uTake (i := 6) (some 24) (v := ?_) rfl rfl (by kernel_rfl) (by kernel_rfl) (by kernel_rfl) (by kernel_rfl) (fun _ _ _ h => h) (by rfl) (by assumption) ?_ ?_
      rotate_left
      · (intro wS hSw; (try dsimp only at hSw); go_simp; try with_reducible rfl)
      try simp only [Act.put, List.setIfInBounds_toArray, List.set_cons_zero, List.set_cons_succ]
      refine uTake (i := 7) (some 25) (v := ?_) rfl rfl (by kernel_rfl) (by kernel_rfl) (by kernel_rfl) (by kernel_rfl) (fun _ _ _ h => h) (by rfl) (by assumption) ?_ ?_
      rotate_left
      · (intro wS hSw; (try dsimp only at hSw); go_simp; try with_reducible rfl)
      try simp only [Act.put, List.setIfInBounds_toArray, List.set_cons_zero, List.set_cons_succ]
      have b1 := E11.out.bx 1 rfl
      have c1_0 := b1.cell 0 rfl
      have f1_0 := b1.frozen 0
      clear b1
      refine uReady (rs := [9]) (by kernel_rfl) (by simp) ?_
      refine ReadyU.cons rfl (fun KK hKK => ?_) ReadyU.nil
      go_simp
      have E12 : Hid (Env D w [(w6.heap.size, 3, [.int .i64 9, .int .i64 8]), (w5.heap.size, 25, [.slice qa qX.length qk]), (w3.heap.size, 25, [.slice pa pX.length pk]), (w1.heap.size, 3, [.int .i64 7, .int .i64 9])] [.gn (gUl (.slice qc qY.length qj) qY), .gn (gUl (.slice qa qX.length qk) qX), .gn (gSp (mkS 5 2 [9, 8]) ta tb), .gn (gUl (.slice pc pY.length pj) pY), .gn (gUl (.slice pa pX.length pk) pX), .gn (gUl (.slice none ([] : List Uv).length 0) []), .gn (gSp (mkS 5 1 [7, 9]) sa sb)] _) := Lib.hid ((E11.out.set 1 0 (.slice qa qX.length qk) rfl))
      (try dsimp only)
      clear hHeld
      refine hKK.out _ _ (((E12.out.bx 2 rfl).cell 0 rfl)) (fun hHeld => ?_)
      clear hKK KK
      try simp only [Act.put, List.setIfInBounds_toArray, List.set_cons_zero, List.set_cons_succ]
      refine uTake (i := 10) (some 5) (v := ?_) rfl rfl (by kernel_rfl) (by kernel_rfl) (by kernel_rfl) (by kernel_rfl) (fun _ _ _ h => h) (by rfl) (by assumption) ?_ ?_
      rotate_left
      · (intro wS hSw; (try dsimp only at hSw); go_simp; try with_reducible rfl)
      try simp only [Act.put, List.setIfInBounds_toArray, List.set_cons_zero, List.set_cons_succ]
      refine uTake (i := 11) (some 6) (v := ?_) rfl rfl (by kernel_rfl) (by kernel_rfl) (by kernel_rfl) (by kernel_rfl) (fun _ _ _ h => h) (by rfl) (by assumption) ?_ ?_
      rotate_left
      · (intro wS hSw; (try dsimp only at hSw); go_simp; try with_reducible rfl)
      try simp only [Act.put, List.setIfInBounds_toArray, List.set_cons_zero, List.set_cons_succ]
      refine uDone (by kernel_rfl) ?_ _
      go_wp2_with fail
      go_meet
      exact ⟨w5.heap.size, ta, tb, qa, qk, qX, qc, qj, qY, rfl, rfl, rfl, Lib.hid (E12.out.drop), qL, qC⟩
  case rest =>
    obtain ⟨gq, ta, tb, qa, qk, qX, qc, qj, qY, rfl, rfl, rfl, E13, qL, qC⟩ := hcut
    clear E6
    have HB2 : Hid (ValidT (qX.map Uv.u)) := Lib.hid (by rw [qL.out]; exact awU_valid)
    go_upto_region 3 with (fail)
    go_cut [7, 8, 9] (fun s7 s8 s9 wx => ∃ gr ua ub ra rk rX rc rj rY, s7 = .pointer (some ⟨gr, 0, none⟩) ∧ s8 = .slice rc rY.length rj ∧ s9 = .int .i64 8 ∧ Hid (Env D w [(gr, 25, [.slice ra rX.length rk]), (gq, 25, [.slice qa qX.length qk]), (w3.heap.size, 25, [.slice pa pX.length pk]), (w1.heap.size, 3, [.int .i64 7, .int .i64 9])] [.gn (gUl (.slice rc rY.length rj) rY), .gn (gUl (.slice ra rX.length rk) rX), .gn (gSp (mkS 5 1 [7, 9]) ua ub), .gn (gUl (.slice qc qY.length qj) qY), .gn (gUl (.slice qa qX.length qk) qX), .gn (gSp (mkS 5 2 [9, 8]) ta tb), .gn (gUl (.slice pc pY.length pj) pY), .gn (gUl (.slice pa pX.length pk) pX), .gn (gUl (.slice none ([] : List Uv).length 0) []), .gn (gSp (mkS 5 1 [7, 9]) sa sb)] wx) ∧ Hid (rX.map Uv.u = ([] : List Us)) ∧ Hid (rY.map Uv.u = ([] : List Us)))
    case first =>
      have E14 : Hid (Env D w [(gq, 25, [.slice qa qX.length qk]), (w3.heap.size, 25, [.slice pa pX.length pk]), (w1.heap.size, 3, [.int .i64 7, .int .i64 9])] [.gn (gUl (.slice qc qY.length qj) qY), .gn (gUl (.slice qa qX.length qk) qX), .gn (gSp (mkS 5 2 [9, 8]) ta tb), .gn (gUl (.slice pc pY.length pj) pY), .gn (gUl (.slice pa pX.length pk) pX), .gn (gUl (.slice none ([] : List Uv).length 0) []), .gn (gSp (mkS 5 1 [7, 9]) sa sb)] (wc.drew)) := Lib.hid E13.out.drew
      clear E13
      refine wp_regionU (S := fun w' => w'.cell? ⟨gq, 0, none⟩ = some (.slice qa qX.length qk)) [] (by kernel_rfl) (((E14.out.bx 0 rfl).cell 0 rfl)) (fun hHeld => ?_)
      generalize wc.drew = w10 at *
      refine uTake (i := 0) (some 27) (v := ?_) rfl rfl (by kernel_rfl) (by kernel_rfl) (by kernel_rfl) (by kernel_rfl) (fun _ _ _ h => h) (by rfl) (by assumption) ?_ ?_
      rotate_left
      · (intro wS hSw; (try dsimp only at hSw); go_simp; try with_reducible rfl)
      try simp only [Act.put, List.setIfInBounds_toArray, List.set_cons_zero, List.set_cons_succ]
      refine uReady (rs := [1, 8]) (by kernel_rfl) (by simp) ?_
      refine (ReadyU.cons rfl (fun KK hKK => ?_) (ReadyU.cons rfl (fun KK hKK => ?_) ReadyU.nil))
      · skip
        go_simp
        have E15 : Hid (Env D w [(w10.heap.size, 3, [.int .i64 7, .int .i64 9]), (gq, 25, [.slice qa qX.length qk]), (w3.heap.size, 25, [.slice pa pX.length pk]), (w1.heap.size, 3, [.int .i64 7, .int .i64 9])] [.gn (gUl (.slice qc qY.length qj) qY), .gn (gUl (.slice qa qX.length qk) qX), .gn (gSp (mkS 5 2 [9, 8]) ta tb), .gn (gUl (.slice pc pY.length pj) pY), .gn (gUl (.slice pa pX.length pk) pX), .gn (gUl (.slice none ([] : List Uv).length 0) []), .gn (gSp (mkS 5 1 [7, 9]) sa sb)] _) := Lib.hid ((E14.out.push 3 [.int .i64 7, .int .i64 9] (w10.heap.size) (by simp)))
        (try dsimp only)
        clear hHeld
        refine hKK.out _ _ (((E15.out.bx 1 rfl).cell 0 rfl)) (fun hHeld => ?_)
        clear hKK KK
        try simp only [Act.put, List.setIfInBounds_toArray, List.set_cons_zero, List.set_cons_succ]
        clear E14
        generalize w10.alloc (.cells #[.int .i64 7, .int .i64 9] 3) = w11 at *
        refine uReady (rs := [2, 8]) (by kernel_rfl) (by simp) ?_
        refine (ReadyU.cons rfl (fun KK hKK => ?_) (ReadyU.cons rfl (fun KK hKK => ?_) ReadyU.nil))
        · skip
          go_simp
          refine (made_c 5 1 [7, 9] (D := fun _ => True) (Rw.ofBox (cs := icl [7, 9]) (n := 2) (k := 1) (cap := 2) (E15.out.bx 0 rfl) rfl (icl_one _) (by omega) (by omega)) HWIu.out (by simp)).mono ?_
          rintro e w12 ⟨⟨ua, ub, rfl, uh⟩, hb⟩
          have E16 : Hid (Env D w [(w10.heap.size, 3, [.int .i64 7, .int .i64 9]), (gq, 25, [.slice qa qX.length qk]), (w3.heap.size, 25, [.slice pa pX.length pk]), (w1.heap.size, 3, [.int .i64 7, .int .i64 9])] [.gn (gSp (mkS 5 1 [7, 9]) ua ub), .gn (gUl (.slice qc qY.length qj) qY), .gn (gUl (.slice qa qX.length qk) qX), .gn (gSp (mkS 5 2 [9, 8]) ta tb), .gn (gUl (.slice pc pY.length pj) pY), .gn (gUl (.slice pa pX.length pk) pX), .gn (gUl (.slice none ([] : List Uv).length 0) []), .gn (gSp (mkS 5 1 [7, 9]) sa sb)] w12) := Lib.hid (E15.out.got (E15.out.below hb) (.gn (gSp (mkS 5 1 [7, 9]) ua ub)) (Lib.hid (gSp.ge uh.out)).out)
          clear E15 hb
          (try dsimp only)
          clear hHeld
          refine hKK.out _ _ (((E16.out.bx 1 rfl).cell 0 rfl)) (fun hHeld => ?_)
          clear hKK KK
          try simp only [Act.put, List.setIfInBounds_toArray, List.set_cons_zero, List.set_cons_succ]
          refine uReady (rs := [3, 8]) (by kernel_rfl) (by simp) ?_
          refine (ReadyU.cons rfl (fun KK hKK => ?_) (ReadyU.cons rfl (fun KK hKK => ?_) ReadyU.nil))
          · skip
            go_simp
            refine (put_t qX (mkS 5 1 [7, 9]) (E16.out.fc 2 rfl) (E16.out.fc 0 rfl) (valid_bd HB2.out) (st_bd aw1_st) (Nat.le_trans (valid_len HB2.out) (by omega)) (L := []) (C := []) (n := 8) (by rw [qL.out]; exact aw_res3)).mono ?_
            rintro e w13 ⟨⟨ra, rk, rX, rc, rj, rY, rfl, r1, r2, rH, rI⟩, hb⟩
            have E17 : Hid (Env D w [(w10.heap.size, 3, [.int .i64 7, .int .i64 9]), (gq, 25, [.slice qa qX.length qk]), (w3.heap.size, 25, [.slice pa pX.length pk]), (w1.heap.size, 3, [.int .i64 7, .int .i64 9])] [.gn (gUl (.slice rc rY.length rj) rY), .gn (gUl (.slice ra rX.length rk) rX), .gn (gSp (mkS 5 1 [7, 9]) ua ub), .gn (gUl (.slice qc qY.length qj) qY), .gn (gUl (.slice qa qX.length qk) qX), .gn (gSp (mkS 5 2 [9, 8]) ta tb), .gn (gUl (.slice pc pY.length pj) pY), .gn (gUl (.slice pa pX.length pk) pX), .gn (gUl (.slice none ([] : List Uv).length 0) []), .gn (gSp (mkS 5 1 [7, 9]) sa sb)] w13) := Lib.hid (E16.out.got (E16.out.got (E16.out.below hb) (.gn (gUl (.slice ra rX.length rk) rX)) rH.out) (.gn (gUl (.slice rc rY.length rj) rY)) rI.out)
            clear E16 hb rH rI
            have rL := Lib.hid r1; have rC := Lib.hid r2; clear r1 r2
            (try dsimp only)
            clear hHeld
            refine hKK.out _ _ (((E17.out.bx 1 rfl).cell 0 rfl)) (fun hHeld => ?_)
            clear hKK KK
            try simp only [Act.put, List.setIfInBounds_toArray, List.set_cons_zero, List.set_cons_succ]
            refine uTake (i := 4) (some 26) (v := ?_) rfl rfl (by kernel_rfl) (by kernel_rfl) (by kernel_rfl) (by kernel_rfl) (fun _ _ _ h => h) (by rfl) (by assumption) ?_ ?_
            rotate_left
            · (intro wS hSw; (try dsimp only at hSw); go_simp; try with_reducible rfl)
            try simp only [Act.put, List.setIfInBounds_toArray, List.set_cons_zero, List.set_cons_succ]
            refine uTake (i := 5) (some 31) (v := ?_) rfl rfl (by kernel_rfl) (by kernel_rfl) (by kernel_rfl) (by kernel_rfl) (fun _ _ _ h => h) (by rfl) (by assumption) ?_ ?_
            rotate_left
            · (intro wS hSw; (try dsimp only at hSw); go_simp; try with_reducible rfl)
            try simp only [Act.put, List.setIfInBounds_toArray, List.set_cons_zero, List.set_cons_succ]
            refine uTake (i := 6) (some 32) (v := ?_) rfl rfl (by kernel_rfl) (by kernel_rfl) (by kernel_rfl) (by kernel_rfl) (fun _ _ _ h => h) (by rfl) (by assumption) ?_ ?_
            rotate_left
            · (intro wS hSw; (try dsimp only at hSw); go_simp; try with_reducible rfl)
            try simp only [Act.put, List.setIfInBounds_toArray, List.set_cons_zero, List.set_cons_succ]
            refine uTake (i := 7) (some 33) (v := ?_) rfl rfl (by kernel_rfl) (by kernel_rfl) (by kernel_rfl) (by kernel_rfl) (fun _ _ _ h => h) (by rfl) (by assumption) ?_ ?_
            rotate_left
            · (intro wS hSw; (try dsimp only at hSw); go_simp; try with_reducible rfl)
            try simp only [Act.put, List.setIfInBounds_toArray, List.set_cons_zero, List.set_cons_succ]
            refine uReady (rs := [8]) (by kernel_rfl) (by simp) ?_
            refine ReadyU.cons rfl (fun KK hKK => ?_) ReadyU.nil
            go_simp
            have E18 : Hid (Env D w [(w13.heap.size, 25, [.slice none 0 0]), (w10.heap.size, 3, [.int .i64 7, .int .i64 9]), (gq, 25, [.slice qa qX.length qk]), (w3.heap.size, 25, [.slice pa pX.length pk]), (w1.heap.size, 3, [.int .i64 7, .int .i64 9])] [.gn (gUl (.slice rc rY.length rj) rY), .gn (gUl (.slice ra rX.length rk) rX), .gn (gSp (mkS 5 1 [7, 9]) ua ub), .gn (gUl (.slice qc qY.length qj) qY), .gn (gUl (.slice qa qX.length qk) qX), .gn (gSp (mkS 5 2 [9, 8]) ta tb), .gn (gUl (.slice pc pY.length pj) pY), .gn (gUl (.slice pa pX.length pk) pX), .gn (gUl (.slice none ([] : List Uv).length 0) []), .gn (gSp (mkS 5 1 [7, 9]) sa sb)] _) := Lib.hid ((E17.out.push 25 [.slice none 0 0] (w13.heap.size) (by simp)))
            (try dsimp only)
            clear hHeld
            refine hKK.out _ _ (((E18.out.bx 2 rfl).cell 0 rfl)) (fun hHeld => ?_)
            clear hKK KK
            try simp only [Act.put, List.setIfInBounds_toArray, List.set_cons_zero, List.set_cons_succ]
            clear E17
            generalize w13.alloc (.cells #[.slice none 0 0] 25) = w14 at *
            have b2 := E18.out.bx 0 rfl
            have c2_0 := b2.cell 0 rfl
            have f2_0 := b2.frozen 0
            clear b2
            refine uReady (rs := [9]) (by kernel_rfl) (by simp) ?_
            refine ReadyU.cons rfl (fun KK hKK => ?_) ReadyU.nil
            go_simp
            have E19 : Hid (Env D w [(w13.heap.size, 25, [.slice ra rX.length rk]), (w10.heap.size, 3, [.int .i64 7, .int .i64 9]), (gq, 25, [.slice qa qX.length qk]), (w3.heap.size, 25, [.slice pa pX.length pk]), (w1.heap.size, 3, [.int .i64 7, .int .i64 9])] [.gn (gUl (.slice rc rY.length rj) rY), .gn (gUl (.slice ra rX.length rk) rX), .gn (gSp (mkS 5 1 [7, 9]) ua ub), .gn (gUl (.slice qc qY.length qj) qY), .gn (gUl (.slice qa qX.length qk) qX), .gn (gSp (mkS 5 2 [9, 8]) ta tb), .gn (gUl (.slice pc pY.length pj) pY), .gn (gUl (.slice pa pX.length pk) pX), .gn (gUl (.slice none ([] : List Uv).length 0) []), .gn (gSp (mkS 5 1 [7, 9]) sa sb)] _) := Lib.hid ((E18.out.set 0 0 (.slice ra rX.length rk) rfl))
            (try dsimp only)
            clear hHeld
            refine hKK.out _ _ (((E19.out.bx 2 rfl).cell 0 rfl)) (fun hHeld => ?_)
            clear hKK KK
            try simp only [Act.put, List.setIfInBounds_toArray, List.set_cons_zero, List.set_cons_succ]
            refine uTake (i := 10) (some 8) (v := ?_) rfl rfl (by kernel_rfl) (by kernel_rfl) (by kernel_rfl) (by kernel_rfl) (fun _ _ _ h => h) (by rfl) (by assumption) ?_ ?_
            rotate_left
            · (intro wS hSw; (try dsimp only at hSw); go_simp; try with_reducible rfl)
            try simp only [Act.put, List.setIfInBounds_toArray, List.set_cons_zero, List.set_cons_succ]
            refine uTake (i := 11) (some 9) (v := ?_) rfl rfl (by kernel_rfl) (by kernel_rfl) (by kernel_rfl) (by kernel_rfl) (fun _ _ _ h => h) (by rfl) (by assumption) ?_ ?_
            rotate_left
            · (intro wS hSw; (try dsimp only at hSw); go_simp; try with_reducible rfl)
            try simp only [Act.put, List.setIfInBounds_toArray, List.set_cons_zero, List.set_cons_succ]
            refine uDone (by kernel_rfl) ?_ _
            go_wp2_with fail
            go_meet
            exact ⟨w13.heap.size, ua, ub, ra, rk, rX, rc, rj, rY, rfl, rfl, rfl, Lib.hid ((Env.perm (F' := [(w10.heap.size, 3, [.int .i64 7, .int .i64 9]), (w13.heap.size, 25, [.slice ra rX.length rk]), (gq, 25, [.slice qa qX.length qk]), (w3.heap.size, 25, [.slice pa pX.length pk]), (w1.heap.size, 3, [.int .i64 7, .int .i64 9])]) E19.out (List.Perm.swap ..)).drop), rL, rC⟩
          · skip
            go_simp
            have E17 : Hid (Env D w [(w12.heap.size, 25, [.slice none 0 0]), (w10.heap.size, 3, [.int .i64 7, .int .i64 9]), (gq, 25, [.slice qa qX.length qk]), (w3.heap.size, 25, [.slice pa pX.length pk]), (w1.heap.size, 3, [.int .i64 7, .int .i64 9])] [.gn (gSp (mkS 5 1 [7, 9]) ua ub), .gn (gUl (.slice qc qY.length qj) qY), .gn (gUl (.slice qa qX.length qk) qX), .gn (gSp (mkS 5 2 [9, 8]) ta tb), .gn (gUl (.slice pc pY.length pj) pY), .gn (gUl (.slice pa pX.length pk) pX), .gn (gUl (.slice none ([] : List Uv).length 0) []), .gn (gSp (mkS 5 1 [7, 9]) sa sb)] _) := Lib.hid ((E16.out.push 25 [.slice none 0 0] (w12.heap.size) (by simp)))
            (try dsimp only)
            clear hHeld
            refine hKK.out _ _ (((E17.out.bx 2 rfl).cell 0 rfl)) (fun hHeld => ?_)
            clear hKK KK
            try simp only [Act.put, List.setIfInBounds_toArray, List.set_cons_zero, List.set_cons_succ]
            clear E16
            generalize w12.alloc (.cells #[.slice none 0 0] 25) = w13 at *
            refine uReady (rs := [3]) (by kernel_rfl) (by simp) ?_
            refine ReadyU.cons rfl (fun KK hKK => ?_) ReadyU.nil
            go_simp
            refine (put_t qX (mkS 5 1 [7, 9]) (E17.out.fc 2 rfl) (E17.out.fc 0 rfl) (valid_bd HB2.out) (st_bd aw1_st) (Nat.le_trans (valid_len HB2.out) (by omega)) (L := []) (C := []) (n := 8) (by rw [qL.out]; exact aw_res3)).mono ?_
            rintro e w14 ⟨⟨ra, rk, rX, rc, rj, rY, rfl, r1, r2, rH, rI⟩, hb⟩
            have E18 : Hid (Env D w [(w12.heap.size, 25, [.slice none 0 0]), (w10.heap.size, 3, [.int .i64 7, .int .i64 9]), (gq, 25, [.slice qa qX.length qk]), (w3.heap.size, 25, [.slice pa pX.length pk]), (w1.heap.size, 3, [.int .i64 7, .int .i64 9])] [.gn (gUl (.slice rc rY.length rj) rY), .gn (gUl (.slice ra rX.length rk) rX), .gn (gSp (mkS 5 1 [7, 9]) ua ub), .gn (gUl (.slice qc qY.length qj) qY), .gn (gUl (.slice qa qX.length qk) qX), .gn (gSp (mkS 5 2 [9, 8]) ta tb), .gn (gUl (.slice pc pY.length pj) pY), .gn (gUl (.slice pa pX.length pk) pX), .gn (gUl (.slice none ([] : List Uv).length 0) []), .gn (gSp (mkS 5 1 [7, 9]) sa sb)] w14) := Lib.hid (E17.out.got (E17.out.got (E17.out.below hb) (.gn (gUl (.slice ra rX.length rk) rX)) rH.out) (.gn (gUl (.slice rc rY.length rj) rY)) rI.out)
            clear E17 hb rH rI
            have rL := Lib.hid r1; have rC := Lib.hid r2; clear r1 r2
            (try dsimp only)
            clear hHeld
            refine hKK.out _ _ (((E18.out.bx 2 rfl).cell 0 rfl)) (fun hHeld => ?_)
            clear hKK KK
            try simp only [Act.put, List.setIfInBounds_toArray, List.set_cons_zero, List.set_cons_succ]
            refine uTake (i := 4) (some 26) (v := ?_) rfl rfl (by kernel_rfl) (by kernel_rfl) (by kernel_rfl) (by kernel_rfl) (fun _ _ _ h => h) (by rfl) (by assumption) ?_ ?_
            rotate_left
            · (intro wS hSw; (try dsimp only at hSw); go_simp; try with_reducible rfl)
            try simp only [Act.put, List.setIfInBounds_toArray, List.set_cons_zero, List.set_cons_succ]
            refine uTake (i := 5) (some 31) (v := ?_) rfl rfl (by kernel_rfl) (by kernel_rfl) (by kernel_rfl) (by kernel_rfl) (fun _ _ _ h => h) (by rfl) (by assumption) ?_ ?_
            rotate_left
            · (intro wS hSw; (try dsimp only at hSw); go_simp; try with_reducible rfl)
            try simp only [Act.put, List.setIfInBounds_toArray, List.set_cons_zero, List.set_cons_succ]
            refine uTake (i := 6) (some 32) (v := ?_) rfl rfl (by kernel_rfl) (by kernel_rfl) (by kernel_rfl) (by kernel_rfl) (fun _ _ _ h => h) (by rfl) (by assumption) ?_ ?_
            rotate_left
            · (intro wS hSw; (try dsimp only at hSw); go_simp; try with_reducible rfl)
            try simp only [Act.put, List.setIfInBounds_toArray, List.set_cons_zero, List.set_cons_succ]
            refine uTake (i := 7) (some 33) (v := ?_) rfl rfl (by kernel_rfl) (by kernel_rfl) (by kernel_rfl) (by kernel_rfl) (fun _ _ _ h => h) (by rfl) (by assumption) ?_ ?_
            rotate_left
            · (intro wS hSw; (try dsimp only at hSw); go_simp; try with_reducible rfl)
            try simp only [Act.put, List.setIfInBounds_toArray, List.set_cons_zero, List.set_cons_succ]
            have b2 := E18.out.bx 0 rfl
            have c2_0 := b2.cell 0 rfl
            have f2_0 := b2.frozen 0
            clear b2
            refine uReady (rs := [9]) (by kernel_rfl) (by simp) ?_
            refine ReadyU.cons rfl (fun KK hKK => ?_) ReadyU.nil
            go_simp
            have E19 : Hid (Env D w [(w12.heap.size, 25, [.slice ra rX.length rk]), (w10.heap.size, 3, [.int .i64 7, .int .i64 9]), (gq, 25, [.slice qa qX.length qk]), (w3.heap.size, 25, [.slice pa pX.length pk]), (w1.heap.size, 3, [.int .i64 7, .int .i64 9])] [.gn (gUl (.slice rc rY.length rj) rY), .gn (gUl (.slice ra rX.length rk) rX), .gn (gSp (mkS 5 1 [7, 9]) ua ub), .gn (gUl (.slice qc qY.length qj) qY), .gn (gUl (.slice qa qX.length qk) qX), .gn (gSp (mkS 5 2 [9, 8]) ta tb), .gn (gUl (.slice pc pY.length pj) pY), .gn (gUl (.slice pa pX.length pk) pX), .gn (gUl (.slice none ([] : List Uv).length 0) []), .gn (gSp (mkS 5 1 [7, 9]) sa sb)] _) := Lib.hid ((E18.out.set 0 0 (.slice ra rX.length rk) rfl))
            (try dsimp only)
            clear hHeld
            refine hKK.out _ _ (((E19.out.bx 2 rfl).cell 0 rfl)) (fun hHeld => ?_)
            clear hKK KK
            try simp only [Act.put, List.setIfInBounds_toArray, List.set_cons_zero, List.set_cons_succ]
            refine uTake (i := 10) (some 8) (v := ?_) rfl rfl (by kernel_rfl) (by kernel_rfl) (by kernel_rfl) (by kernel_rfl) (fun _ _ _ h => h) (by rfl) (by assumption) ?_ ?_
            rotate_left
            · (intro wS hSw; (try dsimp only at hSw); go_simp; try with_reducible rfl)
            try simp only [Act.put, List.setIfInBounds_toArray, List.set_cons_zero, List.set_cons_succ]
            refine uTake (i := 11) (some 9) (v := ?_) rfl rfl (by kernel_rfl) (by kernel_rfl) (by kernel_rfl) (by kernel_rfl) (fun _ _ _ h => h) (by rfl) (by assumption) ?_ ?_
            rotate_left
            · (intro wS hSw; (try dsimp only at hSw); go_simp; try with_reducible rfl)
            try simp only [Act.put, List.setIfInBounds_toArray, List.set_cons_zero, List.set_cons_succ]
            refine uDone (by kernel_rfl) ?_ _
            go_wp2_with fail
            go_meet
            exact ⟨w12.heap.size, ua, ub, ra, rk, rX, rc, rj, rY, rfl, rfl, rfl, Lib.hid ((Env.perm (F' := [(w10.heap.size, 3, [.int .i64 7, .int .i64 9]), (w12.heap.size, 25, [.slice ra rX.length rk]), (gq, 25, [.slice qa qX.length qk]), (w3.heap.size, 25, [.slice pa pX.length pk]), (w1.heap.size, 3, [.int .i64 7, .int .i64 9])]) E19.out (List.Perm.swap ..)).drop), rL, rC⟩
        · skip
          go_simp
          have E16 : Hid (Env D w [(w11.heap.size, 25, [.slice none 0 0]), (w10.heap.size, 3, [.int .i64 7, .int .i64 9]), (gq, 25, [.slice qa qX.length qk]), (w3.heap.size, 25, [.slice pa pX.length pk]), (w1.heap.size, 3, [.int .i64 7, .int .i64 9])] [.gn (gUl (.slice qc qY.length qj) qY), .gn (gUl (.slice qa qX.length qk) qX), .gn (gSp (mkS 5 2 [9, 8]) ta tb), .gn (gUl (.slice pc pY.length pj) pY), .gn (gUl (.slice pa pX.length pk) pX), .gn (gUl (.slice none ([] : List Uv).length 0) []), .gn (gSp (mkS 5 1 [7, 9]) sa sb)] _) := Lib.hid ((E15.out.push 25 [.slice none 0 0] (w11.heap.size) (by simp)))
          (try dsimp only)
          clear hHeld
          refine hKK.out _ _ (((E16.out.bx 2 rfl).cell 0 rfl)) (fun hHeld => ?_)
          clear hKK KK
          try simp only [Act.put, List.setIfInBounds_toArray, List.set_cons_zero, List.set_cons_succ]
          clear E15
          generalize w11.alloc (.cells #[.slice none 0 0] 25) = w12 at *
          refine uReady (rs := [2]) (by kernel_rfl) (by simp) ?_
          refine ReadyU.cons rfl (fun KK hKK => ?_) ReadyU.nil
          go_simp
          refine (made_c 5 1 [7, 9] (D := fun _ => True) (Rw.ofBox (cs := icl [7, 9]) (n := 2) (k := 1) (cap := 2) (E16.out.bx 1 rfl) rfl (icl_one _) (by omega) (by omega)) HWIu.out (by simp)).mono ?_
          rintro e w13 ⟨⟨ua, ub, rfl, uh⟩, hb⟩
          have E17 : Hid (Env D w [(w11.heap.size, 25, [.slice none 0 0]), (w10.heap.size, 3, [.int .i64 7, .int .i64 9]), (gq, 25, [.slice qa qX.length qk]), (w3.heap.size, 25, [.slice pa pX.length pk]), (w1.heap.size, 3, [.int .i64 7, .int .i64 9])] [.gn (gSp (mkS 5 1 [7, 9]) ua ub), .gn (gUl (.slice qc qY.length qj) qY), .gn (gUl (.slice qa qX.length qk) qX), .gn (gSp (mkS 5 2 [9, 8]) ta tb), .gn (gUl (.slice pc pY.length pj) pY), .gn (gUl (.slice pa pX.length pk) pX), .gn (gUl (.slice none ([] : List Uv).length 0) []), .gn (gSp (mkS 5 1 [7, 9]) sa sb)] w13) := Lib.hid (E16.out.got (E16.out.below hb) (.gn (gSp (mkS 5 1 [7, 9]) ua ub)) (Lib.hid (gSp.ge uh.out)).out)
          clear E16 hb
          (try dsimp only)
          clear hHeld
          refine hKK.out _ _ (((E17.out.bx 2 rfl).cell 0 rfl)) (fun hHeld => ?_)
          clear hKK KK
          try simp only [Act.put, List.setIfInBounds_toArray, List.set_cons_zero, List.set_cons_succ]
          refine uReady (rs := [3]) (by kernel_rfl) (by simp) ?_
          refine ReadyU.cons rfl (fun KK hKK => ?_) ReadyU.nil
          go_simp
          refine (put_t qX (mkS 5 1 [7, 9]) (E17.out.fc 2 rfl) (E17.out.fc 0 rfl) (valid_bd HB2.out) (st_bd aw1_st) (Nat.le_trans (valid_len HB2.out) (by omega)) (L := []) (C := []) (n := 8) (by rw [qL.out]; exact aw_res3)).mono ?_
          rintro e w14 ⟨⟨ra, rk, rX, rc, rj, rY, rfl, r1, r2, rH, rI⟩, hb⟩
          have E18 : Hid (Env D w [(w11.heap.size, 25, [.slice none 0 0]), (w10.heap.size, 3, [.int .i64 7, .int .i64 9]), (gq, 25, [.slice qa qX.length qk]), (w3.heap.size, 25, [.slice pa pX.length pk]), (w1.heap.size, 3, [.int .i64 7, .int .i64 9])] [.gn (gUl (.slice rc rY.length rj) rY), .gn (gUl (.slice ra rX.length rk) rX), .gn (gSp (mkS 5 1 [7, 9]) ua ub), .gn (gUl (.slice qc qY.length qj) qY), .gn (gUl (.slice qa qX.length qk) qX), .gn (gSp (mkS 5 2 [9, 8]) ta tb), .gn (gUl (.slice pc pY.length pj) pY), .gn (gUl (.slice pa pX.length pk) pX), .gn (gUl (.slice none ([] : List Uv).length 0) []), .gn (gSp (mkS 5 1 [7, 9]) sa sb)] w14) := Lib.hid (E17.out.got (E17.out.got (E17.out.below hb) (.gn (gUl (.slice ra rX.length rk) rX)) rH.out) (.gn (gUl (.slice rc rY.length rj) rY)) rI.out)
          clear E17 hb rH rI
          have rL := Lib.hid r1; have rC := Lib.hid r2; clear r1 r2
          (try dsimp only)
          clear hHeld
          refine hKK.out _ _ (((E18.out.bx 2 rfl).cell 0 rfl)) (fun hHeld => ?_)
          clear hKK KK
          try simp only [Act.put, List.setIfInBounds_toArray, List.set_cons_zero, List.set_cons_succ]
          refine uTake (i := 4) (some 26) (v := ?_) rfl rfl (by kernel_rfl) (by kernel_rfl) (by kernel_rfl) (by kernel_rfl) (fun _ _ _ h => h) (by rfl) (by assumption) ?_ ?_
          rotate_left
          · (intro wS hSw; (try dsimp only at hSw); go_simp; try with_reducible rfl)
          try simp only [Act.put, List.setIfInBounds_toArray, List.set_cons_zero, List.set_cons_succ]
          refine uTake (i := 5) (some 31) (v := ?_) rfl rfl (by kernel_rfl) (by kernel_rfl) (by kernel_rfl) (by kernel_rfl) (fun _ _ _ h => h) (by rfl) (by assumption) ?_ ?_
          rotate_left
          · (intro wS hSw; (try dsimp only at hSw); go_simp; try with_reducible rfl)
          try simp only [Act.put, List.setIfInBounds_toArray, List.set_cons_zero, List.set_cons_succ]
          refine uTake (i := 6) (some 32) (v := ?_) rfl rfl (by kernel_rfl) (by kernel_rfl) (by kernel_rfl) (by kernel_rfl) (fun _ _ _ h => h) (by rfl) (by assumption) ?_ ?_
          rotate_left
          · (intro wS hSw; (try dsimp only at hSw); go_simp; try with_reducible rfl)
          try simp only [Act.put, List.setIfInBounds_toArray, List.set_cons_zero, List.set_cons_succ]
          refine uTake (i := 7) (some 33) (v := ?_) rfl rfl (by kernel_rfl) (by kernel_rfl) (by kernel_rfl) (by kernel_rfl) (fun _ _ _ h => h) (by rfl) (by assumption) ?_ ?_
          rotate_left
          · (intro wS hSw; (try dsimp only at hSw); go_simp; try with_reducible rfl)
          try simp only [Act.put, List.setIfInBounds_toArray, List.set_cons_zero, List.set_cons_succ]
          have b2 := E18.out.bx 0 rfl
          have c2_0 := b2.cell 0 rfl
          have f2_0 := b2.frozen 0
          clear b2
          refine uReady (rs := [9]) (by kernel_rfl) (by simp) ?_
          refine ReadyU.cons rfl (fun KK hKK => ?_) ReadyU.nil
          go_simp
          have E19 : Hid (Env D w [(w11.heap.size, 25, [.slice ra rX.length rk]), (w10.heap.size, 3, [.int .i64 7, .int .i64 9]), (gq, 25, [.slice qa qX.length qk]), (w3.heap.size, 25, [.slice pa pX.length pk]), (w1.heap.size, 3, [.int .i64 7, .int .i64 9])] [.gn (gUl (.slice rc rY.length rj) rY), .gn (gUl (.slice ra rX.length rk) rX), .gn (gSp (mkS 5 1 [7, 9]) ua ub), .gn (gUl (.slice qc qY.length qj) qY), .gn (gUl (.slice qa qX.length qk) qX), .gn (gSp (mkS 5 2 [9, 8]) ta tb), .gn (gUl (.slice pc pY.length pj) pY), .gn (gUl (.slice pa pX.length pk) pX), .gn (gUl (.slice none ([] : List Uv).length 0) []), .gn (gSp (mkS 5 1 [7, 9]) sa sb)] _) := Lib.hid ((E18.out.set 0 0 (.slice ra rX.length rk) rfl))
          (try dsimp only)
          clear hHeld
          refine hKK.out _ _ (((E19.out.bx 2 rfl).cell 0 rfl)) (fun hHeld => ?_)
          clear hKK KK
          try simp only [Act.put, List.setIfInBounds_toArray, List.set_cons_zero, List.set_cons_succ]
          refine uTake (i := 10) (some 8) (v := ?_) rfl rfl (by kernel_rfl) (by kernel_rfl) (by kernel_rfl) (by kernel_rfl) (fun _ _ _ h => h) (by rfl) (by assumption) ?_ ?_
          rotate_left
          · (intro wS hSw; (try dsimp only at hSw); go_simp; try with_reducible rfl)
          try simp only [Act.put, List.setIfInBounds_toArray, List.set_cons_zero, List.set_cons_succ]
          refine uTake (i := 11) (some 9) (v := ?_) rfl rfl (by kernel_rfl) (by kernel_rfl) (by kernel_rfl) (by kernel_rfl) (fun _ _ _ h => h) (by rfl) (by assumption) ?_ ?_
          rotate_left
          · (intro wS hSw; (try dsimp only at hSw); go_simp; try with_reducible rfl)
          try simp only [Act.put, List.setIfInBounds_toArray, List.set_cons_zero, List.set_cons_succ]
          refine uDone (by kernel_rfl) ?_ _
          go_wp2_with fail
          go_meet
          exact ⟨w11.heap.size, ua, ub, ra, rk, rX, rc, rj, rY, rfl, rfl, rfl, Lib.hid ((Env.perm (F' := [(w10.heap.size, 3, [.int .i64 7, .int .i64 9]), (w11.heap.size, 25, [.slice ra rX.length rk]), (gq, 25, [.slice qa qX.length qk]), (w3.heap.size, 25, [.slice pa pX.length pk]), (w1.heap.size, 3, [.int .i64 7, .int .i64 9])]) E19.out (List.Perm.swap ..)).drop), rL, rC⟩
      · skip
        go_simp
        have E15 : Hid (Env D w [(w10.heap.size, 25, [.slice none 0 0]), (gq, 25, [.slice qa qX.length qk]), (w3.heap.size, 25, [.slice pa pX.length pk]), (w1.heap.size, 3, [.int .i64 7, .int .i64 9])] [.gn (gUl (.slice qc qY.length qj) qY), .gn (gUl (.slice qa qX.length qk) qX), .gn (gSp (mkS 5 2 [9, 8]) ta tb), .gn (gUl (.slice pc pY.length pj) pY), .gn (gUl (.slice pa pX.length pk) pX), .gn (gUl (.slice none ([] : List Uv).length 0) []), .gn (gSp (mkS 5 1 [7, 9]) sa sb)] _) := Lib.hid ((E14.out.push 25 [.slice none 0 0] (w10.heap.size) (by simp)))
        (try dsimp only)
        clear hHeld
        refine hKK.out _ _ (((E15.out.bx 1 rfl).cell 0 rfl)) (fun hHeld => ?_)
        clear hKK KK
        try simp only [Act.put, List.setIfInBounds_toArray, List.set_cons_zero, List.set_cons_succ]
        clear E14
        generalize w10.alloc (.cells #[.slice none 0 0] 25) = w11 at *
        refine uReady (rs := [1]) (by kernel_rfl) (by simp) ?_
        refine ReadyU.cons rfl (fun KK hKK => ?_) ReadyU.nil
        go_simp
        have E16 : Hid (Env D w [(w11.heap.size, 3, [.int .i64 7, .int .i64 9]), (w10.heap.size, 25, [.slice none 0 0]), (gq, 25, [.slice qa qX.length qk]), (w3.heap.size, 25, [.slice pa pX.length pk]), (w1.heap.size, 3, [.int .i64 7, .int .i64 9])] [.gn (gUl (.slice qc qY.length qj) qY), .gn (gUl (.slice qa qX.length qk) qX), .gn (gSp (mkS 5 2 [9, 8]) ta tb), .gn (gUl (.slice pc pY.length pj) pY), .gn (gUl (.slice pa pX.length pk) pX), .gn (gUl (.slice none ([] : List Uv).length 0) []), .gn (gSp (mkS 5 1 [7, 9]) sa sb)] _) := Lib.hid ((E15.out.push 3 [.int .i64 7, .int .i64 9] (w11.heap.size) (by simp)))
        (try dsimp only)
        clear hHeld
        refine hKK.out _ _ (((E16.out.bx 2 rfl).cell 0 rfl)) (fun hHeld => ?_)
        clear hKK KK
        try simp only [Act.put, List.setIfInBounds_toArray, List.set_cons_zero, List.set_cons_succ]
        clear E15
        generalize w11.alloc (.cells #[.int .i64 7, .int .i64 9] 3) = w12 at *
        refine uReady (rs := [2]) (by kernel_rfl) (by simp) ?_
        refine ReadyU.cons rfl (fun KK hKK => ?_) ReadyU.nil
        go_simp
        refine (made_c 5 1 [7, 9] (D := fun _ => True) (Rw.ofBox (cs := icl [7, 9]) (n := 2) (k := 1) (cap := 2) (E16.out.bx 0 rfl) rfl (icl_one _) (by omega) (by omega)) HWIu.out (by simp)).mono ?_
        rintro e w13 ⟨⟨ua, ub, rfl, uh⟩, hb⟩
        have E17 : Hid (Env D w [(w11.heap.size, 3, [.int .i64 7, .int .i64 9]), (w10.heap.size, 25, [.slice none 0 0]), (gq, 25, [.slice qa qX.length qk]), (w3.heap.size, 25, [.slice pa pX.length pk]), (w1.heap.size, 3, [.int .i64 7, .int .i64 9])] [.gn (gSp (mkS 5 1 [7, 9]) ua ub), .gn (gUl (.slice qc qY.length qj) qY), .gn (gUl (.slice qa qX.length qk) qX), .gn (gSp (mkS 5 2 [9, 8]) ta tb), .gn (gUl (.slice pc pY.length pj) pY), .gn (gUl (.slice pa pX.length pk) pX), .gn (gUl (.slice none ([] : List Uv).length 0) []), .gn (gSp (mkS 5 1 [7, 9]) sa sb)] w13) := Lib.hid (E16.out.got (E16.out.below hb) (.gn (gSp (mkS 5 1 [7, 9]) ua ub)) (Lib.hid (gSp.ge uh.out)).out)
        clear E16 hb
        (try dsimp only)
        clear hHeld
        refine hKK.out _ _ (((E17.out.bx 2 rfl).cell 0 rfl)) (fun hHeld => ?_)
        clear hKK KK
        try simp only [Act.put, List.setIfInBounds_toArray, List.set_cons_zero, List.set_cons_succ]
        refine uReady (rs := [3]) (by kernel_rfl) (by simp) ?_
        refine ReadyU.cons rfl (fun KK hKK => ?_) ReadyU.nil
        go_simp
        refine (put_t qX (mkS 5 1 [7, 9]) (E17.out.fc 2 rfl) (E17.out.fc 0 rfl) (valid_bd HB2.out) (st_bd aw1_st) (Nat.le_trans (valid_len HB2.out) (by omega)) (L := []) (C := []) (n := 8) (by rw [qL.out]; exact aw_res3)).mono ?_
        rintro e w14 ⟨⟨ra, rk, rX, rc, rj, rY, rfl, r1, r2, rH, rI⟩, hb⟩
        have E18 : Hid (Env D w [(w11.heap.size, 3, [.int .i64 7, .int .i64 9]), (w10.heap.size, 25, [.slice none 0 0]), (gq, 25, [.slice qa qX.length qk]), (w3.heap.size, 25, [.slice pa pX.length pk]), (w1.heap.size, 3, [.int .i64 7, .int .i64 9])] [.gn (gUl (.slice rc rY.length rj) rY), .gn (gUl (.slice ra rX.length rk) rX), .gn (gSp (mkS 5 1 [7, 9]) ua ub), .gn (gUl (.slice qc qY.length qj) qY), .gn (gUl (.slice qa qX.length qk) qX), .gn (gSp (mkS 5 2 [9, 8]) ta tb), .gn (gUl (.slice pc pY.length pj) pY), .gn (gUl (.slice pa pX.length pk) pX), .gn (gUl (.slice none ([] : List Uv).length 0) []), .gn (gSp (mkS 5 1 [7, 9]) sa sb)] w14) := Lib.hid (E17.out.got (E17.out.got (E17.out.below hb) (.gn (gUl (.slice ra rX.length rk) rX)) rH.out) (.gn (gUl (.slice rc rY.length rj) rY)) rI.out)
        clear E17 hb rH rI
        have rL := Lib.hid r1; have rC := Lib.hid r2; clear r1 r2
        (try dsimp only)
        clear hHeld
        refine hKK.out _ _ (((E18.out.bx 2 rfl).cell 0 rfl)) (fun hHeld => ?_)
        clear hKK KK
        try simp only [Act.put, List.setIfInBounds_toArray, List.set_cons_zero, List.set_cons_succ]
        refine uTake (i := 4) (some 26) (v := ?_) rfl rfl (by kernel_rfl) (by kernel_rfl) (by kernel_rfl) (by kernel_rfl) (fun _ _ _ h => h) (by rfl) (by assumption) ?_ ?_
        rotate_left
        · (intro wS hSw; (try dsimp only at hSw); go_simp; try with_reducible rfl)
        try simp only [Act.put, List.setIfInBounds_toArray, List.set_cons_zero, List.set_cons_succ]
        refine uTake (i := 5) (some 31) (v := ?_) rfl rfl (by kernel_rfl) (by kernel_rfl) (by kernel_rfl) (by kernel_rfl) (fun _ _ _ h => h) (by rfl) (by assumption) ?_ ?_
        rotate_left
        · (intro wS hSw; (try dsimp only at hSw); go_simp; try with_reducible rfl)
        try simp only [Act.put, List.setIfInBounds_toArray, List.set_cons_zero, List.set_cons_succ]
        refine uTake (i := 6) (some 32) (v := ?_) rfl rfl (by kernel_rfl) (by kernel_rfl) (by kernel_rfl) (by kernel_rfl) (fun _ _ _ h => h) (by rfl) (by assumption) ?_ ?_
        rotate_left
        · (intro wS hSw; (try dsimp only at hSw); go_simp; try with_reducible rfl)
        try simp only [Act.put, List.setIfInBounds_toArray, List.set_cons_zero, List.set_cons_succ]
        refine uTake (i := 7) (some 33) (v := ?_) rfl rfl (by kernel_rfl) (by kernel_rfl) (by kernel_rfl) (by kernel_rfl) (fun _ _ _ h => h) (by rfl) (by assumption) ?_ ?_
        rotate_left
        · (intro wS hSw; (try dsimp only at hSw); go_simp; try with_reducible rfl)
        try simp only [Act.put, List.setIfInBounds_toArray, List.set_cons_zero, List.set_cons_succ]
        have b2 := E18.out.bx 1 rfl
        have c2_0 := b2.cell 0 rfl
        have f2_0 := b2.frozen 0
        clear b2
        refine uReady (rs := [9]) (by kernel_rfl) (by simp) ?_
        refine ReadyU.cons rfl (fun KK hKK => ?_) ReadyU.nil
        go_simp
        have E19 : Hid (Env D w [(w11.heap.size, 3, [.int .i64 7, .int .i64 9]), (w10.heap.size, 25, [.slice ra rX.length rk]), (gq, 25, [.slice qa qX.length qk]), (w3.heap.size, 25, [.slice pa pX.length pk]), (w1.heap.size, 3, [.int .i64 7, .int .i64 9])] [.gn (gUl (.slice rc rY.length rj) rY), .gn (gUl (.slice ra rX.length rk) rX), .gn (gSp (mkS 5 1 [7, 9]) ua ub), .gn (gUl (.slice qc qY.length qj) qY), .gn (gUl (.slice qa qX.length qk) qX), .gn (gSp (mkS 5 2 [9, 8]) ta tb), .gn (gUl (.slice pc pY.length pj) pY), .gn (gUl (.slice pa pX.length pk) pX), .gn (gUl (.slice none ([] : List Uv).length 0) []), .gn (gSp (mkS 5 1 [7, 9]) sa sb)] _) := Lib.hid ((E18.out.set 1 0 (.slice ra rX.length rk) rfl))
        (try dsimp only)
        clear hHeld
        refine hKK.out _ _ (((E19.out.bx 2 rfl).cell 0 rfl)) (fun hHeld => ?_)
        clear hKK KK
        try simp only [Act.put, List.setIfInBounds_toArray, List.set_cons_zero, List.set_cons_succ]
        refine uTake (i := 10) (some 8) (v := ?_) rfl rfl (by kernel_rfl) (by kernel_rfl) (by kernel_rfl) (by kernel_rfl) (fun _ _ _ h => h) (by rfl) (by assumption) ?_ ?_
        rotate_left
        · (intro wS hSw; (try dsimp only at hSw); go_simp; try with_reducible rfl)
        try simp only [Act.put, List.setIfInBounds_toArray, List.set_cons_zero, List.set_cons_succ]
        refine uTake (i := 11) (some 9) (v := ?_) rfl rfl (by kernel_rfl) (by kernel_rfl) (by kernel_rfl) (by kernel_rfl) (fun _ _ _ h => h) (by rfl) (by assumption) ?_ ?_
        rotate_left
        · (intro wS hSw; (try dsimp only at hSw); go_simp; try with_reducible rfl)
        try simp only [Act.put, List.setIfInBounds_toArray, List.set_cons_zero, List.set_cons_succ]
        refine uDone (by kernel_rfl) ?_ _
        go_wp2_with fail
        go_meet
        exact ⟨w10.heap.size, ua, ub, ra, rk, rX, rc, rj, rY, rfl, rfl, rfl, Lib.hid (E19.out.drop), rL, rC⟩
    case rest =>
      obtain ⟨gr, ua, ub, ra, rk, rX, rc, rj, rY, rfl, rfl, rfl, E20, rL, rC⟩ := hcut
      clear E13
      go_upto_region 4 with (fail)
      have hl0 : pY.length = 0 := by have h := congrArg List.length pC.out; simpa using h
      have hl1 : qY.length = 1 := by have h := congrArg List.length qC.out; simpa using h
      have hl3 : qX.length = 3 := by have h := congrArg List.length qL.out; simpa [awU] using h
      have i0 : ((pY.length : Int) == 0) = true := by rw [hl0]; rfl
      have i0n : (pY.length == 0) = true := by rw [hl0]; rfl
      have i1 : ((qY.length : Int) == 1) = true := by rw [hl1]; rfl
      have i1n : (qY.length == 1) = true := by rw [hl1]; rfl
      have HL3 := Lib.hid hl3
      have hk0 : 0 < qY.length := by omega
      have hk0I : (0 : Int) < (qY.length : Int) := by omega
      have HL1 := Lib.hid hl1
      clear hl0 hl1 hl3
      obtain ⟨qcb, qco, rfl⟩ := gUl.addr (E20.out.fc 3 rfl) (List.ne_nil_of_length_pos (Nat.lt_of_le_of_lt (Nat.zero_le _) hk0))
      obtain ⟨y, ye⟩ : ∃ x, qY[0] = x := ⟨_, rfl⟩
      have yE := Lib.hid ye
      clear ye
      have E21 : Hid (Env D w [(gr, 25, [.slice ra rX.length rk]), (gq, 25, [.slice qa qX.length qk]), (w3.heap.size, 25, [.slice pa pX.length pk]), (w1.heap.size, 3, [.int .i64 7, .int .i64 9])] [.gn (gRg qcb qco (usc y.u y.la y.pa)), .gn (gSp y.u.sp y.la y.pa), .gn (gUl (.slice rc rY.length rj) rY), .gn (gUl (.slice ra rX.length rk) rX), .gn (gSp (mkS 5 1 [7, 9]) ua ub), .gn (gUl (.slice (some ⟨qcb, qco, none⟩) qY.length qj) qY), .gn (gUl (.slice qa qX.length qk) qX), .gn (gSp (mkS 5 2 [9, 8]) ta tb), .gn (gUl (.slice pc pY.length pj) pY), .gn (gUl (.slice pa pX.length pk) pX), .gn (gUl (.slice none ([] : List Uv).length 0) []), .gn (gSp (mkS 5 1 [7, 9]) sa sb)] _) := Lib.hid (E20.out.elU 3 rfl hk0 yE.out)
      clear E20
      have yS := Lib.hid (E21.out.spOk 1 rfl)
      have yN : Hid (∀ v ∈ usc y.u y.la y.pa, v.oneCell' = true) := Lib.hid (usc_one yS.out (Rw.oneV (E21.out.fc 1 rfl).2.1) (Rw.oneV (E21.out.fc 1 rfl).2.2))
      have HYU : Hid (y.u = useOf aw1 1) := Lib.hid (by have h := map_get hk0 yE.out; rw [qC.out] at h; exact (Option.some.inj h).symm)
      have i9 : (y.u.ub == 9) = true := by rw [HYU.out]; rfl
      have i10 : (cInt y.u.sp.cx 33 == 1) = true := by rw [HYU.out]; rfl
      have b3 := E21.out.bx 1 rfl
      have c3_0 := b3.cell 0 rfl
      clear b3
      go_wp2_with fail
      refine (size_c qX (E21.out.fc 6 rfl) (valid_bd HB2.out) (Nat.le_trans (valid_len HB2.out) (by omega)) (r := 3) ⟨fun _ => by rw [HL3.out]; rfl, fun h => absurd HB2.out h⟩).mono ?_
      rintro e w15 ⟨rfl, hb⟩
      have E22 : Hid (Env D w [(gr, 25, [.slice ra rX.length rk]), (gq, 25, [.slice qa qX.length qk]), (w3.heap.size, 25, [.slice pa pX.length pk]), (w1.heap.size, 3, [.int .i64 7, .int .i64 9])] [.gn (gRg qcb qco (usc y.u y.la y.pa)), .gn (gSp y.u.sp y.la y.pa), .gn (gUl (.slice rc rY.length rj) rY), .gn (gUl (.slice ra rX.length rk) rX), .gn (gSp (mkS 5 1 [7, 9]) ua ub), .gn (gUl (.slice (some ⟨qcb, qco, none⟩) qY.length qj) qY), .gn (gUl (.slice qa qX.length qk) qX), .gn (gSp (mkS 5 2 [9, 8]) ta tb), .gn (gUl (.slice pc pY.length pj) pY), .gn (gUl (.slice pa pX.length pk) pX), .gn (gUl (.slice none ([] : List Uv).length 0) []), .gn (gSp (mkS 5 1 [7, 9]) sa sb)] w15) := Lib.hid (E21.out.below hb)
      clear c3_0 E21 hb
      have c4 : World.cell? _ ⟨qcb, qco + 1, none⟩ = some (.int .i64 y.u.ub) := gRg.cell (E22.out.fc 0 rfl) (j := 1) rfl
      have c5 : World.cell? _ ⟨qcb, qco + 78, none⟩ = some (.int .i64 (cInt y.u.sp.cx 33)) := gRg.cell (E22.out.fc 0 rfl) (j := 78) (usc_num yS.out _ _)
      have hfin := Lib.hid E22.out.bel
      go_wp2
      go_ret
      exact ⟨rfl, hfin.out⟩
end Go.Proofs.Ytfnnfmefihiefaa

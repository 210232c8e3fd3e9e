/- SpentOrder: the order does not matter for what is found. -/
import Derived.Test.YtfnnfmefihiefaaSpEd
import Derived.Test.YtfnnfmefihiefaaSpV
namespace Go.Proofs.Ytfnnfmefihiefaa
open Go.RowKit
set_option linter.unusedVariables false
set_option linter.unusedSimpArgs false
set_option maxRecDepth 100000 in
set_option maxHeartbeats 16000000 in
theorem SpentOrder_walk {D : Nat → Prop} (Z : List Sv) {za : Option Addr} {zk : Nat} {w : World} (hz : Fct.at w D (.gn (gSl (.slice za Z.length zk) Z)))  :
    Calls Try.prog 6 #[.slice za Z.length zk] w fun e w' => e = .returned (.bool true) ∧ Below w.heap.size w w' := by
  have E0 : Hid (Env D w [] [.gn (gSl (.slice za Z.length zk) Z)] w) := Lib.hid ((Env.start D w).arg (.gn (gSl (.slice za Z.length zk) Z)) hz)
  clear hz
  go_enter Try.func6, Try.ntmps6
  go_wp2_with fail
  refine (awake_c (D := fun _ => True)).mono ?_
  rintro e w1 ⟨rfl, hb⟩
  have E1 : Hid (Env D w [] [.gn (gSl (.slice za Z.length zk) Z)] w1) := Lib.hid (E0.out.below hb)
  clear E0 hb
  by_cases q1 : 20 < Z.length
  · have d1 : decide ((20 : Int) < (Z.length : Int)) = true := decide_eq_true (by omega)
    have d1b : decide (20 < Z.length) = true := decide_eq_true q1
    clear q1
    have hfin := Lib.hid E1.out.bel
    go_wp2
    go_ret
    exact ⟨rfl, hfin.out⟩
  have d1 : decide ((20 : Int) < (Z.length : Int)) = false := decide_eq_false (by omega)
  have d1b : decide (20 < Z.length) = false := decide_eq_false q1
  have hz9 : Z.length ≤ 20 := by omega
  clear q1
  obtain ⟨lg, lgh⟩ : ∃ t, (Z.map Sv.s).any (fun x => longS (x)) = t := ⟨_, rfl⟩
  have HLG := Lib.hid lgh
  clear lgh
  cases lg with
  | true =>
    go_wp2_with fail
    refine (lsC Z (E1.out.fc 0 rfl) (t := true) HLG.out (by omega)).mono ?_
    rintro e w2 ⟨rfl, hb⟩
    have E2 : Hid (Env D w [] [.gn (gSl (.slice za Z.length zk) Z)] w2) := Lib.hid (E1.out.below hb)
    clear E1 hb
    have hfin := Lib.hid E2.out.bel
    go_wp2
    go_ret
    exact ⟨rfl, hfin.out⟩
  | false =>
    go_wp2_with fail
    refine (lsC Z (E1.out.fc 0 rfl) (t := false) HLG.out (by omega)).mono ?_
    rintro e w2 ⟨rfl, hb⟩
    have E2 : Hid (Env D w [] [.gn (gSl (.slice za Z.length zk) Z)] w2) := Lib.hid (E1.out.below hb)
    clear E1 hb
    have HNL : Hid (∀ s ∈ (Z.map Sv.s), s.lv.length ≤ 40 ∧ s.pa.length ≤ 30) := Lib.hid (fun s hs => longS_no (by have h := List.any_eq_false.1 HLG.out s hs; simpa using h))
    clear d1 d1b
    go_wp2_with fail
    refine (new_c (D := fun _ => True)).mono ?_
    rintro e w3 ⟨rfl, hb⟩
    have E3 : Hid (Env D w [] [.gn (gSl (.slice za Z.length zk) Z)] w3) := Lib.hid (E2.out.below hb)
    clear E2 hb
    go_wp2_with fail
    refine (new_c (D := fun _ => True)).mono ?_
    rintro e w4 ⟨rfl, hb⟩
    have E4 : Hid (Env D w [] [.gn (gSl (.slice za Z.length zk) Z)] w4) := Lib.hid (E3.out.below hb)
    clear E3 hb
    go_wp2_with fail
    have E5 : Hid (Env D w [(w4.heap.size + 1, 25, [.slice none 0 0]), (w4.heap.size, 25, [.slice none 0 0])] [.gn (gSl (.slice za Z.length zk) Z)] _) := Lib.hid (((E4.out.push 25 [.slice none 0 0] (w4.heap.size) (by simp)).push 25 [.slice none 0 0] (w4.heap.size + 1) (by simp)))
    have E6 : Hid (Env D w [(w4.heap.size + 1, 25, [.slice none 0 0]), (w4.heap.size, 25, [.slice none 0 0])] [.gn (gUl (.slice none ([] : List Uv).length 0) []), .gn (gSl (.slice za Z.length zk) Z)] _) := Lib.hid (E5.out.note (.gn (gUl (.slice none ([] : List Uv).length 0) [])) (gUl.nil _ _))
    clear E5
    have E7 : Hid (Env D w [(w4.heap.size + 1, 25, [.slice none 0 0]), (w4.heap.size, 25, [.slice none 0 0])] [.gn (gUl (.slice none ([] : List Uv).length 0) []), .gn (gUl (.slice none ([] : List Uv).length 0) []), .gn (gSl (.slice za Z.length zk) Z)] _) := Lib.hid (E6.out.note (.gn (gUl (.slice none ([] : List Uv).length 0) [])) (gUl.nil _ _))
    clear E6
    go_loopg [35] (Z.length) (fun gk s35 wr => ∃ (k : Nat) (xa : Option Addr) (xk : Nat) (X : List Uv) (ya : Option Addr) (yk : Nat) (Y : List Uv), s35 = .int .i64 (k : Int) ∧ Hid (Env D w [(w4.heap.size + 1, 25, [.slice ya Y.length yk]), (w4.heap.size, 25, [.slice xa X.length xk])] [.gn (gUl (.slice ya Y.length yk) Y), .gn (gUl (.slice xa X.length xk) X), .gn (gSl (.slice za Z.length zk) Z)] wr) ∧ Hid (k ≤ Z.length ∧ gk = Z.length - k ∧ TabOf (fun t => t ∈ (Z.map Sv.s).take k) k (X.map Uv.u) ∧ TabOf (fun t => t ∈ (Z.map Sv.s).drop ((Z.map Sv.s).length - k)) k (Y.map Uv.u)))
    case atStart => exact ⟨0, none, 0, [], none, 0, [], rfl, Lib.hid E7.out, Lib.hid ⟨Nat.zero_le _, rfl, TabOf.take0, TabOf.drop0⟩⟩
    case round =>
      clear E4 E7
      obtain ⟨k, xa, xk, X, ya, yk, Y, rfl, EL, HA⟩ := hrel
      obtain ⟨a1, a2, a3, a4⟩ := HA.out
      have HTX := Lib.hid a3
      have HTY := Lib.hid a4
      clear HA a3 a4
      by_cases hy : k = Z.length
      · skip
        have t6 : decide ((k : Int) < (Z.length : Int)) = false := decide_eq_false (by omega)
        have t7 : decide (k < Z.length) = false := decide_eq_false (by omega)
        have HYY := Lib.hid hy
        clear hy
        have HSK : Hid (SameKeys (X.map Uv.u) (Y.map Uv.u)) := Lib.hid (by have h1 := HTX.out; have h2 := HTY.out; rw [show k = (Z.map Sv.s).length from (by rw [List.length_map]; exact HYY.out)] at h1 h2; exact TabOf.both h1 h2)
        have HVX : Hid (ValidT (X.map Uv.u)) := Lib.hid HTX.out.valid
        have HVY : Hid (ValidT (Y.map Uv.u)) := Lib.hid HTY.out.valid
        have hxl : X.length ≤ 2000 := valid_len HVX.out
        have hyl : X.length = Y.length := by have h := HSK.out.1; rwa [List.length_map, List.length_map] at h
        have HYL := Lib.hid hyl
        have hne1 : ((X.length : Int) != (Y.length : Int)) = false := by rw [hyl]; simp
        have hne2 : (X.length != Y.length) = false := by rw [hyl]; simp
        clear hyl
        have b1 := EL.out.bx 1 rfl
        have c1_0 := b1.cell 0 rfl
        clear b1
        have b2 := EL.out.bx 0 rfl
        have c2_0 := b2.cell 0 rfl
        clear b2
        go_wp2_with fail
        refine (valid_c X (EL.out.fc 1 rfl) (valid_bd HVX.out) (t := true) ⟨fun _ => HVX.out, fun _ => rfl⟩ (Nat.le_trans (valid_len HVX.out) (by omega))).mono ?_
        rintro e w5 ⟨rfl, hb⟩
        have E8 : Hid (Env D w [(w4.heap.size + 1, 25, [.slice ya Y.length yk]), (w4.heap.size, 25, [.slice xa X.length xk])] [.gn (gUl (.slice ya Y.length yk) Y), .gn (gUl (.slice xa X.length xk) X), .gn (gSl (.slice za Z.length zk) Z)] w5) := Lib.hid (EL.out.below hb)
        clear c1_0 c2_0 EL hb
        have b3 := E8.out.bx 0 rfl
        have c3_0 := b3.cell 0 rfl
        clear b3
        go_wp2_with fail
        refine (valid_c Y (E8.out.fc 0 rfl) (valid_bd HVY.out) (t := true) ⟨fun _ => HVY.out, fun _ => rfl⟩ (Nat.le_trans (valid_len HVY.out) (by omega))).mono ?_
        rintro e w6 ⟨rfl, hb⟩
        have E9 : Hid (Env D w [(w4.heap.size + 1, 25, [.slice ya Y.length yk]), (w4.heap.size, 25, [.slice xa X.length xk])] [.gn (gUl (.slice ya Y.length yk) Y), .gn (gUl (.slice xa X.length xk) X), .gn (gSl (.slice za Z.length zk) Z)] w6) := Lib.hid (E8.out.below hb)
        clear c3_0 E8 hb
        have b4 := E9.out.bx 1 rfl
        have c4_0 := b4.cell 0 rfl
        clear b4
        clear a1 a2 t6 t7
        rename World => wz
        go_wp2_with fail
        go_loopg [89, 12] (X.length) (fun gk s89 s12 wr => ∃ (i : Nat) (d : Nat), s89 = .int .i64 (i : Int) ∧ s12 = .int .i64 (d : Int) ∧ Hid (Env D w [(w4.heap.size + 1, 25, [.slice ya Y.length yk]), (w4.heap.size, 25, [.slice xa X.length xk])] [.gn (gUl (.slice ya Y.length yk) Y), .gn (gUl (.slice xa X.length xk) X), .gn (gSl (.slice za Z.length zk) Z)] wr) ∧ Hid (i ≤ X.length ∧ gk = X.length - i ∧ d = diffN (X.map Uv.u) (Y.map Uv.u) i))
        case atStart => exact ⟨0, 0, rfl, rfl, Lib.hid E9.out, Lib.hid ⟨Nat.zero_le _, rfl, rfl⟩⟩
        case round =>
          clear c4_0 E9 hne1 hne2
          obtain ⟨i, d, rfl, rfl, EL, HA⟩ := hrel
          obtain ⟨a1, a2, a3⟩ := HA.out
          have HD := Lib.hid a3
          have hd9 : d ≤ 2000 := by rw [a3]; exact Nat.le_trans (diffN_le _) (by omega)
          clear HA a3
          by_cases hy : i = X.length
          · skip
            have t6 : decide ((i : Int) < (X.length : Int)) = false := decide_eq_false (by omega)
            have t7 : decide (i < X.length) = false := decide_eq_false (by omega)
            have HIL := Lib.hid hy
            clear hy
            obtain ⟨C, c1, c2, c3⟩ := merge_keys HVX.out HVY.out HSK.out
            have HM := Lib.hid c1
            have HC := Lib.hid c3
            have HCD : Hid (C.length = d) := Lib.hid (by rw [c2, HD.out, HIL.out, List.length_map, ← HYL.out])
            clear c1 c2 c3
            have HPB := Lib.hid (mergeRes_bd (P := Bd) (fun u hu => Bd.valid HVX.out hu) (fun u hu => Bd.valid HVY.out hu) HM.out)
            have b5 := EL.out.bx 1 rfl
            have c5_0 := b5.cell 0 rfl
            clear b5
            have b6 := EL.out.bx 0 rfl
            have c6_0 := b6.cell 0 rfl
            clear b6
            go_wp2_with fail
            refine (merge_c X Y (EL.out.fc 1 rfl) (EL.out.fc 0 rfl) (valid_bd HVX.out) (valid_bd HVY.out) ⟨Nat.le_trans (valid_len HVX.out) (by omega), Nat.le_trans (valid_len HVY.out) (by omega)⟩ HM.out).mono ?_
            rintro e w7 ⟨⟨ca, ck, cX, cc, cj, cY, rfl, c1, c2, cH, cI⟩, hb⟩
            have E10 : Hid (Env D w [(w4.heap.size + 1, 25, [.slice ya Y.length yk]), (w4.heap.size, 25, [.slice xa X.length xk])] [.gn (gPl (.slice cc cY.length cj) cY), .gn (gUl (.slice ca cX.length ck) cX), .gn (gUl (.slice ya Y.length yk) Y), .gn (gUl (.slice xa X.length xk) X), .gn (gSl (.slice za Z.length zk) Z)] w7) := Lib.hid (EL.out.got (EL.out.got (EL.out.below hb) (.gn (gUl (.slice ca cX.length ck) cX)) cH.out) (.gn (gPl (.slice cc cY.length cj) cY)) cI.out)
            clear c5_0 c6_0 EL hb cH cI
            have cL := Lib.hid c1; have cC := Lib.hid c2; clear c1 c2
            have hcl : cY.length = d := by rw [pmap_len cC.out]; exact HCD.out
            have HCL := Lib.hid hcl
            have hne1 : ((cY.length : Int) != (d : Int)) = false := by rw [hcl]; simp
            have hne2 : (cY.length != d) = false := by rw [hcl]; simp
            clear hcl
            have E11 : Hid (Env D w [(w7.heap.size, 25, [.slice ca cX.length ck]), (w4.heap.size + 1, 25, [.slice ya Y.length yk]), (w4.heap.size, 25, [.slice xa X.length xk])] [.gn (gPl (.slice cc cY.length cj) cY), .gn (gUl (.slice ca cX.length ck) cX), .gn (gUl (.slice ya Y.length yk) Y), .gn (gUl (.slice xa X.length xk) X), .gn (gSl (.slice za Z.length zk) Z)] _) := Lib.hid ((E10.out.push 25 [.slice ca cX.length ck] (w7.heap.size) (by simp)))
            have b7 := E11.out.bx 2 rfl
            have c7_0 := b7.cell 0 rfl
            clear b7
            go_wp2_with fail
            refine (rsame_c cX X (E11.out.fc 1 rfl) (E11.out.fc 3 rfl) (valid_bd (by rw [cL.out]; exact HVX.out)) (valid_bd HVX.out) ⟨by rw [map_len cL.out]; exact Nat.le_trans HVX.out.1 (by omega), Nat.le_trans (valid_len HVX.out) (by omega)⟩ (t := true) ⟨fun _ => cL.out, fun _ => rfl⟩).mono ?_
            rintro e w8 ⟨rfl, hb⟩
            have E12 : Hid (Env D w [(w7.heap.size, 25, [.slice ca cX.length ck]), (w4.heap.size + 1, 25, [.slice ya Y.length yk]), (w4.heap.size, 25, [.slice xa X.length xk])] [.gn (gPl (.slice cc cY.length cj) cY), .gn (gUl (.slice ca cX.length ck) cX), .gn (gUl (.slice ya Y.length yk) Y), .gn (gUl (.slice xa X.length xk) X), .gn (gSl (.slice za Z.length zk) Z)] w8) := Lib.hid (E11.out.below hb)
            clear c7_0 E10 E11 hb
            have hc9 : cY.length ≤ 2000 := by have := HCL.out; omega
            clear a1 a2 t6 t7
            rename World => wy
            go_wp2_with fail
            go_loopg [162] (cY.length) (fun gk s162 wr => ∃ (j : Nat), s162 = .int .i64 (j : Int) ∧ Hid (Env D w [(w7.heap.size, 25, [.slice ca cX.length ck]), (w4.heap.size + 1, 25, [.slice ya Y.length yk]), (w4.heap.size, 25, [.slice xa X.length xk])] [.gn (gPl (.slice cc cY.length cj) cY), .gn (gUl (.slice ca cX.length ck) cX), .gn (gUl (.slice ya Y.length yk) Y), .gn (gUl (.slice xa X.length xk) X), .gn (gSl (.slice za Z.length zk) Z)] wr) ∧ Hid (j ≤ cY.length ∧ gk = cY.length - j))
            case atStart => exact ⟨0, rfl, Lib.hid E12.out, Lib.hid ⟨Nat.zero_le _, rfl⟩⟩
            case round =>
              clear E12 hne1 hne2
              obtain ⟨j, rfl, EL, HA⟩ := hrel
              obtain ⟨a1, a2⟩ := HA.out
              clear HA
              by_cases hy : j = cY.length
              · skip
                have t6 : decide ((j : Int) < (cY.length : Int)) = false := decide_eq_false (by omega)
                have t7 : decide (j < cY.length) = false := decide_eq_false (by omega)
                clear hy
                have HS := Lib.hid (merge_self HVX.out)
                have b8 := EL.out.bx 2 rfl
                have c8_0 := b8.cell 0 rfl
                clear b8
                go_wp2_with fail
                refine (merge_c X X (EL.out.fc 3 rfl) (EL.out.fc 3 rfl) (valid_bd HVX.out) (valid_bd HVX.out) ⟨Nat.le_trans (valid_len HVX.out) (by omega), Nat.le_trans (valid_len HVX.out) (by omega)⟩ HS.out).mono ?_
                rintro e w9 ⟨⟨na, nk, nX, nc, nj, nY, rfl, n1, n2, nH, nI⟩, hb⟩
                have E13 : Hid (Env D w [(w7.heap.size, 25, [.slice ca cX.length ck]), (w4.heap.size + 1, 25, [.slice ya Y.length yk]), (w4.heap.size, 25, [.slice xa X.length xk])] [.gn (gPl (.slice nc nY.length nj) nY), .gn (gUl (.slice na nX.length nk) nX), .gn (gPl (.slice cc cY.length cj) cY), .gn (gUl (.slice ca cX.length ck) cX), .gn (gUl (.slice ya Y.length yk) Y), .gn (gUl (.slice xa X.length xk) X), .gn (gSl (.slice za Z.length zk) Z)] w9) := Lib.hid (EL.out.got (EL.out.got (EL.out.below hb) (.gn (gUl (.slice na nX.length nk) nX)) nH.out) (.gn (gPl (.slice nc nY.length nj) nY)) nI.out)
                clear c8_0 EL hb nH nI
                have nL := Lib.hid n1; have nC := Lib.hid n2; clear n1 n2
                have hnl : nY.length = 0 := by rw [pmap_len nC.out]; rfl
                have m1 : ((nY.length : Int) == 0) = true := by rw [hnl]; rfl
                have m2 : (nY.length == 0) = true := by rw [hnl]; rfl
                clear hnl
                have E14 : Hid (Env D w [(w9.heap.size, 25, [.slice na nX.length nk]), (w7.heap.size, 25, [.slice ca cX.length ck]), (w4.heap.size + 1, 25, [.slice ya Y.length yk]), (w4.heap.size, 25, [.slice xa X.length xk])] [.gn (gPl (.slice nc nY.length nj) nY), .gn (gUl (.slice na nX.length nk) nX), .gn (gPl (.slice cc cY.length cj) cY), .gn (gUl (.slice ca cX.length ck) cX), .gn (gUl (.slice ya Y.length yk) Y), .gn (gUl (.slice xa X.length xk) X), .gn (gSl (.slice za Z.length zk) Z)] _) := Lib.hid ((E13.out.push 25 [.slice na nX.length nk] (w9.heap.size) (by simp)))
                have b9 := E14.out.bx 3 rfl
                have c9_0 := b9.cell 0 rfl
                clear b9
                go_wp2_with fail
                refine (rsame_c nX X (E14.out.fc 1 rfl) (E14.out.fc 5 rfl) (valid_bd (by rw [nL.out]; exact HVX.out)) (valid_bd HVX.out) ⟨by rw [map_len nL.out]; exact Nat.le_trans HVX.out.1 (by omega), Nat.le_trans (valid_len HVX.out) (by omega)⟩ (t := true) ⟨fun _ => nL.out, fun _ => rfl⟩).mono ?_
                rintro e w10 ⟨rfl, hb⟩
                have E15 : Hid (Env D w [(w9.heap.size, 25, [.slice na nX.length nk]), (w7.heap.size, 25, [.slice ca cX.length ck]), (w4.heap.size + 1, 25, [.slice ya Y.length yk]), (w4.heap.size, 25, [.slice xa X.length xk])] [.gn (gPl (.slice nc nY.length nj) nY), .gn (gUl (.slice na nX.length nk) nX), .gn (gPl (.slice cc cY.length cj) cY), .gn (gUl (.slice ca cX.length ck) cX), .gn (gUl (.slice ya Y.length yk) Y), .gn (gUl (.slice xa X.length xk) X), .gn (gSl (.slice za Z.length zk) Z)] w10) := Lib.hid (E14.out.below hb)
                clear c9_0 E13 E14 hb
                have hfin := Lib.hid E15.out.bel
                go_wp2
                go_ret
                exact ⟨rfl, hfin.out⟩
              have hj : j < cY.length := lt_of hy a1
              have t6 : decide ((j : Int) < (cY.length : Int)) = true := decide_eq_true (by omega)
              have t7 : decide (j < cY.length) = true := decide_eq_true (by omega)
              have hjI : (j : Int) < (cY.length : Int) := by omega
              clear hy
              go_upto_region 32 with (fail)
              obtain ⟨ub, uo, rfl⟩ := gPl.addr (EL.out.fc 0 rfl) (List.ne_nil_of_length_pos (Nat.lt_of_le_of_lt (Nat.zero_le _) hj))
              obtain ⟨⟨ux, uy⟩, ue⟩ : ∃ x, cY[j] = x := ⟨_, rfl⟩
              have uE := Lib.hid ue
              clear ue
              have E13 : Hid (Env D w [(w7.heap.size, 25, [.slice ca cX.length ck]), (w4.heap.size + 1, 25, [.slice ya Y.length yk]), (w4.heap.size, 25, [.slice xa X.length xk])] [.gn (gRg ub (uo + j * 166) (pcc (ux, uy))), .gn (gSp ux.u.sp ux.la ux.pa), .gn (gSp uy.u.sp uy.la uy.pa), .gn (gPl (.slice (some ⟨ub, uo, none⟩) cY.length cj) cY), .gn (gUl (.slice ca cX.length ck) cX), .gn (gUl (.slice ya Y.length yk) Y), .gn (gUl (.slice xa X.length xk) X), .gn (gSl (.slice za Z.length zk) Z)] _) := Lib.hid (EL.out.elPw 0 rfl hj uE.out)
              clear EL
              have uxS := Lib.hid (E13.out.spOk 1 rfl)
              have uyS := Lib.hid (E13.out.spOk 2 rfl)
              have uN : Hid (∀ v ∈ pcc (ux, uy), v.oneCell' = true) := Lib.hid (pcc_oneS (usone (E13.out.fc 1 rfl)) (usone (E13.out.fc 2 rfl)))
              have HPM : Hid ((ux.u, uy.u) ∈ C) := Lib.hid (by have h1 := pmap_get hj uE.out; rw [cC.out] at h1; exact List.mem_of_getElem? h1)
              have HPK := Lib.hid (HC.out _ HPM.out)
              have n1 : (ux.u.ua != uy.u.ua) = false := by rw [HPK.out.1]; simp
              have n2 : (ux.u.ub != uy.u.ub) = false := by rw [HPK.out.2.1]; simp
              have Bu := Lib.hid (HPB.out.2.1 _ HPM.out)
              have r8 := Lib.hid (E13.out.fc 0 rfl).2
              have E14 : Hid (Env D w [(wr.heap.size, 78, zP), (w7.heap.size, 25, [.slice ca cX.length ck]), (w4.heap.size + 1, 25, [.slice ya Y.length yk]), (w4.heap.size, 25, [.slice xa X.length xk])] [.gn (gRg ub (uo + j * 166) (pcc (ux, uy))), .gn (gSp ux.u.sp ux.la ux.pa), .gn (gSp uy.u.sp uy.la uy.pa), .gn (gPl (.slice (some ⟨ub, uo, none⟩) cY.length cj) cY), .gn (gUl (.slice ca cX.length ck) cX), .gn (gUl (.slice ya Y.length yk) Y), .gn (gUl (.slice xa X.length xk) X), .gn (gSl (.slice za Z.length zk) Z)] _) := Lib.hid ((E13.out.push 78 zP (wr.heap.size) (by simp)))
              have b9 := Lib.hid (E14.out.bx 0 rfl)
              have E15 : Hid (Env D w [(wr.heap.size, 78, pcc (ux, uy)), (w7.heap.size, 25, [.slice ca cX.length ck]), (w4.heap.size + 1, 25, [.slice ya Y.length yk]), (w4.heap.size, 25, [.slice xa X.length xk])] [.gn (gRg ub (uo + j * 166) (pcc (ux, uy))), .gn (gSp ux.u.sp ux.la ux.pa), .gn (gSp uy.u.sp uy.la uy.pa), .gn (gPl (.slice (some ⟨ub, uo, none⟩) cY.length cj) cY), .gn (gUl (.slice ca cX.length ck) cX), .gn (gUl (.slice ya Y.length yk) Y), .gn (gUl (.slice xa X.length xk) X), .gn (gSl (.slice za Z.length zk) Z)] _) := Lib.hid ((E14.out.whole 0 (pcc (ux, uy)) rfl ((pcc_lenS uxS.out uyS.out).trans zP_len.symm)))
              have b10 := E15.out.bx 0 rfl
              have c10 := b10.cell 0 rfl
              clear b10
              have b11 := E15.out.bx 0 rfl
              have c11 := b11.cell 83 (pcc_r uxS.out (j := 0) rfl rfl)
              clear b11
              have b12 := E15.out.bx 0 rfl
              have c12 := b12.cell 1 rfl
              clear b12
              have b13 := E15.out.bx 0 rfl
              have c13 := b13.cell 84 (pcc_r uxS.out (j := 1) rfl rfl)
              clear b13
              have b14 := E15.out.bx 0 rfl
              have r14 := Lib.hid (b14.range (o := 2) (pcc_sp1 uxS.out))
              clear b14
              have b15 := E15.out.bx 0 rfl
              have r15 := Lib.hid (b15.range (o := 85) (pcc_sp2 uxS.out uyS.out))
              clear b15
              go_wp2_with (first | (with_reducible refine wpl_load_b bPair ub (uo + j * 166) ?_ ?_ (pcc (ux, uy)) (pcc_lenS uxS.out uyS.out) r8.out ?_; (· exact ⟨_, rfl, rfl⟩); (· kernel_rfl)) | (with_reducible refine wpl_alloc_b ?_ ?_ _ zvPair ?_; (· rfl); (· rfl)) | (with_reducible refine wpl_store_b bPair wr.heap.size 0 (pcc (ux, uy)) ?_ ?_ (pcc_lenS uxS.out uyS.out) (Box.there b9.out (Nat.le_of_eq zP_len.symm)) uN.out ?_; (· first | exact ⟨_, _, rfl, rfl, rfl⟩ | (refine ⟨_, _, rfl, ?_, ?_⟩ <;> simp [Act.eval, Act.put])); (· kernel_rfl)) | (with_reducible refine wpl_load_b bSpend wr.heap.size 2 ?_ ?_ (spc ux.u.sp ux.la ux.pa) (spc_len uxS.out _ _) r14.out ?_; (· exact ⟨_, rfl, rfl⟩); (· kernel_rfl)) | (with_reducible refine wpl_load_b bSpend wr.heap.size 85 ?_ ?_ (spc uy.u.sp uy.la uy.pa) (spc_len uyS.out _ _) r15.out ?_; (· exact ⟨_, rfl, rfl⟩); (· kernel_rfl)))
              refine (same32_c ux.u.sp uy.u.sp (E15.out.fc 1 rfl) (E15.out.fc 2 rfl) Bu.out.1 Bu.out.2 (r := false) ⟨fun h => Bool.noConfusion h, fun h => absurd h HPK.out.2.2⟩).mono ?_
              rintro e w9 ⟨rfl, hb⟩
              have E16 : Hid (Env D w [(wr.heap.size, 78, pcc (ux, uy)), (w7.heap.size, 25, [.slice ca cX.length ck]), (w4.heap.size + 1, 25, [.slice ya Y.length yk]), (w4.heap.size, 25, [.slice xa X.length xk])] [.gn (gRg ub (uo + j * 166) (pcc (ux, uy))), .gn (gSp ux.u.sp ux.la ux.pa), .gn (gSp uy.u.sp uy.la uy.pa), .gn (gPl (.slice (some ⟨ub, uo, none⟩) cY.length cj) cY), .gn (gUl (.slice ca cX.length ck) cX), .gn (gUl (.slice ya Y.length yk) Y), .gn (gUl (.slice xa X.length xk) X), .gn (gSl (.slice za Z.length zk) Z)] w9) := Lib.hid (E15.out.below hb)
              clear r8 b9 c10 c11 c12 c13 r14 r15 E13 E14 E15 hb
              have EZ := Lib.hid ((((E16.out.drop).forget).forget).forget)
              go_wp2_with (first | (with_reducible refine wpl_alloc_b ?_ ?_ _ zvPair ?_; (· rfl); (· rfl)))
              go_roundg (cY.length - (j + 1))
              case rel => exact ⟨j + 1, rfl, EZ, Lib.hid ⟨by omega, rfl⟩⟩
              case measure => exact by omega
          have hi : i < X.length := lt_of hy a1
          have hi2 : i < Y.length := by have := HYL.out; omega
          have t6 : decide ((i : Int) < (X.length : Int)) = true := decide_eq_true (by omega)
          have t7 : decide (i < X.length) = true := decide_eq_true (by omega)
          have hiI : (i : Int) < (X.length : Int) := by omega
          have hiJ : (i : Int) < (Y.length : Int) := by omega
          clear hy
          go_upto_region 22 with (fail)
          obtain ⟨xab, xao, rfl⟩ := gUl.addr (EL.out.fc 1 rfl) (List.ne_nil_of_length_pos (Nat.lt_of_le_of_lt (Nat.zero_le _) hi))
          obtain ⟨x, xe⟩ : ∃ x, X[i] = x := ⟨_, rfl⟩
          have xE := Lib.hid xe
          clear xe
          have E10 : Hid (Env D w [(w4.heap.size + 1, 25, [.slice ya Y.length yk]), (w4.heap.size, 25, [.slice (some ⟨xab, xao, none⟩) X.length xk])] [.gn (gRg xab (xao + i * 83) (usc x.u x.la x.pa)), .gn (gSp x.u.sp x.la x.pa), .gn (gUl (.slice ya Y.length yk) Y), .gn (gUl (.slice (some ⟨xab, xao, none⟩) X.length xk) X), .gn (gSl (.slice za Z.length zk) Z)] _) := Lib.hid (EL.out.elU 1 rfl hi xE.out)
          clear EL
          have xS := Lib.hid (E10.out.spOk 1 rfl)
          have xN : Hid (∀ v ∈ usc x.u x.la x.pa, v.oneCell' = true) := Lib.hid (usc_one xS.out (Rw.oneV (E10.out.fc 1 rfl).2.1) (Rw.oneV (E10.out.fc 1 rfl).2.2))
          obtain ⟨yab, yao, rfl⟩ := gUl.addr (E10.out.fc 2 rfl) (List.ne_nil_of_length_pos (Nat.lt_of_le_of_lt (Nat.zero_le _) hi2))
          obtain ⟨y, ye⟩ : ∃ x, Y[i] = x := ⟨_, rfl⟩
          have yE := Lib.hid ye
          clear ye
          have E11 : Hid (Env D w [(w4.heap.size + 1, 25, [.slice (some ⟨yab, yao, none⟩) Y.length yk]), (w4.heap.size, 25, [.slice (some ⟨xab, xao, none⟩) X.length xk])] [.gn (gRg yab (yao + i * 83) (usc y.u y.la y.pa)), .gn (gSp y.u.sp y.la y.pa), .gn (gRg xab (xao + i * 83) (usc x.u x.la x.pa)), .gn (gSp x.u.sp x.la x.pa), .gn (gUl (.slice (some ⟨yab, yao, none⟩) Y.length yk) Y), .gn (gUl (.slice (some ⟨xab, xao, none⟩) X.length xk) X), .gn (gSl (.slice za Z.length zk) Z)] _) := Lib.hid (E10.out.elU 2 rfl hi2 yE.out)
          clear E10
          have yS := Lib.hid (E11.out.spOk 1 rfl)
          have yN : Hid (∀ v ∈ usc y.u y.la y.pa, v.oneCell' = true) := Lib.hid (usc_one yS.out (Rw.oneV (E11.out.fc 1 rfl).2.1) (Rw.oneV (E11.out.fc 1 rfl).2.2))
          have HKK : Hid (x.u.ua = y.u.ua ∧ x.u.ub = y.u.ub) := Lib.hid (HSK.out.2 i x.u y.u (map_get hi xE.out) (map_get hi2 yE.out))
          have n1 : (x.u.ua != y.u.ua) = false := by rw [HKK.out.1]; simp
          have n2 : (x.u.ub != y.u.ub) = false := by rw [HKK.out.2]; simp
          have Bx : Hid (x.u.sp.lv.length ≤ 1000000 ∧ x.u.sp.pa.length ≤ 1000000) := Lib.hid (valid_bd HVX.out x (List.mem_of_getElem (h := hi) xE.out))
          have By : Hid (y.u.sp.lv.length ≤ 1000000 ∧ y.u.sp.pa.length ≤ 1000000) := Lib.hid (valid_bd HVY.out y (List.mem_of_getElem (h := hi2) yE.out))
          go_wp2_with fail
          have E12 : Hid (Env D w [(w4.heap.size + 1, 25, [.slice (some ⟨yab, yao, none⟩) Y.length yk]), (w4.heap.size, 25, [.slice (some ⟨xab, xao, none⟩) X.length xk])] [.gn (gRg yab (yao + i * 83) (usc y.u y.la y.pa)), .gn (gSp y.u.sp y.la y.pa), .gn (gRg xab (xao + i * 83) (usc x.u x.la x.pa)), .gn (gSp x.u.sp x.la x.pa), .gn (gUl (.slice (some ⟨yab, yao, none⟩) Y.length yk) Y), .gn (gUl (.slice (some ⟨xab, xao, none⟩) X.length xk) X), .gn (gSl (.slice za Z.length zk) Z)] (wr.drew)) := Lib.hid E11.out.drew
          clear E11
          refine wp_regionU (S := fun w' => w'.cell? ⟨w4.heap.size, 0, none⟩ = some (.slice (some ⟨xab, xao, none⟩) X.length xk) ∧ w'.cell? ⟨w4.heap.size + 1, 0, none⟩ = some (.slice (some ⟨yab, yao, none⟩) Y.length yk) ∧ w'.cell? ⟨xab, xao + i * 83, none⟩ = some (.int .i64 x.u.ua) ∧ w'.cell? ⟨yab, yao + i * 83, none⟩ = some (.int .i64 y.u.ua) ∧ w'.cell? ⟨xab, xao + i * 83 + 1, none⟩ = some (.int .i64 x.u.ub) ∧ w'.cell? ⟨yab, yao + i * 83 + 1, none⟩ = some (.int .i64 y.u.ub)) [] (by kernel_rfl) (⟨((E12.out.bx 1 rfl).cell 0 rfl), ((E12.out.bx 0 rfl).cell 0 rfl), (gRg.cell (E12.out.fc 2 rfl) (j := 0) rfl), (gRg.cell (E12.out.fc 0 rfl) (j := 0) rfl), (gRg.cell (E12.out.fc 2 rfl) (j := 1) rfl), (gRg.cell (E12.out.fc 0 rfl) (j := 1) rfl)⟩) (fun hHeld => ?_)
          generalize wr.drew = w7 at *
          refine uTake (i := 0) (some 92) (v := ?_) rfl rfl (by kernel_rfl) (by kernel_rfl) (by kernel_rfl) (by kernel_rfl) (fun _ _ _ h => h) (by rfl) (by assumption) ?_ ?_
          rotate_left
          · (intro wS hSw; (try dsimp only at hSw); go_simp; try with_reducible rfl)
          try simp only [Act.put, List.setIfInBounds_toArray, List.set_cons_zero, List.set_cons_succ]
          refine uTake (i := 1) (some 93) (v := ?_) rfl rfl (by kernel_rfl) (by kernel_rfl) (by kernel_rfl) (by kernel_rfl) (fun _ _ _ h => h) (by rfl) (by assumption) ?_ ?_
          rotate_left
          · (intro wS hSw; (try dsimp only at hSw); go_simp; try with_reducible rfl)
          try simp only [Act.put, List.setIfInBounds_toArray, List.set_cons_zero, List.set_cons_succ]
          refine uTake (i := 2) (some 94) (v := ?_) rfl rfl (by kernel_rfl) (by kernel_rfl) (by kernel_rfl) (by kernel_rfl) (fun _ _ _ h => h) (by rfl) (by assumption) ?_ ?_
          rotate_left
          · (intro wS hSw; (try dsimp only at hSw); go_simp; try with_reducible rfl)
          try simp only [Act.put, List.setIfInBounds_toArray, List.set_cons_zero, List.set_cons_succ]
          refine uTake (i := 3) (some 95) (v := ?_) rfl rfl (by kernel_rfl) (by kernel_rfl) (by kernel_rfl) (by kernel_rfl) (fun _ _ _ h => h) (by rfl) (by assumption) ?_ ?_
          rotate_left
          · (intro wS hSw; (try dsimp only at hSw); go_simp; try with_reducible rfl)
          try simp only [Act.put, List.setIfInBounds_toArray, List.set_cons_zero, List.set_cons_succ]
          refine uTake (i := 4) (some 96) (v := ?_) rfl rfl (by kernel_rfl) (by kernel_rfl) (by kernel_rfl) (by kernel_rfl) (fun _ _ _ h => h) (by rfl) (by assumption) ?_ ?_
          rotate_left
          · (intro wS hSw; (try dsimp only at hSw); go_simp; try with_reducible rfl)
          try simp only [Act.put, List.setIfInBounds_toArray, List.set_cons_zero, List.set_cons_succ]
          refine uTake (i := 5) (some 97) (v := ?_) rfl rfl (by kernel_rfl) (by kernel_rfl) (by kernel_rfl) (by kernel_rfl) (fun _ _ _ h => h) (by rfl) (by assumption) ?_ ?_
          rotate_left
          · (intro wS hSw; (try dsimp only at hSw); go_simp; try with_reducible rfl)
          try simp only [Act.put, List.setIfInBounds_toArray, List.set_cons_zero, List.set_cons_succ]
          refine uTake (i := 6) (some 98) (v := ?_) rfl rfl (by kernel_rfl) (by kernel_rfl) (by kernel_rfl) (by kernel_rfl) (fun _ _ _ h => h) (by rfl) (by assumption) ?_ ?_
          rotate_left
          · (intro wS hSw; (try dsimp only at hSw); go_simp; try with_reducible rfl)
          try simp only [Act.put, List.setIfInBounds_toArray, List.set_cons_zero, List.set_cons_succ]
          refine uTake (i := 7) (some 99) (v := ?_) rfl rfl (by kernel_rfl) (by kernel_rfl) (by kernel_rfl) (by kernel_rfl) (fun _ _ _ h => h) (by rfl) (by assumption) ?_ ?_
          rotate_left
          · (intro wS hSw; (try dsimp only at hSw); go_simp; try with_reducible rfl)
          try simp only [Act.put, List.setIfInBounds_toArray, List.set_cons_zero, List.set_cons_succ]
          refine uTake (i := 8) (some 100) (v := ?_) rfl rfl (by kernel_rfl) (by kernel_rfl) (by kernel_rfl) (by kernel_rfl) (fun _ _ _ h => h) (by rfl) (by assumption) ?_ ?_
          rotate_left
          · (intro wS hSw; (try dsimp only at hSw); go_simp; try with_reducible rfl)
          try simp only [Act.put, List.setIfInBounds_toArray, List.set_cons_zero, List.set_cons_succ]
          refine uTake (i := 9) (some 101) (v := ?_) rfl rfl (by kernel_rfl) (by kernel_rfl) (by kernel_rfl) (by kernel_rfl) (fun _ _ _ h => h) (by rfl) (by assumption) ?_ ?_
          rotate_left
          · (intro wS hSw; (try dsimp only at hSw); go_simp; try with_reducible rfl)
          try simp only [Act.put, List.setIfInBounds_toArray, List.set_cons_zero, List.set_cons_succ]
          refine uTake (i := 10) (some 102) (v := ?_) rfl rfl (by kernel_rfl) (by kernel_rfl) (by kernel_rfl) (by kernel_rfl) (fun _ _ _ h => h) (by rfl) (by assumption) ?_ ?_
          rotate_left
          · (intro wS hSw; (try dsimp only at hSw); go_simp; try with_reducible rfl)
          try simp only [Act.put, List.setIfInBounds_toArray, List.set_cons_zero, List.set_cons_succ]
          refine uTake (i := 11) (some 103) (v := ?_) rfl rfl (by kernel_rfl) (by kernel_rfl) (by kernel_rfl) (by kernel_rfl) (fun _ _ _ h => h) (by rfl) (by assumption) ?_ ?_
          rotate_left
          · (intro wS hSw; (try dsimp only at hSw); go_simp; try with_reducible rfl)
          try simp only [Act.put, List.setIfInBounds_toArray, List.set_cons_zero, List.set_cons_succ]
          refine uTake (i := 12) (some 104) (v := ?_) rfl rfl (by kernel_rfl) (by kernel_rfl) (by kernel_rfl) (by kernel_rfl) (fun _ _ _ h => h) (by rfl) (by assumption) ?_ ?_
          rotate_left
          · (intro wS hSw; (try dsimp only at hSw); go_simp; try with_reducible rfl)
          try simp only [Act.put, List.setIfInBounds_toArray, List.set_cons_zero, List.set_cons_succ]
          refine uTake (i := 13) (some 105) (v := ?_) rfl rfl (by kernel_rfl) (by kernel_rfl) (by kernel_rfl) (by kernel_rfl) (fun _ _ _ h => h) (by rfl) (by assumption) ?_ ?_
          rotate_left
          · (intro wS hSw; (try dsimp only at hSw); go_simp; try with_reducible rfl)
          try simp only [Act.put, List.setIfInBounds_toArray, List.set_cons_zero, List.set_cons_succ]
          refine uTake (i := 14) (some 106) (v := ?_) rfl rfl (by kernel_rfl) (by kernel_rfl) (by kernel_rfl) (by kernel_rfl) (fun _ _ _ h => h) (by rfl) (by assumption) ?_ ?_
          rotate_left
          · (intro wS hSw; (try dsimp only at hSw); go_simp; try with_reducible rfl)
          try simp only [Act.put, List.setIfInBounds_toArray, List.set_cons_zero, List.set_cons_succ]
          refine uTake (i := 15) (some 107) (v := ?_) rfl rfl (by kernel_rfl) (by kernel_rfl) (by kernel_rfl) (by kernel_rfl) (fun _ _ _ h => h) (by rfl) (by assumption) ?_ ?_
          rotate_left
          · (intro wS hSw; (try dsimp only at hSw); go_simp; try with_reducible rfl)
          try simp only [Act.put, List.setIfInBounds_toArray, List.set_cons_zero, List.set_cons_succ]
          refine uTake (i := 16) (some 108) (v := ?_) rfl rfl (by kernel_rfl) (by kernel_rfl) (by kernel_rfl) (by kernel_rfl) (fun _ _ _ h => h) (by rfl) (by assumption) ?_ ?_
          rotate_left
          · (intro wS hSw; (try dsimp only at hSw); go_simp; try with_reducible rfl)
          try simp only [Act.put, List.setIfInBounds_toArray, List.set_cons_zero, List.set_cons_succ]
          refine uTake (i := 17) (some 109) (v := ?_) rfl rfl (by kernel_rfl) (by kernel_rfl) (by kernel_rfl) (by kernel_rfl) (fun _ _ _ h => h) (by rfl) (by assumption) ?_ ?_
          rotate_left
          · (intro wS hSw; (try dsimp only at hSw); go_simp; try with_reducible rfl)
          try simp only [Act.put, List.setIfInBounds_toArray, List.set_cons_zero, List.set_cons_succ]
          refine uTake (i := 18) (some 110) (v := ?_) rfl rfl (by kernel_rfl) (by kernel_rfl) (by kernel_rfl) (by kernel_rfl) (fun _ _ _ h => h) (by rfl) (by assumption) ?_ ?_
          rotate_left
          · (intro wS hSw; (try dsimp only at hSw); go_simp; try with_reducible rfl)
          try simp only [Act.put, List.setIfInBounds_toArray, List.set_cons_zero, List.set_cons_succ]
          refine uTake (i := 19) (some 111) (v := ?_) rfl rfl (by kernel_rfl) (by kernel_rfl) (by kernel_rfl) (by kernel_rfl) (fun _ _ _ h => h) (by rfl) (by assumption) ?_ ?_
          rotate_left
          · (intro wS hSw; (try dsimp only at hSw); go_simp; try with_reducible rfl)
          try simp only [Act.put, List.setIfInBounds_toArray, List.set_cons_zero, List.set_cons_succ]
          refine uTake (i := 20) (some 112) (v := ?_) rfl rfl (by kernel_rfl) (by kernel_rfl) (by kernel_rfl) (by kernel_rfl) (fun _ _ _ h => h) (by rfl) (by assumption) ?_ ?_
          rotate_left
          · (intro wS hSw; (try dsimp only at hSw); go_simp; try with_reducible rfl)
          try simp only [Act.put, List.setIfInBounds_toArray, List.set_cons_zero, List.set_cons_succ]
          refine uTake (i := 21) (some 113) (v := ?_) rfl rfl (by kernel_rfl) (by kernel_rfl) (by kernel_rfl) (by kernel_rfl) (fun _ _ _ h => h) (by rfl) (by assumption) ?_ ?_
          rotate_left
          · (intro wS hSw; (try dsimp only at hSw); go_simp; try with_reducible rfl)
          try simp only [Act.put, List.setIfInBounds_toArray, List.set_cons_zero, List.set_cons_succ]
          refine uTake (i := 22) (some 114) (v := ?_) rfl rfl (by kernel_rfl) (by kernel_rfl) (by kernel_rfl) (by kernel_rfl) (fun _ _ _ h => h) (by rfl) (by assumption) ?_ ?_
          rotate_left
          · (intro wS hSw; (try dsimp only at hSw); go_simp; try with_reducible rfl)
          try simp only [Act.put, List.setIfInBounds_toArray, List.set_cons_zero, List.set_cons_succ]
          refine uTake (i := 23) (some 115) (v := ?_) rfl rfl (by kernel_rfl) (by kernel_rfl) (by kernel_rfl) (by kernel_rfl) (fun _ _ _ h => h) (by rfl) (by assumption) ?_ ?_
          rotate_left
          · (intro wS hSw; (try dsimp only at hSw); go_simp; try with_reducible rfl)
          try simp only [Act.put, List.setIfInBounds_toArray, List.set_cons_zero, List.set_cons_succ]
          refine uTake (i := 24) (some 116) (v := ?_) rfl rfl (by kernel_rfl) (by kernel_rfl) (by kernel_rfl) (by kernel_rfl) (fun _ _ _ h => h) (by rfl) (by assumption) ?_ ?_
          rotate_left
          · (intro wS hSw; (try dsimp only at hSw); go_simp; try with_reducible rfl)
          try simp only [Act.put, List.setIfInBounds_toArray, List.set_cons_zero, List.set_cons_succ]
          refine uTake (i := 25) (some 117) (v := ?_) rfl rfl (by kernel_rfl) (by kernel_rfl) (by kernel_rfl) (by kernel_rfl) (fun _ _ _ h => h) (by rfl) (by assumption) ?_ ?_
          rotate_left
          · (intro wS hSw; (try dsimp only at hSw); go_simp; try with_reducible rfl)
          try simp only [Act.put, List.setIfInBounds_toArray, List.set_cons_zero, List.set_cons_succ]
          refine uTake (i := 26) (some 118) (v := ?_) rfl rfl (by kernel_rfl) (by kernel_rfl) (by kernel_rfl) (by kernel_rfl) (fun _ _ _ h => h) (by rfl) (by assumption) ?_ ?_
          rotate_left
          · (intro wS hSw; (try dsimp only at hSw); go_simp; try with_reducible rfl)
          try simp only [Act.put, List.setIfInBounds_toArray, List.set_cons_zero, List.set_cons_succ]
          refine uTake (i := 27) (some 119) (v := ?_) rfl rfl (by kernel_rfl) (by kernel_rfl) (by kernel_rfl) (by kernel_rfl) (fun _ _ _ h => h) (by rfl) (by assumption) ?_ ?_
          rotate_left
          · (intro wS hSw; (try dsimp only at hSw); go_simp; try with_reducible rfl)
          try simp only [Act.put, List.setIfInBounds_toArray, List.set_cons_zero, List.set_cons_succ]
          refine uDone (by kernel_rfl) ?_ _
          clear n1 n2
          obtain ⟨rr, rrh⟩ : ∃ b : Bool, b = true ↔ x.u.sp = y.u.sp := by by_cases h : x.u.sp = y.u.sp; (· exact ⟨true, ⟨fun _ => h, fun _ => rfl⟩⟩); exact ⟨false, ⟨fun h2 => Bool.noConfusion h2, fun h2 => absurd h2 h⟩⟩
          have rrH := Lib.hid rrh
          clear rrh
          go_upto_region 24 with (fail)
          cases rr with
          | true =>
            have HEQ : Hid (x.u.sp = y.u.sp) := Lib.hid (rrH.out.1 (by simp))
            go_wp2_with fail
            have E13 : Hid (Env D w [(w4.heap.size + 1, 25, [.slice (some ⟨yab, yao, none⟩) Y.length yk]), (w4.heap.size, 25, [.slice (some ⟨xab, xao, none⟩) X.length xk])] [.gn (gRg yab (yao + i * 83) (usc y.u y.la y.pa)), .gn (gSp y.u.sp y.la y.pa), .gn (gRg xab (xao + i * 83) (usc x.u x.la x.pa)), .gn (gSp x.u.sp x.la x.pa), .gn (gUl (.slice (some ⟨yab, yao, none⟩) Y.length yk) Y), .gn (gUl (.slice (some ⟨xab, xao, none⟩) X.length xk) X), .gn (gSl (.slice za Z.length zk) Z)] (w7.drew)) := Lib.hid E12.out.drew
            clear E12
            refine wp_regionU (S := fun w' => w'.cell? ⟨w4.heap.size, 0, none⟩ = some (.slice (some ⟨xab, xao, none⟩) X.length xk) ∧ w'.cell? ⟨w4.heap.size + 1, 0, none⟩ = some (.slice (some ⟨yab, yao, none⟩) Y.length yk) ∧ w'.rangeAt xab (xao + i * 83 + 2) (spc x.u.sp x.la x.pa) ∧ w'.rangeAt yab (yao + i * 83 + 2) (spc y.u.sp y.la y.pa)) [] (by kernel_rfl) (⟨((E13.out.bx 1 rfl).cell 0 rfl), ((E13.out.bx 0 rfl).cell 0 rfl), (gRg.sub (i := 2) (E13.out.fc 2 rfl).2 (usc_sp xS.out _ _)), (gRg.sub (i := 2) (E13.out.fc 0 rfl).2 (usc_sp yS.out _ _))⟩) (fun hHeld => ?_)
            generalize w7.drew = w8 at *
            refine uTake (i := 0) (some 120) (v := ?_) rfl rfl (by kernel_rfl) (by kernel_rfl) (by kernel_rfl) (by kernel_rfl) (fun _ _ _ h => h) (by rfl) (by assumption) ?_ ?_
            rotate_left
            · (intro wS hSw; (try dsimp only at hSw); go_simp; try with_reducible rfl)
            try simp only [Act.put, List.setIfInBounds_toArray, List.set_cons_zero, List.set_cons_succ]
            refine uTake (i := 1) (some 121) (v := ?_) rfl rfl (by kernel_rfl) (by kernel_rfl) (by kernel_rfl) (by kernel_rfl) (fun _ _ _ h => h) (by rfl) (by assumption) ?_ ?_
            rotate_left
            · (intro wS hSw; (try dsimp only at hSw); go_simp; try with_reducible rfl)
            try simp only [Act.put, List.setIfInBounds_toArray, List.set_cons_zero, List.set_cons_succ]
            refine uTake (i := 2) (some 122) (v := ?_) rfl rfl (by kernel_rfl) (by kernel_rfl) (by kernel_rfl) (by kernel_rfl) (fun _ _ _ h => h) (by rfl) (by assumption) ?_ ?_
            rotate_left
            · (intro wS hSw; (try dsimp only at hSw); go_simp; try with_reducible rfl)
            try simp only [Act.put, List.setIfInBounds_toArray, List.set_cons_zero, List.set_cons_succ]
            refine uTake (i := 3) (some 123) (v := ?_) rfl rfl (by kernel_rfl) (by kernel_rfl) (by kernel_rfl) (by kernel_rfl) (fun _ _ _ h => h) (by rfl) (by assumption) ?_ ?_
            rotate_left
            · (intro wS hSw; (try dsimp only at hSw); go_simp; try with_reducible rfl)
            try simp only [Act.put, List.setIfInBounds_toArray, List.set_cons_zero, List.set_cons_succ]
            refine uTake (i := 4) (some 124) (v := ?_) rfl rfl (by kernel_rfl) (by kernel_rfl) (by kernel_rfl) (by kernel_rfl) (fun _ _ _ h => h) (by rfl) (by assumption) ?_ ?_
            rotate_left
            · (intro wS hSw; (try dsimp only at hSw); go_simp; try with_reducible rfl)
            try simp only [Act.put, List.setIfInBounds_toArray, List.set_cons_zero, List.set_cons_succ]
            refine uTake (i := 5) (some 125) (v := .agg (spc x.u.sp x.la x.pa).toArray) rfl rfl (by kernel_rfl) (by kernel_rfl) (by kernel_rfl) (by kernel_rfl) (fun _ _ _ h => h) (by rfl) (by assumption) ?_ ?_
            · (intro wS hSw; (try dsimp only at hSw); revert hSw; (try simp only [and_imp]); intros; exact exec_load_b bSpend _ rfl xab (xao + i * 83 + 2) rfl (spc x.u.sp x.la x.pa) (spc_len xS.out _ _) (by assumption))
            try simp only [Act.put, List.setIfInBounds_toArray, List.set_cons_zero, List.set_cons_succ]
            refine uTake (i := 6) (some 126) (v := ?_) rfl rfl (by kernel_rfl) (by kernel_rfl) (by kernel_rfl) (by kernel_rfl) (fun _ _ _ h => h) (by rfl) (by assumption) ?_ ?_
            rotate_left
            · (intro wS hSw; (try dsimp only at hSw); go_simp; try with_reducible rfl)
            try simp only [Act.put, List.setIfInBounds_toArray, List.set_cons_zero, List.set_cons_succ]
            refine uTake (i := 7) (some 127) (v := ?_) rfl rfl (by kernel_rfl) (by kernel_rfl) (by kernel_rfl) (by kernel_rfl) (fun _ _ _ h => h) (by rfl) (by assumption) ?_ ?_
            rotate_left
            · (intro wS hSw; (try dsimp only at hSw); go_simp; try with_reducible rfl)
            try simp only [Act.put, List.setIfInBounds_toArray, List.set_cons_zero, List.set_cons_succ]
            refine uTake (i := 8) (some 128) (v := ?_) rfl rfl (by kernel_rfl) (by kernel_rfl) (by kernel_rfl) (by kernel_rfl) (fun _ _ _ h => h) (by rfl) (by assumption) ?_ ?_
            rotate_left
            · (intro wS hSw; (try dsimp only at hSw); go_simp; try with_reducible rfl)
            try simp only [Act.put, List.setIfInBounds_toArray, List.set_cons_zero, List.set_cons_succ]
            refine uTake (i := 9) (some 129) (v := ?_) rfl rfl (by kernel_rfl) (by kernel_rfl) (by kernel_rfl) (by kernel_rfl) (fun _ _ _ h => h) (by rfl) (by assumption) ?_ ?_
            rotate_left
            · (intro wS hSw; (try dsimp only at hSw); go_simp; try with_reducible rfl)
            try simp only [Act.put, List.setIfInBounds_toArray, List.set_cons_zero, List.set_cons_succ]
            refine uTake (i := 10) (some 130) (v := ?_) rfl rfl (by kernel_rfl) (by kernel_rfl) (by kernel_rfl) (by kernel_rfl) (fun _ _ _ h => h) (by rfl) (by assumption) ?_ ?_
            rotate_left
            · (intro wS hSw; (try dsimp only at hSw); go_simp; try with_reducible rfl)
            try simp only [Act.put, List.setIfInBounds_toArray, List.set_cons_zero, List.set_cons_succ]
            refine uTake (i := 11) (some 131) (v := .agg (spc y.u.sp y.la y.pa).toArray) rfl rfl (by kernel_rfl) (by kernel_rfl) (by kernel_rfl) (by kernel_rfl) (fun _ _ _ h => h) (by rfl) (by assumption) ?_ ?_
            · (intro wS hSw; (try dsimp only at hSw); revert hSw; (try simp only [and_imp]); intros; exact exec_load_b bSpend _ rfl yab (yao + i * 83 + 2) rfl (spc y.u.sp y.la y.pa) (spc_len yS.out _ _) (by assumption))
            try simp only [Act.put, List.setIfInBounds_toArray, List.set_cons_zero, List.set_cons_succ]
            refine uReady (rs := [12]) (by kernel_rfl) (by simp) ?_
            refine ReadyU.cons rfl (fun KK hKK => ?_) ReadyU.nil
            go_simp
            refine (same32_c x.u.sp y.u.sp (E13.out.fc 3 rfl) (E13.out.fc 1 rfl) Bx.out By.out (r := true) ⟨fun _ => HEQ.out, fun _ => rfl⟩).mono ?_
            rintro e w9 ⟨rfl, hb⟩
            have E14 : Hid (Env D w [(w4.heap.size + 1, 25, [.slice (some ⟨yab, yao, none⟩) Y.length yk]), (w4.heap.size, 25, [.slice (some ⟨xab, xao, none⟩) X.length xk])] [.gn (gRg yab (yao + i * 83) (usc y.u y.la y.pa)), .gn (gSp y.u.sp y.la y.pa), .gn (gRg xab (xao + i * 83) (usc x.u x.la x.pa)), .gn (gSp x.u.sp x.la x.pa), .gn (gUl (.slice (some ⟨yab, yao, none⟩) Y.length yk) Y), .gn (gUl (.slice (some ⟨xab, xao, none⟩) X.length xk) X), .gn (gSl (.slice za Z.length zk) Z)] w9) := Lib.hid (E13.out.below hb)
            clear E13 hb
            (try dsimp only)
            clear hHeld
            refine hKK.out _ _ (⟨((E14.out.bx 1 rfl).cell 0 rfl), ((E14.out.bx 0 rfl).cell 0 rfl), (gRg.sub (i := 2) (E14.out.fc 2 rfl).2 (usc_sp xS.out _ _)), (gRg.sub (i := 2) (E14.out.fc 0 rfl).2 (usc_sp yS.out _ _))⟩) (fun hHeld => ?_)
            clear hKK KK
            try simp only [Act.put, List.setIfInBounds_toArray, List.set_cons_zero, List.set_cons_succ]
            refine uTake (i := 13) (some 133) (v := ?_) rfl rfl (by kernel_rfl) (by kernel_rfl) (by kernel_rfl) (by kernel_rfl) (fun _ _ _ h => h) (by rfl) (by assumption) ?_ ?_
            rotate_left
            · (intro wS hSw; (try dsimp only at hSw); go_simp; try with_reducible rfl)
            try simp only [Act.put, List.setIfInBounds_toArray, List.set_cons_zero, List.set_cons_succ]
            refine uDone (by kernel_rfl) ?_ _
            have EZ := Lib.hid ((((E14.out.forget).forget).forget).forget)
            go_wp2
            go_roundg (X.length - (i + 1))
            case rel => exact ⟨i + 1, d, rfl, rfl, EZ, Lib.hid ⟨by omega, rfl, by rw [diffN_same (map_get hi xE.out) (map_get hi2 yE.out) HEQ.out]; exact HD.out⟩⟩
            case measure => exact by omega
          | false =>
            have HNE : Hid (¬ x.u.sp = y.u.sp) := Lib.hid (fun h => absurd (rrH.out.2 h) (by simp))
            go_wp2_with fail
            have E13 : Hid (Env D w [(w4.heap.size + 1, 25, [.slice (some ⟨yab, yao, none⟩) Y.length yk]), (w4.heap.size, 25, [.slice (some ⟨xab, xao, none⟩) X.length xk])] [.gn (gRg yab (yao + i * 83) (usc y.u y.la y.pa)), .gn (gSp y.u.sp y.la y.pa), .gn (gRg xab (xao + i * 83) (usc x.u x.la x.pa)), .gn (gSp x.u.sp x.la x.pa), .gn (gUl (.slice (some ⟨yab, yao, none⟩) Y.length yk) Y), .gn (gUl (.slice (some ⟨xab, xao, none⟩) X.length xk) X), .gn (gSl (.slice za Z.length zk) Z)] (w7.drew)) := Lib.hid E12.out.drew
            clear E12
            refine wp_regionU (S := fun w' => w'.cell? ⟨w4.heap.size, 0, none⟩ = some (.slice (some ⟨xab, xao, none⟩) X.length xk) ∧ w'.cell? ⟨w4.heap.size + 1, 0, none⟩ = some (.slice (some ⟨yab, yao, none⟩) Y.length yk) ∧ w'.rangeAt xab (xao + i * 83 + 2) (spc x.u.sp x.la x.pa) ∧ w'.rangeAt yab (yao + i * 83 + 2) (spc y.u.sp y.la y.pa)) [] (by kernel_rfl) (⟨((E13.out.bx 1 rfl).cell 0 rfl), ((E13.out.bx 0 rfl).cell 0 rfl), (gRg.sub (i := 2) (E13.out.fc 2 rfl).2 (usc_sp xS.out _ _)), (gRg.sub (i := 2) (E13.out.fc 0 rfl).2 (usc_sp yS.out _ _))⟩) (fun hHeld => ?_)
            generalize w7.drew = w8 at *
            refine uTake (i := 0) (some 120) (v := ?_) rfl rfl (by kernel_rfl) (by kernel_rfl) (by kernel_rfl) (by kernel_rfl) (fun _ _ _ h => h) (by rfl) (by assumption) ?_ ?_
            rotate_left
            · (intro wS hSw; (try dsimp only at hSw); go_simp; try with_reducible rfl)
            try simp only [Act.put, List.setIfInBounds_toArray, List.set_cons_zero, List.set_cons_succ]
            refine uTake (i := 1) (some 121) (v := ?_) rfl rfl (by kernel_rfl) (by kernel_rfl) (by kernel_rfl) (by kernel_rfl) (fun _ _ _ h => h) (by rfl) (by assumption) ?_ ?_
            rotate_left
            · (intro wS hSw; (try dsimp only at hSw); go_simp; try with_reducible rfl)
            try simp only [Act.put, List.setIfInBounds_toArray, List.set_cons_zero, List.set_cons_succ]
            refine uTake (i := 2) (some 122) (v := ?_) rfl rfl (by kernel_rfl) (by kernel_rfl) (by kernel_rfl) (by kernel_rfl) (fun _ _ _ h => h) (by rfl) (by assumption) ?_ ?_
            rotate_left
            · (intro wS hSw; (try dsimp only at hSw); go_simp; try with_reducible rfl)
            try simp only [Act.put, List.setIfInBounds_toArray, List.set_cons_zero, List.set_cons_succ]
            refine uTake (i := 3) (some 123) (v := ?_) rfl rfl (by kernel_rfl) (by kernel_rfl) (by kernel_rfl) (by kernel_rfl) (fun _ _ _ h => h) (by rfl) (by assumption) ?_ ?_
            rotate_left
            · (intro wS hSw; (try dsimp only at hSw); go_simp; try with_reducible rfl)
            try simp only [Act.put, List.setIfInBounds_toArray, List.set_cons_zero, List.set_cons_succ]
            refine uTake (i := 4) (some 124) (v := ?_) rfl rfl (by kernel_rfl) (by kernel_rfl) (by kernel_rfl) (by kernel_rfl) (fun _ _ _ h => h) (by rfl) (by assumption) ?_ ?_
            rotate_left
            · (intro wS hSw; (try dsimp only at hSw); go_simp; try with_reducible rfl)
            try simp only [Act.put, List.setIfInBounds_toArray, List.set_cons_zero, List.set_cons_succ]
            refine uTake (i := 5) (some 125) (v := .agg (spc x.u.sp x.la x.pa).toArray) rfl rfl (by kernel_rfl) (by kernel_rfl) (by kernel_rfl) (by kernel_rfl) (fun _ _ _ h => h) (by rfl) (by assumption) ?_ ?_
            · (intro wS hSw; (try dsimp only at hSw); revert hSw; (try simp only [and_imp]); intros; exact exec_load_b bSpend _ rfl xab (xao + i * 83 + 2) rfl (spc x.u.sp x.la x.pa) (spc_len xS.out _ _) (by assumption))
            try simp only [Act.put, List.setIfInBounds_toArray, List.set_cons_zero, List.set_cons_succ]
            refine uTake (i := 6) (some 126) (v := ?_) rfl rfl (by kernel_rfl) (by kernel_rfl) (by kernel_rfl) (by kernel_rfl) (fun _ _ _ h => h) (by rfl) (by assumption) ?_ ?_
            rotate_left
            · (intro wS hSw; (try dsimp only at hSw); go_simp; try with_reducible rfl)
            try simp only [Act.put, List.setIfInBounds_toArray, List.set_cons_zero, List.set_cons_succ]
            refine uTake (i := 7) (some 127) (v := ?_) rfl rfl (by kernel_rfl) (by kernel_rfl) (by kernel_rfl) (by kernel_rfl) (fun _ _ _ h => h) (by rfl) (by assumption) ?_ ?_
            rotate_left
            · (intro wS hSw; (try dsimp only at hSw); go_simp; try with_reducible rfl)
            try simp only [Act.put, List.setIfInBounds_toArray, List.set_cons_zero, List.set_cons_succ]
            refine uTake (i := 8) (some 128) (v := ?_) rfl rfl (by kernel_rfl) (by kernel_rfl) (by kernel_rfl) (by kernel_rfl) (fun _ _ _ h => h) (by rfl) (by assumption) ?_ ?_
            rotate_left
            · (intro wS hSw; (try dsimp only at hSw); go_simp; try with_reducible rfl)
            try simp only [Act.put, List.setIfInBounds_toArray, List.set_cons_zero, List.set_cons_succ]
            refine uTake (i := 9) (some 129) (v := ?_) rfl rfl (by kernel_rfl) (by kernel_rfl) (by kernel_rfl) (by kernel_rfl) (fun _ _ _ h => h) (by rfl) (by assumption) ?_ ?_
            rotate_left
            · (intro wS hSw; (try dsimp only at hSw); go_simp; try with_reducible rfl)
            try simp only [Act.put, List.setIfInBounds_toArray, List.set_cons_zero, List.set_cons_succ]
            refine uTake (i := 10) (some 130) (v := ?_) rfl rfl (by kernel_rfl) (by kernel_rfl) (by kernel_rfl) (by kernel_rfl) (fun _ _ _ h => h) (by rfl) (by assumption) ?_ ?_
            rotate_left
            · (intro wS hSw; (try dsimp only at hSw); go_simp; try with_reducible rfl)
            try simp only [Act.put, List.setIfInBounds_toArray, List.set_cons_zero, List.set_cons_succ]
            refine uTake (i := 11) (some 131) (v := .agg (spc y.u.sp y.la y.pa).toArray) rfl rfl (by kernel_rfl) (by kernel_rfl) (by kernel_rfl) (by kernel_rfl) (fun _ _ _ h => h) (by rfl) (by assumption) ?_ ?_
            · (intro wS hSw; (try dsimp only at hSw); revert hSw; (try simp only [and_imp]); intros; exact exec_load_b bSpend _ rfl yab (yao + i * 83 + 2) rfl (spc y.u.sp y.la y.pa) (spc_len yS.out _ _) (by assumption))
            try simp only [Act.put, List.setIfInBounds_toArray, List.set_cons_zero, List.set_cons_succ]
            refine uReady (rs := [12]) (by kernel_rfl) (by simp) ?_
            refine ReadyU.cons rfl (fun KK hKK => ?_) ReadyU.nil
            go_simp
            refine (same32_c x.u.sp y.u.sp (E13.out.fc 3 rfl) (E13.out.fc 1 rfl) Bx.out By.out (r := false) ⟨fun h => Bool.noConfusion h, fun h => absurd h HNE.out⟩).mono ?_
            rintro e w9 ⟨rfl, hb⟩
            have E14 : Hid (Env D w [(w4.heap.size + 1, 25, [.slice (some ⟨yab, yao, none⟩) Y.length yk]), (w4.heap.size, 25, [.slice (some ⟨xab, xao, none⟩) X.length xk])] [.gn (gRg yab (yao + i * 83) (usc y.u y.la y.pa)), .gn (gSp y.u.sp y.la y.pa), .gn (gRg xab (xao + i * 83) (usc x.u x.la x.pa)), .gn (gSp x.u.sp x.la x.pa), .gn (gUl (.slice (some ⟨yab, yao, none⟩) Y.length yk) Y), .gn (gUl (.slice (some ⟨xab, xao, none⟩) X.length xk) X), .gn (gSl (.slice za Z.length zk) Z)] w9) := Lib.hid (E13.out.below hb)
            clear E13 hb
            (try dsimp only)
            clear hHeld
            refine hKK.out _ _ (⟨((E14.out.bx 1 rfl).cell 0 rfl), ((E14.out.bx 0 rfl).cell 0 rfl), (gRg.sub (i := 2) (E14.out.fc 2 rfl).2 (usc_sp xS.out _ _)), (gRg.sub (i := 2) (E14.out.fc 0 rfl).2 (usc_sp yS.out _ _))⟩) (fun hHeld => ?_)
            clear hKK KK
            try simp only [Act.put, List.setIfInBounds_toArray, List.set_cons_zero, List.set_cons_succ]
            refine uTake (i := 13) (some 133) (v := ?_) rfl rfl (by kernel_rfl) (by kernel_rfl) (by kernel_rfl) (by kernel_rfl) (fun _ _ _ h => h) (by rfl) (by assumption) ?_ ?_
            rotate_left
            · (intro wS hSw; (try dsimp only at hSw); go_simp; try with_reducible rfl)
            try simp only [Act.put, List.setIfInBounds_toArray, List.set_cons_zero, List.set_cons_succ]
            refine uDone (by kernel_rfl) ?_ _
            have EZ := Lib.hid ((((E14.out.forget).forget).forget).forget)
            go_wp2
            go_roundg (X.length - (i + 1))
            case rel => exact ⟨i + 1, d + 1, rfl, rfl, EZ, Lib.hid ⟨by omega, rfl, by rw [diffN_diff (map_get hi xE.out) (map_get hi2 yE.out) HNE.out, HD.out]⟩⟩
            case measure => exact by omega
      have hk : k < Z.length := lt_of hy a1
      have t6 : decide ((k : Int) < (Z.length : Int)) = true := decide_eq_true (by omega)
      have t7 : decide (k < Z.length) = true := decide_eq_true (by omega)
      have hkI : (k : Int) < (Z.length : Int) := by omega
      clear hy
      obtain ⟨m, hm⟩ : ∃ m, Z.length - 1 - k = m := ⟨_, rfl⟩
      have hmI : (m : Int) = (Z.length : Int) - 1 - (k : Int) := by omega
      have HMI : Hid (IntKind.i64.wrap ((Z.length : Int) - 1) = (Z.length : Int) - 1 ∧ IntKind.i64.wrap ((Z.length : Int) - 1 - (k : Int)) = (m : Int)) := Lib.hid (by rw [hmI, IntKind.wrap_i64, IntKind.wrap_i64]; omega)
      have hml : m < Z.length := by omega
      have hmlI : (m : Int) < (Z.length : Int) := by omega
      have HMS : Hid (m + 1 + k = (Z.map Sv.s).length) := Lib.hid (by rw [List.length_map]; omega)
      clear hm hmI
      go_upto_region 9 with (fail)
      obtain ⟨zab, zao, rfl⟩ := gSl.addr (EL.out.fc 2 rfl) (List.ne_nil_of_length_pos (Nat.lt_of_le_of_lt (Nat.zero_le _) hk))
      obtain ⟨s, se⟩ : ∃ x, Z[k] = x := ⟨_, rfl⟩
      have sE := Lib.hid se
      clear se
      have E8 : Hid (Env D w [(w4.heap.size + 1, 25, [.slice ya Y.length yk]), (w4.heap.size, 25, [.slice xa X.length xk])] [.gn (gRg zab (zao + k * 80) (spc s.s s.la s.pa)), .gn (gSp s.s s.la s.pa), .gn (gUl (.slice ya Y.length yk) Y), .gn (gUl (.slice xa X.length xk) X), .gn (gSl (.slice (some ⟨zab, zao, none⟩) Z.length zk) Z)] _) := Lib.hid (EL.out.elV 2 rfl hk sE.out)
      clear EL
      have sS := Lib.hid (E8.out.spOk 1 rfl)
      have sN : Hid (∀ v ∈ spc s.s s.la s.pa, v.oneCell' = true) := Lib.hid (gSp.one (E8.out.fc 1 rfl))
      have Bs : Hid (s.s.lv.length ≤ 1000000 ∧ s.s.pa.length ≤ 1000000) := Lib.hid (by have h := HNL.out s.s (List.mem_of_getElem? (smap_get hk sE.out)); omega)
      obtain ⟨pR, pD, pn, pr⟩ : ∃ L C n, putRes (X.map Uv.u) s.s = (L, C, n) := ⟨_, _, _, rfl⟩
      have pQ := Lib.hid pr
      clear pr
      go_upto_region 9 with (fail)
      go_cut [6, 7, 8] (fun s6 s7 s8 wx => ∃ pg pa pk pX pc pj pY, s6 = .pointer (some ⟨pg, 0, none⟩) ∧ s7 = .slice pc pY.length pj ∧ s8 = .int .i64 pn ∧ Hid (Env D w [(pg, 25, [.slice pa pX.length pk]), (w4.heap.size + 1, 25, [.slice ya Y.length yk]), (w4.heap.size, 25, [.slice xa X.length xk])] [.gn (gUl (.slice pc pY.length pj) pY), .gn (gUl (.slice pa pX.length pk) pX), .gn (gRg zab (zao + k * 80) (spc s.s s.la s.pa)), .gn (gSp s.s s.la s.pa), .gn (gUl (.slice ya Y.length yk) Y), .gn (gUl (.slice xa X.length xk) X), .gn (gSl (.slice (some ⟨zab, zao, none⟩) Z.length zk) Z)] wx) ∧ Hid (pX.map Uv.u = pR) ∧ Hid (pY.map Uv.u = pD))
      case first =>
        have E9 : Hid (Env D w [(w4.heap.size + 1, 25, [.slice ya Y.length yk]), (w4.heap.size, 25, [.slice xa X.length xk])] [.gn (gRg zab (zao + k * 80) (spc s.s s.la s.pa)), .gn (gSp s.s s.la s.pa), .gn (gUl (.slice ya Y.length yk) Y), .gn (gUl (.slice xa X.length xk) X), .gn (gSl (.slice (some ⟨zab, zao, none⟩) Z.length zk) Z)] (wr.drew)) := Lib.hid E8.out.drew
        clear E8
        refine wp_regionU (S := fun w' => w'.cell? ⟨w4.heap.size, 0, none⟩ = some (.slice xa X.length xk) ∧ w'.rangeAt zab (zao + k * 80) (spc s.s s.la s.pa)) [] (by kernel_rfl) (⟨((E9.out.bx 1 rfl).cell 0 rfl), (E9.out.fc 0 rfl).2⟩) (fun hHeld => ?_)
        generalize wr.drew = w5 at *
        refine uTake (i := 0) (some 39) (v := ?_) rfl rfl (by kernel_rfl) (by kernel_rfl) (by kernel_rfl) (by kernel_rfl) (fun _ _ _ h => h) (by rfl) (by assumption) ?_ ?_
        rotate_left
        · (intro wS hSw; (try dsimp only at hSw); go_simp; try with_reducible rfl)
        try simp only [Act.put, List.setIfInBounds_toArray, List.set_cons_zero, List.set_cons_succ]
        refine uTake (i := 1) (some 40) (v := ?_) rfl rfl (by kernel_rfl) (by kernel_rfl) (by kernel_rfl) (by kernel_rfl) (fun _ _ _ h => h) (by rfl) (by assumption) ?_ ?_
        rotate_left
        · (intro wS hSw; (try dsimp only at hSw); go_simp; try with_reducible rfl)
        try simp only [Act.put, List.setIfInBounds_toArray, List.set_cons_zero, List.set_cons_succ]
        refine uTake (i := 2) (some 41) (v := ?_) rfl rfl (by kernel_rfl) (by kernel_rfl) (by kernel_rfl) (by kernel_rfl) (fun _ _ _ h => h) (by rfl) (by assumption) ?_ ?_
        rotate_left
        · (intro wS hSw; (try dsimp only at hSw); go_simp; try with_reducible rfl)
        try simp only [Act.put, List.setIfInBounds_toArray, List.set_cons_zero, List.set_cons_succ]
        refine uTake (i := 3) (some 42) (v := ?_) rfl rfl (by kernel_rfl) (by kernel_rfl) (by kernel_rfl) (by kernel_rfl) (fun _ _ _ h => h) (by rfl) (by assumption) ?_ ?_
        rotate_left
        · (intro wS hSw; (try dsimp only at hSw); go_simp; try with_reducible rfl)
        try simp only [Act.put, List.setIfInBounds_toArray, List.set_cons_zero, List.set_cons_succ]
        refine uTake (i := 4) (some 43) (v := .agg (spc s.s s.la s.pa).toArray) rfl rfl (by kernel_rfl) (by kernel_rfl) (by kernel_rfl) (by kernel_rfl) (fun _ _ _ h => h) (by rfl) (by assumption) ?_ ?_
        · (intro wS hSw; (try dsimp only at hSw); revert hSw; (try simp only [and_imp]); intros; exact exec_load_b bSpend _ rfl zab (zao + k * 80) rfl (spc s.s s.la s.pa) (spc_len sS.out _ _) (by assumption))
        try simp only [Act.put, List.setIfInBounds_toArray, List.set_cons_zero, List.set_cons_succ]
        refine uReady (rs := [5, 10]) (by kernel_rfl) (by simp) ?_
        refine (ReadyU.cons rfl (fun KK hKK => ?_) (ReadyU.cons rfl (fun KK hKK => ?_) ReadyU.nil))
        · skip
          go_simp
          refine (put_t X s.s (E9.out.fc 3 rfl) (E9.out.fc 1 rfl) (valid_bd HTX.out.valid) Bs.out (Nat.le_trans (valid_len HTX.out.valid) (by omega)) pQ.out).mono ?_
          rintro e w6 ⟨⟨pa, pk, pX, pc, pj, pY, rfl, p1, p2, pH, pI⟩, hb⟩
          have E10 : Hid (Env D w [(w4.heap.size + 1, 25, [.slice ya Y.length yk]), (w4.heap.size, 25, [.slice xa X.length xk])] [.gn (gUl (.slice pc pY.length pj) pY), .gn (gUl (.slice pa pX.length pk) pX), .gn (gRg zab (zao + k * 80) (spc s.s s.la s.pa)), .gn (gSp s.s s.la s.pa), .gn (gUl (.slice ya Y.length yk) Y), .gn (gUl (.slice xa X.length xk) X), .gn (gSl (.slice (some ⟨zab, zao, none⟩) Z.length zk) Z)] w6) := Lib.hid (E9.out.got (E9.out.got (E9.out.below hb) (.gn (gUl (.slice pa pX.length pk) pX)) pH.out) (.gn (gUl (.slice pc pY.length pj) pY)) pI.out)
          clear E9 hb pH pI
          have pL := Lib.hid p1; have pC := Lib.hid p2; clear p1 p2
          (try dsimp only)
          clear hHeld
          refine hKK.out _ _ (⟨((E10.out.bx 1 rfl).cell 0 rfl), (E10.out.fc 2 rfl).2⟩) (fun hHeld => ?_)
          clear hKK KK
          try simp only [Act.put, List.setIfInBounds_toArray, List.set_cons_zero, List.set_cons_succ]
          refine uTake (i := 6) (some 38) (v := ?_) rfl rfl (by kernel_rfl) (by kernel_rfl) (by kernel_rfl) (by kernel_rfl) (fun _ _ _ h => h) (by rfl) (by assumption) ?_ ?_
          rotate_left
          · (intro wS hSw; (try dsimp only at hSw); go_simp; try with_reducible rfl)
          try simp only [Act.put, List.setIfInBounds_toArray, List.set_cons_zero, List.set_cons_succ]
          refine uTake (i := 7) (some 45) (v := ?_) rfl rfl (by kernel_rfl) (by kernel_rfl) (by kernel_rfl) (by kernel_rfl) (fun _ _ _ h => h) (by rfl) (by assumption) ?_ ?_
          rotate_left
          · (intro wS hSw; (try dsimp only at hSw); go_simp; try with_reducible rfl)
          try simp only [Act.put, List.setIfInBounds_toArray, List.set_cons_zero, List.set_cons_succ]
          refine uTake (i := 8) (some 46) (v := ?_) rfl rfl (by kernel_rfl) (by kernel_rfl) (by kernel_rfl) (by kernel_rfl) (fun _ _ _ h => h) (by rfl) (by assumption) ?_ ?_
          rotate_left
          · (intro wS hSw; (try dsimp only at hSw); go_simp; try with_reducible rfl)
          try simp only [Act.put, List.setIfInBounds_toArray, List.set_cons_zero, List.set_cons_succ]
          refine uTake (i := 9) (some 47) (v := ?_) rfl rfl (by kernel_rfl) (by kernel_rfl) (by kernel_rfl) (by kernel_rfl) (fun _ _ _ h => h) (by rfl) (by assumption) ?_ ?_
          rotate_left
          · (intro wS hSw; (try dsimp only at hSw); go_simp; try with_reducible rfl)
          try simp only [Act.put, List.setIfInBounds_toArray, List.set_cons_zero, List.set_cons_succ]
          refine uReady (rs := [10]) (by kernel_rfl) (by simp) ?_
          refine ReadyU.cons rfl (fun KK hKK => ?_) ReadyU.nil
          go_simp
          have E11 : Hid (Env D w [(w6.heap.size, 25, [.slice none 0 0]), (w4.heap.size + 1, 25, [.slice ya Y.length yk]), (w4.heap.size, 25, [.slice xa X.length xk])] [.gn (gUl (.slice pc pY.length pj) pY), .gn (gUl (.slice pa pX.length pk) pX), .gn (gRg zab (zao + k * 80) (spc s.s s.la s.pa)), .gn (gSp s.s s.la s.pa), .gn (gUl (.slice ya Y.length yk) Y), .gn (gUl (.slice xa X.length xk) X), .gn (gSl (.slice (some ⟨zab, zao, none⟩) Z.length zk) Z)] _) := Lib.hid ((E10.out.push 25 [.slice none 0 0] (w6.heap.size) (by simp)))
          (try dsimp only)
          clear hHeld
          refine hKK.out _ _ (⟨((E11.out.bx 2 rfl).cell 0 rfl), (E11.out.fc 2 rfl).2⟩) (fun hHeld => ?_)
          clear hKK KK
          try simp only [Act.put, List.setIfInBounds_toArray, List.set_cons_zero, List.set_cons_succ]
          clear E10
          generalize w6.alloc (.cells #[.slice none 0 0] 25) = w7 at *
          have b1 := E11.out.bx 0 rfl
          have c1_0 := b1.cell 0 rfl
          have f1_0 := b1.frozen 0
          clear b1
          refine uReady (rs := [11]) (by kernel_rfl) (by simp) ?_
          refine ReadyU.cons rfl (fun KK hKK => ?_) ReadyU.nil
          go_simp
          have E12 : Hid (Env D w [(w6.heap.size, 25, [.slice pa pX.length pk]), (w4.heap.size + 1, 25, [.slice ya Y.length yk]), (w4.heap.size, 25, [.slice xa X.length xk])] [.gn (gUl (.slice pc pY.length pj) pY), .gn (gUl (.slice pa pX.length pk) pX), .gn (gRg zab (zao + k * 80) (spc s.s s.la s.pa)), .gn (gSp s.s s.la s.pa), .gn (gUl (.slice ya Y.length yk) Y), .gn (gUl (.slice xa X.length xk) X), .gn (gSl (.slice (some ⟨zab, zao, none⟩) Z.length zk) Z)] _) := Lib.hid ((E11.out.set 0 0 (.slice pa pX.length pk) rfl))
          (try dsimp only)
          clear hHeld
          refine hKK.out _ _ (⟨((E12.out.bx 2 rfl).cell 0 rfl), (E12.out.fc 2 rfl).2⟩) (fun hHeld => ?_)
          clear hKK KK
          try simp only [Act.put, List.setIfInBounds_toArray, List.set_cons_zero, List.set_cons_succ]
          refine uTake (i := 12) (some 7) (v := ?_) rfl rfl (by kernel_rfl) (by kernel_rfl) (by kernel_rfl) (by kernel_rfl) (fun _ _ _ h => h) (by rfl) (by assumption) ?_ ?_
          rotate_left
          · (intro wS hSw; (try dsimp only at hSw); go_simp; try with_reducible rfl)
          try simp only [Act.put, List.setIfInBounds_toArray, List.set_cons_zero, List.set_cons_succ]
          refine uTake (i := 13) (some 8) (v := ?_) rfl rfl (by kernel_rfl) (by kernel_rfl) (by kernel_rfl) (by kernel_rfl) (fun _ _ _ h => h) (by rfl) (by assumption) ?_ ?_
          rotate_left
          · (intro wS hSw; (try dsimp only at hSw); go_simp; try with_reducible rfl)
          try simp only [Act.put, List.setIfInBounds_toArray, List.set_cons_zero, List.set_cons_succ]
          refine uDone (by kernel_rfl) ?_ _
          go_wp2_with fail
          go_meet
          exact ⟨w6.heap.size, pa, pk, pX, pc, pj, pY, rfl, rfl, rfl, Lib.hid E12.out, pL, pC⟩
        · skip
          go_simp
          have E10 : Hid (Env D w [(w5.heap.size, 25, [.slice none 0 0]), (w4.heap.size + 1, 25, [.slice ya Y.length yk]), (w4.heap.size, 25, [.slice xa X.length xk])] [.gn (gRg zab (zao + k * 80) (spc s.s s.la s.pa)), .gn (gSp s.s s.la s.pa), .gn (gUl (.slice ya Y.length yk) Y), .gn (gUl (.slice xa X.length xk) X), .gn (gSl (.slice (some ⟨zab, zao, none⟩) Z.length zk) Z)] _) := Lib.hid ((E9.out.push 25 [.slice none 0 0] (w5.heap.size) (by simp)))
          (try dsimp only)
          clear hHeld
          refine hKK.out _ _ (⟨((E10.out.bx 2 rfl).cell 0 rfl), (E10.out.fc 0 rfl).2⟩) (fun hHeld => ?_)
          clear hKK KK
          try simp only [Act.put, List.setIfInBounds_toArray, List.set_cons_zero, List.set_cons_succ]
          clear E9
          generalize w5.alloc (.cells #[.slice none 0 0] 25) = w6 at *
          refine uReady (rs := [5]) (by kernel_rfl) (by simp) ?_
          refine ReadyU.cons rfl (fun KK hKK => ?_) ReadyU.nil
          go_simp
          refine (put_t X s.s (E10.out.fc 3 rfl) (E10.out.fc 1 rfl) (valid_bd HTX.out.valid) Bs.out (Nat.le_trans (valid_len HTX.out.valid) (by omega)) pQ.out).mono ?_
          rintro e w7 ⟨⟨pa, pk, pX, pc, pj, pY, rfl, p1, p2, pH, pI⟩, hb⟩
          have E11 : Hid (Env D w [(w5.heap.size, 25, [.slice none 0 0]), (w4.heap.size + 1, 25, [.slice ya Y.length yk]), (w4.heap.size, 25, [.slice xa X.length xk])] [.gn (gUl (.slice pc pY.length pj) pY), .gn (gUl (.slice pa pX.length pk) pX), .gn (gRg zab (zao + k * 80) (spc s.s s.la s.pa)), .gn (gSp s.s s.la s.pa), .gn (gUl (.slice ya Y.length yk) Y), .gn (gUl (.slice xa X.length xk) X), .gn (gSl (.slice (some ⟨zab, zao, none⟩) Z.length zk) Z)] w7) := Lib.hid (E10.out.got (E10.out.got (E10.out.below hb) (.gn (gUl (.slice pa pX.length pk) pX)) pH.out) (.gn (gUl (.slice pc pY.length pj) pY)) pI.out)
          clear E10 hb pH pI
          have pL := Lib.hid p1; have pC := Lib.hid p2; clear p1 p2
          (try dsimp only)
          clear hHeld
          refine hKK.out _ _ (⟨((E11.out.bx 2 rfl).cell 0 rfl), (E11.out.fc 2 rfl).2⟩) (fun hHeld => ?_)
          clear hKK KK
          try simp only [Act.put, List.setIfInBounds_toArray, List.set_cons_zero, List.set_cons_succ]
          refine uTake (i := 6) (some 38) (v := ?_) rfl rfl (by kernel_rfl) (by kernel_rfl) (by kernel_rfl) (by kernel_rfl) (fun _ _ _ h => h) (by rfl) (by assumption) ?_ ?_
          rotate_left
          · (intro wS hSw; (try dsimp only at hSw); go_simp; try with_reducible rfl)
          try simp only [Act.put, List.setIfInBounds_toArray, List.set_cons_zero, List.set_cons_succ]
          refine uTake (i := 7) (some 45) (v := ?_) rfl rfl (by kernel_rfl) (by kernel_rfl) (by kernel_rfl) (by kernel_rfl) (fun _ _ _ h => h) (by rfl) (by assumption) ?_ ?_
          rotate_left
          · (intro wS hSw; (try dsimp only at hSw); go_simp; try with_reducible rfl)
          try simp only [Act.put, List.setIfInBounds_toArray, List.set_cons_zero, List.set_cons_succ]
          refine uTake (i := 8) (some 46) (v := ?_) rfl rfl (by kernel_rfl) (by kernel_rfl) (by kernel_rfl) (by kernel_rfl) (fun _ _ _ h => h) (by rfl) (by assumption) ?_ ?_
          rotate_left
          · (intro wS hSw; (try dsimp only at hSw); go_simp; try with_reducible rfl)
          try simp only [Act.put, List.setIfInBounds_toArray, List.set_cons_zero, List.set_cons_succ]
          refine uTake (i := 9) (some 47) (v := ?_) rfl rfl (by kernel_rfl) (by kernel_rfl) (by kernel_rfl) (by kernel_rfl) (fun _ _ _ h => h) (by rfl) (by assumption) ?_ ?_
          rotate_left
          · (intro wS hSw; (try dsimp only at hSw); go_simp; try with_reducible rfl)
          try simp only [Act.put, List.setIfInBounds_toArray, List.set_cons_zero, List.set_cons_succ]
          have b1 := E11.out.bx 0 rfl
          have c1_0 := b1.cell 0 rfl
          have f1_0 := b1.frozen 0
          clear b1
          refine uReady (rs := [11]) (by kernel_rfl) (by simp) ?_
          refine ReadyU.cons rfl (fun KK hKK => ?_) ReadyU.nil
          go_simp
          have E12 : Hid (Env D w [(w5.heap.size, 25, [.slice pa pX.length pk]), (w4.heap.size + 1, 25, [.slice ya Y.length yk]), (w4.heap.size, 25, [.slice xa X.length xk])] [.gn (gUl (.slice pc pY.length pj) pY), .gn (gUl (.slice pa pX.length pk) pX), .gn (gRg zab (zao + k * 80) (spc s.s s.la s.pa)), .gn (gSp s.s s.la s.pa), .gn (gUl (.slice ya Y.length yk) Y), .gn (gUl (.slice xa X.length xk) X), .gn (gSl (.slice (some ⟨zab, zao, none⟩) Z.length zk) Z)] _) := Lib.hid ((E11.out.set 0 0 (.slice pa pX.length pk) rfl))
          (try dsimp only)
          clear hHeld
          refine hKK.out _ _ (⟨((E12.out.bx 2 rfl).cell 0 rfl), (E12.out.fc 2 rfl).2⟩) (fun hHeld => ?_)
          clear hKK KK
          try simp only [Act.put, List.setIfInBounds_toArray, List.set_cons_zero, List.set_cons_succ]
          refine uTake (i := 12) (some 7) (v := ?_) rfl rfl (by kernel_rfl) (by kernel_rfl) (by kernel_rfl) (by kernel_rfl) (fun _ _ _ h => h) (by rfl) (by assumption) ?_ ?_
          rotate_left
          · (intro wS hSw; (try dsimp only at hSw); go_simp; try with_reducible rfl)
          try simp only [Act.put, List.setIfInBounds_toArray, List.set_cons_zero, List.set_cons_succ]
          refine uTake (i := 13) (some 8) (v := ?_) rfl rfl (by kernel_rfl) (by kernel_rfl) (by kernel_rfl) (by kernel_rfl) (fun _ _ _ h => h) (by rfl) (by assumption) ?_ ?_
          rotate_left
          · (intro wS hSw; (try dsimp only at hSw); go_simp; try with_reducible rfl)
          try simp only [Act.put, List.setIfInBounds_toArray, List.set_cons_zero, List.set_cons_succ]
          refine uDone (by kernel_rfl) ?_ _
          go_wp2_with fail
          go_meet
          exact ⟨w5.heap.size, pa, pk, pX, pc, pj, pY, rfl, rfl, rfl, Lib.hid E12.out, pL, pC⟩
      case rest =>
        obtain ⟨pg, pa, pk, pX, pc, pj, pY, rfl, rfl, rfl, E13, pL, pC⟩ := hcut
        clear E8
        have HK20 : Hid (k ≤ 20) := Lib.hid (by omega)
        by_cases e1 : pn = 0
        · subst e1
          have e1 : (0 : Int) = 0 := rfl
          have i1 : ((0 : Int) == 0) = true := rfl
          have HTX2 : Hid (TabOf (fun t => t ∈ (Z.map Sv.s).take (k + 1)) (k + 1) (pX.map Uv.u)) := Lib.hid (by have h := TabOf.take (smap_get hk sE.out) HK20.out HTX.out; rw [putS_yes pQ.out] at h; rw [pL.out]; exact h)
          have b2 := E13.out.bx 0 rfl
          have c2_0 := b2.cell 0 rfl
          clear b2
          have b3 := E13.out.bx 2 rfl
          have c3_0 := b3.cell 0 rfl
          have f3_0 := b3.frozen 0
          clear b3
          go_upto_region 12 with (fail)
          clear e1 i1
          go_upto_region 12 with (fail)
          have E14 : Hid (Env D w [(pg, 25, [.slice pa pX.length pk]), (w4.heap.size + 1, 25, [.slice ya Y.length yk]), (w4.heap.size, 25, [.slice pa pX.length pk])] [.gn (gUl (.slice pc pY.length pj) pY), .gn (gUl (.slice pa pX.length pk) pX), .gn (gRg zab (zao + k * 80) (spc s.s s.la s.pa)), .gn (gSp s.s s.la s.pa), .gn (gUl (.slice ya Y.length yk) Y), .gn (gUl (.slice xa X.length xk) X), .gn (gSl (.slice (some ⟨zab, zao, none⟩) Z.length zk) Z)] _) := Lib.hid ((E13.out.set 2 0 (.slice pa pX.length pk) rfl))
          obtain ⟨t, te⟩ : ∃ x, Z[m] = x := ⟨_, rfl⟩
          have tE := Lib.hid te
          clear te
          have E15 : Hid (Env D w [(pg, 25, [.slice pa pX.length pk]), (w4.heap.size + 1, 25, [.slice ya Y.length yk]), (w4.heap.size, 25, [.slice pa pX.length pk])] [.gn (gRg zab (zao + m * 80) (spc t.s t.la t.pa)), .gn (gSp t.s t.la t.pa), .gn (gUl (.slice pc pY.length pj) pY), .gn (gUl (.slice pa pX.length pk) pX), .gn (gRg zab (zao + k * 80) (spc s.s s.la s.pa)), .gn (gSp s.s s.la s.pa), .gn (gUl (.slice ya Y.length yk) Y), .gn (gUl (.slice xa X.length xk) X), .gn (gSl (.slice (some ⟨zab, zao, none⟩) Z.length zk) Z)] _) := Lib.hid (E14.out.elV 6 rfl hml tE.out)
          clear E14
          have tS := Lib.hid (E15.out.spOk 1 rfl)
          have tN : Hid (∀ v ∈ spc t.s t.la t.pa, v.oneCell' = true) := Lib.hid (gSp.one (E15.out.fc 1 rfl))
          have Bt : Hid (t.s.lv.length ≤ 1000000 ∧ t.s.pa.length ≤ 1000000) := Lib.hid (by have h := HNL.out t.s (List.mem_of_getElem? (smap_get hml tE.out)); omega)
          obtain ⟨rR, rD, rn, rr⟩ : ∃ L C n, putRes (Y.map Uv.u) t.s = (L, C, n) := ⟨_, _, _, rfl⟩
          have rQ := Lib.hid rr
          clear rr
          go_upto_region 12 with (fail)
          clear c2_0 c3_0 f3_0 E13
          generalize wc.setCell ⟨w4.heap.size, 0, none⟩ (.slice pa pX.length pk) = w8 at *
          go_cut [9, 10, 11] (fun s9 s10 s11 wx => ∃ rg ra rk rX rc rj rY, s9 = .pointer (some ⟨rg, 0, none⟩) ∧ s10 = .slice rc rY.length rj ∧ s11 = .int .i64 rn ∧ Hid (Env D w [(rg, 25, [.slice ra rX.length rk]), (pg, 25, [.slice pa pX.length pk]), (w4.heap.size + 1, 25, [.slice ya Y.length yk]), (w4.heap.size, 25, [.slice pa pX.length pk])] [.gn (gUl (.slice rc rY.length rj) rY), .gn (gUl (.slice ra rX.length rk) rX), .gn (gRg zab (zao + m * 80) (spc t.s t.la t.pa)), .gn (gSp t.s t.la t.pa), .gn (gUl (.slice pc pY.length pj) pY), .gn (gUl (.slice pa pX.length pk) pX), .gn (gRg zab (zao + k * 80) (spc s.s s.la s.pa)), .gn (gSp s.s s.la s.pa), .gn (gUl (.slice ya Y.length yk) Y), .gn (gUl (.slice xa X.length xk) X), .gn (gSl (.slice (some ⟨zab, zao, none⟩) Z.length zk) Z)] wx) ∧ Hid (rX.map Uv.u = rR) ∧ Hid (rY.map Uv.u = rD))
          case first =>
            have E16 : Hid (Env D w [(pg, 25, [.slice pa pX.length pk]), (w4.heap.size + 1, 25, [.slice ya Y.length yk]), (w4.heap.size, 25, [.slice pa pX.length pk])] [.gn (gRg zab (zao + m * 80) (spc t.s t.la t.pa)), .gn (gSp t.s t.la t.pa), .gn (gUl (.slice pc pY.length pj) pY), .gn (gUl (.slice pa pX.length pk) pX), .gn (gRg zab (zao + k * 80) (spc s.s s.la s.pa)), .gn (gSp s.s s.la s.pa), .gn (gUl (.slice ya Y.length yk) Y), .gn (gUl (.slice xa X.length xk) X), .gn (gSl (.slice (some ⟨zab, zao, none⟩) Z.length zk) Z)] (w8.drew)) := Lib.hid E15.out.drew
            clear E15
            refine wp_regionU (S := fun w' => w'.cell? ⟨w4.heap.size + 1, 0, none⟩ = some (.slice ya Y.length yk) ∧ w'.rangeAt zab (zao + m * 80) (spc t.s t.la t.pa)) [] (by kernel_rfl) (⟨((E16.out.bx 1 rfl).cell 0 rfl), (E16.out.fc 0 rfl).2⟩) (fun hHeld => ?_)
            generalize w8.drew = w9 at *
            refine uTake (i := 0) (some 52) (v := ?_) rfl rfl (by kernel_rfl) (by kernel_rfl) (by kernel_rfl) (by kernel_rfl) (fun _ _ _ h => h) (by rfl) (by assumption) ?_ ?_
            rotate_left
            · (intro wS hSw; (try dsimp only at hSw); go_simp; try with_reducible rfl)
            try simp only [Act.put, List.setIfInBounds_toArray, List.set_cons_zero, List.set_cons_succ]
            refine uTake (i := 1) (some 53) (v := ?_) rfl rfl (by kernel_rfl) (by kernel_rfl) (by kernel_rfl) (by kernel_rfl) (fun _ _ _ h => h) (by rfl) (by assumption) ?_ ?_
            rotate_left
            · (intro wS hSw; (try dsimp only at hSw); go_simp; try with_reducible rfl)
            try simp only [Act.put, List.setIfInBounds_toArray, List.set_cons_zero, List.set_cons_succ]
            refine uTake (i := 2) (some 54) (v := ?_) rfl rfl (by kernel_rfl) (by kernel_rfl) (by kernel_rfl) (by kernel_rfl) (fun _ _ _ h => h) (by rfl) (by assumption) ?_ ?_
            rotate_left
            · (intro wS hSw; (try dsimp only at hSw); go_simp; try with_reducible rfl)
            try simp only [Act.put, List.setIfInBounds_toArray, List.set_cons_zero, List.set_cons_succ]
            refine uTake (i := 3) (some 55) (v := ?_) rfl rfl (by kernel_rfl) (by kernel_rfl) (by kernel_rfl) (by kernel_rfl) (fun _ _ _ h => h) (by rfl) (by assumption) ?_ ?_
            rotate_left
            · (intro wS hSw; (try dsimp only at hSw); go_simp; try with_reducible rfl)
            try simp only [Act.put, List.setIfInBounds_toArray, List.set_cons_zero, List.set_cons_succ]
            refine uTake (i := 4) (some 56) (v := .int .i64 ((Z.length : Int) - 1)) rfl rfl (by kernel_rfl) (by kernel_rfl) (by kernel_rfl) (by kernel_rfl) (fun _ _ _ h => h) (by rfl) (by assumption) ?_ ?_
            · (intro wS hSw; (try dsimp only at hSw); have hmq := HMI.out.1; go_simp)
            try simp only [Act.put, List.setIfInBounds_toArray, List.set_cons_zero, List.set_cons_succ]
            refine uTake (i := 5) (some 57) (v := ?_) rfl rfl (by kernel_rfl) (by kernel_rfl) (by kernel_rfl) (by kernel_rfl) (fun _ _ _ h => h) (by rfl) (by assumption) ?_ ?_
            rotate_left
            · (intro wS hSw; (try dsimp only at hSw); go_simp; try with_reducible rfl)
            try simp only [Act.put, List.setIfInBounds_toArray, List.set_cons_zero, List.set_cons_succ]
            refine uTake (i := 6) (some 58) (v := .int .i64 (m : Int)) rfl rfl (by kernel_rfl) (by kernel_rfl) (by kernel_rfl) (by kernel_rfl) (fun _ _ _ h => h) (by rfl) (by assumption) ?_ ?_
            · (intro wS hSw; (try dsimp only at hSw); have hmq := HMI.out.2; go_simp)
            try simp only [Act.put, List.setIfInBounds_toArray, List.set_cons_zero, List.set_cons_succ]
            refine uTake (i := 7) (some 59) (v := ?_) rfl rfl (by kernel_rfl) (by kernel_rfl) (by kernel_rfl) (by kernel_rfl) (fun _ _ _ h => h) (by rfl) (by assumption) ?_ ?_
            rotate_left
            · (intro wS hSw; (try dsimp only at hSw); go_simp; try with_reducible rfl)
            try simp only [Act.put, List.setIfInBounds_toArray, List.set_cons_zero, List.set_cons_succ]
            refine uTake (i := 8) (some 60) (v := .agg (spc t.s t.la t.pa).toArray) rfl rfl (by kernel_rfl) (by kernel_rfl) (by kernel_rfl) (by kernel_rfl) (fun _ _ _ h => h) (by rfl) (by assumption) ?_ ?_
            · (intro wS hSw; (try dsimp only at hSw); revert hSw; (try simp only [and_imp]); intros; exact exec_load_b bSpend _ rfl zab (zao + m * 80) rfl (spc t.s t.la t.pa) (spc_len tS.out _ _) (by assumption))
            try simp only [Act.put, List.setIfInBounds_toArray, List.set_cons_zero, List.set_cons_succ]
            refine uReady (rs := [9, 14]) (by kernel_rfl) (by simp) ?_
            refine (ReadyU.cons rfl (fun KK hKK => ?_) (ReadyU.cons rfl (fun KK hKK => ?_) ReadyU.nil))
            · skip
              go_simp
              refine (put_t Y t.s (E16.out.fc 6 rfl) (E16.out.fc 1 rfl) (valid_bd HTY.out.valid) Bt.out (Nat.le_trans (valid_len HTY.out.valid) (by omega)) rQ.out).mono ?_
              rintro e w10 ⟨⟨ra, rk, rX, rc, rj, rY, rfl, r1, r2, rH, rI⟩, hb⟩
              have E17 : Hid (Env D w [(pg, 25, [.slice pa pX.length pk]), (w4.heap.size + 1, 25, [.slice ya Y.length yk]), (w4.heap.size, 25, [.slice pa pX.length pk])] [.gn (gUl (.slice rc rY.length rj) rY), .gn (gUl (.slice ra rX.length rk) rX), .gn (gRg zab (zao + m * 80) (spc t.s t.la t.pa)), .gn (gSp t.s t.la t.pa), .gn (gUl (.slice pc pY.length pj) pY), .gn (gUl (.slice pa pX.length pk) pX), .gn (gRg zab (zao + k * 80) (spc s.s s.la s.pa)), .gn (gSp s.s s.la s.pa), .gn (gUl (.slice ya Y.length yk) Y), .gn (gUl (.slice xa X.length xk) X), .gn (gSl (.slice (some ⟨zab, zao, none⟩) Z.length zk) Z)] w10) := Lib.hid (E16.out.got (E16.out.got (E16.out.below hb) (.gn (gUl (.slice ra rX.length rk) rX)) rH.out) (.gn (gUl (.slice rc rY.length rj) rY)) rI.out)
              clear E16 hb rH rI
              have rL := Lib.hid r1; have rC := Lib.hid r2; clear r1 r2
              (try dsimp only)
              clear hHeld
              refine hKK.out _ _ (⟨((E17.out.bx 1 rfl).cell 0 rfl), (E17.out.fc 2 rfl).2⟩) (fun hHeld => ?_)
              clear hKK KK
              try simp only [Act.put, List.setIfInBounds_toArray, List.set_cons_zero, List.set_cons_succ]
              refine uTake (i := 10) (some 51) (v := ?_) rfl rfl (by kernel_rfl) (by kernel_rfl) (by kernel_rfl) (by kernel_rfl) (fun _ _ _ h => h) (by rfl) (by assumption) ?_ ?_
              rotate_left
              · (intro wS hSw; (try dsimp only at hSw); go_simp; try with_reducible rfl)
              try simp only [Act.put, List.setIfInBounds_toArray, List.set_cons_zero, List.set_cons_succ]
              refine uTake (i := 11) (some 62) (v := ?_) rfl rfl (by kernel_rfl) (by kernel_rfl) (by kernel_rfl) (by kernel_rfl) (fun _ _ _ h => h) (by rfl) (by assumption) ?_ ?_
              rotate_left
              · (intro wS hSw; (try dsimp only at hSw); go_simp; try with_reducible rfl)
              try simp only [Act.put, List.setIfInBounds_toArray, List.set_cons_zero, List.set_cons_succ]
              refine uTake (i := 12) (some 63) (v := ?_) rfl rfl (by kernel_rfl) (by kernel_rfl) (by kernel_rfl) (by kernel_rfl) (fun _ _ _ h => h) (by rfl) (by assumption) ?_ ?_
              rotate_left
              · (intro wS hSw; (try dsimp only at hSw); go_simp; try with_reducible rfl)
              try simp only [Act.put, List.setIfInBounds_toArray, List.set_cons_zero, List.set_cons_succ]
              refine uTake (i := 13) (some 64) (v := ?_) rfl rfl (by kernel_rfl) (by kernel_rfl) (by kernel_rfl) (by kernel_rfl) (fun _ _ _ h => h) (by rfl) (by assumption) ?_ ?_
              rotate_left
              · (intro wS hSw; (try dsimp only at hSw); go_simp; try with_reducible rfl)
              try simp only [Act.put, List.setIfInBounds_toArray, List.set_cons_zero, List.set_cons_succ]
              refine uReady (rs := [14]) (by kernel_rfl) (by simp) ?_
              refine ReadyU.cons rfl (fun KK hKK => ?_) ReadyU.nil
              go_simp
              have E18 : Hid (Env D w [(w10.heap.size, 25, [.slice none 0 0]), (pg, 25, [.slice pa pX.length pk]), (w4.heap.size + 1, 25, [.slice ya Y.length yk]), (w4.heap.size, 25, [.slice pa pX.length pk])] [.gn (gUl (.slice rc rY.length rj) rY), .gn (gUl (.slice ra rX.length rk) rX), .gn (gRg zab (zao + m * 80) (spc t.s t.la t.pa)), .gn (gSp t.s t.la t.pa), .gn (gUl (.slice pc pY.length pj) pY), .gn (gUl (.slice pa pX.length pk) pX), .gn (gRg zab (zao + k * 80) (spc s.s s.la s.pa)), .gn (gSp s.s s.la s.pa), .gn (gUl (.slice ya Y.length yk) Y), .gn (gUl (.slice xa X.length xk) X), .gn (gSl (.slice (some ⟨zab, zao, none⟩) Z.length zk) Z)] _) := Lib.hid ((E17.out.push 25 [.slice none 0 0] (w10.heap.size) (by simp)))
              (try dsimp only)
              clear hHeld
              refine hKK.out _ _ (⟨((E18.out.bx 2 rfl).cell 0 rfl), (E18.out.fc 2 rfl).2⟩) (fun hHeld => ?_)
              clear hKK KK
              try simp only [Act.put, List.setIfInBounds_toArray, List.set_cons_zero, List.set_cons_succ]
              clear E17
              generalize w10.alloc (.cells #[.slice none 0 0] 25) = w11 at *
              have b4 := E18.out.bx 0 rfl
              have c4_0 := b4.cell 0 rfl
              have f4_0 := b4.frozen 0
              clear b4
              refine uReady (rs := [15]) (by kernel_rfl) (by simp) ?_
              refine ReadyU.cons rfl (fun KK hKK => ?_) ReadyU.nil
              go_simp
              have E19 : Hid (Env D w [(w10.heap.size, 25, [.slice ra rX.length rk]), (pg, 25, [.slice pa pX.length pk]), (w4.heap.size + 1, 25, [.slice ya Y.length yk]), (w4.heap.size, 25, [.slice pa pX.length pk])] [.gn (gUl (.slice rc rY.length rj) rY), .gn (gUl (.slice ra rX.length rk) rX), .gn (gRg zab (zao + m * 80) (spc t.s t.la t.pa)), .gn (gSp t.s t.la t.pa), .gn (gUl (.slice pc pY.length pj) pY), .gn (gUl (.slice pa pX.length pk) pX), .gn (gRg zab (zao + k * 80) (spc s.s s.la s.pa)), .gn (gSp s.s s.la s.pa), .gn (gUl (.slice ya Y.length yk) Y), .gn (gUl (.slice xa X.length xk) X), .gn (gSl (.slice (some ⟨zab, zao, none⟩) Z.length zk) Z)] _) := Lib.hid ((E18.out.set 0 0 (.slice ra rX.length rk) rfl))
              (try dsimp only)
              clear hHeld
              refine hKK.out _ _ (⟨((E19.out.bx 2 rfl).cell 0 rfl), (E19.out.fc 2 rfl).2⟩) (fun hHeld => ?_)
              clear hKK KK
              try simp only [Act.put, List.setIfInBounds_toArray, List.set_cons_zero, List.set_cons_succ]
              refine uTake (i := 16) (some 10) (v := ?_) rfl rfl (by kernel_rfl) (by kernel_rfl) (by kernel_rfl) (by kernel_rfl) (fun _ _ _ h => h) (by rfl) (by assumption) ?_ ?_
              rotate_left
              · (intro wS hSw; (try dsimp only at hSw); go_simp; try with_reducible rfl)
              try simp only [Act.put, List.setIfInBounds_toArray, List.set_cons_zero, List.set_cons_succ]
              refine uTake (i := 17) (some 11) (v := ?_) rfl rfl (by kernel_rfl) (by kernel_rfl) (by kernel_rfl) (by kernel_rfl) (fun _ _ _ h => h) (by rfl) (by assumption) ?_ ?_
              rotate_left
              · (intro wS hSw; (try dsimp only at hSw); go_simp; try with_reducible rfl)
              try simp only [Act.put, List.setIfInBounds_toArray, List.set_cons_zero, List.set_cons_succ]
              refine uDone (by kernel_rfl) ?_ _
              go_wp2_with fail
              go_meet
              exact ⟨w10.heap.size, ra, rk, rX, rc, rj, rY, rfl, rfl, rfl, Lib.hid E19.out, rL, rC⟩
            · skip
              go_simp
              have E17 : Hid (Env D w [(w9.heap.size, 25, [.slice none 0 0]), (pg, 25, [.slice pa pX.length pk]), (w4.heap.size + 1, 25, [.slice ya Y.length yk]), (w4.heap.size, 25, [.slice pa pX.length pk])] [.gn (gRg zab (zao + m * 80) (spc t.s t.la t.pa)), .gn (gSp t.s t.la t.pa), .gn (gUl (.slice pc pY.length pj) pY), .gn (gUl (.slice pa pX.length pk) pX), .gn (gRg zab (zao + k * 80) (spc s.s s.la s.pa)), .gn (gSp s.s s.la s.pa), .gn (gUl (.slice ya Y.length yk) Y), .gn (gUl (.slice xa X.length xk) X), .gn (gSl (.slice (some ⟨zab, zao, none⟩) Z.length zk) Z)] _) := Lib.hid ((E16.out.push 25 [.slice none 0 0] (w9.heap.size) (by simp)))
              (try dsimp only)
              clear hHeld
              refine hKK.out _ _ (⟨((E17.out.bx 2 rfl).cell 0 rfl), (E17.out.fc 0 rfl).2⟩) (fun hHeld => ?_)
              clear hKK KK
              try simp only [Act.put, List.setIfInBounds_toArray, List.set_cons_zero, List.set_cons_succ]
              clear E16
              generalize w9.alloc (.cells #[.slice none 0 0] 25) = w10 at *
              refine uReady (rs := [9]) (by kernel_rfl) (by simp) ?_
              refine ReadyU.cons rfl (fun KK hKK => ?_) ReadyU.nil
              go_simp
              refine (put_t Y t.s (E17.out.fc 6 rfl) (E17.out.fc 1 rfl) (valid_bd HTY.out.valid) Bt.out (Nat.le_trans (valid_len HTY.out.valid) (by omega)) rQ.out).mono ?_
              rintro e w11 ⟨⟨ra, rk, rX, rc, rj, rY, rfl, r1, r2, rH, rI⟩, hb⟩
              have E18 : Hid (Env D w [(w9.heap.size, 25, [.slice none 0 0]), (pg, 25, [.slice pa pX.length pk]), (w4.heap.size + 1, 25, [.slice ya Y.length yk]), (w4.heap.size, 25, [.slice pa pX.length pk])] [.gn (gUl (.slice rc rY.length rj) rY), .gn (gUl (.slice ra rX.length rk) rX), .gn (gRg zab (zao + m * 80) (spc t.s t.la t.pa)), .gn (gSp t.s t.la t.pa), .gn (gUl (.slice pc pY.length pj) pY), .gn (gUl (.slice pa pX.length pk) pX), .gn (gRg zab (zao + k * 80) (spc s.s s.la s.pa)), .gn (gSp s.s s.la s.pa), .gn (gUl (.slice ya Y.length yk) Y), .gn (gUl (.slice xa X.length xk) X), .gn (gSl (.slice (some ⟨zab, zao, none⟩) Z.length zk) Z)] w11) := Lib.hid (E17.out.got (E17.out.got (E17.out.below hb) (.gn (gUl (.slice ra rX.length rk) rX)) rH.out) (.gn (gUl (.slice rc rY.length rj) rY)) rI.out)
              clear E17 hb rH rI
              have rL := Lib.hid r1; have rC := Lib.hid r2; clear r1 r2
              (try dsimp only)
              clear hHeld
              refine hKK.out _ _ (⟨((E18.out.bx 2 rfl).cell 0 rfl), (E18.out.fc 2 rfl).2⟩) (fun hHeld => ?_)
              clear hKK KK
              try simp only [Act.put, List.setIfInBounds_toArray, List.set_cons_zero, List.set_cons_succ]
              refine uTake (i := 10) (some 51) (v := ?_) rfl rfl (by kernel_rfl) (by kernel_rfl) (by kernel_rfl) (by kernel_rfl) (fun _ _ _ h => h) (by rfl) (by assumption) ?_ ?_
              rotate_left
              · (intro wS hSw; (try dsimp only at hSw); go_simp; try with_reducible rfl)
              try simp only [Act.put, List.setIfInBounds_toArray, List.set_cons_zero, List.set_cons_succ]
              refine uTake (i := 11) (some 62) (v := ?_) rfl rfl (by kernel_rfl) (by kernel_rfl) (by kernel_rfl) (by kernel_rfl) (fun _ _ _ h => h) (by rfl) (by assumption) ?_ ?_
              rotate_left
              · (intro wS hSw; (try dsimp only at hSw); go_simp; try with_reducible rfl)
              try simp only [Act.put, List.setIfInBounds_toArray, List.set_cons_zero, List.set_cons_succ]
              refine uTake (i := 12) (some 63) (v := ?_) rfl rfl (by kernel_rfl) (by kernel_rfl) (by kernel_rfl) (by kernel_rfl) (fun _ _ _ h => h) (by rfl) (by assumption) ?_ ?_
              rotate_left
              · (intro wS hSw; (try dsimp only at hSw); go_simp; try with_reducible rfl)
              try simp only [Act.put, List.setIfInBounds_toArray, List.set_cons_zero, List.set_cons_succ]
              refine uTake (i := 13) (some 64) (v := ?_) rfl rfl (by kernel_rfl) (by kernel_rfl) (by kernel_rfl) (by kernel_rfl) (fun _ _ _ h => h) (by rfl) (by assumption) ?_ ?_
              rotate_left
              · (intro wS hSw; (try dsimp only at hSw); go_simp; try with_reducible rfl)
              try simp only [Act.put, List.setIfInBounds_toArray, List.set_cons_zero, List.set_cons_succ]
              have b4 := E18.out.bx 0 rfl
              have c4_0 := b4.cell 0 rfl
              have f4_0 := b4.frozen 0
              clear b4
              refine uReady (rs := [15]) (by kernel_rfl) (by simp) ?_
              refine ReadyU.cons rfl (fun KK hKK => ?_) ReadyU.nil
              go_simp
              have E19 : Hid (Env D w [(w9.heap.size, 25, [.slice ra rX.length rk]), (pg, 25, [.slice pa pX.length pk]), (w4.heap.size + 1, 25, [.slice ya Y.length yk]), (w4.heap.size, 25, [.slice pa pX.length pk])] [.gn (gUl (.slice rc rY.length rj) rY), .gn (gUl (.slice ra rX.length rk) rX), .gn (gRg zab (zao + m * 80) (spc t.s t.la t.pa)), .gn (gSp t.s t.la t.pa), .gn (gUl (.slice pc pY.length pj) pY), .gn (gUl (.slice pa pX.length pk) pX), .gn (gRg zab (zao + k * 80) (spc s.s s.la s.pa)), .gn (gSp s.s s.la s.pa), .gn (gUl (.slice ya Y.length yk) Y), .gn (gUl (.slice xa X.length xk) X), .gn (gSl (.slice (some ⟨zab, zao, none⟩) Z.length zk) Z)] _) := Lib.hid ((E18.out.set 0 0 (.slice ra rX.length rk) rfl))
              (try dsimp only)
              clear hHeld
              refine hKK.out _ _ (⟨((E19.out.bx 2 rfl).cell 0 rfl), (E19.out.fc 2 rfl).2⟩) (fun hHeld => ?_)
              clear hKK KK
              try simp only [Act.put, List.setIfInBounds_toArray, List.set_cons_zero, List.set_cons_succ]
              refine uTake (i := 16) (some 10) (v := ?_) rfl rfl (by kernel_rfl) (by kernel_rfl) (by kernel_rfl) (by kernel_rfl) (fun _ _ _ h => h) (by rfl) (by assumption) ?_ ?_
              rotate_left
              · (intro wS hSw; (try dsimp only at hSw); go_simp; try with_reducible rfl)
              try simp only [Act.put, List.setIfInBounds_toArray, List.set_cons_zero, List.set_cons_succ]
              refine uTake (i := 17) (some 11) (v := ?_) rfl rfl (by kernel_rfl) (by kernel_rfl) (by kernel_rfl) (by kernel_rfl) (fun _ _ _ h => h) (by rfl) (by assumption) ?_ ?_
              rotate_left
              · (intro wS hSw; (try dsimp only at hSw); go_simp; try with_reducible rfl)
              try simp only [Act.put, List.setIfInBounds_toArray, List.set_cons_zero, List.set_cons_succ]
              refine uDone (by kernel_rfl) ?_ _
              go_wp2_with fail
              go_meet
              exact ⟨w9.heap.size, ra, rk, rX, rc, rj, rY, rfl, rfl, rfl, Lib.hid E19.out, rL, rC⟩
          case rest =>
            obtain ⟨rg, ra, rk, rX, rc, rj, rY, rfl, rfl, rfl, E20, rL, rC⟩ := hcut
            clear E15
            by_cases e2 : rn = 0
            · subst e2
              have e2 : (0 : Int) = 0 := rfl
              have i2 : ((0 : Int) == 0) = true := rfl
              have HTY2 : Hid (TabOf (fun t => t ∈ (Z.map Sv.s).drop ((Z.map Sv.s).length - (k + 1))) (k + 1) (rX.map Uv.u)) := Lib.hid (by have h := TabOf.drop (smap_get hml tE.out) HMS.out HK20.out HTY.out; rw [putS_yes rQ.out] at h; rw [rL.out]; exact h)
              have b5 := E20.out.bx 0 rfl
              have c5_0 := b5.cell 0 rfl
              clear b5
              have b6 := E20.out.bx 2 rfl
              have c6_0 := b6.cell 0 rfl
              have f6_0 := b6.frozen 0
              clear b6
              have E21 : Hid (Env D w [(rg, 25, [.slice ra rX.length rk]), (pg, 25, [.slice pa pX.length pk]), (w4.heap.size + 1, 25, [.slice ra rX.length rk]), (w4.heap.size, 25, [.slice pa pX.length pk])] [.gn (gUl (.slice rc rY.length rj) rY), .gn (gUl (.slice ra rX.length rk) rX), .gn (gRg zab (zao + m * 80) (spc t.s t.la t.pa)), .gn (gSp t.s t.la t.pa), .gn (gUl (.slice pc pY.length pj) pY), .gn (gUl (.slice pa pX.length pk) pX), .gn (gRg zab (zao + k * 80) (spc s.s s.la s.pa)), .gn (gSp s.s s.la s.pa), .gn (gUl (.slice ya Y.length yk) Y), .gn (gUl (.slice xa X.length xk) X), .gn (gSl (.slice (some ⟨zab, zao, none⟩) Z.length zk) Z)] _) := Lib.hid ((E20.out.set 2 0 (.slice ra rX.length rk) rfl))
              have hZ := ((E21.out.drop).drop)
              have EY : Hid (Env D w [(w4.heap.size + 1, 25, [.slice ra rX.length rk]), (w4.heap.size, 25, [.slice pa pX.length pk])] [.gn (gUl (.slice ra rX.length rk) rX), .gn (gUl (.slice pa pX.length pk) pX), .gn (gSl (.slice (some ⟨zab, zao, none⟩) Z.length zk) Z)] _) := Lib.hid ⟨hZ.bel, hZ.box, ⟨hZ.fc 1 rfl, ⟨hZ.fc 5 rfl, ⟨hZ.fc 10 rfl, trivial⟩⟩⟩⟩
              clear hZ
              go_wp2
              go_roundg (Z.length - (k + 1))
              case rel => exact ⟨k + 1, pa, pk, pX, ra, rk, rX, rfl, EY, Lib.hid ⟨by omega, rfl, HTX2.out, HTY2.out⟩⟩
              case measure => exact by omega
            have i2 : (rn == 0) = false := by simpa using e2
            have HTY2 : Hid (TabOf (fun t => t ∈ (Z.map Sv.s).drop ((Z.map Sv.s).length - (k + 1))) (k + 1) (Y.map Uv.u)) := Lib.hid (by have h := TabOf.drop (smap_get hml tE.out) HMS.out HK20.out HTY.out; rw [putS_no rQ.out e2] at h; exact h)
            have hZ := ((E20.out.drop).drop)
            have EY : Hid (Env D w [(w4.heap.size + 1, 25, [.slice ya Y.length yk]), (w4.heap.size, 25, [.slice pa pX.length pk])] [.gn (gUl (.slice ya Y.length yk) Y), .gn (gUl (.slice pa pX.length pk) pX), .gn (gSl (.slice (some ⟨zab, zao, none⟩) Z.length zk) Z)] _) := Lib.hid ⟨hZ.bel, hZ.box, ⟨hZ.fc 8 rfl, ⟨hZ.fc 5 rfl, ⟨hZ.fc 10 rfl, trivial⟩⟩⟩⟩
            clear hZ
            go_wp2
            go_roundg (Z.length - (k + 1))
            case rel => exact ⟨k + 1, pa, pk, pX, ya, yk, Y, rfl, EY, Lib.hid ⟨by omega, rfl, HTX2.out, HTY2.out⟩⟩
            case measure => exact by omega
        have i1 : (pn == 0) = false := by simpa using e1
        have HTX2 : Hid (TabOf (fun t => t ∈ (Z.map Sv.s).take (k + 1)) (k + 1) (X.map Uv.u)) := Lib.hid (by have h := TabOf.take (smap_get hk sE.out) HK20.out HTX.out; rw [putS_no pQ.out e1] at h; exact h)
        go_upto_region 12 with (fail)
        clear e1 i1
        go_upto_region 12 with (fail)
        obtain ⟨t, te⟩ : ∃ x, Z[m] = x := ⟨_, rfl⟩
        have tE := Lib.hid te
        clear te
        have E14 : Hid (Env D w [(pg, 25, [.slice pa pX.length pk]), (w4.heap.size + 1, 25, [.slice ya Y.length yk]), (w4.heap.size, 25, [.slice xa X.length xk])] [.gn (gRg zab (zao + m * 80) (spc t.s t.la t.pa)), .gn (gSp t.s t.la t.pa), .gn (gUl (.slice pc pY.length pj) pY), .gn (gUl (.slice pa pX.length pk) pX), .gn (gRg zab (zao + k * 80) (spc s.s s.la s.pa)), .gn (gSp s.s s.la s.pa), .gn (gUl (.slice ya Y.length yk) Y), .gn (gUl (.slice xa X.length xk) X), .gn (gSl (.slice (some ⟨zab, zao, none⟩) Z.length zk) Z)] _) := Lib.hid (E13.out.elV 6 rfl hml tE.out)
        clear E13
        have tS := Lib.hid (E14.out.spOk 1 rfl)
        have tN : Hid (∀ v ∈ spc t.s t.la t.pa, v.oneCell' = true) := Lib.hid (gSp.one (E14.out.fc 1 rfl))
        have Bt : Hid (t.s.lv.length ≤ 1000000 ∧ t.s.pa.length ≤ 1000000) := Lib.hid (by have h := HNL.out t.s (List.mem_of_getElem? (smap_get hml tE.out)); omega)
        obtain ⟨rR, rD, rn, rr⟩ : ∃ L C n, putRes (Y.map Uv.u) t.s = (L, C, n) := ⟨_, _, _, rfl⟩
        have rQ := Lib.hid rr
        clear rr
        go_upto_region 12 with (fail)
        go_cut [9, 10, 11] (fun s9 s10 s11 wx => ∃ rg ra rk rX rc rj rY, s9 = .pointer (some ⟨rg, 0, none⟩) ∧ s10 = .slice rc rY.length rj ∧ s11 = .int .i64 rn ∧ Hid (Env D w [(rg, 25, [.slice ra rX.length rk]), (pg, 25, [.slice pa pX.length pk]), (w4.heap.size + 1, 25, [.slice ya Y.length yk]), (w4.heap.size, 25, [.slice xa X.length xk])] [.gn (gUl (.slice rc rY.length rj) rY), .gn (gUl (.slice ra rX.length rk) rX), .gn (gRg zab (zao + m * 80) (spc t.s t.la t.pa)), .gn (gSp t.s t.la t.pa), .gn (gUl (.slice pc pY.length pj) pY), .gn (gUl (.slice pa pX.length pk) pX), .gn (gRg zab (zao + k * 80) (spc s.s s.la s.pa)), .gn (gSp s.s s.la s.pa), .gn (gUl (.slice ya Y.length yk) Y), .gn (gUl (.slice xa X.length xk) X), .gn (gSl (.slice (some ⟨zab, zao, none⟩) Z.length zk) Z)] wx) ∧ Hid (rX.map Uv.u = rR) ∧ Hid (rY.map Uv.u = rD))
        case first =>
          have E15 : Hid (Env D w [(pg, 25, [.slice pa pX.length pk]), (w4.heap.size + 1, 25, [.slice ya Y.length yk]), (w4.heap.size, 25, [.slice xa X.length xk])] [.gn (gRg zab (zao + m * 80) (spc t.s t.la t.pa)), .gn (gSp t.s t.la t.pa), .gn (gUl (.slice pc pY.length pj) pY), .gn (gUl (.slice pa pX.length pk) pX), .gn (gRg zab (zao + k * 80) (spc s.s s.la s.pa)), .gn (gSp s.s s.la s.pa), .gn (gUl (.slice ya Y.length yk) Y), .gn (gUl (.slice xa X.length xk) X), .gn (gSl (.slice (some ⟨zab, zao, none⟩) Z.length zk) Z)] (wc.drew)) := Lib.hid E14.out.drew
          clear E14
          refine wp_regionU (S := fun w' => w'.cell? ⟨w4.heap.size + 1, 0, none⟩ = some (.slice ya Y.length yk) ∧ w'.rangeAt zab (zao + m * 80) (spc t.s t.la t.pa)) [] (by kernel_rfl) (⟨((E15.out.bx 1 rfl).cell 0 rfl), (E15.out.fc 0 rfl).2⟩) (fun hHeld => ?_)
          generalize wc.drew = w8 at *
          refine uTake (i := 0) (some 52) (v := ?_) rfl rfl (by kernel_rfl) (by kernel_rfl) (by kernel_rfl) (by kernel_rfl) (fun _ _ _ h => h) (by rfl) (by assumption) ?_ ?_
          rotate_left
          · (intro wS hSw; (try dsimp only at hSw); go_simp; try with_reducible rfl)
          try simp only [Act.put, List.setIfInBounds_toArray, List.set_cons_zero, List.set_cons_succ]
          refine uTake (i := 1) (some 53) (v := ?_) rfl rfl (by kernel_rfl) (by kernel_rfl) (by kernel_rfl) (by kernel_rfl) (fun _ _ _ h => h) (by rfl) (by assumption) ?_ ?_
          rotate_left
          · (intro wS hSw; (try dsimp only at hSw); go_simp; try with_reducible rfl)
          try simp only [Act.put, List.setIfInBounds_toArray, List.set_cons_zero, List.set_cons_succ]
          refine uTake (i := 2) (some 54) (v := ?_) rfl rfl (by kernel_rfl) (by kernel_rfl) (by kernel_rfl) (by kernel_rfl) (fun _ _ _ h => h) (by rfl) (by assumption) ?_ ?_
          rotate_left
          · (intro wS hSw; (try dsimp only at hSw); go_simp; try with_reducible rfl)
          try simp only [Act.put, List.setIfInBounds_toArray, List.set_cons_zero, List.set_cons_succ]
          refine uTake (i := 3) (some 55) (v := ?_) rfl rfl (by kernel_rfl) (by kernel_rfl) (by kernel_rfl) (by kernel_rfl) (fun _ _ _ h => h) (by rfl) (by assumption) ?_ ?_
          rotate_left
          · (intro wS hSw; (try dsimp only at hSw); go_simp; try with_reducible rfl)
          try simp only [Act.put, List.setIfInBounds_toArray, List.set_cons_zero, List.set_cons_succ]
          refine uTake (i := 4) (some 56) (v := .int .i64 ((Z.length : Int) - 1)) rfl rfl (by kernel_rfl) (by kernel_rfl) (by kernel_rfl) (by kernel_rfl) (fun _ _ _ h => h) (by rfl) (by assumption) ?_ ?_
          · (intro wS hSw; (try dsimp only at hSw); have hmq := HMI.out.1; go_simp)
          try simp only [Act.put, List.setIfInBounds_toArray, List.set_cons_zero, List.set_cons_succ]
          refine uTake (i := 5) (some 57) (v := ?_) rfl rfl (by kernel_rfl) (by kernel_rfl) (by kernel_rfl) (by kernel_rfl) (fun _ _ _ h => h) (by rfl) (by assumption) ?_ ?_
          rotate_left
          · (intro wS hSw; (try dsimp only at hSw); go_simp; try with_reducible rfl)
          try simp only [Act.put, List.setIfInBounds_toArray, List.set_cons_zero, List.set_cons_succ]
          refine uTake (i := 6) (some 58) (v := .int .i64 (m : Int)) rfl rfl (by kernel_rfl) (by kernel_rfl) (by kernel_rfl) (by kernel_rfl) (fun _ _ _ h => h) (by rfl) (by assumption) ?_ ?_
          · (intro wS hSw; (try dsimp only at hSw); have hmq := HMI.out.2; go_simp)
          try simp only [Act.put, List.setIfInBounds_toArray, List.set_cons_zero, List.set_cons_succ]
          refine uTake (i := 7) (some 59) (v := ?_) rfl rfl (by kernel_rfl) (by kernel_rfl) (by kernel_rfl) (by kernel_rfl) (fun _ _ _ h => h) (by rfl) (by assumption) ?_ ?_
          rotate_left
          · (intro wS hSw; (try dsimp only at hSw); go_simp; try with_reducible rfl)
          try simp only [Act.put, List.setIfInBounds_toArray, List.set_cons_zero, List.set_cons_succ]
          refine uTake (i := 8) (some 60) (v := .agg (spc t.s t.la t.pa).toArray) rfl rfl (by kernel_rfl) (by kernel_rfl) (by kernel_rfl) (by kernel_rfl) (fun _ _ _ h => h) (by rfl) (by assumption) ?_ ?_
          · (intro wS hSw; (try dsimp only at hSw); revert hSw; (try simp only [and_imp]); intros; exact exec_load_b bSpend _ rfl zab (zao + m * 80) rfl (spc t.s t.la t.pa) (spc_len tS.out _ _) (by assumption))
          try simp only [Act.put, List.setIfInBounds_toArray, List.set_cons_zero, List.set_cons_succ]
          refine uReady (rs := [9, 14]) (by kernel_rfl) (by simp) ?_
          refine (ReadyU.cons rfl (fun KK hKK => ?_) (ReadyU.cons rfl (fun KK hKK => ?_) ReadyU.nil))
          · skip
            go_simp
            refine (put_t Y t.s (E15.out.fc 6 rfl) (E15.out.fc 1 rfl) (valid_bd HTY.out.valid) Bt.out (Nat.le_trans (valid_len HTY.out.valid) (by omega)) rQ.out).mono ?_
            rintro e w9 ⟨⟨ra, rk, rX, rc, rj, rY, rfl, r1, r2, rH, rI⟩, hb⟩
            have E16 : Hid (Env D w [(pg, 25, [.slice pa pX.length pk]), (w4.heap.size + 1, 25, [.slice ya Y.length yk]), (w4.heap.size, 25, [.slice xa X.length xk])] [.gn (gUl (.slice rc rY.length rj) rY), .gn (gUl (.slice ra rX.length rk) rX), .gn (gRg zab (zao + m * 80) (spc t.s t.la t.pa)), .gn (gSp t.s t.la t.pa), .gn (gUl (.slice pc pY.length pj) pY), .gn (gUl (.slice pa pX.length pk) pX), .gn (gRg zab (zao + k * 80) (spc s.s s.la s.pa)), .gn (gSp s.s s.la s.pa), .gn (gUl (.slice ya Y.length yk) Y), .gn (gUl (.slice xa X.length xk) X), .gn (gSl (.slice (some ⟨zab, zao, none⟩) Z.length zk) Z)] w9) := Lib.hid (E15.out.got (E15.out.got (E15.out.below hb) (.gn (gUl (.slice ra rX.length rk) rX)) rH.out) (.gn (gUl (.slice rc rY.length rj) rY)) rI.out)
            clear E15 hb rH rI
            have rL := Lib.hid r1; have rC := Lib.hid r2; clear r1 r2
            (try dsimp only)
            clear hHeld
            refine hKK.out _ _ (⟨((E16.out.bx 1 rfl).cell 0 rfl), (E16.out.fc 2 rfl).2⟩) (fun hHeld => ?_)
            clear hKK KK
            try simp only [Act.put, List.setIfInBounds_toArray, List.set_cons_zero, List.set_cons_succ]
            refine uTake (i := 10) (some 51) (v := ?_) rfl rfl (by kernel_rfl) (by kernel_rfl) (by kernel_rfl) (by kernel_rfl) (fun _ _ _ h => h) (by rfl) (by assumption) ?_ ?_
            rotate_left
            · (intro wS hSw; (try dsimp only at hSw); go_simp; try with_reducible rfl)
            try simp only [Act.put, List.setIfInBounds_toArray, List.set_cons_zero, List.set_cons_succ]
            refine uTake (i := 11) (some 62) (v := ?_) rfl rfl (by kernel_rfl) (by kernel_rfl) (by kernel_rfl) (by kernel_rfl) (fun _ _ _ h => h) (by rfl) (by assumption) ?_ ?_
            rotate_left
            · (intro wS hSw; (try dsimp only at hSw); go_simp; try with_reducible rfl)
            try simp only [Act.put, List.setIfInBounds_toArray, List.set_cons_zero, List.set_cons_succ]
            refine uTake (i := 12) (some 63) (v := ?_) rfl rfl (by kernel_rfl) (by kernel_rfl) (by kernel_rfl) (by kernel_rfl) (fun _ _ _ h => h) (by rfl) (by assumption) ?_ ?_
            rotate_left
            · (intro wS hSw; (try dsimp only at hSw); go_simp; try with_reducible rfl)
            try simp only [Act.put, List.setIfInBounds_toArray, List.set_cons_zero, List.set_cons_succ]
            refine uTake (i := 13) (some 64) (v := ?_) rfl rfl (by kernel_rfl) (by kernel_rfl) (by kernel_rfl) (by kernel_rfl) (fun _ _ _ h => h) (by rfl) (by assumption) ?_ ?_
            rotate_left
            · (intro wS hSw; (try dsimp only at hSw); go_simp; try with_reducible rfl)
            try simp only [Act.put, List.setIfInBounds_toArray, List.set_cons_zero, List.set_cons_succ]
            refine uReady (rs := [14]) (by kernel_rfl) (by simp) ?_
            refine ReadyU.cons rfl (fun KK hKK => ?_) ReadyU.nil
            go_simp
            have E17 : Hid (Env D w [(w9.heap.size, 25, [.slice none 0 0]), (pg, 25, [.slice pa pX.length pk]), (w4.heap.size + 1, 25, [.slice ya Y.length yk]), (w4.heap.size, 25, [.slice xa X.length xk])] [.gn (gUl (.slice rc rY.length rj) rY), .gn (gUl (.slice ra rX.length rk) rX), .gn (gRg zab (zao + m * 80) (spc t.s t.la t.pa)), .gn (gSp t.s t.la t.pa), .gn (gUl (.slice pc pY.length pj) pY), .gn (gUl (.slice pa pX.length pk) pX), .gn (gRg zab (zao + k * 80) (spc s.s s.la s.pa)), .gn (gSp s.s s.la s.pa), .gn (gUl (.slice ya Y.length yk) Y), .gn (gUl (.slice xa X.length xk) X), .gn (gSl (.slice (some ⟨zab, zao, none⟩) Z.length zk) Z)] _) := Lib.hid ((E16.out.push 25 [.slice none 0 0] (w9.heap.size) (by simp)))
            (try dsimp only)
            clear hHeld
            refine hKK.out _ _ (⟨((E17.out.bx 2 rfl).cell 0 rfl), (E17.out.fc 2 rfl).2⟩) (fun hHeld => ?_)
            clear hKK KK
            try simp only [Act.put, List.setIfInBounds_toArray, List.set_cons_zero, List.set_cons_succ]
            clear E16
            generalize w9.alloc (.cells #[.slice none 0 0] 25) = w10 at *
            have b2 := E17.out.bx 0 rfl
            have c2_0 := b2.cell 0 rfl
            have f2_0 := b2.frozen 0
            clear b2
            refine uReady (rs := [15]) (by kernel_rfl) (by simp) ?_
            refine ReadyU.cons rfl (fun KK hKK => ?_) ReadyU.nil
            go_simp
            have E18 : Hid (Env D w [(w9.heap.size, 25, [.slice ra rX.length rk]), (pg, 25, [.slice pa pX.length pk]), (w4.heap.size + 1, 25, [.slice ya Y.length yk]), (w4.heap.size, 25, [.slice xa X.length xk])] [.gn (gUl (.slice rc rY.length rj) rY), .gn (gUl (.slice ra rX.length rk) rX), .gn (gRg zab (zao + m * 80) (spc t.s t.la t.pa)), .gn (gSp t.s t.la t.pa), .gn (gUl (.slice pc pY.length pj) pY), .gn (gUl (.slice pa pX.length pk) pX), .gn (gRg zab (zao + k * 80) (spc s.s s.la s.pa)), .gn (gSp s.s s.la s.pa), .gn (gUl (.slice ya Y.length yk) Y), .gn (gUl (.slice xa X.length xk) X), .gn (gSl (.slice (some ⟨zab, zao, none⟩) Z.length zk) Z)] _) := Lib.hid ((E17.out.set 0 0 (.slice ra rX.length rk) rfl))
            (try dsimp only)
            clear hHeld
            refine hKK.out _ _ (⟨((E18.out.bx 2 rfl).cell 0 rfl), (E18.out.fc 2 rfl).2⟩) (fun hHeld => ?_)
            clear hKK KK
            try simp only [Act.put, List.setIfInBounds_toArray, List.set_cons_zero, List.set_cons_succ]
            refine uTake (i := 16) (some 10) (v := ?_) rfl rfl (by kernel_rfl) (by kernel_rfl) (by kernel_rfl) (by kernel_rfl) (fun _ _ _ h => h) (by rfl) (by assumption) ?_ ?_
            rotate_left
            · (intro wS hSw; (try dsimp only at hSw); go_simp; try with_reducible rfl)
            try simp only [Act.put, List.setIfInBounds_toArray, List.set_cons_zero, List.set_cons_succ]
            refine uTake (i := 17) (some 11) (v := ?_) rfl rfl (by kernel_rfl) (by kernel_rfl) (by kernel_rfl) (by kernel_rfl) (fun _ _ _ h => h) (by rfl) (by assumption) ?_ ?_
            rotate_left
            · (intro wS hSw; (try dsimp only at hSw); go_simp; try with_reducible rfl)
            try simp only [Act.put, List.setIfInBounds_toArray, List.set_cons_zero, List.set_cons_succ]
            refine uDone (by kernel_rfl) ?_ _
            go_wp2_with fail
            go_meet
            exact ⟨w9.heap.size, ra, rk, rX, rc, rj, rY, rfl, rfl, rfl, Lib.hid E18.out, rL, rC⟩
          · skip
            go_simp
            have E16 : Hid (Env D w [(w8.heap.size, 25, [.slice none 0 0]), (pg, 25, [.slice pa pX.length pk]), (w4.heap.size + 1, 25, [.slice ya Y.length yk]), (w4.heap.size, 25, [.slice xa X.length xk])] [.gn (gRg zab (zao + m * 80) (spc t.s t.la t.pa)), .gn (gSp t.s t.la t.pa), .gn (gUl (.slice pc pY.length pj) pY), .gn (gUl (.slice pa pX.length pk) pX), .gn (gRg zab (zao + k * 80) (spc s.s s.la s.pa)), .gn (gSp s.s s.la s.pa), .gn (gUl (.slice ya Y.length yk) Y), .gn (gUl (.slice xa X.length xk) X), .gn (gSl (.slice (some ⟨zab, zao, none⟩) Z.length zk) Z)] _) := Lib.hid ((E15.out.push 25 [.slice none 0 0] (w8.heap.size) (by simp)))
            (try dsimp only)
            clear hHeld
            refine hKK.out _ _ (⟨((E16.out.bx 2 rfl).cell 0 rfl), (E16.out.fc 0 rfl).2⟩) (fun hHeld => ?_)
            clear hKK KK
            try simp only [Act.put, List.setIfInBounds_toArray, List.set_cons_zero, List.set_cons_succ]
            clear E15
            generalize w8.alloc (.cells #[.slice none 0 0] 25) = w9 at *
            refine uReady (rs := [9]) (by kernel_rfl) (by simp) ?_
            refine ReadyU.cons rfl (fun KK hKK => ?_) ReadyU.nil
            go_simp
            refine (put_t Y t.s (E16.out.fc 6 rfl) (E16.out.fc 1 rfl) (valid_bd HTY.out.valid) Bt.out (Nat.le_trans (valid_len HTY.out.valid) (by omega)) rQ.out).mono ?_
            rintro e w10 ⟨⟨ra, rk, rX, rc, rj, rY, rfl, r1, r2, rH, rI⟩, hb⟩
            have E17 : Hid (Env D w [(w8.heap.size, 25, [.slice none 0 0]), (pg, 25, [.slice pa pX.length pk]), (w4.heap.size + 1, 25, [.slice ya Y.length yk]), (w4.heap.size, 25, [.slice xa X.length xk])] [.gn (gUl (.slice rc rY.length rj) rY), .gn (gUl (.slice ra rX.length rk) rX), .gn (gRg zab (zao + m * 80) (spc t.s t.la t.pa)), .gn (gSp t.s t.la t.pa), .gn (gUl (.slice pc pY.length pj) pY), .gn (gUl (.slice pa pX.length pk) pX), .gn (gRg zab (zao + k * 80) (spc s.s s.la s.pa)), .gn (gSp s.s s.la s.pa), .gn (gUl (.slice ya Y.length yk) Y), .gn (gUl (.slice xa X.length xk) X), .gn (gSl (.slice (some ⟨zab, zao, none⟩) Z.length zk) Z)] w10) := Lib.hid (E16.out.got (E16.out.got (E16.out.below hb) (.gn (gUl (.slice ra rX.length rk) rX)) rH.out) (.gn (gUl (.slice rc rY.length rj) rY)) rI.out)
            clear E16 hb rH rI
            have rL := Lib.hid r1; have rC := Lib.hid r2; clear r1 r2
            (try dsimp only)
            clear hHeld
            refine hKK.out _ _ (⟨((E17.out.bx 2 rfl).cell 0 rfl), (E17.out.fc 2 rfl).2⟩) (fun hHeld => ?_)
            clear hKK KK
            try simp only [Act.put, List.setIfInBounds_toArray, List.set_cons_zero, List.set_cons_succ]
            refine uTake (i := 10) (some 51) (v := ?_) rfl rfl (by kernel_rfl) (by kernel_rfl) (by kernel_rfl) (by kernel_rfl) (fun _ _ _ h => h) (by rfl) (by assumption) ?_ ?_
            rotate_left
            · (intro wS hSw; (try dsimp only at hSw); go_simp; try with_reducible rfl)
            try simp only [Act.put, List.setIfInBounds_toArray, List.set_cons_zero, List.set_cons_succ]
            refine uTake (i := 11) (some 62) (v := ?_) rfl rfl (by kernel_rfl) (by kernel_rfl) (by kernel_rfl) (by kernel_rfl) (fun _ _ _ h => h) (by rfl) (by assumption) ?_ ?_
            rotate_left
            · (intro wS hSw; (try dsimp only at hSw); go_simp; try with_reducible rfl)
            try simp only [Act.put, List.setIfInBounds_toArray, List.set_cons_zero, List.set_cons_succ]
            refine uTake (i := 12) (some 63) (v := ?_) rfl rfl (by kernel_rfl) (by kernel_rfl) (by kernel_rfl) (by kernel_rfl) (fun _ _ _ h => h) (by rfl) (by assumption) ?_ ?_
            rotate_left
            · (intro wS hSw; (try dsimp only at hSw); go_simp; try with_reducible rfl)
            try simp only [Act.put, List.setIfInBounds_toArray, List.set_cons_zero, List.set_cons_succ]
            refine uTake (i := 13) (some 64) (v := ?_) rfl rfl (by kernel_rfl) (by kernel_rfl) (by kernel_rfl) (by kernel_rfl) (fun _ _ _ h => h) (by rfl) (by assumption) ?_ ?_
            rotate_left
            · (intro wS hSw; (try dsimp only at hSw); go_simp; try with_reducible rfl)
            try simp only [Act.put, List.setIfInBounds_toArray, List.set_cons_zero, List.set_cons_succ]
            have b2 := E17.out.bx 0 rfl
            have c2_0 := b2.cell 0 rfl
            have f2_0 := b2.frozen 0
            clear b2
            refine uReady (rs := [15]) (by kernel_rfl) (by simp) ?_
            refine ReadyU.cons rfl (fun KK hKK => ?_) ReadyU.nil
            go_simp
            have E18 : Hid (Env D w [(w8.heap.size, 25, [.slice ra rX.length rk]), (pg, 25, [.slice pa pX.length pk]), (w4.heap.size + 1, 25, [.slice ya Y.length yk]), (w4.heap.size, 25, [.slice xa X.length xk])] [.gn (gUl (.slice rc rY.length rj) rY), .gn (gUl (.slice ra rX.length rk) rX), .gn (gRg zab (zao + m * 80) (spc t.s t.la t.pa)), .gn (gSp t.s t.la t.pa), .gn (gUl (.slice pc pY.length pj) pY), .gn (gUl (.slice pa pX.length pk) pX), .gn (gRg zab (zao + k * 80) (spc s.s s.la s.pa)), .gn (gSp s.s s.la s.pa), .gn (gUl (.slice ya Y.length yk) Y), .gn (gUl (.slice xa X.length xk) X), .gn (gSl (.slice (some ⟨zab, zao, none⟩) Z.length zk) Z)] _) := Lib.hid ((E17.out.set 0 0 (.slice ra rX.length rk) rfl))
            (try dsimp only)
            clear hHeld
            refine hKK.out _ _ (⟨((E18.out.bx 2 rfl).cell 0 rfl), (E18.out.fc 2 rfl).2⟩) (fun hHeld => ?_)
            clear hKK KK
            try simp only [Act.put, List.setIfInBounds_toArray, List.set_cons_zero, List.set_cons_succ]
            refine uTake (i := 16) (some 10) (v := ?_) rfl rfl (by kernel_rfl) (by kernel_rfl) (by kernel_rfl) (by kernel_rfl) (fun _ _ _ h => h) (by rfl) (by assumption) ?_ ?_
            rotate_left
            · (intro wS hSw; (try dsimp only at hSw); go_simp; try with_reducible rfl)
            try simp only [Act.put, List.setIfInBounds_toArray, List.set_cons_zero, List.set_cons_succ]
            refine uTake (i := 17) (some 11) (v := ?_) rfl rfl (by kernel_rfl) (by kernel_rfl) (by kernel_rfl) (by kernel_rfl) (fun _ _ _ h => h) (by rfl) (by assumption) ?_ ?_
            rotate_left
            · (intro wS hSw; (try dsimp only at hSw); go_simp; try with_reducible rfl)
            try simp only [Act.put, List.setIfInBounds_toArray, List.set_cons_zero, List.set_cons_succ]
            refine uDone (by kernel_rfl) ?_ _
            go_wp2_with fail
            go_meet
            exact ⟨w8.heap.size, ra, rk, rX, rc, rj, rY, rfl, rfl, rfl, Lib.hid E18.out, rL, rC⟩
        case rest =>
          obtain ⟨rg, ra, rk, rX, rc, rj, rY, rfl, rfl, rfl, E19, rL, rC⟩ := hcut
          clear E14
          by_cases e2 : rn = 0
          · subst e2
            have e2 : (0 : Int) = 0 := rfl
            have i2 : ((0 : Int) == 0) = true := rfl
            have HTY2 : Hid (TabOf (fun t => t ∈ (Z.map Sv.s).drop ((Z.map Sv.s).length - (k + 1))) (k + 1) (rX.map Uv.u)) := Lib.hid (by have h := TabOf.drop (smap_get hml tE.out) HMS.out HK20.out HTY.out; rw [putS_yes rQ.out] at h; rw [rL.out]; exact h)
            have b3 := E19.out.bx 0 rfl
            have c3_0 := b3.cell 0 rfl
            clear b3
            have b4 := E19.out.bx 2 rfl
            have c4_0 := b4.cell 0 rfl
            have f4_0 := b4.frozen 0
            clear b4
            have E20 : Hid (Env D w [(rg, 25, [.slice ra rX.length rk]), (pg, 25, [.slice pa pX.length pk]), (w4.heap.size + 1, 25, [.slice ra rX.length rk]), (w4.heap.size, 25, [.slice xa X.length xk])] [.gn (gUl (.slice rc rY.length rj) rY), .gn (gUl (.slice ra rX.length rk) rX), .gn (gRg zab (zao + m * 80) (spc t.s t.la t.pa)), .gn (gSp t.s t.la t.pa), .gn (gUl (.slice pc pY.length pj) pY), .gn (gUl (.slice pa pX.length pk) pX), .gn (gRg zab (zao + k * 80) (spc s.s s.la s.pa)), .gn (gSp s.s s.la s.pa), .gn (gUl (.slice ya Y.length yk) Y), .gn (gUl (.slice xa X.length xk) X), .gn (gSl (.slice (some ⟨zab, zao, none⟩) Z.length zk) Z)] _) := Lib.hid ((E19.out.set 2 0 (.slice ra rX.length rk) rfl))
            have hZ := ((E20.out.drop).drop)
            have EY : Hid (Env D w [(w4.heap.size + 1, 25, [.slice ra rX.length rk]), (w4.heap.size, 25, [.slice xa X.length xk])] [.gn (gUl (.slice ra rX.length rk) rX), .gn (gUl (.slice xa X.length xk) X), .gn (gSl (.slice (some ⟨zab, zao, none⟩) Z.length zk) Z)] _) := Lib.hid ⟨hZ.bel, hZ.box, ⟨hZ.fc 1 rfl, ⟨hZ.fc 9 rfl, ⟨hZ.fc 10 rfl, trivial⟩⟩⟩⟩
            clear hZ
            go_wp2
            go_roundg (Z.length - (k + 1))
            case rel => exact ⟨k + 1, xa, xk, X, ra, rk, rX, rfl, EY, Lib.hid ⟨by omega, rfl, HTX2.out, HTY2.out⟩⟩
            case measure => exact by omega
          have i2 : (rn == 0) = false := by simpa using e2
          have HTY2 : Hid (TabOf (fun t => t ∈ (Z.map Sv.s).drop ((Z.map Sv.s).length - (k + 1))) (k + 1) (Y.map Uv.u)) := Lib.hid (by have h := TabOf.drop (smap_get hml tE.out) HMS.out HK20.out HTY.out; rw [putS_no rQ.out e2] at h; exact h)
          have hZ := ((E19.out.drop).drop)
          have EY : Hid (Env D w [(w4.heap.size + 1, 25, [.slice ya Y.length yk]), (w4.heap.size, 25, [.slice xa X.length xk])] [.gn (gUl (.slice ya Y.length yk) Y), .gn (gUl (.slice xa X.length xk) X), .gn (gSl (.slice (some ⟨zab, zao, none⟩) Z.length zk) Z)] _) := Lib.hid ⟨hZ.bel, hZ.box, ⟨hZ.fc 8 rfl, ⟨hZ.fc 9 rfl, ⟨hZ.fc 10 rfl, trivial⟩⟩⟩⟩
          clear hZ
          go_wp2
          go_roundg (Z.length - (k + 1))
          case rel => exact ⟨k + 1, xa, xk, X, ya, yk, Y, rfl, EY, Lib.hid ⟨by omega, rfl, HTX2.out, HTY2.out⟩⟩
          case measure => exact by omega
end Go.Proofs.Ytfnnfmefihiefaa

/- SpentMerges: Merge and Drop return what is specified. -/
import Derived.Test.YtfnnfmefihiefaaSpCc
import Derived.Test.YtfnnfmefihiefaaSpV
namespace Go.Proofs.Ytfnnfmefihiefaa
open Go.RowKit
set_option linter.unusedVariables false
set_option linter.unusedSimpArgs false
set_option maxRecDepth 100000 in
set_option maxHeartbeats 8000000 in
theorem SpentMerges_walk {D : Nat → Prop} (X Y : List Uv) (l : List (List Value)) (now : Int) {xa ya ra : Option Addr} {xk yk rk : Nat} {w : World} (hx : Fct.at w D (.gn (gUl (.slice xa X.length xk) X))) (hy : Fct.at w D (.gn (gUl (.slice ya Y.length yk) Y))) (hl : Fct.at w D (.rw (.slice ra l.length rk) l.length 11 l.flatten)) (hok0 : ∀ c ∈ l, okc 116 c) (wn : (Lit.int IntKind.i64 now).wf = true) :
    Calls Try.prog 7 #[.agg #[.slice xa X.length xk], .agg #[.slice ya Y.length yk], .slice ra l.length rk, .int .i64 now] w fun e w' => e = .returned (.bool true) ∧ Below w.heap.size w w' := by
  have E0 : Hid (Env D w [] [.rw (.slice ra l.length rk) l.length 11 l.flatten, .gn (gUl (.slice ya Y.length yk) Y), .gn (gUl (.slice xa X.length xk) X)] w) := Lib.hid ((((Env.start D w).arg (.gn (gUl (.slice xa X.length xk) X)) hx).arg (.gn (gUl (.slice ya Y.length yk) Y)) hy).arg (.rw (.slice ra l.length rk) l.length 11 l.flatten) hl)
  clear hx hy hl
  go_enter Try.func7, Try.ntmps7
  have hok := Lib.hid hok0
  clear hok0
  go_wp2_with fail
  have E1 : Hid (Env D w [(w.heap.size + 1, 25, [.slice ya Y.length yk]), (w.heap.size, 25, [.slice xa X.length xk])] [.rw (.slice ra l.length rk) l.length 11 l.flatten, .gn (gUl (.slice ya Y.length yk) Y), .gn (gUl (.slice xa X.length xk) X)] _) := Lib.hid (((E0.out.push 25 [.slice xa X.length xk] (w.heap.size) (by simp)).push 25 [.slice ya Y.length yk] (w.heap.size + 1) (by simp)))
  refine (awake_c (D := fun _ => True)).mono ?_
  rintro e w1 ⟨rfl, hb⟩
  have E2 : Hid (Env D w [(w.heap.size + 1, 25, [.slice ya Y.length yk]), (w.heap.size, 25, [.slice xa X.length xk])] [.rw (.slice ra l.length rk) l.length 11 l.flatten, .gn (gUl (.slice ya Y.length yk) Y), .gn (gUl (.slice xa X.length xk) X)] w1) := Lib.hid (E1.out.below hb)
  clear E0 E1 hb
  obtain ⟨gx, gxh⟩ : ∃ t, (decide (40 < (X.map Uv.u).length) || (X.map Uv.u).any (fun x => longS x.sp)) = t := ⟨_, rfl⟩
  have gxH := Lib.hid gxh
  clear gxh
  obtain ⟨gy, gyh⟩ : ∃ t, (decide (40 < (Y.map Uv.u).length) || (Y.map Uv.u).any (fun x => longS x.sp)) = t := ⟨_, rfl⟩
  have gyH := Lib.hid gyh
  clear gyh
  cases gx with
  | true =>
    have b1 := E2.out.bx 1 rfl
    have c1_0 := b1.cell 0 rfl
    clear b1
    go_wp2_with fail
    refine (greatw_c X (E2.out.fc 2 rfl) (t := true) gxH.out).mono ?_
    rintro e w2 ⟨rfl, hb⟩
    have E3 : Hid (Env D w [(w.heap.size + 1, 25, [.slice ya Y.length yk]), (w.heap.size, 25, [.slice xa X.length xk])] [.rw (.slice ra l.length rk) l.length 11 l.flatten, .gn (gUl (.slice ya Y.length yk) Y), .gn (gUl (.slice xa X.length xk) X)] w2) := Lib.hid (E2.out.below hb)
    clear c1_0 E2 hb
    have hfin := Lib.hid E3.out.bel
    go_wp2
    go_ret
    exact ⟨rfl, hfin.out⟩
  | false =>
    cases gy with
    | true =>
      have b1 := E2.out.bx 1 rfl
      have c1_0 := b1.cell 0 rfl
      clear b1
      go_wp2_with fail
      refine (greatw_c X (E2.out.fc 2 rfl) (t := false) gxH.out).mono ?_
      rintro e w2 ⟨rfl, hb⟩
      have E3 : Hid (Env D w [(w.heap.size + 1, 25, [.slice ya Y.length yk]), (w.heap.size, 25, [.slice xa X.length xk])] [.rw (.slice ra l.length rk) l.length 11 l.flatten, .gn (gUl (.slice ya Y.length yk) Y), .gn (gUl (.slice xa X.length xk) X)] w2) := Lib.hid (E2.out.below hb)
      clear c1_0 E2 hb
      have b2 := E3.out.bx 0 rfl
      have c2_0 := b2.cell 0 rfl
      clear b2
      go_wp2_with fail
      refine (greatw_c Y (E3.out.fc 1 rfl) (t := true) gyH.out).mono ?_
      rintro e w3 ⟨rfl, hb⟩
      have E4 : Hid (Env D w [(w.heap.size + 1, 25, [.slice ya Y.length yk]), (w.heap.size, 25, [.slice xa X.length xk])] [.rw (.slice ra l.length rk) l.length 11 l.flatten, .gn (gUl (.slice ya Y.length yk) Y), .gn (gUl (.slice xa X.length xk) X)] w3) := Lib.hid (E3.out.below hb)
      clear c2_0 E3 hb
      have hfin := Lib.hid E4.out.bel
      go_wp2
      go_ret
      exact ⟨rfl, hfin.out⟩
    | false =>
      by_cases q1 : 100 < l.length
      rotate_left
      · have d1 : decide ((100 : Int) < (l.length : Int)) = false := decide_eq_false (by omega)
        have d1b : decide (100 < l.length) = false := decide_eq_false q1
        have HQ1 := Lib.hid q1
        clear q1
        have b1 := E2.out.bx 1 rfl
        have c1_0 := b1.cell 0 rfl
        clear b1
        go_wp2_with fail
        refine (greatw_c X (E2.out.fc 2 rfl) (t := false) gxH.out).mono ?_
        rintro e w2 ⟨rfl, hb⟩
        have E3 : Hid (Env D w [(w.heap.size + 1, 25, [.slice ya Y.length yk]), (w.heap.size, 25, [.slice xa X.length xk])] [.rw (.slice ra l.length rk) l.length 11 l.flatten, .gn (gUl (.slice ya Y.length yk) Y), .gn (gUl (.slice xa X.length xk) X)] w2) := Lib.hid (E2.out.below hb)
        clear c1_0 E2 hb
        have b2 := E3.out.bx 0 rfl
        have c2_0 := b2.cell 0 rfl
        clear b2
        go_wp2_with fail
        refine (greatw_c Y (E3.out.fc 1 rfl) (t := false) gyH.out).mono ?_
        rintro e w3 ⟨rfl, hb⟩
        have E4 : Hid (Env D w [(w.heap.size + 1, 25, [.slice ya Y.length yk]), (w.heap.size, 25, [.slice xa X.length xk])] [.rw (.slice ra l.length rk) l.length 11 l.flatten, .gn (gUl (.slice ya Y.length yk) Y), .gn (gUl (.slice xa X.length xk) X)] w3) := Lib.hid (E3.out.below hb)
        clear c2_0 E3 hb
        have HBX0 : Hid ((X.map Uv.u).length ≤ 40 ∧ ∀ u ∈ X.map Uv.u, u.sp.lv.length ≤ 40 ∧ u.sp.pa.length ≤ 30) := Lib.hid (great_no gxH.out)
        have HBY0 : Hid ((Y.map Uv.u).length ≤ 40 ∧ ∀ u ∈ Y.map Uv.u, u.sp.lv.length ≤ 40 ∧ u.sp.pa.length ≤ 30) := Lib.hid (great_no gyH.out)
        have HUX : Hid (∀ u ∈ X.map Uv.u, Bd u) := Lib.hid (fun u hu => by have h := HBX0.out.2 u hu; unfold Bd; omega)
        have HBX : Hid (∀ x ∈ X, x.u.sp.lv.length ≤ 1000000 ∧ x.u.sp.pa.length ≤ 1000000) := Lib.hid (Bd.of HUX.out rfl)
        have HLX : Hid (X.length ≤ 40) := Lib.hid (by have h := HBX0.out.1; rwa [List.length_map] at h)
        have HUY : Hid (∀ u ∈ Y.map Uv.u, Bd u) := Lib.hid (fun u hu => by have h := HBY0.out.2 u hu; unfold Bd; omega)
        have HBY : Hid (∀ x ∈ Y, x.u.sp.lv.length ≤ 1000000 ∧ x.u.sp.pa.length ≤ 1000000) := Lib.hid (Bd.of HUY.out rfl)
        have HLY : Hid (Y.length ≤ 40) := Lib.hid (by have h := HBY0.out.1; rwa [List.length_map] at h)
        obtain ⟨L, C, n, hr⟩ : ∃ L C n, mergeRes (X.map Uv.u) (Y.map Uv.u) = (L, C, n) := ⟨_, _, _, rfl⟩
        have HR := Lib.hid hr
        have HPB := Lib.hid (mergeRes_bd HUX.out HUY.out hr)
        clear hr
        have HLC : Hid (L.length ≤ 1000000 ∧ C.length ≤ 1000000) := Lib.hid (by have h1 := HPB.out.2.2; have h2 := HBX0.out.1; have h3 := HBY0.out.1; omega)
        have b3 := E4.out.bx 1 rfl
        have c3_0 := b3.cell 0 rfl
        clear b3
        have b4 := E4.out.bx 0 rfl
        have c4_0 := b4.cell 0 rfl
        clear b4
        go_wp2_with fail
        refine (merge_c X Y (E4.out.fc 2 rfl) (E4.out.fc 1 rfl) HBX.out HBY.out ⟨Nat.le_trans HLX.out (by omega), Nat.le_trans HLY.out (by omega)⟩ HR.out).mono ?_
        rintro e w4 ⟨⟨da, dk, dX, dc, dj, dY, rfl, d1, d2, dH, dI⟩, hb⟩
        have E5 : Hid (Env D w [(w.heap.size + 1, 25, [.slice ya Y.length yk]), (w.heap.size, 25, [.slice xa X.length xk])] [.gn (gPl (.slice dc dY.length dj) dY), .gn (gUl (.slice da dX.length dk) dX), .rw (.slice ra l.length rk) l.length 11 l.flatten, .gn (gUl (.slice ya Y.length yk) Y), .gn (gUl (.slice xa X.length xk) X)] w4) := Lib.hid (E4.out.got (E4.out.got (E4.out.below hb) (.gn (gUl (.slice da dX.length dk) dX)) dH.out) (.gn (gPl (.slice dc dY.length dj) dY)) dI.out)
        clear c3_0 c4_0 E4 hb dH dI
        have dL := Lib.hid d1; have dC := Lib.hid d2; clear d1 d2
        have E6 : Hid (Env D w [(w4.heap.size, 25, [.slice da dX.length dk]), (w.heap.size + 1, 25, [.slice ya Y.length yk]), (w.heap.size, 25, [.slice xa X.length xk])] [.gn (gPl (.slice dc dY.length dj) dY), .gn (gUl (.slice da dX.length dk) dX), .rw (.slice ra l.length rk) l.length 11 l.flatten, .gn (gUl (.slice ya Y.length yk) Y), .gn (gUl (.slice xa X.length xk) X)] _) := Lib.hid ((E5.out.push 25 [.slice da dX.length dk] (w4.heap.size) (by simp)))
        have b5 := E6.out.bx 2 rfl
        have c5_0 := b5.cell 0 rfl
        clear b5
        have b6 := E6.out.bx 1 rfl
        have c6_0 := b6.cell 0 rfl
        clear b6
        go_wp2_with fail
        refine (rmerge_c X Y (E6.out.fc 4 rfl) (E6.out.fc 3 rfl) HBX.out HBY.out ⟨Nat.le_trans HLX.out (by omega), Nat.le_trans HLY.out (by omega)⟩ HR.out).mono ?_
        rintro e w5 ⟨⟨sa, sk, sX, sc, sj, sY, rfl, s1, s2, sH, sI⟩, hb⟩
        have E7 : Hid (Env D w [(w4.heap.size, 25, [.slice da dX.length dk]), (w.heap.size + 1, 25, [.slice ya Y.length yk]), (w.heap.size, 25, [.slice xa X.length xk])] [.gn (gPl (.slice sc sY.length sj) sY), .gn (gUl (.slice sa sX.length sk) sX), .gn (gPl (.slice dc dY.length dj) dY), .gn (gUl (.slice da dX.length dk) dX), .rw (.slice ra l.length rk) l.length 11 l.flatten, .gn (gUl (.slice ya Y.length yk) Y), .gn (gUl (.slice xa X.length xk) X)] w5) := Lib.hid (E6.out.got (E6.out.got (E6.out.below hb) (.gn (gUl (.slice sa sX.length sk) sX)) sH.out) (.gn (gPl (.slice sc sY.length sj) sY)) sI.out)
        clear c5_0 c6_0 E5 E6 hb sH sI
        have sL := Lib.hid s1; have sC := Lib.hid s2; clear s1 s2
        have hce : dY.length = sY.length := by rw [pmap_len dC.out, pmap_len sC.out]
        have hne1 : ((dY.length : Int) != (sY.length : Int)) = false := by rw [hce]; simp
        have hne2 : (dY.length != sY.length) = false := by rw [hce]; simp
        have HCE := Lib.hid hce
        have HDY : Hid (dY.length ≤ 1000000) := Lib.hid (by rw [pmap_len dC.out]; exact HLC.out.2)
        clear hce
        have E8 : Hid (Env D w [(w5.heap.size, 25, [.slice sa sX.length sk]), (w4.heap.size, 25, [.slice da dX.length dk]), (w.heap.size + 1, 25, [.slice ya Y.length yk]), (w.heap.size, 25, [.slice xa X.length xk])] [.gn (gPl (.slice sc sY.length sj) sY), .gn (gUl (.slice sa sX.length sk) sX), .gn (gPl (.slice dc dY.length dj) dY), .gn (gUl (.slice da dX.length dk) dX), .rw (.slice ra l.length rk) l.length 11 l.flatten, .gn (gUl (.slice ya Y.length yk) Y), .gn (gUl (.slice xa X.length xk) X)] _) := Lib.hid ((E7.out.push 25 [.slice sa sX.length sk] (w5.heap.size) (by simp)))
        have b7 := E8.out.bx 1 rfl
        have c7_0 := b7.cell 0 rfl
        clear b7
        have b8 := E8.out.bx 0 rfl
        have c8_0 := b8.cell 0 rfl
        clear b8
        go_wp2_with fail
        refine (rsame_c dX sX (E8.out.fc 3 rfl) (E8.out.fc 1 rfl) (Bd.of HPB.out.1 dL.out) (Bd.of HPB.out.1 sL.out) ⟨by rw [map_len dL.out]; exact HLC.out.1, by rw [map_len sL.out]; exact HLC.out.1⟩ (t := true) ⟨fun _ => dL.out.trans sL.out.symm, fun _ => rfl⟩).mono ?_
        rintro e w6 ⟨rfl, hb⟩
        have E9 : Hid (Env D w [(w5.heap.size, 25, [.slice sa sX.length sk]), (w4.heap.size, 25, [.slice da dX.length dk]), (w.heap.size + 1, 25, [.slice ya Y.length yk]), (w.heap.size, 25, [.slice xa X.length xk])] [.gn (gPl (.slice sc sY.length sj) sY), .gn (gUl (.slice sa sX.length sk) sX), .gn (gPl (.slice dc dY.length dj) dY), .gn (gUl (.slice da dX.length dk) dX), .rw (.slice ra l.length rk) l.length 11 l.flatten, .gn (gUl (.slice ya Y.length yk) Y), .gn (gUl (.slice xa X.length xk) X)] w6) := Lib.hid (E8.out.below hb)
        clear c7_0 c8_0 E7 E8 hb
        have hm9 := HDY.out
        go_wp2_with fail
        go_loopg [74] (dY.length) (fun gk s74 wr => ∃ (k : Nat), s74 = .int .i64 (k : Int) ∧ Hid (Env D w [(w5.heap.size, 25, [.slice sa sX.length sk]), (w4.heap.size, 25, [.slice da dX.length dk]), (w.heap.size + 1, 25, [.slice ya Y.length yk]), (w.heap.size, 25, [.slice xa X.length xk])] [.gn (gPl (.slice sc sY.length sj) sY), .gn (gUl (.slice sa sX.length sk) sX), .gn (gPl (.slice dc dY.length dj) dY), .gn (gUl (.slice da dX.length dk) dX), .rw (.slice ra l.length rk) l.length 11 l.flatten, .gn (gUl (.slice ya Y.length yk) Y), .gn (gUl (.slice xa X.length xk) X)] wr) ∧ Hid (k ≤ dY.length ∧ gk = dY.length - k))
        case atStart => exact ⟨0, rfl, Lib.hid E9.out, Lib.hid ⟨Nat.zero_le _, rfl⟩⟩
        case round =>
          clear E9 hne1 hne2
          obtain ⟨k, rfl, EL, HA⟩ := hrel
          obtain ⟨a1, a2⟩ := HA.out
          clear HA
          by_cases hy : k = dY.length
          · skip
            have t6 : decide ((k : Int) < (dY.length : Int)) = false := decide_eq_false (by omega)
            have t7 : decide (k < dY.length) = false := decide_eq_false (by omega)
            have HYY := Lib.hid hy
            clear hy
            obtain ⟨P, m, o, hd⟩ : ∃ P m o, dropRes (X.map Uv.u) l now = (P, m, o) := ⟨_, _, _, rfl⟩
            have HD := Lib.hid hd
            have HDB := Lib.hid (dropRes_bd HUX.out hd)
            clear hd
            have HPL : Hid (P.length ≤ 1000000) := Lib.hid (by have h1 := HDB.out.2; have h2 := HBX0.out.1; omega)
            have b9 := EL.out.bx 3 rfl
            have c9_0 := b9.cell 0 rfl
            clear b9
            go_wp2_with fail
            refine (drop_c X l now (EL.out.fc 6 rfl) (EL.out.fc 4 rfl) HBX.out hok.out (Nat.le_trans HLX.out (by omega)) HD.out).mono ?_
            rintro e w7 ⟨⟨pa, pk, pX, rfl, p1, pH⟩, hb⟩
            have E10 : Hid (Env D w [(w5.heap.size, 25, [.slice sa sX.length sk]), (w4.heap.size, 25, [.slice da dX.length dk]), (w.heap.size + 1, 25, [.slice ya Y.length yk]), (w.heap.size, 25, [.slice xa X.length xk])] [.gn (gUl (.slice pa pX.length pk) pX), .gn (gPl (.slice sc sY.length sj) sY), .gn (gUl (.slice sa sX.length sk) sX), .gn (gPl (.slice dc dY.length dj) dY), .gn (gUl (.slice da dX.length dk) dX), .rw (.slice ra l.length rk) l.length 11 l.flatten, .gn (gUl (.slice ya Y.length yk) Y), .gn (gUl (.slice xa X.length xk) X)] w7) := Lib.hid (EL.out.got (EL.out.below hb) (.gn (gUl (.slice pa pX.length pk) pX)) pH.out)
            clear c9_0 EL hb pH
            have pL := Lib.hid p1; clear p1
            have E11 : Hid (Env D w [(w7.heap.size, 25, [.slice pa pX.length pk]), (w5.heap.size, 25, [.slice sa sX.length sk]), (w4.heap.size, 25, [.slice da dX.length dk]), (w.heap.size + 1, 25, [.slice ya Y.length yk]), (w.heap.size, 25, [.slice xa X.length xk])] [.gn (gUl (.slice pa pX.length pk) pX), .gn (gPl (.slice sc sY.length sj) sY), .gn (gUl (.slice sa sX.length sk) sX), .gn (gPl (.slice dc dY.length dj) dY), .gn (gUl (.slice da dX.length dk) dX), .rw (.slice ra l.length rk) l.length 11 l.flatten, .gn (gUl (.slice ya Y.length yk) Y), .gn (gUl (.slice xa X.length xk) X)] _) := Lib.hid ((E10.out.push 25 [.slice pa pX.length pk] (w7.heap.size) (by simp)))
            have b10 := E11.out.bx 4 rfl
            have c10_0 := b10.cell 0 rfl
            clear b10
            go_wp2_with fail
            refine (rdrop_c X l now (E11.out.fc 7 rfl) (E11.out.fc 5 rfl) HBX.out hok.out (Nat.le_trans HLX.out (by omega)) HD.out).mono ?_
            rintro e w8 ⟨⟨qa, qk, qX, rfl, q1, qH⟩, hb⟩
            have E12 : Hid (Env D w [(w7.heap.size, 25, [.slice pa pX.length pk]), (w5.heap.size, 25, [.slice sa sX.length sk]), (w4.heap.size, 25, [.slice da dX.length dk]), (w.heap.size + 1, 25, [.slice ya Y.length yk]), (w.heap.size, 25, [.slice xa X.length xk])] [.gn (gUl (.slice qa qX.length qk) qX), .gn (gUl (.slice pa pX.length pk) pX), .gn (gPl (.slice sc sY.length sj) sY), .gn (gUl (.slice sa sX.length sk) sX), .gn (gPl (.slice dc dY.length dj) dY), .gn (gUl (.slice da dX.length dk) dX), .rw (.slice ra l.length rk) l.length 11 l.flatten, .gn (gUl (.slice ya Y.length yk) Y), .gn (gUl (.slice xa X.length xk) X)] w8) := Lib.hid (E11.out.got (E11.out.below hb) (.gn (gUl (.slice qa qX.length qk) qX)) qH.out)
            clear c10_0 E10 E11 hb qH
            have qL := Lib.hid q1; clear q1
            have E13 : Hid (Env D w [(w8.heap.size, 25, [.slice qa qX.length qk]), (w7.heap.size, 25, [.slice pa pX.length pk]), (w5.heap.size, 25, [.slice sa sX.length sk]), (w4.heap.size, 25, [.slice da dX.length dk]), (w.heap.size + 1, 25, [.slice ya Y.length yk]), (w.heap.size, 25, [.slice xa X.length xk])] [.gn (gUl (.slice qa qX.length qk) qX), .gn (gUl (.slice pa pX.length pk) pX), .gn (gPl (.slice sc sY.length sj) sY), .gn (gUl (.slice sa sX.length sk) sX), .gn (gPl (.slice dc dY.length dj) dY), .gn (gUl (.slice da dX.length dk) dX), .rw (.slice ra l.length rk) l.length 11 l.flatten, .gn (gUl (.slice ya Y.length yk) Y), .gn (gUl (.slice xa X.length xk) X)] _) := Lib.hid ((E12.out.push 25 [.slice qa qX.length qk] (w8.heap.size) (by simp)))
            have b11 := E13.out.bx 1 rfl
            have c11_0 := b11.cell 0 rfl
            clear b11
            have b12 := E13.out.bx 0 rfl
            have c12_0 := b12.cell 0 rfl
            clear b12
            go_wp2_with fail
            refine (rsame_c pX qX (E13.out.fc 1 rfl) (E13.out.fc 0 rfl) (Bd.of HDB.out.1 pL.out) (Bd.of HDB.out.1 qL.out) ⟨by rw [map_len pL.out]; exact HPL.out, by rw [map_len qL.out]; exact HPL.out⟩ (t := true) ⟨fun _ => pL.out.trans qL.out.symm, fun _ => rfl⟩).mono ?_
            rintro e w9 ⟨rfl, hb⟩
            have E14 : Hid (Env D w [(w8.heap.size, 25, [.slice qa qX.length qk]), (w7.heap.size, 25, [.slice pa pX.length pk]), (w5.heap.size, 25, [.slice sa sX.length sk]), (w4.heap.size, 25, [.slice da dX.length dk]), (w.heap.size + 1, 25, [.slice ya Y.length yk]), (w.heap.size, 25, [.slice xa X.length xk])] [.gn (gUl (.slice qa qX.length qk) qX), .gn (gUl (.slice pa pX.length pk) pX), .gn (gPl (.slice sc sY.length sj) sY), .gn (gUl (.slice sa sX.length sk) sX), .gn (gPl (.slice dc dY.length dj) dY), .gn (gUl (.slice da dX.length dk) dX), .rw (.slice ra l.length rk) l.length 11 l.flatten, .gn (gUl (.slice ya Y.length yk) Y), .gn (gUl (.slice xa X.length xk) X)] w9) := Lib.hid (E13.out.below hb)
            clear c11_0 c12_0 E12 E13 hb
            have hfin := Lib.hid E14.out.bel
            go_wp2
            go_ret
            exact ⟨rfl, hfin.out⟩
          have hk : k < dY.length := lt_of hy a1
          have hk2 : k < sY.length := by have := HCE.out; omega
          have t6 : decide ((k : Int) < (dY.length : Int)) = true := decide_eq_true (by omega)
          have t7 : decide (k < dY.length) = true := decide_eq_true (by omega)
          have hkI : (k : Int) < (dY.length : Int) := by omega
          have hkJ : (k : Int) < (sY.length : Int) := by omega
          clear hy
          go_upto_region 12 with (fail)
          obtain ⟨ub, uo, rfl⟩ := gPl.addr (EL.out.fc 2 rfl) (List.ne_nil_of_length_pos (Nat.lt_of_le_of_lt (Nat.zero_le _) hk))
          obtain ⟨⟨ux, uy⟩, ue⟩ : ∃ x, dY[k] = x := ⟨_, rfl⟩
          have uE := Lib.hid ue
          clear ue
          have E10 : Hid (Env D w [(w5.heap.size, 25, [.slice sa sX.length sk]), (w4.heap.size, 25, [.slice da dX.length dk]), (w.heap.size + 1, 25, [.slice ya Y.length yk]), (w.heap.size, 25, [.slice xa X.length xk])] [.gn (gRg ub (uo + k * 166) (usc ux.u ux.la ux.pa)), .gn (gSp ux.u.sp ux.la ux.pa), .gn (gRg ub (uo + k * 166 + 83) (usc uy.u uy.la uy.pa)), .gn (gSp uy.u.sp uy.la uy.pa), .gn (gPl (.slice sc sY.length sj) sY), .gn (gUl (.slice sa sX.length sk) sX), .gn (gPl (.slice (some ⟨ub, uo, none⟩) dY.length dj) dY), .gn (gUl (.slice da dX.length dk) dX), .rw (.slice ra l.length rk) l.length 11 l.flatten, .gn (gUl (.slice ya Y.length yk) Y), .gn (gUl (.slice xa X.length xk) X)] _) := Lib.hid (EL.out.elP 2 rfl hk uE.out)
          clear EL
          have uxS := Lib.hid (E10.out.spOk 1 rfl)
          have uyS := Lib.hid (E10.out.spOk 3 rfl)
          obtain ⟨vb, vo, rfl⟩ := gPl.addr (E10.out.fc 4 rfl) (List.ne_nil_of_length_pos (Nat.lt_of_le_of_lt (Nat.zero_le _) hk2))
          obtain ⟨⟨vx, vy⟩, ve⟩ : ∃ x, sY[k] = x := ⟨_, rfl⟩
          have vE := Lib.hid ve
          clear ve
          have E11 : Hid (Env D w [(w5.heap.size, 25, [.slice sa sX.length sk]), (w4.heap.size, 25, [.slice da dX.length dk]), (w.heap.size + 1, 25, [.slice ya Y.length yk]), (w.heap.size, 25, [.slice xa X.length xk])] [.gn (gRg vb (vo + k * 166) (usc vx.u vx.la vx.pa)), .gn (gSp vx.u.sp vx.la vx.pa), .gn (gRg vb (vo + k * 166 + 83) (usc vy.u vy.la vy.pa)), .gn (gSp vy.u.sp vy.la vy.pa), .gn (gRg ub (uo + k * 166) (usc ux.u ux.la ux.pa)), .gn (gSp ux.u.sp ux.la ux.pa), .gn (gRg ub (uo + k * 166 + 83) (usc uy.u uy.la uy.pa)), .gn (gSp uy.u.sp uy.la uy.pa), .gn (gPl (.slice (some ⟨vb, vo, none⟩) sY.length sj) sY), .gn (gUl (.slice sa sX.length sk) sX), .gn (gPl (.slice (some ⟨ub, uo, none⟩) dY.length dj) dY), .gn (gUl (.slice da dX.length dk) dX), .rw (.slice ra l.length rk) l.length 11 l.flatten, .gn (gUl (.slice ya Y.length yk) Y), .gn (gUl (.slice xa X.length xk) X)] _) := Lib.hid (E10.out.elP 4 rfl hk2 vE.out)
          clear E10
          have vxS := Lib.hid (E11.out.spOk 1 rfl)
          have vyS := Lib.hid (E11.out.spOk 3 rfl)
          have HEQ : Hid (ux.u = vx.u ∧ uy.u = vy.u) := Lib.hid (by have h1 := pmap_get hk uE.out; have h2 := pmap_get hk2 vE.out; rw [dC.out] at h1; rw [sC.out, h1] at h2; have h3 := Option.some.inj h2; simp only [Prod.mk.injEq] at h3; exact h3)
          have Bu : Hid (Bd ux.u ∧ Bd uy.u) := Lib.hid (by have h1 := pmap_get hk uE.out; rw [dC.out] at h1; exact HPB.out.2.1 _ (List.mem_of_getElem? h1))
          have Bv : Hid (Bd vx.u ∧ Bd vy.u) := Lib.hid (by have h1 := pmap_get hk2 vE.out; rw [sC.out] at h1; exact HPB.out.2.1 _ (List.mem_of_getElem? h1))
          go_wp2_with fail
          have E12 : Hid (Env D w [(w5.heap.size, 25, [.slice sa sX.length sk]), (w4.heap.size, 25, [.slice da dX.length dk]), (w.heap.size + 1, 25, [.slice ya Y.length yk]), (w.heap.size, 25, [.slice xa X.length xk])] [.gn (gRg vb (vo + k * 166) (usc vx.u vx.la vx.pa)), .gn (gSp vx.u.sp vx.la vx.pa), .gn (gRg vb (vo + k * 166 + 83) (usc vy.u vy.la vy.pa)), .gn (gSp vy.u.sp vy.la vy.pa), .gn (gRg ub (uo + k * 166) (usc ux.u ux.la ux.pa)), .gn (gSp ux.u.sp ux.la ux.pa), .gn (gRg ub (uo + k * 166 + 83) (usc uy.u uy.la uy.pa)), .gn (gSp uy.u.sp uy.la uy.pa), .gn (gPl (.slice (some ⟨vb, vo, none⟩) sY.length sj) sY), .gn (gUl (.slice sa sX.length sk) sX), .gn (gPl (.slice (some ⟨ub, uo, none⟩) dY.length dj) dY), .gn (gUl (.slice da dX.length dk) dX), .rw (.slice ra l.length rk) l.length 11 l.flatten, .gn (gUl (.slice ya Y.length yk) Y), .gn (gUl (.slice xa X.length xk) X)] (wr.drew)) := Lib.hid E11.out.drew
          clear E11
          refine wp_regionU (S := fun w' => w'.rangeAt ub (uo + k * 166) (usc ux.u ux.la ux.pa) ∧ w'.rangeAt vb (vo + k * 166) (usc vx.u vx.la vx.pa) ∧ w'.rangeAt ub (uo + k * 166 + 83) (usc uy.u uy.la uy.pa) ∧ w'.rangeAt vb (vo + k * 166 + 83) (usc vy.u vy.la vy.pa)) [] (by kernel_rfl) (⟨(E12.out.fc 4 rfl).2, (E12.out.fc 0 rfl).2, (E12.out.fc 6 rfl).2, (E12.out.fc 2 rfl).2⟩) (fun hHeld => ?_)
          generalize wr.drew = w7 at *
          refine uTake (i := 0) (some 77) (v := ?_) rfl rfl (by kernel_rfl) (by kernel_rfl) (by kernel_rfl) (by kernel_rfl) (fun _ _ _ h => h) (by rfl) (by assumption) ?_ ?_
          rotate_left
          · (intro wS hSw; (try dsimp only at hSw); go_simp; try with_reducible rfl)
          try simp only [Act.put, List.setIfInBounds_toArray, List.set_cons_zero, List.set_cons_succ]
          refine uTake (i := 1) (some 78) (v := ?_) rfl rfl (by kernel_rfl) (by kernel_rfl) (by kernel_rfl) (by kernel_rfl) (fun _ _ _ h => h) (by rfl) (by assumption) ?_ ?_
          rotate_left
          · (intro wS hSw; (try dsimp only at hSw); go_simp; try with_reducible rfl)
          try simp only [Act.put, List.setIfInBounds_toArray, List.set_cons_zero, List.set_cons_succ]
          refine uTake (i := 2) (some 79) (v := ?_) rfl rfl (by kernel_rfl) (by kernel_rfl) (by kernel_rfl) (by kernel_rfl) (fun _ _ _ h => h) (by rfl) (by assumption) ?_ ?_
          rotate_left
          · (intro wS hSw; (try dsimp only at hSw); go_simp; try with_reducible rfl)
          try simp only [Act.put, List.setIfInBounds_toArray, List.set_cons_zero, List.set_cons_succ]
          refine uTake (i := 3) (some 80) (v := ?_) rfl rfl (by kernel_rfl) (by kernel_rfl) (by kernel_rfl) (by kernel_rfl) (fun _ _ _ h => h) (by rfl) (by assumption) ?_ ?_
          rotate_left
          · (intro wS hSw; (try dsimp only at hSw); go_simp; try with_reducible rfl)
          try simp only [Act.put, List.setIfInBounds_toArray, List.set_cons_zero, List.set_cons_succ]
          refine uTake (i := 4) (some 81) (v := .agg (usc ux.u ux.la ux.pa).toArray) rfl rfl (by kernel_rfl) (by kernel_rfl) (by kernel_rfl) (by kernel_rfl) (fun _ _ _ h => h) (by rfl) (by assumption) ?_ ?_
          · (intro wS hSw; (try dsimp only at hSw); revert hSw; (try simp only [and_imp]); intros; exact exec_load_b bUse _ rfl ub (uo + k * 166) rfl (usc ux.u ux.la ux.pa) (usc_len uxS.out _ _) (by assumption))
          try simp only [Act.put, List.setIfInBounds_toArray, List.set_cons_zero, List.set_cons_succ]
          refine uTake (i := 5) (some 82) (v := ?_) rfl rfl (by kernel_rfl) (by kernel_rfl) (by kernel_rfl) (by kernel_rfl) (fun _ _ _ h => h) (by rfl) (by assumption) ?_ ?_
          rotate_left
          · (intro wS hSw; (try dsimp only at hSw); go_simp; try with_reducible rfl)
          try simp only [Act.put, List.setIfInBounds_toArray, List.set_cons_zero, List.set_cons_succ]
          refine uTake (i := 6) (some 83) (v := ?_) rfl rfl (by kernel_rfl) (by kernel_rfl) (by kernel_rfl) (by kernel_rfl) (fun _ _ _ h => h) (by rfl) (by assumption) ?_ ?_
          rotate_left
          · (intro wS hSw; (try dsimp only at hSw); go_simp; try with_reducible rfl)
          try simp only [Act.put, List.setIfInBounds_toArray, List.set_cons_zero, List.set_cons_succ]
          refine uTake (i := 7) (some 84) (v := ?_) rfl rfl (by kernel_rfl) (by kernel_rfl) (by kernel_rfl) (by kernel_rfl) (fun _ _ _ h => h) (by rfl) (by assumption) ?_ ?_
          rotate_left
          · (intro wS hSw; (try dsimp only at hSw); go_simp; try with_reducible rfl)
          try simp only [Act.put, List.setIfInBounds_toArray, List.set_cons_zero, List.set_cons_succ]
          refine uTake (i := 8) (some 85) (v := ?_) rfl rfl (by kernel_rfl) (by kernel_rfl) (by kernel_rfl) (by kernel_rfl) (fun _ _ _ h => h) (by rfl) (by assumption) ?_ ?_
          rotate_left
          · (intro wS hSw; (try dsimp only at hSw); go_simp; try with_reducible rfl)
          try simp only [Act.put, List.setIfInBounds_toArray, List.set_cons_zero, List.set_cons_succ]
          refine uTake (i := 9) (some 86) (v := .agg (usc vx.u vx.la vx.pa).toArray) rfl rfl (by kernel_rfl) (by kernel_rfl) (by kernel_rfl) (by kernel_rfl) (fun _ _ _ h => h) (by rfl) (by assumption) ?_ ?_
          · (intro wS hSw; (try dsimp only at hSw); revert hSw; (try simp only [and_imp]); intros; exact exec_load_b bUse _ rfl vb (vo + k * 166) rfl (usc vx.u vx.la vx.pa) (usc_len vxS.out _ _) (by assumption))
          try simp only [Act.put, List.setIfInBounds_toArray, List.set_cons_zero, List.set_cons_succ]
          refine uReady (rs := [10]) (by kernel_rfl) (by simp) ?_
          refine ReadyU.cons rfl (fun KK hKK => ?_) ReadyU.nil
          go_simp
          refine (sameu_c ux.u vx.u (E12.out.fc 5 rfl) (E12.out.fc 1 rfl) Bu.out.1 Bv.out.1 (t := true) ⟨fun _ => HEQ.out.1, fun _ => rfl⟩).mono ?_
          rintro e w8 ⟨rfl, hb⟩
          have E13 : Hid (Env D w [(w5.heap.size, 25, [.slice sa sX.length sk]), (w4.heap.size, 25, [.slice da dX.length dk]), (w.heap.size + 1, 25, [.slice ya Y.length yk]), (w.heap.size, 25, [.slice xa X.length xk])] [.gn (gRg vb (vo + k * 166) (usc vx.u vx.la vx.pa)), .gn (gSp vx.u.sp vx.la vx.pa), .gn (gRg vb (vo + k * 166 + 83) (usc vy.u vy.la vy.pa)), .gn (gSp vy.u.sp vy.la vy.pa), .gn (gRg ub (uo + k * 166) (usc ux.u ux.la ux.pa)), .gn (gSp ux.u.sp ux.la ux.pa), .gn (gRg ub (uo + k * 166 + 83) (usc uy.u uy.la uy.pa)), .gn (gSp uy.u.sp uy.la uy.pa), .gn (gPl (.slice (some ⟨vb, vo, none⟩) sY.length sj) sY), .gn (gUl (.slice sa sX.length sk) sX), .gn (gPl (.slice (some ⟨ub, uo, none⟩) dY.length dj) dY), .gn (gUl (.slice da dX.length dk) dX), .rw (.slice ra l.length rk) l.length 11 l.flatten, .gn (gUl (.slice ya Y.length yk) Y), .gn (gUl (.slice xa X.length xk) X)] w8) := Lib.hid (E12.out.below hb)
          clear E12 hb
          (try dsimp only)
          clear hHeld
          refine hKK.out _ _ (⟨(E13.out.fc 4 rfl).2, (E13.out.fc 0 rfl).2, (E13.out.fc 6 rfl).2, (E13.out.fc 2 rfl).2⟩) (fun hHeld => ?_)
          clear hKK KK
          try simp only [Act.put, List.setIfInBounds_toArray, List.set_cons_zero, List.set_cons_succ]
          refine uTake (i := 11) (some 88) (v := ?_) rfl rfl (by kernel_rfl) (by kernel_rfl) (by kernel_rfl) (by kernel_rfl) (fun _ _ _ h => h) (by rfl) (by assumption) ?_ ?_
          rotate_left
          · (intro wS hSw; (try dsimp only at hSw); go_simp; try with_reducible rfl)
          try simp only [Act.put, List.setIfInBounds_toArray, List.set_cons_zero, List.set_cons_succ]
          refine uTake (i := 12) (some 89) (v := ?_) rfl rfl (by kernel_rfl) (by kernel_rfl) (by kernel_rfl) (by kernel_rfl) (fun _ _ _ h => h) (by rfl) (by assumption) ?_ ?_
          rotate_left
          · (intro wS hSw; (try dsimp only at hSw); go_simp; try with_reducible rfl)
          try simp only [Act.put, List.setIfInBounds_toArray, List.set_cons_zero, List.set_cons_succ]
          refine uTake (i := 13) (some 90) (v := ?_) rfl rfl (by kernel_rfl) (by kernel_rfl) (by kernel_rfl) (by kernel_rfl) (fun _ _ _ h => h) (by rfl) (by assumption) ?_ ?_
          rotate_left
          · (intro wS hSw; (try dsimp only at hSw); go_simp; try with_reducible rfl)
          try simp only [Act.put, List.setIfInBounds_toArray, List.set_cons_zero, List.set_cons_succ]
          refine uTake (i := 14) (some 91) (v := ?_) rfl rfl (by kernel_rfl) (by kernel_rfl) (by kernel_rfl) (by kernel_rfl) (fun _ _ _ h => h) (by rfl) (by assumption) ?_ ?_
          rotate_left
          · (intro wS hSw; (try dsimp only at hSw); go_simp; try with_reducible rfl)
          try simp only [Act.put, List.setIfInBounds_toArray, List.set_cons_zero, List.set_cons_succ]
          refine uTake (i := 15) (some 92) (v := ?_) rfl rfl (by kernel_rfl) (by kernel_rfl) (by kernel_rfl) (by kernel_rfl) (fun _ _ _ h => h) (by rfl) (by assumption) ?_ ?_
          rotate_left
          · (intro wS hSw; (try dsimp only at hSw); go_simp; try with_reducible rfl)
          try simp only [Act.put, List.setIfInBounds_toArray, List.set_cons_zero, List.set_cons_succ]
          refine uTake (i := 16) (some 93) (v := ?_) rfl rfl (by kernel_rfl) (by kernel_rfl) (by kernel_rfl) (by kernel_rfl) (fun _ _ _ h => h) (by rfl) (by assumption) ?_ ?_
          rotate_left
          · (intro wS hSw; (try dsimp only at hSw); go_simp; try with_reducible rfl)
          try simp only [Act.put, List.setIfInBounds_toArray, List.set_cons_zero, List.set_cons_succ]
          refine uTake (i := 17) (some 94) (v := .agg (usc uy.u uy.la uy.pa).toArray) rfl rfl (by kernel_rfl) (by kernel_rfl) (by kernel_rfl) (by kernel_rfl) (fun _ _ _ h => h) (by rfl) (by assumption) ?_ ?_
          · (intro wS hSw; (try dsimp only at hSw); revert hSw; (try simp only [and_imp]); intros; exact exec_load_b bUse _ rfl ub (uo + k * 166 + 83) rfl (usc uy.u uy.la uy.pa) (usc_len uyS.out _ _) (by assumption))
          try simp only [Act.put, List.setIfInBounds_toArray, List.set_cons_zero, List.set_cons_succ]
          refine uTake (i := 18) (some 95) (v := ?_) rfl rfl (by kernel_rfl) (by kernel_rfl) (by kernel_rfl) (by kernel_rfl) (fun _ _ _ h => h) (by rfl) (by assumption) ?_ ?_
          rotate_left
          · (intro wS hSw; (try dsimp only at hSw); go_simp; try with_reducible rfl)
          try simp only [Act.put, List.setIfInBounds_toArray, List.set_cons_zero, List.set_cons_succ]
          refine uTake (i := 19) (some 96) (v := ?_) rfl rfl (by kernel_rfl) (by kernel_rfl) (by kernel_rfl) (by kernel_rfl) (fun _ _ _ h => h) (by rfl) (by assumption) ?_ ?_
          rotate_left
          · (intro wS hSw; (try dsimp only at hSw); go_simp; try with_reducible rfl)
          try simp only [Act.put, List.setIfInBounds_toArray, List.set_cons_zero, List.set_cons_succ]
          refine uTake (i := 20) (some 97) (v := ?_) rfl rfl (by kernel_rfl) (by kernel_rfl) (by kernel_rfl) (by kernel_rfl) (fun _ _ _ h => h) (by rfl) (by assumption) ?_ ?_
          rotate_left
          · (intro wS hSw; (try dsimp only at hSw); go_simp; try with_reducible rfl)
          try simp only [Act.put, List.setIfInBounds_toArray, List.set_cons_zero, List.set_cons_succ]
          refine uTake (i := 21) (some 98) (v := ?_) rfl rfl (by kernel_rfl) (by kernel_rfl) (by kernel_rfl) (by kernel_rfl) (fun _ _ _ h => h) (by rfl) (by assumption) ?_ ?_
          rotate_left
          · (intro wS hSw; (try dsimp only at hSw); go_simp; try with_reducible rfl)
          try simp only [Act.put, List.setIfInBounds_toArray, List.set_cons_zero, List.set_cons_succ]
          refine uTake (i := 22) (some 99) (v := .agg (usc vy.u vy.la vy.pa).toArray) rfl rfl (by kernel_rfl) (by kernel_rfl) (by kernel_rfl) (by kernel_rfl) (fun _ _ _ h => h) (by rfl) (by assumption) ?_ ?_
          · (intro wS hSw; (try dsimp only at hSw); revert hSw; (try simp only [and_imp]); intros; exact exec_load_b bUse _ rfl vb (vo + k * 166 + 83) rfl (usc vy.u vy.la vy.pa) (usc_len vyS.out _ _) (by assumption))
          try simp only [Act.put, List.setIfInBounds_toArray, List.set_cons_zero, List.set_cons_succ]
          refine uReady (rs := [23]) (by kernel_rfl) (by simp) ?_
          refine ReadyU.cons rfl (fun KK hKK => ?_) ReadyU.nil
          go_simp
          refine (sameu_c uy.u vy.u (E13.out.fc 7 rfl) (E13.out.fc 3 rfl) Bu.out.2 Bv.out.2 (t := true) ⟨fun _ => HEQ.out.2, fun _ => rfl⟩).mono ?_
          rintro e w9 ⟨rfl, hb⟩
          have E14 : Hid (Env D w [(w5.heap.size, 25, [.slice sa sX.length sk]), (w4.heap.size, 25, [.slice da dX.length dk]), (w.heap.size + 1, 25, [.slice ya Y.length yk]), (w.heap.size, 25, [.slice xa X.length xk])] [.gn (gRg vb (vo + k * 166) (usc vx.u vx.la vx.pa)), .gn (gSp vx.u.sp vx.la vx.pa), .gn (gRg vb (vo + k * 166 + 83) (usc vy.u vy.la vy.pa)), .gn (gSp vy.u.sp vy.la vy.pa), .gn (gRg ub (uo + k * 166) (usc ux.u ux.la ux.pa)), .gn (gSp ux.u.sp ux.la ux.pa), .gn (gRg ub (uo + k * 166 + 83) (usc uy.u uy.la uy.pa)), .gn (gSp uy.u.sp uy.la uy.pa), .gn (gPl (.slice (some ⟨vb, vo, none⟩) sY.length sj) sY), .gn (gUl (.slice sa sX.length sk) sX), .gn (gPl (.slice (some ⟨ub, uo, none⟩) dY.length dj) dY), .gn (gUl (.slice da dX.length dk) dX), .rw (.slice ra l.length rk) l.length 11 l.flatten, .gn (gUl (.slice ya Y.length yk) Y), .gn (gUl (.slice xa X.length xk) X)] w9) := Lib.hid (E13.out.below hb)
          clear E13 hb
          (try dsimp only)
          clear hHeld
          refine hKK.out _ _ (⟨(E14.out.fc 4 rfl).2, (E14.out.fc 0 rfl).2, (E14.out.fc 6 rfl).2, (E14.out.fc 2 rfl).2⟩) (fun hHeld => ?_)
          clear hKK KK
          try simp only [Act.put, List.setIfInBounds_toArray, List.set_cons_zero, List.set_cons_succ]
          refine uTake (i := 24) (some 101) (v := ?_) rfl rfl (by kernel_rfl) (by kernel_rfl) (by kernel_rfl) (by kernel_rfl) (fun _ _ _ h => h) (by rfl) (by assumption) ?_ ?_
          rotate_left
          · (intro wS hSw; (try dsimp only at hSw); go_simp; try with_reducible rfl)
          try simp only [Act.put, List.setIfInBounds_toArray, List.set_cons_zero, List.set_cons_succ]
          refine uTake (i := 25) (some 102) (v := ?_) rfl rfl (by kernel_rfl) (by kernel_rfl) (by kernel_rfl) (by kernel_rfl) (fun _ _ _ h => h) (by rfl) (by assumption) ?_ ?_
          rotate_left
          · (intro wS hSw; (try dsimp only at hSw); go_simp; try with_reducible rfl)
          try simp only [Act.put, List.setIfInBounds_toArray, List.set_cons_zero, List.set_cons_succ]
          refine uDone (by kernel_rfl) ?_ _
          have EZ := Lib.hid ((((((((E14.out.forget).forget).forget).forget).forget).forget).forget).forget)
          go_wp2
          go_roundg (dY.length - (k + 1))
          case rel => exact ⟨k + 1, rfl, EZ, Lib.hid ⟨by omega, rfl⟩⟩
          case measure => exact by omega
      have d1 : decide ((100 : Int) < (l.length : Int)) = true := decide_eq_true (by omega)
      have d1b : decide (100 < l.length) = true := decide_eq_true q1
      have HQ1 := Lib.hid q1
      by_cases q2 : l.length ≤ 1000
      · have d2 : decide ((l.length : Int) ≤ 1000) = true := decide_eq_true (by omega)
        have d2b : decide (l.length ≤ 1000) = true := decide_eq_true q2
        clear q1 q2
        have b1 := E2.out.bx 1 rfl
        have c1_0 := b1.cell 0 rfl
        clear b1
        go_wp2_with fail
        refine (greatw_c X (E2.out.fc 2 rfl) (t := false) gxH.out).mono ?_
        rintro e w2 ⟨rfl, hb⟩
        have E3 : Hid (Env D w [(w.heap.size + 1, 25, [.slice ya Y.length yk]), (w.heap.size, 25, [.slice xa X.length xk])] [.rw (.slice ra l.length rk) l.length 11 l.flatten, .gn (gUl (.slice ya Y.length yk) Y), .gn (gUl (.slice xa X.length xk) X)] w2) := Lib.hid (E2.out.below hb)
        clear c1_0 E2 hb
        have b2 := E3.out.bx 0 rfl
        have c2_0 := b2.cell 0 rfl
        clear b2
        go_wp2_with fail
        refine (greatw_c Y (E3.out.fc 1 rfl) (t := false) gyH.out).mono ?_
        rintro e w3 ⟨rfl, hb⟩
        have E4 : Hid (Env D w [(w.heap.size + 1, 25, [.slice ya Y.length yk]), (w.heap.size, 25, [.slice xa X.length xk])] [.rw (.slice ra l.length rk) l.length 11 l.flatten, .gn (gUl (.slice ya Y.length yk) Y), .gn (gUl (.slice xa X.length xk) X)] w3) := Lib.hid (E3.out.below hb)
        clear c2_0 E3 hb
        have hfin := Lib.hid E4.out.bel
        go_wp2
        go_ret
        exact ⟨rfl, hfin.out⟩
      have d2 : decide ((l.length : Int) ≤ 1000) = false := decide_eq_false (by omega)
      have d2b : decide (l.length ≤ 1000) = false := decide_eq_false q2
      clear q1 q2
      have b1 := E2.out.bx 1 rfl
      have c1_0 := b1.cell 0 rfl
      clear b1
      go_wp2_with fail
      refine (greatw_c X (E2.out.fc 2 rfl) (t := false) gxH.out).mono ?_
      rintro e w2 ⟨rfl, hb⟩
      have E3 : Hid (Env D w [(w.heap.size + 1, 25, [.slice ya Y.length yk]), (w.heap.size, 25, [.slice xa X.length xk])] [.rw (.slice ra l.length rk) l.length 11 l.flatten, .gn (gUl (.slice ya Y.length yk) Y), .gn (gUl (.slice xa X.length xk) X)] w2) := Lib.hid (E2.out.below hb)
      clear c1_0 E2 hb
      have b2 := E3.out.bx 0 rfl
      have c2_0 := b2.cell 0 rfl
      clear b2
      go_wp2_with fail
      refine (greatw_c Y (E3.out.fc 1 rfl) (t := false) gyH.out).mono ?_
      rintro e w3 ⟨rfl, hb⟩
      have E4 : Hid (Env D w [(w.heap.size + 1, 25, [.slice ya Y.length yk]), (w.heap.size, 25, [.slice xa X.length xk])] [.rw (.slice ra l.length rk) l.length 11 l.flatten, .gn (gUl (.slice ya Y.length yk) Y), .gn (gUl (.slice xa X.length xk) X)] w3) := Lib.hid (E3.out.below hb)
      clear c2_0 E3 hb
      have HBX0 : Hid ((X.map Uv.u).length ≤ 40 ∧ ∀ u ∈ X.map Uv.u, u.sp.lv.length ≤ 40 ∧ u.sp.pa.length ≤ 30) := Lib.hid (great_no gxH.out)
      have HBY0 : Hid ((Y.map Uv.u).length ≤ 40 ∧ ∀ u ∈ Y.map Uv.u, u.sp.lv.length ≤ 40 ∧ u.sp.pa.length ≤ 30) := Lib.hid (great_no gyH.out)
      have HUX : Hid (∀ u ∈ X.map Uv.u, Bd u) := Lib.hid (fun u hu => by have h := HBX0.out.2 u hu; unfold Bd; omega)
      have HBX : Hid (∀ x ∈ X, x.u.sp.lv.length ≤ 1000000 ∧ x.u.sp.pa.length ≤ 1000000) := Lib.hid (Bd.of HUX.out rfl)
      have HLX : Hid (X.length ≤ 40) := Lib.hid (by have h := HBX0.out.1; rwa [List.length_map] at h)
      have HUY : Hid (∀ u ∈ Y.map Uv.u, Bd u) := Lib.hid (fun u hu => by have h := HBY0.out.2 u hu; unfold Bd; omega)
      have HBY : Hid (∀ x ∈ Y, x.u.sp.lv.length ≤ 1000000 ∧ x.u.sp.pa.length ≤ 1000000) := Lib.hid (Bd.of HUY.out rfl)
      have HLY : Hid (Y.length ≤ 40) := Lib.hid (by have h := HBY0.out.1; rwa [List.length_map] at h)
      obtain ⟨L, C, n, hr⟩ : ∃ L C n, mergeRes (X.map Uv.u) (Y.map Uv.u) = (L, C, n) := ⟨_, _, _, rfl⟩
      have HR := Lib.hid hr
      have HPB := Lib.hid (mergeRes_bd HUX.out HUY.out hr)
      clear hr
      have HLC : Hid (L.length ≤ 1000000 ∧ C.length ≤ 1000000) := Lib.hid (by have h1 := HPB.out.2.2; have h2 := HBX0.out.1; have h3 := HBY0.out.1; omega)
      have b3 := E4.out.bx 1 rfl
      have c3_0 := b3.cell 0 rfl
      clear b3
      have b4 := E4.out.bx 0 rfl
      have c4_0 := b4.cell 0 rfl
      clear b4
      go_wp2_with fail
      refine (merge_c X Y (E4.out.fc 2 rfl) (E4.out.fc 1 rfl) HBX.out HBY.out ⟨Nat.le_trans HLX.out (by omega), Nat.le_trans HLY.out (by omega)⟩ HR.out).mono ?_
      rintro e w4 ⟨⟨da, dk, dX, dc, dj, dY, rfl, d1, d2, dH, dI⟩, hb⟩
      have E5 : Hid (Env D w [(w.heap.size + 1, 25, [.slice ya Y.length yk]), (w.heap.size, 25, [.slice xa X.length xk])] [.gn (gPl (.slice dc dY.length dj) dY), .gn (gUl (.slice da dX.length dk) dX), .rw (.slice ra l.length rk) l.length 11 l.flatten, .gn (gUl (.slice ya Y.length yk) Y), .gn (gUl (.slice xa X.length xk) X)] w4) := Lib.hid (E4.out.got (E4.out.got (E4.out.below hb) (.gn (gUl (.slice da dX.length dk) dX)) dH.out) (.gn (gPl (.slice dc dY.length dj) dY)) dI.out)
      clear c3_0 c4_0 E4 hb dH dI
      have dL := Lib.hid d1; have dC := Lib.hid d2; clear d1 d2
      have E6 : Hid (Env D w [(w4.heap.size, 25, [.slice da dX.length dk]), (w.heap.size + 1, 25, [.slice ya Y.length yk]), (w.heap.size, 25, [.slice xa X.length xk])] [.gn (gPl (.slice dc dY.length dj) dY), .gn (gUl (.slice da dX.length dk) dX), .rw (.slice ra l.length rk) l.length 11 l.flatten, .gn (gUl (.slice ya Y.length yk) Y), .gn (gUl (.slice xa X.length xk) X)] _) := Lib.hid ((E5.out.push 25 [.slice da dX.length dk] (w4.heap.size) (by simp)))
      have b5 := E6.out.bx 2 rfl
      have c5_0 := b5.cell 0 rfl
      clear b5
      have b6 := E6.out.bx 1 rfl
      have c6_0 := b6.cell 0 rfl
      clear b6
      go_wp2_with fail
      refine (rmerge_c X Y (E6.out.fc 4 rfl) (E6.out.fc 3 rfl) HBX.out HBY.out ⟨Nat.le_trans HLX.out (by omega), Nat.le_trans HLY.out (by omega)⟩ HR.out).mono ?_
      rintro e w5 ⟨⟨sa, sk, sX, sc, sj, sY, rfl, s1, s2, sH, sI⟩, hb⟩
      have E7 : Hid (Env D w [(w4.heap.size, 25, [.slice da dX.length dk]), (w.heap.size + 1, 25, [.slice ya Y.length yk]), (w.heap.size, 25, [.slice xa X.length xk])] [.gn (gPl (.slice sc sY.length sj) sY), .gn (gUl (.slice sa sX.length sk) sX), .gn (gPl (.slice dc dY.length dj) dY), .gn (gUl (.slice da dX.length dk) dX), .rw (.slice ra l.length rk) l.length 11 l.flatten, .gn (gUl (.slice ya Y.length yk) Y), .gn (gUl (.slice xa X.length xk) X)] w5) := Lib.hid (E6.out.got (E6.out.got (E6.out.below hb) (.gn (gUl (.slice sa sX.length sk) sX)) sH.out) (.gn (gPl (.slice sc sY.length sj) sY)) sI.out)
      clear c5_0 c6_0 E5 E6 hb sH sI
      have sL := Lib.hid s1; have sC := Lib.hid s2; clear s1 s2
      have hce : dY.length = sY.length := by rw [pmap_len dC.out, pmap_len sC.out]
      have hne1 : ((dY.length : Int) != (sY.length : Int)) = false := by rw [hce]; simp
      have hne2 : (dY.length != sY.length) = false := by rw [hce]; simp
      have HCE := Lib.hid hce
      have HDY : Hid (dY.length ≤ 1000000) := Lib.hid (by rw [pmap_len dC.out]; exact HLC.out.2)
      clear hce
      have E8 : Hid (Env D w [(w5.heap.size, 25, [.slice sa sX.length sk]), (w4.heap.size, 25, [.slice da dX.length dk]), (w.heap.size + 1, 25, [.slice ya Y.length yk]), (w.heap.size, 25, [.slice xa X.length xk])] [.gn (gPl (.slice sc sY.length sj) sY), .gn (gUl (.slice sa sX.length sk) sX), .gn (gPl (.slice dc dY.length dj) dY), .gn (gUl (.slice da dX.length dk) dX), .rw (.slice ra l.length rk) l.length 11 l.flatten, .gn (gUl (.slice ya Y.length yk) Y), .gn (gUl (.slice xa X.length xk) X)] _) := Lib.hid ((E7.out.push 25 [.slice sa sX.length sk] (w5.heap.size) (by simp)))
      have b7 := E8.out.bx 1 rfl
      have c7_0 := b7.cell 0 rfl
      clear b7
      have b8 := E8.out.bx 0 rfl
      have c8_0 := b8.cell 0 rfl
      clear b8
      go_wp2_with fail
      refine (rsame_c dX sX (E8.out.fc 3 rfl) (E8.out.fc 1 rfl) (Bd.of HPB.out.1 dL.out) (Bd.of HPB.out.1 sL.out) ⟨by rw [map_len dL.out]; exact HLC.out.1, by rw [map_len sL.out]; exact HLC.out.1⟩ (t := true) ⟨fun _ => dL.out.trans sL.out.symm, fun _ => rfl⟩).mono ?_
      rintro e w6 ⟨rfl, hb⟩
      have E9 : Hid (Env D w [(w5.heap.size, 25, [.slice sa sX.length sk]), (w4.heap.size, 25, [.slice da dX.length dk]), (w.heap.size + 1, 25, [.slice ya Y.length yk]), (w.heap.size, 25, [.slice xa X.length xk])] [.gn (gPl (.slice sc sY.length sj) sY), .gn (gUl (.slice sa sX.length sk) sX), .gn (gPl (.slice dc dY.length dj) dY), .gn (gUl (.slice da dX.length dk) dX), .rw (.slice ra l.length rk) l.length 11 l.flatten, .gn (gUl (.slice ya Y.length yk) Y), .gn (gUl (.slice xa X.length xk) X)] w6) := Lib.hid (E8.out.below hb)
      clear c7_0 c8_0 E7 E8 hb
      have hm9 := HDY.out
      go_wp2_with fail
      go_loopg [74] (dY.length) (fun gk s74 wr => ∃ (k : Nat), s74 = .int .i64 (k : Int) ∧ Hid (Env D w [(w5.heap.size, 25, [.slice sa sX.length sk]), (w4.heap.size, 25, [.slice da dX.length dk]), (w.heap.size + 1, 25, [.slice ya Y.length yk]), (w.heap.size, 25, [.slice xa X.length xk])] [.gn (gPl (.slice sc sY.length sj) sY), .gn (gUl (.slice sa sX.length sk) sX), .gn (gPl (.slice dc dY.length dj) dY), .gn (gUl (.slice da dX.length dk) dX), .rw (.slice ra l.length rk) l.length 11 l.flatten, .gn (gUl (.slice ya Y.length yk) Y), .gn (gUl (.slice xa X.length xk) X)] wr) ∧ Hid (k ≤ dY.length ∧ gk = dY.length - k))
      case atStart => exact ⟨0, rfl, Lib.hid E9.out, Lib.hid ⟨Nat.zero_le _, rfl⟩⟩
      case round =>
        clear E9 hne1 hne2
        obtain ⟨k, rfl, EL, HA⟩ := hrel
        obtain ⟨a1, a2⟩ := HA.out
        clear HA
        by_cases hy : k = dY.length
        · skip
          have t6 : decide ((k : Int) < (dY.length : Int)) = false := decide_eq_false (by omega)
          have t7 : decide (k < dY.length) = false := decide_eq_false (by omega)
          have HYY := Lib.hid hy
          clear hy
          obtain ⟨P, m, o, hd⟩ : ∃ P m o, dropRes (X.map Uv.u) l now = (P, m, o) := ⟨_, _, _, rfl⟩
          have HD := Lib.hid hd
          have HDB := Lib.hid (dropRes_bd HUX.out hd)
          clear hd
          have HPL : Hid (P.length ≤ 1000000) := Lib.hid (by have h1 := HDB.out.2; have h2 := HBX0.out.1; omega)
          have b9 := EL.out.bx 3 rfl
          have c9_0 := b9.cell 0 rfl
          clear b9
          go_wp2_with fail
          refine (drop_c X l now (EL.out.fc 6 rfl) (EL.out.fc 4 rfl) HBX.out hok.out (Nat.le_trans HLX.out (by omega)) HD.out).mono ?_
          rintro e w7 ⟨⟨pa, pk, pX, rfl, p1, pH⟩, hb⟩
          have E10 : Hid (Env D w [(w5.heap.size, 25, [.slice sa sX.length sk]), (w4.heap.size, 25, [.slice da dX.length dk]), (w.heap.size + 1, 25, [.slice ya Y.length yk]), (w.heap.size, 25, [.slice xa X.length xk])] [.gn (gUl (.slice pa pX.length pk) pX), .gn (gPl (.slice sc sY.length sj) sY), .gn (gUl (.slice sa sX.length sk) sX), .gn (gPl (.slice dc dY.length dj) dY), .gn (gUl (.slice da dX.length dk) dX), .rw (.slice ra l.length rk) l.length 11 l.flatten, .gn (gUl (.slice ya Y.length yk) Y), .gn (gUl (.slice xa X.length xk) X)] w7) := Lib.hid (EL.out.got (EL.out.below hb) (.gn (gUl (.slice pa pX.length pk) pX)) pH.out)
          clear c9_0 EL hb pH
          have pL := Lib.hid p1; clear p1
          have E11 : Hid (Env D w [(w7.heap.size, 25, [.slice pa pX.length pk]), (w5.heap.size, 25, [.slice sa sX.length sk]), (w4.heap.size, 25, [.slice da dX.length dk]), (w.heap.size + 1, 25, [.slice ya Y.length yk]), (w.heap.size, 25, [.slice xa X.length xk])] [.gn (gUl (.slice pa pX.length pk) pX), .gn (gPl (.slice sc sY.length sj) sY), .gn (gUl (.slice sa sX.length sk) sX), .gn (gPl (.slice dc dY.length dj) dY), .gn (gUl (.slice da dX.length dk) dX), .rw (.slice ra l.length rk) l.length 11 l.flatten, .gn (gUl (.slice ya Y.length yk) Y), .gn (gUl (.slice xa X.length xk) X)] _) := Lib.hid ((E10.out.push 25 [.slice pa pX.length pk] (w7.heap.size) (by simp)))
          have b10 := E11.out.bx 4 rfl
          have c10_0 := b10.cell 0 rfl
          clear b10
          go_wp2_with fail
          refine (rdrop_c X l now (E11.out.fc 7 rfl) (E11.out.fc 5 rfl) HBX.out hok.out (Nat.le_trans HLX.out (by omega)) HD.out).mono ?_
          rintro e w8 ⟨⟨qa, qk, qX, rfl, q1, qH⟩, hb⟩
          have E12 : Hid (Env D w [(w7.heap.size, 25, [.slice pa pX.length pk]), (w5.heap.size, 25, [.slice sa sX.length sk]), (w4.heap.size, 25, [.slice da dX.length dk]), (w.heap.size + 1, 25, [.slice ya Y.length yk]), (w.heap.size, 25, [.slice xa X.length xk])] [.gn (gUl (.slice qa qX.length qk) qX), .gn (gUl (.slice pa pX.length pk) pX), .gn (gPl (.slice sc sY.length sj) sY), .gn (gUl (.slice sa sX.length sk) sX), .gn (gPl (.slice dc dY.length dj) dY), .gn (gUl (.slice da dX.length dk) dX), .rw (.slice ra l.length rk) l.length 11 l.flatten, .gn (gUl (.slice ya Y.length yk) Y), .gn (gUl (.slice xa X.length xk) X)] w8) := Lib.hid (E11.out.got (E11.out.below hb) (.gn (gUl (.slice qa qX.length qk) qX)) qH.out)
          clear c10_0 E10 E11 hb qH
          have qL := Lib.hid q1; clear q1
          have E13 : Hid (Env D w [(w8.heap.size, 25, [.slice qa qX.length qk]), (w7.heap.size, 25, [.slice pa pX.length pk]), (w5.heap.size, 25, [.slice sa sX.length sk]), (w4.heap.size, 25, [.slice da dX.length dk]), (w.heap.size + 1, 25, [.slice ya Y.length yk]), (w.heap.size, 25, [.slice xa X.length xk])] [.gn (gUl (.slice qa qX.length qk) qX), .gn (gUl (.slice pa pX.length pk) pX), .gn (gPl (.slice sc sY.length sj) sY), .gn (gUl (.slice sa sX.length sk) sX), .gn (gPl (.slice dc dY.length dj) dY), .gn (gUl (.slice da dX.length dk) dX), .rw (.slice ra l.length rk) l.length 11 l.flatten, .gn (gUl (.slice ya Y.length yk) Y), .gn (gUl (.slice xa X.length xk) X)] _) := Lib.hid ((E12.out.push 25 [.slice qa qX.length qk] (w8.heap.size) (by simp)))
          have b11 := E13.out.bx 1 rfl
          have c11_0 := b11.cell 0 rfl
          clear b11
          have b12 := E13.out.bx 0 rfl
          have c12_0 := b12.cell 0 rfl
          clear b12
          go_wp2_with fail
          refine (rsame_c pX qX (E13.out.fc 1 rfl) (E13.out.fc 0 rfl) (Bd.of HDB.out.1 pL.out) (Bd.of HDB.out.1 qL.out) ⟨by rw [map_len pL.out]; exact HPL.out, by rw [map_len qL.out]; exact HPL.out⟩ (t := true) ⟨fun _ => pL.out.trans qL.out.symm, fun _ => rfl⟩).mono ?_
          rintro e w9 ⟨rfl, hb⟩
          have E14 : Hid (Env D w [(w8.heap.size, 25, [.slice qa qX.length qk]), (w7.heap.size, 25, [.slice pa pX.length pk]), (w5.heap.size, 25, [.slice sa sX.length sk]), (w4.heap.size, 25, [.slice da dX.length dk]), (w.heap.size + 1, 25, [.slice ya Y.length yk]), (w.heap.size, 25, [.slice xa X.length xk])] [.gn (gUl (.slice qa qX.length qk) qX), .gn (gUl (.slice pa pX.length pk) pX), .gn (gPl (.slice sc sY.length sj) sY), .gn (gUl (.slice sa sX.length sk) sX), .gn (gPl (.slice dc dY.length dj) dY), .gn (gUl (.slice da dX.length dk) dX), .rw (.slice ra l.length rk) l.length 11 l.flatten, .gn (gUl (.slice ya Y.length yk) Y), .gn (gUl (.slice xa X.length xk) X)] w9) := Lib.hid (E13.out.below hb)
          clear c11_0 c12_0 E12 E13 hb
          have hfin := Lib.hid E14.out.bel
          go_wp2
          go_ret
          exact ⟨rfl, hfin.out⟩
        have hk : k < dY.length := lt_of hy a1
        have hk2 : k < sY.length := by have := HCE.out; omega
        have t6 : decide ((k : Int) < (dY.length : Int)) = true := decide_eq_true (by omega)
        have t7 : decide (k < dY.length) = true := decide_eq_true (by omega)
        have hkI : (k : Int) < (dY.length : Int) := by omega
        have hkJ : (k : Int) < (sY.length : Int) := by omega
        clear hy
        go_upto_region 12 with (fail)
        obtain ⟨ub, uo, rfl⟩ := gPl.addr (EL.out.fc 2 rfl) (List.ne_nil_of_length_pos (Nat.lt_of_le_of_lt (Nat.zero_le _) hk))
        obtain ⟨⟨ux, uy⟩, ue⟩ : ∃ x, dY[k] = x := ⟨_, rfl⟩
        have uE := Lib.hid ue
        clear ue
        have E10 : Hid (Env D w [(w5.heap.size, 25, [.slice sa sX.length sk]), (w4.heap.size, 25, [.slice da dX.length dk]), (w.heap.size + 1, 25, [.slice ya Y.length yk]), (w.heap.size, 25, [.slice xa X.length xk])] [.gn (gRg ub (uo + k * 166) (usc ux.u ux.la ux.pa)), .gn (gSp ux.u.sp ux.la ux.pa), .gn (gRg ub (uo + k * 166 + 83) (usc uy.u uy.la uy.pa)), .gn (gSp uy.u.sp uy.la uy.pa), .gn (gPl (.slice sc sY.length sj) sY), .gn (gUl (.slice sa sX.length sk) sX), .gn (gPl (.slice (some ⟨ub, uo, none⟩) dY.length dj) dY), .gn (gUl (.slice da dX.length dk) dX), .rw (.slice ra l.length rk) l.length 11 l.flatten, .gn (gUl (.slice ya Y.length yk) Y), .gn (gUl (.slice xa X.length xk) X)] _) := Lib.hid (EL.out.elP 2 rfl hk uE.out)
        clear EL
        have uxS := Lib.hid (E10.out.spOk 1 rfl)
        have uyS := Lib.hid (E10.out.spOk 3 rfl)
        obtain ⟨vb, vo, rfl⟩ := gPl.addr (E10.out.fc 4 rfl) (List.ne_nil_of_length_pos (Nat.lt_of_le_of_lt (Nat.zero_le _) hk2))
        obtain ⟨⟨vx, vy⟩, ve⟩ : ∃ x, sY[k] = x := ⟨_, rfl⟩
        have vE := Lib.hid ve
        clear ve
        have E11 : Hid (Env D w [(w5.heap.size, 25, [.slice sa sX.length sk]), (w4.heap.size, 25, [.slice da dX.length dk]), (w.heap.size + 1, 25, [.slice ya Y.length yk]), (w.heap.size, 25, [.slice xa X.length xk])] [.gn (gRg vb (vo + k * 166) (usc vx.u vx.la vx.pa)), .gn (gSp vx.u.sp vx.la vx.pa), .gn (gRg vb (vo + k * 166 + 83) (usc vy.u vy.la vy.pa)), .gn (gSp vy.u.sp vy.la vy.pa), .gn (gRg ub (uo + k * 166) (usc ux.u ux.la ux.pa)), .gn (gSp ux.u.sp ux.la ux.pa), .gn (gRg ub (uo + k * 166 + 83) (usc uy.u uy.la uy.pa)), .gn (gSp uy.u.sp uy.la uy.pa), .gn (gPl (.slice (some ⟨vb, vo, none⟩) sY.length sj) sY), .gn (gUl (.slice sa sX.length sk) sX), .gn (gPl (.slice (some ⟨ub, uo, none⟩) dY.length dj) dY), .gn (gUl (.slice da dX.length dk) dX), .rw (.slice ra l.length rk) l.length 11 l.flatten, .gn (gUl (.slice ya Y.length yk) Y), .gn (gUl (.slice xa X.length xk) X)] _) := Lib.hid (E10.out.elP 4 rfl hk2 vE.out)
        clear E10
        have vxS := Lib.hid (E11.out.spOk 1 rfl)
        have vyS := Lib.hid (E11.out.spOk 3 rfl)
        have HEQ : Hid (ux.u = vx.u ∧ uy.u = vy.u) := Lib.hid (by have h1 := pmap_get hk uE.out; have h2 := pmap_get hk2 vE.out; rw [dC.out] at h1; rw [sC.out, h1] at h2; have h3 := Option.some.inj h2; simp only [Prod.mk.injEq] at h3; exact h3)
        have Bu : Hid (Bd ux.u ∧ Bd uy.u) := Lib.hid (by have h1 := pmap_get hk uE.out; rw [dC.out] at h1; exact HPB.out.2.1 _ (List.mem_of_getElem? h1))
        have Bv : Hid (Bd vx.u ∧ Bd vy.u) := Lib.hid (by have h1 := pmap_get hk2 vE.out; rw [sC.out] at h1; exact HPB.out.2.1 _ (List.mem_of_getElem? h1))
        go_wp2_with fail
        have E12 : Hid (Env D w [(w5.heap.size, 25, [.slice sa sX.length sk]), (w4.heap.size, 25, [.slice da dX.length dk]), (w.heap.size + 1, 25, [.slice ya Y.length yk]), (w.heap.size, 25, [.slice xa X.length xk])] [.gn (gRg vb (vo + k * 166) (usc vx.u vx.la vx.pa)), .gn (gSp vx.u.sp vx.la vx.pa), .gn (gRg vb (vo + k * 166 + 83) (usc vy.u vy.la vy.pa)), .gn (gSp vy.u.sp vy.la vy.pa), .gn (gRg ub (uo + k * 166) (usc ux.u ux.la ux.pa)), .gn (gSp ux.u.sp ux.la ux.pa), .gn (gRg ub (uo + k * 166 + 83) (usc uy.u uy.la uy.pa)), .gn (gSp uy.u.sp uy.la uy.pa), .gn (gPl (.slice (some ⟨vb, vo, none⟩) sY.length sj) sY), .gn (gUl (.slice sa sX.length sk) sX), .gn (gPl (.slice (some ⟨ub, uo, none⟩) dY.length dj) dY), .gn (gUl (.slice da dX.length dk) dX), .rw (.slice ra l.length rk) l.length 11 l.flatten, .gn (gUl (.slice ya Y.length yk) Y), .gn (gUl (.slice xa X.length xk) X)] (wr.drew)) := Lib.hid E11.out.drew
        clear E11
        refine wp_regionU (S := fun w' => w'.rangeAt ub (uo + k * 166) (usc ux.u ux.la ux.pa) ∧ w'.rangeAt vb (vo + k * 166) (usc vx.u vx.la vx.pa) ∧ w'.rangeAt ub (uo + k * 166 + 83) (usc uy.u uy.la uy.pa) ∧ w'.rangeAt vb (vo + k * 166 + 83) (usc vy.u vy.la vy.pa)) [] (by kernel_rfl) (⟨(E12.out.fc 4 rfl).2, (E12.out.fc 0 rfl).2, (E12.out.fc 6 rfl).2, (E12.out.fc 2 rfl).2⟩) (fun hHeld => ?_)
        generalize wr.drew = w7 at *
        refine uTake (i := 0) (some 77) (v := ?_) rfl rfl (by kernel_rfl) (by kernel_rfl) (by kernel_rfl) (by kernel_rfl) (fun _ _ _ h => h) (by rfl) (by assumption) ?_ ?_
        rotate_left
        · (intro wS hSw; (try dsimp only at hSw); go_simp; try with_reducible rfl)
        try simp only [Act.put, List.setIfInBounds_toArray, List.set_cons_zero, List.set_cons_succ]
        refine uTake (i := 1) (some 78) (v := ?_) rfl rfl (by kernel_rfl) (by kernel_rfl) (by kernel_rfl) (by kernel_rfl) (fun _ _ _ h => h) (by rfl) (by assumption) ?_ ?_
        rotate_left
        · (intro wS hSw; (try dsimp only at hSw); go_simp; try with_reducible rfl)
        try simp only [Act.put, List.setIfInBounds_toArray, List.set_cons_zero, List.set_cons_succ]
        refine uTake (i := 2) (some 79) (v := ?_) rfl rfl (by kernel_rfl) (by kernel_rfl) (by kernel_rfl) (by kernel_rfl) (fun _ _ _ h => h) (by rfl) (by assumption) ?_ ?_
        rotate_left
        · (intro wS hSw; (try dsimp only at hSw); go_simp; try with_reducible rfl)
        try simp only [Act.put, List.setIfInBounds_toArray, List.set_cons_zero, List.set_cons_succ]
        refine uTake (i := 3) (some 80) (v := ?_) rfl rfl (by kernel_rfl) (by kernel_rfl) (by kernel_rfl) (by kernel_rfl) (fun _ _ _ h => h) (by rfl) (by assumption) ?_ ?_
        rotate_left
        · (intro wS hSw; (try dsimp only at hSw); go_simp; try with_reducible rfl)
        try simp only [Act.put, List.setIfInBounds_toArray, List.set_cons_zero, List.set_cons_succ]
        refine uTake (i := 4) (some 81) (v := .agg (usc ux.u ux.la ux.pa).toArray) rfl rfl (by kernel_rfl) (by kernel_rfl) (by kernel_rfl) (by kernel_rfl) (fun _ _ _ h => h) (by rfl) (by assumption) ?_ ?_
        · (intro wS hSw; (try dsimp only at hSw); revert hSw; (try simp only [and_imp]); intros; exact exec_load_b bUse _ rfl ub (uo + k * 166) rfl (usc ux.u ux.la ux.pa) (usc_len uxS.out _ _) (by assumption))
        try simp only [Act.put, List.setIfInBounds_toArray, List.set_cons_zero, List.set_cons_succ]
        refine uTake (i := 5) (some 82) (v := ?_) rfl rfl (by kernel_rfl) (by kernel_rfl) (by kernel_rfl) (by kernel_rfl) (fun _ _ _ h => h) (by rfl) (by assumption) ?_ ?_
        rotate_left
        · (intro wS hSw; (try dsimp only at hSw); go_simp; try with_reducible rfl)
        try simp only [Act.put, List.setIfInBounds_toArray, List.set_cons_zero, List.set_cons_succ]
        refine uTake (i := 6) (some 83) (v := ?_) rfl rfl (by kernel_rfl) (by kernel_rfl) (by kernel_rfl) (by kernel_rfl) (fun _ _ _ h => h) (by rfl) (by assumption) ?_ ?_
        rotate_left
        · (intro wS hSw; (try dsimp only at hSw); go_simp; try with_reducible rfl)
        try simp only [Act.put, List.setIfInBounds_toArray, List.set_cons_zero, List.set_cons_succ]
        refine uTake (i := 7) (some 84) (v := ?_) rfl rfl (by kernel_rfl) (by kernel_rfl) (by kernel_rfl) (by kernel_rfl) (fun _ _ _ h => h) (by rfl) (by assumption) ?_ ?_
        rotate_left
        · (intro wS hSw; (try dsimp only at hSw); go_simp; try with_reducible rfl)
        try simp only [Act.put, List.setIfInBounds_toArray, List.set_cons_zero, List.set_cons_succ]
        refine uTake (i := 8) (some 85) (v := ?_) rfl rfl (by kernel_rfl) (by kernel_rfl) (by kernel_rfl) (by kernel_rfl) (fun _ _ _ h => h) (by rfl) (by assumption) ?_ ?_
        rotate_left
        · (intro wS hSw; (try dsimp only at hSw); go_simp; try with_reducible rfl)
        try simp only [Act.put, List.setIfInBounds_toArray, List.set_cons_zero, List.set_cons_succ]
        refine uTake (i := 9) (some 86) (v := .agg (usc vx.u vx.la vx.pa).toArray) rfl rfl (by kernel_rfl) (by kernel_rfl) (by kernel_rfl) (by kernel_rfl) (fun _ _ _ h => h) (by rfl) (by assumption) ?_ ?_
        · (intro wS hSw; (try dsimp only at hSw); revert hSw; (try simp only [and_imp]); intros; exact exec_load_b bUse _ rfl vb (vo + k * 166) rfl (usc vx.u vx.la vx.pa) (usc_len vxS.out _ _) (by assumption))
        try simp only [Act.put, List.setIfInBounds_toArray, List.set_cons_zero, List.set_cons_succ]
        refine uReady (rs := [10]) (by kernel_rfl) (by simp) ?_
        refine ReadyU.cons rfl (fun KK hKK => ?_) ReadyU.nil
        go_simp
        refine (sameu_c ux.u vx.u (E12.out.fc 5 rfl) (E12.out.fc 1 rfl) Bu.out.1 Bv.out.1 (t := true) ⟨fun _ => HEQ.out.1, fun _ => rfl⟩).mono ?_
        rintro e w8 ⟨rfl, hb⟩
        have E13 : Hid (Env D w [(w5.heap.size, 25, [.slice sa sX.length sk]), (w4.heap.size, 25, [.slice da dX.length dk]), (w.heap.size + 1, 25, [.slice ya Y.length yk]), (w.heap.size, 25, [.slice xa X.length xk])] [.gn (gRg vb (vo + k * 166) (usc vx.u vx.la vx.pa)), .gn (gSp vx.u.sp vx.la vx.pa), .gn (gRg vb (vo + k * 166 + 83) (usc vy.u vy.la vy.pa)), .gn (gSp vy.u.sp vy.la vy.pa), .gn (gRg ub (uo + k * 166) (usc ux.u ux.la ux.pa)), .gn (gSp ux.u.sp ux.la ux.pa), .gn (gRg ub (uo + k * 166 + 83) (usc uy.u uy.la uy.pa)), .gn (gSp uy.u.sp uy.la uy.pa), .gn (gPl (.slice (some ⟨vb, vo, none⟩) sY.length sj) sY), .gn (gUl (.slice sa sX.length sk) sX), .gn (gPl (.slice (some ⟨ub, uo, none⟩) dY.length dj) dY), .gn (gUl (.slice da dX.length dk) dX), .rw (.slice ra l.length rk) l.length 11 l.flatten, .gn (gUl (.slice ya Y.length yk) Y), .gn (gUl (.slice xa X.length xk) X)] w8) := Lib.hid (E12.out.below hb)
        clear E12 hb
        (try dsimp only)
        clear hHeld
        refine hKK.out _ _ (⟨(E13.out.fc 4 rfl).2, (E13.out.fc 0 rfl).2, (E13.out.fc 6 rfl).2, (E13.out.fc 2 rfl).2⟩) (fun hHeld => ?_)
        clear hKK KK
        try simp only [Act.put, List.setIfInBounds_toArray, List.set_cons_zero, List.set_cons_succ]
        refine uTake (i := 11) (some 88) (v := ?_) rfl rfl (by kernel_rfl) (by kernel_rfl) (by kernel_rfl) (by kernel_rfl) (fun _ _ _ h => h) (by rfl) (by assumption) ?_ ?_
        rotate_left
        · (intro wS hSw; (try dsimp only at hSw); go_simp; try with_reducible rfl)
        try simp only [Act.put, List.setIfInBounds_toArray, List.set_cons_zero, List.set_cons_succ]
        refine uTake (i := 12) (some 89) (v := ?_) rfl rfl (by kernel_rfl) (by kernel_rfl) (by kernel_rfl) (by kernel_rfl) (fun _ _ _ h => h) (by rfl) (by assumption) ?_ ?_
        rotate_left
        · (intro wS hSw; (try dsimp only at hSw); go_simp; try with_reducible rfl)
        try simp only [Act.put, List.setIfInBounds_toArray, List.set_cons_zero, List.set_cons_succ]
        refine uTake (i := 13) (some 90) (v := ?_) rfl rfl (by kernel_rfl) (by kernel_rfl) (by kernel_rfl) (by kernel_rfl) (fun _ _ _ h => h) (by rfl) (by assumption) ?_ ?_
        rotate_left
        · (intro wS hSw; (try dsimp only at hSw); go_simp; try with_reducible rfl)
        try simp only [Act.put, List.setIfInBounds_toArray, List.set_cons_zero, List.set_cons_succ]
        refine uTake (i := 14) (some 91) (v := ?_) rfl rfl (by kernel_rfl) (by kernel_rfl) (by kernel_rfl) (by kernel_rfl) (fun _ _ _ h => h) (by rfl) (by assumption) ?_ ?_
        rotate_left
        · (intro wS hSw; (try dsimp only at hSw); go_simp; try with_reducible rfl)
        try simp only [Act.put, List.setIfInBounds_toArray, List.set_cons_zero, List.set_cons_succ]
        refine uTake (i := 15) (some 92) (v := ?_) rfl rfl (by kernel_rfl) (by kernel_rfl) (by kernel_rfl) (by kernel_rfl) (fun _ _ _ h => h) (by rfl) (by assumption) ?_ ?_
        rotate_left
        · (intro wS hSw; (try dsimp only at hSw); go_simp; try with_reducible rfl)
        try simp only [Act.put, List.setIfInBounds_toArray, List.set_cons_zero, List.set_cons_succ]
        refine uTake (i := 16) (some 93) (v := ?_) rfl rfl (by kernel_rfl) (by kernel_rfl) (by kernel_rfl) (by kernel_rfl) (fun _ _ _ h => h) (by rfl) (by assumption) ?_ ?_
        rotate_left
        · (intro wS hSw; (try dsimp only at hSw); go_simp; try with_reducible rfl)
        try simp only [Act.put, List.setIfInBounds_toArray, List.set_cons_zero, List.set_cons_succ]
        refine uTake (i := 17) (some 94) (v := .agg (usc uy.u uy.la uy.pa).toArray) rfl rfl (by kernel_rfl) (by kernel_rfl) (by kernel_rfl) (by kernel_rfl) (fun _ _ _ h => h) (by rfl) (by assumption) ?_ ?_
        · (intro wS hSw; (try dsimp only at hSw); revert hSw; (try simp only [and_imp]); intros; exact exec_load_b bUse _ rfl ub (uo + k * 166 + 83) rfl (usc uy.u uy.la uy.pa) (usc_len uyS.out _ _) (by assumption))
        try simp only [Act.put, List.setIfInBounds_toArray, List.set_cons_zero, List.set_cons_succ]
        refine uTake (i := 18) (some 95) (v := ?_) rfl rfl (by kernel_rfl) (by kernel_rfl) (by kernel_rfl) (by kernel_rfl) (fun _ _ _ h => h) (by rfl) (by assumption) ?_ ?_
        rotate_left
        · (intro wS hSw; (try dsimp only at hSw); go_simp; try with_reducible rfl)
        try simp only [Act.put, List.setIfInBounds_toArray, List.set_cons_zero, List.set_cons_succ]
        refine uTake (i := 19) (some 96) (v := ?_) rfl rfl (by kernel_rfl) (by kernel_rfl) (by kernel_rfl) (by kernel_rfl) (fun _ _ _ h => h) (by rfl) (by assumption) ?_ ?_
        rotate_left
        · (intro wS hSw; (try dsimp only at hSw); go_simp; try with_reducible rfl)
        try simp only [Act.put, List.setIfInBounds_toArray, List.set_cons_zero, List.set_cons_succ]
        refine uTake (i := 20) (some 97) (v := ?_) rfl rfl (by kernel_rfl) (by kernel_rfl) (by kernel_rfl) (by kernel_rfl) (fun _ _ _ h => h) (by rfl) (by assumption) ?_ ?_
        rotate_left
        · (intro wS hSw; (try dsimp only at hSw); go_simp; try with_reducible rfl)
        try simp only [Act.put, List.setIfInBounds_toArray, List.set_cons_zero, List.set_cons_succ]
        refine uTake (i := 21) (some 98) (v := ?_) rfl rfl (by kernel_rfl) (by kernel_rfl) (by kernel_rfl) (by kernel_rfl) (fun _ _ _ h => h) (by rfl) (by assumption) ?_ ?_
        rotate_left
        · (intro wS hSw; (try dsimp only at hSw); go_simp; try with_reducible rfl)
        try simp only [Act.put, List.setIfInBounds_toArray, List.set_cons_zero, List.set_cons_succ]
        refine uTake (i := 22) (some 99) (v := .agg (usc vy.u vy.la vy.pa).toArray) rfl rfl (by kernel_rfl) (by kernel_rfl) (by kernel_rfl) (by kernel_rfl) (fun _ _ _ h => h) (by rfl) (by assumption) ?_ ?_
        · (intro wS hSw; (try dsimp only at hSw); revert hSw; (try simp only [and_imp]); intros; exact exec_load_b bUse _ rfl vb (vo + k * 166 + 83) rfl (usc vy.u vy.la vy.pa) (usc_len vyS.out _ _) (by assumption))
        try simp only [Act.put, List.setIfInBounds_toArray, List.set_cons_zero, List.set_cons_succ]
        refine uReady (rs := [23]) (by kernel_rfl) (by simp) ?_
        refine ReadyU.cons rfl (fun KK hKK => ?_) ReadyU.nil
        go_simp
        refine (sameu_c uy.u vy.u (E13.out.fc 7 rfl) (E13.out.fc 3 rfl) Bu.out.2 Bv.out.2 (t := true) ⟨fun _ => HEQ.out.2, fun _ => rfl⟩).mono ?_
        rintro e w9 ⟨rfl, hb⟩
        have E14 : Hid (Env D w [(w5.heap.size, 25, [.slice sa sX.length sk]), (w4.heap.size, 25, [.slice da dX.length dk]), (w.heap.size + 1, 25, [.slice ya Y.length yk]), (w.heap.size, 25, [.slice xa X.length xk])] [.gn (gRg vb (vo + k * 166) (usc vx.u vx.la vx.pa)), .gn (gSp vx.u.sp vx.la vx.pa), .gn (gRg vb (vo + k * 166 + 83) (usc vy.u vy.la vy.pa)), .gn (gSp vy.u.sp vy.la vy.pa), .gn (gRg ub (uo + k * 166) (usc ux.u ux.la ux.pa)), .gn (gSp ux.u.sp ux.la ux.pa), .gn (gRg ub (uo + k * 166 + 83) (usc uy.u uy.la uy.pa)), .gn (gSp uy.u.sp uy.la uy.pa), .gn (gPl (.slice (some ⟨vb, vo, none⟩) sY.length sj) sY), .gn (gUl (.slice sa sX.length sk) sX), .gn (gPl (.slice (some ⟨ub, uo, none⟩) dY.length dj) dY), .gn (gUl (.slice da dX.length dk) dX), .rw (.slice ra l.length rk) l.length 11 l.flatten, .gn (gUl (.slice ya Y.length yk) Y), .gn (gUl (.slice xa X.length xk) X)] w9) := Lib.hid (E13.out.below hb)
        clear E13 hb
        (try dsimp only)
        clear hHeld
        refine hKK.out _ _ (⟨(E14.out.fc 4 rfl).2, (E14.out.fc 0 rfl).2, (E14.out.fc 6 rfl).2, (E14.out.fc 2 rfl).2⟩) (fun hHeld => ?_)
        clear hKK KK
        try simp only [Act.put, List.setIfInBounds_toArray, List.set_cons_zero, List.set_cons_succ]
        refine uTake (i := 24) (some 101) (v := ?_) rfl rfl (by kernel_rfl) (by kernel_rfl) (by kernel_rfl) (by kernel_rfl) (fun _ _ _ h => h) (by rfl) (by assumption) ?_ ?_
        rotate_left
        · (intro wS hSw; (try dsimp only at hSw); go_simp; try with_reducible rfl)
        try simp only [Act.put, List.setIfInBounds_toArray, List.set_cons_zero, List.set_cons_succ]
        refine uTake (i := 25) (some 102) (v := ?_) rfl rfl (by kernel_rfl) (by kernel_rfl) (by kernel_rfl) (by kernel_rfl) (fun _ _ _ h => h) (by rfl) (by assumption) ?_ ?_
        rotate_left
        · (intro wS hSw; (try dsimp only at hSw); go_simp; try with_reducible rfl)
        try simp only [Act.put, List.setIfInBounds_toArray, List.set_cons_zero, List.set_cons_succ]
        refine uDone (by kernel_rfl) ?_ _
        have EZ := Lib.hid ((((((((E14.out.forget).forget).forget).forget).forget).forget).forget).forget)
        go_wp2
        go_roundg (dY.length - (k + 1))
        case rel => exact ⟨k + 1, rfl, EZ, Lib.hid ⟨by omega, rfl⟩⟩
        case measure => exact by omega
end Go.Proofs.Ytfnnfmefihiefaa

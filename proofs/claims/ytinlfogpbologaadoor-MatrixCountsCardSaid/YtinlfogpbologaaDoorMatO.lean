/- matrix: system. -/
import Derived.Test.YtinlfogpbologaaDoorMatN
namespace Go.Proofs.YtinlfogpbologaaDoor
open Go.RowKit DivMath WordMath
set_option linter.unusedVariables false
set_option linter.unusedSimpArgs false
set_option maxRecDepth 100000 in
set_option maxHeartbeats 8000000 in
theorem sys_ok {D : Nat → Prop} (q n : Nat) (L : List (List Nat)) (b : List Nat) {xa ya : Option Addr} {xk yk : Nat} {w : World} (hx : Fct.at w D (.mx (.slice xa L.length xk) (L.map nl))) (hy : Fct.at w D (.rw (.slice ya b.length yk) b.length 1 (ncl b))) (hl0 : Laid w) (hv0 : MvI q n L) (hne : b.length = L.length) (hs0 : ∀ c ∈ b, c < q) {t : Bool} (ht0 : noneB n (redN q (sysL L b) n) = t) :
    Calls Tryd.prog 74 #[.int .i64 (q : Nat), .slice xa L.length xk, .slice ya b.length yk] w fun e w' => RetSys (fun b => D b ∨ w.heap.size ≤ b) t (redN q (sysL L b) n) e w' ∧ Below w.heap.size w w' := by
  have E0 : Hid (Env D w [] [.rw (.slice ya b.length yk) b.length 1 (ncl b), .mx (.slice xa L.length xk) (L.map nl)] w) := Lib.hid (((Env.start D w).arg (.mx (.slice xa L.length xk) (L.map nl)) hx).arg (.rw (.slice ya b.length yk) b.length 1 (ncl b)) hy)
  clear hx hy
  go_enter Tryd.func74, Tryd.ntmps74
  have hl := Lib.hid hl0
  have hv := Lib.hid hv0
  have hs := Lib.hid hs0
  have ht := Lib.hid ht0
  clear hl0 hv0 hs0 ht0
  have HNE := Lib.hid hne
  clear hne
  have m30 := hv.out.m30
  have n30 := hv.out.n30
  have hz : 0 < L.length := hv.out.m1
  have hzI : (0 : Int) < (L.length : Int) := by omega
  have n1 : ((b.length : Int) != (L.length : Int)) = false := by have h2 := HNE.out; rw [h2]; simp
  have n2 : (b.length != L.length) = false := by have h2 := HNE.out; rw [h2]; simp
  have hx9 : b.length ≤ 1000000 := by have := HNE.out; omega
  have HQ : Hid (0 < q) := Lib.hid (by have := hv.out.q2; omega)
  have HSR : Hid (ResM q (n + 1) (sysL L b)) := Lib.hid (sysL_res hv.out.res hs.out HNE.out)
  go_wp2_with fail
  refine (mValidN (E0.out.fc 1 rfl) (hl.out.below E0.out.bel) hv.out).mono ?_
  rintro e w1 ⟨rfl, hb⟩
  have E1 : Hid (Env D w [] [.rw (.slice ya b.length yk) b.length 1 (ncl b), .mx (.slice xa L.length xk) (L.map nl)] w1) := Lib.hid (E0.out.below hb)
  clear E0 hb
  go_wp2_with fail
  refine (scalN_c q b (E1.out.fc 0 rfl) hs.out hx9).mono ?_
  rintro e w2 ⟨rfl, hb⟩
  have E2 : Hid (Env D w [] [.rw (.slice ya b.length yk) b.length 1 (ncl b), .mx (.slice xa L.length xk) (L.map nl)] w2) := Lib.hid (E1.out.below hb)
  clear E1 hb
  go_wp2_with fail
  refine (copied_c L (E2.out.fc 1 rfl) (by omega) hv.out.cp).mono ?_
  rintro e w3 ⟨⟨cg, cR, rfl, cH, cF⟩, hb⟩
  have E3 : Hid (Env D w ((mbx cg cR) ++ []) [.rw (.slice ya b.length yk) b.length 1 (ncl b), .mx (.slice xa L.length xk) (L.map nl)] w3) := Lib.hid ((E2.out.gotSeg hb cF).cast (by simp))
  clear E2 hb
  have crl : Hid (cR.length = L.length) := Lib.hid (by have h := congrArg List.length cH.out.1; simpa using h)
  go_upto_region 6 with (fail)
  skip
  clear n1 n2
  go_wp2_with fail
  go_loopg [34] (L.length) (fun gk s34 wr => ∃ (i : Nat) (R1 : List Rb), s34 = .int .i64 (i : Int) ∧ Hid (Env D w ((mbx cg R1) ++ []) [.rw (.slice ya b.length yk) b.length 1 (ncl b), .mx (.slice xa L.length xk) (L.map nl)] wr) ∧ Hid ((i ≤ L.length ∧ gk = L.length - i) ∧ mrows R1 = mix (sysL L b) L i ∧ CapOk R1))
  case atStart => exact ⟨0, cR, rfl, Lib.hid E3.out, Lib.hid ⟨⟨Nat.zero_le _, rfl⟩, by rw [mix_zero]; exact cH.out.1, cH.out.2⟩⟩
  case round =>
    clear E3
    obtain ⟨i, R1, rfl, EL, HA⟩ := hrel
    obtain ⟨⟨a1, a2⟩, a3, a4⟩ := HA.out
    have HS := Lib.hid a3
    have HC := Lib.hid a4
    clear a3 a4 HA
    have HL1 : Hid (R1.length = L.length) := Lib.hid (by have h := congrArg List.length HS.out; rw [mix_len sysL_len, sysL_len] at h; simpa using h)
    by_cases hy : i = L.length
    rotate_left
    · have hi : i < L.length := by omega
      have t6 : decide ((i : Int) < (L.length : Int)) = true := decide_eq_true (by omega)
      have t6n : decide (i < L.length) = true := decide_eq_true (by omega)
      have hiI : (i : Int) < (L.length : Int) := by omega
      clear hy
      go_upto_region 9 with (fail)
      have hi1 : i < R1.length := by rw [HL1.out]; exact hi
      have hib : i < b.length := by rw [HNE.out]; exact hi
      have hibI : (i : Int) < (b.length : Int) := by omega
      obtain ⟨⟨rb, rl, rx⟩, re⟩ : ∃ r, R1[i]? = some r := ⟨_, List.getElem?_eq_getElem hi1⟩
      have rE := Lib.hid re
      clear re
      obtain ⟨yab, yao, rfl⟩ := Rw.addr (EL.out.fc 0 rfl) (by omega)
      have E4 : Hid (Env D w ((mbx cg R1) ++ []) [.ce yab (yao + i) (.int .i64 (b[i] : Nat)), .rw (.slice (some ⟨yab, yao, none⟩) b.length yk) b.length 1 (ncl b), .mx (.slice xa L.length xk) (L.map nl)] _) := Lib.hid (EL.out.elN 0 rfl rfl (i) hib)
      clear EL
      have v0 := (E4.out.fc 0 rfl).2
      have HRG : Hid (rl = L[i]) := Lib.hid (by have h := mrows_get rE.out; rw [HS.out, mix_old sysL_len (Nat.le_refl _), List.getElem?_eq_getElem hi] at h; exact (Option.some.inj h).symm)
      have HRN : Hid (rl.length ≤ 30) := Lib.hid (by rw [HRG.out, (hv.out.res _ (List.getElem_mem hi)).1]; exact n30)
      go_wp2_with fail
      have E5 : Hid (Env D w ((mbx cg R1) ++ []) [.ce yab (yao + i) (.int .i64 (b[i] : Nat)), .rw (.slice (some ⟨yab, yao, none⟩) b.length yk) b.length 1 (ncl b), .mx (.slice xa L.length xk) (L.map nl)] (wr.drew)) := Lib.hid E4.out.drew
      clear v0 E4
      refine wp_regionU (S := fun w' => w'.cell? ⟨cg, i, none⟩ = some (.slice (some ⟨rb, 0, none⟩) rl.length (rl.length + rx.length)) ∧ w'.cell? ⟨yab, yao + i, none⟩ = some (.int .i64 (b[i] : Nat))) [13] (by kernel_rfl) (⟨(E5.out.mh (A := []) (B := []) rfl).cell i (by rw [List.getElem?_map, rE.out]; rfl), (E5.out.fc 0 rfl).2⟩) (fun hHeld => ?_)
      generalize wr.drew = w4 at *
      refine uTake (i := 0) (some 37) (v := ?_) rfl rfl (by kernel_rfl) (by kernel_rfl) (by kernel_rfl) (by kernel_rfl) (fun _ _ _ h => h) (by rfl) (by assumption) ?_ ?_
      rotate_left
      · (intro wS hSw; (try dsimp only at hSw); go_simp; try with_reducible rfl)
      try simp only [Act.put, List.setIfInBounds_toArray, List.set_cons_zero, List.set_cons_succ]
      refine uTake (i := 1) (some 38) (v := ?_) rfl rfl (by kernel_rfl) (by kernel_rfl) (by kernel_rfl) (by kernel_rfl) (fun _ _ _ h => h) (by rfl) (by assumption) ?_ ?_
      rotate_left
      · (intro wS hSw; (try dsimp only at hSw); go_simp; try with_reducible rfl)
      try simp only [Act.put, List.setIfInBounds_toArray, List.set_cons_zero, List.set_cons_succ]
      refine uTake (i := 2) (some 39) (v := ?_) rfl rfl (by kernel_rfl) (by kernel_rfl) (by kernel_rfl) (by kernel_rfl) (fun _ _ _ h => h) (by rfl) (by assumption) ?_ ?_
      rotate_left
      · (intro wS hSw; (try dsimp only at hSw); go_simp; try with_reducible rfl)
      try simp only [Act.put, List.setIfInBounds_toArray, List.set_cons_zero, List.set_cons_succ]
      refine uTake (i := 3) (some 40) (v := ?_) rfl rfl (by kernel_rfl) (by kernel_rfl) (by kernel_rfl) (by kernel_rfl) (fun _ _ _ h => h) (by rfl) (by assumption) ?_ ?_
      rotate_left
      · (intro wS hSw; (try dsimp only at hSw); go_simp; try with_reducible rfl)
      try simp only [Act.put, List.setIfInBounds_toArray, List.set_cons_zero, List.set_cons_succ]
      refine uTake (i := 4) (some 41) (v := ?_) rfl rfl (by kernel_rfl) (by kernel_rfl) (by kernel_rfl) (by kernel_rfl) (fun _ _ _ h => h) (by rfl) (by assumption) ?_ ?_
      rotate_left
      · (intro wS hSw; (try dsimp only at hSw); go_simp; try with_reducible rfl)
      try simp only [Act.put, List.setIfInBounds_toArray, List.set_cons_zero, List.set_cons_succ]
      refine uTake (i := 5) (some 42) (v := ?_) rfl rfl (by kernel_rfl) (by kernel_rfl) (by kernel_rfl) (by kernel_rfl) (fun _ _ _ h => h) (by rfl) (by assumption) ?_ ?_
      rotate_left
      · (intro wS hSw; (try dsimp only at hSw); go_simp; try with_reducible rfl)
      try simp only [Act.put, List.setIfInBounds_toArray, List.set_cons_zero, List.set_cons_succ]
      refine uTake (i := 6) (some 43) (v := ?_) rfl rfl (by kernel_rfl) (by kernel_rfl) (by kernel_rfl) (by kernel_rfl) (fun _ _ _ h => h) (by rfl) (by assumption) ?_ ?_
      rotate_left
      · (intro wS hSw; (try dsimp only at hSw); go_simp; try with_reducible rfl)
      try simp only [Act.put, List.setIfInBounds_toArray, List.set_cons_zero, List.set_cons_succ]
      refine uTake (i := 7) (some 44) (v := ?_) rfl rfl (by kernel_rfl) (by kernel_rfl) (by kernel_rfl) (by kernel_rfl) (fun _ _ _ h => h) (by rfl) (by assumption) ?_ ?_
      rotate_left
      · (intro wS hSw; (try dsimp only at hSw); go_simp; try with_reducible rfl)
      try simp only [Act.put, List.setIfInBounds_toArray, List.set_cons_zero, List.set_cons_succ]
      refine uTake (i := 8) (some 45) (v := ?_) rfl rfl (by kernel_rfl) (by kernel_rfl) (by kernel_rfl) (by kernel_rfl) (fun _ _ _ h => h) (by rfl) (by assumption) ?_ ?_
      rotate_left
      · (intro wS hSw; (try dsimp only at hSw); go_simp; try with_reducible rfl)
      try simp only [Act.put, List.setIfInBounds_toArray, List.set_cons_zero, List.set_cons_succ]
      refine uTake (i := 9) (some 46) (v := ?_) rfl rfl (by kernel_rfl) (by kernel_rfl) (by kernel_rfl) (by kernel_rfl) (fun _ _ _ h => h) (by rfl) (by assumption) ?_ ?_
      rotate_left
      · (intro wS hSw; (try dsimp only at hSw); go_simp; try with_reducible rfl)
      try simp only [Act.put, List.setIfInBounds_toArray, List.set_cons_zero, List.set_cons_succ]
      refine uReady (rs := [10]) (by kernel_rfl) (by simp) ?_
      refine ReadyU.cons rfl (fun KK hKK => ?_) ReadyU.nil
      go_simp
      have E6 : Hid (Env D w ((w4.heap.size, 3, [.int .i64 (b[i] : Nat)]) :: ((mbx cg R1) ++ [])) [.ce yab (yao + i) (.int .i64 (b[i] : Nat)), .rw (.slice (some ⟨yab, yao, none⟩) b.length yk) b.length 1 (ncl b), .mx (.slice xa L.length xk) (L.map nl)] _) := Lib.hid ((E5.out.push 3 [.int .i64 (b[i] : Nat)] (w4.heap.size) (by simp)))
      (try dsimp only)
      clear hHeld
      refine hKK.out _ _ (⟨(E6.out.mh (A := [(w4.heap.size, 3, [.int .i64 (b[i] : Nat)])]) (B := []) rfl).cell i (by rw [List.getElem?_map, rE.out]; rfl), (E6.out.fc 0 rfl).2⟩) (fun hHeld => ?_)
      clear hKK KK
      try simp only [Act.put, List.setIfInBounds_toArray, List.set_cons_zero, List.set_cons_succ]
      clear E5
      generalize w4.alloc (.cells #[.int .i64 (b[i] : Nat)] 3) = w5 at *
      refine uReady (rs := [11]) (by kernel_rfl) (by simp) ?_
      refine ReadyU.cons rfl (fun KK hKK => ?_) ReadyU.nil
      refine op_mapp (c := 1) (news := [b[i]]) (m := 1) (some 48) rfl rfl (.tmp 42) (.tmp 47) rfl E6.out (A := [(w4.heap.size, 3, [.int .i64 (b[i] : Nat)])]) (B := []) rfl rE.out HC.out (by decide) (by simp [Act.eval, Act.put]) (by simp [Act.eval, Act.put]; done) (SrcN.int (E6.out.bx 0 rfl)) rfl (Nat.le_trans (Nat.add_le_add_right HRN.out 1) (by omega)) ?_
      intro nr w6 nH nE
      have E7 : Hid (Env D w ((w4.heap.size, 3, [.int .i64 (b[i] : Nat)]) :: ((mbh cg (R1.map Rb.hd) (R1.set i nr)) ++ [])) [.ce yab (yao + i) (.int .i64 (b[i] : Nat)), .rw (.slice (some ⟨yab, yao, none⟩) b.length yk) b.length 1 (ncl b), .mx (.slice xa L.length xk) (L.map nl)] w6) := Lib.hid (nE.out.cast (by first | rfl | simp))
      clear E6 nE
      (try dsimp only)
      clear hHeld
      refine hKK.out _ _ (⟨(E7.out.mh (A := [(w4.heap.size, 3, [.int .i64 (b[i] : Nat)])]) (B := []) rfl).cell i (by rw [List.getElem?_map, rE.out]; rfl), (E7.out.fc 0 rfl).2⟩) (fun hHeld => ?_)
      clear hKK KK
      try simp only [Act.put, List.setIfInBounds_toArray, List.set_cons_zero, List.set_cons_succ]
      refine uTake (i := 12) (some 49) (v := ?_) rfl rfl (by kernel_rfl) (by kernel_rfl) (by kernel_rfl) (by kernel_rfl) (fun _ _ _ h => h) (by rfl) (by assumption) ?_ ?_
      rotate_left
      · (intro wS hSw; (try dsimp only at hSw); go_simp; try with_reducible rfl)
      try simp only [Act.put, List.setIfInBounds_toArray, List.set_cons_zero, List.set_cons_succ]
      have fz := (E7.out.mh (A := [(w4.heap.size, 3, [.int .i64 (b[i] : Nat)])]) (B := []) rfl).frozen i
      have cz := (E7.out.mh (A := [(w4.heap.size, 3, [.int .i64 (b[i] : Nat)])]) (B := []) rfl).cell i (show (R1.map Rb.hd)[i]? = _ from (by rw [List.getElem?_map, rE.out]; rfl))
      refine uReady (rs := [13]) (by kernel_rfl) (by simp) ?_
      refine ReadyU.consU (by kernel_rfl) rfl (fun KK hKK => ?_) ReadyU.nil
      go_simp
      have E8 : Hid (Env D w ((w4.heap.size, 3, [.int .i64 (b[i] : Nat)]) :: ((mbh cg ((R1.map Rb.hd).set i (.slice (some ⟨nr.b, 0, none⟩) nr.l.length (nr.l.length + nr.x.length))) (R1.set i nr)) ++ [])) [.ce yab (yao + i) (.int .i64 (b[i] : Nat)), .rw (.slice (some ⟨yab, yao, none⟩) b.length yk) b.length 1 (ncl b), .mx (.slice xa L.length xk) (L.map nl)] _) := Lib.hid ((E7.out.mhset (A := [(w4.heap.size, 3, [.int .i64 (b[i] : Nat)])]) (B := []) rfl i (.slice (some ⟨nr.b, 0, none⟩) nr.l.length (nr.l.length + nr.x.length))))
      (try dsimp only)
      (try clear hHeld)
      refine hKK.out _ _ ?_
      clear hKK KK
      try simp only [Act.put, List.setIfInBounds_toArray, List.set_cons_zero, List.set_cons_succ]
      refine uDone (by kernel_rfl) ?_ _
      have E9 : Hid (Env D w ((w4.heap.size, 3, [.int .i64 (b[i] : Nat)]) :: ((mbx cg (R1.set i nr)) ++ [])) [.ce yab (yao + i) (.int .i64 (b[i] : Nat)), .rw (.slice (some ⟨yab, yao, none⟩) b.length yk) b.length 1 (ncl b), .mx (.slice xa L.length xk) (L.map nl)] _) := Lib.hid (by have h := E8.out; rw [show .slice (some ⟨nr.b, 0, none⟩) nr.l.length (nr.l.length + nr.x.length) = nr.hd from rfl, hd_put rE.out] at h; exact h)
      have HNX : Hid (mrows (R1.set i nr) = mix (sysL L b) L (i + 1)) := Lib.hid (by unfold mrows; rw [List.map_set, nH.out.1, show R1.map Rb.l = mix (sysL L b) L i from HS.out]; exact mix_set sysL_len (by rw [sysL_len]; exact hi) (by rw [sysL_get hi hib]; simp only [HRG.out]))
      have EZ := Lib.hid ((E9.out.drop).forget)
      go_wp2
      go_roundg (L.length - (i + 1))
      case rel => exact ⟨i + 1, R1.set i nr, rfl, EZ, Lib.hid ⟨⟨by omega, rfl⟩, HNX.out, nH.out.2⟩⟩
      case measure => exact by omega
    have t6 : decide ((i : Int) < (L.length : Int)) = false := decide_eq_false (by omega)
    have t6n : decide (i < L.length) = false := decide_eq_false (by omega)
    have HMS : Hid (mrows R1 = sysL L b) := Lib.hid (by rw [HS.out, hy, mix_full sysL_len (Nat.le_of_eq sysL_len)])
    clear hy
    go_upto_region 11 with (fail)
    obtain ⟨xab, xao, rfl⟩ := Mx.addrN (EL.out.fc 1 rfl) hz
    obtain ⟨ua, uk, E40⟩ := EL.out.elMN 1 rfl (0) hz
    have E4 : Hid (Env D w ((mbx cg R1) ++ []) [.ce xab (xao) (.slice ua L[0].length uk), .rw (.slice ua L[0].length uk) L[0].length 1 (ncl L[0]), .rw (.slice ya b.length yk) b.length 1 (ncl b), .mx (.slice (some ⟨xab, xao, none⟩) L.length xk) (L.map nl)] _) := Lib.hid E40
    clear E40 EL
    have u0 := (E4.out.fc 0 rfl).2
    have HL0 : Hid (L[0].length = n) := Lib.hid (hv.out.res _ (List.getElem_mem hz)).1
    have zRD := reduce_c q (n + 1) L[0].length R1 (A0 := []) (B0 := []) (Lib.hid E4.out) hv.out.q2 hv.out.qT (by rw [HMS.out]; exact HSR.out) (by rw [HL0.out]; omega) (by rw [HL1.out]; omega) (by omega) HC.out
    rw [HL1.out] at zRD
    have zRE := Lib.hid zRD
    clear zRD
    go_wp2_with fail
    refine (zRE.out).mono ?_
    rintro e w4 ⟨zR, zP, za, zk, rfl, zH, zE9⟩
    have E5 : Hid (Env D w ((mbx cg zR) ++ []) [.rw (.slice za zP.length zk) zP.length 1 (ncl zP), .ce xab (xao) (.slice ua L[0].length uk), .rw (.slice ua L[0].length uk) L[0].length 1 (ncl L[0]), .rw (.slice ya b.length yk) b.length 1 (ncl b), .mx (.slice (some ⟨xab, xao, none⟩) L.length xk) (L.map nl)] w4) := Lib.hid (zE9.out.cast (by first | rfl | simp))
    clear u0 E4 zE9
    go_upto_region 13 with (fail)
    have HZ : Hid ((mrows zR, zP) = redN q (sysL L b) n) := Lib.hid (by have h := zH.out.1; rw [HMS.out, HL0.out] at h; exact h)
    have HZI : Hid (RedI q (n + 1) L.length n (mrows zR, zP)) := Lib.hid (by have h := redN_ok HQ.out HSR.out n; rw [← HZ.out, sysL_len] at h; exact h)
    have HZL : Hid (zR.length = L.length) := Lib.hid (by have h := HZI.out.len; simpa using h)
    have hzp : zP.length ≤ L.length := HZI.out.few.1
    have hzpI : (zP.length : Int) ≤ (L.length : Int) := by omega
    have hw9 : wrap64 ((L.length : Int) - (zP.length : Int)) = ((L.length - zP.length : Nat) : Int) := by rw [IntWalk.wrap64_in _ (by omega)]; omega
    by_cases hpe : L.length = zP.length
    · have hpe1 : (L.length = zP.length) = True := eq_true hpe
      have HPE := Lib.hid hpe
      clear hpe
      go_wp2_with fail
      clear t6 t6n a1 a2 hpe1
      go_loopg [64, 6, 7] (L.length - zP.length) (fun gk s64 s6 s7 wr => ∃ (k : Nat), s64 = .int .i64 (k : Int) ∧ s6 = .slice (some ⟨cg, 0, none⟩) L.length L.length ∧ s7 = .slice za zP.length zk ∧ Hid (Env D w ((mbx cg zR) ++ []) [.rw (.slice za zP.length zk) zP.length 1 (ncl zP), .ce xab (xao) (.slice ua L[0].length uk), .rw (.slice ua L[0].length uk) L[0].length 1 (ncl L[0]), .rw (.slice ya b.length yk) b.length 1 (ncl b), .mx (.slice (some ⟨xab, xao, none⟩) L.length xk) (L.map nl)] wr) ∧ Hid ((k ≤ L.length - zP.length ∧ gk = L.length - zP.length - k) ∧ ∀ j, j < k → ((mrows zR).getD (zP.length + j) []).getD n 0 = 0))
      case atStart => exact ⟨0, rfl, rfl, rfl, Lib.hid E5.out, Lib.hid ⟨⟨Nat.zero_le _, rfl⟩, fun j h => absurd h (Nat.not_lt_zero _)⟩⟩
      case round =>
        clear E5
        obtain ⟨k, rfl, rfl, rfl, EL, HA⟩ := hrel
        obtain ⟨⟨a1, a2⟩, a3⟩ := HA.out
        have HK := Lib.hid a3
        clear a3 HA
        have HML : Hid ((mrows zR).length = L.length) := Lib.hid (by rw [List.length_map]; exact HZL.out)
        by_cases hy : k = L.length - zP.length
        · have t6 : decide ((k : Int) < ((L.length - zP.length : Nat) : Int)) = false := decide_eq_false (by omega)
          have t6n : decide (k < L.length - zP.length) = false := decide_eq_false (by omega)
          have HTF : Hid (t = false) := Lib.hid (by rw [← ht.out, ← HZ.out]; exact noneB_no (k := 0) (fun j hj => HK.out j (by simp only [HML.out] at hj; omega)))
          clear hy
          have hbel := Lib.hid EL.out.bel
          go_wp2
          refine bodyPost_ret (results_tmp3 rfl _ _ _) rfl ?_
          have EF := Env.freezeM (A := []) (B := []) (g := cg) (R := zR) (EL.out.cast (by first | rfl | simp)) (by rw [HZL.out]; omega) zH.out.2
          have h1 : Fct.at _ _ _ := EF.out 0 rfl
          have h2 : Fct.at _ _ _ := EF.out 1 rfl
          have hml := HML.out
          have hzl := HZL.out
          rw [hzl] at h1
          refine ⟨.inr ⟨HTF.out, ?_⟩, hbel.out⟩
          rw [← HZ.out]
          simp only [hml]
          exact ⟨some ⟨cg, 0, none⟩, L.length, za, zk, rfl, Lib.hid h1, Lib.hid h2⟩
        exact absurd HPE.out (by omega)
    · have hpe1 : (L.length = zP.length) = False := eq_false hpe
      have HPE := Lib.hid hpe
      clear hpe
      go_wp2_with fail
      clear t6 t6n a1 a2 hpe1
      go_loopg [64, 6, 7] (L.length - zP.length) (fun gk s64 s6 s7 wr => ∃ (k : Nat), s64 = .int .i64 (k : Int) ∧ s6 = .slice (some ⟨cg, 0, none⟩) L.length L.length ∧ s7 = .slice za zP.length zk ∧ Hid (Env D w ((mbx cg zR) ++ []) [.rw (.slice za zP.length zk) zP.length 1 (ncl zP), .ce xab (xao) (.slice ua L[0].length uk), .rw (.slice ua L[0].length uk) L[0].length 1 (ncl L[0]), .rw (.slice ya b.length yk) b.length 1 (ncl b), .mx (.slice (some ⟨xab, xao, none⟩) L.length xk) (L.map nl)] wr) ∧ Hid ((k ≤ L.length - zP.length ∧ gk = L.length - zP.length - k) ∧ ∀ j, j < k → ((mrows zR).getD (zP.length + j) []).getD n 0 = 0))
      case atStart => exact ⟨0, rfl, rfl, rfl, Lib.hid E5.out, Lib.hid ⟨⟨Nat.zero_le _, rfl⟩, fun j h => absurd h (Nat.not_lt_zero _)⟩⟩
      case round =>
        clear E5
        obtain ⟨k, rfl, rfl, rfl, EL, HA⟩ := hrel
        obtain ⟨⟨a1, a2⟩, a3⟩ := HA.out
        have HK := Lib.hid a3
        clear a3 HA
        have HML : Hid ((mrows zR).length = L.length) := Lib.hid (by rw [List.length_map]; exact HZL.out)
        by_cases hy : k = L.length - zP.length
        · have t6 : decide ((k : Int) < ((L.length - zP.length : Nat) : Int)) = false := decide_eq_false (by omega)
          have t6n : decide (k < L.length - zP.length) = false := decide_eq_false (by omega)
          have HTF : Hid (t = false) := Lib.hid (by rw [← ht.out, ← HZ.out]; exact noneB_no (k := 0) (fun j hj => HK.out j (by simp only [HML.out] at hj; omega)))
          clear hy
          have hbel := Lib.hid EL.out.bel
          go_wp2
          refine bodyPost_ret (results_tmp3 rfl _ _ _) rfl ?_
          have EF := Env.freezeM (A := []) (B := []) (g := cg) (R := zR) (EL.out.cast (by first | rfl | simp)) (by rw [HZL.out]; omega) zH.out.2
          have h1 : Fct.at _ _ _ := EF.out 0 rfl
          have h2 : Fct.at _ _ _ := EF.out 1 rfl
          have hml := HML.out
          have hzl := HZL.out
          rw [hzl] at h1
          refine ⟨.inr ⟨HTF.out, ?_⟩, hbel.out⟩
          rw [← HZ.out]
          simp only [hml]
          exact ⟨some ⟨cg, 0, none⟩, L.length, za, zk, rfl, Lib.hid h1, Lib.hid h2⟩
        have HPE2 := HPE.out
        have hk : k < L.length - zP.length := by omega
        have t6 : decide ((k : Int) < ((L.length - zP.length : Nat) : Int)) = true := decide_eq_true (by omega)
        have t6n : decide (k < L.length - zP.length) = true := decide_eq_true hk
        have hkI : (k : Int) < ((L.length - zP.length : Nat) : Int) := by omega
        clear hy
        go_upto_region 15 with (fail)
        have hkz : zP.length + k < zR.length := by rw [HZL.out]; omega
        obtain ⟨⟨sb, sl, sx⟩, se⟩ : ∃ r, zR[zP.length + k]? = some r := ⟨_, List.getElem?_eq_getElem hkz⟩
        have sE := Lib.hid se
        clear se
        have mh1 : World.cell? _ ⟨cg, zP.length + k, none⟩ = some (.slice (some ⟨sb, 0, none⟩) sl.length (sl.length + sx.length)) := EL.out.mhd (A := []) (B := []) rfl sE.out
        have HSG : Hid ((mrows zR)[zP.length + k]? = some sl) := Lib.hid (mrows_get sE.out)
        have HSL : Hid (sl.length = n + 1) := Lib.hid (HZI.out.res _ (List.mem_of_getElem? HSG.out)).1
        have hns : n < sl.length := by rw [HSL.out]; omega
        have hLs : L[0].length < sl.length := by rw [HL0.out]; exact hns
        have hLsI : (L[0].length : Int) < (sl.length : Int) := by omega
        have HDS : Hid (((mrows zR).getD (zP.length + k) []).getD n 0 = sl[L[0].length]) := Lib.hid (by rw [getD_of HSG.out, ← HL0.out, getD_elem hLs])
        have mc2 : World.cell? _ ⟨sb, L[0].length, none⟩ = some (.int .i64 (sl[L[0].length] : Nat)) := EL.out.mcell (A := []) (B := []) rfl sE.out hLs
        by_cases hs0 : sl[L[0].length] = 0
        · have e1 : (((sl[L[0].length] : Nat) : Int) != 0) = false := by rw [hs0]; rfl
          have e2 : (sl[L[0].length] != 0) = false := by rw [hs0]; rfl
          have HSZ := Lib.hid hs0
          clear hs0
          have EZ := Lib.hid EL.out
          go_wp2
          go_roundg (L.length - zP.length - (k + 1))
          case rel => exact ⟨k + 1, rfl, rfl, rfl, EZ, Lib.hid ⟨⟨by omega, rfl⟩, fun j hj => by by_cases e : j = k; (· rw [e, HDS.out]; exact HSZ.out); exact HK.out j (by omega)⟩⟩
          case measure => exact by omega
        have e1 : (((sl[L[0].length] : Nat) : Int) != 0) = true := by rw [bne_iff_ne]; omega
        have e2 : (sl[L[0].length] != 0) = true := by rw [bne_iff_ne]; exact hs0
        have HTT : Hid (t = true) := Lib.hid (by rw [← ht.out, ← HZ.out]; exact noneB_yes (show zP.length + k < (mrows zR).length from by rw [HML.out]; omega) (show ((mrows zR).getD (zP.length + k) []).getD n 0 ≠ 0 from by rw [HDS.out]; exact hs0))
        clear hs0
        have hfin := Lib.hid EL.out.bel
        go_wp2
        refine bodyPost_ret (results_tmp3 rfl _ _ _) rfl ?_
        exact ⟨.inl ⟨HTT.out, rfl⟩, hfin.out⟩
end Go.Proofs.YtinlfogpbologaaDoor

/- Merge. -/
import Derived.Test.YtfnnfmefihiefaaSpBb
namespace Go.Proofs.Ytfnnfmefihiefaa
open Go.RowKit
set_option linter.unusedVariables false
set_option linter.unusedSimpArgs false
set_option maxRecDepth 100000 in
set_option maxHeartbeats 8000000 in
theorem merge_c {D : Nat → Prop} (X Y : List Uv) {xa ya : Option Addr} {xk yk : Nat} {w : World} (hx : Fct.at w D (.gn (gUl (.slice xa X.length xk) X))) (hy : Fct.at w D (.gn (gUl (.slice ya Y.length yk) Y))) (hb0 : ∀ x ∈ X, x.u.sp.lv.length ≤ 1000000 ∧ x.u.sp.pa.length ≤ 1000000) (hc0 : ∀ x ∈ Y, x.u.sp.lv.length ≤ 1000000 ∧ x.u.sp.pa.length ≤ 1000000) (hm0 : X.length ≤ 50000 ∧ Y.length ≤ 50000) {L : List Us} {C : List (Us × Us)} {n : Int} (hr0 : mergeRes (X.map Uv.u) (Y.map Uv.u) = (L, C, n)) :
    Calls Try.prog 29 #[.agg #[.slice xa X.length xk], .agg #[.slice ya Y.length yk]] w fun e w' => RetTP (fun b => D b ∨ w.heap.size ≤ b) L C n e w' ∧ Below w.heap.size w w' := by
  have E0 : Hid (Env D w [] [.gn (gUl (.slice ya Y.length yk) Y), .gn (gUl (.slice xa X.length xk) X)] w) := Lib.hid (((Env.start D w).arg (.gn (gUl (.slice xa X.length xk) X)) hx).arg (.gn (gUl (.slice ya Y.length yk) Y)) hy)
  clear hx hy
  go_enter Try.func29, Try.ntmps29
  have hb := Lib.hid hb0
  have hc := Lib.hid hc0
  have hm := Lib.hid hm0
  have hr := Lib.hid hr0
  clear hb0 hc0 hm0 hr0
  have HL : Hid ((X.map Uv.u).length = X.length ∧ (Y.map Uv.u).length = Y.length) := Lib.hid ⟨List.length_map .., List.length_map ..⟩
  have hm9 := hm.out
  obtain ⟨v1, v1h⟩ : ∃ b : Bool, b = true ↔ ValidT (X.map Uv.u) := by by_cases h : ValidT (X.map Uv.u); (· exact ⟨true, ⟨fun _ => h, fun _ => rfl⟩⟩); exact ⟨false, ⟨fun h2 => Bool.noConfusion h2, fun h2 => absurd h2 h⟩⟩
  have v1H := Lib.hid v1h
  clear v1h
  obtain ⟨v2, v2h⟩ : ∃ b : Bool, b = true ↔ ValidT (Y.map Uv.u) := by by_cases h : ValidT (Y.map Uv.u); (· exact ⟨true, ⟨fun _ => h, fun _ => rfl⟩⟩); exact ⟨false, ⟨fun h2 => Bool.noConfusion h2, fun h2 => absurd h2 h⟩⟩
  have v2H := Lib.hid v2h
  clear v2h
  cases v1 with
  | false =>
    go_wp2_with fail
    have E1 : Hid (Env D w [(w.heap.size + 1 + 1, 25, [.slice none 0 0]), (w.heap.size + 1, 25, [.slice ya Y.length yk]), (w.heap.size, 25, [.slice xa X.length xk])] [.gn (gUl (.slice ya Y.length yk) Y), .gn (gUl (.slice xa X.length xk) X)] _) := Lib.hid ((((E0.out.push 25 [.slice xa X.length xk] (w.heap.size) (by simp)).push 25 [.slice ya Y.length yk] (w.heap.size + 1) (by simp)).push 25 [.slice none 0 0] (w.heap.size + 1 + 1) (by simp)))
    refine (valid_c X (E1.out.fc 1 rfl) hb.out (t := false) (by first | exact v1H.out | simpa using v1H.out) (by omega)).mono ?_
    rintro e w1 ⟨rfl, hb⟩
    have E2 : Hid (Env D w [(w.heap.size + 1 + 1, 25, [.slice none 0 0]), (w.heap.size + 1, 25, [.slice ya Y.length yk]), (w.heap.size, 25, [.slice xa X.length xk])] [.gn (gUl (.slice ya Y.length yk) Y), .gn (gUl (.slice xa X.length xk) X)] w1) := Lib.hid (E1.out.below hb)
    clear E0 E1 hb
    have b1 := E2.out.bx 0 rfl
    have c1_0 := b1.cell 0 rfl
    have f1_0 := b1.frozen 0
    clear b1
    have HR : Hid (L = [] ∧ C = [] ∧ n = 1) := Lib.hid (by have h := hr.out; rw [mergeRes_bad (.inl (by simpa using v1H.out))] at h; simpa [eq_comm] using h)
    go_wp2
    have E3 : Hid (Env D w [(w.heap.size + 1 + 1, 25, [.slice none 0 0]), (w.heap.size + 1, 25, [.slice ya Y.length yk]), (w.heap.size, 25, [.slice xa X.length xk])] [.gn (gUl (.slice ya Y.length yk) Y), .gn (gUl (.slice xa X.length xk) X)] _) := Lib.hid ((E2.out.set 0 0 (.slice none 0 0) rfl))
    have hfin := E3.out
    have q2 := (hfin.bx 0 rfl).cell 0 rfl
    exact bodyPost_ret (v := (.tuple #[.agg #[.slice none 0 0], .slice none 0 0, .int .i64 1])) (by simp [results, Try.results29, go_sem, q2]) rfl ⟨RetTP.fail HR.out, hfin.bel⟩
  | true =>
    cases v2 with
    | false =>
      go_wp2_with fail
      have E1 : Hid (Env D w [(w.heap.size + 1 + 1, 25, [.slice none 0 0]), (w.heap.size + 1, 25, [.slice ya Y.length yk]), (w.heap.size, 25, [.slice xa X.length xk])] [.gn (gUl (.slice ya Y.length yk) Y), .gn (gUl (.slice xa X.length xk) X)] _) := Lib.hid ((((E0.out.push 25 [.slice xa X.length xk] (w.heap.size) (by simp)).push 25 [.slice ya Y.length yk] (w.heap.size + 1) (by simp)).push 25 [.slice none 0 0] (w.heap.size + 1 + 1) (by simp)))
      refine (valid_c X (E1.out.fc 1 rfl) hb.out (t := true) (by first | exact v1H.out | simpa using v1H.out) (by omega)).mono ?_
      rintro e w1 ⟨rfl, hb⟩
      have E2 : Hid (Env D w [(w.heap.size + 1 + 1, 25, [.slice none 0 0]), (w.heap.size + 1, 25, [.slice ya Y.length yk]), (w.heap.size, 25, [.slice xa X.length xk])] [.gn (gUl (.slice ya Y.length yk) Y), .gn (gUl (.slice xa X.length xk) X)] w1) := Lib.hid (E1.out.below hb)
      clear E0 E1 hb
      have b1 := E2.out.bx 1 rfl
      have c1_0 := b1.cell 0 rfl
      clear b1
      go_wp2_with fail
      refine (valid_c Y (E2.out.fc 0 rfl) hc.out (t := false) (by first | exact v2H.out | simpa using v2H.out) (by omega)).mono ?_
      rintro e w2 ⟨rfl, hb⟩
      have E3 : Hid (Env D w [(w.heap.size + 1 + 1, 25, [.slice none 0 0]), (w.heap.size + 1, 25, [.slice ya Y.length yk]), (w.heap.size, 25, [.slice xa X.length xk])] [.gn (gUl (.slice ya Y.length yk) Y), .gn (gUl (.slice xa X.length xk) X)] w2) := Lib.hid (E2.out.below hb)
      clear c1_0 E2 hb
      have b2 := E3.out.bx 0 rfl
      have c2_0 := b2.cell 0 rfl
      have f2_0 := b2.frozen 0
      clear b2
      have HR : Hid (L = [] ∧ C = [] ∧ n = 1) := Lib.hid (by have h := hr.out; rw [mergeRes_bad (.inr (by simpa using v2H.out))] at h; simpa [eq_comm] using h)
      go_wp2
      have E4 : Hid (Env D w [(w.heap.size + 1 + 1, 25, [.slice none 0 0]), (w.heap.size + 1, 25, [.slice ya Y.length yk]), (w.heap.size, 25, [.slice xa X.length xk])] [.gn (gUl (.slice ya Y.length yk) Y), .gn (gUl (.slice xa X.length xk) X)] _) := Lib.hid ((E3.out.set 0 0 (.slice none 0 0) rfl))
      have hfin := E4.out
      have q3 := (hfin.bx 0 rfl).cell 0 rfl
      exact bodyPost_ret (v := (.tuple #[.agg #[.slice none 0 0], .slice none 0 0, .int .i64 1])) (by simp [results, Try.results29, go_sem, q3]) rfl ⟨RetTP.fail HR.out, hfin.bel⟩
    | true =>
      go_wp2_with fail
      have E1 : Hid (Env D w [(w.heap.size + 1 + 1, 25, [.slice none 0 0]), (w.heap.size + 1, 25, [.slice ya Y.length yk]), (w.heap.size, 25, [.slice xa X.length xk])] [.gn (gUl (.slice ya Y.length yk) Y), .gn (gUl (.slice xa X.length xk) X)] _) := Lib.hid ((((E0.out.push 25 [.slice xa X.length xk] (w.heap.size) (by simp)).push 25 [.slice ya Y.length yk] (w.heap.size + 1) (by simp)).push 25 [.slice none 0 0] (w.heap.size + 1 + 1) (by simp)))
      refine (valid_c X (E1.out.fc 1 rfl) hb.out (t := true) (by first | exact v1H.out | simpa using v1H.out) (by omega)).mono ?_
      rintro e w1 ⟨rfl, hb⟩
      have E2 : Hid (Env D w [(w.heap.size + 1 + 1, 25, [.slice none 0 0]), (w.heap.size + 1, 25, [.slice ya Y.length yk]), (w.heap.size, 25, [.slice xa X.length xk])] [.gn (gUl (.slice ya Y.length yk) Y), .gn (gUl (.slice xa X.length xk) X)] w1) := Lib.hid (E1.out.below hb)
      clear E0 E1 hb
      have b1 := E2.out.bx 1 rfl
      have c1_0 := b1.cell 0 rfl
      clear b1
      go_wp2_with fail
      refine (valid_c Y (E2.out.fc 0 rfl) hc.out (t := true) (by first | exact v2H.out | simpa using v2H.out) (by omega)).mono ?_
      rintro e w2 ⟨rfl, hb⟩
      have E3 : Hid (Env D w [(w.heap.size + 1 + 1, 25, [.slice none 0 0]), (w.heap.size + 1, 25, [.slice ya Y.length yk]), (w.heap.size, 25, [.slice xa X.length xk])] [.gn (gUl (.slice ya Y.length yk) Y), .gn (gUl (.slice xa X.length xk) X)] w2) := Lib.hid (E2.out.below hb)
      clear c1_0 E2 hb
      have HV : Hid (ValidT (X.map Uv.u)) := Lib.hid (v1H.out.1 (by simp))
      have HW : Hid (ValidT (Y.map Uv.u)) := Lib.hid (v2H.out.1 (by simp))
      have b2 := E3.out.bx 2 rfl
      have c2_0 := b2.cell 0 rfl
      clear b2
      go_wp2_with fail
      refine (copyAll_c X (E3.out.fc 1 rfl) ⟨by omega, hb.out⟩).mono ?_
      rintro e w3 ⟨⟨is, ic, ia, ik, iX, rfl, iM, iO, iH, iG⟩, hb⟩
      have E4 : Hid (Env D w ((w.heap.size + 1 + 1, 25, [.slice none 0 0]) :: (w.heap.size + 1, 25, [.slice ya Y.length yk]) :: (w.heap.size, 25, [.slice xa X.length xk]) :: is) [.gn (gUd iX), .gn (gUl (.slice ya Y.length yk) Y), .gn (gUl (.slice xa X.length xk) X)] w3) := Lib.hid ((E3.out.gotSegF (E3.out.gotSeg hb iH.out) (.gn (gUd iX)) iG.out).cast (by simp))
      clear c2_0 E3 hb
      have IM := Lib.hid iM
      clear iM
      have b3 := E4.out.bx 1 rfl
      have c3_0 := b3.cell 0 rfl
      clear b3
      have E5 : Hid (Env D w ((w.heap.size + 1 + 1, 25, [.slice none 0 0]) :: (w.heap.size + 1, 25, [.slice ya Y.length yk]) :: (w.heap.size, 25, [.slice xa X.length xk]) :: (is ++ ([] : List Bx))) [.gn (gPd []), .gn (gUd iX), .gn (gUl (.slice ya Y.length yk) Y), .gn (gUl (.slice xa X.length xk) X)] _) := Lib.hid ((E4.out.note (.gn (gPd [])) gPd.nil).cast (by simp))
      go_wp2_with fail
      have hZ := E5.out
      have ES : Hid (Env D w ((w.heap.size + 1 + 1, 25, [.slice none 0 0]) :: (w.heap.size + 1, 25, [.slice ya Y.length yk]) :: (w.heap.size, 25, [.slice xa X.length xk]) :: (is ++ ([] : List Bx))) [.gn (gUd iX), .gn (gPd []), .gn (gUl (.slice ya Y.length yk) Y), .gn (gUl (.slice xa X.length xk) X)] _) := Lib.hid ⟨hZ.bel, hZ.box, ⟨hZ.fc 1 rfl, ⟨hZ.fc 0 rfl, ⟨hZ.fc 2 rfl, ⟨hZ.fc 3 rfl, trivial⟩⟩⟩⟩⟩
      clear hZ
      go_loopg [28, 7, 8] (Y.length) (fun gk s28 s7 s8 wr => ∃ (k : Nat) (ls : List Bx) (lc : List Value) (la : Option Addr) (lk : Nat) (lX : List Uv) (qs : List Bx) (qc : List Value) (qa : Option Addr) (qk : Nat) (qX : List Pv), s28 = .int .i64 (k : Int) ∧ s7 = .slice la lX.length lk ∧ s8 = .slice qa qX.length qk ∧ Hid (Env D w ((w.heap.size + 1 + 1, 25, [.slice none 0 0]) :: (w.heap.size + 1, 25, [.slice ya Y.length yk]) :: (w.heap.size, 25, [.slice xa X.length xk]) :: (ls ++ qs)) [.gn (gUd lX), .gn (gPd qX), .gn (gUl (.slice ya Y.length yk) Y), .gn (gUl (.slice xa X.length xk) X)] wr) ∧ Hid (OU ls lc (.slice la lX.length lk) lX) ∧ Hid (OP qs qc (.slice qa qX.length qk) qX) ∧ Hid ((k ≤ Y.length ∧ gk = Y.length - k) ∧ lX.map Uv.u = (mgN (X.map Uv.u) (Y.map Uv.u) k).1 ∧ qX.map pus = (mgN (X.map Uv.u) (Y.map Uv.u) k).2))
      case atStart => exact ⟨0, is, ic, ia, ik, iX, ([] : List Bx), [], none, 0, [], rfl, rfl, rfl, Lib.hid (ES.out.cast (by simp)), iO, (Lib.hid OP.nil), Lib.hid ⟨⟨Nat.zero_le _, rfl⟩, IM.out, rfl⟩⟩
      case round =>
        clear c3_0 E4 E5 ES iO
        obtain ⟨k, ls, lc, la, lk, lX, qs, qc, qa, qk, qX, rfl, rfl, rfl, EL, lO, qO, HA⟩ := hrel
        obtain ⟨⟨a1, a2⟩, a3, a4⟩ := HA.out
        have HX := Lib.hid a3
        have HQ := Lib.hid a4
        clear a3 a4 HA
        have HLEN : Hid (lX.length = (mgN (X.map Uv.u) (Y.map Uv.u) k).1.length ∧ qX.length = (mgN (X.map Uv.u) (Y.map Uv.u) k).2.length) := Lib.hid ⟨by rw [← HX.out, List.length_map], by rw [← HQ.out, List.length_map]⟩
        have HBD : Hid (lX.length ≤ 100100 ∧ qX.length ≤ 50000) := Lib.hid (by have h1 := HLEN.out; have h2 := mgN_len (X := X.map Uv.u) (Y := Y.map Uv.u) k; have h3 := HL.out; omega)
        by_cases hy : k = Y.length
        · skip
          have t6 : decide ((k : Int) < (Y.length : Int)) = false := decide_eq_false (by omega)
          have t7 : decide (k < Y.length) = false := decide_eq_false (by omega)
          have HX2 : Hid (lX.map Uv.u = (mgN (X.map Uv.u) (Y.map Uv.u) (Y.map Uv.u).length).1) := Lib.hid (by rw [HX.out, hy, HL.out.2])
          have HQ2 : Hid (qX.map pus = (mgN (X.map Uv.u) (Y.map Uv.u) (Y.map Uv.u).length).2) := Lib.hid (by rw [HQ.out, hy, HL.out.2])
          have HY := Lib.hid hy
          clear hy
          by_cases qf : 2000 < lX.length
          · have d1 : decide ((2000 : Int) < (lX.length : Int)) = true := decide_eq_true (by omega)
            have d1b : decide (2000 < lX.length) = true := decide_eq_true qf
            have b4 := EL.out.bx 0 rfl
            have c4_0 := b4.cell 0 rfl
            have f4_0 := b4.frozen 0
            clear b4
            have HR : Hid (L = [] ∧ C = [] ∧ n = 5) := Lib.hid (by have h := hr.out; rw [mergeRes_full HV.out HW.out (by rw [← HX2.out, List.length_map]; exact qf)] at h; simpa [eq_comm] using h)
            go_wp2
            have E6 : Hid (Env D w ((w.heap.size + 1 + 1, 25, [.slice none 0 0]) :: (w.heap.size + 1, 25, [.slice ya Y.length yk]) :: (w.heap.size, 25, [.slice xa X.length xk]) :: (ls ++ qs)) [.gn (gUd lX), .gn (gPd qX), .gn (gUl (.slice ya Y.length yk) Y), .gn (gUl (.slice xa X.length xk) X)] _) := Lib.hid ((EL.out.set 0 0 (.slice none 0 0) rfl))
            have hfin := E6.out
            have q5 := (hfin.bx 0 rfl).cell 0 rfl
            exact bodyPost_ret (v := (.tuple #[.agg #[.slice none 0 0], .slice none 0 0, .int .i64 5])) (by simp [results, Try.results29, go_sem, q5]) rfl ⟨RetTP.fail HR.out, hfin.bel⟩
          have d1 : decide ((2000 : Int) < (lX.length : Int)) = false := decide_eq_false (by omega)
          have d1b : decide (2000 < lX.length) = false := decide_eq_false qf
          have HR : Hid (lX.map Uv.u = L ∧ qX.map pus = C ∧ n = 0) := Lib.hid (by have h := hr.out; rw [mergeRes_ok HV.out HW.out (by rw [← HX2.out, List.length_map]; exact qf)] at h; simp only [Prod.mk.injEq] at h; exact ⟨HX2.out.trans h.1, HQ2.out.trans h.2.1, h.2.2.symm⟩)
          clear qf
          have b4 := EL.out.bx 0 rfl
          have c4_0 := b4.cell 0 rfl
          have f4_0 := b4.frozen 0
          clear b4
          go_wp2_with fail
          have E6 : Hid (Env D w ((w.heap.size + 1 + 1, 25, [.slice la lX.length lk]) :: (w.heap.size + 1, 25, [.slice ya Y.length yk]) :: (w.heap.size, 25, [.slice xa X.length xk]) :: (ls ++ qs)) [.gn (gUd lX), .gn (gPd qX), .gn (gUl (.slice ya Y.length yk) Y), .gn (gUl (.slice xa X.length xk) X)] _) := Lib.hid ((EL.out.set 0 0 (.slice la lX.length lk) rfl))
          have HRL := Lib.hid (OU.ret lO.out E6.out (by intro p hp; simp [hp]) (E6.out.out 0 rfl))
          have HRQ := Lib.hid (OP.ret qO.out E6.out (by intro p hp; simp [hp]) (E6.out.out 1 rfl))
          have b5 := E6.out.bx 0 rfl
          have c5_0 := b5.cell 0 rfl
          clear b5
          go_wp2
          have hfin := E6.out
          have q6 := (hfin.bx 0 rfl).cell 0 rfl
          exact bodyPost_ret (v := (.tuple #[.agg #[.slice la lX.length lk], .slice qa qX.length qk, .int .i64 0])) (by simp [results, Try.results29, go_sem, q6]) rfl ⟨⟨la, lk, lX, qa, qk, qX, by rw [HR.out.2.2], HR.out.1, HR.out.2.1, HRL, HRQ⟩, hfin.bel⟩
        have hk : k < Y.length := lt_of hy a1
        have t6 : decide ((k : Int) < (Y.length : Int)) = true := decide_eq_true (by omega)
        have t7 : decide (k < Y.length) = true := decide_eq_true (by omega)
        have hkI : (k : Int) < (Y.length : Int) := by omega
        clear hy
        have hbd := HBD.out
        go_upto_region 7 with (fail)
        obtain ⟨yab, yao, rfl⟩ := gUl.addr (EL.out.fc 2 rfl) (List.ne_nil_of_length_pos (Nat.lt_of_le_of_lt (Nat.zero_le _) hk))
        obtain ⟨e, ee⟩ : ∃ x, Y[k] = x := ⟨_, rfl⟩
        have eE := Lib.hid ee
        clear ee
        have E6 : Hid (Env D w ((w.heap.size + 1 + 1, 25, [.slice none 0 0]) :: (w.heap.size + 1, 25, [.slice (some ⟨yab, yao, none⟩) Y.length yk]) :: (w.heap.size, 25, [.slice xa X.length xk]) :: (ls ++ qs)) [.gn (gRg yab (yao + k * 83) (usc e.u e.la e.pa)), .gn (gSp e.u.sp e.la e.pa), .gn (gUd lX), .gn (gPd qX), .gn (gUl (.slice (some ⟨yab, yao, none⟩) Y.length yk) Y), .gn (gUl (.slice xa X.length xk) X)] _) := Lib.hid (EL.out.elU 2 rfl hk eE.out)
        clear EL
        have eS := Lib.hid (E6.out.spOk 1 rfl)
        have eN : Hid (∀ v ∈ usc e.u e.la e.pa, v.oneCell' = true) := Lib.hid (usc_one eS.out (Rw.oneV (E6.out.fc 1 rfl).2.1) (Rw.oneV (E6.out.fc 1 rfl).2.2))
        have HU : Hid ((Y.map Uv.u)[k]? = some e.u) := Lib.hid (map_get hk eE.out)
        have HBE : Hid (e.u.sp.lv.length ≤ 1000000 ∧ e.u.sp.pa.length ≤ 1000000) := Lib.hid (hc.out e (by rw [← eE.out]; exact List.getElem_mem hk))
        have r4 := Lib.hid (E6.out.fc 0 rfl).2
        have E7 : Hid (Env D w ((wr.heap.size, 44, usc zU nilV nilV) :: (w.heap.size + 1 + 1, 25, [.slice none 0 0]) :: (w.heap.size + 1, 25, [.slice (some ⟨yab, yao, none⟩) Y.length yk]) :: (w.heap.size, 25, [.slice xa X.length xk]) :: (ls ++ qs)) [.gn (gRg yab (yao + k * 83) (usc e.u e.la e.pa)), .gn (gSp e.u.sp e.la e.pa), .gn (gUd lX), .gn (gPd qX), .gn (gUl (.slice (some ⟨yab, yao, none⟩) Y.length yk) Y), .gn (gUl (.slice xa X.length xk) X)] _) := Lib.hid ((E6.out.push 44 (usc zU nilV nilV) (wr.heap.size) (by simp)))
        have b5 := Lib.hid (E7.out.bx 0 rfl)
        have HSR : Hid (SrtT (lX.map Uv.u)) := Lib.hid (by rw [HX.out]; exact mgN_srt HV.out.2.2 k)
        obtain ⟨i, hi⟩ : ∃ i, lb (lX.map Uv.u) e.u.ua e.u.ub = i := ⟨_, rfl⟩
        have HI := Lib.hid hi
        have HPL : Hid (PlaceK (lX.map Uv.u) e.u.ua e.u.ub i) := Lib.hid (by rw [← hi]; exact place_lb HSR.out _ _)
        have HFD : Hid (FoundK (lX.map Uv.u) e.u.ua e.u.ub i (findK (lX.map Uv.u) e.u.ua e.u.ub).isSome) := Lib.hid (by rw [← hi]; exact found_lb HSR.out _ _)
        have hil : i ≤ lX.length := by have h := HPL.out.1; rwa [List.length_map] at h
        clear hi
        obtain ⟨fd, hfd⟩ : ∃ fd, findK (lX.map Uv.u) e.u.ua e.u.ub = fd := ⟨_, rfl⟩
        have HFK := Lib.hid hfd
        rw [hfd] at HFD
        clear hfd
        cases fd with
        | none =>
          have E8 : Hid (Env D w ((wr.heap.size, 44, usc e.u e.la e.pa) :: (w.heap.size + 1 + 1, 25, [.slice none 0 0]) :: (w.heap.size + 1, 25, [.slice (some ⟨yab, yao, none⟩) Y.length yk]) :: (w.heap.size, 25, [.slice xa X.length xk]) :: (ls ++ qs)) [.gn (gRg yab (yao + k * 83) (usc e.u e.la e.pa)), .gn (gSp e.u.sp e.la e.pa), .gn (gUd lX), .gn (gPd qX), .gn (gUl (.slice (some ⟨yab, yao, none⟩) Y.length yk) Y), .gn (gUl (.slice xa X.length xk) X)] _) := Lib.hid ((E7.out.whole 0 (usc e.u e.la e.pa) rfl ((usc_len eS.out _ _).trans (usc_len zS_ok _ _).symm)))
          have b6 := E8.out.bx 0 rfl
          have c6 := b6.cell 0 rfl
          clear b6
          have b7 := E8.out.bx 0 rfl
          have c7 := b7.cell 1 rfl
          clear b7
          go_wp2_with (first | (with_reducible refine wpl_load_b bUse yab (yao + k * 83) ?_ ?_ (usc e.u e.la e.pa) (usc_len eS.out _ _) r4.out ?_; (· exact ⟨_, rfl, rfl⟩); (· kernel_rfl)) | (with_reducible refine wpl_alloc_b ?_ ?_ _ zvUse ?_; (· rfl); (· rfl)) | (with_reducible refine wpl_store_b bUse wr.heap.size 0 (usc e.u e.la e.pa) ?_ ?_ (usc_len eS.out _ _) (Box.there b5.out (Nat.le_of_eq (usc_len zS_ok _ _).symm)) eN.out ?_; (· first | exact ⟨_, _, rfl, rfl, rfl⟩ | (refine ⟨_, _, rfl, ?_, ?_⟩ <;> simp [Act.eval, Act.put])); (· kernel_rfl)))
          refine (search_c lX e.u.ua e.u.ub (D := fun _ => True) (OU.gul lO.out E8.out (by intro p hp; simp [hp]) (E8.out.fc 2 rfl)) HPL.out (t := false) HFD.out (by omega)).mono ?_
          rintro e w4 ⟨rfl, hb⟩
          have E9 : Hid (Env D w ((wr.heap.size, 44, usc e.u e.la e.pa) :: (w.heap.size + 1 + 1, 25, [.slice none 0 0]) :: (w.heap.size + 1, 25, [.slice (some ⟨yab, yao, none⟩) Y.length yk]) :: (w.heap.size, 25, [.slice xa X.length xk]) :: (ls ++ qs)) [.gn (gRg yab (yao + k * 83) (usc e.u e.la e.pa)), .gn (gSp e.u.sp e.la e.pa), .gn (gUd lX), .gn (gPd qX), .gn (gUl (.slice (some ⟨yab, yao, none⟩) Y.length yk) Y), .gn (gUl (.slice xa X.length xk) X)] w4) := Lib.hid (E8.out.below hb)
          clear r4 b5 c6 c7 E6 E7 E8 hb
          have HIL : Hid (lX.length ≤ 1000000) := Lib.hid (by omega)
          have b8 := E9.out.bx 0 rfl
          have r8 := Lib.hid (b8.range (o := 0) (fun j hj => by rw [Nat.zero_add]))
          clear b8
          go_wp2_with (first | (with_reducible refine wpl_alloc_b ?_ ?_ _ zvUse ?_; (· rfl); (· rfl)) | (with_reducible refine wpl_load_b bUse wr.heap.size 0 ?_ ?_ (usc e.u e.la e.pa) (usc_len eS.out _ _) r8.out ?_; (· exact ⟨_, rfl, rfl⟩); (· kernel_rfl)))
          refine (copyOf_c e.u (E9.out.fc 1 rfl) HBE.out).mono ?_
          rintro e w5 ⟨⟨ra, rb, rfl, rh⟩, hb⟩
          have E10 : Hid (Env D w ((wr.heap.size, 44, usc e.u e.la e.pa) :: (w.heap.size + 1 + 1, 25, [.slice none 0 0]) :: (w.heap.size + 1, 25, [.slice (some ⟨yab, yao, none⟩) Y.length yk]) :: (w.heap.size, 25, [.slice xa X.length xk]) :: (ls ++ qs)) [.gn (gSp e.u.sp ra rb), .gn (gRg yab (yao + k * 83) (usc e.u e.la e.pa)), .gn (gSp e.u.sp e.la e.pa), .gn (gUd lX), .gn (gPd qX), .gn (gUl (.slice (some ⟨yab, yao, none⟩) Y.length yk) Y), .gn (gUl (.slice xa X.length xk) X)] w5) := Lib.hid (E9.out.got (E9.out.below hb) (.gn (gSp e.u.sp ra rb)) rh.out)
          clear r8 E9 hb rh
          have rN : Hid (∀ v ∈ usc e.u ra rb, v.oneCell' = true) := Lib.hid (gUv.one (x := ⟨e.u, ra, rb⟩) (E10.out.fc 0 rfl))
          have E11 : Hid (Env D w ((w5.heap.size, 44, usc e.u ra rb) :: (wr.heap.size, 44, usc e.u e.la e.pa) :: (w.heap.size + 1 + 1, 25, [.slice none 0 0]) :: (w.heap.size + 1, 25, [.slice (some ⟨yab, yao, none⟩) Y.length yk]) :: (w.heap.size, 25, [.slice xa X.length xk]) :: (ls ++ qs)) [.gn (gSp e.u.sp ra rb), .gn (gRg yab (yao + k * 83) (usc e.u e.la e.pa)), .gn (gSp e.u.sp e.la e.pa), .gn (gUd lX), .gn (gPd qX), .gn (gUl (.slice (some ⟨yab, yao, none⟩) Y.length yk) Y), .gn (gUl (.slice xa X.length xk) X)] _) := Lib.hid ((E10.out.push 44 (usc e.u ra rb) (w5.heap.size) (by simp)))
          go_wp2_with (first | (with_reducible refine wpl_alloc_b ?_ ?_ _ zvUse ?_; (· rfl); (· rfl)) | (with_reducible refine wpl_slice1 ?_ (usc e.u ra rb) (usc_len eS.out _ _) ?_ ?_; (· rfl); (· exact ⟨_, rfl, rfl⟩)))
          refine (insertU_env (x := Uv.mk e.u ra rb) (j := 0) E11.out (A := [(w5.heap.size, 44, usc e.u ra rb), (wr.heap.size, 44, usc e.u e.la e.pa), (w.heap.size + 1 + 1, 25, [.slice none 0 0]), (w.heap.size + 1, 25, [.slice (some ⟨yab, yao, none⟩) Y.length yk]), (w.heap.size, 25, [.slice xa X.length xk])]) (sg := ls) (B' := qs) (F := ((w5.heap.size, 44, usc e.u ra rb) :: (wr.heap.size, 44, usc e.u e.la e.pa) :: (w.heap.size + 1 + 1, 25, [.slice none 0 0]) :: (w.heap.size + 1, 25, [.slice (some ⟨yab, yao, none⟩) Y.length yk]) :: (w.heap.size, 25, [.slice xa X.length xk]) :: (ls ++ qs))) (by simp) lO.out (E11.out.fc 3 rfl) (E11.out.fc 0 rfl) rfl rfl hil HIL.out).mono ?_
          rintro e w6 ⟨jg, jp, jc, rfl, jO, jE⟩
          have E12 : Hid (Env D w ((w5.heap.size, 44, usc e.u ra rb) :: (wr.heap.size, 44, usc e.u e.la e.pa) :: (w.heap.size + 1 + 1, 25, [.slice none 0 0]) :: (w.heap.size + 1, 25, [.slice (some ⟨yab, yao, none⟩) Y.length yk]) :: (w.heap.size, 25, [.slice xa X.length xk]) :: ((jg, 44, jc) :: qs)) [.gn (gSp e.u.sp ra rb), .gn (gRg yab (yao + k * 83) (usc e.u e.la e.pa)), .gn (gSp e.u.sp e.la e.pa), .gn (gUd lX), .gn (gPd qX), .gn (gUl (.slice (some ⟨yab, yao, none⟩) Y.length yk) Y), .gn (gUl (.slice xa X.length xk) X)] w6) := Lib.hid (jE.out.cast (by simp))
          clear E10 E11 jE
          have E13 : Hid (Env D w ((w5.heap.size, 44, usc e.u ra rb) :: (wr.heap.size, 44, usc e.u e.la e.pa) :: (w.heap.size + 1 + 1, 25, [.slice none 0 0]) :: (w.heap.size + 1, 25, [.slice (some ⟨yab, yao, none⟩) Y.length yk]) :: (w.heap.size, 25, [.slice xa X.length xk]) :: ((jg, 44, jc) :: qs)) [.gn (gUd (insU lX i (Uv.mk e.u ra rb))), .gn (gSp e.u.sp ra rb), .gn (gRg yab (yao + k * 83) (usc e.u e.la e.pa)), .gn (gSp e.u.sp e.la e.pa), .gn (gUd lX), .gn (gPd qX), .gn (gUl (.slice (some ⟨yab, yao, none⟩) Y.length yk) Y), .gn (gUl (.slice xa X.length xk) X)] w6) := Lib.hid (E12.out.note (.gn (gUd (insU lX i (Uv.mk e.u ra rb)))) (gUd.ins (E12.out.fc 3 rfl) (E12.out.fc 0 rfl)))
          clear E12 lO
          have HX2 : Hid ((insU lX i (Uv.mk e.u ra rb)).map Uv.u = (mgN (X.map Uv.u) (Y.map Uv.u) (k + 1)).1) := Lib.hid (by rw [mgN_new HU.out (by rw [← HX.out]; exact HFK.out), insU_map, ← HX.out, HI.out])
          have HQ2 : Hid (qX.map pus = (mgN (X.map Uv.u) (Y.map Uv.u) (k + 1)).2) := Lib.hid (by rw [mgN_new HU.out (by rw [← HX.out]; exact HFK.out)]; exact HQ.out)
          have hZ := ((E13.out.drop).drop)
          have EZ : Hid (Env D w ((w.heap.size + 1 + 1, 25, [.slice none 0 0]) :: (w.heap.size + 1, 25, [.slice (some ⟨yab, yao, none⟩) Y.length yk]) :: (w.heap.size, 25, [.slice xa X.length xk]) :: ((jg, 44, jc) :: qs)) [.gn (gUd (insU lX i (Uv.mk e.u ra rb))), .gn (gPd qX), .gn (gUl (.slice (some ⟨yab, yao, none⟩) Y.length yk) Y), .gn (gUl (.slice xa X.length xk) X)] _) := Lib.hid ⟨hZ.bel, hZ.box, ⟨hZ.fc 0 rfl, ⟨hZ.fc 5 rfl, ⟨hZ.fc 6 rfl, ⟨hZ.fc 7 rfl, trivial⟩⟩⟩⟩⟩
          clear hZ
          go_wp2_with (first | (with_reducible refine wpl_alloc_b ?_ ?_ _ zvUse ?_; (· rfl); (· rfl)) | (with_reducible refine wpl_slice1 ?_ (usc e.u ra rb) (usc_len eS.out _ _) ?_ ?_; (· rfl); (· exact ⟨_, rfl, rfl⟩)))
          go_roundg (Y.length - (k + 1))
          case rel => exact ⟨k + 1, [(jg, 44, jc)], jc, (some ⟨jg, 0, none⟩), jp, (insU lX i (Uv.mk e.u ra rb)), qs, qc, _, _, qX, rfl, (OU.vali hil), rfl, Lib.hid (EZ.out.cast (by simp)), (OU.leni hil jO), qO, Lib.hid ⟨⟨by omega, rfl⟩, HX2.out, HQ2.out⟩⟩
          case measure => exact by omega
        | some y =>
          have E8 : Hid (Env D w ((wr.heap.size, 44, usc e.u e.la e.pa) :: (w.heap.size + 1 + 1, 25, [.slice none 0 0]) :: (w.heap.size + 1, 25, [.slice (some ⟨yab, yao, none⟩) Y.length yk]) :: (w.heap.size, 25, [.slice xa X.length xk]) :: (ls ++ qs)) [.gn (gRg yab (yao + k * 83) (usc e.u e.la e.pa)), .gn (gSp e.u.sp e.la e.pa), .gn (gUd lX), .gn (gPd qX), .gn (gUl (.slice (some ⟨yab, yao, none⟩) Y.length yk) Y), .gn (gUl (.slice xa X.length xk) X)] _) := Lib.hid ((E7.out.whole 0 (usc e.u e.la e.pa) rfl ((usc_len eS.out _ _).trans (usc_len zS_ok _ _).symm)))
          have b6 := E8.out.bx 0 rfl
          have c6 := b6.cell 0 rfl
          clear b6
          have b7 := E8.out.bx 0 rfl
          have c7 := b7.cell 1 rfl
          clear b7
          go_wp2_with (first | (with_reducible refine wpl_load_b bUse yab (yao + k * 83) ?_ ?_ (usc e.u e.la e.pa) (usc_len eS.out _ _) r4.out ?_; (· exact ⟨_, rfl, rfl⟩); (· kernel_rfl)) | (with_reducible refine wpl_alloc_b ?_ ?_ _ zvUse ?_; (· rfl); (· rfl)) | (with_reducible refine wpl_store_b bUse wr.heap.size 0 (usc e.u e.la e.pa) ?_ ?_ (usc_len eS.out _ _) (Box.there b5.out (Nat.le_of_eq (usc_len zS_ok _ _).symm)) eN.out ?_; (· first | exact ⟨_, _, rfl, rfl, rfl⟩ | (refine ⟨_, _, rfl, ?_, ?_⟩ <;> simp [Act.eval, Act.put])); (· kernel_rfl)))
          refine (search_c lX e.u.ua e.u.ub (D := fun _ => True) (OU.gul lO.out E8.out (by intro p hp; simp [hp]) (E8.out.fc 2 rfl)) HPL.out (t := true) HFD.out (by omega)).mono ?_
          rintro e w4 ⟨rfl, hb⟩
          have E9 : Hid (Env D w ((wr.heap.size, 44, usc e.u e.la e.pa) :: (w.heap.size + 1 + 1, 25, [.slice none 0 0]) :: (w.heap.size + 1, 25, [.slice (some ⟨yab, yao, none⟩) Y.length yk]) :: (w.heap.size, 25, [.slice xa X.length xk]) :: (ls ++ qs)) [.gn (gRg yab (yao + k * 83) (usc e.u e.la e.pa)), .gn (gSp e.u.sp e.la e.pa), .gn (gUd lX), .gn (gPd qX), .gn (gUl (.slice (some ⟨yab, yao, none⟩) Y.length yk) Y), .gn (gUl (.slice xa X.length xk) X)] w4) := Lib.hid (E8.out.below hb)
          clear r4 b5 c6 c7 E6 E7 E8 hb
          have HAT : Hid ((lX.map Uv.u)[i]? = some y) := Lib.hid (by rw [← HI.out]; exact findK_at HSR.out HFK.out)
          have hii : i < lX.length := by have h := (List.getElem?_eq_some_iff.1 HAT.out).1; rwa [List.length_map] at h
          have hiI : (i : Int) < (lX.length : Int) := by omega
          go_upto_region 11 with (first | (with_reducible refine wpl_alloc_b ?_ ?_ _ zvUse ?_; (· rfl); (· rfl)))
          obtain ⟨pg, rfl⟩ := OU.hd lO.out (Nat.lt_of_le_of_lt (Nat.zero_le _) hii)
          obtain ⟨p, pe⟩ : ∃ x, lX[i] = x := ⟨_, rfl⟩
          have pE := Lib.hid pe
          clear pe
          have pR : Hid (World.rangeAt _ pg (i * 83) (usc p.u p.la p.pa)) := Lib.hid (gUl.el (OU.gul lO.out E9.out (by intro p hp; simp [hp]) (E9.out.fc 2 rfl)) hii pE.out)
          have E10 : Hid (Env D w ((wr.heap.size, 44, usc e.u e.la e.pa) :: (w.heap.size + 1 + 1, 25, [.slice none 0 0]) :: (w.heap.size + 1, 25, [.slice (some ⟨yab, yao, none⟩) Y.length yk]) :: (w.heap.size, 25, [.slice xa X.length xk]) :: (ls ++ qs)) [.gn (gSp p.u.sp p.la p.pa), .gn (gRg yab (yao + k * 83) (usc e.u e.la e.pa)), .gn (gSp e.u.sp e.la e.pa), .gn (gUd lX), .gn (gPd qX), .gn (gUl (.slice (some ⟨yab, yao, none⟩) Y.length yk) Y), .gn (gUl (.slice xa X.length xk) X)] _) := Lib.hid (E9.out.note (.gn (gSp p.u.sp p.la p.pa)) (gUd.at' (E9.out.fc 2 rfl) hii pE.out))
          clear E9
          have pS := Lib.hid (E10.out.spOk 0 rfl)
          have pN : Hid (∀ v ∈ usc p.u p.la p.pa, v.oneCell' = true) := Lib.hid (usc_one pS.out (Rw.oneV (E10.out.fc 0 rfl).2.1) (Rw.oneV (E10.out.fc 0 rfl).2.2))
          have HPY : Hid (p.u = y) := Lib.hid (by have h := map_get hii pE.out; rw [HAT.out] at h; exact (Option.some.inj h).symm)
          have HBP : Hid (p.u.sp.lv.length ≤ 1000000 ∧ p.u.sp.pa.length ≤ 1000000) := Lib.hid (mgN_use (P := Bd) (fun u hu => by obtain ⟨x, hx, rfl⟩ := List.mem_map.1 hu; exact hb.out x hx) (fun u hu => by obtain ⟨x, hx, rfl⟩ := List.mem_map.1 hu; exact hc.out x hx) k _ (by rw [← HX.out]; exact List.mem_of_getElem? (map_get hii pE.out)))
          obtain ⟨o, oh⟩ : ∃ b : Bool, b = true ↔ p.u.sp = e.u.sp := by by_cases h : p.u.sp = e.u.sp; (· exact ⟨true, ⟨fun _ => h, fun _ => rfl⟩⟩); exact ⟨false, ⟨fun h2 => Bool.noConfusion h2, fun h2 => absurd h2 h⟩⟩
          have oH := Lib.hid oh
          clear oh
          cases o with
          | true =>
            go_wp2_with (first | (with_reducible refine wpl_alloc_b ?_ ?_ _ zvUse ?_; (· rfl); (· rfl)))
            have E11 : Hid (Env D w ((wr.heap.size, 44, usc e.u e.la e.pa) :: (w.heap.size + 1 + 1, 25, [.slice none 0 0]) :: (w.heap.size + 1, 25, [.slice (some ⟨yab, yao, none⟩) Y.length yk]) :: (w.heap.size, 25, [.slice xa X.length xk]) :: (ls ++ qs)) [.gn (gSp p.u.sp p.la p.pa), .gn (gRg yab (yao + k * 83) (usc e.u e.la e.pa)), .gn (gSp e.u.sp e.la e.pa), .gn (gUd lX), .gn (gPd qX), .gn (gUl (.slice (some ⟨yab, yao, none⟩) Y.length yk) Y), .gn (gUl (.slice xa X.length xk) X)] (w4.drew)) := Lib.hid E10.out.drew
            clear E10
            refine wp_regionU (S := fun w' => w'.rangeAt pg (i * 83 + 2) (spc p.u.sp p.la p.pa) ∧ w'.rangeAt wr.heap.size 2 (spc e.u.sp e.la e.pa)) [] (by kernel_rfl) (⟨(gRg.sub (i := 2) (gUl.el (OU.gul lO.out E11.out (by intro p hp; simp [hp]) (E11.out.fc 3 rfl)) hii pE.out) (usc_sp pS.out _ _)), ((E11.out.bx 0 rfl).range (o := 2) (usc_sp eS.out _ _))⟩) (fun hHeld => ?_)
            generalize w4.drew = w5 at *
            refine uTake (i := 0) (some 51) (v := ?_) rfl rfl (by kernel_rfl) (by kernel_rfl) (by kernel_rfl) (by kernel_rfl) (fun _ _ _ h => h) (by rfl) (by assumption) ?_ ?_
            rotate_left
            · (intro wS hSw; (try dsimp only at hSw); go_simp; try with_reducible rfl)
            try simp only [Act.put, List.setIfInBounds_toArray, List.set_cons_zero, List.set_cons_succ]
            refine uTake (i := 1) (some 52) (v := ?_) rfl rfl (by kernel_rfl) (by kernel_rfl) (by kernel_rfl) (by kernel_rfl) (fun _ _ _ h => h) (by rfl) (by assumption) ?_ ?_
            rotate_left
            · (intro wS hSw; (try dsimp only at hSw); go_simp; try with_reducible rfl)
            try simp only [Act.put, List.setIfInBounds_toArray, List.set_cons_zero, List.set_cons_succ]
            refine uTake (i := 2) (some 53) (v := ?_) rfl rfl (by kernel_rfl) (by kernel_rfl) (by kernel_rfl) (by kernel_rfl) (fun _ _ _ h => h) (by rfl) (by assumption) ?_ ?_
            rotate_left
            · (intro wS hSw; (try dsimp only at hSw); go_simp; try with_reducible rfl)
            try simp only [Act.put, List.setIfInBounds_toArray, List.set_cons_zero, List.set_cons_succ]
            refine uTake (i := 3) (some 54) (v := ?_) rfl rfl (by kernel_rfl) (by kernel_rfl) (by kernel_rfl) (by kernel_rfl) (fun _ _ _ h => h) (by rfl) (by assumption) ?_ ?_
            rotate_left
            · (intro wS hSw; (try dsimp only at hSw); go_simp; try with_reducible rfl)
            try simp only [Act.put, List.setIfInBounds_toArray, List.set_cons_zero, List.set_cons_succ]
            refine uTake (i := 4) (some 55) (v := .agg (spc p.u.sp p.la p.pa).toArray) rfl rfl (by kernel_rfl) (by kernel_rfl) (by kernel_rfl) (by kernel_rfl) (fun _ _ _ h => h) (by rfl) (by assumption) ?_ ?_
            · (intro wS hSw; (try dsimp only at hSw); revert hSw; (try simp only [and_imp]); intros; exact exec_load_b bSpend _ rfl pg (i * 83 + 2) rfl (spc p.u.sp p.la p.pa) (spc_len pS.out _ _) (by assumption))
            try simp only [Act.put, List.setIfInBounds_toArray, List.set_cons_zero, List.set_cons_succ]
            refine uTake (i := 5) (some 56) (v := ?_) rfl rfl (by kernel_rfl) (by kernel_rfl) (by kernel_rfl) (by kernel_rfl) (fun _ _ _ h => h) (by rfl) (by assumption) ?_ ?_
            rotate_left
            · (intro wS hSw; (try dsimp only at hSw); go_simp; try with_reducible rfl)
            try simp only [Act.put, List.setIfInBounds_toArray, List.set_cons_zero, List.set_cons_succ]
            refine uTake (i := 6) (some 57) (v := .agg (spc e.u.sp e.la e.pa).toArray) rfl rfl (by kernel_rfl) (by kernel_rfl) (by kernel_rfl) (by kernel_rfl) (fun _ _ _ h => h) (by rfl) (by assumption) ?_ ?_
            · (intro wS hSw; (try dsimp only at hSw); revert hSw; (try simp only [and_imp]); intros; exact exec_load_b bSpend _ rfl wr.heap.size 2 rfl (spc e.u.sp e.la e.pa) (spc_len eS.out _ _) (by assumption))
            try simp only [Act.put, List.setIfInBounds_toArray, List.set_cons_zero, List.set_cons_succ]
            refine uReady (rs := [7]) (by kernel_rfl) (by simp) ?_
            refine ReadyU.cons rfl (fun KK hKK => ?_) ReadyU.nil
            go_simp
            refine (equal_c p.u.sp e.u.sp (E11.out.fc 0 rfl) (E11.out.fc 2 rfl) HBP.out HBE.out (r := true) (by first | exact oH.out | simpa using oH.out)).mono ?_
            rintro e w6 ⟨rfl, hb⟩
            have E12 : Hid (Env D w ((wr.heap.size, 44, usc e.u e.la e.pa) :: (w.heap.size + 1 + 1, 25, [.slice none 0 0]) :: (w.heap.size + 1, 25, [.slice (some ⟨yab, yao, none⟩) Y.length yk]) :: (w.heap.size, 25, [.slice xa X.length xk]) :: (ls ++ qs)) [.gn (gSp p.u.sp p.la p.pa), .gn (gRg yab (yao + k * 83) (usc e.u e.la e.pa)), .gn (gSp e.u.sp e.la e.pa), .gn (gUd lX), .gn (gPd qX), .gn (gUl (.slice (some ⟨yab, yao, none⟩) Y.length yk) Y), .gn (gUl (.slice xa X.length xk) X)] w6) := Lib.hid (E11.out.below hb)
            clear E11 hb
            (try dsimp only)
            clear hHeld
            refine hKK.out _ _ (⟨(gRg.sub (i := 2) (gUl.el (OU.gul lO.out E12.out (by intro p hp; simp [hp]) (E12.out.fc 3 rfl)) hii pE.out) (usc_sp pS.out _ _)), ((E12.out.bx 0 rfl).range (o := 2) (usc_sp eS.out _ _))⟩) (fun hHeld => ?_)
            clear hKK KK
            try simp only [Act.put, List.setIfInBounds_toArray, List.set_cons_zero, List.set_cons_succ]
            refine uTake (i := 8) (some 59) (v := ?_) rfl rfl (by kernel_rfl) (by kernel_rfl) (by kernel_rfl) (by kernel_rfl) (fun _ _ _ h => h) (by rfl) (by assumption) ?_ ?_
            rotate_left
            · (intro wS hSw; (try dsimp only at hSw); go_simp; try with_reducible rfl)
            try simp only [Act.put, List.setIfInBounds_toArray, List.set_cons_zero, List.set_cons_succ]
            refine uTake (i := 9) (some 50) (v := ?_) rfl rfl (by kernel_rfl) (by kernel_rfl) (by kernel_rfl) (by kernel_rfl) (fun _ _ _ h => h) (by rfl) (by assumption) ?_ ?_
            rotate_left
            · (intro wS hSw; (try dsimp only at hSw); go_simp; try with_reducible rfl)
            try simp only [Act.put, List.setIfInBounds_toArray, List.set_cons_zero, List.set_cons_succ]
            refine uDone (by kernel_rfl) ?_ _
            have HSM : Hid (mgN (X.map Uv.u) (Y.map Uv.u) (k + 1) = mgN (X.map Uv.u) (Y.map Uv.u) k) := Lib.hid (mgN_same HU.out (by rw [← HX.out]; exact HFK.out) (by rw [← HPY.out]; exact oH.out.1 (by simp)))
            have hZ := (E12.out.drop)
            have EZ : Hid (Env D w ((w.heap.size + 1 + 1, 25, [.slice none 0 0]) :: (w.heap.size + 1, 25, [.slice (some ⟨yab, yao, none⟩) Y.length yk]) :: (w.heap.size, 25, [.slice xa X.length xk]) :: (ls ++ qs)) [.gn (gUd lX), .gn (gPd qX), .gn (gUl (.slice (some ⟨yab, yao, none⟩) Y.length yk) Y), .gn (gUl (.slice xa X.length xk) X)] _) := Lib.hid ⟨hZ.bel, hZ.box, ⟨hZ.fc 3 rfl, ⟨hZ.fc 4 rfl, ⟨hZ.fc 5 rfl, ⟨hZ.fc 6 rfl, trivial⟩⟩⟩⟩⟩
            clear hZ
            go_wp2_with (first | (with_reducible refine wpl_alloc_b ?_ ?_ _ zvUse ?_; (· rfl); (· rfl)))
            go_roundg (Y.length - (k + 1))
            case rel => exact ⟨k + 1, ls, lc, _, _, lX, qs, qc, _, _, qX, rfl, rfl, rfl, Lib.hid (EZ.out.cast (by simp)), lO, qO, Lib.hid ⟨⟨by omega, rfl⟩, by rw [HSM.out]; exact HX.out, by rw [HSM.out]; exact HQ.out⟩⟩
            case measure => exact by omega
          | false =>
            go_wp2_with (first | (with_reducible refine wpl_alloc_b ?_ ?_ _ zvUse ?_; (· rfl); (· rfl)))
            have E11 : Hid (Env D w ((wr.heap.size, 44, usc e.u e.la e.pa) :: (w.heap.size + 1 + 1, 25, [.slice none 0 0]) :: (w.heap.size + 1, 25, [.slice (some ⟨yab, yao, none⟩) Y.length yk]) :: (w.heap.size, 25, [.slice xa X.length xk]) :: (ls ++ qs)) [.gn (gSp p.u.sp p.la p.pa), .gn (gRg yab (yao + k * 83) (usc e.u e.la e.pa)), .gn (gSp e.u.sp e.la e.pa), .gn (gUd lX), .gn (gPd qX), .gn (gUl (.slice (some ⟨yab, yao, none⟩) Y.length yk) Y), .gn (gUl (.slice xa X.length xk) X)] (w4.drew)) := Lib.hid E10.out.drew
            clear E10
            refine wp_regionU (S := fun w' => w'.rangeAt pg (i * 83 + 2) (spc p.u.sp p.la p.pa) ∧ w'.rangeAt wr.heap.size 2 (spc e.u.sp e.la e.pa)) [] (by kernel_rfl) (⟨(gRg.sub (i := 2) (gUl.el (OU.gul lO.out E11.out (by intro p hp; simp [hp]) (E11.out.fc 3 rfl)) hii pE.out) (usc_sp pS.out _ _)), ((E11.out.bx 0 rfl).range (o := 2) (usc_sp eS.out _ _))⟩) (fun hHeld => ?_)
            generalize w4.drew = w5 at *
            refine uTake (i := 0) (some 51) (v := ?_) rfl rfl (by kernel_rfl) (by kernel_rfl) (by kernel_rfl) (by kernel_rfl) (fun _ _ _ h => h) (by rfl) (by assumption) ?_ ?_
            rotate_left
            · (intro wS hSw; (try dsimp only at hSw); go_simp; try with_reducible rfl)
            try simp only [Act.put, List.setIfInBounds_toArray, List.set_cons_zero, List.set_cons_succ]
            refine uTake (i := 1) (some 52) (v := ?_) rfl rfl (by kernel_rfl) (by kernel_rfl) (by kernel_rfl) (by kernel_rfl) (fun _ _ _ h => h) (by rfl) (by assumption) ?_ ?_
            rotate_left
            · (intro wS hSw; (try dsimp only at hSw); go_simp; try with_reducible rfl)
            try simp only [Act.put, List.setIfInBounds_toArray, List.set_cons_zero, List.set_cons_succ]
            refine uTake (i := 2) (some 53) (v := ?_) rfl rfl (by kernel_rfl) (by kernel_rfl) (by kernel_rfl) (by kernel_rfl) (fun _ _ _ h => h) (by rfl) (by assumption) ?_ ?_
            rotate_left
            · (intro wS hSw; (try dsimp only at hSw); go_simp; try with_reducible rfl)
            try simp only [Act.put, List.setIfInBounds_toArray, List.set_cons_zero, List.set_cons_succ]
            refine uTake (i := 3) (some 54) (v := ?_) rfl rfl (by kernel_rfl) (by kernel_rfl) (by kernel_rfl) (by kernel_rfl) (fun _ _ _ h => h) (by rfl) (by assumption) ?_ ?_
            rotate_left
            · (intro wS hSw; (try dsimp only at hSw); go_simp; try with_reducible rfl)
            try simp only [Act.put, List.setIfInBounds_toArray, List.set_cons_zero, List.set_cons_succ]
            refine uTake (i := 4) (some 55) (v := .agg (spc p.u.sp p.la p.pa).toArray) rfl rfl (by kernel_rfl) (by kernel_rfl) (by kernel_rfl) (by kernel_rfl) (fun _ _ _ h => h) (by rfl) (by assumption) ?_ ?_
            · (intro wS hSw; (try dsimp only at hSw); revert hSw; (try simp only [and_imp]); intros; exact exec_load_b bSpend _ rfl pg (i * 83 + 2) rfl (spc p.u.sp p.la p.pa) (spc_len pS.out _ _) (by assumption))
            try simp only [Act.put, List.setIfInBounds_toArray, List.set_cons_zero, List.set_cons_succ]
            refine uTake (i := 5) (some 56) (v := ?_) rfl rfl (by kernel_rfl) (by kernel_rfl) (by kernel_rfl) (by kernel_rfl) (fun _ _ _ h => h) (by rfl) (by assumption) ?_ ?_
            rotate_left
            · (intro wS hSw; (try dsimp only at hSw); go_simp; try with_reducible rfl)
            try simp only [Act.put, List.setIfInBounds_toArray, List.set_cons_zero, List.set_cons_succ]
            refine uTake (i := 6) (some 57) (v := .agg (spc e.u.sp e.la e.pa).toArray) rfl rfl (by kernel_rfl) (by kernel_rfl) (by kernel_rfl) (by kernel_rfl) (fun _ _ _ h => h) (by rfl) (by assumption) ?_ ?_
            · (intro wS hSw; (try dsimp only at hSw); revert hSw; (try simp only [and_imp]); intros; exact exec_load_b bSpend _ rfl wr.heap.size 2 rfl (spc e.u.sp e.la e.pa) (spc_len eS.out _ _) (by assumption))
            try simp only [Act.put, List.setIfInBounds_toArray, List.set_cons_zero, List.set_cons_succ]
            refine uReady (rs := [7]) (by kernel_rfl) (by simp) ?_
            refine ReadyU.cons rfl (fun KK hKK => ?_) ReadyU.nil
            go_simp
            refine (equal_c p.u.sp e.u.sp (E11.out.fc 0 rfl) (E11.out.fc 2 rfl) HBP.out HBE.out (r := false) (by first | exact oH.out | simpa using oH.out)).mono ?_
            rintro e w6 ⟨rfl, hb⟩
            have E12 : Hid (Env D w ((wr.heap.size, 44, usc e.u e.la e.pa) :: (w.heap.size + 1 + 1, 25, [.slice none 0 0]) :: (w.heap.size + 1, 25, [.slice (some ⟨yab, yao, none⟩) Y.length yk]) :: (w.heap.size, 25, [.slice xa X.length xk]) :: (ls ++ qs)) [.gn (gSp p.u.sp p.la p.pa), .gn (gRg yab (yao + k * 83) (usc e.u e.la e.pa)), .gn (gSp e.u.sp e.la e.pa), .gn (gUd lX), .gn (gPd qX), .gn (gUl (.slice (some ⟨yab, yao, none⟩) Y.length yk) Y), .gn (gUl (.slice xa X.length xk) X)] w6) := Lib.hid (E11.out.below hb)
            clear E11 hb
            (try dsimp only)
            clear hHeld
            refine hKK.out _ _ (⟨(gRg.sub (i := 2) (gUl.el (OU.gul lO.out E12.out (by intro p hp; simp [hp]) (E12.out.fc 3 rfl)) hii pE.out) (usc_sp pS.out _ _)), ((E12.out.bx 0 rfl).range (o := 2) (usc_sp eS.out _ _))⟩) (fun hHeld => ?_)
            clear hKK KK
            try simp only [Act.put, List.setIfInBounds_toArray, List.set_cons_zero, List.set_cons_succ]
            refine uTake (i := 8) (some 59) (v := ?_) rfl rfl (by kernel_rfl) (by kernel_rfl) (by kernel_rfl) (by kernel_rfl) (fun _ _ _ h => h) (by rfl) (by assumption) ?_ ?_
            rotate_left
            · (intro wS hSw; (try dsimp only at hSw); go_simp; try with_reducible rfl)
            try simp only [Act.put, List.setIfInBounds_toArray, List.set_cons_zero, List.set_cons_succ]
            refine uTake (i := 9) (some 50) (v := ?_) rfl rfl (by kernel_rfl) (by kernel_rfl) (by kernel_rfl) (by kernel_rfl) (fun _ _ _ h => h) (by rfl) (by assumption) ?_ ?_
            rotate_left
            · (intro wS hSw; (try dsimp only at hSw); go_simp; try with_reducible rfl)
            try simp only [Act.put, List.setIfInBounds_toArray, List.set_cons_zero, List.set_cons_succ]
            refine uDone (by kernel_rfl) ?_ _
            have HNE : Hid (¬ y.sp = e.u.sp) := Lib.hid (by rw [← HPY.out]; exact fun h => Bool.noConfusion (oH.out.2 h))
            have HQL : Hid (qX.length + 1 ≤ 1000000) := Lib.hid (by omega)
            go_upto_region 12 with (first | (with_reducible refine wpl_alloc_b ?_ ?_ _ zvUse ?_; (· rfl); (· rfl)))
            go_wp2_with (first | (with_reducible refine wpl_alloc_b ?_ ?_ _ zvUse ?_; (· rfl); (· rfl)))
            have E13 : Hid (Env D w ((wr.heap.size, 44, usc e.u e.la e.pa) :: (w.heap.size + 1 + 1, 25, [.slice none 0 0]) :: (w.heap.size + 1, 25, [.slice (some ⟨yab, yao, none⟩) Y.length yk]) :: (w.heap.size, 25, [.slice xa X.length xk]) :: (ls ++ qs)) [.gn (gSp p.u.sp p.la p.pa), .gn (gRg yab (yao + k * 83) (usc e.u e.la e.pa)), .gn (gSp e.u.sp e.la e.pa), .gn (gUd lX), .gn (gPd qX), .gn (gUl (.slice (some ⟨yab, yao, none⟩) Y.length yk) Y), .gn (gUl (.slice xa X.length xk) X)] (w6.drew)) := Lib.hid E12.out.drew
            clear E12
            refine wp_regionU (S := fun w' => w'.rangeAt pg (i * 83) (usc p.u p.la p.pa) ∧ w'.rangeAt wr.heap.size 0 (usc e.u e.la e.pa)) [] (by kernel_rfl) (⟨(gUl.el (OU.gul lO.out E13.out (by intro p hp; simp [hp]) (E13.out.fc 3 rfl)) hii pE.out), ((E13.out.bx 0 rfl).range (o := 0) (fun j hj => by rw [Nat.zero_add]))⟩) (fun hHeld => ?_)
            generalize w6.drew = w7 at *
            refine uTake (i := 0) (some 60) (v := ?_) rfl rfl (by kernel_rfl) (by kernel_rfl) (by kernel_rfl) (by kernel_rfl) (fun _ _ _ h => h) (by rfl) (by assumption) ?_ ?_
            rotate_left
            · (intro wS hSw; (try dsimp only at hSw); go_simp; try with_reducible rfl)
            try simp only [Act.put, List.setIfInBounds_toArray, List.set_cons_zero, List.set_cons_succ]
            refine uTake (i := 1) (some 61) (v := ?_) rfl rfl (by kernel_rfl) (by kernel_rfl) (by kernel_rfl) (by kernel_rfl) (fun _ _ _ h => h) (by rfl) (by assumption) ?_ ?_
            rotate_left
            · (intro wS hSw; (try dsimp only at hSw); go_simp; try with_reducible rfl)
            try simp only [Act.put, List.setIfInBounds_toArray, List.set_cons_zero, List.set_cons_succ]
            refine uTake (i := 2) (some 62) (v := ?_) rfl rfl (by kernel_rfl) (by kernel_rfl) (by kernel_rfl) (by kernel_rfl) (fun _ _ _ h => h) (by rfl) (by assumption) ?_ ?_
            rotate_left
            · (intro wS hSw; (try dsimp only at hSw); go_simp; try with_reducible rfl)
            try simp only [Act.put, List.setIfInBounds_toArray, List.set_cons_zero, List.set_cons_succ]
            refine uTake (i := 3) (some 63) (v := ?_) rfl rfl (by kernel_rfl) (by kernel_rfl) (by kernel_rfl) (by kernel_rfl) (fun _ _ _ h => h) (by rfl) (by assumption) ?_ ?_
            rotate_left
            · (intro wS hSw; (try dsimp only at hSw); go_simp; try with_reducible rfl)
            try simp only [Act.put, List.setIfInBounds_toArray, List.set_cons_zero, List.set_cons_succ]
            refine uTake (i := 4) (some 64) (v := .agg (usc p.u p.la p.pa).toArray) rfl rfl (by kernel_rfl) (by kernel_rfl) (by kernel_rfl) (by kernel_rfl) (fun _ _ _ h => h) (by rfl) (by assumption) ?_ ?_
            · (intro wS hSw; (try dsimp only at hSw); revert hSw; (try simp only [and_imp]); intros; exact exec_load_b bUse _ rfl pg (i * 83) rfl (usc p.u p.la p.pa) (usc_len pS.out _ _) (by assumption))
            try simp only [Act.put, List.setIfInBounds_toArray, List.set_cons_zero, List.set_cons_succ]
            refine uTake (i := 6) (some 66) (v := .agg (usc e.u e.la e.pa).toArray) rfl rfl (by kernel_rfl) (by kernel_rfl) (by kernel_rfl) (by kernel_rfl) (fun _ _ _ h => h) (by rfl) (by assumption) ?_ ?_
            · (intro wS hSw; (try dsimp only at hSw); revert hSw; (try simp only [and_imp]); intros; exact exec_load_b bUse _ rfl wr.heap.size 0 rfl (usc e.u e.la e.pa) (usc_len eS.out _ _) (by assumption))
            try simp only [Act.put, List.setIfInBounds_toArray, List.set_cons_zero, List.set_cons_succ]
            refine uReady (rs := [5]) (by kernel_rfl) (by simp) ?_
            refine ReadyU.cons rfl (fun KK hKK => ?_) ReadyU.nil
            go_simp
            refine (copyOf_c p.u (E13.out.fc 0 rfl) HBP.out).mono ?_
            rintro e w8 ⟨⟨ra, rb, rfl, rh⟩, hb⟩
            have E14 : Hid (Env D w ((wr.heap.size, 44, usc e.u e.la e.pa) :: (w.heap.size + 1 + 1, 25, [.slice none 0 0]) :: (w.heap.size + 1, 25, [.slice (some ⟨yab, yao, none⟩) Y.length yk]) :: (w.heap.size, 25, [.slice xa X.length xk]) :: (ls ++ qs)) [.gn (gSp p.u.sp ra rb), .gn (gSp p.u.sp p.la p.pa), .gn (gRg yab (yao + k * 83) (usc e.u e.la e.pa)), .gn (gSp e.u.sp e.la e.pa), .gn (gUd lX), .gn (gPd qX), .gn (gUl (.slice (some ⟨yab, yao, none⟩) Y.length yk) Y), .gn (gUl (.slice xa X.length xk) X)] w8) := Lib.hid (E13.out.got (E13.out.below hb) (.gn (gSp p.u.sp ra rb)) rh.out)
            clear E13 hb rh
            have rN : Hid (∀ v ∈ usc p.u ra rb, v.oneCell' = true) := Lib.hid (gUv.one (x := ⟨p.u, ra, rb⟩) (E14.out.fc 0 rfl))
            (try dsimp only)
            clear hHeld
            refine hKK.out _ _ (⟨(gUl.el (OU.gul lO.out E14.out (by intro p hp; simp [hp]) (E14.out.fc 4 rfl)) hii pE.out), ((E14.out.bx 0 rfl).range (o := 0) (fun j hj => by rw [Nat.zero_add]))⟩) (fun hHeld => ?_)
            clear hKK KK
            try simp only [Act.put, List.setIfInBounds_toArray, List.set_cons_zero, List.set_cons_succ]
            refine uReady (rs := [7]) (by kernel_rfl) (by simp) ?_
            refine ReadyU.cons rfl (fun KK hKK => ?_) ReadyU.nil
            go_simp
            refine (copyOf_c e.u (E14.out.fc 3 rfl) HBE.out).mono ?_
            rintro e w9 ⟨⟨ta, tb, rfl, th⟩, hb⟩
            have E15 : Hid (Env D w ((wr.heap.size, 44, usc e.u e.la e.pa) :: (w.heap.size + 1 + 1, 25, [.slice none 0 0]) :: (w.heap.size + 1, 25, [.slice (some ⟨yab, yao, none⟩) Y.length yk]) :: (w.heap.size, 25, [.slice xa X.length xk]) :: (ls ++ qs)) [.gn (gSp e.u.sp ta tb), .gn (gSp p.u.sp ra rb), .gn (gSp p.u.sp p.la p.pa), .gn (gRg yab (yao + k * 83) (usc e.u e.la e.pa)), .gn (gSp e.u.sp e.la e.pa), .gn (gUd lX), .gn (gPd qX), .gn (gUl (.slice (some ⟨yab, yao, none⟩) Y.length yk) Y), .gn (gUl (.slice xa X.length xk) X)] w9) := Lib.hid (E14.out.got (E14.out.below hb) (.gn (gSp e.u.sp ta tb)) th.out)
            clear E14 hb th
            have tN : Hid (∀ v ∈ usc e.u ta tb, v.oneCell' = true) := Lib.hid (gUv.one (x := ⟨e.u, ta, tb⟩) (E15.out.fc 0 rfl)); have PLN : Hid ((usc p.u ra rb ++ usc e.u ta tb).length = 166) := Lib.hid (by rw [List.length_append, usc_len pS.out, usc_len eS.out]); have PON : Hid (∀ v ∈ usc p.u ra rb ++ usc e.u ta tb, v.oneCell' = true) := Lib.hid (fun v hv => (List.mem_append.1 hv).elim (rN.out v) (tN.out v))
            (try dsimp only)
            clear hHeld
            refine hKK.out _ _ (⟨(gUl.el (OU.gul lO.out E15.out (by intro p hp; simp [hp]) (E15.out.fc 5 rfl)) hii pE.out), ((E15.out.bx 0 rfl).range (o := 0) (fun j hj => by rw [Nat.zero_add]))⟩) (fun hHeld => ?_)
            clear hKK KK
            try simp only [Act.put, List.setIfInBounds_toArray, List.set_cons_zero, List.set_cons_succ]
            refine uTake (i := 8) (some 68) (v := .agg (usc p.u ra rb ++ usc e.u ta tb).toArray) rfl rfl (by kernel_rfl) (by kernel_rfl) (by kernel_rfl) (by kernel_rfl) (fun _ _ _ h => h) (by rfl) (by assumption) ?_ ?_
            · (intro wS hSw; (try dsimp only at hSw); exact exec_pair (usc_len pS.out _ _) (usc_len eS.out _ _) ⟨_, _, rfl, rfl, rfl⟩)
            try simp only [Act.put, List.setIfInBounds_toArray, List.set_cons_zero, List.set_cons_succ]
            refine uReady (rs := [9]) (by kernel_rfl) (by simp) ?_
            refine ReadyU.cons rfl (fun KK hKK => ?_) ReadyU.nil
            refine op_slice1p (some 69) rfl rfl (.tmp 68) rfl (usc p.u ra rb ++ usc e.u ta tb) PLN.out (by simp [Act.eval, Act.put]; done) ?_
            have E16 : Hid (Env D w ((w9.heap.size, 78, usc p.u ra rb ++ usc e.u ta tb) :: (wr.heap.size, 44, usc e.u e.la e.pa) :: (w.heap.size + 1 + 1, 25, [.slice none 0 0]) :: (w.heap.size + 1, 25, [.slice (some ⟨yab, yao, none⟩) Y.length yk]) :: (w.heap.size, 25, [.slice xa X.length xk]) :: (ls ++ qs)) [.gn (gSp e.u.sp ta tb), .gn (gSp p.u.sp ra rb), .gn (gSp p.u.sp p.la p.pa), .gn (gRg yab (yao + k * 83) (usc e.u e.la e.pa)), .gn (gSp e.u.sp e.la e.pa), .gn (gUd lX), .gn (gPd qX), .gn (gUl (.slice (some ⟨yab, yao, none⟩) Y.length yk) Y), .gn (gUl (.slice xa X.length xk) X)] _) := Lib.hid ((E15.out.push 78 (usc p.u ra rb ++ usc e.u ta tb) (w9.heap.size) (by simp)))
            (try dsimp only)
            clear hHeld
            refine hKK.out _ _ (⟨(gUl.el (OU.gul lO.out E16.out (by intro p hp; simp [hp]) (E16.out.fc 5 rfl)) hii pE.out), ((E16.out.bx 1 rfl).range (o := 0) (fun j hj => by rw [Nat.zero_add]))⟩) (fun hHeld => ?_)
            clear hKK KK
            try simp only [Act.put, List.setIfInBounds_toArray, List.set_cons_zero, List.set_cons_succ]
            clear E15
            generalize w9.alloc (.cells (usc p.u ra rb ++ usc e.u ta tb).toArray 78) = w10 at *
            refine uReady (rs := [10]) (by kernel_rfl) (by simp) ?_
            refine ReadyU.cons rfl (fun KK hKK => ?_) ReadyU.nil
            refine op_app1 (c := 1) tiPair (some 70) rfl rfl (.tmp 60) (.tmp 69) rfl E16.out (A := ((w9.heap.size, 78, usc p.u ra rb ++ usc e.u ta tb) :: (wr.heap.size, 44, usc e.u e.la e.pa) :: (w.heap.size + 1 + 1, 25, [.slice none 0 0]) :: (w.heap.size + 1, 25, [.slice (some ⟨yab, yao, none⟩) Y.length yk]) :: (w.heap.size, 25, [.slice xa X.length xk]) :: ls)) (sg := qs) (B' := []) (F := ((w9.heap.size, 78, usc p.u ra rb ++ usc e.u ta tb) :: (wr.heap.size, 44, usc e.u e.la e.pa) :: (w.heap.size + 1 + 1, 25, [.slice none 0 0]) :: (w.heap.size + 1, 25, [.slice (some ⟨yab, yao, none⟩) Y.length yk]) :: (w.heap.size, 25, [.slice xa X.length xk]) :: (ls ++ qs))) (by simp) (qO.out.os rfl) (by simp [Act.eval, Act.put]) (by simp [Act.eval, Act.put]; done) (SrcN.box (m := 1) (E16.out.bx 0 rfl) PLN.out PON.out) HQL.out ?_
            intro zg zp zc w11 zH zT zE
            have zO := Lib.hid (OP.app (x := (Uv.mk p.u ra rb, Uv.mk e.u ta tb)) (g' := zg) (cs' := zc) (cap' := zp) qO.out rfl zH.out zT.out)
            have E17 : Hid (Env D w ((w9.heap.size, 78, usc p.u ra rb ++ usc e.u ta tb) :: (wr.heap.size, 44, usc e.u e.la e.pa) :: (w.heap.size + 1 + 1, 25, [.slice none 0 0]) :: (w.heap.size + 1, 25, [.slice (some ⟨yab, yao, none⟩) Y.length yk]) :: (w.heap.size, 25, [.slice xa X.length xk]) :: (ls ++ [(zg, 78, zc)])) [.gn (gPd (qX ++ [(Uv.mk p.u ra rb, Uv.mk e.u ta tb)])), .gn (gSp e.u.sp ta tb), .gn (gSp p.u.sp ra rb), .gn (gSp p.u.sp p.la p.pa), .gn (gRg yab (yao + k * 83) (usc e.u e.la e.pa)), .gn (gSp e.u.sp e.la e.pa), .gn (gUd lX), .gn (gPd qX), .gn (gUl (.slice (some ⟨yab, yao, none⟩) Y.length yk) Y), .gn (gUl (.slice xa X.length xk) X)] w11) := Lib.hid ((zE.out.note (.gn (gPd (qX ++ [(Uv.mk p.u ra rb, Uv.mk e.u ta tb)]))) (gPd.app (p := (Uv.mk p.u ra rb, Uv.mk e.u ta tb)) (zE.out.fc 6 rfl) (zE.out.fc 1 rfl) (zE.out.fc 0 rfl))).cast (by simp))
            clear E16 zE zH zT qO
            (try dsimp only)
            clear hHeld
            refine hKK.out _ _ (⟨(gUl.el (OU.gul lO.out E17.out (by intro p hp; simp [hp]) (E17.out.fc 6 rfl)) hii pE.out), ((E17.out.bx 1 rfl).range (o := 0) (fun j hj => by rw [Nat.zero_add]))⟩) (fun hHeld => ?_)
            clear hKK KK
            try simp only [Act.put, List.setIfInBounds_toArray, List.set_cons_zero, List.set_cons_succ]
            refine uTake (i := 11) (some 8) (v := ?_) rfl rfl (by kernel_rfl) (by kernel_rfl) (by kernel_rfl) (by kernel_rfl) (fun _ _ _ h => h) (by rfl) (by assumption) ?_ ?_
            rotate_left
            · (intro wS hSw; (try dsimp only at hSw); go_simp; try with_reducible rfl)
            try simp only [Act.put, List.setIfInBounds_toArray, List.set_cons_zero, List.set_cons_succ]
            refine uDone (by kernel_rfl) ?_ _
            have HSM : Hid (mgN (X.map Uv.u) (Y.map Uv.u) (k + 1) = ((mgN (X.map Uv.u) (Y.map Uv.u) k).1, (mgN (X.map Uv.u) (Y.map Uv.u) k).2 ++ [(y, e.u)])) := Lib.hid (mgN_diff HU.out (by rw [← HX.out]; exact HFK.out) HNE.out)
            have HX2 : Hid (lX.map Uv.u = (mgN (X.map Uv.u) (Y.map Uv.u) (k + 1)).1) := Lib.hid (by rw [HSM.out]; exact HX.out)
            have HQ2 : Hid ((qX ++ [(Uv.mk p.u ra rb, Uv.mk e.u ta tb)]).map pus = (mgN (X.map Uv.u) (Y.map Uv.u) (k + 1)).2) := Lib.hid (by rw [HSM.out, List.map_append, HQ.out, ← HPY.out]; rfl)
            have hZ := ((E17.out.drop).drop)
            have EZ : Hid (Env D w ((w.heap.size + 1 + 1, 25, [.slice none 0 0]) :: (w.heap.size + 1, 25, [.slice (some ⟨yab, yao, none⟩) Y.length yk]) :: (w.heap.size, 25, [.slice xa X.length xk]) :: (ls ++ [(zg, 78, zc)])) [.gn (gUd lX), .gn (gPd (qX ++ [(Uv.mk p.u ra rb, Uv.mk e.u ta tb)])), .gn (gUl (.slice (some ⟨yab, yao, none⟩) Y.length yk) Y), .gn (gUl (.slice xa X.length xk) X)] _) := Lib.hid ⟨hZ.bel, hZ.box, ⟨hZ.fc 6 rfl, ⟨hZ.fc 0 rfl, ⟨hZ.fc 8 rfl, ⟨hZ.fc 9 rfl, trivial⟩⟩⟩⟩⟩
            clear hZ
            go_wp2_with (first | (with_reducible refine wpl_alloc_b ?_ ?_ _ zvUse ?_; (· rfl); (· rfl)))
            go_roundg (Y.length - (k + 1))
            case rel => exact ⟨k + 1, ls, lc, _, _, lX, [(zg, 78, zc)], zc, (some ⟨zg, 0, none⟩), zp, qX ++ [(Uv.mk p.u ra rb, Uv.mk e.u ta tb)], rfl, rfl, (OP.val rfl), Lib.hid (EZ.out.cast (by simp)), lO, (OP.len' zO), Lib.hid ⟨⟨by omega, rfl⟩, HX2.out, HQ2.out⟩⟩
            case measure => exact by omega
end Go.Proofs.Ytfnnfmefihiefaa

/- the reference's Merge. -/
import Derived.Test.YtfnnfmefihiefaaSpBb
namespace Go.Proofs.Ytfnnfmefihiefaa
open Go.RowKit
set_option linter.unusedVariables false
set_option linter.unusedSimpArgs false
set_option maxRecDepth 100000 in
set_option maxHeartbeats 8000000 in
theorem rmerge_c {D : Nat → Prop} (X Y : List Uv) {xa ya : Option Addr} {xk yk : Nat} {w : World} (hx : Fct.at w D (.gn (gUl (.slice xa X.length xk) X))) (hy : Fct.at w D (.gn (gUl (.slice ya Y.length yk) Y))) (hb0 : ∀ x ∈ X, x.u.sp.lv.length ≤ 1000000 ∧ x.u.sp.pa.length ≤ 1000000) (hc0 : ∀ x ∈ Y, x.u.sp.lv.length ≤ 1000000 ∧ x.u.sp.pa.length ≤ 1000000) (hm0 : X.length ≤ 20000 ∧ Y.length ≤ 20000) {L : List Us} {C : List (Us × Us)} {n : Int} (hr0 : mergeRes (X.map Uv.u) (Y.map Uv.u) = (L, C, n)) :
    Calls Try.prog 30 #[.agg #[.slice xa X.length xk], .agg #[.slice ya Y.length yk]] w fun e w' => RetTP (fun b => D b ∨ w.heap.size ≤ b) L C n e w' ∧ Below w.heap.size w w' := by
  have E0 : Hid (Env D w [] [.gn (gUl (.slice ya Y.length yk) Y), .gn (gUl (.slice xa X.length xk) X)] w) := Lib.hid (((Env.start D w).arg (.gn (gUl (.slice xa X.length xk) X)) hx).arg (.gn (gUl (.slice ya Y.length yk) Y)) hy)
  clear hx hy
  go_enter Try.func30, Try.ntmps30
  have hb := Lib.hid hb0
  have hc := Lib.hid hc0
  have hm := Lib.hid hm0
  have hr := Lib.hid hr0
  clear hb0 hc0 hm0 hr0
  have HL : Hid ((X.map Uv.u).length = X.length ∧ (Y.map Uv.u).length = Y.length) := Lib.hid ⟨List.length_map .., List.length_map ..⟩
  have hm9 := hm.out
  obtain ⟨v1, v1h⟩ : ∃ b : Bool, b = true ↔ ValidT (X.map Uv.u) := by by_cases h : ValidT (X.map Uv.u); (· exact ⟨true, ⟨fun _ => h, fun _ => rfl⟩⟩); exact ⟨false, ⟨fun h2 => Bool.noConfusion h2, fun h2 => absurd h2 h⟩⟩
  have v1H := Lib.hid v1h
  clear v1h
  obtain ⟨v2, v2h⟩ : ∃ b : Bool, b = true ↔ ValidT (Y.map Uv.u) := by by_cases h : ValidT (Y.map Uv.u); (· exact ⟨true, ⟨fun _ => h, fun _ => rfl⟩⟩); exact ⟨false, ⟨fun h2 => Bool.noConfusion h2, fun h2 => absurd h2 h⟩⟩
  have v2H := Lib.hid v2h
  clear v2h
  cases v1 with
  | false =>
    go_wp2_with fail
    have E1 : Hid (Env D w [(w.heap.size + 1 + 1, 25, [.slice none 0 0]), (w.heap.size + 1, 25, [.slice ya Y.length yk]), (w.heap.size, 25, [.slice xa X.length xk])] [.gn (gUl (.slice ya Y.length yk) Y), .gn (gUl (.slice xa X.length xk) X)] _) := Lib.hid ((((E0.out.push 25 [.slice xa X.length xk] (w.heap.size) (by simp)).push 25 [.slice ya Y.length yk] (w.heap.size + 1) (by simp)).push 25 [.slice none 0 0] (w.heap.size + 1 + 1) (by simp)))
    refine (rvalid_c X (E1.out.fc 1 rfl) hb.out (t := false) (by first | exact v1H.out | simpa using v1H.out) (by omega)).mono ?_
    rintro e w1 ⟨rfl, hb⟩
    have E2 : Hid (Env D w [(w.heap.size + 1 + 1, 25, [.slice none 0 0]), (w.heap.size + 1, 25, [.slice ya Y.length yk]), (w.heap.size, 25, [.slice xa X.length xk])] [.gn (gUl (.slice ya Y.length yk) Y), .gn (gUl (.slice xa X.length xk) X)] w1) := Lib.hid (E1.out.below hb)
    clear E0 E1 hb
    have b1 := E2.out.bx 0 rfl
    have c1_0 := b1.cell 0 rfl
    have f1_0 := b1.frozen 0
    clear b1
    have HR : Hid (L = [] ∧ C = [] ∧ n = 1) := Lib.hid (by have h := hr.out; rw [mergeRes_bad (.inl (by simpa using v1H.out))] at h; simpa [eq_comm] using h)
    go_wp2
    have E3 : Hid (Env D w [(w.heap.size + 1 + 1, 25, [.slice none 0 0]), (w.heap.size + 1, 25, [.slice ya Y.length yk]), (w.heap.size, 25, [.slice xa X.length xk])] [.gn (gUl (.slice ya Y.length yk) Y), .gn (gUl (.slice xa X.length xk) X)] _) := Lib.hid ((E2.out.set 0 0 (.slice none 0 0) rfl))
    have hfin := E3.out
    have q2 := (hfin.bx 0 rfl).cell 0 rfl
    exact bodyPost_ret (v := (.tuple #[.agg #[.slice none 0 0], .slice none 0 0, .int .i64 1])) (by simp [results, Try.results30, go_sem, q2]) rfl ⟨RetTP.fail HR.out, hfin.bel⟩
  | true =>
    cases v2 with
    | false =>
      go_wp2_with fail
      have E1 : Hid (Env D w [(w.heap.size + 1 + 1, 25, [.slice none 0 0]), (w.heap.size + 1, 25, [.slice ya Y.length yk]), (w.heap.size, 25, [.slice xa X.length xk])] [.gn (gUl (.slice ya Y.length yk) Y), .gn (gUl (.slice xa X.length xk) X)] _) := Lib.hid ((((E0.out.push 25 [.slice xa X.length xk] (w.heap.size) (by simp)).push 25 [.slice ya Y.length yk] (w.heap.size + 1) (by simp)).push 25 [.slice none 0 0] (w.heap.size + 1 + 1) (by simp)))
      refine (rvalid_c X (E1.out.fc 1 rfl) hb.out (t := true) (by first | exact v1H.out | simpa using v1H.out) (by omega)).mono ?_
      rintro e w1 ⟨rfl, hb⟩
      have E2 : Hid (Env D w [(w.heap.size + 1 + 1, 25, [.slice none 0 0]), (w.heap.size + 1, 25, [.slice ya Y.length yk]), (w.heap.size, 25, [.slice xa X.length xk])] [.gn (gUl (.slice ya Y.length yk) Y), .gn (gUl (.slice xa X.length xk) X)] w1) := Lib.hid (E1.out.below hb)
      clear E0 E1 hb
      have b1 := E2.out.bx 1 rfl
      have c1_0 := b1.cell 0 rfl
      clear b1
      go_wp2_with fail
      refine (rvalid_c Y (E2.out.fc 0 rfl) hc.out (t := false) (by first | exact v2H.out | simpa using v2H.out) (by omega)).mono ?_
      rintro e w2 ⟨rfl, hb⟩
      have E3 : Hid (Env D w [(w.heap.size + 1 + 1, 25, [.slice none 0 0]), (w.heap.size + 1, 25, [.slice ya Y.length yk]), (w.heap.size, 25, [.slice xa X.length xk])] [.gn (gUl (.slice ya Y.length yk) Y), .gn (gUl (.slice xa X.length xk) X)] w2) := Lib.hid (E2.out.below hb)
      clear c1_0 E2 hb
      have b2 := E3.out.bx 0 rfl
      have c2_0 := b2.cell 0 rfl
      have f2_0 := b2.frozen 0
      clear b2
      have HR : Hid (L = [] ∧ C = [] ∧ n = 1) := Lib.hid (by have h := hr.out; rw [mergeRes_bad (.inr (by simpa using v2H.out))] at h; simpa [eq_comm] using h)
      go_wp2
      have E4 : Hid (Env D w [(w.heap.size + 1 + 1, 25, [.slice none 0 0]), (w.heap.size + 1, 25, [.slice ya Y.length yk]), (w.heap.size, 25, [.slice xa X.length xk])] [.gn (gUl (.slice ya Y.length yk) Y), .gn (gUl (.slice xa X.length xk) X)] _) := Lib.hid ((E3.out.set 0 0 (.slice none 0 0) rfl))
      have hfin := E4.out
      have q3 := (hfin.bx 0 rfl).cell 0 rfl
      exact bodyPost_ret (v := (.tuple #[.agg #[.slice none 0 0], .slice none 0 0, .int .i64 1])) (by simp [results, Try.results30, go_sem, q3]) rfl ⟨RetTP.fail HR.out, hfin.bel⟩
    | true =>
      go_wp2_with fail
      have E1 : Hid (Env D w [(w.heap.size + 1 + 1, 25, [.slice none 0 0]), (w.heap.size + 1, 25, [.slice ya Y.length yk]), (w.heap.size, 25, [.slice xa X.length xk])] [.gn (gUl (.slice ya Y.length yk) Y), .gn (gUl (.slice xa X.length xk) X)] _) := Lib.hid ((((E0.out.push 25 [.slice xa X.length xk] (w.heap.size) (by simp)).push 25 [.slice ya Y.length yk] (w.heap.size + 1) (by simp)).push 25 [.slice none 0 0] (w.heap.size + 1 + 1) (by simp)))
      refine (rvalid_c X (E1.out.fc 1 rfl) hb.out (t := true) (by first | exact v1H.out | simpa using v1H.out) (by omega)).mono ?_
      rintro e w1 ⟨rfl, hb⟩
      have E2 : Hid (Env D w [(w.heap.size + 1 + 1, 25, [.slice none 0 0]), (w.heap.size + 1, 25, [.slice ya Y.length yk]), (w.heap.size, 25, [.slice xa X.length xk])] [.gn (gUl (.slice ya Y.length yk) Y), .gn (gUl (.slice xa X.length xk) X)] w1) := Lib.hid (E1.out.below hb)
      clear E0 E1 hb
      have b1 := E2.out.bx 1 rfl
      have c1_0 := b1.cell 0 rfl
      clear b1
      go_wp2_with fail
      refine (rvalid_c Y (E2.out.fc 0 rfl) hc.out (t := true) (by first | exact v2H.out | simpa using v2H.out) (by omega)).mono ?_
      rintro e w2 ⟨rfl, hb⟩
      have E3 : Hid (Env D w [(w.heap.size + 1 + 1, 25, [.slice none 0 0]), (w.heap.size + 1, 25, [.slice ya Y.length yk]), (w.heap.size, 25, [.slice xa X.length xk])] [.gn (gUl (.slice ya Y.length yk) Y), .gn (gUl (.slice xa X.length xk) X)] w2) := Lib.hid (E2.out.below hb)
      clear c1_0 E2 hb
      have HV : Hid (ValidT (X.map Uv.u)) := Lib.hid (v1H.out.1 (by simp))
      have HW : Hid (ValidT (Y.map Uv.u)) := Lib.hid (v2H.out.1 (by simp))
      have b2 := E3.out.bx 2 rfl
      have c2_0 := b2.cell 0 rfl
      clear b2
      go_wp2_with fail
      have E4 : Hid (Env D w [(w2.heap.size, 25, [.slice xa X.length xk]), (w.heap.size + 1 + 1, 25, [.slice none 0 0]), (w.heap.size + 1, 25, [.slice ya Y.length yk]), (w.heap.size, 25, [.slice xa X.length xk])] [.gn (gUl (.slice ya Y.length yk) Y), .gn (gUl (.slice xa X.length xk) X)] _) := Lib.hid ((E3.out.push 25 [.slice xa X.length xk] (w2.heap.size) (by simp)))
      have E5 : Hid (Env D w ((w2.heap.size, 25, [.slice xa X.length xk]) :: (w.heap.size + 1 + 1, 25, [.slice none 0 0]) :: (w.heap.size + 1, 25, [.slice ya Y.length yk]) :: (w.heap.size, 25, [.slice xa X.length xk]) :: ([] : List Bx)) [.gn (gPd []), .gn (gUl (.slice ya Y.length yk) Y), .gn (gUl (.slice xa X.length xk) X)] _) := Lib.hid ((E4.out.note (.gn (gPd [])) gPd.nil).cast (by simp))
      have E6 : Hid (Env D w ((w2.heap.size, 25, [.slice xa X.length xk]) :: (w.heap.size + 1 + 1, 25, [.slice none 0 0]) :: (w.heap.size + 1, 25, [.slice ya Y.length yk]) :: (w.heap.size, 25, [.slice xa X.length xk]) :: ([] : List Bx)) [.gn (gUl (.slice xa X.length xk) X), .gn (gPd []), .gn (gUl (.slice ya Y.length yk) Y), .gn (gUl (.slice xa X.length xk) X)] _) := Lib.hid (E5.out.note (.gn (gUl (.slice xa X.length xk) X)) (E5.out.fc 2 rfl))
      go_wp2_with fail
      have hZ := E6.out
      have ES : Hid (Env D w ((w2.heap.size, 25, [.slice xa X.length xk]) :: (w.heap.size + 1 + 1, 25, [.slice none 0 0]) :: (w.heap.size + 1, 25, [.slice ya Y.length yk]) :: (w.heap.size, 25, [.slice xa X.length xk]) :: ([] : List Bx)) [.gn (gPd []), .gn (gUl (.slice xa X.length xk) X), .gn (gUl (.slice ya Y.length yk) Y), .gn (gUl (.slice xa X.length xk) X)] _) := Lib.hid ⟨hZ.bel, hZ.box, ⟨hZ.fc 1 rfl, ⟨hZ.fc 0 rfl, ⟨hZ.fc 2 rfl, ⟨hZ.fc 3 rfl, trivial⟩⟩⟩⟩⟩
      clear hZ
      go_loopg [9, 7] (Y.length) (fun gk s9 s7 wr => ∃ (k : Nat) (oa : Option Addr) (ok : Nat) (oX : List Uv) (qs : List Bx) (qc : List Value) (qa : Option Addr) (qk : Nat) (qX : List Pv), s9 = .int .i64 (k : Int) ∧ s7 = .slice qa qX.length qk ∧ Hid (Env D w ((w2.heap.size, 25, [.slice oa oX.length ok]) :: (w.heap.size + 1 + 1, 25, [.slice none 0 0]) :: (w.heap.size + 1, 25, [.slice ya Y.length yk]) :: (w.heap.size, 25, [.slice xa X.length xk]) :: qs) [.gn (gPd qX), .gn (gUl (.slice oa oX.length ok) oX), .gn (gUl (.slice ya Y.length yk) Y), .gn (gUl (.slice xa X.length xk) X)] wr) ∧ Hid (OP qs qc (.slice qa qX.length qk) qX) ∧ Hid ((k ≤ Y.length ∧ gk = Y.length - k) ∧ oX.map Uv.u = (mgN (X.map Uv.u) (Y.map Uv.u) k).1 ∧ qX.map pus = (mgN (X.map Uv.u) (Y.map Uv.u) k).2))
      case atStart => exact ⟨0, xa, xk, X, ([] : List Bx), [], none, 0, [], rfl, rfl, Lib.hid (ES.out.cast (by simp)), (Lib.hid OP.nil), Lib.hid ⟨⟨Nat.zero_le _, rfl⟩, rfl, rfl⟩⟩
      case round =>
        clear c2_0 E3 E4 E5 E6 ES
        obtain ⟨k, oa, ok, oX, qs, qc, qa, qk, qX, rfl, rfl, EL, qO, HA⟩ := hrel
        obtain ⟨⟨a1, a2⟩, a3, a4⟩ := HA.out
        have HX := Lib.hid a3
        have HQ := Lib.hid a4
        clear a3 a4 HA
        have HLEN : Hid (oX.length = (mgN (X.map Uv.u) (Y.map Uv.u) k).1.length ∧ qX.length = (mgN (X.map Uv.u) (Y.map Uv.u) k).2.length) := Lib.hid ⟨by rw [← HX.out, List.length_map], by rw [← HQ.out, List.length_map]⟩
        have HBD : Hid (oX.length ≤ 50000 ∧ qX.length ≤ 50000) := Lib.hid (by have h1 := HLEN.out; have h2 := mgN_len (X := X.map Uv.u) (Y := Y.map Uv.u) k; have h3 := HL.out; omega)
        by_cases hy : k = Y.length
        · skip
          have t6 : decide ((k : Int) < (Y.length : Int)) = false := decide_eq_false (by omega)
          have t7 : decide (k < Y.length) = false := decide_eq_false (by omega)
          have HX2 : Hid (oX.map Uv.u = (mgN (X.map Uv.u) (Y.map Uv.u) (Y.map Uv.u).length).1) := Lib.hid (by rw [HX.out, hy, HL.out.2])
          have HQ2 : Hid (qX.map pus = (mgN (X.map Uv.u) (Y.map Uv.u) (Y.map Uv.u).length).2) := Lib.hid (by rw [HQ.out, hy, HL.out.2])
          have HY := Lib.hid hy
          clear hy
          have b3 := EL.out.bx 2 rfl
          have c3_0 := b3.cell 0 rfl
          clear b3
          by_cases qf : 2000 < oX.length
          · have d1 : decide ((2000 : Int) < (oX.length : Int)) = true := decide_eq_true (by omega)
            have d1b : decide (2000 < oX.length) = true := decide_eq_true qf
            have b4 := EL.out.bx 0 rfl
            have c4_0 := b4.cell 0 rfl
            clear b4
            have b5 := EL.out.bx 1 rfl
            have c5_0 := b5.cell 0 rfl
            have f5_0 := b5.frozen 0
            clear b5
            have HR : Hid (L = [] ∧ C = [] ∧ n = 5) := Lib.hid (by have h := hr.out; rw [mergeRes_full HV.out HW.out (by rw [← HX2.out, List.length_map]; exact qf)] at h; simpa [eq_comm] using h)
            go_wp2
            have E7 : Hid (Env D w ((w2.heap.size, 25, [.slice oa oX.length ok]) :: (w.heap.size + 1 + 1, 25, [.slice none 0 0]) :: (w.heap.size + 1, 25, [.slice ya Y.length yk]) :: (w.heap.size, 25, [.slice xa X.length xk]) :: qs) [.gn (gPd qX), .gn (gUl (.slice oa oX.length ok) oX), .gn (gUl (.slice ya Y.length yk) Y), .gn (gUl (.slice xa X.length xk) X)] _) := Lib.hid ((EL.out.set 1 0 (.slice none 0 0) rfl))
            have hfin := E7.out
            have q6 := (hfin.bx 1 rfl).cell 0 rfl
            exact bodyPost_ret (v := (.tuple #[.agg #[.slice none 0 0], .slice none 0 0, .int .i64 5])) (by simp [results, Try.results30, go_sem, q6]) rfl ⟨RetTP.fail HR.out, hfin.bel⟩
          have d1 : decide ((2000 : Int) < (oX.length : Int)) = false := decide_eq_false (by omega)
          have d1b : decide (2000 < oX.length) = false := decide_eq_false qf
          have HR : Hid (oX.map Uv.u = L ∧ qX.map pus = C ∧ n = 0) := Lib.hid (by have h := hr.out; rw [mergeRes_ok HV.out HW.out (by rw [← HX2.out, List.length_map]; exact qf)] at h; simp only [Prod.mk.injEq] at h; exact ⟨HX2.out.trans h.1, HQ2.out.trans h.2.1, h.2.2.symm⟩)
          clear qf
          have b4 := EL.out.bx 0 rfl
          have c4_0 := b4.cell 0 rfl
          clear b4
          have b5 := EL.out.bx 1 rfl
          have c5_0 := b5.cell 0 rfl
          have f5_0 := b5.frozen 0
          clear b5
          go_wp2_with fail
          have E7 : Hid (Env D w ((w2.heap.size, 25, [.slice oa oX.length ok]) :: (w.heap.size + 1 + 1, 25, [.slice oa oX.length ok]) :: (w.heap.size + 1, 25, [.slice ya Y.length yk]) :: (w.heap.size, 25, [.slice xa X.length xk]) :: qs) [.gn (gPd qX), .gn (gUl (.slice oa oX.length ok) oX), .gn (gUl (.slice ya Y.length yk) Y), .gn (gUl (.slice xa X.length xk) X)] _) := Lib.hid ((EL.out.set 1 0 (.slice oa oX.length ok) rfl))
          have HRO : Hid ((gUl (.slice oa oX.length ok) oX).at_ _ (fun b => D b ∨ w.heap.size ≤ b)) := Lib.hid (E7.out.out 1 rfl)
          have HRQ := Lib.hid (OP.ret qO.out E7.out (by intro p hp; simp [hp]) (E7.out.out 0 rfl))
          have b6 := E7.out.bx 1 rfl
          have c6_0 := b6.cell 0 rfl
          clear b6
          go_wp2
          have hfin := E7.out
          have q7 := (hfin.bx 1 rfl).cell 0 rfl
          exact bodyPost_ret (v := (.tuple #[.agg #[.slice oa oX.length ok], .slice qa qX.length qk, .int .i64 0])) (by simp [results, Try.results30, go_sem, q7]) rfl ⟨⟨oa, ok, oX, qa, qk, qX, by rw [HR.out.2.2], HR.out.1, HR.out.2.1, HRO, HRQ⟩, hfin.bel⟩
        have hk : k < Y.length := lt_of hy a1
        have t6 : decide ((k : Int) < (Y.length : Int)) = true := decide_eq_true (by omega)
        have t7 : decide (k < Y.length) = true := decide_eq_true (by omega)
        have hkI : (k : Int) < (Y.length : Int) := by omega
        clear hy
        have hbd := HBD.out
        have b3 := EL.out.bx 2 rfl
        have c3_0 := b3.cell 0 rfl
        clear b3
        go_upto_region 8 with (fail)
        obtain ⟨yab, yao, rfl⟩ := gUl.addr (EL.out.fc 2 rfl) (List.ne_nil_of_length_pos (Nat.lt_of_le_of_lt (Nat.zero_le _) hk))
        obtain ⟨e, ee⟩ : ∃ x, Y[k] = x := ⟨_, rfl⟩
        have eE := Lib.hid ee
        clear ee
        have E7 : Hid (Env D w ((w2.heap.size, 25, [.slice oa oX.length ok]) :: (w.heap.size + 1 + 1, 25, [.slice none 0 0]) :: (w.heap.size + 1, 25, [.slice (some ⟨yab, yao, none⟩) Y.length yk]) :: (w.heap.size, 25, [.slice xa X.length xk]) :: qs) [.gn (gRg yab (yao + k * 83) (usc e.u e.la e.pa)), .gn (gSp e.u.sp e.la e.pa), .gn (gPd qX), .gn (gUl (.slice oa oX.length ok) oX), .gn (gUl (.slice (some ⟨yab, yao, none⟩) Y.length yk) Y), .gn (gUl (.slice xa X.length xk) X)] _) := Lib.hid (EL.out.elU 2 rfl hk eE.out)
        clear EL
        have eS := Lib.hid (E7.out.spOk 1 rfl)
        have eN : Hid (∀ v ∈ usc e.u e.la e.pa, v.oneCell' = true) := Lib.hid (usc_one eS.out (Rw.oneV (E7.out.fc 1 rfl).2.1) (Rw.oneV (E7.out.fc 1 rfl).2.2))
        have HU : Hid ((Y.map Uv.u)[k]? = some e.u) := Lib.hid (map_get hk eE.out)
        have HBE : Hid (e.u.sp.lv.length ≤ 1000000 ∧ e.u.sp.pa.length ≤ 1000000) := Lib.hid (hc.out e (by rw [← eE.out]; exact List.getElem_mem hk))
        have b4 := E7.out.bx 2 rfl
        have c4_0 := b4.cell 0 rfl
        clear b4
        have r5 := Lib.hid (E7.out.fc 0 rfl).2
        have E8 : Hid (Env D w ((wr.heap.size, 44, usc zU nilV nilV) :: (w2.heap.size, 25, [.slice oa oX.length ok]) :: (w.heap.size + 1 + 1, 25, [.slice none 0 0]) :: (w.heap.size + 1, 25, [.slice (some ⟨yab, yao, none⟩) Y.length yk]) :: (w.heap.size, 25, [.slice xa X.length xk]) :: qs) [.gn (gRg yab (yao + k * 83) (usc e.u e.la e.pa)), .gn (gSp e.u.sp e.la e.pa), .gn (gPd qX), .gn (gUl (.slice oa oX.length ok) oX), .gn (gUl (.slice (some ⟨yab, yao, none⟩) Y.length yk) Y), .gn (gUl (.slice xa X.length xk) X)] _) := Lib.hid ((E7.out.push 44 (usc zU nilV nilV) (wr.heap.size) (by simp)))
        have b6 := Lib.hid (E8.out.bx 0 rfl)
        have HFE : Hid (findK (mgN (X.map Uv.u) (Y.map Uv.u) k).1 e.u.ua e.u.ub = findK (X.map Uv.u) e.u.ua e.u.ub) := Lib.hid (mgN_find HV.out.2.2 HW.out.2.2 HU.out)
        obtain ⟨fd, hfd⟩ : ∃ fd, findK (X.map Uv.u) e.u.ua e.u.ub = fd := ⟨_, rfl⟩
        have HFK := Lib.hid hfd
        clear hfd
        cases fd with
        | none =>
          have HFR : Hid (FindR (X.map Uv.u) e.u.ua e.u.ub (-1)) := Lib.hid (findR_none HFK.out)
          have E9 : Hid (Env D w ((wr.heap.size, 44, usc e.u e.la e.pa) :: (w2.heap.size, 25, [.slice oa oX.length ok]) :: (w.heap.size + 1 + 1, 25, [.slice none 0 0]) :: (w.heap.size + 1, 25, [.slice (some ⟨yab, yao, none⟩) Y.length yk]) :: (w.heap.size, 25, [.slice xa X.length xk]) :: qs) [.gn (gRg yab (yao + k * 83) (usc e.u e.la e.pa)), .gn (gSp e.u.sp e.la e.pa), .gn (gPd qX), .gn (gUl (.slice oa oX.length ok) oX), .gn (gUl (.slice (some ⟨yab, yao, none⟩) Y.length yk) Y), .gn (gUl (.slice xa X.length xk) X)] _) := Lib.hid ((E8.out.whole 0 (usc e.u e.la e.pa) rfl ((usc_len eS.out _ _).trans (usc_len zS_ok _ _).symm)))
          have b7 := E9.out.bx 4 rfl
          have c7_0 := b7.cell 0 rfl
          clear b7
          have b8 := E9.out.bx 0 rfl
          have c8 := b8.cell 0 rfl
          clear b8
          have b9 := E9.out.bx 0 rfl
          have c9 := b9.cell 1 rfl
          clear b9
          go_wp2_with (first | (with_reducible refine wpl_load_b bUse yab (yao + k * 83) ?_ ?_ (usc e.u e.la e.pa) (usc_len eS.out _ _) r5.out ?_; (· exact ⟨_, rfl, rfl⟩); (· kernel_rfl)) | (with_reducible refine wpl_alloc_b ?_ ?_ _ zvUse ?_; (· rfl); (· rfl)) | (with_reducible refine wpl_store_b bUse wr.heap.size 0 (usc e.u e.la e.pa) ?_ ?_ (usc_len eS.out _ _) (Box.there b6.out (Nat.le_of_eq (usc_len zS_ok _ _).symm)) eN.out ?_; (· first | exact ⟨_, _, rfl, rfl, rfl⟩ | (refine ⟨_, _, rfl, ?_, ?_⟩ <;> simp [Act.eval, Act.put])); (· kernel_rfl)))
          refine (rfind_c X e.u.ua e.u.ub (E9.out.fc 5 rfl) (by omega) HFR.out).mono ?_
          rintro e w3 ⟨rfl, hb⟩
          have E10 : Hid (Env D w ((wr.heap.size, 44, usc e.u e.la e.pa) :: (w2.heap.size, 25, [.slice oa oX.length ok]) :: (w.heap.size + 1 + 1, 25, [.slice none 0 0]) :: (w.heap.size + 1, 25, [.slice (some ⟨yab, yao, none⟩) Y.length yk]) :: (w.heap.size, 25, [.slice xa X.length xk]) :: qs) [.gn (gRg yab (yao + k * 83) (usc e.u e.la e.pa)), .gn (gSp e.u.sp e.la e.pa), .gn (gPd qX), .gn (gUl (.slice oa oX.length ok) oX), .gn (gUl (.slice (some ⟨yab, yao, none⟩) Y.length yk) Y), .gn (gUl (.slice xa X.length xk) X)] w3) := Lib.hid (E9.out.below hb)
          clear c3_0 c4_0 r5 b6 c7_0 c8 c9 E7 E8 E9 hb
          have b10 := E10.out.bx 1 rfl
          have c10_0 := b10.cell 0 rfl
          clear b10
          have b11 := E10.out.bx 0 rfl
          have r11 := Lib.hid (b11.range (o := 0) (fun j hj => by rw [Nat.zero_add]))
          clear b11
          go_wp2_with (first | (with_reducible refine wpl_alloc_b ?_ ?_ _ zvUse ?_; (· rfl); (· rfl)) | (with_reducible refine wpl_load_b bUse wr.heap.size 0 ?_ ?_ (usc e.u e.la e.pa) (usc_len eS.out _ _) r11.out ?_; (· exact ⟨_, rfl, rfl⟩); (· kernel_rfl)))
          refine (insert_c oX e.u (E10.out.fc 3 rfl) (E10.out.fc 1 rfl) (by omega)).mono ?_
          rintro e w4 ⟨⟨va, vk, vX, rfl, v1, vH⟩, hb⟩
          have E11 : Hid (Env D w ((wr.heap.size, 44, usc e.u e.la e.pa) :: (w2.heap.size, 25, [.slice oa oX.length ok]) :: (w.heap.size + 1 + 1, 25, [.slice none 0 0]) :: (w.heap.size + 1, 25, [.slice (some ⟨yab, yao, none⟩) Y.length yk]) :: (w.heap.size, 25, [.slice xa X.length xk]) :: qs) [.gn (gUl (.slice va vX.length vk) vX), .gn (gRg yab (yao + k * 83) (usc e.u e.la e.pa)), .gn (gSp e.u.sp e.la e.pa), .gn (gPd qX), .gn (gUl (.slice oa oX.length ok) oX), .gn (gUl (.slice (some ⟨yab, yao, none⟩) Y.length yk) Y), .gn (gUl (.slice xa X.length xk) X)] w4) := Lib.hid (E10.out.got (E10.out.below hb) (.gn (gUl (.slice va vX.length vk) vX)) vH.out)
          clear c10_0 r11 E10 hb vH
          have vL := Lib.hid v1; clear v1
          have b12 := E11.out.bx 1 rfl
          have c12_0 := b12.cell 0 rfl
          have f12_0 := b12.frozen 0
          clear b12
          have HX2 : Hid (vX.map Uv.u = (mgN (X.map Uv.u) (Y.map Uv.u) (k + 1)).1) := Lib.hid (by rw [vL.out, mgN_new HU.out (by rw [HFE.out]; exact HFK.out), HX.out])
          have HQ2 : Hid (qX.map pus = (mgN (X.map Uv.u) (Y.map Uv.u) (k + 1)).2) := Lib.hid (by rw [mgN_new HU.out (by rw [HFE.out]; exact HFK.out)]; exact HQ.out)
          have E12 : Hid (Env D w ((wr.heap.size, 44, usc e.u e.la e.pa) :: (w2.heap.size, 25, [.slice va vX.length vk]) :: (w.heap.size + 1 + 1, 25, [.slice none 0 0]) :: (w.heap.size + 1, 25, [.slice (some ⟨yab, yao, none⟩) Y.length yk]) :: (w.heap.size, 25, [.slice xa X.length xk]) :: qs) [.gn (gUl (.slice va vX.length vk) vX), .gn (gRg yab (yao + k * 83) (usc e.u e.la e.pa)), .gn (gSp e.u.sp e.la e.pa), .gn (gPd qX), .gn (gUl (.slice oa oX.length ok) oX), .gn (gUl (.slice (some ⟨yab, yao, none⟩) Y.length yk) Y), .gn (gUl (.slice xa X.length xk) X)] _) := Lib.hid ((E11.out.set 1 0 (.slice va vX.length vk) rfl))
          have hZ := (E12.out.drop)
          have EZ : Hid (Env D w ((w2.heap.size, 25, [.slice va vX.length vk]) :: (w.heap.size + 1 + 1, 25, [.slice none 0 0]) :: (w.heap.size + 1, 25, [.slice (some ⟨yab, yao, none⟩) Y.length yk]) :: (w.heap.size, 25, [.slice xa X.length xk]) :: qs) [.gn (gPd qX), .gn (gUl (.slice va vX.length vk) vX), .gn (gUl (.slice (some ⟨yab, yao, none⟩) Y.length yk) Y), .gn (gUl (.slice xa X.length xk) X)] _) := Lib.hid ⟨hZ.bel, hZ.box, ⟨hZ.fc 3 rfl, ⟨hZ.fc 0 rfl, ⟨hZ.fc 5 rfl, ⟨hZ.fc 6 rfl, trivial⟩⟩⟩⟩⟩
          clear hZ
          go_wp2_with (first | (with_reducible refine wpl_alloc_b ?_ ?_ _ zvUse ?_; (· rfl); (· rfl)))
          go_roundg (Y.length - (k + 1))
          case rel => exact ⟨k + 1, va, vk, vX, qs, qc, _, _, qX, rfl, rfl, Lib.hid (EZ.out.cast (by simp)), qO, Lib.hid ⟨⟨by omega, rfl⟩, HX2.out, HQ2.out⟩⟩
          case measure => exact by omega
        | some y =>
          obtain ⟨i, hi⟩ : ∃ i, lb (X.map Uv.u) e.u.ua e.u.ub = i := ⟨_, rfl⟩
          have HI := Lib.hid hi
          have HFR : Hid (FindR (X.map Uv.u) e.u.ua e.u.ub (i : Int)) := Lib.hid (by rw [← hi]; exact findR_some HV.out.2.2 HFK.out)
          clear hi
          have HAT : Hid ((X.map Uv.u)[i]? = some y) := Lib.hid (by rw [← HI.out]; exact findK_at HV.out.2.2 HFK.out)
          have hii : i < X.length := by have h := (List.getElem?_eq_some_iff.1 HAT.out).1; rwa [List.length_map] at h
          have hiI : (i : Int) < (X.length : Int) := by omega
          have hi0 : decide ((i : Int) < 0) = false := decide_eq_false (by omega)
          have hi0b : (0 : Int) ≤ (i : Int) := by omega
          have E9 : Hid (Env D w ((wr.heap.size, 44, usc e.u e.la e.pa) :: (w2.heap.size, 25, [.slice oa oX.length ok]) :: (w.heap.size + 1 + 1, 25, [.slice none 0 0]) :: (w.heap.size + 1, 25, [.slice (some ⟨yab, yao, none⟩) Y.length yk]) :: (w.heap.size, 25, [.slice xa X.length xk]) :: qs) [.gn (gRg yab (yao + k * 83) (usc e.u e.la e.pa)), .gn (gSp e.u.sp e.la e.pa), .gn (gPd qX), .gn (gUl (.slice oa oX.length ok) oX), .gn (gUl (.slice (some ⟨yab, yao, none⟩) Y.length yk) Y), .gn (gUl (.slice xa X.length xk) X)] _) := Lib.hid ((E8.out.whole 0 (usc e.u e.la e.pa) rfl ((usc_len eS.out _ _).trans (usc_len zS_ok _ _).symm)))
          have b7 := E9.out.bx 4 rfl
          have c7_0 := b7.cell 0 rfl
          clear b7
          have b8 := E9.out.bx 0 rfl
          have c8 := b8.cell 0 rfl
          clear b8
          have b9 := E9.out.bx 0 rfl
          have c9 := b9.cell 1 rfl
          clear b9
          go_wp2_with (first | (with_reducible refine wpl_load_b bUse yab (yao + k * 83) ?_ ?_ (usc e.u e.la e.pa) (usc_len eS.out _ _) r5.out ?_; (· exact ⟨_, rfl, rfl⟩); (· kernel_rfl)) | (with_reducible refine wpl_alloc_b ?_ ?_ _ zvUse ?_; (· rfl); (· rfl)) | (with_reducible refine wpl_store_b bUse wr.heap.size 0 (usc e.u e.la e.pa) ?_ ?_ (usc_len eS.out _ _) (Box.there b6.out (Nat.le_of_eq (usc_len zS_ok _ _).symm)) eN.out ?_; (· first | exact ⟨_, _, rfl, rfl, rfl⟩ | (refine ⟨_, _, rfl, ?_, ?_⟩ <;> simp [Act.eval, Act.put])); (· kernel_rfl)))
          refine (rfind_c X e.u.ua e.u.ub (E9.out.fc 5 rfl) (by omega) HFR.out).mono ?_
          rintro e w3 ⟨rfl, hb⟩
          have E10 : Hid (Env D w ((wr.heap.size, 44, usc e.u e.la e.pa) :: (w2.heap.size, 25, [.slice oa oX.length ok]) :: (w.heap.size + 1 + 1, 25, [.slice none 0 0]) :: (w.heap.size + 1, 25, [.slice (some ⟨yab, yao, none⟩) Y.length yk]) :: (w.heap.size, 25, [.slice xa X.length xk]) :: qs) [.gn (gRg yab (yao + k * 83) (usc e.u e.la e.pa)), .gn (gSp e.u.sp e.la e.pa), .gn (gPd qX), .gn (gUl (.slice oa oX.length ok) oX), .gn (gUl (.slice (some ⟨yab, yao, none⟩) Y.length yk) Y), .gn (gUl (.slice xa X.length xk) X)] w3) := Lib.hid (E9.out.below hb)
          clear c3_0 c4_0 r5 b6 c7_0 c8 c9 E7 E8 E9 hb
          go_upto_region 12 with (first | (with_reducible refine wpl_alloc_b ?_ ?_ _ zvUse ?_; (· rfl); (· rfl)))
          obtain ⟨xab, xao, rfl⟩ := gUl.addr (E10.out.fc 5 rfl) (List.ne_nil_of_length_pos (Nat.lt_of_le_of_lt (Nat.zero_le _) hii))
          obtain ⟨p, pe⟩ : ∃ x, X[i] = x := ⟨_, rfl⟩
          have pE := Lib.hid pe
          clear pe
          have E11 : Hid (Env D w ((wr.heap.size, 44, usc e.u e.la e.pa) :: (w2.heap.size, 25, [.slice oa oX.length ok]) :: (w.heap.size + 1 + 1, 25, [.slice none 0 0]) :: (w.heap.size + 1, 25, [.slice (some ⟨yab, yao, none⟩) Y.length yk]) :: (w.heap.size, 25, [.slice (some ⟨xab, xao, none⟩) X.length xk]) :: qs) [.gn (gRg xab (xao + i * 83) (usc p.u p.la p.pa)), .gn (gSp p.u.sp p.la p.pa), .gn (gRg yab (yao + k * 83) (usc e.u e.la e.pa)), .gn (gSp e.u.sp e.la e.pa), .gn (gPd qX), .gn (gUl (.slice oa oX.length ok) oX), .gn (gUl (.slice (some ⟨yab, yao, none⟩) Y.length yk) Y), .gn (gUl (.slice (some ⟨xab, xao, none⟩) X.length xk) X)] _) := Lib.hid (E10.out.elU 5 rfl hii pE.out)
          clear E10
          have pS := Lib.hid (E11.out.spOk 1 rfl)
          have pN : Hid (∀ v ∈ usc p.u p.la p.pa, v.oneCell' = true) := Lib.hid (usc_one pS.out (Rw.oneV (E11.out.fc 1 rfl).2.1) (Rw.oneV (E11.out.fc 1 rfl).2.2))
          have HPY : Hid (p.u = y) := Lib.hid (by have h := map_get hii pE.out; rw [HAT.out] at h; exact (Option.some.inj h).symm)
          have HBP : Hid (p.u.sp.lv.length ≤ 1000000 ∧ p.u.sp.pa.length ≤ 1000000) := Lib.hid (hb.out p (by rw [← pE.out]; exact List.getElem_mem hii))
          obtain ⟨o, oh⟩ : ∃ b : Bool, b = true ↔ p.u.sp = e.u.sp := by by_cases h : p.u.sp = e.u.sp; (· exact ⟨true, ⟨fun _ => h, fun _ => rfl⟩⟩); exact ⟨false, ⟨fun h2 => Bool.noConfusion h2, fun h2 => absurd h2 h⟩⟩
          have oH := Lib.hid oh
          clear oh
          cases o with
          | true =>
            go_wp2_with (first | (with_reducible refine wpl_alloc_b ?_ ?_ _ zvUse ?_; (· rfl); (· rfl)))
            have E12 : Hid (Env D w ((wr.heap.size, 44, usc e.u e.la e.pa) :: (w2.heap.size, 25, [.slice oa oX.length ok]) :: (w.heap.size + 1 + 1, 25, [.slice none 0 0]) :: (w.heap.size + 1, 25, [.slice (some ⟨yab, yao, none⟩) Y.length yk]) :: (w.heap.size, 25, [.slice (some ⟨xab, xao, none⟩) X.length xk]) :: qs) [.gn (gRg xab (xao + i * 83) (usc p.u p.la p.pa)), .gn (gSp p.u.sp p.la p.pa), .gn (gRg yab (yao + k * 83) (usc e.u e.la e.pa)), .gn (gSp e.u.sp e.la e.pa), .gn (gPd qX), .gn (gUl (.slice oa oX.length ok) oX), .gn (gUl (.slice (some ⟨yab, yao, none⟩) Y.length yk) Y), .gn (gUl (.slice (some ⟨xab, xao, none⟩) X.length xk) X)] (w3.drew)) := Lib.hid E11.out.drew
            clear E11
            refine wp_regionU (S := fun w' => w'.cell? ⟨w.heap.size, 0, none⟩ = some (.slice (some ⟨xab, xao, none⟩) X.length xk) ∧ w'.rangeAt xab (xao + i * 83 + 2) (spc p.u.sp p.la p.pa) ∧ w'.rangeAt wr.heap.size 2 (spc e.u.sp e.la e.pa)) [] (by kernel_rfl) (⟨((E12.out.bx 4 rfl).cell 0 rfl), (gRg.sub (i := 2) (E12.out.fc 0 rfl).2 (usc_sp pS.out _ _)), ((E12.out.bx 0 rfl).range (o := 2) (usc_sp eS.out _ _))⟩) (fun hHeld => ?_)
            generalize w3.drew = w4 at *
            refine uTake (i := 0) (some 45) (v := ?_) rfl rfl (by kernel_rfl) (by kernel_rfl) (by kernel_rfl) (by kernel_rfl) (fun _ _ _ h => h) (by rfl) (by assumption) ?_ ?_
            rotate_left
            · (intro wS hSw; (try dsimp only at hSw); go_simp; try with_reducible rfl)
            try simp only [Act.put, List.setIfInBounds_toArray, List.set_cons_zero, List.set_cons_succ]
            refine uTake (i := 1) (some 46) (v := ?_) rfl rfl (by kernel_rfl) (by kernel_rfl) (by kernel_rfl) (by kernel_rfl) (fun _ _ _ h => h) (by rfl) (by assumption) ?_ ?_
            rotate_left
            · (intro wS hSw; (try dsimp only at hSw); go_simp; try with_reducible rfl)
            try simp only [Act.put, List.setIfInBounds_toArray, List.set_cons_zero, List.set_cons_succ]
            refine uTake (i := 2) (some 47) (v := ?_) rfl rfl (by kernel_rfl) (by kernel_rfl) (by kernel_rfl) (by kernel_rfl) (fun _ _ _ h => h) (by rfl) (by assumption) ?_ ?_
            rotate_left
            · (intro wS hSw; (try dsimp only at hSw); go_simp; try with_reducible rfl)
            try simp only [Act.put, List.setIfInBounds_toArray, List.set_cons_zero, List.set_cons_succ]
            refine uTake (i := 3) (some 48) (v := ?_) rfl rfl (by kernel_rfl) (by kernel_rfl) (by kernel_rfl) (by kernel_rfl) (fun _ _ _ h => h) (by rfl) (by assumption) ?_ ?_
            rotate_left
            · (intro wS hSw; (try dsimp only at hSw); go_simp; try with_reducible rfl)
            try simp only [Act.put, List.setIfInBounds_toArray, List.set_cons_zero, List.set_cons_succ]
            refine uTake (i := 4) (some 49) (v := ?_) rfl rfl (by kernel_rfl) (by kernel_rfl) (by kernel_rfl) (by kernel_rfl) (fun _ _ _ h => h) (by rfl) (by assumption) ?_ ?_
            rotate_left
            · (intro wS hSw; (try dsimp only at hSw); go_simp; try with_reducible rfl)
            try simp only [Act.put, List.setIfInBounds_toArray, List.set_cons_zero, List.set_cons_succ]
            refine uTake (i := 5) (some 50) (v := .agg (spc p.u.sp p.la p.pa).toArray) rfl rfl (by kernel_rfl) (by kernel_rfl) (by kernel_rfl) (by kernel_rfl) (fun _ _ _ h => h) (by rfl) (by assumption) ?_ ?_
            · (intro wS hSw; (try dsimp only at hSw); revert hSw; (try simp only [and_imp]); intros; exact exec_load_b bSpend _ rfl xab (xao + i * 83 + 2) rfl (spc p.u.sp p.la p.pa) (spc_len pS.out _ _) (by assumption))
            try simp only [Act.put, List.setIfInBounds_toArray, List.set_cons_zero, List.set_cons_succ]
            refine uTake (i := 6) (some 51) (v := ?_) rfl rfl (by kernel_rfl) (by kernel_rfl) (by kernel_rfl) (by kernel_rfl) (fun _ _ _ h => h) (by rfl) (by assumption) ?_ ?_
            rotate_left
            · (intro wS hSw; (try dsimp only at hSw); go_simp; try with_reducible rfl)
            try simp only [Act.put, List.setIfInBounds_toArray, List.set_cons_zero, List.set_cons_succ]
            refine uTake (i := 7) (some 52) (v := .agg (spc e.u.sp e.la e.pa).toArray) rfl rfl (by kernel_rfl) (by kernel_rfl) (by kernel_rfl) (by kernel_rfl) (fun _ _ _ h => h) (by rfl) (by assumption) ?_ ?_
            · (intro wS hSw; (try dsimp only at hSw); revert hSw; (try simp only [and_imp]); intros; exact exec_load_b bSpend _ rfl wr.heap.size 2 rfl (spc e.u.sp e.la e.pa) (spc_len eS.out _ _) (by assumption))
            try simp only [Act.put, List.setIfInBounds_toArray, List.set_cons_zero, List.set_cons_succ]
            refine uReady (rs := [8]) (by kernel_rfl) (by simp) ?_
            refine ReadyU.cons rfl (fun KK hKK => ?_) ReadyU.nil
            go_simp
            refine (same32_c p.u.sp e.u.sp (E12.out.fc 1 rfl) (E12.out.fc 3 rfl) HBP.out HBE.out (r := true) (by first | exact oH.out | simpa using oH.out)).mono ?_
            rintro e w5 ⟨rfl, hb⟩
            have E13 : Hid (Env D w ((wr.heap.size, 44, usc e.u e.la e.pa) :: (w2.heap.size, 25, [.slice oa oX.length ok]) :: (w.heap.size + 1 + 1, 25, [.slice none 0 0]) :: (w.heap.size + 1, 25, [.slice (some ⟨yab, yao, none⟩) Y.length yk]) :: (w.heap.size, 25, [.slice (some ⟨xab, xao, none⟩) X.length xk]) :: qs) [.gn (gRg xab (xao + i * 83) (usc p.u p.la p.pa)), .gn (gSp p.u.sp p.la p.pa), .gn (gRg yab (yao + k * 83) (usc e.u e.la e.pa)), .gn (gSp e.u.sp e.la e.pa), .gn (gPd qX), .gn (gUl (.slice oa oX.length ok) oX), .gn (gUl (.slice (some ⟨yab, yao, none⟩) Y.length yk) Y), .gn (gUl (.slice (some ⟨xab, xao, none⟩) X.length xk) X)] w5) := Lib.hid (E12.out.below hb)
            clear E12 hb
            (try dsimp only)
            clear hHeld
            refine hKK.out _ _ (⟨((E13.out.bx 4 rfl).cell 0 rfl), (gRg.sub (i := 2) (E13.out.fc 0 rfl).2 (usc_sp pS.out _ _)), ((E13.out.bx 0 rfl).range (o := 2) (usc_sp eS.out _ _))⟩) (fun hHeld => ?_)
            clear hKK KK
            try simp only [Act.put, List.setIfInBounds_toArray, List.set_cons_zero, List.set_cons_succ]
            refine uTake (i := 9) (some 54) (v := ?_) rfl rfl (by kernel_rfl) (by kernel_rfl) (by kernel_rfl) (by kernel_rfl) (fun _ _ _ h => h) (by rfl) (by assumption) ?_ ?_
            rotate_left
            · (intro wS hSw; (try dsimp only at hSw); go_simp; try with_reducible rfl)
            try simp only [Act.put, List.setIfInBounds_toArray, List.set_cons_zero, List.set_cons_succ]
            refine uDone (by kernel_rfl) ?_ _
            have HSM : Hid (mgN (X.map Uv.u) (Y.map Uv.u) (k + 1) = mgN (X.map Uv.u) (Y.map Uv.u) k) := Lib.hid (mgN_same HU.out (by rw [HFE.out]; exact HFK.out) (by rw [← HPY.out]; exact oH.out.1 (by simp)))
            have hZ := (E13.out.drop)
            have EZ : Hid (Env D w ((w2.heap.size, 25, [.slice oa oX.length ok]) :: (w.heap.size + 1 + 1, 25, [.slice none 0 0]) :: (w.heap.size + 1, 25, [.slice (some ⟨yab, yao, none⟩) Y.length yk]) :: (w.heap.size, 25, [.slice (some ⟨xab, xao, none⟩) X.length xk]) :: qs) [.gn (gPd qX), .gn (gUl (.slice oa oX.length ok) oX), .gn (gUl (.slice (some ⟨yab, yao, none⟩) Y.length yk) Y), .gn (gUl (.slice (some ⟨xab, xao, none⟩) X.length xk) X)] _) := Lib.hid ⟨hZ.bel, hZ.box, ⟨hZ.fc 4 rfl, ⟨hZ.fc 5 rfl, ⟨hZ.fc 6 rfl, ⟨hZ.fc 7 rfl, trivial⟩⟩⟩⟩⟩
            clear hZ
            go_wp2_with (first | (with_reducible refine wpl_alloc_b ?_ ?_ _ zvUse ?_; (· rfl); (· rfl)))
            go_roundg (Y.length - (k + 1))
            case rel => exact ⟨k + 1, oa, ok, oX, qs, qc, _, _, qX, rfl, rfl, Lib.hid (EZ.out.cast (by simp)), qO, Lib.hid ⟨⟨by omega, rfl⟩, by rw [HSM.out]; exact HX.out, by rw [HSM.out]; exact HQ.out⟩⟩
            case measure => exact by omega
          | false =>
            go_wp2_with (first | (with_reducible refine wpl_alloc_b ?_ ?_ _ zvUse ?_; (· rfl); (· rfl)))
            have E12 : Hid (Env D w ((wr.heap.size, 44, usc e.u e.la e.pa) :: (w2.heap.size, 25, [.slice oa oX.length ok]) :: (w.heap.size + 1 + 1, 25, [.slice none 0 0]) :: (w.heap.size + 1, 25, [.slice (some ⟨yab, yao, none⟩) Y.length yk]) :: (w.heap.size, 25, [.slice (some ⟨xab, xao, none⟩) X.length xk]) :: qs) [.gn (gRg xab (xao + i * 83) (usc p.u p.la p.pa)), .gn (gSp p.u.sp p.la p.pa), .gn (gRg yab (yao + k * 83) (usc e.u e.la e.pa)), .gn (gSp e.u.sp e.la e.pa), .gn (gPd qX), .gn (gUl (.slice oa oX.length ok) oX), .gn (gUl (.slice (some ⟨yab, yao, none⟩) Y.length yk) Y), .gn (gUl (.slice (some ⟨xab, xao, none⟩) X.length xk) X)] (w3.drew)) := Lib.hid E11.out.drew
            clear E11
            refine wp_regionU (S := fun w' => w'.cell? ⟨w.heap.size, 0, none⟩ = some (.slice (some ⟨xab, xao, none⟩) X.length xk) ∧ w'.rangeAt xab (xao + i * 83 + 2) (spc p.u.sp p.la p.pa) ∧ w'.rangeAt wr.heap.size 2 (spc e.u.sp e.la e.pa)) [] (by kernel_rfl) (⟨((E12.out.bx 4 rfl).cell 0 rfl), (gRg.sub (i := 2) (E12.out.fc 0 rfl).2 (usc_sp pS.out _ _)), ((E12.out.bx 0 rfl).range (o := 2) (usc_sp eS.out _ _))⟩) (fun hHeld => ?_)
            generalize w3.drew = w4 at *
            refine uTake (i := 0) (some 45) (v := ?_) rfl rfl (by kernel_rfl) (by kernel_rfl) (by kernel_rfl) (by kernel_rfl) (fun _ _ _ h => h) (by rfl) (by assumption) ?_ ?_
            rotate_left
            · (intro wS hSw; (try dsimp only at hSw); go_simp; try with_reducible rfl)
            try simp only [Act.put, List.setIfInBounds_toArray, List.set_cons_zero, List.set_cons_succ]
            refine uTake (i := 1) (some 46) (v := ?_) rfl rfl (by kernel_rfl) (by kernel_rfl) (by kernel_rfl) (by kernel_rfl) (fun _ _ _ h => h) (by rfl) (by assumption) ?_ ?_
            rotate_left
            · (intro wS hSw; (try dsimp only at hSw); go_simp; try with_reducible rfl)
            try simp only [Act.put, List.setIfInBounds_toArray, List.set_cons_zero, List.set_cons_succ]
            refine uTake (i := 2) (some 47) (v := ?_) rfl rfl (by kernel_rfl) (by kernel_rfl) (by kernel_rfl) (by kernel_rfl) (fun _ _ _ h => h) (by rfl) (by assumption) ?_ ?_
            rotate_left
            · (intro wS hSw; (try dsimp only at hSw); go_simp; try with_reducible rfl)
            try simp only [Act.put, List.setIfInBounds_toArray, List.set_cons_zero, List.set_cons_succ]
            refine uTake (i := 3) (some 48) (v := ?_) rfl rfl (by kernel_rfl) (by kernel_rfl) (by kernel_rfl) (by kernel_rfl) (fun _ _ _ h => h) (by rfl) (by assumption) ?_ ?_
            rotate_left
            · (intro wS hSw; (try dsimp only at hSw); go_simp; try with_reducible rfl)
            try simp only [Act.put, List.setIfInBounds_toArray, List.set_cons_zero, List.set_cons_succ]
            refine uTake (i := 4) (some 49) (v := ?_) rfl rfl (by kernel_rfl) (by kernel_rfl) (by kernel_rfl) (by kernel_rfl) (fun _ _ _ h => h) (by rfl) (by assumption) ?_ ?_
            rotate_left
            · (intro wS hSw; (try dsimp only at hSw); go_simp; try with_reducible rfl)
            try simp only [Act.put, List.setIfInBounds_toArray, List.set_cons_zero, List.set_cons_succ]
            refine uTake (i := 5) (some 50) (v := .agg (spc p.u.sp p.la p.pa).toArray) rfl rfl (by kernel_rfl) (by kernel_rfl) (by kernel_rfl) (by kernel_rfl) (fun _ _ _ h => h) (by rfl) (by assumption) ?_ ?_
            · (intro wS hSw; (try dsimp only at hSw); revert hSw; (try simp only [and_imp]); intros; exact exec_load_b bSpend _ rfl xab (xao + i * 83 + 2) rfl (spc p.u.sp p.la p.pa) (spc_len pS.out _ _) (by assumption))
            try simp only [Act.put, List.setIfInBounds_toArray, List.set_cons_zero, List.set_cons_succ]
            refine uTake (i := 6) (some 51) (v := ?_) rfl rfl (by kernel_rfl) (by kernel_rfl) (by kernel_rfl) (by kernel_rfl) (fun _ _ _ h => h) (by rfl) (by assumption) ?_ ?_
            rotate_left
            · (intro wS hSw; (try dsimp only at hSw); go_simp; try with_reducible rfl)
            try simp only [Act.put, List.setIfInBounds_toArray, List.set_cons_zero, List.set_cons_succ]
            refine uTake (i := 7) (some 52) (v := .agg (spc e.u.sp e.la e.pa).toArray) rfl rfl (by kernel_rfl) (by kernel_rfl) (by kernel_rfl) (by kernel_rfl) (fun _ _ _ h => h) (by rfl) (by assumption) ?_ ?_
            · (intro wS hSw; (try dsimp only at hSw); revert hSw; (try simp only [and_imp]); intros; exact exec_load_b bSpend _ rfl wr.heap.size 2 rfl (spc e.u.sp e.la e.pa) (spc_len eS.out _ _) (by assumption))
            try simp only [Act.put, List.setIfInBounds_toArray, List.set_cons_zero, List.set_cons_succ]
            refine uReady (rs := [8]) (by kernel_rfl) (by simp) ?_
            refine ReadyU.cons rfl (fun KK hKK => ?_) ReadyU.nil
            go_simp
            refine (same32_c p.u.sp e.u.sp (E12.out.fc 1 rfl) (E12.out.fc 3 rfl) HBP.out HBE.out (r := false) (by first | exact oH.out | simpa using oH.out)).mono ?_
            rintro e w5 ⟨rfl, hb⟩
            have E13 : Hid (Env D w ((wr.heap.size, 44, usc e.u e.la e.pa) :: (w2.heap.size, 25, [.slice oa oX.length ok]) :: (w.heap.size + 1 + 1, 25, [.slice none 0 0]) :: (w.heap.size + 1, 25, [.slice (some ⟨yab, yao, none⟩) Y.length yk]) :: (w.heap.size, 25, [.slice (some ⟨xab, xao, none⟩) X.length xk]) :: qs) [.gn (gRg xab (xao + i * 83) (usc p.u p.la p.pa)), .gn (gSp p.u.sp p.la p.pa), .gn (gRg yab (yao + k * 83) (usc e.u e.la e.pa)), .gn (gSp e.u.sp e.la e.pa), .gn (gPd qX), .gn (gUl (.slice oa oX.length ok) oX), .gn (gUl (.slice (some ⟨yab, yao, none⟩) Y.length yk) Y), .gn (gUl (.slice (some ⟨xab, xao, none⟩) X.length xk) X)] w5) := Lib.hid (E12.out.below hb)
            clear E12 hb
            (try dsimp only)
            clear hHeld
            refine hKK.out _ _ (⟨((E13.out.bx 4 rfl).cell 0 rfl), (gRg.sub (i := 2) (E13.out.fc 0 rfl).2 (usc_sp pS.out _ _)), ((E13.out.bx 0 rfl).range (o := 2) (usc_sp eS.out _ _))⟩) (fun hHeld => ?_)
            clear hKK KK
            try simp only [Act.put, List.setIfInBounds_toArray, List.set_cons_zero, List.set_cons_succ]
            refine uTake (i := 9) (some 54) (v := ?_) rfl rfl (by kernel_rfl) (by kernel_rfl) (by kernel_rfl) (by kernel_rfl) (fun _ _ _ h => h) (by rfl) (by assumption) ?_ ?_
            rotate_left
            · (intro wS hSw; (try dsimp only at hSw); go_simp; try with_reducible rfl)
            try simp only [Act.put, List.setIfInBounds_toArray, List.set_cons_zero, List.set_cons_succ]
            refine uDone (by kernel_rfl) ?_ _
            have HNE : Hid (¬ y.sp = e.u.sp) := Lib.hid (by rw [← HPY.out]; exact fun h => Bool.noConfusion (oH.out.2 h))
            have HQL : Hid (qX.length + 1 ≤ 1000000) := Lib.hid (by omega)
            go_upto_region 13 with (first | (with_reducible refine wpl_alloc_b ?_ ?_ _ zvUse ?_; (· rfl); (· rfl)))
            have PLN : Hid ((usc p.u p.la p.pa ++ usc e.u e.la e.pa).length = 166) := Lib.hid (by rw [List.length_append, usc_len pS.out, usc_len eS.out])
            have PON : Hid (∀ v ∈ usc p.u p.la p.pa ++ usc e.u e.la e.pa, v.oneCell' = true) := Lib.hid (fun v hv => (List.mem_append.1 hv).elim (pN.out v) (eN.out v))
            go_wp2_with (first | (with_reducible refine wpl_alloc_b ?_ ?_ _ zvUse ?_; (· rfl); (· rfl)))
            have E14 : Hid (Env D w ((wr.heap.size, 44, usc e.u e.la e.pa) :: (w2.heap.size, 25, [.slice oa oX.length ok]) :: (w.heap.size + 1 + 1, 25, [.slice none 0 0]) :: (w.heap.size + 1, 25, [.slice (some ⟨yab, yao, none⟩) Y.length yk]) :: (w.heap.size, 25, [.slice (some ⟨xab, xao, none⟩) X.length xk]) :: qs) [.gn (gRg xab (xao + i * 83) (usc p.u p.la p.pa)), .gn (gSp p.u.sp p.la p.pa), .gn (gRg yab (yao + k * 83) (usc e.u e.la e.pa)), .gn (gSp e.u.sp e.la e.pa), .gn (gPd qX), .gn (gUl (.slice oa oX.length ok) oX), .gn (gUl (.slice (some ⟨yab, yao, none⟩) Y.length yk) Y), .gn (gUl (.slice (some ⟨xab, xao, none⟩) X.length xk) X)] (w5.drew)) := Lib.hid E13.out.drew
            clear E13
            refine wp_regionU (S := fun w' => w'.cell? ⟨w.heap.size, 0, none⟩ = some (.slice (some ⟨xab, xao, none⟩) X.length xk) ∧ w'.rangeAt xab (xao + i * 83) (usc p.u p.la p.pa) ∧ w'.rangeAt wr.heap.size 0 (usc e.u e.la e.pa)) [] (by kernel_rfl) (⟨((E14.out.bx 4 rfl).cell 0 rfl), (E14.out.fc 0 rfl).2, ((E14.out.bx 0 rfl).range (o := 0) (fun j hj => by rw [Nat.zero_add]))⟩) (fun hHeld => ?_)
            generalize w5.drew = w6 at *
            refine uTake (i := 0) (some 55) (v := ?_) rfl rfl (by kernel_rfl) (by kernel_rfl) (by kernel_rfl) (by kernel_rfl) (fun _ _ _ h => h) (by rfl) (by assumption) ?_ ?_
            rotate_left
            · (intro wS hSw; (try dsimp only at hSw); go_simp; try with_reducible rfl)
            try simp only [Act.put, List.setIfInBounds_toArray, List.set_cons_zero, List.set_cons_succ]
            refine uTake (i := 1) (some 56) (v := ?_) rfl rfl (by kernel_rfl) (by kernel_rfl) (by kernel_rfl) (by kernel_rfl) (fun _ _ _ h => h) (by rfl) (by assumption) ?_ ?_
            rotate_left
            · (intro wS hSw; (try dsimp only at hSw); go_simp; try with_reducible rfl)
            try simp only [Act.put, List.setIfInBounds_toArray, List.set_cons_zero, List.set_cons_succ]
            refine uTake (i := 2) (some 57) (v := ?_) rfl rfl (by kernel_rfl) (by kernel_rfl) (by kernel_rfl) (by kernel_rfl) (fun _ _ _ h => h) (by rfl) (by assumption) ?_ ?_
            rotate_left
            · (intro wS hSw; (try dsimp only at hSw); go_simp; try with_reducible rfl)
            try simp only [Act.put, List.setIfInBounds_toArray, List.set_cons_zero, List.set_cons_succ]
            refine uTake (i := 3) (some 58) (v := ?_) rfl rfl (by kernel_rfl) (by kernel_rfl) (by kernel_rfl) (by kernel_rfl) (fun _ _ _ h => h) (by rfl) (by assumption) ?_ ?_
            rotate_left
            · (intro wS hSw; (try dsimp only at hSw); go_simp; try with_reducible rfl)
            try simp only [Act.put, List.setIfInBounds_toArray, List.set_cons_zero, List.set_cons_succ]
            refine uTake (i := 4) (some 59) (v := ?_) rfl rfl (by kernel_rfl) (by kernel_rfl) (by kernel_rfl) (by kernel_rfl) (fun _ _ _ h => h) (by rfl) (by assumption) ?_ ?_
            rotate_left
            · (intro wS hSw; (try dsimp only at hSw); go_simp; try with_reducible rfl)
            try simp only [Act.put, List.setIfInBounds_toArray, List.set_cons_zero, List.set_cons_succ]
            refine uTake (i := 5) (some 60) (v := .agg (usc p.u p.la p.pa).toArray) rfl rfl (by kernel_rfl) (by kernel_rfl) (by kernel_rfl) (by kernel_rfl) (fun _ _ _ h => h) (by rfl) (by assumption) ?_ ?_
            · (intro wS hSw; (try dsimp only at hSw); revert hSw; (try simp only [and_imp]); intros; exact exec_load_b bUse _ rfl xab (xao + i * 83) rfl (usc p.u p.la p.pa) (usc_len pS.out _ _) (by assumption))
            try simp only [Act.put, List.setIfInBounds_toArray, List.set_cons_zero, List.set_cons_succ]
            refine uTake (i := 6) (some 61) (v := .agg (usc e.u e.la e.pa).toArray) rfl rfl (by kernel_rfl) (by kernel_rfl) (by kernel_rfl) (by kernel_rfl) (fun _ _ _ h => h) (by rfl) (by assumption) ?_ ?_
            · (intro wS hSw; (try dsimp only at hSw); revert hSw; (try simp only [and_imp]); intros; exact exec_load_b bUse _ rfl wr.heap.size 0 rfl (usc e.u e.la e.pa) (usc_len eS.out _ _) (by assumption))
            try simp only [Act.put, List.setIfInBounds_toArray, List.set_cons_zero, List.set_cons_succ]
            refine uTake (i := 7) (some 62) (v := .agg (usc p.u p.la p.pa ++ usc e.u e.la e.pa).toArray) rfl rfl (by kernel_rfl) (by kernel_rfl) (by kernel_rfl) (by kernel_rfl) (fun _ _ _ h => h) (by rfl) (by assumption) ?_ ?_
            · (intro wS hSw; (try dsimp only at hSw); exact exec_pair (usc_len pS.out _ _) (usc_len eS.out _ _) ⟨_, _, rfl, rfl, rfl⟩)
            try simp only [Act.put, List.setIfInBounds_toArray, List.set_cons_zero, List.set_cons_succ]
            refine uReady (rs := [8]) (by kernel_rfl) (by simp) ?_
            refine ReadyU.cons rfl (fun KK hKK => ?_) ReadyU.nil
            refine op_slice1p (some 63) rfl rfl (.tmp 62) rfl (usc p.u p.la p.pa ++ usc e.u e.la e.pa) PLN.out (by simp [Act.eval, Act.put]; done) ?_
            have E15 : Hid (Env D w ((w6.heap.size, 78, usc p.u p.la p.pa ++ usc e.u e.la e.pa) :: (wr.heap.size, 44, usc e.u e.la e.pa) :: (w2.heap.size, 25, [.slice oa oX.length ok]) :: (w.heap.size + 1 + 1, 25, [.slice none 0 0]) :: (w.heap.size + 1, 25, [.slice (some ⟨yab, yao, none⟩) Y.length yk]) :: (w.heap.size, 25, [.slice (some ⟨xab, xao, none⟩) X.length xk]) :: qs) [.gn (gRg xab (xao + i * 83) (usc p.u p.la p.pa)), .gn (gSp p.u.sp p.la p.pa), .gn (gRg yab (yao + k * 83) (usc e.u e.la e.pa)), .gn (gSp e.u.sp e.la e.pa), .gn (gPd qX), .gn (gUl (.slice oa oX.length ok) oX), .gn (gUl (.slice (some ⟨yab, yao, none⟩) Y.length yk) Y), .gn (gUl (.slice (some ⟨xab, xao, none⟩) X.length xk) X)] _) := Lib.hid ((E14.out.push 78 (usc p.u p.la p.pa ++ usc e.u e.la e.pa) (w6.heap.size) (by simp)))
            (try dsimp only)
            clear hHeld
            refine hKK.out _ _ (⟨((E15.out.bx 5 rfl).cell 0 rfl), (E15.out.fc 0 rfl).2, ((E15.out.bx 1 rfl).range (o := 0) (fun j hj => by rw [Nat.zero_add]))⟩) (fun hHeld => ?_)
            clear hKK KK
            try simp only [Act.put, List.setIfInBounds_toArray, List.set_cons_zero, List.set_cons_succ]
            clear E14
            generalize w6.alloc (.cells (usc p.u p.la p.pa ++ usc e.u e.la e.pa).toArray 78) = w7 at *
            refine uReady (rs := [9]) (by kernel_rfl) (by simp) ?_
            refine ReadyU.cons rfl (fun KK hKK => ?_) ReadyU.nil
            refine op_app1 (c := 1) tiPair (some 64) rfl rfl (.tmp 55) (.tmp 63) rfl E15.out (A := [(w6.heap.size, 78, usc p.u p.la p.pa ++ usc e.u e.la e.pa), (wr.heap.size, 44, usc e.u e.la e.pa), (w2.heap.size, 25, [.slice oa oX.length ok]), (w.heap.size + 1 + 1, 25, [.slice none 0 0]), (w.heap.size + 1, 25, [.slice (some ⟨yab, yao, none⟩) Y.length yk]), (w.heap.size, 25, [.slice (some ⟨xab, xao, none⟩) X.length xk])]) (sg := qs) (B' := []) (F := ((w6.heap.size, 78, usc p.u p.la p.pa ++ usc e.u e.la e.pa) :: (wr.heap.size, 44, usc e.u e.la e.pa) :: (w2.heap.size, 25, [.slice oa oX.length ok]) :: (w.heap.size + 1 + 1, 25, [.slice none 0 0]) :: (w.heap.size + 1, 25, [.slice (some ⟨yab, yao, none⟩) Y.length yk]) :: (w.heap.size, 25, [.slice (some ⟨xab, xao, none⟩) X.length xk]) :: qs)) (by simp) (qO.out.os rfl) (by simp [Act.eval, Act.put]) (by simp [Act.eval, Act.put]; done) (SrcN.box (m := 1) (E15.out.bx 0 rfl) PLN.out PON.out) HQL.out ?_
            intro zg zp zc w8 zH zT zE
            have zO := Lib.hid (OP.app (x := (Uv.mk p.u p.la p.pa, Uv.mk e.u e.la e.pa)) (g' := zg) (cs' := zc) (cap' := zp) qO.out rfl zH.out zT.out)
            have E16 : Hid (Env D w ((w6.heap.size, 78, usc p.u p.la p.pa ++ usc e.u e.la e.pa) :: (wr.heap.size, 44, usc e.u e.la e.pa) :: (w2.heap.size, 25, [.slice oa oX.length ok]) :: (w.heap.size + 1 + 1, 25, [.slice none 0 0]) :: (w.heap.size + 1, 25, [.slice (some ⟨yab, yao, none⟩) Y.length yk]) :: (w.heap.size, 25, [.slice (some ⟨xab, xao, none⟩) X.length xk]) :: [(zg, 78, zc)]) [.gn (gPd (qX ++ [(Uv.mk p.u p.la p.pa, Uv.mk e.u e.la e.pa)])), .gn (gRg xab (xao + i * 83) (usc p.u p.la p.pa)), .gn (gSp p.u.sp p.la p.pa), .gn (gRg yab (yao + k * 83) (usc e.u e.la e.pa)), .gn (gSp e.u.sp e.la e.pa), .gn (gPd qX), .gn (gUl (.slice oa oX.length ok) oX), .gn (gUl (.slice (some ⟨yab, yao, none⟩) Y.length yk) Y), .gn (gUl (.slice (some ⟨xab, xao, none⟩) X.length xk) X)] w8) := Lib.hid ((zE.out.note (.gn (gPd (qX ++ [(Uv.mk p.u p.la p.pa, Uv.mk e.u e.la e.pa)]))) (gPd.app (p := (Uv.mk p.u p.la p.pa, Uv.mk e.u e.la e.pa)) (zE.out.fc 4 rfl) (zE.out.fc 1 rfl) (zE.out.fc 3 rfl))).cast (by simp))
            clear E15 zE zH zT qO
            (try dsimp only)
            clear hHeld
            refine hKK.out _ _ (⟨((E16.out.bx 5 rfl).cell 0 rfl), (E16.out.fc 1 rfl).2, ((E16.out.bx 1 rfl).range (o := 0) (fun j hj => by rw [Nat.zero_add]))⟩) (fun hHeld => ?_)
            clear hKK KK
            try simp only [Act.put, List.setIfInBounds_toArray, List.set_cons_zero, List.set_cons_succ]
            refine uTake (i := 10) (some 7) (v := ?_) rfl rfl (by kernel_rfl) (by kernel_rfl) (by kernel_rfl) (by kernel_rfl) (fun _ _ _ h => h) (by rfl) (by assumption) ?_ ?_
            rotate_left
            · (intro wS hSw; (try dsimp only at hSw); go_simp; try with_reducible rfl)
            try simp only [Act.put, List.setIfInBounds_toArray, List.set_cons_zero, List.set_cons_succ]
            refine uDone (by kernel_rfl) ?_ _
            have HSM : Hid (mgN (X.map Uv.u) (Y.map Uv.u) (k + 1) = ((mgN (X.map Uv.u) (Y.map Uv.u) k).1, (mgN (X.map Uv.u) (Y.map Uv.u) k).2 ++ [(y, e.u)])) := Lib.hid (mgN_diff HU.out (by rw [HFE.out]; exact HFK.out) HNE.out)
            have HX2 : Hid (oX.map Uv.u = (mgN (X.map Uv.u) (Y.map Uv.u) (k + 1)).1) := Lib.hid (by rw [HSM.out]; exact HX.out)
            have HQ2 : Hid ((qX ++ [(Uv.mk p.u p.la p.pa, Uv.mk e.u e.la e.pa)]).map pus = (mgN (X.map Uv.u) (Y.map Uv.u) (k + 1)).2) := Lib.hid (by rw [HSM.out, List.map_append, HQ.out, ← HPY.out]; rfl)
            have hZ := ((E16.out.drop).drop)
            have EZ : Hid (Env D w ((w2.heap.size, 25, [.slice oa oX.length ok]) :: (w.heap.size + 1 + 1, 25, [.slice none 0 0]) :: (w.heap.size + 1, 25, [.slice (some ⟨yab, yao, none⟩) Y.length yk]) :: (w.heap.size, 25, [.slice (some ⟨xab, xao, none⟩) X.length xk]) :: [(zg, 78, zc)]) [.gn (gPd (qX ++ [(Uv.mk p.u p.la p.pa, Uv.mk e.u e.la e.pa)])), .gn (gUl (.slice oa oX.length ok) oX), .gn (gUl (.slice (some ⟨yab, yao, none⟩) Y.length yk) Y), .gn (gUl (.slice (some ⟨xab, xao, none⟩) X.length xk) X)] _) := Lib.hid ⟨hZ.bel, hZ.box, ⟨hZ.fc 0 rfl, ⟨hZ.fc 6 rfl, ⟨hZ.fc 7 rfl, ⟨hZ.fc 8 rfl, trivial⟩⟩⟩⟩⟩
            clear hZ
            go_wp2_with (first | (with_reducible refine wpl_alloc_b ?_ ?_ _ zvUse ?_; (· rfl); (· rfl)))
            go_roundg (Y.length - (k + 1))
            case rel => exact ⟨k + 1, oa, ok, oX, [(zg, 78, zc)], zc, (some ⟨zg, 0, none⟩), zp, qX ++ [(Uv.mk p.u p.la p.pa, Uv.mk e.u e.la e.pa)], rfl, (OP.val rfl), Lib.hid (EZ.out.cast (by simp)), (OP.len' zO), Lib.hid ⟨⟨by omega, rfl⟩, HX2.out, HQ2.out⟩⟩
            case measure => exact by omega
end Go.Proofs.Ytfnnfmefihiefaa

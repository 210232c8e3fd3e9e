/- which tables are valid. -/
import Derived.Test.YtfnnfmefihiefaaSpO
namespace Go.Proofs.Ytfnnfmefihiefaa
open Go.RowKit
set_option linter.unusedVariables false
set_option linter.unusedSimpArgs false
set_option maxRecDepth 100000 in
set_option maxHeartbeats 8000000 in
theorem rvalid_c {D : Nat → Prop} (X : List Uv) {xa : Option Addr} {xk : Nat} {w : World} (hx : Fct.at w D (.gn (gUl (.slice xa X.length xk) X))) (hb0 : ∀ x ∈ X, x.u.sp.lv.length ≤ 1000000 ∧ x.u.sp.pa.length ≤ 1000000) {t : Bool} (ht0 : t = true ↔ ValidT (X.map Uv.u)) (hm0 : X.length ≤ 1000000) :
    Calls Try.prog 14 #[.agg #[.slice xa X.length xk]] w fun e w' => e = .returned (.bool t) ∧ Below w.heap.size w w' := by
  have E0 : Hid (Env D w [] [.gn (gUl (.slice xa X.length xk) X)] w) := Lib.hid ((Env.start D w).arg (.gn (gUl (.slice xa X.length xk) X)) hx)
  clear hx
  go_enter Try.func14, Try.ntmps14
  have hb := Lib.hid hb0
  have ht := Lib.hid ht0
  have hm := Lib.hid hm0
  clear hb0 ht0 hm0
  have hm9 := hm.out
  by_cases q1 : 2000 < X.length
  · have d1 : decide ((2000 : Int) < (X.length : Int)) = true := decide_eq_true (by omega)
    have d1b : decide (2000 < X.length) = true := decide_eq_true (by omega)
    have HT : Hid (t = false) := Lib.hid (by cases t; (· rfl); exfalso; have h := (ht.out.1 rfl).1; rw [List.length_map] at h; omega)
    have E1 : Hid (Env D w [(w.heap.size, 25, [.slice xa X.length xk])] [.gn (gUl (.slice xa X.length xk) X)] _) := Lib.hid ((E0.out.push 25 [.slice xa X.length xk] (w.heap.size) (by simp)))
    have hfin := Lib.hid E1.out.bel
    go_wp2
    go_ret
    exact ⟨RetEqB HT.out.symm, hfin.out⟩
  have d1 : decide ((2000 : Int) < (X.length : Int)) = false := decide_eq_false (by omega)
  have d1b : decide (2000 < X.length) = false := decide_eq_false (by omega)
  have QQ := Lib.hid q1
  clear q1
  go_wp2_with fail
  have E1 : Hid (Env D w [(w.heap.size, 25, [.slice xa X.length xk])] [.gn (gUl (.slice xa X.length xk) X)] _) := Lib.hid ((E0.out.push 25 [.slice xa X.length xk] (w.heap.size) (by simp)))
  go_loopg [3] (X.length) (fun gk s3 wr => ∃ (n : Nat), s3 = .int .i64 (n : Int) ∧ Hid (Env D w [(w.heap.size, 25, [.slice xa X.length xk])] [.gn (gUl (.slice xa X.length xk) X)] wr) ∧ Hid ((n ≤ X.length ∧ gk = X.length - n) ∧ ValidTo (X.map Uv.u) n))
  case atStart => exact ⟨0, rfl, Lib.hid E1.out, Lib.hid ⟨⟨Nat.zero_le _, rfl⟩, ValidTo.zero _⟩⟩
  case round =>
    clear E0 E1 d1 d1b
    obtain ⟨n, rfl, EL, HA⟩ := hrel
    obtain ⟨⟨a1, a2⟩, a3⟩ := HA.out
    have HV := Lib.hid a3
    clear a3 HA
    by_cases hy : n = X.length
    · skip
      have t6 : decide ((n : Int) < (X.length : Int)) = false := decide_eq_false (by omega)
      have t7 : decide (n < X.length) = false := decide_eq_false (by omega)
      have HT : Hid (t = true) := Lib.hid (ht.out.2 (ValidTo.all (by have h := HV.out; rw [hy] at h; rwa [List.length_map]) (by rw [List.length_map]; have := QQ.out; omega)))
      have HY := Lib.hid hy
      clear hy
      have b1 := EL.out.bx 0 rfl
      have c1_0 := b1.cell 0 rfl
      clear b1
      have hfin := Lib.hid EL.out.bel
      go_wp2
      go_ret
      exact ⟨RetEqB HT.out.symm, hfin.out⟩
    have hk : n < X.length := lt_of hy a1
    have t6 : decide ((n : Int) < (X.length : Int)) = true := decide_eq_true (by omega)
    have t7 : decide (n < X.length) = true := decide_eq_true (by omega)
    have hkI : (n : Int) < (X.length : Int) := by omega
    clear hy
    have b1 := EL.out.bx 0 rfl
    have c1_0 := b1.cell 0 rfl
    clear b1
    go_upto_region 6 with (fail)
    obtain ⟨xab, xao, rfl⟩ := gUl.addr (EL.out.fc 0 rfl) (List.ne_nil_of_length_pos (Nat.lt_of_le_of_lt (Nat.zero_le _) hk))
    obtain ⟨⟨xu, xp, xq⟩, xe⟩ : ∃ x, X[n] = x := ⟨_, rfl⟩
    have xE := Lib.hid xe
    clear xe
    have E2 : Hid (Env D w [(w.heap.size, 25, [.slice (some ⟨xab, xao, none⟩) X.length xk])] [.gn (gRg xab (xao + n * 83) (usc xu xp xq)), .gn (gSp xu.sp xp xq), .gn (gUl (.slice (some ⟨xab, xao, none⟩) X.length xk) X)] _) := Lib.hid (EL.out.elU 0 rfl hk xE.out)
    clear EL
    have xS := Lib.hid (E2.out.spOk 1 rfl)
    have xN : Hid (∀ v ∈ usc xu xp xq, v.oneCell' = true) := Lib.hid (usc_one xS.out (Rw.oneV (E2.out.fc 1 rfl).2.1) (Rw.oneV (E2.out.fc 1 rfl).2.2))
    have HU : Hid ((X.map Uv.u)[n]? = some xu) := Lib.hid (map_get hk xE.out)
    have HBX : Hid (xu.sp.lv.length ≤ 1000000 ∧ xu.sp.pa.length ≤ 1000000) := Lib.hid (hb.out _ (List.mem_of_getElem (h := hk) xE.out))
    obtain ⟨aa, ak, ac, aj, rfl, rfl, E30⟩ := E2.out.elS 1 rfl
    have E3 : Hid (Env D w [(w.heap.size, 25, [.slice (some ⟨xab, xao, none⟩) X.length xk])] [.rw (.slice aa xu.sp.lv.length ak) xu.sp.lv.length 3 (lcl xu.sp.lv), .rw (.slice ac xu.sp.pa.length aj) xu.sp.pa.length 32 xu.sp.pa.flatten, .gn (gRg xab (xao + n * 83) (usc xu (.slice aa xu.sp.lv.length ak) (.slice ac xu.sp.pa.length aj))), .gn (gSp xu.sp (.slice aa xu.sp.lv.length ak) (.slice ac xu.sp.pa.length aj)), .gn (gUl (.slice (some ⟨xab, xao, none⟩) X.length xk) X)] _) := Lib.hid E30
    clear E30 E2
    have b2 := E3.out.bx 0 rfl
    have c2_0 := b2.cell 0 rfl
    clear b2
    have r3 := Lib.hid (E3.out.fc 2 rfl).2
    have E4 : Hid (Env D w [(wr.heap.size, 44, usc zU nilV nilV), (w.heap.size, 25, [.slice (some ⟨xab, xao, none⟩) X.length xk])] [.rw (.slice aa xu.sp.lv.length ak) xu.sp.lv.length 3 (lcl xu.sp.lv), .rw (.slice ac xu.sp.pa.length aj) xu.sp.pa.length 32 xu.sp.pa.flatten, .gn (gRg xab (xao + n * 83) (usc xu (.slice aa xu.sp.lv.length ak) (.slice ac xu.sp.pa.length aj))), .gn (gSp xu.sp (.slice aa xu.sp.lv.length ak) (.slice ac xu.sp.pa.length aj)), .gn (gUl (.slice (some ⟨xab, xao, none⟩) X.length xk) X)] _) := Lib.hid ((E3.out.push 44 (usc zU nilV nilV) (wr.heap.size) (by simp)))
    have b4 := Lib.hid (E4.out.bx 0 rfl)
    go_upto_region 7 with (first | (with_reducible refine wpl_load_b bUse xab (xao + n * 83) ?_ ?_ (usc xu (.slice aa xu.sp.lv.length ak) (.slice ac xu.sp.pa.length aj)) (usc_len xS.out _ _) r3.out ?_; (· exact ⟨_, rfl, rfl⟩); (· kernel_rfl)) | (with_reducible refine wpl_alloc_b ?_ ?_ _ zvUse ?_; (· rfl); (· rfl)) | (with_reducible refine wpl_store_b bUse wr.heap.size 0 (usc xu (.slice aa xu.sp.lv.length ak) (.slice ac xu.sp.pa.length aj)) ?_ ?_ (usc_len xS.out _ _) (Box.there b4.out (Nat.le_of_eq (usc_len zS_ok _ _).symm)) xN.out ?_; (· exact ⟨_, _, rfl, rfl, rfl⟩); (· kernel_rfl)))
    have E5 : Hid (Env D w [(wr.heap.size, 44, usc xu (.slice aa xu.sp.lv.length ak) (.slice ac xu.sp.pa.length aj)), (w.heap.size, 25, [.slice (some ⟨xab, xao, none⟩) X.length xk])] [.rw (.slice aa xu.sp.lv.length ak) xu.sp.lv.length 3 (lcl xu.sp.lv), .rw (.slice ac xu.sp.pa.length aj) xu.sp.pa.length 32 xu.sp.pa.flatten, .gn (gRg xab (xao + n * 83) (usc xu (.slice aa xu.sp.lv.length ak) (.slice ac xu.sp.pa.length aj))), .gn (gSp xu.sp (.slice aa xu.sp.lv.length ak) (.slice ac xu.sp.pa.length aj)), .gn (gUl (.slice (some ⟨xab, xao, none⟩) X.length xk) X)] _) := Lib.hid ((E4.out.whole 0 (usc xu (.slice aa xu.sp.lv.length ak) (.slice ac xu.sp.pa.length aj)) rfl ((usc_len xS.out _ _).trans (usc_len zS_ok _ _).symm)))
    clear c1_0 c2_0 r3 b4 E3 E4
    generalize (wr.alloc (.cells (usc zU nilV nilV).toArray 44)).setCells (wr.heap.size) 0 (usc xu (.slice aa xu.sp.lv.length ak) (.slice ac xu.sp.pa.length aj)) = w1 at *
    obtain ⟨c1, c1h⟩ : ∃ b : Bool, b = true ↔ StOk xu.sp := by by_cases h : StOk xu.sp; (· exact ⟨true, ⟨fun _ => h, fun _ => rfl⟩⟩); exact ⟨false, ⟨fun h2 => Bool.noConfusion h2, fun h2 => absurd h2 h⟩⟩
    have c1H := Lib.hid c1h
    clear c1h
    cases c1 with
    | false =>
      have HT : Hid (t = false) := Lib.hid (by cases t; (· rfl); exfalso; have h := (ht.out.1 rfl).2.1 _ (List.mem_of_getElem? HU.out); exact Bool.noConfusion (c1H.out.2 h.1))
      go_wp2_with (first | (with_reducible refine wpl_alloc_b ?_ ?_ _ zvUse ?_; (· rfl); (· rfl)))
      have E6 : Hid (Env D w [(wr.heap.size, 44, usc xu (.slice aa xu.sp.lv.length ak) (.slice ac xu.sp.pa.length aj)), (w.heap.size, 25, [.slice (some ⟨xab, xao, none⟩) X.length xk])] [.rw (.slice aa xu.sp.lv.length ak) xu.sp.lv.length 3 (lcl xu.sp.lv), .rw (.slice ac xu.sp.pa.length aj) xu.sp.pa.length 32 xu.sp.pa.flatten, .gn (gRg xab (xao + n * 83) (usc xu (.slice aa xu.sp.lv.length ak) (.slice ac xu.sp.pa.length aj))), .gn (gSp xu.sp (.slice aa xu.sp.lv.length ak) (.slice ac xu.sp.pa.length aj)), .gn (gUl (.slice (some ⟨xab, xao, none⟩) X.length xk) X)] (w1.drew)) := Lib.hid E5.out.drew
      clear E5
      refine wp_regionU (S := fun w' => w'.rangeAt wr.heap.size 2 (spc xu.sp (.slice aa xu.sp.lv.length ak) (.slice ac xu.sp.pa.length aj))) [] (by kernel_rfl) (((E6.out.bx 0 rfl).range (o := 2) (usc_sp xS.out _ _))) (fun hHeld => ?_)
      generalize w1.drew = w2 at *
      refine uTake (i := 0) (some 21) (v := ?_) rfl rfl (by kernel_rfl) (by kernel_rfl) (by kernel_rfl) (by kernel_rfl) (fun _ _ _ h => h) (by rfl) (by assumption) ?_ ?_
      rotate_left
      · (intro wS hSw; (try dsimp only at hSw); go_simp; try with_reducible rfl)
      try simp only [Act.put, List.setIfInBounds_toArray, List.set_cons_zero, List.set_cons_succ]
      refine uTake (i := 1) (some 22) (v := .agg (spc xu.sp (.slice aa xu.sp.lv.length ak) (.slice ac xu.sp.pa.length aj)).toArray) rfl rfl (by kernel_rfl) (by kernel_rfl) (by kernel_rfl) (by kernel_rfl) (fun _ _ _ h => h) (by rfl) (by assumption) ?_ ?_
      · (intro wS hSw; (try dsimp only at hSw); revert hSw; (try simp only [and_imp]); intros; exact exec_load_b bSpend _ rfl wr.heap.size 2 rfl (spc xu.sp (.slice aa xu.sp.lv.length ak) (.slice ac xu.sp.pa.length aj)) (spc_len xS.out _ _) (by assumption))
      try simp only [Act.put, List.setIfInBounds_toArray, List.set_cons_zero, List.set_cons_succ]
      refine uReady (rs := [2]) (by kernel_rfl) (by simp) ?_
      refine ReadyU.cons rfl (fun KK hKK => ?_) ReadyU.nil
      go_simp
      refine (rstorable_c xu.sp (E6.out.fc 3 rfl) HBX.out (t := false) (by first | exact c1H.out | simpa using c1H.out)).mono ?_
      rintro e w3 ⟨rfl, hb⟩
      have E7 : Hid (Env D w [(wr.heap.size, 44, usc xu (.slice aa xu.sp.lv.length ak) (.slice ac xu.sp.pa.length aj)), (w.heap.size, 25, [.slice (some ⟨xab, xao, none⟩) X.length xk])] [.rw (.slice aa xu.sp.lv.length ak) xu.sp.lv.length 3 (lcl xu.sp.lv), .rw (.slice ac xu.sp.pa.length aj) xu.sp.pa.length 32 xu.sp.pa.flatten, .gn (gRg xab (xao + n * 83) (usc xu (.slice aa xu.sp.lv.length ak) (.slice ac xu.sp.pa.length aj))), .gn (gSp xu.sp (.slice aa xu.sp.lv.length ak) (.slice ac xu.sp.pa.length aj)), .gn (gUl (.slice (some ⟨xab, xao, none⟩) X.length xk) X)] w3) := Lib.hid (E6.out.below hb)
      clear E6 hb
      (try dsimp only)
      clear hHeld
      refine hKK.out _ _ (((E7.out.bx 0 rfl).range (o := 2) (usc_sp xS.out _ _))) (fun hHeld => ?_)
      clear hKK KK
      try simp only [Act.put, List.setIfInBounds_toArray, List.set_cons_zero, List.set_cons_succ]
      refine uTake (i := 3) (some 24) (v := ?_) rfl rfl (by kernel_rfl) (by kernel_rfl) (by kernel_rfl) (by kernel_rfl) (fun _ _ _ h => h) (by rfl) (by assumption) ?_ ?_
      rotate_left
      · (intro wS hSw; (try dsimp only at hSw); go_simp; try with_reducible rfl)
      try simp only [Act.put, List.setIfInBounds_toArray, List.set_cons_zero, List.set_cons_succ]
      refine uTake (i := 4) (some 25) (v := ?_) rfl rfl (by kernel_rfl) (by kernel_rfl) (by kernel_rfl) (by kernel_rfl) (fun _ _ _ h => h) (by rfl) (by assumption) ?_ ?_
      rotate_left
      · (intro wS hSw; (try dsimp only at hSw); go_simp; try with_reducible rfl)
      try simp only [Act.put, List.setIfInBounds_toArray, List.set_cons_zero, List.set_cons_succ]
      refine uPass (i := 5) (some 26) rfl rfl (by kernel_rfl) (by kernel_rfl) (by kernel_rfl) (by kernel_rfl) (fun _ _ _ h => h) (by rfl) (by assumption) ?_
      try simp only [Act.put, List.setIfInBounds_toArray, List.set_cons_zero, List.set_cons_succ]
      refine uPass (i := 6) (some 27) rfl rfl (by kernel_rfl) (by kernel_rfl) (by kernel_rfl) (by kernel_rfl) (fun _ _ _ h => h) (by rfl) (by assumption) ?_
      try simp only [Act.put, List.setIfInBounds_toArray, List.set_cons_zero, List.set_cons_succ]
      refine uPass (i := 7) (some 28) rfl rfl (by kernel_rfl) (by kernel_rfl) (by kernel_rfl) (by kernel_rfl) (fun _ _ _ h => h) (by rfl) (by assumption) ?_
      try simp only [Act.put, List.setIfInBounds_toArray, List.set_cons_zero, List.set_cons_succ]
      refine uTake (i := 8) (some 29) (v := ?_) rfl rfl (by kernel_rfl) (by kernel_rfl) (by kernel_rfl) (by kernel_rfl) (fun _ _ _ h => h) (by rfl) (by assumption) ?_ ?_
      rotate_left
      · (intro wS hSw; (try dsimp only at hSw); go_simp; try with_reducible rfl)
      try simp only [Act.put, List.setIfInBounds_toArray, List.set_cons_zero, List.set_cons_succ]
      refine uTake (i := 9) (some 30) (v := ?_) rfl rfl (by kernel_rfl) (by kernel_rfl) (by kernel_rfl) (by kernel_rfl) (fun _ _ _ h => h) (by rfl) (by assumption) ?_ ?_
      rotate_left
      · (intro wS hSw; (try dsimp only at hSw); go_simp; try with_reducible rfl)
      try simp only [Act.put, List.setIfInBounds_toArray, List.set_cons_zero, List.set_cons_succ]
      refine uPass (i := 10) (some 31) rfl rfl (by kernel_rfl) (by kernel_rfl) (by kernel_rfl) (by kernel_rfl) (fun _ _ _ h => h) (by rfl) (by assumption) ?_
      try simp only [Act.put, List.setIfInBounds_toArray, List.set_cons_zero, List.set_cons_succ]
      refine uPass (i := 11) (some 32) rfl rfl (by kernel_rfl) (by kernel_rfl) (by kernel_rfl) (by kernel_rfl) (fun _ _ _ h => h) (by rfl) (by assumption) ?_
      try simp only [Act.put, List.setIfInBounds_toArray, List.set_cons_zero, List.set_cons_succ]
      refine uPass (i := 12) (some 33) rfl rfl (by kernel_rfl) (by kernel_rfl) (by kernel_rfl) (by kernel_rfl) (fun _ _ _ h => h) (by rfl) (by assumption) ?_
      try simp only [Act.put, List.setIfInBounds_toArray, List.set_cons_zero, List.set_cons_succ]
      refine uPass (i := 13) (some 34) rfl rfl (by kernel_rfl) (by kernel_rfl) (by kernel_rfl) (by kernel_rfl) (fun _ _ _ h => h) (by rfl) (by assumption) ?_
      try simp only [Act.put, List.setIfInBounds_toArray, List.set_cons_zero, List.set_cons_succ]
      refine uPass (i := 14) (some 35) rfl rfl (by kernel_rfl) (by kernel_rfl) (by kernel_rfl) (by kernel_rfl) (fun _ _ _ h => h) (by rfl) (by assumption) ?_
      try simp only [Act.put, List.setIfInBounds_toArray, List.set_cons_zero, List.set_cons_succ]
      refine uPass (i := 15) (some 36) rfl rfl (by kernel_rfl) (by kernel_rfl) (by kernel_rfl) (by kernel_rfl) (fun _ _ _ h => h) (by rfl) (by assumption) ?_
      try simp only [Act.put, List.setIfInBounds_toArray, List.set_cons_zero, List.set_cons_succ]
      refine uPass (i := 16) (some 37) rfl rfl (by kernel_rfl) (by kernel_rfl) (by kernel_rfl) (by kernel_rfl) (fun _ _ _ h => h) (by rfl) (by assumption) ?_
      try simp only [Act.put, List.setIfInBounds_toArray, List.set_cons_zero, List.set_cons_succ]
      refine uTake (i := 17) (some 38) (v := ?_) rfl rfl (by kernel_rfl) (by kernel_rfl) (by kernel_rfl) (by kernel_rfl) (fun _ _ _ h => h) (by rfl) (by assumption) ?_ ?_
      rotate_left
      · (intro wS hSw; (try dsimp only at hSw); go_simp; try with_reducible rfl)
      try simp only [Act.put, List.setIfInBounds_toArray, List.set_cons_zero, List.set_cons_succ]
      refine uTake (i := 18) (some 39) (v := ?_) rfl rfl (by kernel_rfl) (by kernel_rfl) (by kernel_rfl) (by kernel_rfl) (fun _ _ _ h => h) (by rfl) (by assumption) ?_ ?_
      rotate_left
      · (intro wS hSw; (try dsimp only at hSw); go_simp; try with_reducible rfl)
      try simp only [Act.put, List.setIfInBounds_toArray, List.set_cons_zero, List.set_cons_succ]
      refine uPass (i := 19) (some 40) rfl rfl (by kernel_rfl) (by kernel_rfl) (by kernel_rfl) (by kernel_rfl) (fun _ _ _ h => h) (by rfl) (by assumption) ?_
      try simp only [Act.put, List.setIfInBounds_toArray, List.set_cons_zero, List.set_cons_succ]
      refine uPass (i := 20) (some 41) rfl rfl (by kernel_rfl) (by kernel_rfl) (by kernel_rfl) (by kernel_rfl) (fun _ _ _ h => h) (by rfl) (by assumption) ?_
      try simp only [Act.put, List.setIfInBounds_toArray, List.set_cons_zero, List.set_cons_succ]
      refine uPass (i := 21) (some 42) rfl rfl (by kernel_rfl) (by kernel_rfl) (by kernel_rfl) (by kernel_rfl) (fun _ _ _ h => h) (by rfl) (by assumption) ?_
      try simp only [Act.put, List.setIfInBounds_toArray, List.set_cons_zero, List.set_cons_succ]
      refine uPass (i := 22) (some 43) rfl rfl (by kernel_rfl) (by kernel_rfl) (by kernel_rfl) (by kernel_rfl) (fun _ _ _ h => h) (by rfl) (by assumption) ?_
      try simp only [Act.put, List.setIfInBounds_toArray, List.set_cons_zero, List.set_cons_succ]
      refine uPass (i := 23) (some 44) rfl rfl (by kernel_rfl) (by kernel_rfl) (by kernel_rfl) (by kernel_rfl) (fun _ _ _ h => h) (by rfl) (by assumption) ?_
      try simp only [Act.put, List.setIfInBounds_toArray, List.set_cons_zero, List.set_cons_succ]
      refine uPass (i := 24) (some 45) rfl rfl (by kernel_rfl) (by kernel_rfl) (by kernel_rfl) (by kernel_rfl) (fun _ _ _ h => h) (by rfl) (by assumption) ?_
      try simp only [Act.put, List.setIfInBounds_toArray, List.set_cons_zero, List.set_cons_succ]
      refine uPass (i := 25) (some 46) rfl rfl (by kernel_rfl) (by kernel_rfl) (by kernel_rfl) (by kernel_rfl) (fun _ _ _ h => h) (by rfl) (by assumption) ?_
      try simp only [Act.put, List.setIfInBounds_toArray, List.set_cons_zero, List.set_cons_succ]
      refine uTake (i := 26) (some 47) (v := ?_) rfl rfl (by kernel_rfl) (by kernel_rfl) (by kernel_rfl) (by kernel_rfl) (fun _ _ _ h => h) (by rfl) (by assumption) ?_ ?_
      rotate_left
      · (intro wS hSw; (try dsimp only at hSw); go_simp; try with_reducible rfl)
      try simp only [Act.put, List.setIfInBounds_toArray, List.set_cons_zero, List.set_cons_succ]
      refine uTake (i := 27) (some 48) (v := ?_) rfl rfl (by kernel_rfl) (by kernel_rfl) (by kernel_rfl) (by kernel_rfl) (fun _ _ _ h => h) (by rfl) (by assumption) ?_ ?_
      rotate_left
      · (intro wS hSw; (try dsimp only at hSw); go_simp; try with_reducible rfl)
      try simp only [Act.put, List.setIfInBounds_toArray, List.set_cons_zero, List.set_cons_succ]
      refine uPass (i := 28) (some 49) rfl rfl (by kernel_rfl) (by kernel_rfl) (by kernel_rfl) (by kernel_rfl) (fun _ _ _ h => h) (by rfl) (by assumption) ?_
      try simp only [Act.put, List.setIfInBounds_toArray, List.set_cons_zero, List.set_cons_succ]
      refine uPass (i := 29) (some 50) rfl rfl (by kernel_rfl) (by kernel_rfl) (by kernel_rfl) (by kernel_rfl) (fun _ _ _ h => h) (by rfl) (by assumption) ?_
      try simp only [Act.put, List.setIfInBounds_toArray, List.set_cons_zero, List.set_cons_succ]
      refine uPass (i := 30) (some 51) rfl rfl (by kernel_rfl) (by kernel_rfl) (by kernel_rfl) (by kernel_rfl) (fun _ _ _ h => h) (by rfl) (by assumption) ?_
      try simp only [Act.put, List.setIfInBounds_toArray, List.set_cons_zero, List.set_cons_succ]
      refine uPass (i := 31) (some 52) rfl rfl (by kernel_rfl) (by kernel_rfl) (by kernel_rfl) (by kernel_rfl) (fun _ _ _ h => h) (by rfl) (by assumption) ?_
      try simp only [Act.put, List.setIfInBounds_toArray, List.set_cons_zero, List.set_cons_succ]
      refine uPass (i := 32) (some 53) rfl rfl (by kernel_rfl) (by kernel_rfl) (by kernel_rfl) (by kernel_rfl) (fun _ _ _ h => h) (by rfl) (by assumption) ?_
      try simp only [Act.put, List.setIfInBounds_toArray, List.set_cons_zero, List.set_cons_succ]
      refine uPass (i := 33) (some 54) rfl rfl (by kernel_rfl) (by kernel_rfl) (by kernel_rfl) (by kernel_rfl) (fun _ _ _ h => h) (by rfl) (by assumption) ?_
      try simp only [Act.put, List.setIfInBounds_toArray, List.set_cons_zero, List.set_cons_succ]
      refine uPass (i := 34) (some 55) rfl rfl (by kernel_rfl) (by kernel_rfl) (by kernel_rfl) (by kernel_rfl) (fun _ _ _ h => h) (by rfl) (by assumption) ?_
      try simp only [Act.put, List.setIfInBounds_toArray, List.set_cons_zero, List.set_cons_succ]
      refine uPass (i := 35) (some 56) rfl rfl (by kernel_rfl) (by kernel_rfl) (by kernel_rfl) (by kernel_rfl) (fun _ _ _ h => h) (by rfl) (by assumption) ?_
      try simp only [Act.put, List.setIfInBounds_toArray, List.set_cons_zero, List.set_cons_succ]
      refine uPass (i := 36) (some 57) rfl rfl (by kernel_rfl) (by kernel_rfl) (by kernel_rfl) (by kernel_rfl) (fun _ _ _ h => h) (by rfl) (by assumption) ?_
      try simp only [Act.put, List.setIfInBounds_toArray, List.set_cons_zero, List.set_cons_succ]
      refine uPass (i := 37) (some 58) rfl rfl (by kernel_rfl) (by kernel_rfl) (by kernel_rfl) (by kernel_rfl) (fun _ _ _ h => h) (by rfl) (by assumption) ?_
      try simp only [Act.put, List.setIfInBounds_toArray, List.set_cons_zero, List.set_cons_succ]
      refine uPass (i := 38) (some 59) rfl rfl (by kernel_rfl) (by kernel_rfl) (by kernel_rfl) (by kernel_rfl) (fun _ _ _ h => h) (by rfl) (by assumption) ?_
      try simp only [Act.put, List.setIfInBounds_toArray, List.set_cons_zero, List.set_cons_succ]
      refine uTake (i := 39) (some 60) (v := ?_) rfl rfl (by kernel_rfl) (by kernel_rfl) (by kernel_rfl) (by kernel_rfl) (fun _ _ _ h => h) (by rfl) (by assumption) ?_ ?_
      rotate_left
      · (intro wS hSw; (try dsimp only at hSw); go_simp; try with_reducible rfl)
      try simp only [Act.put, List.setIfInBounds_toArray, List.set_cons_zero, List.set_cons_succ]
      refine uDone (by kernel_rfl) ?_ _
      have hfin := Lib.hid E7.out.bel
      go_wp2_with (first | (with_reducible refine wpl_alloc_b ?_ ?_ _ zvUse ?_; (· rfl); (· rfl)))
      go_ret
      exact ⟨RetEqB HT.out.symm, hfin.out⟩
    | true =>
      by_cases q2 : xu.lf < 0
      · have d2 : decide (xu.lf < 0) = true := decide_eq_true q2
        have HT : Hid (t = false) := Lib.hid (by cases t; (· rfl); exfalso; have h := (ht.out.1 rfl).2.1 _ (List.mem_of_getElem? HU.out); exact absurd h.2.1 (by omega))
        go_wp2_with (first | (with_reducible refine wpl_alloc_b ?_ ?_ _ zvUse ?_; (· rfl); (· rfl)))
        have E6 : Hid (Env D w [(wr.heap.size, 44, usc xu (.slice aa xu.sp.lv.length ak) (.slice ac xu.sp.pa.length aj)), (w.heap.size, 25, [.slice (some ⟨xab, xao, none⟩) X.length xk])] [.rw (.slice aa xu.sp.lv.length ak) xu.sp.lv.length 3 (lcl xu.sp.lv), .rw (.slice ac xu.sp.pa.length aj) xu.sp.pa.length 32 xu.sp.pa.flatten, .gn (gRg xab (xao + n * 83) (usc xu (.slice aa xu.sp.lv.length ak) (.slice ac xu.sp.pa.length aj))), .gn (gSp xu.sp (.slice aa xu.sp.lv.length ak) (.slice ac xu.sp.pa.length aj)), .gn (gUl (.slice (some ⟨xab, xao, none⟩) X.length xk) X)] (w1.drew)) := Lib.hid E5.out.drew
        clear E5
        refine wp_regionU (S := fun w' => w'.rangeAt wr.heap.size 2 (spc xu.sp (.slice aa xu.sp.lv.length ak) (.slice ac xu.sp.pa.length aj)) ∧ w'.cell? ⟨wr.heap.size, 82, none⟩ = some (.int .i64 xu.lf)) [] (by kernel_rfl) (⟨((E6.out.bx 0 rfl).range (o := 2) (usc_sp xS.out _ _)), ((E6.out.bx 0 rfl).cell 82 (usc_lf xS.out _ _))⟩) (fun hHeld => ?_)
        generalize w1.drew = w2 at *
        refine uTake (i := 0) (some 21) (v := ?_) rfl rfl (by kernel_rfl) (by kernel_rfl) (by kernel_rfl) (by kernel_rfl) (fun _ _ _ h => h) (by rfl) (by assumption) ?_ ?_
        rotate_left
        · (intro wS hSw; (try dsimp only at hSw); go_simp; try with_reducible rfl)
        try simp only [Act.put, List.setIfInBounds_toArray, List.set_cons_zero, List.set_cons_succ]
        refine uTake (i := 1) (some 22) (v := .agg (spc xu.sp (.slice aa xu.sp.lv.length ak) (.slice ac xu.sp.pa.length aj)).toArray) rfl rfl (by kernel_rfl) (by kernel_rfl) (by kernel_rfl) (by kernel_rfl) (fun _ _ _ h => h) (by rfl) (by assumption) ?_ ?_
        · (intro wS hSw; (try dsimp only at hSw); revert hSw; (try simp only [and_imp]); intros; exact exec_load_b bSpend _ rfl wr.heap.size 2 rfl (spc xu.sp (.slice aa xu.sp.lv.length ak) (.slice ac xu.sp.pa.length aj)) (spc_len xS.out _ _) (by assumption))
        try simp only [Act.put, List.setIfInBounds_toArray, List.set_cons_zero, List.set_cons_succ]
        refine uReady (rs := [2]) (by kernel_rfl) (by simp) ?_
        refine ReadyU.cons rfl (fun KK hKK => ?_) ReadyU.nil
        go_simp
        refine (rstorable_c xu.sp (E6.out.fc 3 rfl) HBX.out (t := true) (by first | exact c1H.out | simpa using c1H.out)).mono ?_
        rintro e w3 ⟨rfl, hb⟩
        have E7 : Hid (Env D w [(wr.heap.size, 44, usc xu (.slice aa xu.sp.lv.length ak) (.slice ac xu.sp.pa.length aj)), (w.heap.size, 25, [.slice (some ⟨xab, xao, none⟩) X.length xk])] [.rw (.slice aa xu.sp.lv.length ak) xu.sp.lv.length 3 (lcl xu.sp.lv), .rw (.slice ac xu.sp.pa.length aj) xu.sp.pa.length 32 xu.sp.pa.flatten, .gn (gRg xab (xao + n * 83) (usc xu (.slice aa xu.sp.lv.length ak) (.slice ac xu.sp.pa.length aj))), .gn (gSp xu.sp (.slice aa xu.sp.lv.length ak) (.slice ac xu.sp.pa.length aj)), .gn (gUl (.slice (some ⟨xab, xao, none⟩) X.length xk) X)] w3) := Lib.hid (E6.out.below hb)
        clear E6 hb
        (try dsimp only)
        clear hHeld
        refine hKK.out _ _ (⟨((E7.out.bx 0 rfl).range (o := 2) (usc_sp xS.out _ _)), ((E7.out.bx 0 rfl).cell 82 (usc_lf xS.out _ _))⟩) (fun hHeld => ?_)
        clear hKK KK
        try simp only [Act.put, List.setIfInBounds_toArray, List.set_cons_zero, List.set_cons_succ]
        refine uTake (i := 3) (some 24) (v := ?_) rfl rfl (by kernel_rfl) (by kernel_rfl) (by kernel_rfl) (by kernel_rfl) (fun _ _ _ h => h) (by rfl) (by assumption) ?_ ?_
        rotate_left
        · (intro wS hSw; (try dsimp only at hSw); go_simp; try with_reducible rfl)
        try simp only [Act.put, List.setIfInBounds_toArray, List.set_cons_zero, List.set_cons_succ]
        refine uTake (i := 4) (some 25) (v := ?_) rfl rfl (by kernel_rfl) (by kernel_rfl) (by kernel_rfl) (by kernel_rfl) (fun _ _ _ h => h) (by rfl) (by assumption) ?_ ?_
        rotate_left
        · (intro wS hSw; (try dsimp only at hSw); go_simp; try with_reducible rfl)
        try simp only [Act.put, List.setIfInBounds_toArray, List.set_cons_zero, List.set_cons_succ]
        refine uTake (i := 5) (some 26) (v := ?_) rfl rfl (by kernel_rfl) (by kernel_rfl) (by kernel_rfl) (by kernel_rfl) (fun _ _ _ h => h) (by rfl) (by assumption) ?_ ?_
        rotate_left
        · (intro wS hSw; (try dsimp only at hSw); go_simp; try with_reducible rfl)
        try simp only [Act.put, List.setIfInBounds_toArray, List.set_cons_zero, List.set_cons_succ]
        refine uTake (i := 6) (some 27) (v := ?_) rfl rfl (by kernel_rfl) (by kernel_rfl) (by kernel_rfl) (by kernel_rfl) (fun _ _ _ h => h) (by rfl) (by assumption) ?_ ?_
        rotate_left
        · (intro wS hSw; (try dsimp only at hSw); go_simp; try with_reducible rfl)
        try simp only [Act.put, List.setIfInBounds_toArray, List.set_cons_zero, List.set_cons_succ]
        refine uTake (i := 7) (some 28) (v := ?_) rfl rfl (by kernel_rfl) (by kernel_rfl) (by kernel_rfl) (by kernel_rfl) (fun _ _ _ h => h) (by rfl) (by assumption) ?_ ?_
        rotate_left
        · (intro wS hSw; (try dsimp only at hSw); go_simp; try with_reducible rfl)
        try simp only [Act.put, List.setIfInBounds_toArray, List.set_cons_zero, List.set_cons_succ]
        refine uTake (i := 8) (some 29) (v := ?_) rfl rfl (by kernel_rfl) (by kernel_rfl) (by kernel_rfl) (by kernel_rfl) (fun _ _ _ h => h) (by rfl) (by assumption) ?_ ?_
        rotate_left
        · (intro wS hSw; (try dsimp only at hSw); go_simp; try with_reducible rfl)
        try simp only [Act.put, List.setIfInBounds_toArray, List.set_cons_zero, List.set_cons_succ]
        refine uTake (i := 9) (some 30) (v := ?_) rfl rfl (by kernel_rfl) (by kernel_rfl) (by kernel_rfl) (by kernel_rfl) (fun _ _ _ h => h) (by rfl) (by assumption) ?_ ?_
        rotate_left
        · (intro wS hSw; (try dsimp only at hSw); go_simp; try with_reducible rfl)
        try simp only [Act.put, List.setIfInBounds_toArray, List.set_cons_zero, List.set_cons_succ]
        refine uPass (i := 10) (some 31) rfl rfl (by kernel_rfl) (by kernel_rfl) (by kernel_rfl) (by kernel_rfl) (fun _ _ _ h => h) (by rfl) (by assumption) ?_
        try simp only [Act.put, List.setIfInBounds_toArray, List.set_cons_zero, List.set_cons_succ]
        refine uPass (i := 11) (some 32) rfl rfl (by kernel_rfl) (by kernel_rfl) (by kernel_rfl) (by kernel_rfl) (fun _ _ _ h => h) (by rfl) (by assumption) ?_
        try simp only [Act.put, List.setIfInBounds_toArray, List.set_cons_zero, List.set_cons_succ]
        refine uPass (i := 12) (some 33) rfl rfl (by kernel_rfl) (by kernel_rfl) (by kernel_rfl) (by kernel_rfl) (fun _ _ _ h => h) (by rfl) (by assumption) ?_
        try simp only [Act.put, List.setIfInBounds_toArray, List.set_cons_zero, List.set_cons_succ]
        refine uPass (i := 13) (some 34) rfl rfl (by kernel_rfl) (by kernel_rfl) (by kernel_rfl) (by kernel_rfl) (fun _ _ _ h => h) (by rfl) (by assumption) ?_
        try simp only [Act.put, List.setIfInBounds_toArray, List.set_cons_zero, List.set_cons_succ]
        refine uPass (i := 14) (some 35) rfl rfl (by kernel_rfl) (by kernel_rfl) (by kernel_rfl) (by kernel_rfl) (fun _ _ _ h => h) (by rfl) (by assumption) ?_
        try simp only [Act.put, List.setIfInBounds_toArray, List.set_cons_zero, List.set_cons_succ]
        refine uPass (i := 15) (some 36) rfl rfl (by kernel_rfl) (by kernel_rfl) (by kernel_rfl) (by kernel_rfl) (fun _ _ _ h => h) (by rfl) (by assumption) ?_
        try simp only [Act.put, List.setIfInBounds_toArray, List.set_cons_zero, List.set_cons_succ]
        refine uPass (i := 16) (some 37) rfl rfl (by kernel_rfl) (by kernel_rfl) (by kernel_rfl) (by kernel_rfl) (fun _ _ _ h => h) (by rfl) (by assumption) ?_
        try simp only [Act.put, List.setIfInBounds_toArray, List.set_cons_zero, List.set_cons_succ]
        refine uTake (i := 17) (some 38) (v := ?_) rfl rfl (by kernel_rfl) (by kernel_rfl) (by kernel_rfl) (by kernel_rfl) (fun _ _ _ h => h) (by rfl) (by assumption) ?_ ?_
        rotate_left
        · (intro wS hSw; (try dsimp only at hSw); go_simp; try with_reducible rfl)
        try simp only [Act.put, List.setIfInBounds_toArray, List.set_cons_zero, List.set_cons_succ]
        refine uTake (i := 18) (some 39) (v := ?_) rfl rfl (by kernel_rfl) (by kernel_rfl) (by kernel_rfl) (by kernel_rfl) (fun _ _ _ h => h) (by rfl) (by assumption) ?_ ?_
        rotate_left
        · (intro wS hSw; (try dsimp only at hSw); go_simp; try with_reducible rfl)
        try simp only [Act.put, List.setIfInBounds_toArray, List.set_cons_zero, List.set_cons_succ]
        refine uPass (i := 19) (some 40) rfl rfl (by kernel_rfl) (by kernel_rfl) (by kernel_rfl) (by kernel_rfl) (fun _ _ _ h => h) (by rfl) (by assumption) ?_
        try simp only [Act.put, List.setIfInBounds_toArray, List.set_cons_zero, List.set_cons_succ]
        refine uPass (i := 20) (some 41) rfl rfl (by kernel_rfl) (by kernel_rfl) (by kernel_rfl) (by kernel_rfl) (fun _ _ _ h => h) (by rfl) (by assumption) ?_
        try simp only [Act.put, List.setIfInBounds_toArray, List.set_cons_zero, List.set_cons_succ]
        refine uPass (i := 21) (some 42) rfl rfl (by kernel_rfl) (by kernel_rfl) (by kernel_rfl) (by kernel_rfl) (fun _ _ _ h => h) (by rfl) (by assumption) ?_
        try simp only [Act.put, List.setIfInBounds_toArray, List.set_cons_zero, List.set_cons_succ]
        refine uPass (i := 22) (some 43) rfl rfl (by kernel_rfl) (by kernel_rfl) (by kernel_rfl) (by kernel_rfl) (fun _ _ _ h => h) (by rfl) (by assumption) ?_
        try simp only [Act.put, List.setIfInBounds_toArray, List.set_cons_zero, List.set_cons_succ]
        refine uPass (i := 23) (some 44) rfl rfl (by kernel_rfl) (by kernel_rfl) (by kernel_rfl) (by kernel_rfl) (fun _ _ _ h => h) (by rfl) (by assumption) ?_
        try simp only [Act.put, List.setIfInBounds_toArray, List.set_cons_zero, List.set_cons_succ]
        refine uPass (i := 24) (some 45) rfl rfl (by kernel_rfl) (by kernel_rfl) (by kernel_rfl) (by kernel_rfl) (fun _ _ _ h => h) (by rfl) (by assumption) ?_
        try simp only [Act.put, List.setIfInBounds_toArray, List.set_cons_zero, List.set_cons_succ]
        refine uPass (i := 25) (some 46) rfl rfl (by kernel_rfl) (by kernel_rfl) (by kernel_rfl) (by kernel_rfl) (fun _ _ _ h => h) (by rfl) (by assumption) ?_
        try simp only [Act.put, List.setIfInBounds_toArray, List.set_cons_zero, List.set_cons_succ]
        refine uTake (i := 26) (some 47) (v := ?_) rfl rfl (by kernel_rfl) (by kernel_rfl) (by kernel_rfl) (by kernel_rfl) (fun _ _ _ h => h) (by rfl) (by assumption) ?_ ?_
        rotate_left
        · (intro wS hSw; (try dsimp only at hSw); go_simp; try with_reducible rfl)
        try simp only [Act.put, List.setIfInBounds_toArray, List.set_cons_zero, List.set_cons_succ]
        refine uTake (i := 27) (some 48) (v := ?_) rfl rfl (by kernel_rfl) (by kernel_rfl) (by kernel_rfl) (by kernel_rfl) (fun _ _ _ h => h) (by rfl) (by assumption) ?_ ?_
        rotate_left
        · (intro wS hSw; (try dsimp only at hSw); go_simp; try with_reducible rfl)
        try simp only [Act.put, List.setIfInBounds_toArray, List.set_cons_zero, List.set_cons_succ]
        refine uPass (i := 28) (some 49) rfl rfl (by kernel_rfl) (by kernel_rfl) (by kernel_rfl) (by kernel_rfl) (fun _ _ _ h => h) (by rfl) (by assumption) ?_
        try simp only [Act.put, List.setIfInBounds_toArray, List.set_cons_zero, List.set_cons_succ]
        refine uPass (i := 29) (some 50) rfl rfl (by kernel_rfl) (by kernel_rfl) (by kernel_rfl) (by kernel_rfl) (fun _ _ _ h => h) (by rfl) (by assumption) ?_
        try simp only [Act.put, List.setIfInBounds_toArray, List.set_cons_zero, List.set_cons_succ]
        refine uPass (i := 30) (some 51) rfl rfl (by kernel_rfl) (by kernel_rfl) (by kernel_rfl) (by kernel_rfl) (fun _ _ _ h => h) (by rfl) (by assumption) ?_
        try simp only [Act.put, List.setIfInBounds_toArray, List.set_cons_zero, List.set_cons_succ]
        refine uPass (i := 31) (some 52) rfl rfl (by kernel_rfl) (by kernel_rfl) (by kernel_rfl) (by kernel_rfl) (fun _ _ _ h => h) (by rfl) (by assumption) ?_
        try simp only [Act.put, List.setIfInBounds_toArray, List.set_cons_zero, List.set_cons_succ]
        refine uPass (i := 32) (some 53) rfl rfl (by kernel_rfl) (by kernel_rfl) (by kernel_rfl) (by kernel_rfl) (fun _ _ _ h => h) (by rfl) (by assumption) ?_
        try simp only [Act.put, List.setIfInBounds_toArray, List.set_cons_zero, List.set_cons_succ]
        refine uPass (i := 33) (some 54) rfl rfl (by kernel_rfl) (by kernel_rfl) (by kernel_rfl) (by kernel_rfl) (fun _ _ _ h => h) (by rfl) (by assumption) ?_
        try simp only [Act.put, List.setIfInBounds_toArray, List.set_cons_zero, List.set_cons_succ]
        refine uPass (i := 34) (some 55) rfl rfl (by kernel_rfl) (by kernel_rfl) (by kernel_rfl) (by kernel_rfl) (fun _ _ _ h => h) (by rfl) (by assumption) ?_
        try simp only [Act.put, List.setIfInBounds_toArray, List.set_cons_zero, List.set_cons_succ]
        refine uPass (i := 35) (some 56) rfl rfl (by kernel_rfl) (by kernel_rfl) (by kernel_rfl) (by kernel_rfl) (fun _ _ _ h => h) (by rfl) (by assumption) ?_
        try simp only [Act.put, List.setIfInBounds_toArray, List.set_cons_zero, List.set_cons_succ]
        refine uPass (i := 36) (some 57) rfl rfl (by kernel_rfl) (by kernel_rfl) (by kernel_rfl) (by kernel_rfl) (fun _ _ _ h => h) (by rfl) (by assumption) ?_
        try simp only [Act.put, List.setIfInBounds_toArray, List.set_cons_zero, List.set_cons_succ]
        refine uPass (i := 37) (some 58) rfl rfl (by kernel_rfl) (by kernel_rfl) (by kernel_rfl) (by kernel_rfl) (fun _ _ _ h => h) (by rfl) (by assumption) ?_
        try simp only [Act.put, List.setIfInBounds_toArray, List.set_cons_zero, List.set_cons_succ]
        refine uPass (i := 38) (some 59) rfl rfl (by kernel_rfl) (by kernel_rfl) (by kernel_rfl) (by kernel_rfl) (fun _ _ _ h => h) (by rfl) (by assumption) ?_
        try simp only [Act.put, List.setIfInBounds_toArray, List.set_cons_zero, List.set_cons_succ]
        refine uTake (i := 39) (some 60) (v := ?_) rfl rfl (by kernel_rfl) (by kernel_rfl) (by kernel_rfl) (by kernel_rfl) (fun _ _ _ h => h) (by rfl) (by assumption) ?_ ?_
        rotate_left
        · (intro wS hSw; (try dsimp only at hSw); go_simp; try with_reducible rfl)
        try simp only [Act.put, List.setIfInBounds_toArray, List.set_cons_zero, List.set_cons_succ]
        refine uDone (by kernel_rfl) ?_ _
        have hfin := Lib.hid E7.out.bel
        go_wp2_with (first | (with_reducible refine wpl_alloc_b ?_ ?_ _ zvUse ?_; (· rfl); (· rfl)))
        go_ret
        exact ⟨RetEqB HT.out.symm, hfin.out⟩
      have d2 : decide (xu.lf < 0) = false := decide_eq_false q2
      by_cases q3 : (xu.sp.lv.length : Int) ≤ xu.lf
      · have d3 : decide ((xu.sp.lv.length : Int) ≤ xu.lf) = true := decide_eq_true q3
        have HT : Hid (t = false) := Lib.hid (by cases t; (· rfl); exfalso; have h := (ht.out.1 rfl).2.1 _ (List.mem_of_getElem? HU.out); have h2 := h.2.2.1; omega)
        go_wp2_with (first | (with_reducible refine wpl_alloc_b ?_ ?_ _ zvUse ?_; (· rfl); (· rfl)))
        have E6 : Hid (Env D w [(wr.heap.size, 44, usc xu (.slice aa xu.sp.lv.length ak) (.slice ac xu.sp.pa.length aj)), (w.heap.size, 25, [.slice (some ⟨xab, xao, none⟩) X.length xk])] [.rw (.slice aa xu.sp.lv.length ak) xu.sp.lv.length 3 (lcl xu.sp.lv), .rw (.slice ac xu.sp.pa.length aj) xu.sp.pa.length 32 xu.sp.pa.flatten, .gn (gRg xab (xao + n * 83) (usc xu (.slice aa xu.sp.lv.length ak) (.slice ac xu.sp.pa.length aj))), .gn (gSp xu.sp (.slice aa xu.sp.lv.length ak) (.slice ac xu.sp.pa.length aj)), .gn (gUl (.slice (some ⟨xab, xao, none⟩) X.length xk) X)] (w1.drew)) := Lib.hid E5.out.drew
        clear E5
        refine wp_regionU (S := fun w' => w'.rangeAt wr.heap.size 2 (spc xu.sp (.slice aa xu.sp.lv.length ak) (.slice ac xu.sp.pa.length aj)) ∧ w'.cell? ⟨wr.heap.size, 82, none⟩ = some (.int .i64 xu.lf) ∧ w'.cell? ⟨wr.heap.size, 79, none⟩ = some (.slice aa xu.sp.lv.length ak)) [] (by kernel_rfl) (⟨((E6.out.bx 0 rfl).range (o := 2) (usc_sp xS.out _ _)), ((E6.out.bx 0 rfl).cell 82 (usc_lf xS.out _ _)), ((E6.out.bx 0 rfl).cell 79 (usc_tail xS.out _ _).1)⟩) (fun hHeld => ?_)
        generalize w1.drew = w2 at *
        refine uTake (i := 0) (some 21) (v := ?_) rfl rfl (by kernel_rfl) (by kernel_rfl) (by kernel_rfl) (by kernel_rfl) (fun _ _ _ h => h) (by rfl) (by assumption) ?_ ?_
        rotate_left
        · (intro wS hSw; (try dsimp only at hSw); go_simp; try with_reducible rfl)
        try simp only [Act.put, List.setIfInBounds_toArray, List.set_cons_zero, List.set_cons_succ]
        refine uTake (i := 1) (some 22) (v := .agg (spc xu.sp (.slice aa xu.sp.lv.length ak) (.slice ac xu.sp.pa.length aj)).toArray) rfl rfl (by kernel_rfl) (by kernel_rfl) (by kernel_rfl) (by kernel_rfl) (fun _ _ _ h => h) (by rfl) (by assumption) ?_ ?_
        · (intro wS hSw; (try dsimp only at hSw); revert hSw; (try simp only [and_imp]); intros; exact exec_load_b bSpend _ rfl wr.heap.size 2 rfl (spc xu.sp (.slice aa xu.sp.lv.length ak) (.slice ac xu.sp.pa.length aj)) (spc_len xS.out _ _) (by assumption))
        try simp only [Act.put, List.setIfInBounds_toArray, List.set_cons_zero, List.set_cons_succ]
        refine uReady (rs := [2]) (by kernel_rfl) (by simp) ?_
        refine ReadyU.cons rfl (fun KK hKK => ?_) ReadyU.nil
        go_simp
        refine (rstorable_c xu.sp (E6.out.fc 3 rfl) HBX.out (t := true) (by first | exact c1H.out | simpa using c1H.out)).mono ?_
        rintro e w3 ⟨rfl, hb⟩
        have E7 : Hid (Env D w [(wr.heap.size, 44, usc xu (.slice aa xu.sp.lv.length ak) (.slice ac xu.sp.pa.length aj)), (w.heap.size, 25, [.slice (some ⟨xab, xao, none⟩) X.length xk])] [.rw (.slice aa xu.sp.lv.length ak) xu.sp.lv.length 3 (lcl xu.sp.lv), .rw (.slice ac xu.sp.pa.length aj) xu.sp.pa.length 32 xu.sp.pa.flatten, .gn (gRg xab (xao + n * 83) (usc xu (.slice aa xu.sp.lv.length ak) (.slice ac xu.sp.pa.length aj))), .gn (gSp xu.sp (.slice aa xu.sp.lv.length ak) (.slice ac xu.sp.pa.length aj)), .gn (gUl (.slice (some ⟨xab, xao, none⟩) X.length xk) X)] w3) := Lib.hid (E6.out.below hb)
        clear E6 hb
        (try dsimp only)
        clear hHeld
        refine hKK.out _ _ (⟨((E7.out.bx 0 rfl).range (o := 2) (usc_sp xS.out _ _)), ((E7.out.bx 0 rfl).cell 82 (usc_lf xS.out _ _)), ((E7.out.bx 0 rfl).cell 79 (usc_tail xS.out _ _).1)⟩) (fun hHeld => ?_)
        clear hKK KK
        try simp only [Act.put, List.setIfInBounds_toArray, List.set_cons_zero, List.set_cons_succ]
        refine uTake (i := 3) (some 24) (v := ?_) rfl rfl (by kernel_rfl) (by kernel_rfl) (by kernel_rfl) (by kernel_rfl) (fun _ _ _ h => h) (by rfl) (by assumption) ?_ ?_
        rotate_left
        · (intro wS hSw; (try dsimp only at hSw); go_simp; try with_reducible rfl)
        try simp only [Act.put, List.setIfInBounds_toArray, List.set_cons_zero, List.set_cons_succ]
        refine uTake (i := 4) (some 25) (v := ?_) rfl rfl (by kernel_rfl) (by kernel_rfl) (by kernel_rfl) (by kernel_rfl) (fun _ _ _ h => h) (by rfl) (by assumption) ?_ ?_
        rotate_left
        · (intro wS hSw; (try dsimp only at hSw); go_simp; try with_reducible rfl)
        try simp only [Act.put, List.setIfInBounds_toArray, List.set_cons_zero, List.set_cons_succ]
        refine uTake (i := 5) (some 26) (v := ?_) rfl rfl (by kernel_rfl) (by kernel_rfl) (by kernel_rfl) (by kernel_rfl) (fun _ _ _ h => h) (by rfl) (by assumption) ?_ ?_
        rotate_left
        · (intro wS hSw; (try dsimp only at hSw); go_simp; try with_reducible rfl)
        try simp only [Act.put, List.setIfInBounds_toArray, List.set_cons_zero, List.set_cons_succ]
        refine uTake (i := 6) (some 27) (v := ?_) rfl rfl (by kernel_rfl) (by kernel_rfl) (by kernel_rfl) (by kernel_rfl) (fun _ _ _ h => h) (by rfl) (by assumption) ?_ ?_
        rotate_left
        · (intro wS hSw; (try dsimp only at hSw); go_simp; try with_reducible rfl)
        try simp only [Act.put, List.setIfInBounds_toArray, List.set_cons_zero, List.set_cons_succ]
        refine uTake (i := 7) (some 28) (v := ?_) rfl rfl (by kernel_rfl) (by kernel_rfl) (by kernel_rfl) (by kernel_rfl) (fun _ _ _ h => h) (by rfl) (by assumption) ?_ ?_
        rotate_left
        · (intro wS hSw; (try dsimp only at hSw); go_simp; try with_reducible rfl)
        try simp only [Act.put, List.setIfInBounds_toArray, List.set_cons_zero, List.set_cons_succ]
        refine uTake (i := 8) (some 29) (v := ?_) rfl rfl (by kernel_rfl) (by kernel_rfl) (by kernel_rfl) (by kernel_rfl) (fun _ _ _ h => h) (by rfl) (by assumption) ?_ ?_
        rotate_left
        · (intro wS hSw; (try dsimp only at hSw); go_simp; try with_reducible rfl)
        try simp only [Act.put, List.setIfInBounds_toArray, List.set_cons_zero, List.set_cons_succ]
        refine uTake (i := 9) (some 30) (v := ?_) rfl rfl (by kernel_rfl) (by kernel_rfl) (by kernel_rfl) (by kernel_rfl) (fun _ _ _ h => h) (by rfl) (by assumption) ?_ ?_
        rotate_left
        · (intro wS hSw; (try dsimp only at hSw); go_simp; try with_reducible rfl)
        try simp only [Act.put, List.setIfInBounds_toArray, List.set_cons_zero, List.set_cons_succ]
        refine uTake (i := 10) (some 31) (v := ?_) rfl rfl (by kernel_rfl) (by kernel_rfl) (by kernel_rfl) (by kernel_rfl) (fun _ _ _ h => h) (by rfl) (by assumption) ?_ ?_
        rotate_left
        · (intro wS hSw; (try dsimp only at hSw); go_simp; try with_reducible rfl)
        try simp only [Act.put, List.setIfInBounds_toArray, List.set_cons_zero, List.set_cons_succ]
        refine uTake (i := 11) (some 32) (v := ?_) rfl rfl (by kernel_rfl) (by kernel_rfl) (by kernel_rfl) (by kernel_rfl) (fun _ _ _ h => h) (by rfl) (by assumption) ?_ ?_
        rotate_left
        · (intro wS hSw; (try dsimp only at hSw); go_simp; try with_reducible rfl)
        try simp only [Act.put, List.setIfInBounds_toArray, List.set_cons_zero, List.set_cons_succ]
        refine uTake (i := 12) (some 33) (v := ?_) rfl rfl (by kernel_rfl) (by kernel_rfl) (by kernel_rfl) (by kernel_rfl) (fun _ _ _ h => h) (by rfl) (by assumption) ?_ ?_
        rotate_left
        · (intro wS hSw; (try dsimp only at hSw); go_simp; try with_reducible rfl)
        try simp only [Act.put, List.setIfInBounds_toArray, List.set_cons_zero, List.set_cons_succ]
        refine uTake (i := 13) (some 34) (v := ?_) rfl rfl (by kernel_rfl) (by kernel_rfl) (by kernel_rfl) (by kernel_rfl) (fun _ _ _ h => h) (by rfl) (by assumption) ?_ ?_
        rotate_left
        · (intro wS hSw; (try dsimp only at hSw); go_simp; try with_reducible rfl)
        try simp only [Act.put, List.setIfInBounds_toArray, List.set_cons_zero, List.set_cons_succ]
        refine uTake (i := 14) (some 35) (v := ?_) rfl rfl (by kernel_rfl) (by kernel_rfl) (by kernel_rfl) (by kernel_rfl) (fun _ _ _ h => h) (by rfl) (by assumption) ?_ ?_
        rotate_left
        · (intro wS hSw; (try dsimp only at hSw); go_simp; try with_reducible rfl)
        try simp only [Act.put, List.setIfInBounds_toArray, List.set_cons_zero, List.set_cons_succ]
        refine uTake (i := 15) (some 36) (v := ?_) rfl rfl (by kernel_rfl) (by kernel_rfl) (by kernel_rfl) (by kernel_rfl) (fun _ _ _ h => h) (by rfl) (by assumption) ?_ ?_
        rotate_left
        · (intro wS hSw; (try dsimp only at hSw); go_simp; try with_reducible rfl)
        try simp only [Act.put, List.setIfInBounds_toArray, List.set_cons_zero, List.set_cons_succ]
        refine uTake (i := 16) (some 37) (v := ?_) rfl rfl (by kernel_rfl) (by kernel_rfl) (by kernel_rfl) (by kernel_rfl) (fun _ _ _ h => h) (by rfl) (by assumption) ?_ ?_
        rotate_left
        · (intro wS hSw; (try dsimp only at hSw); go_simp; try with_reducible rfl)
        try simp only [Act.put, List.setIfInBounds_toArray, List.set_cons_zero, List.set_cons_succ]
        refine uTake (i := 17) (some 38) (v := ?_) rfl rfl (by kernel_rfl) (by kernel_rfl) (by kernel_rfl) (by kernel_rfl) (fun _ _ _ h => h) (by rfl) (by assumption) ?_ ?_
        rotate_left
        · (intro wS hSw; (try dsimp only at hSw); go_simp; try with_reducible rfl)
        try simp only [Act.put, List.setIfInBounds_toArray, List.set_cons_zero, List.set_cons_succ]
        refine uTake (i := 18) (some 39) (v := ?_) rfl rfl (by kernel_rfl) (by kernel_rfl) (by kernel_rfl) (by kernel_rfl) (fun _ _ _ h => h) (by rfl) (by assumption) ?_ ?_
        rotate_left
        · (intro wS hSw; (try dsimp only at hSw); go_simp; try with_reducible rfl)
        try simp only [Act.put, List.setIfInBounds_toArray, List.set_cons_zero, List.set_cons_succ]
        refine uPass (i := 19) (some 40) rfl rfl (by kernel_rfl) (by kernel_rfl) (by kernel_rfl) (by kernel_rfl) (fun _ _ _ h => h) (by rfl) (by assumption) ?_
        try simp only [Act.put, List.setIfInBounds_toArray, List.set_cons_zero, List.set_cons_succ]
        refine uPass (i := 20) (some 41) rfl rfl (by kernel_rfl) (by kernel_rfl) (by kernel_rfl) (by kernel_rfl) (fun _ _ _ h => h) (by rfl) (by assumption) ?_
        try simp only [Act.put, List.setIfInBounds_toArray, List.set_cons_zero, List.set_cons_succ]
        refine uPass (i := 21) (some 42) rfl rfl (by kernel_rfl) (by kernel_rfl) (by kernel_rfl) (by kernel_rfl) (fun _ _ _ h => h) (by rfl) (by assumption) ?_
        try simp only [Act.put, List.setIfInBounds_toArray, List.set_cons_zero, List.set_cons_succ]
        refine uPass (i := 22) (some 43) rfl rfl (by kernel_rfl) (by kernel_rfl) (by kernel_rfl) (by kernel_rfl) (fun _ _ _ h => h) (by rfl) (by assumption) ?_
        try simp only [Act.put, List.setIfInBounds_toArray, List.set_cons_zero, List.set_cons_succ]
        refine uPass (i := 23) (some 44) rfl rfl (by kernel_rfl) (by kernel_rfl) (by kernel_rfl) (by kernel_rfl) (fun _ _ _ h => h) (by rfl) (by assumption) ?_
        try simp only [Act.put, List.setIfInBounds_toArray, List.set_cons_zero, List.set_cons_succ]
        refine uPass (i := 24) (some 45) rfl rfl (by kernel_rfl) (by kernel_rfl) (by kernel_rfl) (by kernel_rfl) (fun _ _ _ h => h) (by rfl) (by assumption) ?_
        try simp only [Act.put, List.setIfInBounds_toArray, List.set_cons_zero, List.set_cons_succ]
        refine uPass (i := 25) (some 46) rfl rfl (by kernel_rfl) (by kernel_rfl) (by kernel_rfl) (by kernel_rfl) (fun _ _ _ h => h) (by rfl) (by assumption) ?_
        try simp only [Act.put, List.setIfInBounds_toArray, List.set_cons_zero, List.set_cons_succ]
        refine uTake (i := 26) (some 47) (v := ?_) rfl rfl (by kernel_rfl) (by kernel_rfl) (by kernel_rfl) (by kernel_rfl) (fun _ _ _ h => h) (by rfl) (by assumption) ?_ ?_
        rotate_left
        · (intro wS hSw; (try dsimp only at hSw); go_simp; try with_reducible rfl)
        try simp only [Act.put, List.setIfInBounds_toArray, List.set_cons_zero, List.set_cons_succ]
        refine uTake (i := 27) (some 48) (v := ?_) rfl rfl (by kernel_rfl) (by kernel_rfl) (by kernel_rfl) (by kernel_rfl) (fun _ _ _ h => h) (by rfl) (by assumption) ?_ ?_
        rotate_left
        · (intro wS hSw; (try dsimp only at hSw); go_simp; try with_reducible rfl)
        try simp only [Act.put, List.setIfInBounds_toArray, List.set_cons_zero, List.set_cons_succ]
        refine uPass (i := 28) (some 49) rfl rfl (by kernel_rfl) (by kernel_rfl) (by kernel_rfl) (by kernel_rfl) (fun _ _ _ h => h) (by rfl) (by assumption) ?_
        try simp only [Act.put, List.setIfInBounds_toArray, List.set_cons_zero, List.set_cons_succ]
        refine uPass (i := 29) (some 50) rfl rfl (by kernel_rfl) (by kernel_rfl) (by kernel_rfl) (by kernel_rfl) (fun _ _ _ h => h) (by rfl) (by assumption) ?_
        try simp only [Act.put, List.setIfInBounds_toArray, List.set_cons_zero, List.set_cons_succ]
        refine uPass (i := 30) (some 51) rfl rfl (by kernel_rfl) (by kernel_rfl) (by kernel_rfl) (by kernel_rfl) (fun _ _ _ h => h) (by rfl) (by assumption) ?_
        try simp only [Act.put, List.setIfInBounds_toArray, List.set_cons_zero, List.set_cons_succ]
        refine uPass (i := 31) (some 52) rfl rfl (by kernel_rfl) (by kernel_rfl) (by kernel_rfl) (by kernel_rfl) (fun _ _ _ h => h) (by rfl) (by assumption) ?_
        try simp only [Act.put, List.setIfInBounds_toArray, List.set_cons_zero, List.set_cons_succ]
        refine uPass (i := 32) (some 53) rfl rfl (by kernel_rfl) (by kernel_rfl) (by kernel_rfl) (by kernel_rfl) (fun _ _ _ h => h) (by rfl) (by assumption) ?_
        try simp only [Act.put, List.setIfInBounds_toArray, List.set_cons_zero, List.set_cons_succ]
        refine uPass (i := 33) (some 54) rfl rfl (by kernel_rfl) (by kernel_rfl) (by kernel_rfl) (by kernel_rfl) (fun _ _ _ h => h) (by rfl) (by assumption) ?_
        try simp only [Act.put, List.setIfInBounds_toArray, List.set_cons_zero, List.set_cons_succ]
        refine uPass (i := 34) (some 55) rfl rfl (by kernel_rfl) (by kernel_rfl) (by kernel_rfl) (by kernel_rfl) (fun _ _ _ h => h) (by rfl) (by assumption) ?_
        try simp only [Act.put, List.setIfInBounds_toArray, List.set_cons_zero, List.set_cons_succ]
        refine uPass (i := 35) (some 56) rfl rfl (by kernel_rfl) (by kernel_rfl) (by kernel_rfl) (by kernel_rfl) (fun _ _ _ h => h) (by rfl) (by assumption) ?_
        try simp only [Act.put, List.setIfInBounds_toArray, List.set_cons_zero, List.set_cons_succ]
        refine uPass (i := 36) (some 57) rfl rfl (by kernel_rfl) (by kernel_rfl) (by kernel_rfl) (by kernel_rfl) (fun _ _ _ h => h) (by rfl) (by assumption) ?_
        try simp only [Act.put, List.setIfInBounds_toArray, List.set_cons_zero, List.set_cons_succ]
        refine uPass (i := 37) (some 58) rfl rfl (by kernel_rfl) (by kernel_rfl) (by kernel_rfl) (by kernel_rfl) (fun _ _ _ h => h) (by rfl) (by assumption) ?_
        try simp only [Act.put, List.setIfInBounds_toArray, List.set_cons_zero, List.set_cons_succ]
        refine uPass (i := 38) (some 59) rfl rfl (by kernel_rfl) (by kernel_rfl) (by kernel_rfl) (by kernel_rfl) (fun _ _ _ h => h) (by rfl) (by assumption) ?_
        try simp only [Act.put, List.setIfInBounds_toArray, List.set_cons_zero, List.set_cons_succ]
        refine uTake (i := 39) (some 60) (v := ?_) rfl rfl (by kernel_rfl) (by kernel_rfl) (by kernel_rfl) (by kernel_rfl) (fun _ _ _ h => h) (by rfl) (by assumption) ?_ ?_
        rotate_left
        · (intro wS hSw; (try dsimp only at hSw); go_simp; try with_reducible rfl)
        try simp only [Act.put, List.setIfInBounds_toArray, List.set_cons_zero, List.set_cons_succ]
        refine uDone (by kernel_rfl) ?_ _
        have hfin := Lib.hid E7.out.bel
        go_wp2_with (first | (with_reducible refine wpl_alloc_b ?_ ?_ _ zvUse ?_; (· rfl); (· rfl)))
        go_ret
        exact ⟨RetEqB HT.out.symm, hfin.out⟩
      have d3 : decide ((xu.sp.lv.length : Int) ≤ xu.lf) = false := decide_eq_false q3
      have hl1 : 0 ≤ xu.lf := by omega
      have hl2 : xu.lf < (xu.sp.lv.length : Int) := by omega
      have hln : xu.lf.toNat < xu.sp.lv.length := by omega
      clear q2 q3
      by_cases q4 : xu.ua = cInt xu.sp.cn 4
      rotate_left
      · have d4 : (xu.ua != cInt xu.sp.cn 4) = true := by simpa using q4
        have HT : Hid (t = false) := Lib.hid (by cases t; (· rfl); exfalso; have h := (ht.out.1 rfl).2.1 _ (List.mem_of_getElem? HU.out); exact q4 h.2.2.2.1)
        go_wp2_with (first | (with_reducible refine wpl_alloc_b ?_ ?_ _ zvUse ?_; (· rfl); (· rfl)))
        have E6 : Hid (Env D w [(wr.heap.size, 44, usc xu (.slice aa xu.sp.lv.length ak) (.slice ac xu.sp.pa.length aj)), (w.heap.size, 25, [.slice (some ⟨xab, xao, none⟩) X.length xk])] [.rw (.slice aa xu.sp.lv.length ak) xu.sp.lv.length 3 (lcl xu.sp.lv), .rw (.slice ac xu.sp.pa.length aj) xu.sp.pa.length 32 xu.sp.pa.flatten, .gn (gRg xab (xao + n * 83) (usc xu (.slice aa xu.sp.lv.length ak) (.slice ac xu.sp.pa.length aj))), .gn (gSp xu.sp (.slice aa xu.sp.lv.length ak) (.slice ac xu.sp.pa.length aj)), .gn (gUl (.slice (some ⟨xab, xao, none⟩) X.length xk) X)] (w1.drew)) := Lib.hid E5.out.drew
        clear E5
        refine wp_regionU (S := fun w' => w'.rangeAt wr.heap.size 2 (spc xu.sp (.slice aa xu.sp.lv.length ak) (.slice ac xu.sp.pa.length aj)) ∧ w'.cell? ⟨wr.heap.size, 82, none⟩ = some (.int .i64 xu.lf) ∧ w'.cell? ⟨wr.heap.size, 79, none⟩ = some (.slice aa xu.sp.lv.length ak) ∧ w'.cell? ⟨wr.heap.size, 0, none⟩ = some (.int .i64 xu.ua) ∧ w'.cell? ⟨wr.heap.size, 6, none⟩ = some (.int .i64 (cInt xu.sp.cn 4))) [] (by kernel_rfl) (⟨((E6.out.bx 0 rfl).range (o := 2) (usc_sp xS.out _ _)), ((E6.out.bx 0 rfl).cell 82 (usc_lf xS.out _ _)), ((E6.out.bx 0 rfl).cell 79 (usc_tail xS.out _ _).1), ((E6.out.bx 0 rfl).cell 0 rfl), ((E6.out.bx 0 rfl).cell 6 (usc_sp' xS.out _ _ (j := 4) rfl (by omega) (spc_ca xS.out _ _ (by omega))))⟩) (fun hHeld => ?_)
        generalize w1.drew = w2 at *
        refine uTake (i := 0) (some 21) (v := ?_) rfl rfl (by kernel_rfl) (by kernel_rfl) (by kernel_rfl) (by kernel_rfl) (fun _ _ _ h => h) (by rfl) (by assumption) ?_ ?_
        rotate_left
        · (intro wS hSw; (try dsimp only at hSw); go_simp; try with_reducible rfl)
        try simp only [Act.put, List.setIfInBounds_toArray, List.set_cons_zero, List.set_cons_succ]
        refine uTake (i := 1) (some 22) (v := .agg (spc xu.sp (.slice aa xu.sp.lv.length ak) (.slice ac xu.sp.pa.length aj)).toArray) rfl rfl (by kernel_rfl) (by kernel_rfl) (by kernel_rfl) (by kernel_rfl) (fun _ _ _ h => h) (by rfl) (by assumption) ?_ ?_
        · (intro wS hSw; (try dsimp only at hSw); revert hSw; (try simp only [and_imp]); intros; exact exec_load_b bSpend _ rfl wr.heap.size 2 rfl (spc xu.sp (.slice aa xu.sp.lv.length ak) (.slice ac xu.sp.pa.length aj)) (spc_len xS.out _ _) (by assumption))
        try simp only [Act.put, List.setIfInBounds_toArray, List.set_cons_zero, List.set_cons_succ]
        refine uReady (rs := [2]) (by kernel_rfl) (by simp) ?_
        refine ReadyU.cons rfl (fun KK hKK => ?_) ReadyU.nil
        go_simp
        refine (rstorable_c xu.sp (E6.out.fc 3 rfl) HBX.out (t := true) (by first | exact c1H.out | simpa using c1H.out)).mono ?_
        rintro e w3 ⟨rfl, hb⟩
        have E7 : Hid (Env D w [(wr.heap.size, 44, usc xu (.slice aa xu.sp.lv.length ak) (.slice ac xu.sp.pa.length aj)), (w.heap.size, 25, [.slice (some ⟨xab, xao, none⟩) X.length xk])] [.rw (.slice aa xu.sp.lv.length ak) xu.sp.lv.length 3 (lcl xu.sp.lv), .rw (.slice ac xu.sp.pa.length aj) xu.sp.pa.length 32 xu.sp.pa.flatten, .gn (gRg xab (xao + n * 83) (usc xu (.slice aa xu.sp.lv.length ak) (.slice ac xu.sp.pa.length aj))), .gn (gSp xu.sp (.slice aa xu.sp.lv.length ak) (.slice ac xu.sp.pa.length aj)), .gn (gUl (.slice (some ⟨xab, xao, none⟩) X.length xk) X)] w3) := Lib.hid (E6.out.below hb)
        clear E6 hb
        (try dsimp only)
        clear hHeld
        refine hKK.out _ _ (⟨((E7.out.bx 0 rfl).range (o := 2) (usc_sp xS.out _ _)), ((E7.out.bx 0 rfl).cell 82 (usc_lf xS.out _ _)), ((E7.out.bx 0 rfl).cell 79 (usc_tail xS.out _ _).1), ((E7.out.bx 0 rfl).cell 0 rfl), ((E7.out.bx 0 rfl).cell 6 (usc_sp' xS.out _ _ (j := 4) rfl (by omega) (spc_ca xS.out _ _ (by omega))))⟩) (fun hHeld => ?_)
        clear hKK KK
        try simp only [Act.put, List.setIfInBounds_toArray, List.set_cons_zero, List.set_cons_succ]
        refine uTake (i := 3) (some 24) (v := ?_) rfl rfl (by kernel_rfl) (by kernel_rfl) (by kernel_rfl) (by kernel_rfl) (fun _ _ _ h => h) (by rfl) (by assumption) ?_ ?_
        rotate_left
        · (intro wS hSw; (try dsimp only at hSw); go_simp; try with_reducible rfl)
        try simp only [Act.put, List.setIfInBounds_toArray, List.set_cons_zero, List.set_cons_succ]
        refine uTake (i := 4) (some 25) (v := ?_) rfl rfl (by kernel_rfl) (by kernel_rfl) (by kernel_rfl) (by kernel_rfl) (fun _ _ _ h => h) (by rfl) (by assumption) ?_ ?_
        rotate_left
        · (intro wS hSw; (try dsimp only at hSw); go_simp; try with_reducible rfl)
        try simp only [Act.put, List.setIfInBounds_toArray, List.set_cons_zero, List.set_cons_succ]
        refine uTake (i := 5) (some 26) (v := ?_) rfl rfl (by kernel_rfl) (by kernel_rfl) (by kernel_rfl) (by kernel_rfl) (fun _ _ _ h => h) (by rfl) (by assumption) ?_ ?_
        rotate_left
        · (intro wS hSw; (try dsimp only at hSw); go_simp; try with_reducible rfl)
        try simp only [Act.put, List.setIfInBounds_toArray, List.set_cons_zero, List.set_cons_succ]
        refine uTake (i := 6) (some 27) (v := ?_) rfl rfl (by kernel_rfl) (by kernel_rfl) (by kernel_rfl) (by kernel_rfl) (fun _ _ _ h => h) (by rfl) (by assumption) ?_ ?_
        rotate_left
        · (intro wS hSw; (try dsimp only at hSw); go_simp; try with_reducible rfl)
        try simp only [Act.put, List.setIfInBounds_toArray, List.set_cons_zero, List.set_cons_succ]
        refine uTake (i := 7) (some 28) (v := ?_) rfl rfl (by kernel_rfl) (by kernel_rfl) (by kernel_rfl) (by kernel_rfl) (fun _ _ _ h => h) (by rfl) (by assumption) ?_ ?_
        rotate_left
        · (intro wS hSw; (try dsimp only at hSw); go_simp; try with_reducible rfl)
        try simp only [Act.put, List.setIfInBounds_toArray, List.set_cons_zero, List.set_cons_succ]
        refine uTake (i := 8) (some 29) (v := ?_) rfl rfl (by kernel_rfl) (by kernel_rfl) (by kernel_rfl) (by kernel_rfl) (fun _ _ _ h => h) (by rfl) (by assumption) ?_ ?_
        rotate_left
        · (intro wS hSw; (try dsimp only at hSw); go_simp; try with_reducible rfl)
        try simp only [Act.put, List.setIfInBounds_toArray, List.set_cons_zero, List.set_cons_succ]
        refine uTake (i := 9) (some 30) (v := ?_) rfl rfl (by kernel_rfl) (by kernel_rfl) (by kernel_rfl) (by kernel_rfl) (fun _ _ _ h => h) (by rfl) (by assumption) ?_ ?_
        rotate_left
        · (intro wS hSw; (try dsimp only at hSw); go_simp; try with_reducible rfl)
        try simp only [Act.put, List.setIfInBounds_toArray, List.set_cons_zero, List.set_cons_succ]
        refine uTake (i := 10) (some 31) (v := ?_) rfl rfl (by kernel_rfl) (by kernel_rfl) (by kernel_rfl) (by kernel_rfl) (fun _ _ _ h => h) (by rfl) (by assumption) ?_ ?_
        rotate_left
        · (intro wS hSw; (try dsimp only at hSw); go_simp; try with_reducible rfl)
        try simp only [Act.put, List.setIfInBounds_toArray, List.set_cons_zero, List.set_cons_succ]
        refine uTake (i := 11) (some 32) (v := ?_) rfl rfl (by kernel_rfl) (by kernel_rfl) (by kernel_rfl) (by kernel_rfl) (fun _ _ _ h => h) (by rfl) (by assumption) ?_ ?_
        rotate_left
        · (intro wS hSw; (try dsimp only at hSw); go_simp; try with_reducible rfl)
        try simp only [Act.put, List.setIfInBounds_toArray, List.set_cons_zero, List.set_cons_succ]
        refine uTake (i := 12) (some 33) (v := ?_) rfl rfl (by kernel_rfl) (by kernel_rfl) (by kernel_rfl) (by kernel_rfl) (fun _ _ _ h => h) (by rfl) (by assumption) ?_ ?_
        rotate_left
        · (intro wS hSw; (try dsimp only at hSw); go_simp; try with_reducible rfl)
        try simp only [Act.put, List.setIfInBounds_toArray, List.set_cons_zero, List.set_cons_succ]
        refine uTake (i := 13) (some 34) (v := ?_) rfl rfl (by kernel_rfl) (by kernel_rfl) (by kernel_rfl) (by kernel_rfl) (fun _ _ _ h => h) (by rfl) (by assumption) ?_ ?_
        rotate_left
        · (intro wS hSw; (try dsimp only at hSw); go_simp; try with_reducible rfl)
        try simp only [Act.put, List.setIfInBounds_toArray, List.set_cons_zero, List.set_cons_succ]
        refine uTake (i := 14) (some 35) (v := ?_) rfl rfl (by kernel_rfl) (by kernel_rfl) (by kernel_rfl) (by kernel_rfl) (fun _ _ _ h => h) (by rfl) (by assumption) ?_ ?_
        rotate_left
        · (intro wS hSw; (try dsimp only at hSw); go_simp; try with_reducible rfl)
        try simp only [Act.put, List.setIfInBounds_toArray, List.set_cons_zero, List.set_cons_succ]
        refine uTake (i := 15) (some 36) (v := ?_) rfl rfl (by kernel_rfl) (by kernel_rfl) (by kernel_rfl) (by kernel_rfl) (fun _ _ _ h => h) (by rfl) (by assumption) ?_ ?_
        rotate_left
        · (intro wS hSw; (try dsimp only at hSw); go_simp; try with_reducible rfl)
        try simp only [Act.put, List.setIfInBounds_toArray, List.set_cons_zero, List.set_cons_succ]
        refine uTake (i := 16) (some 37) (v := ?_) rfl rfl (by kernel_rfl) (by kernel_rfl) (by kernel_rfl) (by kernel_rfl) (fun _ _ _ h => h) (by rfl) (by assumption) ?_ ?_
        rotate_left
        · (intro wS hSw; (try dsimp only at hSw); go_simp; try with_reducible rfl)
        try simp only [Act.put, List.setIfInBounds_toArray, List.set_cons_zero, List.set_cons_succ]
        refine uTake (i := 17) (some 38) (v := ?_) rfl rfl (by kernel_rfl) (by kernel_rfl) (by kernel_rfl) (by kernel_rfl) (fun _ _ _ h => h) (by rfl) (by assumption) ?_ ?_
        rotate_left
        · (intro wS hSw; (try dsimp only at hSw); go_simp; try with_reducible rfl)
        try simp only [Act.put, List.setIfInBounds_toArray, List.set_cons_zero, List.set_cons_succ]
        refine uTake (i := 18) (some 39) (v := ?_) rfl rfl (by kernel_rfl) (by kernel_rfl) (by kernel_rfl) (by kernel_rfl) (fun _ _ _ h => h) (by rfl) (by assumption) ?_ ?_
        rotate_left
        · (intro wS hSw; (try dsimp only at hSw); go_simp; try with_reducible rfl)
        try simp only [Act.put, List.setIfInBounds_toArray, List.set_cons_zero, List.set_cons_succ]
        refine uTake (i := 19) (some 40) (v := ?_) rfl rfl (by kernel_rfl) (by kernel_rfl) (by kernel_rfl) (by kernel_rfl) (fun _ _ _ h => h) (by rfl) (by assumption) ?_ ?_
        rotate_left
        · (intro wS hSw; (try dsimp only at hSw); go_simp; try with_reducible rfl)
        try simp only [Act.put, List.setIfInBounds_toArray, List.set_cons_zero, List.set_cons_succ]
        refine uTake (i := 20) (some 41) (v := ?_) rfl rfl (by kernel_rfl) (by kernel_rfl) (by kernel_rfl) (by kernel_rfl) (fun _ _ _ h => h) (by rfl) (by assumption) ?_ ?_
        rotate_left
        · (intro wS hSw; (try dsimp only at hSw); go_simp; try with_reducible rfl)
        try simp only [Act.put, List.setIfInBounds_toArray, List.set_cons_zero, List.set_cons_succ]
        refine uTake (i := 21) (some 42) (v := ?_) rfl rfl (by kernel_rfl) (by kernel_rfl) (by kernel_rfl) (by kernel_rfl) (fun _ _ _ h => h) (by rfl) (by assumption) ?_ ?_
        rotate_left
        · (intro wS hSw; (try dsimp only at hSw); go_simp; try with_reducible rfl)
        try simp only [Act.put, List.setIfInBounds_toArray, List.set_cons_zero, List.set_cons_succ]
        refine uTake (i := 22) (some 43) (v := ?_) rfl rfl (by kernel_rfl) (by kernel_rfl) (by kernel_rfl) (by kernel_rfl) (fun _ _ _ h => h) (by rfl) (by assumption) ?_ ?_
        rotate_left
        · (intro wS hSw; (try dsimp only at hSw); go_simp; try with_reducible rfl)
        try simp only [Act.put, List.setIfInBounds_toArray, List.set_cons_zero, List.set_cons_succ]
        refine uTake (i := 23) (some 44) (v := ?_) rfl rfl (by kernel_rfl) (by kernel_rfl) (by kernel_rfl) (by kernel_rfl) (fun _ _ _ h => h) (by rfl) (by assumption) ?_ ?_
        rotate_left
        · (intro wS hSw; (try dsimp only at hSw); go_simp; try with_reducible rfl)
        try simp only [Act.put, List.setIfInBounds_toArray, List.set_cons_zero, List.set_cons_succ]
        refine uTake (i := 24) (some 45) (v := ?_) rfl rfl (by kernel_rfl) (by kernel_rfl) (by kernel_rfl) (by kernel_rfl) (fun _ _ _ h => h) (by rfl) (by assumption) ?_ ?_
        rotate_left
        · (intro wS hSw; (try dsimp only at hSw); go_simp; try with_reducible rfl)
        try simp only [Act.put, List.setIfInBounds_toArray, List.set_cons_zero, List.set_cons_succ]
        refine uTake (i := 25) (some 46) (v := ?_) rfl rfl (by kernel_rfl) (by kernel_rfl) (by kernel_rfl) (by kernel_rfl) (fun _ _ _ h => h) (by rfl) (by assumption) ?_ ?_
        rotate_left
        · (intro wS hSw; (try dsimp only at hSw); go_simp; try with_reducible rfl)
        try simp only [Act.put, List.setIfInBounds_toArray, List.set_cons_zero, List.set_cons_succ]
        refine uTake (i := 26) (some 47) (v := ?_) rfl rfl (by kernel_rfl) (by kernel_rfl) (by kernel_rfl) (by kernel_rfl) (fun _ _ _ h => h) (by rfl) (by assumption) ?_ ?_
        rotate_left
        · (intro wS hSw; (try dsimp only at hSw); go_simp; try with_reducible rfl)
        try simp only [Act.put, List.setIfInBounds_toArray, List.set_cons_zero, List.set_cons_succ]
        refine uTake (i := 27) (some 48) (v := ?_) rfl rfl (by kernel_rfl) (by kernel_rfl) (by kernel_rfl) (by kernel_rfl) (fun _ _ _ h => h) (by rfl) (by assumption) ?_ ?_
        rotate_left
        · (intro wS hSw; (try dsimp only at hSw); go_simp; try with_reducible rfl)
        try simp only [Act.put, List.setIfInBounds_toArray, List.set_cons_zero, List.set_cons_succ]
        refine uPass (i := 28) (some 49) rfl rfl (by kernel_rfl) (by kernel_rfl) (by kernel_rfl) (by kernel_rfl) (fun _ _ _ h => h) (by rfl) (by assumption) ?_
        try simp only [Act.put, List.setIfInBounds_toArray, List.set_cons_zero, List.set_cons_succ]
        refine uPass (i := 29) (some 50) rfl rfl (by kernel_rfl) (by kernel_rfl) (by kernel_rfl) (by kernel_rfl) (fun _ _ _ h => h) (by rfl) (by assumption) ?_
        try simp only [Act.put, List.setIfInBounds_toArray, List.set_cons_zero, List.set_cons_succ]
        refine uPass (i := 30) (some 51) rfl rfl (by kernel_rfl) (by kernel_rfl) (by kernel_rfl) (by kernel_rfl) (fun _ _ _ h => h) (by rfl) (by assumption) ?_
        try simp only [Act.put, List.setIfInBounds_toArray, List.set_cons_zero, List.set_cons_succ]
        refine uPass (i := 31) (some 52) rfl rfl (by kernel_rfl) (by kernel_rfl) (by kernel_rfl) (by kernel_rfl) (fun _ _ _ h => h) (by rfl) (by assumption) ?_
        try simp only [Act.put, List.setIfInBounds_toArray, List.set_cons_zero, List.set_cons_succ]
        refine uPass (i := 32) (some 53) rfl rfl (by kernel_rfl) (by kernel_rfl) (by kernel_rfl) (by kernel_rfl) (fun _ _ _ h => h) (by rfl) (by assumption) ?_
        try simp only [Act.put, List.setIfInBounds_toArray, List.set_cons_zero, List.set_cons_succ]
        refine uPass (i := 33) (some 54) rfl rfl (by kernel_rfl) (by kernel_rfl) (by kernel_rfl) (by kernel_rfl) (fun _ _ _ h => h) (by rfl) (by assumption) ?_
        try simp only [Act.put, List.setIfInBounds_toArray, List.set_cons_zero, List.set_cons_succ]
        refine uPass (i := 34) (some 55) rfl rfl (by kernel_rfl) (by kernel_rfl) (by kernel_rfl) (by kernel_rfl) (fun _ _ _ h => h) (by rfl) (by assumption) ?_
        try simp only [Act.put, List.setIfInBounds_toArray, List.set_cons_zero, List.set_cons_succ]
        refine uPass (i := 35) (some 56) rfl rfl (by kernel_rfl) (by kernel_rfl) (by kernel_rfl) (by kernel_rfl) (fun _ _ _ h => h) (by rfl) (by assumption) ?_
        try simp only [Act.put, List.setIfInBounds_toArray, List.set_cons_zero, List.set_cons_succ]
        refine uPass (i := 36) (some 57) rfl rfl (by kernel_rfl) (by kernel_rfl) (by kernel_rfl) (by kernel_rfl) (fun _ _ _ h => h) (by rfl) (by assumption) ?_
        try simp only [Act.put, List.setIfInBounds_toArray, List.set_cons_zero, List.set_cons_succ]
        refine uPass (i := 37) (some 58) rfl rfl (by kernel_rfl) (by kernel_rfl) (by kernel_rfl) (by kernel_rfl) (fun _ _ _ h => h) (by rfl) (by assumption) ?_
        try simp only [Act.put, List.setIfInBounds_toArray, List.set_cons_zero, List.set_cons_succ]
        refine uPass (i := 38) (some 59) rfl rfl (by kernel_rfl) (by kernel_rfl) (by kernel_rfl) (by kernel_rfl) (fun _ _ _ h => h) (by rfl) (by assumption) ?_
        try simp only [Act.put, List.setIfInBounds_toArray, List.set_cons_zero, List.set_cons_succ]
        refine uTake (i := 39) (some 60) (v := ?_) rfl rfl (by kernel_rfl) (by kernel_rfl) (by kernel_rfl) (by kernel_rfl) (fun _ _ _ h => h) (by rfl) (by assumption) ?_ ?_
        rotate_left
        · (intro wS hSw; (try dsimp only at hSw); go_simp; try with_reducible rfl)
        try simp only [Act.put, List.setIfInBounds_toArray, List.set_cons_zero, List.set_cons_succ]
        refine uDone (by kernel_rfl) ?_ _
        have hfin := Lib.hid E7.out.bel
        go_wp2_with (first | (with_reducible refine wpl_alloc_b ?_ ?_ _ zvUse ?_; (· rfl); (· rfl)))
        go_ret
        exact ⟨RetEqB HT.out.symm, hfin.out⟩
      have d4 : (xu.ua != cInt xu.sp.cn 4) = false := by simpa using q4
      have HQ4 := Lib.hid q4
      clear q4
      obtain ⟨aab, aao, rfl⟩ := Rw.addr (E5.out.fc 0 rfl) (by omega)
      obtain ⟨⟨c0, c1, c2⟩, ce⟩ : ∃ c, xu.sp.lv[xu.lf.toNat] = c := ⟨_, rfl⟩
      have cE := Lib.hid ce
      clear ce
      by_cases q5 : xu.ub = c0
      rotate_left
      · have d5 : (xu.ub != c0) = true := by simpa using q5
        have HT : Hid (t = false) := Lib.hid (by cases t; (· rfl); exfalso; have h := (ht.out.1 rfl).2.1 _ (List.mem_of_getElem? HU.out); have h2 := h.2.2.2.2; rw [cE.out] at h2; exact q5 h2)
        go_wp2_with (first | (with_reducible refine wpl_alloc_b ?_ ?_ _ zvUse ?_; (· rfl); (· rfl)))
        have E6 : Hid (Env D w [(wr.heap.size, 44, usc xu (.slice (some ⟨aab, aao, none⟩) xu.sp.lv.length ak) (.slice ac xu.sp.pa.length aj)), (w.heap.size, 25, [.slice (some ⟨xab, xao, none⟩) X.length xk])] [.rw (.slice (some ⟨aab, aao, none⟩) xu.sp.lv.length ak) xu.sp.lv.length 3 (lcl xu.sp.lv), .rw (.slice ac xu.sp.pa.length aj) xu.sp.pa.length 32 xu.sp.pa.flatten, .gn (gRg xab (xao + n * 83) (usc xu (.slice (some ⟨aab, aao, none⟩) xu.sp.lv.length ak) (.slice ac xu.sp.pa.length aj))), .gn (gSp xu.sp (.slice (some ⟨aab, aao, none⟩) xu.sp.lv.length ak) (.slice ac xu.sp.pa.length aj)), .gn (gUl (.slice (some ⟨xab, xao, none⟩) X.length xk) X)] (w1.drew)) := Lib.hid E5.out.drew
        clear E5
        refine wp_regionU (S := fun w' => w'.cell? ⟨aab, aao + (xu.lf.toNat) * 3, none⟩ = some (.int .i64 c0) ∧ w'.rangeAt wr.heap.size 2 (spc xu.sp (.slice (some ⟨aab, aao, none⟩) xu.sp.lv.length ak) (.slice ac xu.sp.pa.length aj)) ∧ w'.cell? ⟨wr.heap.size, 82, none⟩ = some (.int .i64 xu.lf) ∧ w'.cell? ⟨wr.heap.size, 79, none⟩ = some (.slice (some ⟨aab, aao, none⟩) xu.sp.lv.length ak) ∧ w'.cell? ⟨wr.heap.size, 0, none⟩ = some (.int .i64 xu.ua) ∧ w'.cell? ⟨wr.heap.size, 6, none⟩ = some (.int .i64 (cInt xu.sp.cn 4)) ∧ w'.cell? ⟨wr.heap.size, 1, none⟩ = some (.int .i64 xu.ub)) [] (by kernel_rfl) (⟨(by have h := ((E6.out.fc 0 rfl)).triple (k := (xu.lf.toNat)) rfl hln; rw [cE.out] at h; exact h.1), ((E6.out.bx 0 rfl).range (o := 2) (usc_sp xS.out _ _)), ((E6.out.bx 0 rfl).cell 82 (usc_lf xS.out _ _)), ((E6.out.bx 0 rfl).cell 79 (usc_tail xS.out _ _).1), ((E6.out.bx 0 rfl).cell 0 rfl), ((E6.out.bx 0 rfl).cell 6 (usc_sp' xS.out _ _ (j := 4) rfl (by omega) (spc_ca xS.out _ _ (by omega)))), ((E6.out.bx 0 rfl).cell 1 rfl)⟩) (fun hHeld => ?_)
        generalize w1.drew = w2 at *
        refine uTake (i := 0) (some 21) (v := ?_) rfl rfl (by kernel_rfl) (by kernel_rfl) (by kernel_rfl) (by kernel_rfl) (fun _ _ _ h => h) (by rfl) (by assumption) ?_ ?_
        rotate_left
        · (intro wS hSw; (try dsimp only at hSw); go_simp; try with_reducible rfl)
        try simp only [Act.put, List.setIfInBounds_toArray, List.set_cons_zero, List.set_cons_succ]
        refine uTake (i := 1) (some 22) (v := .agg (spc xu.sp (.slice (some ⟨aab, aao, none⟩) xu.sp.lv.length ak) (.slice ac xu.sp.pa.length aj)).toArray) rfl rfl (by kernel_rfl) (by kernel_rfl) (by kernel_rfl) (by kernel_rfl) (fun _ _ _ h => h) (by rfl) (by assumption) ?_ ?_
        · (intro wS hSw; (try dsimp only at hSw); revert hSw; (try simp only [and_imp]); intros; exact exec_load_b bSpend _ rfl wr.heap.size 2 rfl (spc xu.sp (.slice (some ⟨aab, aao, none⟩) xu.sp.lv.length ak) (.slice ac xu.sp.pa.length aj)) (spc_len xS.out _ _) (by assumption))
        try simp only [Act.put, List.setIfInBounds_toArray, List.set_cons_zero, List.set_cons_succ]
        refine uReady (rs := [2]) (by kernel_rfl) (by simp) ?_
        refine ReadyU.cons rfl (fun KK hKK => ?_) ReadyU.nil
        go_simp
        refine (rstorable_c xu.sp (E6.out.fc 3 rfl) HBX.out (t := true) (by first | exact c1H.out | simpa using c1H.out)).mono ?_
        rintro e w3 ⟨rfl, hb⟩
        have E7 : Hid (Env D w [(wr.heap.size, 44, usc xu (.slice (some ⟨aab, aao, none⟩) xu.sp.lv.length ak) (.slice ac xu.sp.pa.length aj)), (w.heap.size, 25, [.slice (some ⟨xab, xao, none⟩) X.length xk])] [.rw (.slice (some ⟨aab, aao, none⟩) xu.sp.lv.length ak) xu.sp.lv.length 3 (lcl xu.sp.lv), .rw (.slice ac xu.sp.pa.length aj) xu.sp.pa.length 32 xu.sp.pa.flatten, .gn (gRg xab (xao + n * 83) (usc xu (.slice (some ⟨aab, aao, none⟩) xu.sp.lv.length ak) (.slice ac xu.sp.pa.length aj))), .gn (gSp xu.sp (.slice (some ⟨aab, aao, none⟩) xu.sp.lv.length ak) (.slice ac xu.sp.pa.length aj)), .gn (gUl (.slice (some ⟨xab, xao, none⟩) X.length xk) X)] w3) := Lib.hid (E6.out.below hb)
        clear E6 hb
        (try dsimp only)
        clear hHeld
        refine hKK.out _ _ (⟨(by have h := ((E7.out.fc 0 rfl)).triple (k := (xu.lf.toNat)) rfl hln; rw [cE.out] at h; exact h.1), ((E7.out.bx 0 rfl).range (o := 2) (usc_sp xS.out _ _)), ((E7.out.bx 0 rfl).cell 82 (usc_lf xS.out _ _)), ((E7.out.bx 0 rfl).cell 79 (usc_tail xS.out _ _).1), ((E7.out.bx 0 rfl).cell 0 rfl), ((E7.out.bx 0 rfl).cell 6 (usc_sp' xS.out _ _ (j := 4) rfl (by omega) (spc_ca xS.out _ _ (by omega)))), ((E7.out.bx 0 rfl).cell 1 rfl)⟩) (fun hHeld => ?_)
        clear hKK KK
        try simp only [Act.put, List.setIfInBounds_toArray, List.set_cons_zero, List.set_cons_succ]
        refine uTake (i := 3) (some 24) (v := ?_) rfl rfl (by kernel_rfl) (by kernel_rfl) (by kernel_rfl) (by kernel_rfl) (fun _ _ _ h => h) (by rfl) (by assumption) ?_ ?_
        rotate_left
        · (intro wS hSw; (try dsimp only at hSw); go_simp; try with_reducible rfl)
        try simp only [Act.put, List.setIfInBounds_toArray, List.set_cons_zero, List.set_cons_succ]
        refine uTake (i := 4) (some 25) (v := ?_) rfl rfl (by kernel_rfl) (by kernel_rfl) (by kernel_rfl) (by kernel_rfl) (fun _ _ _ h => h) (by rfl) (by assumption) ?_ ?_
        rotate_left
        · (intro wS hSw; (try dsimp only at hSw); go_simp; try with_reducible rfl)
        try simp only [Act.put, List.setIfInBounds_toArray, List.set_cons_zero, List.set_cons_succ]
        refine uTake (i := 5) (some 26) (v := ?_) rfl rfl (by kernel_rfl) (by kernel_rfl) (by kernel_rfl) (by kernel_rfl) (fun _ _ _ h => h) (by rfl) (by assumption) ?_ ?_
        rotate_left
        · (intro wS hSw; (try dsimp only at hSw); go_simp; try with_reducible rfl)
        try simp only [Act.put, List.setIfInBounds_toArray, List.set_cons_zero, List.set_cons_succ]
        refine uTake (i := 6) (some 27) (v := ?_) rfl rfl (by kernel_rfl) (by kernel_rfl) (by kernel_rfl) (by kernel_rfl) (fun _ _ _ h => h) (by rfl) (by assumption) ?_ ?_
        rotate_left
        · (intro wS hSw; (try dsimp only at hSw); go_simp; try with_reducible rfl)
        try simp only [Act.put, List.setIfInBounds_toArray, List.set_cons_zero, List.set_cons_succ]
        refine uTake (i := 7) (some 28) (v := ?_) rfl rfl (by kernel_rfl) (by kernel_rfl) (by kernel_rfl) (by kernel_rfl) (fun _ _ _ h => h) (by rfl) (by assumption) ?_ ?_
        rotate_left
        · (intro wS hSw; (try dsimp only at hSw); go_simp; try with_reducible rfl)
        try simp only [Act.put, List.setIfInBounds_toArray, List.set_cons_zero, List.set_cons_succ]
        refine uTake (i := 8) (some 29) (v := ?_) rfl rfl (by kernel_rfl) (by kernel_rfl) (by kernel_rfl) (by kernel_rfl) (fun _ _ _ h => h) (by rfl) (by assumption) ?_ ?_
        rotate_left
        · (intro wS hSw; (try dsimp only at hSw); go_simp; try with_reducible rfl)
        try simp only [Act.put, List.setIfInBounds_toArray, List.set_cons_zero, List.set_cons_succ]
        refine uTake (i := 9) (some 30) (v := ?_) rfl rfl (by kernel_rfl) (by kernel_rfl) (by kernel_rfl) (by kernel_rfl) (fun _ _ _ h => h) (by rfl) (by assumption) ?_ ?_
        rotate_left
        · (intro wS hSw; (try dsimp only at hSw); go_simp; try with_reducible rfl)
        try simp only [Act.put, List.setIfInBounds_toArray, List.set_cons_zero, List.set_cons_succ]
        refine uTake (i := 10) (some 31) (v := ?_) rfl rfl (by kernel_rfl) (by kernel_rfl) (by kernel_rfl) (by kernel_rfl) (fun _ _ _ h => h) (by rfl) (by assumption) ?_ ?_
        rotate_left
        · (intro wS hSw; (try dsimp only at hSw); go_simp; try with_reducible rfl)
        try simp only [Act.put, List.setIfInBounds_toArray, List.set_cons_zero, List.set_cons_succ]
        refine uTake (i := 11) (some 32) (v := ?_) rfl rfl (by kernel_rfl) (by kernel_rfl) (by kernel_rfl) (by kernel_rfl) (fun _ _ _ h => h) (by rfl) (by assumption) ?_ ?_
        rotate_left
        · (intro wS hSw; (try dsimp only at hSw); go_simp; try with_reducible rfl)
        try simp only [Act.put, List.setIfInBounds_toArray, List.set_cons_zero, List.set_cons_succ]
        refine uTake (i := 12) (some 33) (v := ?_) rfl rfl (by kernel_rfl) (by kernel_rfl) (by kernel_rfl) (by kernel_rfl) (fun _ _ _ h => h) (by rfl) (by assumption) ?_ ?_
        rotate_left
        · (intro wS hSw; (try dsimp only at hSw); go_simp; try with_reducible rfl)
        try simp only [Act.put, List.setIfInBounds_toArray, List.set_cons_zero, List.set_cons_succ]
        refine uTake (i := 13) (some 34) (v := ?_) rfl rfl (by kernel_rfl) (by kernel_rfl) (by kernel_rfl) (by kernel_rfl) (fun _ _ _ h => h) (by rfl) (by assumption) ?_ ?_
        rotate_left
        · (intro wS hSw; (try dsimp only at hSw); go_simp; try with_reducible rfl)
        try simp only [Act.put, List.setIfInBounds_toArray, List.set_cons_zero, List.set_cons_succ]
        refine uTake (i := 14) (some 35) (v := ?_) rfl rfl (by kernel_rfl) (by kernel_rfl) (by kernel_rfl) (by kernel_rfl) (fun _ _ _ h => h) (by rfl) (by assumption) ?_ ?_
        rotate_left
        · (intro wS hSw; (try dsimp only at hSw); go_simp; try with_reducible rfl)
        try simp only [Act.put, List.setIfInBounds_toArray, List.set_cons_zero, List.set_cons_succ]
        refine uTake (i := 15) (some 36) (v := ?_) rfl rfl (by kernel_rfl) (by kernel_rfl) (by kernel_rfl) (by kernel_rfl) (fun _ _ _ h => h) (by rfl) (by assumption) ?_ ?_
        rotate_left
        · (intro wS hSw; (try dsimp only at hSw); go_simp; try with_reducible rfl)
        try simp only [Act.put, List.setIfInBounds_toArray, List.set_cons_zero, List.set_cons_succ]
        refine uTake (i := 16) (some 37) (v := ?_) rfl rfl (by kernel_rfl) (by kernel_rfl) (by kernel_rfl) (by kernel_rfl) (fun _ _ _ h => h) (by rfl) (by assumption) ?_ ?_
        rotate_left
        · (intro wS hSw; (try dsimp only at hSw); go_simp; try with_reducible rfl)
        try simp only [Act.put, List.setIfInBounds_toArray, List.set_cons_zero, List.set_cons_succ]
        refine uTake (i := 17) (some 38) (v := ?_) rfl rfl (by kernel_rfl) (by kernel_rfl) (by kernel_rfl) (by kernel_rfl) (fun _ _ _ h => h) (by rfl) (by assumption) ?_ ?_
        rotate_left
        · (intro wS hSw; (try dsimp only at hSw); go_simp; try with_reducible rfl)
        try simp only [Act.put, List.setIfInBounds_toArray, List.set_cons_zero, List.set_cons_succ]
        refine uTake (i := 18) (some 39) (v := ?_) rfl rfl (by kernel_rfl) (by kernel_rfl) (by kernel_rfl) (by kernel_rfl) (fun _ _ _ h => h) (by rfl) (by assumption) ?_ ?_
        rotate_left
        · (intro wS hSw; (try dsimp only at hSw); go_simp; try with_reducible rfl)
        try simp only [Act.put, List.setIfInBounds_toArray, List.set_cons_zero, List.set_cons_succ]
        refine uTake (i := 19) (some 40) (v := ?_) rfl rfl (by kernel_rfl) (by kernel_rfl) (by kernel_rfl) (by kernel_rfl) (fun _ _ _ h => h) (by rfl) (by assumption) ?_ ?_
        rotate_left
        · (intro wS hSw; (try dsimp only at hSw); go_simp; try with_reducible rfl)
        try simp only [Act.put, List.setIfInBounds_toArray, List.set_cons_zero, List.set_cons_succ]
        refine uTake (i := 20) (some 41) (v := ?_) rfl rfl (by kernel_rfl) (by kernel_rfl) (by kernel_rfl) (by kernel_rfl) (fun _ _ _ h => h) (by rfl) (by assumption) ?_ ?_
        rotate_left
        · (intro wS hSw; (try dsimp only at hSw); go_simp; try with_reducible rfl)
        try simp only [Act.put, List.setIfInBounds_toArray, List.set_cons_zero, List.set_cons_succ]
        refine uTake (i := 21) (some 42) (v := ?_) rfl rfl (by kernel_rfl) (by kernel_rfl) (by kernel_rfl) (by kernel_rfl) (fun _ _ _ h => h) (by rfl) (by assumption) ?_ ?_
        rotate_left
        · (intro wS hSw; (try dsimp only at hSw); go_simp; try with_reducible rfl)
        try simp only [Act.put, List.setIfInBounds_toArray, List.set_cons_zero, List.set_cons_succ]
        refine uTake (i := 22) (some 43) (v := ?_) rfl rfl (by kernel_rfl) (by kernel_rfl) (by kernel_rfl) (by kernel_rfl) (fun _ _ _ h => h) (by rfl) (by assumption) ?_ ?_
        rotate_left
        · (intro wS hSw; (try dsimp only at hSw); go_simp; try with_reducible rfl)
        try simp only [Act.put, List.setIfInBounds_toArray, List.set_cons_zero, List.set_cons_succ]
        refine uTake (i := 23) (some 44) (v := ?_) rfl rfl (by kernel_rfl) (by kernel_rfl) (by kernel_rfl) (by kernel_rfl) (fun _ _ _ h => h) (by rfl) (by assumption) ?_ ?_
        rotate_left
        · (intro wS hSw; (try dsimp only at hSw); go_simp; try with_reducible rfl)
        try simp only [Act.put, List.setIfInBounds_toArray, List.set_cons_zero, List.set_cons_succ]
        refine uTake (i := 24) (some 45) (v := ?_) rfl rfl (by kernel_rfl) (by kernel_rfl) (by kernel_rfl) (by kernel_rfl) (fun _ _ _ h => h) (by rfl) (by assumption) ?_ ?_
        rotate_left
        · (intro wS hSw; (try dsimp only at hSw); go_simp; try with_reducible rfl)
        try simp only [Act.put, List.setIfInBounds_toArray, List.set_cons_zero, List.set_cons_succ]
        refine uTake (i := 25) (some 46) (v := ?_) rfl rfl (by kernel_rfl) (by kernel_rfl) (by kernel_rfl) (by kernel_rfl) (fun _ _ _ h => h) (by rfl) (by assumption) ?_ ?_
        rotate_left
        · (intro wS hSw; (try dsimp only at hSw); go_simp; try with_reducible rfl)
        try simp only [Act.put, List.setIfInBounds_toArray, List.set_cons_zero, List.set_cons_succ]
        refine uTake (i := 26) (some 47) (v := ?_) rfl rfl (by kernel_rfl) (by kernel_rfl) (by kernel_rfl) (by kernel_rfl) (fun _ _ _ h => h) (by rfl) (by assumption) ?_ ?_
        rotate_left
        · (intro wS hSw; (try dsimp only at hSw); go_simp; try with_reducible rfl)
        try simp only [Act.put, List.setIfInBounds_toArray, List.set_cons_zero, List.set_cons_succ]
        refine uTake (i := 27) (some 48) (v := ?_) rfl rfl (by kernel_rfl) (by kernel_rfl) (by kernel_rfl) (by kernel_rfl) (fun _ _ _ h => h) (by rfl) (by assumption) ?_ ?_
        rotate_left
        · (intro wS hSw; (try dsimp only at hSw); go_simp; try with_reducible rfl)
        try simp only [Act.put, List.setIfInBounds_toArray, List.set_cons_zero, List.set_cons_succ]
        refine uTake (i := 28) (some 49) (v := ?_) rfl rfl (by kernel_rfl) (by kernel_rfl) (by kernel_rfl) (by kernel_rfl) (fun _ _ _ h => h) (by rfl) (by assumption) ?_ ?_
        rotate_left
        · (intro wS hSw; (try dsimp only at hSw); go_simp; try with_reducible rfl)
        try simp only [Act.put, List.setIfInBounds_toArray, List.set_cons_zero, List.set_cons_succ]
        refine uTake (i := 29) (some 50) (v := ?_) rfl rfl (by kernel_rfl) (by kernel_rfl) (by kernel_rfl) (by kernel_rfl) (fun _ _ _ h => h) (by rfl) (by assumption) ?_ ?_
        rotate_left
        · (intro wS hSw; (try dsimp only at hSw); go_simp; try with_reducible rfl)
        try simp only [Act.put, List.setIfInBounds_toArray, List.set_cons_zero, List.set_cons_succ]
        refine uTake (i := 30) (some 51) (v := ?_) rfl rfl (by kernel_rfl) (by kernel_rfl) (by kernel_rfl) (by kernel_rfl) (fun _ _ _ h => h) (by rfl) (by assumption) ?_ ?_
        rotate_left
        · (intro wS hSw; (try dsimp only at hSw); go_simp; try with_reducible rfl)
        try simp only [Act.put, List.setIfInBounds_toArray, List.set_cons_zero, List.set_cons_succ]
        refine uTake (i := 31) (some 52) (v := ?_) rfl rfl (by kernel_rfl) (by kernel_rfl) (by kernel_rfl) (by kernel_rfl) (fun _ _ _ h => h) (by rfl) (by assumption) ?_ ?_
        rotate_left
        · (intro wS hSw; (try dsimp only at hSw); go_simp; try with_reducible rfl)
        try simp only [Act.put, List.setIfInBounds_toArray, List.set_cons_zero, List.set_cons_succ]
        refine uTake (i := 32) (some 53) (v := ?_) rfl rfl (by kernel_rfl) (by kernel_rfl) (by kernel_rfl) (by kernel_rfl) (fun _ _ _ h => h) (by rfl) (by assumption) ?_ ?_
        rotate_left
        · (intro wS hSw; (try dsimp only at hSw); go_simp; try with_reducible rfl)
        try simp only [Act.put, List.setIfInBounds_toArray, List.set_cons_zero, List.set_cons_succ]
        refine uTake (i := 33) (some 54) (v := ?_) rfl rfl (by kernel_rfl) (by kernel_rfl) (by kernel_rfl) (by kernel_rfl) (fun _ _ _ h => h) (by rfl) (by assumption) ?_ ?_
        rotate_left
        · (intro wS hSw; (try dsimp only at hSw); go_simp; try with_reducible rfl)
        try simp only [Act.put, List.setIfInBounds_toArray, List.set_cons_zero, List.set_cons_succ]
        refine uTake (i := 34) (some 55) (v := ?_) rfl rfl (by kernel_rfl) (by kernel_rfl) (by kernel_rfl) (by kernel_rfl) (fun _ _ _ h => h) (by rfl) (by assumption) ?_ ?_
        rotate_left
        · (intro wS hSw; (try dsimp only at hSw); go_simp; try with_reducible rfl)
        try simp only [Act.put, List.setIfInBounds_toArray, List.set_cons_zero, List.set_cons_succ]
        refine uTake (i := 35) (some 56) (v := ?_) rfl rfl (by kernel_rfl) (by kernel_rfl) (by kernel_rfl) (by kernel_rfl) (fun _ _ _ h => h) (by rfl) (by assumption) ?_ ?_
        rotate_left
        · (intro wS hSw; (try dsimp only at hSw); go_simp; try with_reducible rfl)
        try simp only [Act.put, List.setIfInBounds_toArray, List.set_cons_zero, List.set_cons_succ]
        refine uTake (i := 36) (some 57) (v := ?_) rfl rfl (by kernel_rfl) (by kernel_rfl) (by kernel_rfl) (by kernel_rfl) (fun _ _ _ h => h) (by rfl) (by assumption) ?_ ?_
        rotate_left
        · (intro wS hSw; (try dsimp only at hSw); go_simp; try with_reducible rfl)
        try simp only [Act.put, List.setIfInBounds_toArray, List.set_cons_zero, List.set_cons_succ]
        refine uTake (i := 37) (some 58) (v := ?_) rfl rfl (by kernel_rfl) (by kernel_rfl) (by kernel_rfl) (by kernel_rfl) (fun _ _ _ h => h) (by rfl) (by assumption) ?_ ?_
        rotate_left
        · (intro wS hSw; (try dsimp only at hSw); go_simp; try with_reducible rfl)
        try simp only [Act.put, List.setIfInBounds_toArray, List.set_cons_zero, List.set_cons_succ]
        refine uTake (i := 38) (some 59) (v := ?_) rfl rfl (by kernel_rfl) (by kernel_rfl) (by kernel_rfl) (by kernel_rfl) (fun _ _ _ h => h) (by rfl) (by assumption) ?_ ?_
        rotate_left
        · (intro wS hSw; (try dsimp only at hSw); go_simp; try with_reducible rfl)
        try simp only [Act.put, List.setIfInBounds_toArray, List.set_cons_zero, List.set_cons_succ]
        refine uTake (i := 39) (some 60) (v := ?_) rfl rfl (by kernel_rfl) (by kernel_rfl) (by kernel_rfl) (by kernel_rfl) (fun _ _ _ h => h) (by rfl) (by assumption) ?_ ?_
        rotate_left
        · (intro wS hSw; (try dsimp only at hSw); go_simp; try with_reducible rfl)
        try simp only [Act.put, List.setIfInBounds_toArray, List.set_cons_zero, List.set_cons_succ]
        refine uDone (by kernel_rfl) ?_ _
        have hfin := Lib.hid E7.out.bel
        go_wp2_with (first | (with_reducible refine wpl_alloc_b ?_ ?_ _ zvUse ?_; (· rfl); (· rfl)))
        go_ret
        exact ⟨RetEqB HT.out.symm, hfin.out⟩
      have d5 : (xu.ub != c0) = false := by simpa using q5
      have HOKU : Hid (UseOk xu) := Lib.hid ⟨c1H.out.1 rfl, hl1, hln, HQ4.out, by rw [cE.out]; exact q5⟩
      have HQ5 := Lib.hid q5
      clear q5
      go_wp2_with (first | (with_reducible refine wpl_alloc_b ?_ ?_ _ zvUse ?_; (· rfl); (· rfl)))
      have E6 : Hid (Env D w [(wr.heap.size, 44, usc xu (.slice (some ⟨aab, aao, none⟩) xu.sp.lv.length ak) (.slice ac xu.sp.pa.length aj)), (w.heap.size, 25, [.slice (some ⟨xab, xao, none⟩) X.length xk])] [.rw (.slice (some ⟨aab, aao, none⟩) xu.sp.lv.length ak) xu.sp.lv.length 3 (lcl xu.sp.lv), .rw (.slice ac xu.sp.pa.length aj) xu.sp.pa.length 32 xu.sp.pa.flatten, .gn (gRg xab (xao + n * 83) (usc xu (.slice (some ⟨aab, aao, none⟩) xu.sp.lv.length ak) (.slice ac xu.sp.pa.length aj))), .gn (gSp xu.sp (.slice (some ⟨aab, aao, none⟩) xu.sp.lv.length ak) (.slice ac xu.sp.pa.length aj)), .gn (gUl (.slice (some ⟨xab, xao, none⟩) X.length xk) X)] (w1.drew)) := Lib.hid E5.out.drew
      clear E5
      refine wp_regionU (S := fun w' => w'.cell? ⟨aab, aao + (xu.lf.toNat) * 3, none⟩ = some (.int .i64 c0) ∧ w'.rangeAt wr.heap.size 2 (spc xu.sp (.slice (some ⟨aab, aao, none⟩) xu.sp.lv.length ak) (.slice ac xu.sp.pa.length aj)) ∧ w'.cell? ⟨wr.heap.size, 82, none⟩ = some (.int .i64 xu.lf) ∧ w'.cell? ⟨wr.heap.size, 79, none⟩ = some (.slice (some ⟨aab, aao, none⟩) xu.sp.lv.length ak) ∧ w'.cell? ⟨wr.heap.size, 0, none⟩ = some (.int .i64 xu.ua) ∧ w'.cell? ⟨wr.heap.size, 6, none⟩ = some (.int .i64 (cInt xu.sp.cn 4)) ∧ w'.cell? ⟨wr.heap.size, 1, none⟩ = some (.int .i64 xu.ub)) [] (by kernel_rfl) (⟨(by have h := ((E6.out.fc 0 rfl)).triple (k := (xu.lf.toNat)) rfl hln; rw [cE.out] at h; exact h.1), ((E6.out.bx 0 rfl).range (o := 2) (usc_sp xS.out _ _)), ((E6.out.bx 0 rfl).cell 82 (usc_lf xS.out _ _)), ((E6.out.bx 0 rfl).cell 79 (usc_tail xS.out _ _).1), ((E6.out.bx 0 rfl).cell 0 rfl), ((E6.out.bx 0 rfl).cell 6 (usc_sp' xS.out _ _ (j := 4) rfl (by omega) (spc_ca xS.out _ _ (by omega)))), ((E6.out.bx 0 rfl).cell 1 rfl)⟩) (fun hHeld => ?_)
      generalize w1.drew = w2 at *
      refine uTake (i := 0) (some 21) (v := ?_) rfl rfl (by kernel_rfl) (by kernel_rfl) (by kernel_rfl) (by kernel_rfl) (fun _ _ _ h => h) (by rfl) (by assumption) ?_ ?_
      rotate_left
      · (intro wS hSw; (try dsimp only at hSw); go_simp; try with_reducible rfl)
      try simp only [Act.put, List.setIfInBounds_toArray, List.set_cons_zero, List.set_cons_succ]
      refine uTake (i := 1) (some 22) (v := .agg (spc xu.sp (.slice (some ⟨aab, aao, none⟩) xu.sp.lv.length ak) (.slice ac xu.sp.pa.length aj)).toArray) rfl rfl (by kernel_rfl) (by kernel_rfl) (by kernel_rfl) (by kernel_rfl) (fun _ _ _ h => h) (by rfl) (by assumption) ?_ ?_
      · (intro wS hSw; (try dsimp only at hSw); revert hSw; (try simp only [and_imp]); intros; exact exec_load_b bSpend _ rfl wr.heap.size 2 rfl (spc xu.sp (.slice (some ⟨aab, aao, none⟩) xu.sp.lv.length ak) (.slice ac xu.sp.pa.length aj)) (spc_len xS.out _ _) (by assumption))
      try simp only [Act.put, List.setIfInBounds_toArray, List.set_cons_zero, List.set_cons_succ]
      refine uReady (rs := [2]) (by kernel_rfl) (by simp) ?_
      refine ReadyU.cons rfl (fun KK hKK => ?_) ReadyU.nil
      go_simp
      refine (rstorable_c xu.sp (E6.out.fc 3 rfl) HBX.out (t := true) (by first | exact c1H.out | simpa using c1H.out)).mono ?_
      rintro e w3 ⟨rfl, hb⟩
      have E7 : Hid (Env D w [(wr.heap.size, 44, usc xu (.slice (some ⟨aab, aao, none⟩) xu.sp.lv.length ak) (.slice ac xu.sp.pa.length aj)), (w.heap.size, 25, [.slice (some ⟨xab, xao, none⟩) X.length xk])] [.rw (.slice (some ⟨aab, aao, none⟩) xu.sp.lv.length ak) xu.sp.lv.length 3 (lcl xu.sp.lv), .rw (.slice ac xu.sp.pa.length aj) xu.sp.pa.length 32 xu.sp.pa.flatten, .gn (gRg xab (xao + n * 83) (usc xu (.slice (some ⟨aab, aao, none⟩) xu.sp.lv.length ak) (.slice ac xu.sp.pa.length aj))), .gn (gSp xu.sp (.slice (some ⟨aab, aao, none⟩) xu.sp.lv.length ak) (.slice ac xu.sp.pa.length aj)), .gn (gUl (.slice (some ⟨xab, xao, none⟩) X.length xk) X)] w3) := Lib.hid (E6.out.below hb)
      clear E6 hb
      (try dsimp only)
      clear hHeld
      refine hKK.out _ _ (⟨(by have h := ((E7.out.fc 0 rfl)).triple (k := (xu.lf.toNat)) rfl hln; rw [cE.out] at h; exact h.1), ((E7.out.bx 0 rfl).range (o := 2) (usc_sp xS.out _ _)), ((E7.out.bx 0 rfl).cell 82 (usc_lf xS.out _ _)), ((E7.out.bx 0 rfl).cell 79 (usc_tail xS.out _ _).1), ((E7.out.bx 0 rfl).cell 0 rfl), ((E7.out.bx 0 rfl).cell 6 (usc_sp' xS.out _ _ (j := 4) rfl (by omega) (spc_ca xS.out _ _ (by omega)))), ((E7.out.bx 0 rfl).cell 1 rfl)⟩) (fun hHeld => ?_)
      clear hKK KK
      try simp only [Act.put, List.setIfInBounds_toArray, List.set_cons_zero, List.set_cons_succ]
      refine uTake (i := 3) (some 24) (v := ?_) rfl rfl (by kernel_rfl) (by kernel_rfl) (by kernel_rfl) (by kernel_rfl) (fun _ _ _ h => h) (by rfl) (by assumption) ?_ ?_
      rotate_left
      · (intro wS hSw; (try dsimp only at hSw); go_simp; try with_reducible rfl)
      try simp only [Act.put, List.setIfInBounds_toArray, List.set_cons_zero, List.set_cons_succ]
      refine uTake (i := 4) (some 25) (v := ?_) rfl rfl (by kernel_rfl) (by kernel_rfl) (by kernel_rfl) (by kernel_rfl) (fun _ _ _ h => h) (by rfl) (by assumption) ?_ ?_
      rotate_left
      · (intro wS hSw; (try dsimp only at hSw); go_simp; try with_reducible rfl)
      try simp only [Act.put, List.setIfInBounds_toArray, List.set_cons_zero, List.set_cons_succ]
      refine uTake (i := 5) (some 26) (v := ?_) rfl rfl (by kernel_rfl) (by kernel_rfl) (by kernel_rfl) (by kernel_rfl) (fun _ _ _ h => h) (by rfl) (by assumption) ?_ ?_
      rotate_left
      · (intro wS hSw; (try dsimp only at hSw); go_simp; try with_reducible rfl)
      try simp only [Act.put, List.setIfInBounds_toArray, List.set_cons_zero, List.set_cons_succ]
      refine uTake (i := 6) (some 27) (v := ?_) rfl rfl (by kernel_rfl) (by kernel_rfl) (by kernel_rfl) (by kernel_rfl) (fun _ _ _ h => h) (by rfl) (by assumption) ?_ ?_
      rotate_left
      · (intro wS hSw; (try dsimp only at hSw); go_simp; try with_reducible rfl)
      try simp only [Act.put, List.setIfInBounds_toArray, List.set_cons_zero, List.set_cons_succ]
      refine uTake (i := 7) (some 28) (v := ?_) rfl rfl (by kernel_rfl) (by kernel_rfl) (by kernel_rfl) (by kernel_rfl) (fun _ _ _ h => h) (by rfl) (by assumption) ?_ ?_
      rotate_left
      · (intro wS hSw; (try dsimp only at hSw); go_simp; try with_reducible rfl)
      try simp only [Act.put, List.setIfInBounds_toArray, List.set_cons_zero, List.set_cons_succ]
      refine uTake (i := 8) (some 29) (v := ?_) rfl rfl (by kernel_rfl) (by kernel_rfl) (by kernel_rfl) (by kernel_rfl) (fun _ _ _ h => h) (by rfl) (by assumption) ?_ ?_
      rotate_left
      · (intro wS hSw; (try dsimp only at hSw); go_simp; try with_reducible rfl)
      try simp only [Act.put, List.setIfInBounds_toArray, List.set_cons_zero, List.set_cons_succ]
      refine uTake (i := 9) (some 30) (v := ?_) rfl rfl (by kernel_rfl) (by kernel_rfl) (by kernel_rfl) (by kernel_rfl) (fun _ _ _ h => h) (by rfl) (by assumption) ?_ ?_
      rotate_left
      · (intro wS hSw; (try dsimp only at hSw); go_simp; try with_reducible rfl)
      try simp only [Act.put, List.setIfInBounds_toArray, List.set_cons_zero, List.set_cons_succ]
      refine uTake (i := 10) (some 31) (v := ?_) rfl rfl (by kernel_rfl) (by kernel_rfl) (by kernel_rfl) (by kernel_rfl) (fun _ _ _ h => h) (by rfl) (by assumption) ?_ ?_
      rotate_left
      · (intro wS hSw; (try dsimp only at hSw); go_simp; try with_reducible rfl)
      try simp only [Act.put, List.setIfInBounds_toArray, List.set_cons_zero, List.set_cons_succ]
      refine uTake (i := 11) (some 32) (v := ?_) rfl rfl (by kernel_rfl) (by kernel_rfl) (by kernel_rfl) (by kernel_rfl) (fun _ _ _ h => h) (by rfl) (by assumption) ?_ ?_
      rotate_left
      · (intro wS hSw; (try dsimp only at hSw); go_simp; try with_reducible rfl)
      try simp only [Act.put, List.setIfInBounds_toArray, List.set_cons_zero, List.set_cons_succ]
      refine uTake (i := 12) (some 33) (v := ?_) rfl rfl (by kernel_rfl) (by kernel_rfl) (by kernel_rfl) (by kernel_rfl) (fun _ _ _ h => h) (by rfl) (by assumption) ?_ ?_
      rotate_left
      · (intro wS hSw; (try dsimp only at hSw); go_simp; try with_reducible rfl)
      try simp only [Act.put, List.setIfInBounds_toArray, List.set_cons_zero, List.set_cons_succ]
      refine uTake (i := 13) (some 34) (v := ?_) rfl rfl (by kernel_rfl) (by kernel_rfl) (by kernel_rfl) (by kernel_rfl) (fun _ _ _ h => h) (by rfl) (by assumption) ?_ ?_
      rotate_left
      · (intro wS hSw; (try dsimp only at hSw); go_simp; try with_reducible rfl)
      try simp only [Act.put, List.setIfInBounds_toArray, List.set_cons_zero, List.set_cons_succ]
      refine uTake (i := 14) (some 35) (v := ?_) rfl rfl (by kernel_rfl) (by kernel_rfl) (by kernel_rfl) (by kernel_rfl) (fun _ _ _ h => h) (by rfl) (by assumption) ?_ ?_
      rotate_left
      · (intro wS hSw; (try dsimp only at hSw); go_simp; try with_reducible rfl)
      try simp only [Act.put, List.setIfInBounds_toArray, List.set_cons_zero, List.set_cons_succ]
      refine uTake (i := 15) (some 36) (v := ?_) rfl rfl (by kernel_rfl) (by kernel_rfl) (by kernel_rfl) (by kernel_rfl) (fun _ _ _ h => h) (by rfl) (by assumption) ?_ ?_
      rotate_left
      · (intro wS hSw; (try dsimp only at hSw); go_simp; try with_reducible rfl)
      try simp only [Act.put, List.setIfInBounds_toArray, List.set_cons_zero, List.set_cons_succ]
      refine uTake (i := 16) (some 37) (v := ?_) rfl rfl (by kernel_rfl) (by kernel_rfl) (by kernel_rfl) (by kernel_rfl) (fun _ _ _ h => h) (by rfl) (by assumption) ?_ ?_
      rotate_left
      · (intro wS hSw; (try dsimp only at hSw); go_simp; try with_reducible rfl)
      try simp only [Act.put, List.setIfInBounds_toArray, List.set_cons_zero, List.set_cons_succ]
      refine uTake (i := 17) (some 38) (v := ?_) rfl rfl (by kernel_rfl) (by kernel_rfl) (by kernel_rfl) (by kernel_rfl) (fun _ _ _ h => h) (by rfl) (by assumption) ?_ ?_
      rotate_left
      · (intro wS hSw; (try dsimp only at hSw); go_simp; try with_reducible rfl)
      try simp only [Act.put, List.setIfInBounds_toArray, List.set_cons_zero, List.set_cons_succ]
      refine uTake (i := 18) (some 39) (v := ?_) rfl rfl (by kernel_rfl) (by kernel_rfl) (by kernel_rfl) (by kernel_rfl) (fun _ _ _ h => h) (by rfl) (by assumption) ?_ ?_
      rotate_left
      · (intro wS hSw; (try dsimp only at hSw); go_simp; try with_reducible rfl)
      try simp only [Act.put, List.setIfInBounds_toArray, List.set_cons_zero, List.set_cons_succ]
      refine uTake (i := 19) (some 40) (v := ?_) rfl rfl (by kernel_rfl) (by kernel_rfl) (by kernel_rfl) (by kernel_rfl) (fun _ _ _ h => h) (by rfl) (by assumption) ?_ ?_
      rotate_left
      · (intro wS hSw; (try dsimp only at hSw); go_simp; try with_reducible rfl)
      try simp only [Act.put, List.setIfInBounds_toArray, List.set_cons_zero, List.set_cons_succ]
      refine uTake (i := 20) (some 41) (v := ?_) rfl rfl (by kernel_rfl) (by kernel_rfl) (by kernel_rfl) (by kernel_rfl) (fun _ _ _ h => h) (by rfl) (by assumption) ?_ ?_
      rotate_left
      · (intro wS hSw; (try dsimp only at hSw); go_simp; try with_reducible rfl)
      try simp only [Act.put, List.setIfInBounds_toArray, List.set_cons_zero, List.set_cons_succ]
      refine uTake (i := 21) (some 42) (v := ?_) rfl rfl (by kernel_rfl) (by kernel_rfl) (by kernel_rfl) (by kernel_rfl) (fun _ _ _ h => h) (by rfl) (by assumption) ?_ ?_
      rotate_left
      · (intro wS hSw; (try dsimp only at hSw); go_simp; try with_reducible rfl)
      try simp only [Act.put, List.setIfInBounds_toArray, List.set_cons_zero, List.set_cons_succ]
      refine uTake (i := 22) (some 43) (v := ?_) rfl rfl (by kernel_rfl) (by kernel_rfl) (by kernel_rfl) (by kernel_rfl) (fun _ _ _ h => h) (by rfl) (by assumption) ?_ ?_
      rotate_left
      · (intro wS hSw; (try dsimp only at hSw); go_simp; try with_reducible rfl)
      try simp only [Act.put, List.setIfInBounds_toArray, List.set_cons_zero, List.set_cons_succ]
      refine uTake (i := 23) (some 44) (v := ?_) rfl rfl (by kernel_rfl) (by kernel_rfl) (by kernel_rfl) (by kernel_rfl) (fun _ _ _ h => h) (by rfl) (by assumption) ?_ ?_
      rotate_left
      · (intro wS hSw; (try dsimp only at hSw); go_simp; try with_reducible rfl)
      try simp only [Act.put, List.setIfInBounds_toArray, List.set_cons_zero, List.set_cons_succ]
      refine uTake (i := 24) (some 45) (v := ?_) rfl rfl (by kernel_rfl) (by kernel_rfl) (by kernel_rfl) (by kernel_rfl) (fun _ _ _ h => h) (by rfl) (by assumption) ?_ ?_
      rotate_left
      · (intro wS hSw; (try dsimp only at hSw); go_simp; try with_reducible rfl)
      try simp only [Act.put, List.setIfInBounds_toArray, List.set_cons_zero, List.set_cons_succ]
      refine uTake (i := 25) (some 46) (v := ?_) rfl rfl (by kernel_rfl) (by kernel_rfl) (by kernel_rfl) (by kernel_rfl) (fun _ _ _ h => h) (by rfl) (by assumption) ?_ ?_
      rotate_left
      · (intro wS hSw; (try dsimp only at hSw); go_simp; try with_reducible rfl)
      try simp only [Act.put, List.setIfInBounds_toArray, List.set_cons_zero, List.set_cons_succ]
      refine uTake (i := 26) (some 47) (v := ?_) rfl rfl (by kernel_rfl) (by kernel_rfl) (by kernel_rfl) (by kernel_rfl) (fun _ _ _ h => h) (by rfl) (by assumption) ?_ ?_
      rotate_left
      · (intro wS hSw; (try dsimp only at hSw); go_simp; try with_reducible rfl)
      try simp only [Act.put, List.setIfInBounds_toArray, List.set_cons_zero, List.set_cons_succ]
      refine uTake (i := 27) (some 48) (v := ?_) rfl rfl (by kernel_rfl) (by kernel_rfl) (by kernel_rfl) (by kernel_rfl) (fun _ _ _ h => h) (by rfl) (by assumption) ?_ ?_
      rotate_left
      · (intro wS hSw; (try dsimp only at hSw); go_simp; try with_reducible rfl)
      try simp only [Act.put, List.setIfInBounds_toArray, List.set_cons_zero, List.set_cons_succ]
      refine uTake (i := 28) (some 49) (v := ?_) rfl rfl (by kernel_rfl) (by kernel_rfl) (by kernel_rfl) (by kernel_rfl) (fun _ _ _ h => h) (by rfl) (by assumption) ?_ ?_
      rotate_left
      · (intro wS hSw; (try dsimp only at hSw); go_simp; try with_reducible rfl)
      try simp only [Act.put, List.setIfInBounds_toArray, List.set_cons_zero, List.set_cons_succ]
      refine uTake (i := 29) (some 50) (v := ?_) rfl rfl (by kernel_rfl) (by kernel_rfl) (by kernel_rfl) (by kernel_rfl) (fun _ _ _ h => h) (by rfl) (by assumption) ?_ ?_
      rotate_left
      · (intro wS hSw; (try dsimp only at hSw); go_simp; try with_reducible rfl)
      try simp only [Act.put, List.setIfInBounds_toArray, List.set_cons_zero, List.set_cons_succ]
      refine uTake (i := 30) (some 51) (v := ?_) rfl rfl (by kernel_rfl) (by kernel_rfl) (by kernel_rfl) (by kernel_rfl) (fun _ _ _ h => h) (by rfl) (by assumption) ?_ ?_
      rotate_left
      · (intro wS hSw; (try dsimp only at hSw); go_simp; try with_reducible rfl)
      try simp only [Act.put, List.setIfInBounds_toArray, List.set_cons_zero, List.set_cons_succ]
      refine uTake (i := 31) (some 52) (v := ?_) rfl rfl (by kernel_rfl) (by kernel_rfl) (by kernel_rfl) (by kernel_rfl) (fun _ _ _ h => h) (by rfl) (by assumption) ?_ ?_
      rotate_left
      · (intro wS hSw; (try dsimp only at hSw); go_simp; try with_reducible rfl)
      try simp only [Act.put, List.setIfInBounds_toArray, List.set_cons_zero, List.set_cons_succ]
      refine uTake (i := 32) (some 53) (v := ?_) rfl rfl (by kernel_rfl) (by kernel_rfl) (by kernel_rfl) (by kernel_rfl) (fun _ _ _ h => h) (by rfl) (by assumption) ?_ ?_
      rotate_left
      · (intro wS hSw; (try dsimp only at hSw); go_simp; try with_reducible rfl)
      try simp only [Act.put, List.setIfInBounds_toArray, List.set_cons_zero, List.set_cons_succ]
      refine uTake (i := 33) (some 54) (v := ?_) rfl rfl (by kernel_rfl) (by kernel_rfl) (by kernel_rfl) (by kernel_rfl) (fun _ _ _ h => h) (by rfl) (by assumption) ?_ ?_
      rotate_left
      · (intro wS hSw; (try dsimp only at hSw); go_simp; try with_reducible rfl)
      try simp only [Act.put, List.setIfInBounds_toArray, List.set_cons_zero, List.set_cons_succ]
      refine uTake (i := 34) (some 55) (v := ?_) rfl rfl (by kernel_rfl) (by kernel_rfl) (by kernel_rfl) (by kernel_rfl) (fun _ _ _ h => h) (by rfl) (by assumption) ?_ ?_
      rotate_left
      · (intro wS hSw; (try dsimp only at hSw); go_simp; try with_reducible rfl)
      try simp only [Act.put, List.setIfInBounds_toArray, List.set_cons_zero, List.set_cons_succ]
      refine uTake (i := 35) (some 56) (v := ?_) rfl rfl (by kernel_rfl) (by kernel_rfl) (by kernel_rfl) (by kernel_rfl) (fun _ _ _ h => h) (by rfl) (by assumption) ?_ ?_
      rotate_left
      · (intro wS hSw; (try dsimp only at hSw); go_simp; try with_reducible rfl)
      try simp only [Act.put, List.setIfInBounds_toArray, List.set_cons_zero, List.set_cons_succ]
      refine uTake (i := 36) (some 57) (v := ?_) rfl rfl (by kernel_rfl) (by kernel_rfl) (by kernel_rfl) (by kernel_rfl) (fun _ _ _ h => h) (by rfl) (by assumption) ?_ ?_
      rotate_left
      · (intro wS hSw; (try dsimp only at hSw); go_simp; try with_reducible rfl)
      try simp only [Act.put, List.setIfInBounds_toArray, List.set_cons_zero, List.set_cons_succ]
      refine uTake (i := 37) (some 58) (v := ?_) rfl rfl (by kernel_rfl) (by kernel_rfl) (by kernel_rfl) (by kernel_rfl) (fun _ _ _ h => h) (by rfl) (by assumption) ?_ ?_
      rotate_left
      · (intro wS hSw; (try dsimp only at hSw); go_simp; try with_reducible rfl)
      try simp only [Act.put, List.setIfInBounds_toArray, List.set_cons_zero, List.set_cons_succ]
      refine uTake (i := 38) (some 59) (v := ?_) rfl rfl (by kernel_rfl) (by kernel_rfl) (by kernel_rfl) (by kernel_rfl) (fun _ _ _ h => h) (by rfl) (by assumption) ?_ ?_
      rotate_left
      · (intro wS hSw; (try dsimp only at hSw); go_simp; try with_reducible rfl)
      try simp only [Act.put, List.setIfInBounds_toArray, List.set_cons_zero, List.set_cons_succ]
      refine uTake (i := 39) (some 60) (v := ?_) rfl rfl (by kernel_rfl) (by kernel_rfl) (by kernel_rfl) (by kernel_rfl) (fun _ _ _ h => h) (by rfl) (by assumption) ?_ ?_
      rotate_left
      · (intro wS hSw; (try dsimp only at hSw); go_simp; try with_reducible rfl)
      try simp only [Act.put, List.setIfInBounds_toArray, List.set_cons_zero, List.set_cons_succ]
      refine uDone (by kernel_rfl) ?_ _
      go_upto_region 9 with (first | (with_reducible refine wpl_alloc_b ?_ ?_ _ zvUse ?_; (· rfl); (· rfl)))
      clear d2 d3 d4 d5
      by_cases hz : n = 0
      · have d6 : decide ((0 : Int) < (n : Int)) = false := decide_eq_false (by omega)
        have d6b : decide (0 < n) = false := decide_eq_false (by omega)
        have HV2 : Hid (ValidTo (X.map Uv.u) (n + 1)) := Lib.hid (HV.out.succ HU.out HOKU.out (fun m v e _ => by omega))
        have HZ := Lib.hid hz
        clear hz
        go_wp2_with (first | (with_reducible refine wpl_alloc_b ?_ ?_ _ zvUse ?_; (· rfl); (· rfl)))
        have E8 : Hid (Env D w [(wr.heap.size, 44, usc xu (.slice (some ⟨aab, aao, none⟩) xu.sp.lv.length ak) (.slice ac xu.sp.pa.length aj)), (w.heap.size, 25, [.slice (some ⟨xab, xao, none⟩) X.length xk])] [.rw (.slice (some ⟨aab, aao, none⟩) xu.sp.lv.length ak) xu.sp.lv.length 3 (lcl xu.sp.lv), .rw (.slice ac xu.sp.pa.length aj) xu.sp.pa.length 32 xu.sp.pa.flatten, .gn (gRg xab (xao + n * 83) (usc xu (.slice (some ⟨aab, aao, none⟩) xu.sp.lv.length ak) (.slice ac xu.sp.pa.length aj))), .gn (gSp xu.sp (.slice (some ⟨aab, aao, none⟩) xu.sp.lv.length ak) (.slice ac xu.sp.pa.length aj)), .gn (gUl (.slice (some ⟨xab, xao, none⟩) X.length xk) X)] (w3.drew)) := Lib.hid E7.out.drew
        clear E7
        refine wp_regionU (S := fun w' => True) [] (by kernel_rfl) (trivial) (fun hHeld => ?_)
        generalize w3.drew = w4 at *
        refine uTake (i := 0) (some 61) (v := ?_) rfl rfl (by kernel_rfl) (by kernel_rfl) (by kernel_rfl) (by kernel_rfl) (fun _ _ _ h => h) (by rfl) (by assumption) ?_ ?_
        rotate_left
        · (intro wS hSw; (try dsimp only at hSw); go_simp; try with_reducible rfl)
        try simp only [Act.put, List.setIfInBounds_toArray, List.set_cons_zero, List.set_cons_succ]
        refine uTake (i := 1) (some 62) (v := ?_) rfl rfl (by kernel_rfl) (by kernel_rfl) (by kernel_rfl) (by kernel_rfl) (fun _ _ _ h => h) (by rfl) (by assumption) ?_ ?_
        rotate_left
        · (intro wS hSw; (try dsimp only at hSw); go_simp; try with_reducible rfl)
        try simp only [Act.put, List.setIfInBounds_toArray, List.set_cons_zero, List.set_cons_succ]
        refine uTake (i := 2) (some 63) (v := ?_) rfl rfl (by kernel_rfl) (by kernel_rfl) (by kernel_rfl) (by kernel_rfl) (fun _ _ _ h => h) (by rfl) (by assumption) ?_ ?_
        rotate_left
        · (intro wS hSw; (try dsimp only at hSw); go_simp; try with_reducible rfl)
        try simp only [Act.put, List.setIfInBounds_toArray, List.set_cons_zero, List.set_cons_succ]
        refine uPass (i := 3) (some 64) rfl rfl (by kernel_rfl) (by kernel_rfl) (by kernel_rfl) (by kernel_rfl) (fun _ _ _ h => h) (by rfl) (by assumption) ?_
        try simp only [Act.put, List.setIfInBounds_toArray, List.set_cons_zero, List.set_cons_succ]
        refine uPass (i := 4) (some 65) rfl rfl (by kernel_rfl) (by kernel_rfl) (by kernel_rfl) (by kernel_rfl) (fun _ _ _ h => h) (by rfl) (by assumption) ?_
        try simp only [Act.put, List.setIfInBounds_toArray, List.set_cons_zero, List.set_cons_succ]
        refine uPass (i := 5) (some 66) rfl rfl (by kernel_rfl) (by kernel_rfl) (by kernel_rfl) (by kernel_rfl) (fun _ _ _ h => h) (by rfl) (by assumption) ?_
        try simp only [Act.put, List.setIfInBounds_toArray, List.set_cons_zero, List.set_cons_succ]
        refine uPass (i := 6) (some 67) rfl rfl (by kernel_rfl) (by kernel_rfl) (by kernel_rfl) (by kernel_rfl) (fun _ _ _ h => h) (by rfl) (by assumption) ?_
        try simp only [Act.put, List.setIfInBounds_toArray, List.set_cons_zero, List.set_cons_succ]
        refine uPass (i := 7) (some 68) rfl rfl (by kernel_rfl) (by kernel_rfl) (by kernel_rfl) (by kernel_rfl) (fun _ _ _ h => h) (by rfl) (by assumption) ?_
        try simp only [Act.put, List.setIfInBounds_toArray, List.set_cons_zero, List.set_cons_succ]
        refine uPass (i := 8) (some 69) rfl rfl (by kernel_rfl) (by kernel_rfl) (by kernel_rfl) (by kernel_rfl) (fun _ _ _ h => h) (by rfl) (by assumption) ?_
        try simp only [Act.put, List.setIfInBounds_toArray, List.set_cons_zero, List.set_cons_succ]
        refine uPass (i := 9) (some 70) rfl rfl (by kernel_rfl) (by kernel_rfl) (by kernel_rfl) (by kernel_rfl) (fun _ _ _ h => h) (by rfl) (by assumption) ?_
        try simp only [Act.put, List.setIfInBounds_toArray, List.set_cons_zero, List.set_cons_succ]
        refine uPass (i := 10) (some 71) rfl rfl (by kernel_rfl) (by kernel_rfl) (by kernel_rfl) (by kernel_rfl) (fun _ _ _ h => h) (by rfl) (by assumption) ?_
        try simp only [Act.put, List.setIfInBounds_toArray, List.set_cons_zero, List.set_cons_succ]
        refine uPass (i := 11) (some 72) rfl rfl (by kernel_rfl) (by kernel_rfl) (by kernel_rfl) (by kernel_rfl) (fun _ _ _ h => h) (by rfl) (by assumption) ?_
        try simp only [Act.put, List.setIfInBounds_toArray, List.set_cons_zero, List.set_cons_succ]
        refine uPass (i := 12) (some 73) rfl rfl (by kernel_rfl) (by kernel_rfl) (by kernel_rfl) (by kernel_rfl) (fun _ _ _ h => h) (by rfl) (by assumption) ?_
        try simp only [Act.put, List.setIfInBounds_toArray, List.set_cons_zero, List.set_cons_succ]
        refine uPass (i := 13) (some 74) rfl rfl (by kernel_rfl) (by kernel_rfl) (by kernel_rfl) (by kernel_rfl) (fun _ _ _ h => h) (by rfl) (by assumption) ?_
        try simp only [Act.put, List.setIfInBounds_toArray, List.set_cons_zero, List.set_cons_succ]
        refine uPass (i := 14) (some 75) rfl rfl (by kernel_rfl) (by kernel_rfl) (by kernel_rfl) (by kernel_rfl) (fun _ _ _ h => h) (by rfl) (by assumption) ?_
        try simp only [Act.put, List.setIfInBounds_toArray, List.set_cons_zero, List.set_cons_succ]
        refine uPass (i := 15) (some 76) rfl rfl (by kernel_rfl) (by kernel_rfl) (by kernel_rfl) (by kernel_rfl) (fun _ _ _ h => h) (by rfl) (by assumption) ?_
        try simp only [Act.put, List.setIfInBounds_toArray, List.set_cons_zero, List.set_cons_succ]
        refine uPass (i := 16) (some 77) rfl rfl (by kernel_rfl) (by kernel_rfl) (by kernel_rfl) (by kernel_rfl) (fun _ _ _ h => h) (by rfl) (by assumption) ?_
        try simp only [Act.put, List.setIfInBounds_toArray, List.set_cons_zero, List.set_cons_succ]
        refine uPass (i := 17) (some 78) rfl rfl (by kernel_rfl) (by kernel_rfl) (by kernel_rfl) (by kernel_rfl) (fun _ _ _ h => h) (by rfl) (by assumption) ?_
        try simp only [Act.put, List.setIfInBounds_toArray, List.set_cons_zero, List.set_cons_succ]
        refine uPass (i := 18) (some 79) rfl rfl (by kernel_rfl) (by kernel_rfl) (by kernel_rfl) (by kernel_rfl) (fun _ _ _ h => h) (by rfl) (by assumption) ?_
        try simp only [Act.put, List.setIfInBounds_toArray, List.set_cons_zero, List.set_cons_succ]
        refine uPass (i := 19) (some 80) rfl rfl (by kernel_rfl) (by kernel_rfl) (by kernel_rfl) (by kernel_rfl) (fun _ _ _ h => h) (by rfl) (by assumption) ?_
        try simp only [Act.put, List.setIfInBounds_toArray, List.set_cons_zero, List.set_cons_succ]
        refine uPass (i := 20) (some 81) rfl rfl (by kernel_rfl) (by kernel_rfl) (by kernel_rfl) (by kernel_rfl) (fun _ _ _ h => h) (by rfl) (by assumption) ?_
        try simp only [Act.put, List.setIfInBounds_toArray, List.set_cons_zero, List.set_cons_succ]
        refine uPass (i := 21) (some 82) rfl rfl (by kernel_rfl) (by kernel_rfl) (by kernel_rfl) (by kernel_rfl) (fun _ _ _ h => h) (by rfl) (by assumption) ?_
        try simp only [Act.put, List.setIfInBounds_toArray, List.set_cons_zero, List.set_cons_succ]
        refine uPass (i := 22) (some 83) rfl rfl (by kernel_rfl) (by kernel_rfl) (by kernel_rfl) (by kernel_rfl) (fun _ _ _ h => h) (by rfl) (by assumption) ?_
        try simp only [Act.put, List.setIfInBounds_toArray, List.set_cons_zero, List.set_cons_succ]
        refine uTake (i := 23) (some 84) (v := ?_) rfl rfl (by kernel_rfl) (by kernel_rfl) (by kernel_rfl) (by kernel_rfl) (fun _ _ _ h => h) (by rfl) (by assumption) ?_ ?_
        rotate_left
        · (intro wS hSw; (try dsimp only at hSw); go_simp; try with_reducible rfl)
        try simp only [Act.put, List.setIfInBounds_toArray, List.set_cons_zero, List.set_cons_succ]
        refine uDone (by kernel_rfl) ?_ _
        have EZ := Lib.hid (((((E8.out.drop).forget).forget).forget).forget)
        go_wp2_with (first | (with_reducible refine wpl_alloc_b ?_ ?_ _ zvUse ?_; (· rfl); (· rfl)))
        go_roundg (X.length - (n + 1))
        case rel => exact ⟨n + 1, rfl, EZ, Lib.hid ⟨⟨by omega, rfl⟩, HV2.out⟩⟩
        case measure => exact by omega
      have d6 : decide ((0 : Int) < (n : Int)) = true := decide_eq_true (by omega)
      have d6b : decide (0 < n) = true := decide_eq_true (by omega)
      obtain ⟨m, hm0⟩ : ∃ m, n = m + 1 := ⟨n - 1, by omega⟩
      have HM := Lib.hid hm0
      have hmk : m < X.length := by omega
      have hmI : (m : Int) < (X.length : Int) := by omega
      have wm : IntKind.i64.wrap ((n : Int) - 1) = (m : Int) := by rw [IntKind.wrap_i64]; omega
      clear hz hm0
      obtain ⟨⟨yu, yp, yq⟩, ye⟩ : ∃ x, X[m] = x := ⟨_, rfl⟩
      have yE := Lib.hid ye
      clear ye
      have E8 : Hid (Env D w [(wr.heap.size, 44, usc xu (.slice (some ⟨aab, aao, none⟩) xu.sp.lv.length ak) (.slice ac xu.sp.pa.length aj)), (w.heap.size, 25, [.slice (some ⟨xab, xao, none⟩) X.length xk])] [.gn (gRg xab (xao + m * 83) (usc yu yp yq)), .gn (gSp yu.sp yp yq), .rw (.slice (some ⟨aab, aao, none⟩) xu.sp.lv.length ak) xu.sp.lv.length 3 (lcl xu.sp.lv), .rw (.slice ac xu.sp.pa.length aj) xu.sp.pa.length 32 xu.sp.pa.flatten, .gn (gRg xab (xao + n * 83) (usc xu (.slice (some ⟨aab, aao, none⟩) xu.sp.lv.length ak) (.slice ac xu.sp.pa.length aj))), .gn (gSp xu.sp (.slice (some ⟨aab, aao, none⟩) xu.sp.lv.length ak) (.slice ac xu.sp.pa.length aj)), .gn (gUl (.slice (some ⟨xab, xao, none⟩) X.length xk) X)] _) := Lib.hid (E7.out.elU 4 rfl hmk yE.out)
      clear E7
      have yS := Lib.hid (E8.out.spOk 1 rfl)
      have yN : Hid (∀ v ∈ usc yu yp yq, v.oneCell' = true) := Lib.hid (usc_one yS.out (Rw.oneV (E8.out.fc 1 rfl).2.1) (Rw.oneV (E8.out.fc 1 rfl).2.2))
      have HV1 : Hid ((X.map Uv.u)[m]? = some yu) := Lib.hid (map_get hmk yE.out)
      obtain ⟨o, oh⟩ : ∃ b : Bool, b = true ↔ ltK yu.ua yu.ub xu.ua xu.ub := by by_cases h : ltK yu.ua yu.ub xu.ua xu.ub; (· exact ⟨true, ⟨fun _ => h, fun _ => rfl⟩⟩); exact ⟨false, ⟨fun h2 => Bool.noConfusion h2, fun h2 => absurd h2 h⟩⟩
      have oH := Lib.hid oh
      clear oh
      have HO2 : Hid (o = true → ValidTo (X.map Uv.u) (n + 1)) := Lib.hid (fun ho => HV.out.succ HU.out HOKU.out (fun m2 v e hv => by have e2 := HM.out; have e3 : m2 = m := (by omega); rw [e3, HV1.out] at hv; cases hv; exact oH.out.1 ho))
      have HO1 : Hid (o = false → t = false) := Lib.hid (fun ho => by cases t; (· rfl); exfalso; have h := (ht.out.1 rfl).2.2 m _ _ HV1.out (by have e2 := HM.out; rw [← e2]; exact HU.out); rw [oH.out.2 h] at ho; cases ho)
      cases o with
      | false =>
        have HT : Hid (t = false) := Lib.hid (HO1.out rfl)
        go_wp2_with (first | (with_reducible refine wpl_alloc_b ?_ ?_ _ zvUse ?_; (· rfl); (· rfl)))
        have E9 : Hid (Env D w [(wr.heap.size, 44, usc xu (.slice (some ⟨aab, aao, none⟩) xu.sp.lv.length ak) (.slice ac xu.sp.pa.length aj)), (w.heap.size, 25, [.slice (some ⟨xab, xao, none⟩) X.length xk])] [.gn (gRg xab (xao + m * 83) (usc yu yp yq)), .gn (gSp yu.sp yp yq), .rw (.slice (some ⟨aab, aao, none⟩) xu.sp.lv.length ak) xu.sp.lv.length 3 (lcl xu.sp.lv), .rw (.slice ac xu.sp.pa.length aj) xu.sp.pa.length 32 xu.sp.pa.flatten, .gn (gRg xab (xao + n * 83) (usc xu (.slice (some ⟨aab, aao, none⟩) xu.sp.lv.length ak) (.slice ac xu.sp.pa.length aj))), .gn (gSp xu.sp (.slice (some ⟨aab, aao, none⟩) xu.sp.lv.length ak) (.slice ac xu.sp.pa.length aj)), .gn (gUl (.slice (some ⟨xab, xao, none⟩) X.length xk) X)] (w3.drew)) := Lib.hid E8.out.drew
        clear E8
        refine wp_regionU (S := fun w' => w'.cell? ⟨w.heap.size, 0, none⟩ = some (.slice (some ⟨xab, xao, none⟩) X.length xk) ∧ w'.cell? ⟨xab, xao + m * 83, none⟩ = some (.int .i64 yu.ua) ∧ w'.cell? ⟨xab, xao + m * 83 + 1, none⟩ = some (.int .i64 yu.ub) ∧ w'.cell? ⟨wr.heap.size, 0, none⟩ = some (.int .i64 xu.ua) ∧ w'.cell? ⟨wr.heap.size, 1, none⟩ = some (.int .i64 xu.ub)) [] (by kernel_rfl) (⟨((E9.out.bx 1 rfl).cell 0 rfl), (gRg.cell (E9.out.fc 0 rfl) (j := 0) rfl), (gRg.cell (E9.out.fc 0 rfl) (j := 1) rfl), ((E9.out.bx 0 rfl).cell 0 rfl), ((E9.out.bx 0 rfl).cell 1 rfl)⟩) (fun hHeld => ?_)
        generalize w3.drew = w4 at *
        refine uTake (i := 0) (some 61) (v := ?_) rfl rfl (by kernel_rfl) (by kernel_rfl) (by kernel_rfl) (by kernel_rfl) (fun _ _ _ h => h) (by rfl) (by assumption) ?_ ?_
        rotate_left
        · (intro wS hSw; (try dsimp only at hSw); go_simp; try with_reducible rfl)
        try simp only [Act.put, List.setIfInBounds_toArray, List.set_cons_zero, List.set_cons_succ]
        refine uTake (i := 1) (some 62) (v := ?_) rfl rfl (by kernel_rfl) (by kernel_rfl) (by kernel_rfl) (by kernel_rfl) (fun _ _ _ h => h) (by rfl) (by assumption) ?_ ?_
        rotate_left
        · (intro wS hSw; (try dsimp only at hSw); go_simp; try with_reducible rfl)
        try simp only [Act.put, List.setIfInBounds_toArray, List.set_cons_zero, List.set_cons_succ]
        refine uTake (i := 2) (some 63) (v := ?_) rfl rfl (by kernel_rfl) (by kernel_rfl) (by kernel_rfl) (by kernel_rfl) (fun _ _ _ h => h) (by rfl) (by assumption) ?_ ?_
        rotate_left
        · (intro wS hSw; (try dsimp only at hSw); go_simp; try with_reducible rfl)
        try simp only [Act.put, List.setIfInBounds_toArray, List.set_cons_zero, List.set_cons_succ]
        refine uTake (i := 3) (some 64) (v := ?_) rfl rfl (by kernel_rfl) (by kernel_rfl) (by kernel_rfl) (by kernel_rfl) (fun _ _ _ h => h) (by rfl) (by assumption) ?_ ?_
        rotate_left
        · (intro wS hSw; (try dsimp only at hSw); go_simp; try with_reducible rfl)
        try simp only [Act.put, List.setIfInBounds_toArray, List.set_cons_zero, List.set_cons_succ]
        refine uTake (i := 4) (some 65) (v := ?_) rfl rfl (by kernel_rfl) (by kernel_rfl) (by kernel_rfl) (by kernel_rfl) (fun _ _ _ h => h) (by rfl) (by assumption) ?_ ?_
        rotate_left
        · (intro wS hSw; (try dsimp only at hSw); go_simp; try with_reducible rfl)
        try simp only [Act.put, List.setIfInBounds_toArray, List.set_cons_zero, List.set_cons_succ]
        refine uTake (i := 5) (some 66) (v := ?_) rfl rfl (by kernel_rfl) (by kernel_rfl) (by kernel_rfl) (by kernel_rfl) (fun _ _ _ h => h) (by rfl) (by assumption) ?_ ?_
        rotate_left
        · (intro wS hSw; (try dsimp only at hSw); go_simp; try with_reducible rfl)
        try simp only [Act.put, List.setIfInBounds_toArray, List.set_cons_zero, List.set_cons_succ]
        refine uTake (i := 6) (some 67) (v := ?_) rfl rfl (by kernel_rfl) (by kernel_rfl) (by kernel_rfl) (by kernel_rfl) (fun _ _ _ h => h) (by rfl) (by assumption) ?_ ?_
        rotate_left
        · (intro wS hSw; (try dsimp only at hSw); go_simp; try with_reducible rfl)
        try simp only [Act.put, List.setIfInBounds_toArray, List.set_cons_zero, List.set_cons_succ]
        refine uTake (i := 7) (some 68) (v := ?_) rfl rfl (by kernel_rfl) (by kernel_rfl) (by kernel_rfl) (by kernel_rfl) (fun _ _ _ h => h) (by rfl) (by assumption) ?_ ?_
        rotate_left
        · (intro wS hSw; (try dsimp only at hSw); go_simp; try with_reducible rfl)
        try simp only [Act.put, List.setIfInBounds_toArray, List.set_cons_zero, List.set_cons_succ]
        refine uTake (i := 8) (some 69) (v := ?_) rfl rfl (by kernel_rfl) (by kernel_rfl) (by kernel_rfl) (by kernel_rfl) (fun _ _ _ h => h) (by rfl) (by assumption) ?_ ?_
        rotate_left
        · (intro wS hSw; (try dsimp only at hSw); go_simp; try with_reducible rfl)
        try simp only [Act.put, List.setIfInBounds_toArray, List.set_cons_zero, List.set_cons_succ]
        refine uTake (i := 9) (some 70) (v := ?_) rfl rfl (by kernel_rfl) (by kernel_rfl) (by kernel_rfl) (by kernel_rfl) (fun _ _ _ h => h) (by rfl) (by assumption) ?_ ?_
        rotate_left
        · (intro wS hSw; (try dsimp only at hSw); go_simp; try with_reducible rfl)
        try simp only [Act.put, List.setIfInBounds_toArray, List.set_cons_zero, List.set_cons_succ]
        refine uTake (i := 10) (some 71) (v := ?_) rfl rfl (by kernel_rfl) (by kernel_rfl) (by kernel_rfl) (by kernel_rfl) (fun _ _ _ h => h) (by rfl) (by assumption) ?_ ?_
        rotate_left
        · (intro wS hSw; (try dsimp only at hSw); go_simp; try with_reducible rfl)
        try simp only [Act.put, List.setIfInBounds_toArray, List.set_cons_zero, List.set_cons_succ]
        refine uTake (i := 11) (some 72) (v := ?_) rfl rfl (by kernel_rfl) (by kernel_rfl) (by kernel_rfl) (by kernel_rfl) (fun _ _ _ h => h) (by rfl) (by assumption) ?_ ?_
        rotate_left
        · (intro wS hSw; (try dsimp only at hSw); go_simp; try with_reducible rfl)
        try simp only [Act.put, List.setIfInBounds_toArray, List.set_cons_zero, List.set_cons_succ]
        refine uTake (i := 12) (some 73) (v := ?_) rfl rfl (by kernel_rfl) (by kernel_rfl) (by kernel_rfl) (by kernel_rfl) (fun _ _ _ h => h) (by rfl) (by assumption) ?_ ?_
        rotate_left
        · (intro wS hSw; (try dsimp only at hSw); go_simp; try with_reducible rfl)
        try simp only [Act.put, List.setIfInBounds_toArray, List.set_cons_zero, List.set_cons_succ]
        refine uTake (i := 13) (some 74) (v := ?_) rfl rfl (by kernel_rfl) (by kernel_rfl) (by kernel_rfl) (by kernel_rfl) (fun _ _ _ h => h) (by rfl) (by assumption) ?_ ?_
        rotate_left
        · (intro wS hSw; (try dsimp only at hSw); go_simp; try with_reducible rfl)
        try simp only [Act.put, List.setIfInBounds_toArray, List.set_cons_zero, List.set_cons_succ]
        refine uTake (i := 14) (some 75) (v := ?_) rfl rfl (by kernel_rfl) (by kernel_rfl) (by kernel_rfl) (by kernel_rfl) (fun _ _ _ h => h) (by rfl) (by assumption) ?_ ?_
        rotate_left
        · (intro wS hSw; (try dsimp only at hSw); go_simp; try with_reducible rfl)
        try simp only [Act.put, List.setIfInBounds_toArray, List.set_cons_zero, List.set_cons_succ]
        refine uTake (i := 15) (some 76) (v := ?_) rfl rfl (by kernel_rfl) (by kernel_rfl) (by kernel_rfl) (by kernel_rfl) (fun _ _ _ h => h) (by rfl) (by assumption) ?_ ?_
        rotate_left
        · (intro wS hSw; (try dsimp only at hSw); go_simp; try with_reducible rfl)
        try simp only [Act.put, List.setIfInBounds_toArray, List.set_cons_zero, List.set_cons_succ]
        refine uTake (i := 16) (some 77) (v := ?_) rfl rfl (by kernel_rfl) (by kernel_rfl) (by kernel_rfl) (by kernel_rfl) (fun _ _ _ h => h) (by rfl) (by assumption) ?_ ?_
        rotate_left
        · (intro wS hSw; (try dsimp only at hSw); go_simp; try with_reducible rfl)
        try simp only [Act.put, List.setIfInBounds_toArray, List.set_cons_zero, List.set_cons_succ]
        refine uTake (i := 17) (some 78) (v := ?_) rfl rfl (by kernel_rfl) (by kernel_rfl) (by kernel_rfl) (by kernel_rfl) (fun _ _ _ h => h) (by rfl) (by assumption) ?_ ?_
        rotate_left
        · (intro wS hSw; (try dsimp only at hSw); go_simp; try with_reducible rfl)
        try simp only [Act.put, List.setIfInBounds_toArray, List.set_cons_zero, List.set_cons_succ]
        refine uTake (i := 18) (some 79) (v := ?_) rfl rfl (by kernel_rfl) (by kernel_rfl) (by kernel_rfl) (by kernel_rfl) (fun _ _ _ h => h) (by rfl) (by assumption) ?_ ?_
        rotate_left
        · (intro wS hSw; (try dsimp only at hSw); go_simp; try with_reducible rfl)
        try simp only [Act.put, List.setIfInBounds_toArray, List.set_cons_zero, List.set_cons_succ]
        refine uTake (i := 19) (some 80) (v := ?_) rfl rfl (by kernel_rfl) (by kernel_rfl) (by kernel_rfl) (by kernel_rfl) (fun _ _ _ h => h) (by rfl) (by assumption) ?_ ?_
        rotate_left
        · (intro wS hSw; (try dsimp only at hSw); go_simp; try with_reducible rfl)
        try simp only [Act.put, List.setIfInBounds_toArray, List.set_cons_zero, List.set_cons_succ]
        refine uTake (i := 20) (some 81) (v := ?_) rfl rfl (by kernel_rfl) (by kernel_rfl) (by kernel_rfl) (by kernel_rfl) (fun _ _ _ h => h) (by rfl) (by assumption) ?_ ?_
        rotate_left
        · (intro wS hSw; (try dsimp only at hSw); go_simp; try with_reducible rfl)
        try simp only [Act.put, List.setIfInBounds_toArray, List.set_cons_zero, List.set_cons_succ]
        refine uReady (rs := [21]) (by kernel_rfl) (by simp) ?_
        refine ReadyU.cons rfl (fun KK hKK => ?_) ReadyU.nil
        go_simp
        refine (less_c yu.ua yu.ub xu.ua xu.ub (D := fun _ => True) (t := false) (by first | exact oH.out | simpa using oH.out)).mono ?_
        rintro e w5 ⟨rfl, hb⟩
        have E10 : Hid (Env D w [(wr.heap.size, 44, usc xu (.slice (some ⟨aab, aao, none⟩) xu.sp.lv.length ak) (.slice ac xu.sp.pa.length aj)), (w.heap.size, 25, [.slice (some ⟨xab, xao, none⟩) X.length xk])] [.gn (gRg xab (xao + m * 83) (usc yu yp yq)), .gn (gSp yu.sp yp yq), .rw (.slice (some ⟨aab, aao, none⟩) xu.sp.lv.length ak) xu.sp.lv.length 3 (lcl xu.sp.lv), .rw (.slice ac xu.sp.pa.length aj) xu.sp.pa.length 32 xu.sp.pa.flatten, .gn (gRg xab (xao + n * 83) (usc xu (.slice (some ⟨aab, aao, none⟩) xu.sp.lv.length ak) (.slice ac xu.sp.pa.length aj))), .gn (gSp xu.sp (.slice (some ⟨aab, aao, none⟩) xu.sp.lv.length ak) (.slice ac xu.sp.pa.length aj)), .gn (gUl (.slice (some ⟨xab, xao, none⟩) X.length xk) X)] w5) := Lib.hid (E9.out.below hb)
        clear E9 hb
        (try dsimp only)
        clear hHeld
        refine hKK.out _ _ (⟨((E10.out.bx 1 rfl).cell 0 rfl), (gRg.cell (E10.out.fc 0 rfl) (j := 0) rfl), (gRg.cell (E10.out.fc 0 rfl) (j := 1) rfl), ((E10.out.bx 0 rfl).cell 0 rfl), ((E10.out.bx 0 rfl).cell 1 rfl)⟩) (fun hHeld => ?_)
        clear hKK KK
        try simp only [Act.put, List.setIfInBounds_toArray, List.set_cons_zero, List.set_cons_succ]
        refine uTake (i := 22) (some 83) (v := ?_) rfl rfl (by kernel_rfl) (by kernel_rfl) (by kernel_rfl) (by kernel_rfl) (fun _ _ _ h => h) (by rfl) (by assumption) ?_ ?_
        rotate_left
        · (intro wS hSw; (try dsimp only at hSw); go_simp; try with_reducible rfl)
        try simp only [Act.put, List.setIfInBounds_toArray, List.set_cons_zero, List.set_cons_succ]
        refine uTake (i := 23) (some 84) (v := ?_) rfl rfl (by kernel_rfl) (by kernel_rfl) (by kernel_rfl) (by kernel_rfl) (fun _ _ _ h => h) (by rfl) (by assumption) ?_ ?_
        rotate_left
        · (intro wS hSw; (try dsimp only at hSw); go_simp; try with_reducible rfl)
        try simp only [Act.put, List.setIfInBounds_toArray, List.set_cons_zero, List.set_cons_succ]
        refine uDone (by kernel_rfl) ?_ _
        have hfin := Lib.hid E10.out.bel
        go_wp2_with (first | (with_reducible refine wpl_alloc_b ?_ ?_ _ zvUse ?_; (· rfl); (· rfl)))
        go_ret
        exact ⟨RetEqB HT.out.symm, hfin.out⟩
      | true =>
        have HV2 : Hid (ValidTo (X.map Uv.u) (n + 1)) := Lib.hid (HO2.out rfl)
        go_wp2_with (first | (with_reducible refine wpl_alloc_b ?_ ?_ _ zvUse ?_; (· rfl); (· rfl)))
        have E9 : Hid (Env D w [(wr.heap.size, 44, usc xu (.slice (some ⟨aab, aao, none⟩) xu.sp.lv.length ak) (.slice ac xu.sp.pa.length aj)), (w.heap.size, 25, [.slice (some ⟨xab, xao, none⟩) X.length xk])] [.gn (gRg xab (xao + m * 83) (usc yu yp yq)), .gn (gSp yu.sp yp yq), .rw (.slice (some ⟨aab, aao, none⟩) xu.sp.lv.length ak) xu.sp.lv.length 3 (lcl xu.sp.lv), .rw (.slice ac xu.sp.pa.length aj) xu.sp.pa.length 32 xu.sp.pa.flatten, .gn (gRg xab (xao + n * 83) (usc xu (.slice (some ⟨aab, aao, none⟩) xu.sp.lv.length ak) (.slice ac xu.sp.pa.length aj))), .gn (gSp xu.sp (.slice (some ⟨aab, aao, none⟩) xu.sp.lv.length ak) (.slice ac xu.sp.pa.length aj)), .gn (gUl (.slice (some ⟨xab, xao, none⟩) X.length xk) X)] (w3.drew)) := Lib.hid E8.out.drew
        clear E8
        refine wp_regionU (S := fun w' => w'.cell? ⟨w.heap.size, 0, none⟩ = some (.slice (some ⟨xab, xao, none⟩) X.length xk) ∧ w'.cell? ⟨xab, xao + m * 83, none⟩ = some (.int .i64 yu.ua) ∧ w'.cell? ⟨xab, xao + m * 83 + 1, none⟩ = some (.int .i64 yu.ub) ∧ w'.cell? ⟨wr.heap.size, 0, none⟩ = some (.int .i64 xu.ua) ∧ w'.cell? ⟨wr.heap.size, 1, none⟩ = some (.int .i64 xu.ub)) [] (by kernel_rfl) (⟨((E9.out.bx 1 rfl).cell 0 rfl), (gRg.cell (E9.out.fc 0 rfl) (j := 0) rfl), (gRg.cell (E9.out.fc 0 rfl) (j := 1) rfl), ((E9.out.bx 0 rfl).cell 0 rfl), ((E9.out.bx 0 rfl).cell 1 rfl)⟩) (fun hHeld => ?_)
        generalize w3.drew = w4 at *
        refine uTake (i := 0) (some 61) (v := ?_) rfl rfl (by kernel_rfl) (by kernel_rfl) (by kernel_rfl) (by kernel_rfl) (fun _ _ _ h => h) (by rfl) (by assumption) ?_ ?_
        rotate_left
        · (intro wS hSw; (try dsimp only at hSw); go_simp; try with_reducible rfl)
        try simp only [Act.put, List.setIfInBounds_toArray, List.set_cons_zero, List.set_cons_succ]
        refine uTake (i := 1) (some 62) (v := ?_) rfl rfl (by kernel_rfl) (by kernel_rfl) (by kernel_rfl) (by kernel_rfl) (fun _ _ _ h => h) (by rfl) (by assumption) ?_ ?_
        rotate_left
        · (intro wS hSw; (try dsimp only at hSw); go_simp; try with_reducible rfl)
        try simp only [Act.put, List.setIfInBounds_toArray, List.set_cons_zero, List.set_cons_succ]
        refine uTake (i := 2) (some 63) (v := ?_) rfl rfl (by kernel_rfl) (by kernel_rfl) (by kernel_rfl) (by kernel_rfl) (fun _ _ _ h => h) (by rfl) (by assumption) ?_ ?_
        rotate_left
        · (intro wS hSw; (try dsimp only at hSw); go_simp; try with_reducible rfl)
        try simp only [Act.put, List.setIfInBounds_toArray, List.set_cons_zero, List.set_cons_succ]
        refine uTake (i := 3) (some 64) (v := ?_) rfl rfl (by kernel_rfl) (by kernel_rfl) (by kernel_rfl) (by kernel_rfl) (fun _ _ _ h => h) (by rfl) (by assumption) ?_ ?_
        rotate_left
        · (intro wS hSw; (try dsimp only at hSw); go_simp; try with_reducible rfl)
        try simp only [Act.put, List.setIfInBounds_toArray, List.set_cons_zero, List.set_cons_succ]
        refine uTake (i := 4) (some 65) (v := ?_) rfl rfl (by kernel_rfl) (by kernel_rfl) (by kernel_rfl) (by kernel_rfl) (fun _ _ _ h => h) (by rfl) (by assumption) ?_ ?_
        rotate_left
        · (intro wS hSw; (try dsimp only at hSw); go_simp; try with_reducible rfl)
        try simp only [Act.put, List.setIfInBounds_toArray, List.set_cons_zero, List.set_cons_succ]
        refine uTake (i := 5) (some 66) (v := ?_) rfl rfl (by kernel_rfl) (by kernel_rfl) (by kernel_rfl) (by kernel_rfl) (fun _ _ _ h => h) (by rfl) (by assumption) ?_ ?_
        rotate_left
        · (intro wS hSw; (try dsimp only at hSw); go_simp; try with_reducible rfl)
        try simp only [Act.put, List.setIfInBounds_toArray, List.set_cons_zero, List.set_cons_succ]
        refine uTake (i := 6) (some 67) (v := ?_) rfl rfl (by kernel_rfl) (by kernel_rfl) (by kernel_rfl) (by kernel_rfl) (fun _ _ _ h => h) (by rfl) (by assumption) ?_ ?_
        rotate_left
        · (intro wS hSw; (try dsimp only at hSw); go_simp; try with_reducible rfl)
        try simp only [Act.put, List.setIfInBounds_toArray, List.set_cons_zero, List.set_cons_succ]
        refine uTake (i := 7) (some 68) (v := ?_) rfl rfl (by kernel_rfl) (by kernel_rfl) (by kernel_rfl) (by kernel_rfl) (fun _ _ _ h => h) (by rfl) (by assumption) ?_ ?_
        rotate_left
        · (intro wS hSw; (try dsimp only at hSw); go_simp; try with_reducible rfl)
        try simp only [Act.put, List.setIfInBounds_toArray, List.set_cons_zero, List.set_cons_succ]
        refine uTake (i := 8) (some 69) (v := ?_) rfl rfl (by kernel_rfl) (by kernel_rfl) (by kernel_rfl) (by kernel_rfl) (fun _ _ _ h => h) (by rfl) (by assumption) ?_ ?_
        rotate_left
        · (intro wS hSw; (try dsimp only at hSw); go_simp; try with_reducible rfl)
        try simp only [Act.put, List.setIfInBounds_toArray, List.set_cons_zero, List.set_cons_succ]
        refine uTake (i := 9) (some 70) (v := ?_) rfl rfl (by kernel_rfl) (by kernel_rfl) (by kernel_rfl) (by kernel_rfl) (fun _ _ _ h => h) (by rfl) (by assumption) ?_ ?_
        rotate_left
        · (intro wS hSw; (try dsimp only at hSw); go_simp; try with_reducible rfl)
        try simp only [Act.put, List.setIfInBounds_toArray, List.set_cons_zero, List.set_cons_succ]
        refine uTake (i := 10) (some 71) (v := ?_) rfl rfl (by kernel_rfl) (by kernel_rfl) (by kernel_rfl) (by kernel_rfl) (fun _ _ _ h => h) (by rfl) (by assumption) ?_ ?_
        rotate_left
        · (intro wS hSw; (try dsimp only at hSw); go_simp; try with_reducible rfl)
        try simp only [Act.put, List.setIfInBounds_toArray, List.set_cons_zero, List.set_cons_succ]
        refine uTake (i := 11) (some 72) (v := ?_) rfl rfl (by kernel_rfl) (by kernel_rfl) (by kernel_rfl) (by kernel_rfl) (fun _ _ _ h => h) (by rfl) (by assumption) ?_ ?_
        rotate_left
        · (intro wS hSw; (try dsimp only at hSw); go_simp; try with_reducible rfl)
        try simp only [Act.put, List.setIfInBounds_toArray, List.set_cons_zero, List.set_cons_succ]
        refine uTake (i := 12) (some 73) (v := ?_) rfl rfl (by kernel_rfl) (by kernel_rfl) (by kernel_rfl) (by kernel_rfl) (fun _ _ _ h => h) (by rfl) (by assumption) ?_ ?_
        rotate_left
        · (intro wS hSw; (try dsimp only at hSw); go_simp; try with_reducible rfl)
        try simp only [Act.put, List.setIfInBounds_toArray, List.set_cons_zero, List.set_cons_succ]
        refine uTake (i := 13) (some 74) (v := ?_) rfl rfl (by kernel_rfl) (by kernel_rfl) (by kernel_rfl) (by kernel_rfl) (fun _ _ _ h => h) (by rfl) (by assumption) ?_ ?_
        rotate_left
        · (intro wS hSw; (try dsimp only at hSw); go_simp; try with_reducible rfl)
        try simp only [Act.put, List.setIfInBounds_toArray, List.set_cons_zero, List.set_cons_succ]
        refine uTake (i := 14) (some 75) (v := ?_) rfl rfl (by kernel_rfl) (by kernel_rfl) (by kernel_rfl) (by kernel_rfl) (fun _ _ _ h => h) (by rfl) (by assumption) ?_ ?_
        rotate_left
        · (intro wS hSw; (try dsimp only at hSw); go_simp; try with_reducible rfl)
        try simp only [Act.put, List.setIfInBounds_toArray, List.set_cons_zero, List.set_cons_succ]
        refine uTake (i := 15) (some 76) (v := ?_) rfl rfl (by kernel_rfl) (by kernel_rfl) (by kernel_rfl) (by kernel_rfl) (fun _ _ _ h => h) (by rfl) (by assumption) ?_ ?_
        rotate_left
        · (intro wS hSw; (try dsimp only at hSw); go_simp; try with_reducible rfl)
        try simp only [Act.put, List.setIfInBounds_toArray, List.set_cons_zero, List.set_cons_succ]
        refine uTake (i := 16) (some 77) (v := ?_) rfl rfl (by kernel_rfl) (by kernel_rfl) (by kernel_rfl) (by kernel_rfl) (fun _ _ _ h => h) (by rfl) (by assumption) ?_ ?_
        rotate_left
        · (intro wS hSw; (try dsimp only at hSw); go_simp; try with_reducible rfl)
        try simp only [Act.put, List.setIfInBounds_toArray, List.set_cons_zero, List.set_cons_succ]
        refine uTake (i := 17) (some 78) (v := ?_) rfl rfl (by kernel_rfl) (by kernel_rfl) (by kernel_rfl) (by kernel_rfl) (fun _ _ _ h => h) (by rfl) (by assumption) ?_ ?_
        rotate_left
        · (intro wS hSw; (try dsimp only at hSw); go_simp; try with_reducible rfl)
        try simp only [Act.put, List.setIfInBounds_toArray, List.set_cons_zero, List.set_cons_succ]
        refine uTake (i := 18) (some 79) (v := ?_) rfl rfl (by kernel_rfl) (by kernel_rfl) (by kernel_rfl) (by kernel_rfl) (fun _ _ _ h => h) (by rfl) (by assumption) ?_ ?_
        rotate_left
        · (intro wS hSw; (try dsimp only at hSw); go_simp; try with_reducible rfl)
        try simp only [Act.put, List.setIfInBounds_toArray, List.set_cons_zero, List.set_cons_succ]
        refine uTake (i := 19) (some 80) (v := ?_) rfl rfl (by kernel_rfl) (by kernel_rfl) (by kernel_rfl) (by kernel_rfl) (fun _ _ _ h => h) (by rfl) (by assumption) ?_ ?_
        rotate_left
        · (intro wS hSw; (try dsimp only at hSw); go_simp; try with_reducible rfl)
        try simp only [Act.put, List.setIfInBounds_toArray, List.set_cons_zero, List.set_cons_succ]
        refine uTake (i := 20) (some 81) (v := ?_) rfl rfl (by kernel_rfl) (by kernel_rfl) (by kernel_rfl) (by kernel_rfl) (fun _ _ _ h => h) (by rfl) (by assumption) ?_ ?_
        rotate_left
        · (intro wS hSw; (try dsimp only at hSw); go_simp; try with_reducible rfl)
        try simp only [Act.put, List.setIfInBounds_toArray, List.set_cons_zero, List.set_cons_succ]
        refine uReady (rs := [21]) (by kernel_rfl) (by simp) ?_
        refine ReadyU.cons rfl (fun KK hKK => ?_) ReadyU.nil
        go_simp
        refine (less_c yu.ua yu.ub xu.ua xu.ub (D := fun _ => True) (t := true) (by first | exact oH.out | simpa using oH.out)).mono ?_
        rintro e w5 ⟨rfl, hb⟩
        have E10 : Hid (Env D w [(wr.heap.size, 44, usc xu (.slice (some ⟨aab, aao, none⟩) xu.sp.lv.length ak) (.slice ac xu.sp.pa.length aj)), (w.heap.size, 25, [.slice (some ⟨xab, xao, none⟩) X.length xk])] [.gn (gRg xab (xao + m * 83) (usc yu yp yq)), .gn (gSp yu.sp yp yq), .rw (.slice (some ⟨aab, aao, none⟩) xu.sp.lv.length ak) xu.sp.lv.length 3 (lcl xu.sp.lv), .rw (.slice ac xu.sp.pa.length aj) xu.sp.pa.length 32 xu.sp.pa.flatten, .gn (gRg xab (xao + n * 83) (usc xu (.slice (some ⟨aab, aao, none⟩) xu.sp.lv.length ak) (.slice ac xu.sp.pa.length aj))), .gn (gSp xu.sp (.slice (some ⟨aab, aao, none⟩) xu.sp.lv.length ak) (.slice ac xu.sp.pa.length aj)), .gn (gUl (.slice (some ⟨xab, xao, none⟩) X.length xk) X)] w5) := Lib.hid (E9.out.below hb)
        clear E9 hb
        (try dsimp only)
        clear hHeld
        refine hKK.out _ _ (⟨((E10.out.bx 1 rfl).cell 0 rfl), (gRg.cell (E10.out.fc 0 rfl) (j := 0) rfl), (gRg.cell (E10.out.fc 0 rfl) (j := 1) rfl), ((E10.out.bx 0 rfl).cell 0 rfl), ((E10.out.bx 0 rfl).cell 1 rfl)⟩) (fun hHeld => ?_)
        clear hKK KK
        try simp only [Act.put, List.setIfInBounds_toArray, List.set_cons_zero, List.set_cons_succ]
        refine uTake (i := 22) (some 83) (v := ?_) rfl rfl (by kernel_rfl) (by kernel_rfl) (by kernel_rfl) (by kernel_rfl) (fun _ _ _ h => h) (by rfl) (by assumption) ?_ ?_
        rotate_left
        · (intro wS hSw; (try dsimp only at hSw); go_simp; try with_reducible rfl)
        try simp only [Act.put, List.setIfInBounds_toArray, List.set_cons_zero, List.set_cons_succ]
        refine uTake (i := 23) (some 84) (v := ?_) rfl rfl (by kernel_rfl) (by kernel_rfl) (by kernel_rfl) (by kernel_rfl) (fun _ _ _ h => h) (by rfl) (by assumption) ?_ ?_
        rotate_left
        · (intro wS hSw; (try dsimp only at hSw); go_simp; try with_reducible rfl)
        try simp only [Act.put, List.setIfInBounds_toArray, List.set_cons_zero, List.set_cons_succ]
        refine uDone (by kernel_rfl) ?_ _
        have EZ := Lib.hid (((((((E10.out.drop).forget).forget).forget).forget).forget).forget)
        go_wp2_with (first | (with_reducible refine wpl_alloc_b ?_ ?_ _ zvUse ?_; (· rfl); (· rfl)))
        go_roundg (X.length - (n + 1))
        case rel => exact ⟨n + 1, rfl, EZ, Lib.hid ⟨⟨by omega, rfl⟩, HV2.out⟩⟩
        case measure => exact by omega
end Go.Proofs.Ytfnnfmefihiefaa

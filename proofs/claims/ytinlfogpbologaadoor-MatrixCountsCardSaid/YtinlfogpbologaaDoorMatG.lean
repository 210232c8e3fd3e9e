/- matrix: eliminate. -/
import Derived.Test.YtinlfogpbologaaDoorMatF
namespace Go.Proofs.YtinlfogpbologaaDoor
open Go.RowKit DivMath WordMath
set_option linter.unusedVariables false
set_option linter.unusedSimpArgs false
theorem winv_c (q a : Nat) (w : World) (ha : (a : Int) < (q : Int)) (hq : 2 ≤ q) (hm : (q : Int) < Top) {i : Nat} (hi : invN q a = i) :
    Calls Tryd.prog 137 #[.int .i64 a, .int .i64 q] w fun e w' => (∃ c : Int, e = .returned (.tuple #[.int .i64 (i : Nat), .int .i64 c])) ∧ Below w.heap.size w w' := by
  by_cases h : Nat.gcd a q = 1
  · refine (Inverse_ok a q w ha hm h).mono ?_
    rintro e w' ⟨⟨r, hr, rfl⟩, n, rfl⟩
    have e2 := invN_eq hr.out.1 hr.out.2
    rw [hi] at e2
    subst e2
    exact ⟨⟨_, rfl⟩, below_drewN (Below.refl _ _) _⟩
  · refine (Inverse_none a q w ha hm h).mono ?_
    rintro e w' ⟨rfl, n, rfl⟩
    have e2 := invN_none hq h
    rw [hi] at e2
    subst e2
    exact ⟨⟨_, rfl⟩, below_drewN (Below.refl _ _) _⟩
section
variable {q n row col i j k : Nat} {L M : List (List Nat)} {l p : List Nat}
theorem setL_get (hr : row < L.length) (hi : i < L.length) : (L.set row p)[i]? = if row = i then some p else some L[i] := by
  rw [List.getElem?_set]
  by_cases e : row = i
  · subst e; rw [if_pos rfl, if_pos rfl, if_pos hr]
  · rw [if_neg e, if_neg e, List.getElem?_eq_getElem hi]
/-- row i of what is half eliminated -/
theorem half_row (hr : row < L.length) (hi : i < L.length) (h : (mix (elimL q L row col) (L.set row (pivR q L row col)) i)[i]? = some l) (hne : ¬ i = row) : l = L[i] := by
  rw [mix_old (by simp [elimL_len]) (Nat.le_refl _), setL_get hr hi, if_neg (fun e => hne e.symm)] at h
  exact (Option.some.inj h).symm
theorem half_piv (hr : row < L.length) (hi : i < L.length) : (mix (elimL q L row col) (L.set row (pivR q L row col)) i)[row]? = some (pivR q L row col) := by
  by_cases h : row < i
  · rw [mix_new h (by rw [elimL_len]; omega), elimL_get hr]; unfold elimR; rw [if_pos rfl]
  · rw [mix_old (by simp [elimL_len]) (by omega), List.getElem?_set_self hr]
theorem half_skip (hr : row < L.length) (hi : i < L.length) (h : i = row ∨ (q - L[i].getD col 0) % q = 0 ∧ ∀ x ∈ L[i], x < q) : mix (elimL q L row col) (L.set row (pivR q L row col)) i = mix (elimL q L row col) (L.set row (pivR q L row col)) (i + 1) := by
  refine mix_skip (by simp [elimL_len]) (by rw [elimL_len]; exact hi) ?_
  rw [elimL_get hi, setL_get hr hi]
  unfold elimR
  by_cases e : i = row
  · rw [if_pos e, if_pos e.symm]
  · rw [if_neg e, if_neg (fun h => e h.symm)]
    rcases h with h | ⟨h1, h2⟩
    · exact absurd h e
    · rw [h1, admN_zero h2]
theorem half_set (hr : row < L.length) (hi : i < L.length) (hne : ¬ i = row) : (mix (elimL q L row col) (L.set row (pivR q L row col)) i).set i (admN q L[i] ((q - L[i].getD col 0) % q) (pivR q L row col)) = mix (elimL q L row col) (L.set row (pivR q L row col)) (i + 1) := by
  refine mix_set (by simp [elimL_len]) (by rw [elimL_len]; exact hi) ?_
  rw [elimL_get hi]
  unfold elimR
  rw [if_neg hne]
theorem setL_same (h : L[i]? = some l) : L.set i l = L := by
  apply List.ext_getElem?
  intro k
  rw [List.getElem?_set]
  by_cases e : i = k
  · subst e; rw [if_pos rfl, if_pos (List.getElem?_eq_some_iff.1 h).1, h]
  · rw [if_neg e]
end
set_option maxRecDepth 100000 in
set_option maxHeartbeats 8000000 in
theorem elim_c (q n row col : Nat) (R : List Rb) {g : Nat} {D : Nat → Prop} {w0 w : World} {A0 B0 : List Bx} {G0 : List Fct} (E0 : Hid (Env D w0 (A0 ++ (mbx g R ++ B0)) G0 w)) (hq0 : 2 ≤ q) (hqT0 : (q : Int) < Top) (hres0 : ResM q n (mrows R)) (hrow : row < R.length) (hcol0 : col < n) (hR : R.length ≤ 1000) (hn0 : n ≤ 1000) (hcap0 : CapOk R) :
    Calls Tryd.prog 119 #[.int .i64 (q : Nat), .slice (some ⟨g, 0, none⟩) R.length R.length, .int .i64 (row : Nat), .int .i64 (col : Nat)] w fun e w' => e = .returned (.tuple #[]) ∧ ∃ R', Hid (mrows R' = elimL q (mrows R) row col ∧ CapOk R') ∧ Hid (Env D w0 (A0 ++ (mbx g R' ++ B0)) G0 w') := by
  go_enter Tryd.func119, Tryd.ntmps119
  have hq := Lib.hid hq0
  have hqT := Lib.hid hqT0
  have hres := Lib.hid hres0
  have hcol := Lib.hid hcol0
  have hn := Lib.hid hn0
  have hcap := Lib.hid hcap0
  clear hq0 hqT0 hres0 hcol0 hn0 hcap0
  have hq1 : Hid (0 < q) := Lib.hid (by have := hq.out; omega)
  have HLR : Hid ((mrows R).length = R.length) := Lib.hid (List.length_map ..)
  have HRL : Hid (row < (mrows R).length) := Lib.hid (by rw [HLR.out]; exact hrow)
  have hrI : (row : Int) < (R.length : Int) := by omega
  obtain ⟨⟨tb, tl, tx⟩, te⟩ : ∃ r, R[row]? = some r := ⟨_, List.getElem?_eq_getElem hrow⟩
  have tE := Lib.hid te
  clear te
  have mh1 : World.cell? _ ⟨g, row, none⟩ = some (.slice (some ⟨tb, 0, none⟩) tl.length (tl.length + tx.length)) := E0.out.mhd (A := A0) (B := B0) rfl tE.out
  have HTG : Hid ((mrows R)[row]? = some tl) := Lib.hid (mrows_get tE.out)
  have HTL : Hid (tl.length = n ∧ ∀ x ∈ tl, x < q) := Lib.hid (hres.out _ (List.mem_of_getElem? HTG.out))
  have hct : col < tl.length := by rw [HTL.out.1]; exact hcol.out
  have hctI : (col : Int) < (tl.length : Int) := by omega
  have htq : ((tl[col] : Nat) : Int) < (q : Int) := Int.ofNat_lt.2 (HTL.out.2 _ (List.getElem_mem hct))
  have htn9 : tl.length ≤ 1000 := by rw [HTL.out.1]; exact hn.out
  obtain ⟨iv, hiv⟩ : ∃ i, invN q tl[col] = i := ⟨_, rfl⟩
  have HIV := Lib.hid hiv
  clear hiv
  have HIQ : Hid (iv < q) := Lib.hid (by rw [← HIV.out]; exact invN_lt hq1.out)
  have hivq : (iv : Int) < (q : Int) := Int.ofNat_lt.2 HIQ.out
  have HP : Hid (pivR q (mrows R) row col = sclN q tl iv) := Lib.hid (by unfold pivR; rw [getD_of HTG.out, getD_elem hct, HIV.out])
  have mc2 : World.cell? _ ⟨tb, col, none⟩ = some (.int .i64 (tl[col] : Nat)) := E0.out.mcell (A := A0) (B := B0) rfl tE.out hct
  go_wp2_with fail
  refine (winv_c q tl[col] _ htq hq.out hqT.out HIV.out).mono ?_
  rintro e w1 ⟨⟨ic, rfl⟩, hb⟩
  have E1 : Hid (Env D w0 (A0 ++ ((mbx g R) ++ B0)) G0 w1) := Lib.hid (E0.out.below hb)
  clear mh1 mc2 E0 hb
  have mh3 : World.cell? _ ⟨g, row, none⟩ = some (.slice (some ⟨tb, 0, none⟩) tl.length (tl.length + tx.length)) := E1.out.mhd (A := A0) (B := B0) rfl tE.out
  go_wp2_with fail
  go_loopg [31] (tl.length) (fun gk s31 wr => ∃ (k : Nat) (R1 : List Rb), s31 = .int .i64 (k : Int) ∧ Hid (Env D w0 (A0 ++ ((mbx g R1) ++ B0)) G0 wr) ∧ Hid ((k ≤ tl.length ∧ gk = tl.length - k) ∧ mrows R1 = (mrows R).set row (mix (sclN q tl iv) tl k) ∧ CapOk R1))
  case atStart => exact ⟨0, R, rfl, Lib.hid E1.out, Lib.hid ⟨⟨Nat.zero_le _, rfl⟩, by rw [mix_zero, setL_same HTG.out], hcap.out⟩⟩
  case round =>
    clear mh3 E1
    obtain ⟨k, R1, rfl, EL, HA⟩ := hrel
    obtain ⟨⟨a1, a2⟩, a3, a4⟩ := HA.out
    have HS := Lib.hid a3
    have HC1 := Lib.hid a4
    clear a3 a4 HA
    have HL1 : Hid (R1.length = R.length) := Lib.hid (by have h := congrArg List.length HS.out; simpa using h)
    by_cases hy : k = tl.length
    rotate_left
    · have hk : k < tl.length := by omega
      have t6 : decide ((k : Int) < (tl.length : Int)) = true := decide_eq_true (by omega)
      have t7 : decide (k < tl.length) = true := decide_eq_true hk
      clear hy
      go_upto_region 4 with (fail)
      have hr1 : row < R1.length := by rw [HL1.out]; exact hrow
      obtain ⟨⟨sb, sl, sx⟩, se⟩ : ∃ r, R1[row]? = some r := ⟨_, List.getElem?_eq_getElem hr1⟩
      have sE := Lib.hid se
      clear se
      have HSG : Hid (sl = mix (sclN q tl iv) tl k) := Lib.hid (by have h := mrows_get sE.out; rw [HS.out, List.getElem?_set_self HRL.out] at h; exact (Option.some.inj h).symm)
      have hsl : sl.length = tl.length := by rw [HSG.out, mix_len sclN_len, sclN_len]
      have hks : k < sl.length := by omega
      have hksI : (k : Int) < (sl.length : Int) := by omega
      have HSK : Hid (sl[k] = tl[k]) := Lib.hid (by have h := mix_old (k := k) (j := k) (sclN_len (q := q) (c := iv) (r := tl)) (Nat.le_refl _); rw [← HSG.out, List.getElem?_eq_getElem hks, List.getElem?_eq_getElem hk] at h; exact Option.some.inj h)
      have hsq : ((sl[k] : Nat) : Int) < (q : Int) := by rw [HSK.out]; exact Int.ofNat_lt.2 (HTL.out.2 _ (List.getElem_mem hk))
      go_wp2_with fail
      have E2 : Hid (Env D w0 (A0 ++ ((mbx g R1) ++ B0)) G0 (wr.drew)) := Lib.hid EL.out.drew
      clear EL
      refine wp_regionU (S := fun w' => w'.cell? ⟨g, row, none⟩ = some (.slice (some ⟨sb, 0, none⟩) sl.length (sl.length + sx.length)) ∧ w'.cell? ⟨sb, k, none⟩ = some (.int .i64 (sl[k] : Nat))) [16] (by kernel_rfl) (⟨E2.out.mhd (A := A0) (B := B0) rfl sE.out, E2.out.mcell (A := A0) (B := B0) rfl sE.out hks⟩) (fun hHeld => ?_)
      generalize wr.drew = w2 at *
      refine uTake (i := 0) (some 34) (v := ?_) rfl rfl (by kernel_rfl) (by kernel_rfl) (by kernel_rfl) (by kernel_rfl) (fun _ _ _ h => h) (by rfl) (by assumption) ?_ ?_
      rotate_left
      · (intro wS hSw; (try dsimp only at hSw); go_simp; try with_reducible rfl)
      try simp only [Act.put, List.setIfInBounds_toArray, List.set_cons_zero, List.set_cons_succ]
      refine uTake (i := 1) (some 35) (v := ?_) rfl rfl (by kernel_rfl) (by kernel_rfl) (by kernel_rfl) (by kernel_rfl) (fun _ _ _ h => h) (by rfl) (by assumption) ?_ ?_
      rotate_left
      · (intro wS hSw; (try dsimp only at hSw); go_simp; try with_reducible rfl)
      try simp only [Act.put, List.setIfInBounds_toArray, List.set_cons_zero, List.set_cons_succ]
      refine uTake (i := 2) (some 36) (v := ?_) rfl rfl (by kernel_rfl) (by kernel_rfl) (by kernel_rfl) (by kernel_rfl) (fun _ _ _ h => h) (by rfl) (by assumption) ?_ ?_
      rotate_left
      · (intro wS hSw; (try dsimp only at hSw); go_simp; try with_reducible rfl)
      try simp only [Act.put, List.setIfInBounds_toArray, List.set_cons_zero, List.set_cons_succ]
      refine uTake (i := 3) (some 37) (v := ?_) rfl rfl (by kernel_rfl) (by kernel_rfl) (by kernel_rfl) (by kernel_rfl) (fun _ _ _ h => h) (by rfl) (by assumption) ?_ ?_
      rotate_left
      · (intro wS hSw; (try dsimp only at hSw); go_simp; try with_reducible rfl)
      try simp only [Act.put, List.setIfInBounds_toArray, List.set_cons_zero, List.set_cons_succ]
      refine uTake (i := 4) (some 38) (v := ?_) rfl rfl (by kernel_rfl) (by kernel_rfl) (by kernel_rfl) (by kernel_rfl) (fun _ _ _ h => h) (by rfl) (by assumption) ?_ ?_
      rotate_left
      · (intro wS hSw; (try dsimp only at hSw); go_simp; try with_reducible rfl)
      try simp only [Act.put, List.setIfInBounds_toArray, List.set_cons_zero, List.set_cons_succ]
      refine uTake (i := 5) (some 39) (v := ?_) rfl rfl (by kernel_rfl) (by kernel_rfl) (by kernel_rfl) (by kernel_rfl) (fun _ _ _ h => h) (by rfl) (by assumption) ?_ ?_
      rotate_left
      · (intro wS hSw; (try dsimp only at hSw); go_simp; try with_reducible rfl)
      try simp only [Act.put, List.setIfInBounds_toArray, List.set_cons_zero, List.set_cons_succ]
      refine uTake (i := 6) (some 40) (v := ?_) rfl rfl (by kernel_rfl) (by kernel_rfl) (by kernel_rfl) (by kernel_rfl) (fun _ _ _ h => h) (by rfl) (by assumption) ?_ ?_
      rotate_left
      · (intro wS hSw; (try dsimp only at hSw); go_simp; try with_reducible rfl)
      try simp only [Act.put, List.setIfInBounds_toArray, List.set_cons_zero, List.set_cons_succ]
      refine uTake (i := 7) (some 41) (v := ?_) rfl rfl (by kernel_rfl) (by kernel_rfl) (by kernel_rfl) (by kernel_rfl) (fun _ _ _ h => h) (by rfl) (by assumption) ?_ ?_
      rotate_left
      · (intro wS hSw; (try dsimp only at hSw); go_simp; try with_reducible rfl)
      try simp only [Act.put, List.setIfInBounds_toArray, List.set_cons_zero, List.set_cons_succ]
      refine uTake (i := 8) (some 42) (v := ?_) rfl rfl (by kernel_rfl) (by kernel_rfl) (by kernel_rfl) (by kernel_rfl) (fun _ _ _ h => h) (by rfl) (by assumption) ?_ ?_
      rotate_left
      · (intro wS hSw; (try dsimp only at hSw); go_simp; try with_reducible rfl)
      try simp only [Act.put, List.setIfInBounds_toArray, List.set_cons_zero, List.set_cons_succ]
      refine uTake (i := 9) (some 43) (v := ?_) rfl rfl (by kernel_rfl) (by kernel_rfl) (by kernel_rfl) (by kernel_rfl) (fun _ _ _ h => h) (by rfl) (by assumption) ?_ ?_
      rotate_left
      · (intro wS hSw; (try dsimp only at hSw); go_simp; try with_reducible rfl)
      try simp only [Act.put, List.setIfInBounds_toArray, List.set_cons_zero, List.set_cons_succ]
      refine uTake (i := 10) (some 44) (v := ?_) rfl rfl (by kernel_rfl) (by kernel_rfl) (by kernel_rfl) (by kernel_rfl) (fun _ _ _ h => h) (by rfl) (by assumption) ?_ ?_
      rotate_left
      · (intro wS hSw; (try dsimp only at hSw); go_simp; try with_reducible rfl)
      try simp only [Act.put, List.setIfInBounds_toArray, List.set_cons_zero, List.set_cons_succ]
      refine uTake (i := 11) (some 45) (v := ?_) rfl rfl (by kernel_rfl) (by kernel_rfl) (by kernel_rfl) (by kernel_rfl) (fun _ _ _ h => h) (by rfl) (by assumption) ?_ ?_
      rotate_left
      · (intro wS hSw; (try dsimp only at hSw); go_simp; try with_reducible rfl)
      try simp only [Act.put, List.setIfInBounds_toArray, List.set_cons_zero, List.set_cons_succ]
      refine uTake (i := 12) (some 46) (v := ?_) rfl rfl (by kernel_rfl) (by kernel_rfl) (by kernel_rfl) (by kernel_rfl) (fun _ _ _ h => h) (by rfl) (by assumption) ?_ ?_
      rotate_left
      · (intro wS hSw; (try dsimp only at hSw); go_simp; try with_reducible rfl)
      try simp only [Act.put, List.setIfInBounds_toArray, List.set_cons_zero, List.set_cons_succ]
      refine uTake (i := 13) (some 47) (v := ?_) rfl rfl (by kernel_rfl) (by kernel_rfl) (by kernel_rfl) (by kernel_rfl) (fun _ _ _ h => h) (by rfl) (by assumption) ?_ ?_
      rotate_left
      · (intro wS hSw; (try dsimp only at hSw); go_simp; try with_reducible rfl)
      try simp only [Act.put, List.setIfInBounds_toArray, List.set_cons_zero, List.set_cons_succ]
      refine uReady (rs := [14]) (by kernel_rfl) (by simp) ?_
      refine ReadyU.cons rfl (fun KK hKK => ?_) ReadyU.nil
      go_simp
      refine (matmul_c q sl[k] iv _ hsq hivq hqT.out).mono ?_
      rintro e w3 ⟨⟨m, mh9, rfl⟩, hb⟩
      have E3 : Hid (Env D w0 (A0 ++ ((mbx g R1) ++ B0)) G0 w3) := Lib.hid (E2.out.below hb)
      clear E2 hb
      (try dsimp only)
      clear hHeld
      refine hKK.out _ _ (⟨E3.out.mhd (A := A0) (B := B0) rfl sE.out, E3.out.mcell (A := A0) (B := B0) rfl sE.out hks⟩) (fun hHeld => ?_)
      clear hKK KK
      try simp only [Act.put, List.setIfInBounds_toArray, List.set_cons_zero, List.set_cons_succ]
      refine uTake (i := 15) (some 49) (v := ?_) rfl rfl (by kernel_rfl) (by kernel_rfl) (by kernel_rfl) (by kernel_rfl) (fun _ _ _ h => h) (by rfl) (by assumption) ?_ ?_
      rotate_left
      · (intro wS hSw; (try dsimp only at hSw); go_simp; try with_reducible rfl)
      try simp only [Act.put, List.setIfInBounds_toArray, List.set_cons_zero, List.set_cons_succ]
      have mf4 := (E3.out.mr (A := A0) (B := B0) rfl sE.out).frozen k
      refine uReady (rs := [16]) (by kernel_rfl) (by simp) ?_
      refine ReadyU.consU (by kernel_rfl) rfl (fun KK hKK => ?_) ReadyU.nil
      go_simp
      have E4 : Hid (Env D w0 (A0 ++ ((mbx g (R1.set row ⟨sb, sl.set k (m), sx⟩)) ++ B0)) G0 _) := Lib.hid ((E3.out.msetx (A := A0) (B := B0) rfl sE.out hks (m)))
      (try dsimp only)
      (try clear hHeld)
      refine hKK.out _ _ ?_
      clear hKK KK
      try simp only [Act.put, List.setIfInBounds_toArray, List.set_cons_zero, List.set_cons_succ]
      refine uDone (by kernel_rfl) ?_ _
      have HNX : Hid (mrows (R1.set row ⟨sb, sl.set k m, sx⟩) = (mrows R).set row (mix (sclN q tl iv) tl (k + 1))) := Lib.hid (by rw [mrows_set sE.out, HS.out, List.set_set, HSG.out, mix_set sclN_len (by rw [sclN_len]; exact hk) (by rw [sclN_get hk, mh9.out, HSK.out])])
      have EZ := Lib.hid E4.out
      go_wp2
      go_roundg (tl.length - (k + 1))
      case rel => exact ⟨k + 1, R1.set row ⟨sb, sl.set k m, sx⟩, rfl, EZ, Lib.hid ⟨⟨by omega, rfl⟩, HNX.out, HC1.out.set sE.out m⟩⟩
      case measure => exact by omega
    have t6 : decide ((k : Int) < (tl.length : Int)) = false := decide_eq_false (by omega)
    have t7 : decide (k < tl.length) = false := decide_eq_false (by omega)
    have HS0 : Hid (mrows R1 = mix (elimL q (mrows R) row col) ((mrows R).set row (pivR q (mrows R) row col)) 0) := Lib.hid (by rw [mix_zero, HS.out, hy, mix_full sclN_len (by rw [sclN_len]; exact Nat.le_refl _), HP.out])
    have HY := Lib.hid hy
    clear hy
    have hl1 := HL1.out
    go_wp2_with fail
    clear t6 t7 a1 a2
    rename World => wz
    have EB := EL
    go_loopg [53] (R.length) (fun gk s53 wr => ∃ (i : Nat) (R2 : List Rb), s53 = .int .i64 (i : Int) ∧ Hid (Env D w0 (A0 ++ ((mbx g R2) ++ B0)) G0 wr) ∧ Hid ((i ≤ R.length ∧ gk = R.length - i) ∧ mrows R2 = mix (elimL q (mrows R) row col) ((mrows R).set row (pivR q (mrows R) row col)) i ∧ CapOk R2))
    case atStart => exact ⟨0, R1, rfl, Lib.hid EL.out, Lib.hid ⟨⟨Nat.zero_le _, rfl⟩, HS0.out, HC1.out⟩⟩
    case round =>
      clear EL EB hl1
      obtain ⟨i, R2, rfl, EL, HA⟩ := hrel
      obtain ⟨⟨a1, a2⟩, a3, a4⟩ := HA.out
      have HS := Lib.hid a3
      have HC2 := Lib.hid a4
      clear a3 a4 HA
      have HL2 : Hid (R2.length = R.length) := Lib.hid (by have h := congrArg List.length HS.out; rw [mix_len (by simp [elimL_len]), elimL_len] at h; simpa using h)
      by_cases hy : i = R.length
      rotate_left
      · have hi : i < R.length := by omega
        have t6 : decide ((i : Int) < (R.length : Int)) = true := decide_eq_true (by omega)
        have t7 : decide (i < R.length) = true := decide_eq_true hi
        have hiI : (i : Int) < (R.length : Int) := by omega
        clear hy
        go_upto_region 9 with (fail)
        have hi2 : i < R2.length := by rw [HL2.out]; exact hi
        have hr2 : row < R2.length := by rw [HL2.out]; exact hrow
        have HIL : Hid (i < (mrows R).length) := Lib.hid (by rw [HLR.out]; exact hi)
        obtain ⟨⟨ub, ul, ux⟩, ue⟩ : ∃ r, R2[i]? = some r := ⟨_, List.getElem?_eq_getElem hi2⟩
        have uE := Lib.hid ue
        clear ue
        have mh4 : World.cell? _ ⟨g, i, none⟩ = some (.slice (some ⟨ub, 0, none⟩) ul.length (ul.length + ux.length)) := EL.out.mhd (A := A0) (B := B0) rfl uE.out
        have HUG : Hid ((mix (elimL q (mrows R) row col) ((mrows R).set row (pivR q (mrows R) row col)) i)[i]? = some ul) := Lib.hid (by rw [← HS.out]; exact mrows_get uE.out)
        have HUR : Hid (ul.length = n ∧ ∀ x ∈ ul, x < q) := Lib.hid (by have hm : ul ∈ mrows R2 := List.mem_of_getElem? (mrows_get uE.out); rw [HS.out] at hm; unfold mix at hm; rcases List.mem_append.1 hm with hm | hm; (· exact elimL_res hq1.out hres.out HRL.out _ (List.mem_of_mem_take hm)); rcases List.mem_or_eq_of_mem_set (List.mem_of_mem_drop hm) with hm | hm; (· exact hres.out _ hm); rw [hm]; exact ⟨pivR_len hres.out HRL.out, by unfold pivR; exact sclN_lt hq1.out⟩)
        have hcu : col < ul.length := by rw [HUR.out.1]; exact hcol.out
        have hcuI : (col : Int) < (ul.length : Int) := by omega
        have huq : ((ul[col] : Nat) : Int) < (q : Int) := Int.ofNat_lt.2 (HUR.out.2 _ (List.getElem_mem hcu))
        have hul9 : ul.length ≤ 1000 := by rw [HUR.out.1]; exact hn.out
        have mc5 : World.cell? _ ⟨ub, col, none⟩ = some (.int .i64 (ul[col] : Nat)) := EL.out.mcell (A := A0) (B := B0) rfl uE.out hcu
        go_wp2_with fail
        refine (matminus_c q ul[col] _ huq hqT.out).mono ?_
        rintro e w2 ⟨⟨f, fh, rfl⟩, hb⟩
        have E2 : Hid (Env D w0 (A0 ++ ((mbx g R2) ++ B0)) G0 w2) := Lib.hid (EL.out.below hb)
        clear mh4 mc5 EL hb
        have HFQ : Hid (f < q) := Lib.hid (by rw [fh.out]; exact Nat.mod_lt _ hq1.out)
        have hfq : (f : Int) < (q : Int) := Int.ofNat_lt.2 HFQ.out
        by_cases hir : i = row
        · have e1 : ((i : Int) == (row : Int)) = true := beq_iff_eq.2 (by omega)
          have e2 : (i == row) = true := beq_iff_eq.2 hir
          have HIR := Lib.hid hir
          clear hir
          have HNX : Hid (mrows R2 = mix (elimL q (mrows R) row col) ((mrows R).set row (pivR q (mrows R) row col)) (i + 1)) := Lib.hid (by rw [HS.out]; exact half_skip HRL.out HIL.out (.inl HIR.out))
          have EZ := Lib.hid E2.out
          go_wp2
          go_roundg (R.length - (i + 1))
          case rel => exact ⟨i + 1, R2, rfl, EZ, Lib.hid ⟨⟨by omega, rfl⟩, HNX.out, HC2.out⟩⟩
          case measure => exact by omega
        have e1 : ((i : Int) == (row : Int)) = false := beq_eq_false_iff_ne.2 (by omega)
        have e2 : (i == row) = false := beq_eq_false_iff_ne.2 hir
        have HIR := Lib.hid hir
        clear hir
        have HUL : Hid (ul = (mrows R)[i]) := Lib.hid (half_row HRL.out HIL.out HUG.out HIR.out)
        have HFE : Hid (f = (q - (mrows R)[i].getD col 0) % q) := Lib.hid (by rw [fh.out, ← HUL.out, getD_elem hcu])
        by_cases hf0 : f = 0
        · have e3 : ((f : Int) == 0) = true := beq_iff_eq.2 (by omega)
          have e4 : (f == 0) = true := beq_iff_eq.2 hf0
          have HF0 := Lib.hid hf0
          clear hf0
          have HNX : Hid (mrows R2 = mix (elimL q (mrows R) row col) ((mrows R).set row (pivR q (mrows R) row col)) (i + 1)) := Lib.hid (by rw [HS.out]; exact half_skip HRL.out HIL.out (.inr ⟨HFE.out.symm.trans HF0.out, fun x hx => (hres.out _ (List.getElem_mem HIL.out)).2 x hx⟩))
          have EZ := Lib.hid E2.out
          go_wp2
          go_roundg (R.length - (i + 1))
          case rel => exact ⟨i + 1, R2, rfl, EZ, Lib.hid ⟨⟨by omega, rfl⟩, HNX.out, HC2.out⟩⟩
          case measure => exact by omega
        have e3 : ((f : Int) == 0) = false := beq_eq_false_iff_ne.2 (by omega)
        have e4 : (f == 0) = false := beq_eq_false_iff_ne.2 hf0
        have HF0 := Lib.hid hf0
        clear hf0
        go_upto_region 11 with (fail)
        have mh6 : World.cell? _ ⟨g, i, none⟩ = some (.slice (some ⟨ub, 0, none⟩) ul.length (ul.length + ux.length)) := E2.out.mhd (A := A0) (B := B0) rfl uE.out
        go_wp2_with fail
        clear t6 t7
        rename World => wy
        obtain ⟨A1, hA1⟩ : ∃ A, admN q (mrows R)[i] ((q - (mrows R)[i].getD col 0) % q) (pivR q (mrows R) row col) = A := ⟨_, rfl⟩
        have HA1 := Lib.hid hA1
        clear hA1
        have HAL : Hid (A1.length = ul.length) := Lib.hid (by rw [← HA1.out, admN_len, HUL.out])
        go_loopg [77] (ul.length) (fun gk s77 wr => ∃ (j : Nat) (R3 : List Rb), s77 = .int .i64 (j : Int) ∧ Hid (Env D w0 (A0 ++ ((mbx g R3) ++ B0)) G0 wr) ∧ Hid ((j ≤ ul.length ∧ gk = ul.length - j) ∧ mrows R3 = (mix (elimL q (mrows R) row col) ((mrows R).set row (pivR q (mrows R) row col)) i).set i (mix A1 ul j) ∧ CapOk R3))
        case atStart => exact ⟨0, R2, rfl, Lib.hid E2.out, Lib.hid ⟨⟨Nat.zero_le _, rfl⟩, by rw [mix_zero, setL_same HUG.out]; exact HS.out, HC2.out⟩⟩
        case round =>
          clear mh6 E2
          obtain ⟨j, R3, rfl, EL, HA⟩ := hrel
          obtain ⟨⟨b1, b2⟩, b3, b4⟩ := HA.out
          have HT := Lib.hid b3
          have HC3 := Lib.hid b4
          clear b3 b4 HA
          have HL3 : Hid (R3.length = R.length) := Lib.hid (by have h := congrArg List.length HT.out; rw [List.length_set, ← HS.out] at h; rw [List.length_map, List.length_map] at h; rw [h]; exact HL2.out)
          by_cases hy : j = ul.length
          rotate_left
          · have hj : j < ul.length := by omega
            have t8 : decide ((j : Int) < (ul.length : Int)) = true := decide_eq_true (by omega)
            have t9 : decide (j < ul.length) = true := decide_eq_true hj
            clear hy
            go_upto_region 14 with (fail)
            have hi3 : i < R3.length := by rw [HL3.out]; exact hi
            have hr3 : row < R3.length := by rw [HL3.out]; exact hrow
            obtain ⟨⟨vb, vl, vx⟩, ve⟩ : ∃ r, R3[i]? = some r := ⟨_, List.getElem?_eq_getElem hi3⟩
            have vE := Lib.hid ve
            clear ve
            obtain ⟨⟨pb, pl, px⟩, pe⟩ : ∃ r, R3[row]? = some r := ⟨_, List.getElem?_eq_getElem hr3⟩
            have pE := Lib.hid pe
            clear pe
            have HLH : Hid (i < (mix (elimL q (mrows R) row col) ((mrows R).set row (pivR q (mrows R) row col)) i).length) := Lib.hid (by rw [← HS.out, List.length_map]; exact hi2)
            have HVG : Hid (vl = mix A1 ul j) := Lib.hid (by have h := mrows_get vE.out; rw [HT.out, List.getElem?_set_self HLH.out] at h; exact (Option.some.inj h).symm)
            have HPG : Hid (pl = (pivR q (mrows R) row col)) := Lib.hid (by have h := mrows_get pE.out; rw [HT.out, List.getElem?_set_ne HIR.out, half_piv HRL.out HIL.out] at h; exact (Option.some.inj h).symm)
            have hvl : vl.length = ul.length := by rw [HVG.out, mix_len HAL.out]; exact HAL.out
            have hpl : pl.length = ul.length := by rw [HPG.out, pivR_len hres.out HRL.out, HUR.out.1]
            have hjv : j < vl.length := by omega
            have hjp : j < pl.length := by omega
            have hjvI : (j : Int) < (vl.length : Int) := by omega
            have hjpI : (j : Int) < (pl.length : Int) := by omega
            have HVK : Hid (vl[j] = ul[j]) := Lib.hid (by have h := mix_old (k := j) (j := j) HAL.out (Nat.le_refl _); rw [← HVG.out, List.getElem?_eq_getElem hjv, List.getElem?_eq_getElem hj] at h; exact Option.some.inj h)
            have hvq : ((vl[j] : Nat) : Int) < (q : Int) := by rw [HVK.out]; exact Int.ofNat_lt.2 (HUR.out.2 _ (List.getElem_mem hj))
            have hpq : ((pl[j] : Nat) : Int) < (q : Int) := Int.ofNat_lt.2 ((by rw [HPG.out]; unfold pivR; exact sclN_lt hq1.out : ∀ x ∈ pl, x < q) _ (List.getElem_mem hjp))
            go_wp2_with fail
            have E3 : Hid (Env D w0 (A0 ++ ((mbx g R3) ++ B0)) G0 (wr.drew)) := Lib.hid EL.out.drew
            clear EL
            refine wp_regionU (S := fun w' => w'.cell? ⟨g, i, none⟩ = some (.slice (some ⟨vb, 0, none⟩) vl.length (vl.length + vx.length)) ∧ w'.cell? ⟨g, row, none⟩ = some (.slice (some ⟨pb, 0, none⟩) pl.length (pl.length + px.length)) ∧ w'.cell? ⟨vb, j, none⟩ = some (.int .i64 (vl[j] : Nat)) ∧ w'.cell? ⟨pb, j, none⟩ = some (.int .i64 (pl[j] : Nat))) [25] (by kernel_rfl) (⟨E3.out.mhd (A := A0) (B := B0) rfl vE.out, E3.out.mhd (A := A0) (B := B0) rfl pE.out, E3.out.mcell (A := A0) (B := B0) rfl vE.out hjv, E3.out.mcell (A := A0) (B := B0) rfl pE.out hjp⟩) (fun hHeld => ?_)
            generalize wr.drew = w3 at *
            refine uTake (i := 0) (some 80) (v := ?_) rfl rfl (by kernel_rfl) (by kernel_rfl) (by kernel_rfl) (by kernel_rfl) (fun _ _ _ h => h) (by rfl) (by assumption) ?_ ?_
            rotate_left
            · (intro wS hSw; (try dsimp only at hSw); go_simp; try with_reducible rfl)
            try simp only [Act.put, List.setIfInBounds_toArray, List.set_cons_zero, List.set_cons_succ]
            refine uTake (i := 1) (some 81) (v := ?_) rfl rfl (by kernel_rfl) (by kernel_rfl) (by kernel_rfl) (by kernel_rfl) (fun _ _ _ h => h) (by rfl) (by assumption) ?_ ?_
            rotate_left
            · (intro wS hSw; (try dsimp only at hSw); go_simp; try with_reducible rfl)
            try simp only [Act.put, List.setIfInBounds_toArray, List.set_cons_zero, List.set_cons_succ]
            refine uTake (i := 2) (some 82) (v := ?_) rfl rfl (by kernel_rfl) (by kernel_rfl) (by kernel_rfl) (by kernel_rfl) (fun _ _ _ h => h) (by rfl) (by assumption) ?_ ?_
            rotate_left
            · (intro wS hSw; (try dsimp only at hSw); go_simp; try with_reducible rfl)
            try simp only [Act.put, List.setIfInBounds_toArray, List.set_cons_zero, List.set_cons_succ]
            refine uTake (i := 3) (some 83) (v := ?_) rfl rfl (by kernel_rfl) (by kernel_rfl) (by kernel_rfl) (by kernel_rfl) (fun _ _ _ h => h) (by rfl) (by assumption) ?_ ?_
            rotate_left
            · (intro wS hSw; (try dsimp only at hSw); go_simp; try with_reducible rfl)
            try simp only [Act.put, List.setIfInBounds_toArray, List.set_cons_zero, List.set_cons_succ]
            refine uTake (i := 4) (some 84) (v := ?_) rfl rfl (by kernel_rfl) (by kernel_rfl) (by kernel_rfl) (by kernel_rfl) (fun _ _ _ h => h) (by rfl) (by assumption) ?_ ?_
            rotate_left
            · (intro wS hSw; (try dsimp only at hSw); go_simp; try with_reducible rfl)
            try simp only [Act.put, List.setIfInBounds_toArray, List.set_cons_zero, List.set_cons_succ]
            refine uTake (i := 5) (some 85) (v := ?_) rfl rfl (by kernel_rfl) (by kernel_rfl) (by kernel_rfl) (by kernel_rfl) (fun _ _ _ h => h) (by rfl) (by assumption) ?_ ?_
            rotate_left
            · (intro wS hSw; (try dsimp only at hSw); go_simp; try with_reducible rfl)
            try simp only [Act.put, List.setIfInBounds_toArray, List.set_cons_zero, List.set_cons_succ]
            refine uTake (i := 6) (some 86) (v := ?_) rfl rfl (by kernel_rfl) (by kernel_rfl) (by kernel_rfl) (by kernel_rfl) (fun _ _ _ h => h) (by rfl) (by assumption) ?_ ?_
            rotate_left
            · (intro wS hSw; (try dsimp only at hSw); go_simp; try with_reducible rfl)
            try simp only [Act.put, List.setIfInBounds_toArray, List.set_cons_zero, List.set_cons_succ]
            refine uTake (i := 7) (some 87) (v := ?_) rfl rfl (by kernel_rfl) (by kernel_rfl) (by kernel_rfl) (by kernel_rfl) (fun _ _ _ h => h) (by rfl) (by assumption) ?_ ?_
            rotate_left
            · (intro wS hSw; (try dsimp only at hSw); go_simp; try with_reducible rfl)
            try simp only [Act.put, List.setIfInBounds_toArray, List.set_cons_zero, List.set_cons_succ]
            refine uTake (i := 8) (some 88) (v := ?_) rfl rfl (by kernel_rfl) (by kernel_rfl) (by kernel_rfl) (by kernel_rfl) (fun _ _ _ h => h) (by rfl) (by assumption) ?_ ?_
            rotate_left
            · (intro wS hSw; (try dsimp only at hSw); go_simp; try with_reducible rfl)
            try simp only [Act.put, List.setIfInBounds_toArray, List.set_cons_zero, List.set_cons_succ]
            refine uTake (i := 9) (some 89) (v := ?_) rfl rfl (by kernel_rfl) (by kernel_rfl) (by kernel_rfl) (by kernel_rfl) (fun _ _ _ h => h) (by rfl) (by assumption) ?_ ?_
            rotate_left
            · (intro wS hSw; (try dsimp only at hSw); go_simp; try with_reducible rfl)
            try simp only [Act.put, List.setIfInBounds_toArray, List.set_cons_zero, List.set_cons_succ]
            refine uTake (i := 10) (some 90) (v := ?_) rfl rfl (by kernel_rfl) (by kernel_rfl) (by kernel_rfl) (by kernel_rfl) (fun _ _ _ h => h) (by rfl) (by assumption) ?_ ?_
            rotate_left
            · (intro wS hSw; (try dsimp only at hSw); go_simp; try with_reducible rfl)
            try simp only [Act.put, List.setIfInBounds_toArray, List.set_cons_zero, List.set_cons_succ]
            refine uTake (i := 11) (some 91) (v := ?_) rfl rfl (by kernel_rfl) (by kernel_rfl) (by kernel_rfl) (by kernel_rfl) (fun _ _ _ h => h) (by rfl) (by assumption) ?_ ?_
            rotate_left
            · (intro wS hSw; (try dsimp only at hSw); go_simp; try with_reducible rfl)
            try simp only [Act.put, List.setIfInBounds_toArray, List.set_cons_zero, List.set_cons_succ]
            refine uTake (i := 12) (some 92) (v := ?_) rfl rfl (by kernel_rfl) (by kernel_rfl) (by kernel_rfl) (by kernel_rfl) (fun _ _ _ h => h) (by rfl) (by assumption) ?_ ?_
            rotate_left
            · (intro wS hSw; (try dsimp only at hSw); go_simp; try with_reducible rfl)
            try simp only [Act.put, List.setIfInBounds_toArray, List.set_cons_zero, List.set_cons_succ]
            refine uTake (i := 13) (some 93) (v := ?_) rfl rfl (by kernel_rfl) (by kernel_rfl) (by kernel_rfl) (by kernel_rfl) (fun _ _ _ h => h) (by rfl) (by assumption) ?_ ?_
            rotate_left
            · (intro wS hSw; (try dsimp only at hSw); go_simp; try with_reducible rfl)
            try simp only [Act.put, List.setIfInBounds_toArray, List.set_cons_zero, List.set_cons_succ]
            refine uTake (i := 14) (some 94) (v := ?_) rfl rfl (by kernel_rfl) (by kernel_rfl) (by kernel_rfl) (by kernel_rfl) (fun _ _ _ h => h) (by rfl) (by assumption) ?_ ?_
            rotate_left
            · (intro wS hSw; (try dsimp only at hSw); go_simp; try with_reducible rfl)
            try simp only [Act.put, List.setIfInBounds_toArray, List.set_cons_zero, List.set_cons_succ]
            refine uTake (i := 15) (some 95) (v := ?_) rfl rfl (by kernel_rfl) (by kernel_rfl) (by kernel_rfl) (by kernel_rfl) (fun _ _ _ h => h) (by rfl) (by assumption) ?_ ?_
            rotate_left
            · (intro wS hSw; (try dsimp only at hSw); go_simp; try with_reducible rfl)
            try simp only [Act.put, List.setIfInBounds_toArray, List.set_cons_zero, List.set_cons_succ]
            refine uTake (i := 16) (some 96) (v := ?_) rfl rfl (by kernel_rfl) (by kernel_rfl) (by kernel_rfl) (by kernel_rfl) (fun _ _ _ h => h) (by rfl) (by assumption) ?_ ?_
            rotate_left
            · (intro wS hSw; (try dsimp only at hSw); go_simp; try with_reducible rfl)
            try simp only [Act.put, List.setIfInBounds_toArray, List.set_cons_zero, List.set_cons_succ]
            refine uTake (i := 17) (some 97) (v := ?_) rfl rfl (by kernel_rfl) (by kernel_rfl) (by kernel_rfl) (by kernel_rfl) (fun _ _ _ h => h) (by rfl) (by assumption) ?_ ?_
            rotate_left
            · (intro wS hSw; (try dsimp only at hSw); go_simp; try with_reducible rfl)
            try simp only [Act.put, List.setIfInBounds_toArray, List.set_cons_zero, List.set_cons_succ]
            refine uTake (i := 18) (some 98) (v := ?_) rfl rfl (by kernel_rfl) (by kernel_rfl) (by kernel_rfl) (by kernel_rfl) (fun _ _ _ h => h) (by rfl) (by assumption) ?_ ?_
            rotate_left
            · (intro wS hSw; (try dsimp only at hSw); go_simp; try with_reducible rfl)
            try simp only [Act.put, List.setIfInBounds_toArray, List.set_cons_zero, List.set_cons_succ]
            refine uTake (i := 19) (some 99) (v := ?_) rfl rfl (by kernel_rfl) (by kernel_rfl) (by kernel_rfl) (by kernel_rfl) (fun _ _ _ h => h) (by rfl) (by assumption) ?_ ?_
            rotate_left
            · (intro wS hSw; (try dsimp only at hSw); go_simp; try with_reducible rfl)
            try simp only [Act.put, List.setIfInBounds_toArray, List.set_cons_zero, List.set_cons_succ]
            refine uTake (i := 20) (some 100) (v := ?_) rfl rfl (by kernel_rfl) (by kernel_rfl) (by kernel_rfl) (by kernel_rfl) (fun _ _ _ h => h) (by rfl) (by assumption) ?_ ?_
            rotate_left
            · (intro wS hSw; (try dsimp only at hSw); go_simp; try with_reducible rfl)
            try simp only [Act.put, List.setIfInBounds_toArray, List.set_cons_zero, List.set_cons_succ]
            refine uTake (i := 21) (some 101) (v := ?_) rfl rfl (by kernel_rfl) (by kernel_rfl) (by kernel_rfl) (by kernel_rfl) (fun _ _ _ h => h) (by rfl) (by assumption) ?_ ?_
            rotate_left
            · (intro wS hSw; (try dsimp only at hSw); go_simp; try with_reducible rfl)
            try simp only [Act.put, List.setIfInBounds_toArray, List.set_cons_zero, List.set_cons_succ]
            refine uReady (rs := [22]) (by kernel_rfl) (by simp) ?_
            refine ReadyU.cons rfl (fun KK hKK => ?_) ReadyU.nil
            go_simp
            refine (matmul_c q f pl[j] _ hfq hpq hqT.out).mono ?_
            rintro e w4 ⟨⟨m1, m1h, rfl⟩, hb⟩
            have E4 : Hid (Env D w0 (A0 ++ ((mbx g R3) ++ B0)) G0 w4) := Lib.hid (E3.out.below hb)
            clear E3 hb
            have m1q : (m1 : Int) < (q : Int) := by rw [m1h.out]; exact Int.ofNat_lt.2 (Nat.mod_lt _ hq1.out)
            (try dsimp only)
            clear hHeld
            refine hKK.out _ _ (⟨E4.out.mhd (A := A0) (B := B0) rfl vE.out, E4.out.mhd (A := A0) (B := B0) rfl pE.out, E4.out.mcell (A := A0) (B := B0) rfl vE.out hjv, E4.out.mcell (A := A0) (B := B0) rfl pE.out hjp⟩) (fun hHeld => ?_)
            clear hKK KK
            try simp only [Act.put, List.setIfInBounds_toArray, List.set_cons_zero, List.set_cons_succ]
            refine uReady (rs := [23]) (by kernel_rfl) (by simp) ?_
            refine ReadyU.cons rfl (fun KK hKK => ?_) ReadyU.nil
            go_simp
            refine (matadd_c q vl[j] m1 _ hvq m1q hqT.out).mono ?_
            rintro e w5 ⟨⟨m2, m2h, rfl⟩, hb⟩
            have E5 : Hid (Env D w0 (A0 ++ ((mbx g R3) ++ B0)) G0 w5) := Lib.hid (E4.out.below hb)
            clear E4 hb
            (try dsimp only)
            clear hHeld
            refine hKK.out _ _ (⟨E5.out.mhd (A := A0) (B := B0) rfl vE.out, E5.out.mhd (A := A0) (B := B0) rfl pE.out, E5.out.mcell (A := A0) (B := B0) rfl vE.out hjv, E5.out.mcell (A := A0) (B := B0) rfl pE.out hjp⟩) (fun hHeld => ?_)
            clear hKK KK
            try simp only [Act.put, List.setIfInBounds_toArray, List.set_cons_zero, List.set_cons_succ]
            refine uTake (i := 24) (some 104) (v := ?_) rfl rfl (by kernel_rfl) (by kernel_rfl) (by kernel_rfl) (by kernel_rfl) (fun _ _ _ h => h) (by rfl) (by assumption) ?_ ?_
            rotate_left
            · (intro wS hSw; (try dsimp only at hSw); go_simp; try with_reducible rfl)
            try simp only [Act.put, List.setIfInBounds_toArray, List.set_cons_zero, List.set_cons_succ]
            have mf7 := (E5.out.mr (A := A0) (B := B0) rfl vE.out).frozen j
            refine uReady (rs := [25]) (by kernel_rfl) (by simp) ?_
            refine ReadyU.consU (by kernel_rfl) rfl (fun KK hKK => ?_) ReadyU.nil
            go_simp
            have E6 : Hid (Env D w0 (A0 ++ ((mbx g (R3.set i ⟨vb, vl.set j (m2), vx⟩)) ++ B0)) G0 _) := Lib.hid ((E5.out.msetx (A := A0) (B := B0) rfl vE.out hjv (m2)))
            (try dsimp only)
            (try clear hHeld)
            refine hKK.out _ _ ?_
            clear hKK KK
            try simp only [Act.put, List.setIfInBounds_toArray, List.set_cons_zero, List.set_cons_succ]
            refine uDone (by kernel_rfl) ?_ _
            have HAJ : Hid (A1[j]? = some m2) := Lib.hid (by have hjm : j < (mrows R)[i].length := (by rw [← HUL.out]; exact hj); have hjq : j < (pivR q (mrows R) row col).length := (by rw [← HPG.out]; exact hjp); rw [← HA1.out, admN_get hjm hjq, m2h.out, m1h.out, HVK.out, HFE.out]; simp only [HUL.out, HPG.out])
            have HNX : Hid (mrows (R3.set i ⟨vb, vl.set j m2, vx⟩) = (mix (elimL q (mrows R) row col) ((mrows R).set row (pivR q (mrows R) row col)) i).set i (mix A1 ul (j + 1))) := Lib.hid (by rw [mrows_set vE.out, HT.out, List.set_set, HVG.out, mix_set HAL.out (by rw [HAL.out]; exact hj) HAJ.out])
            have EZ := Lib.hid E6.out
            go_wp2
            go_roundg (ul.length - (j + 1))
            case rel => exact ⟨j + 1, R3.set i ⟨vb, vl.set j m2, vx⟩, rfl, EZ, Lib.hid ⟨⟨by omega, rfl⟩, HNX.out, HC3.out.set vE.out m2⟩⟩
            case measure => exact by omega
          have t8 : decide ((j : Int) < (ul.length : Int)) = false := decide_eq_false (by omega)
          have t9 : decide (j < ul.length) = false := decide_eq_false (by omega)
          have HNX : Hid (mrows R3 = mix (elimL q (mrows R) row col) ((mrows R).set row (pivR q (mrows R) row col)) (i + 1)) := Lib.hid (by rw [HT.out, hy, mix_full HAL.out (Nat.le_of_eq HAL.out), ← HA1.out]; exact half_set HRL.out HIL.out HIR.out)
          have HY2 := Lib.hid hy
          clear hy
          have EZ := Lib.hid EL.out
          go_wp2
          go_roundg (R.length - (i + 1))
          case rel => exact ⟨i + 1, R3, rfl, EZ, Lib.hid ⟨⟨by omega, rfl⟩, HNX.out, HC3.out⟩⟩
          case measure => exact by omega
      have t6 : decide ((i : Int) < (R.length : Int)) = false := decide_eq_false (by omega)
      have t7 : decide (i < R.length) = false := decide_eq_false (by omega)
      have HFN : Hid (mrows R2 = elimL q (mrows R) row col) := Lib.hid (by rw [HS.out, mix_full (by simp [elimL_len]) (by rw [elimL_len, HLR.out]; omega)])
      clear hy
      go_wp2
      refine bodyPost_end (results_none rfl _ _ _) rfl ?_
      exact ⟨rfl, R2, Lib.hid ⟨HFN.out, HC2.out⟩, EL⟩
end Go.Proofs.YtinlfogpbologaaDoor

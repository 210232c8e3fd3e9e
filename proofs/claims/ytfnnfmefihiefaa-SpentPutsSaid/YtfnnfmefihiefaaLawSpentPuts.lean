/- SpentPuts: Find and Put return what is specified. -/
import Derived.Test.YtfnnfmefihiefaaSpAa
import Derived.Test.YtfnnfmefihiefaaSpV
namespace Go.Proofs.Ytfnnfmefihiefaa
open Go.RowKit
set_option linter.unusedVariables false
set_option linter.unusedSimpArgs false
theorem field_tab (w : World) : (Instr.field 25 (.agg #[.slice none 0 0]) 0).run Try.prog w = .ok (.slice none 0 0) w := by kernel_rfl
set_option maxRecDepth 100000 in
set_option maxHeartbeats 8000000 in
theorem SpentPuts_walk {D : Nat → Prop} (X : List Uv) (s : Sp) (a b : Int) {xa : Option Addr} {xk : Nat} {la pa : Value} {w : World} (hx : Fct.at w D (.gn (gUl (.slice xa X.length xk) X))) (hs : Fct.at w D (.gn (gSp s la pa))) (wa : (Lit.int IntKind.i64 a).wf = true) (wb : (Lit.int IntKind.i64 b).wf = true) :
    Calls Try.prog 4 #[.agg #[.slice xa X.length xk], .agg (spc s la pa).toArray, .int .i64 a, .int .i64 b] w fun e w' => e = .returned (.bool true) ∧ Below w.heap.size w w' := by
  have E0 : Hid (Env D w [] [.gn (gSp s la pa), .gn (gUl (.slice xa X.length xk) X)] w) := Lib.hid (((Env.start D w).arg (.gn (gUl (.slice xa X.length xk) X)) hx).arg (.gn (gSp s la pa)) hs)
  clear hx hs
  go_enter Try.func4, Try.ntmps4
  have HS := Lib.hid (E0.out.spOk 0 rfl)
  have ZN : Hid (∀ v ∈ usc zU nilV nilV, v.oneCell' = true) := Lib.hid zU_one
  go_wp2_with fail
  have E1 : Hid (Env D w [(w.heap.size + 1, 41, spc s la pa), (w.heap.size, 25, [.slice xa X.length xk])] [.gn (gSp s la pa), .gn (gUl (.slice xa X.length xk) X)] _) := Lib.hid (((E0.out.push 25 [.slice xa X.length xk] (w.heap.size) (by simp)).push 41 (spc s la pa) (w.heap.size + 1) (by simp)))
  refine (awake_c (D := fun _ => True)).mono ?_
  rintro e w1 ⟨rfl, hb⟩
  have E2 : Hid (Env D w [(w.heap.size + 1, 41, spc s la pa), (w.heap.size, 25, [.slice xa X.length xk])] [.gn (gSp s la pa), .gn (gUl (.slice xa X.length xk) X)] w1) := Lib.hid (E1.out.below hb)
  clear E0 E1 hb
  obtain ⟨gt, hgt⟩ : ∃ gt, (decide (40 < (X.map Uv.u).length) || (X.map Uv.u).any (fun x => longS x.sp)) = gt := ⟨_, rfl⟩
  have HGT := Lib.hid hgt
  clear hgt
  obtain ⟨lg, hlg⟩ : ∃ lg, longS s = lg := ⟨_, rfl⟩
  have HLG := Lib.hid hlg
  clear hlg
  cases gt with
  | true =>
    have b1 := E2.out.bx 1 rfl
    have c1_0 := b1.cell 0 rfl
    clear b1
    go_wp2_with fail
    refine (greatw_c X (E2.out.fc 1 rfl) (t := true) HGT.out).mono ?_
    rintro e w2 ⟨rfl, hb⟩
    have E3 : Hid (Env D w [(w.heap.size + 1, 41, spc s la pa), (w.heap.size, 25, [.slice xa X.length xk])] [.gn (gSp s la pa), .gn (gUl (.slice xa X.length xk) X)] w2) := Lib.hid (E2.out.below hb)
    clear c1_0 E2 hb
    have hfin := Lib.hid E3.out.bel
    go_wp2
    go_ret
    exact ⟨rfl, hfin.out⟩
  | false =>
    cases lg with
    | true =>
      have b1 := E2.out.bx 1 rfl
      have c1_0 := b1.cell 0 rfl
      clear b1
      go_wp2_with fail
      refine (greatw_c X (E2.out.fc 1 rfl) (t := false) HGT.out).mono ?_
      rintro e w2 ⟨rfl, hb⟩
      have E3 : Hid (Env D w [(w.heap.size + 1, 41, spc s la pa), (w.heap.size, 25, [.slice xa X.length xk])] [.gn (gSp s la pa), .gn (gUl (.slice xa X.length xk) X)] w2) := Lib.hid (E2.out.below hb)
      clear c1_0 E2 hb
      have b2 := E3.out.bx 0 rfl
      have r2 := Lib.hid (b2.range (o := 0) (fun j hj => by rw [Nat.zero_add]))
      clear b2
      go_wp2_with (first | (with_reducible refine wpl_load_b bSpend (w.heap.size + 1) 0 ?_ ?_ (spc s la pa) (spc_len HS.out _ _) r2.out ?_; (· exact ⟨_, rfl, rfl⟩); (· kernel_rfl)))
      refine (longw_c s (E3.out.fc 0 rfl) (t := true) HLG.out).mono ?_
      rintro e w3 ⟨rfl, hb⟩
      have E4 : Hid (Env D w [(w.heap.size + 1, 41, spc s la pa), (w.heap.size, 25, [.slice xa X.length xk])] [.gn (gSp s la pa), .gn (gUl (.slice xa X.length xk) X)] w3) := Lib.hid (E3.out.below hb)
      clear r2 E3 hb
      have hfin := Lib.hid E4.out.bel
      go_wp2
      go_ret
      exact ⟨rfl, hfin.out⟩
    | false =>
      have b1 := E2.out.bx 1 rfl
      have c1_0 := b1.cell 0 rfl
      clear b1
      go_wp2_with fail
      refine (greatw_c X (E2.out.fc 1 rfl) (t := false) HGT.out).mono ?_
      rintro e w2 ⟨rfl, hb⟩
      have E3 : Hid (Env D w [(w.heap.size + 1, 41, spc s la pa), (w.heap.size, 25, [.slice xa X.length xk])] [.gn (gSp s la pa), .gn (gUl (.slice xa X.length xk) X)] w2) := Lib.hid (E2.out.below hb)
      clear c1_0 E2 hb
      have b2 := E3.out.bx 0 rfl
      have r2 := Lib.hid (b2.range (o := 0) (fun j hj => by rw [Nat.zero_add]))
      clear b2
      go_wp2_with (first | (with_reducible refine wpl_load_b bSpend (w.heap.size + 1) 0 ?_ ?_ (spc s la pa) (spc_len HS.out _ _) r2.out ?_; (· exact ⟨_, rfl, rfl⟩); (· kernel_rfl)))
      refine (longw_c s (E3.out.fc 0 rfl) (t := false) HLG.out).mono ?_
      rintro e w3 ⟨rfl, hb⟩
      have E4 : Hid (Env D w [(w.heap.size + 1, 41, spc s la pa), (w.heap.size, 25, [.slice xa X.length xk])] [.gn (gSp s la pa), .gn (gUl (.slice xa X.length xk) X)] w3) := Lib.hid (E3.out.below hb)
      clear r2 E3 hb
      have HB0 : Hid ((X.map Uv.u).length ≤ 40 ∧ ∀ u ∈ X.map Uv.u, u.sp.lv.length ≤ 40 ∧ u.sp.pa.length ≤ 30) := Lib.hid (great_no HGT.out)
      have HBS : Hid (s.lv.length ≤ 1000000 ∧ s.pa.length ≤ 1000000) := Lib.hid (by have h := longS_no HLG.out; omega)
      have HBU : Hid (∀ u ∈ X.map Uv.u, Bd u) := Lib.hid (fun u hu => by have h := HB0.out.2 u hu; unfold Bd; omega)
      have HBX : Hid (∀ x ∈ X, x.u.sp.lv.length ≤ 1000000 ∧ x.u.sp.pa.length ≤ 1000000) := Lib.hid (Bd.of HBU.out rfl)
      have hxl : X.length ≤ 40 := by have h := HB0.out.1; rwa [List.length_map] at h
      have HXL := Lib.hid hxl
      clear hxl
      obtain ⟨L, C, n, hr⟩ : ∃ L C n, putRes (X.map Uv.u) s = (L, C, n) := ⟨_, _, _, rfl⟩
      have HR := Lib.hid hr
      have HPB : Hid ((∀ u ∈ L, Bd u) ∧ (∀ u ∈ C, Bd u) ∧ L.length ≤ (X.map Uv.u).length + s.lv.length ∧ C.length ≤ s.lv.length) := Lib.hid (putRes_bd HBU.out (fun j => HBS.out) hr)
      clear hr
      have HLC : Hid (L.length ≤ 1000000 ∧ C.length ≤ 1000000) := Lib.hid (by have h1 := HPB.out.2.2; have h2 := (longS_no HLG.out).1; have h3 := HB0.out.1; omega)
      obtain ⟨v1, v1h⟩ : ∃ b : Bool, b = true ↔ ValidT (X.map Uv.u) := by by_cases h : ValidT (X.map Uv.u); (· exact ⟨true, ⟨fun _ => h, fun _ => rfl⟩⟩); exact ⟨false, ⟨fun h2 => Bool.noConfusion h2, fun h2 => absurd h2 h⟩⟩
      have v1H := Lib.hid v1h
      clear v1h
      cases v1 with
      | false =>
        have HNV : Hid (¬ ValidT (X.map Uv.u)) := Lib.hid (by simpa using v1H.out)
        have b3 := E4.out.bx 1 rfl
        have c3_0 := b3.cell 0 rfl
        clear b3
        go_wp2_with fail
        refine (rvalid_c X (E4.out.fc 1 rfl) HBX.out (t := false) (by first | exact v1H.out | simpa using v1H.out) (Nat.le_trans HXL.out (by omega))).mono ?_
        rintro e w4 ⟨rfl, hb⟩
        have E5 : Hid (Env D w [(w.heap.size + 1, 41, spc s la pa), (w.heap.size, 25, [.slice xa X.length xk])] [.gn (gSp s la pa), .gn (gUl (.slice xa X.length xk) X)] w4) := Lib.hid (E4.out.below hb)
        clear c3_0 E4 hb
        have b4 := E5.out.bx 1 rfl
        have c4_0 := b4.cell 0 rfl
        clear b4
        go_wp2_with fail
        refine (find_c X a b (E5.out.fc 1 rfl) HBX.out (Nat.le_trans HXL.out (by omega)) (u := zU) (t := false) (.inl ⟨HNV.out, rfl, rfl⟩)).mono ?_
        rintro e w5 ⟨⟨fa, fb, rfl, fh⟩, hb⟩
        have E6 : Hid (Env D w [(w.heap.size + 1, 41, spc s la pa), (w.heap.size, 25, [.slice xa X.length xk])] [.gn (gSp zU.sp fa fb), .gn (gSp s la pa), .gn (gUl (.slice xa X.length xk) X)] w5) := Lib.hid (E5.out.got (E5.out.below hb) (.gn (gSp zU.sp fa fb)) fh.out)
        clear c4_0 E5 hb fh
        have FN : Hid (∀ v ∈ usc zU fa fb, v.oneCell' = true) := Lib.hid (gUv.one (x := ⟨zU, fa, fb⟩) (E6.out.fc 0 rfl)); have FfalseS : Hid (SpOk zU.sp) := Lib.hid (E6.out.spOk 0 rfl)
        have E7 : Hid (Env D w [(w5.heap.size, 44, usc zU nilV nilV), (w.heap.size + 1, 41, spc s la pa), (w.heap.size, 25, [.slice xa X.length xk])] [.gn (gSp zU.sp fa fb), .gn (gSp s la pa), .gn (gUl (.slice xa X.length xk) X)] _) := Lib.hid ((E6.out.push 44 (usc zU nilV nilV) (w5.heap.size) (by simp)))
        have b5 := Lib.hid (E7.out.bx 0 rfl)
        go_wp2_with (first | (with_reducible refine wpl_alloc_b ?_ ?_ _ zvUse ?_; (· rfl); (· rfl)) | (with_reducible refine wpl_store_b bUse w5.heap.size 0 (usc zU fa fb) ?_ ?_ (usc_len FfalseS.out _ _) (Box.there b5.out (Nat.le_of_eq (usc_len zS_ok _ _).symm)) FN.out ?_; (· first | exact ⟨_, _, rfl, rfl, rfl⟩ | (refine ⟨_, _, rfl, ?_, ?_⟩ <;> simp [Act.eval, Act.put])); (· kernel_rfl)))
        have E8 : Hid (Env D w [(w5.heap.size, 44, usc zU fa fb), (w.heap.size + 1, 41, spc s la pa), (w.heap.size, 25, [.slice xa X.length xk])] [.gn (gSp zU.sp fa fb), .gn (gSp s la pa), .gn (gUl (.slice xa X.length xk) X)] _) := Lib.hid ((E7.out.whole 0 (usc zU fa fb) rfl ((usc_len FfalseS.out _ _).trans (usc_len zS_ok _ _).symm)))
        clear b5 E6 E7
        generalize (w5.alloc (.cells (usc zU nilV nilV).toArray 44)).setCells (w5.heap.size) 0 (usc zU fa fb) = w6 at *
        have E9 : Hid (Env D w [(w5.heap.size, 44, usc zU fa fb), (w.heap.size + 1, 41, spc s la pa), (w.heap.size, 25, [.slice xa X.length xk])] [.gn (gSp zU.sp fa fb), .gn (gSp s la pa), .gn (gUl (.slice xa X.length xk) X)] (w6.drew)) := Lib.hid E8.out.drew
        clear E8
        refine wp_regionU (S := fun w' => w'.cell? ⟨w.heap.size, 0, none⟩ = some (.slice xa X.length xk) ∧ w'.rangeAt w5.heap.size 0 (usc zU fa fb)) [] (by kernel_rfl) (⟨((E9.out.bx 2 rfl).cell 0 rfl), ((E9.out.bx 0 rfl).range (o := 0) (fun j hj => by rw [Nat.zero_add]))⟩) (fun hHeld => ?_)
        generalize w6.drew = w7 at *
        refine uReady (rs := [0]) (by kernel_rfl) (by simp) ?_
        refine ReadyU.cons rfl (fun KK hKK => ?_) ReadyU.nil
        go_simp
        refine (new_c (D := fun _ => True)).mono ?_
        rintro e w8 ⟨rfl, hb⟩
        have E10 : Hid (Env D w [(w5.heap.size, 44, usc zU fa fb), (w.heap.size + 1, 41, spc s la pa), (w.heap.size, 25, [.slice xa X.length xk])] [.gn (gSp zU.sp fa fb), .gn (gSp s la pa), .gn (gUl (.slice xa X.length xk) X)] w8) := Lib.hid (E9.out.below hb)
        clear E9 hb
        (try dsimp only)
        clear hHeld
        refine hKK.out _ _ (⟨((E10.out.bx 2 rfl).cell 0 rfl), ((E10.out.bx 0 rfl).range (o := 0) (fun j hj => by rw [Nat.zero_add]))⟩) (fun hHeld => ?_)
        clear hKK KK
        try simp only [Act.put, List.setIfInBounds_toArray, List.set_cons_zero, List.set_cons_succ]
        refine uTake (i := 1) (some 42) (v := .slice none 0 0) rfl rfl (by kernel_rfl) (by kernel_rfl) (by kernel_rfl) (by kernel_rfl) (fun _ _ _ h => h) (by rfl) (by assumption) ?_ ?_
        · (intro wS hSw; (try dsimp only at hSw); go_simp; rw [field_tab]; rfl)
        try simp only [Act.put, List.setIfInBounds_toArray, List.set_cons_zero, List.set_cons_succ]
        refine uTake (i := 2) (some 43) (v := ?_) rfl rfl (by kernel_rfl) (by kernel_rfl) (by kernel_rfl) (by kernel_rfl) (fun _ _ _ h => h) (by rfl) (by assumption) ?_ ?_
        rotate_left
        · (intro wS hSw; (try dsimp only at hSw); go_simp; try with_reducible rfl)
        try simp only [Act.put, List.setIfInBounds_toArray, List.set_cons_zero, List.set_cons_succ]
        refine uTake (i := 3) (some 44) (v := ?_) rfl rfl (by kernel_rfl) (by kernel_rfl) (by kernel_rfl) (by kernel_rfl) (fun _ _ _ h => h) (by rfl) (by assumption) ?_ ?_
        rotate_left
        · (intro wS hSw; (try dsimp only at hSw); go_simp; try with_reducible rfl)
        try simp only [Act.put, List.setIfInBounds_toArray, List.set_cons_zero, List.set_cons_succ]
        refine uTake (i := 4) (some 45) (v := ?_) rfl rfl (by kernel_rfl) (by kernel_rfl) (by kernel_rfl) (by kernel_rfl) (fun _ _ _ h => h) (by rfl) (by assumption) ?_ ?_
        rotate_left
        · (intro wS hSw; (try dsimp only at hSw); go_simp; try with_reducible rfl)
        try simp only [Act.put, List.setIfInBounds_toArray, List.set_cons_zero, List.set_cons_succ]
        refine uTake (i := 5) (some 46) (v := ?_) rfl rfl (by kernel_rfl) (by kernel_rfl) (by kernel_rfl) (by kernel_rfl) (fun _ _ _ h => h) (by rfl) (by assumption) ?_ ?_
        rotate_left
        · (intro wS hSw; (try dsimp only at hSw); go_simp; try with_reducible rfl)
        try simp only [Act.put, List.setIfInBounds_toArray, List.set_cons_zero, List.set_cons_succ]
        refine uTake (i := 7) (some 48) (v := ?_) rfl rfl (by kernel_rfl) (by kernel_rfl) (by kernel_rfl) (by kernel_rfl) (fun _ _ _ h => h) (by rfl) (by assumption) ?_ ?_
        rotate_left
        · (intro wS hSw; (try dsimp only at hSw); go_simp; try with_reducible rfl)
        try simp only [Act.put, List.setIfInBounds_toArray, List.set_cons_zero, List.set_cons_succ]
        refine uReady (rs := [6]) (by kernel_rfl) (by simp) ?_
        refine ReadyU.cons rfl (fun KK hKK => ?_) ReadyU.nil
        go_simp
        refine (valid_c X (E10.out.fc 2 rfl) HBX.out (t := false) (by first | exact v1H.out | simpa using v1H.out) (Nat.le_trans HXL.out (by omega))).mono ?_
        rintro e w9 ⟨rfl, hb⟩
        have E11 : Hid (Env D w [(w5.heap.size, 44, usc zU fa fb), (w.heap.size + 1, 41, spc s la pa), (w.heap.size, 25, [.slice xa X.length xk])] [.gn (gSp zU.sp fa fb), .gn (gSp s la pa), .gn (gUl (.slice xa X.length xk) X)] w9) := Lib.hid (E10.out.below hb)
        clear E10 hb
        (try dsimp only)
        clear hHeld
        refine hKK.out _ _ (⟨((E11.out.bx 2 rfl).cell 0 rfl), ((E11.out.bx 0 rfl).range (o := 0) (fun j hj => by rw [Nat.zero_add]))⟩) (fun hHeld => ?_)
        clear hKK KK
        try simp only [Act.put, List.setIfInBounds_toArray, List.set_cons_zero, List.set_cons_succ]
        refine uTake (i := 8) (some 49) (v := ?_) rfl rfl (by kernel_rfl) (by kernel_rfl) (by kernel_rfl) (by kernel_rfl) (fun _ _ _ h => h) (by rfl) (by assumption) ?_ ?_
        rotate_left
        · (intro wS hSw; (try dsimp only at hSw); go_simp; try with_reducible rfl)
        try simp only [Act.put, List.setIfInBounds_toArray, List.set_cons_zero, List.set_cons_succ]
        refine uTake (i := 9) (some 50) (v := ?_) rfl rfl (by kernel_rfl) (by kernel_rfl) (by kernel_rfl) (by kernel_rfl) (fun _ _ _ h => h) (by rfl) (by assumption) ?_ ?_
        rotate_left
        · (intro wS hSw; (try dsimp only at hSw); go_simp; try with_reducible rfl)
        try simp only [Act.put, List.setIfInBounds_toArray, List.set_cons_zero, List.set_cons_succ]
        refine uTake (i := 10) (some 51) (v := ?_) rfl rfl (by kernel_rfl) (by kernel_rfl) (by kernel_rfl) (by kernel_rfl) (fun _ _ _ h => h) (by rfl) (by assumption) ?_ ?_
        rotate_left
        · (intro wS hSw; (try dsimp only at hSw); go_simp; try with_reducible rfl)
        try simp only [Act.put, List.setIfInBounds_toArray, List.set_cons_zero, List.set_cons_succ]
        refine uTake (i := 11) (some 52) (v := ?_) rfl rfl (by kernel_rfl) (by kernel_rfl) (by kernel_rfl) (by kernel_rfl) (fun _ _ _ h => h) (by rfl) (by assumption) ?_ ?_
        rotate_left
        · (intro wS hSw; (try dsimp only at hSw); go_simp; try with_reducible rfl)
        try simp only [Act.put, List.setIfInBounds_toArray, List.set_cons_zero, List.set_cons_succ]
        refine uTake (i := 12) (some 53) (v := ?_) rfl rfl (by kernel_rfl) (by kernel_rfl) (by kernel_rfl) (by kernel_rfl) (fun _ _ _ h => h) (by rfl) (by assumption) ?_ ?_
        rotate_left
        · (intro wS hSw; (try dsimp only at hSw); go_simp; try with_reducible rfl)
        try simp only [Act.put, List.setIfInBounds_toArray, List.set_cons_zero, List.set_cons_succ]
        refine uTake (i := 13) (some 54) (v := ?_) rfl rfl (by kernel_rfl) (by kernel_rfl) (by kernel_rfl) (by kernel_rfl) (fun _ _ _ h => h) (by rfl) (by assumption) ?_ ?_
        rotate_left
        · (intro wS hSw; (try dsimp only at hSw); go_simp; try with_reducible rfl)
        try simp only [Act.put, List.setIfInBounds_toArray, List.set_cons_zero, List.set_cons_succ]
        refine uTake (i := 14) (some 55) (v := ?_) rfl rfl (by kernel_rfl) (by kernel_rfl) (by kernel_rfl) (by kernel_rfl) (fun _ _ _ h => h) (by rfl) (by assumption) ?_ ?_
        rotate_left
        · (intro wS hSw; (try dsimp only at hSw); go_simp; try with_reducible rfl)
        try simp only [Act.put, List.setIfInBounds_toArray, List.set_cons_zero, List.set_cons_succ]
        refine uTake (i := 15) (some 56) (v := ?_) rfl rfl (by kernel_rfl) (by kernel_rfl) (by kernel_rfl) (by kernel_rfl) (fun _ _ _ h => h) (by rfl) (by assumption) ?_ ?_
        rotate_left
        · (intro wS hSw; (try dsimp only at hSw); go_simp; try with_reducible rfl)
        try simp only [Act.put, List.setIfInBounds_toArray, List.set_cons_zero, List.set_cons_succ]
        refine uTake (i := 16) (some 57) (v := ?_) rfl rfl (by kernel_rfl) (by kernel_rfl) (by kernel_rfl) (by kernel_rfl) (fun _ _ _ h => h) (by rfl) (by assumption) ?_ ?_
        rotate_left
        · (intro wS hSw; (try dsimp only at hSw); go_simp; try with_reducible rfl)
        try simp only [Act.put, List.setIfInBounds_toArray, List.set_cons_zero, List.set_cons_succ]
        refine uTake (i := 17) (some 58) (v := ?_) rfl rfl (by kernel_rfl) (by kernel_rfl) (by kernel_rfl) (by kernel_rfl) (fun _ _ _ h => h) (by rfl) (by assumption) ?_ ?_
        rotate_left
        · (intro wS hSw; (try dsimp only at hSw); go_simp; try with_reducible rfl)
        try simp only [Act.put, List.setIfInBounds_toArray, List.set_cons_zero, List.set_cons_succ]
        refine uTake (i := 18) (some 59) (v := ?_) rfl rfl (by kernel_rfl) (by kernel_rfl) (by kernel_rfl) (by kernel_rfl) (fun _ _ _ h => h) (by rfl) (by assumption) ?_ ?_
        rotate_left
        · (intro wS hSw; (try dsimp only at hSw); go_simp; try with_reducible rfl)
        try simp only [Act.put, List.setIfInBounds_toArray, List.set_cons_zero, List.set_cons_succ]
        refine uPass (i := 19) (some 60) rfl rfl (by kernel_rfl) (by kernel_rfl) (by kernel_rfl) (by kernel_rfl) (fun _ _ _ h => h) (by rfl) (by assumption) ?_
        try simp only [Act.put, List.setIfInBounds_toArray, List.set_cons_zero, List.set_cons_succ]
        refine uPass (i := 20) (some 61) rfl rfl (by kernel_rfl) (by kernel_rfl) (by kernel_rfl) (by kernel_rfl) (fun _ _ _ h => h) (by rfl) (by assumption) ?_
        try simp only [Act.put, List.setIfInBounds_toArray, List.set_cons_zero, List.set_cons_succ]
        refine uPass (i := 21) (some 62) rfl rfl (by kernel_rfl) (by kernel_rfl) (by kernel_rfl) (by kernel_rfl) (fun _ _ _ h => h) (by rfl) (by assumption) ?_
        try simp only [Act.put, List.setIfInBounds_toArray, List.set_cons_zero, List.set_cons_succ]
        refine uPass (i := 22) (some 63) rfl rfl (by kernel_rfl) (by kernel_rfl) (by kernel_rfl) (by kernel_rfl) (fun _ _ _ h => h) (by rfl) (by assumption) ?_
        try simp only [Act.put, List.setIfInBounds_toArray, List.set_cons_zero, List.set_cons_succ]
        refine uPass (i := 23) (some 64) rfl rfl (by kernel_rfl) (by kernel_rfl) (by kernel_rfl) (by kernel_rfl) (fun _ _ _ h => h) (by rfl) (by assumption) ?_
        try simp only [Act.put, List.setIfInBounds_toArray, List.set_cons_zero, List.set_cons_succ]
        refine uPass (i := 24) (some 65) rfl rfl (by kernel_rfl) (by kernel_rfl) (by kernel_rfl) (by kernel_rfl) (fun _ _ _ h => h) (by rfl) (by assumption) ?_
        try simp only [Act.put, List.setIfInBounds_toArray, List.set_cons_zero, List.set_cons_succ]
        refine uPass (i := 25) (some 66) rfl rfl (by kernel_rfl) (by kernel_rfl) (by kernel_rfl) (by kernel_rfl) (fun _ _ _ h => h) (by rfl) (by assumption) ?_
        try simp only [Act.put, List.setIfInBounds_toArray, List.set_cons_zero, List.set_cons_succ]
        refine uPass (i := 26) (some 67) rfl rfl (by kernel_rfl) (by kernel_rfl) (by kernel_rfl) (by kernel_rfl) (fun _ _ _ h => h) (by rfl) (by assumption) ?_
        try simp only [Act.put, List.setIfInBounds_toArray, List.set_cons_zero, List.set_cons_succ]
        refine uTake (i := 27) (some 68) (v := ?_) rfl rfl (by kernel_rfl) (by kernel_rfl) (by kernel_rfl) (by kernel_rfl) (fun _ _ _ h => h) (by rfl) (by assumption) ?_ ?_
        rotate_left
        · (intro wS hSw; (try dsimp only at hSw); go_simp; try with_reducible rfl)
        try simp only [Act.put, List.setIfInBounds_toArray, List.set_cons_zero, List.set_cons_succ]
        refine uTake (i := 28) (some 69) (v := ?_) rfl rfl (by kernel_rfl) (by kernel_rfl) (by kernel_rfl) (by kernel_rfl) (fun _ _ _ h => h) (by rfl) (by assumption) ?_ ?_
        rotate_left
        · (intro wS hSw; (try dsimp only at hSw); go_simp; try with_reducible rfl)
        try simp only [Act.put, List.setIfInBounds_toArray, List.set_cons_zero, List.set_cons_succ]
        refine uTake (i := 29) (some 70) (v := ?_) rfl rfl (by kernel_rfl) (by kernel_rfl) (by kernel_rfl) (by kernel_rfl) (fun _ _ _ h => h) (by rfl) (by assumption) ?_ ?_
        rotate_left
        · (intro wS hSw; (try dsimp only at hSw); go_simp; try with_reducible rfl)
        try simp only [Act.put, List.setIfInBounds_toArray, List.set_cons_zero, List.set_cons_succ]
        refine uTake (i := 30) (some 71) (v := ?_) rfl rfl (by kernel_rfl) (by kernel_rfl) (by kernel_rfl) (by kernel_rfl) (fun _ _ _ h => h) (by rfl) (by assumption) ?_ ?_
        rotate_left
        · (intro wS hSw; (try dsimp only at hSw); go_simp; try with_reducible rfl)
        try simp only [Act.put, List.setIfInBounds_toArray, List.set_cons_zero, List.set_cons_succ]
        refine uTake (i := 31) (some 72) (v := ?_) rfl rfl (by kernel_rfl) (by kernel_rfl) (by kernel_rfl) (by kernel_rfl) (fun _ _ _ h => h) (by rfl) (by assumption) ?_ ?_
        rotate_left
        · (intro wS hSw; (try dsimp only at hSw); go_simp; try with_reducible rfl)
        try simp only [Act.put, List.setIfInBounds_toArray, List.set_cons_zero, List.set_cons_succ]
        refine uTake (i := 32) (some 73) (v := ?_) rfl rfl (by kernel_rfl) (by kernel_rfl) (by kernel_rfl) (by kernel_rfl) (fun _ _ _ h => h) (by rfl) (by assumption) ?_ ?_
        rotate_left
        · (intro wS hSw; (try dsimp only at hSw); go_simp; try with_reducible rfl)
        try simp only [Act.put, List.setIfInBounds_toArray, List.set_cons_zero, List.set_cons_succ]
        refine uTake (i := 33) (some 74) (v := .agg (usc zU fa fb).toArray) rfl rfl (by kernel_rfl) (by kernel_rfl) (by kernel_rfl) (by kernel_rfl) (fun _ _ _ h => h) (by rfl) (by assumption) ?_ ?_
        · (intro wS hSw; (try dsimp only at hSw); revert hSw; (try simp only [and_imp]); intros; exact exec_load_b bUse _ rfl w5.heap.size 0 rfl (usc zU fa fb) (usc_len FfalseS.out _ _) (by assumption))
        try simp only [Act.put, List.setIfInBounds_toArray, List.set_cons_zero, List.set_cons_succ]
        refine uTake (i := 34) (some 75) (v := .agg (usc zU nilV nilV).toArray) rfl rfl (by kernel_rfl) (by kernel_rfl) (by kernel_rfl) (by kernel_rfl) (fun _ _ _ h => h) (by rfl) (by assumption) ?_ ?_
        · (intro wS hSw; (try dsimp only at hSw); exact exec_use0 rfl)
        try simp only [Act.put, List.setIfInBounds_toArray, List.set_cons_zero, List.set_cons_succ]
        refine uReady (rs := [35]) (by kernel_rfl) (by simp) ?_
        refine ReadyU.cons rfl (fun KK hKK => ?_) ReadyU.nil
        go_simp
        refine (sameu_c zU zU (E11.out.fc 0 rfl) (gSp.nil _ _) (by constructor <;> exact Nat.zero_le _) (by constructor <;> exact Nat.zero_le _) (t := true) ⟨fun _ => rfl, fun _ => rfl⟩).mono ?_
        rintro e w10 ⟨rfl, hb⟩
        have E12 : Hid (Env D w [(w5.heap.size, 44, usc zU fa fb), (w.heap.size + 1, 41, spc s la pa), (w.heap.size, 25, [.slice xa X.length xk])] [.gn (gSp zU.sp fa fb), .gn (gSp s la pa), .gn (gUl (.slice xa X.length xk) X)] w10) := Lib.hid (E11.out.below hb)
        clear E11 hb
        (try dsimp only)
        clear hHeld
        refine hKK.out _ _ (⟨((E12.out.bx 2 rfl).cell 0 rfl), ((E12.out.bx 0 rfl).range (o := 0) (fun j hj => by rw [Nat.zero_add]))⟩) (fun hHeld => ?_)
        clear hKK KK
        try simp only [Act.put, List.setIfInBounds_toArray, List.set_cons_zero, List.set_cons_succ]
        refine uTake (i := 36) (some 77) (v := ?_) rfl rfl (by kernel_rfl) (by kernel_rfl) (by kernel_rfl) (by kernel_rfl) (fun _ _ _ h => h) (by rfl) (by assumption) ?_ ?_
        rotate_left
        · (intro wS hSw; (try dsimp only at hSw); go_simp; try with_reducible rfl)
        try simp only [Act.put, List.setIfInBounds_toArray, List.set_cons_zero, List.set_cons_succ]
        refine uTake (i := 37) (some 78) (v := ?_) rfl rfl (by kernel_rfl) (by kernel_rfl) (by kernel_rfl) (by kernel_rfl) (fun _ _ _ h => h) (by rfl) (by assumption) ?_ ?_
        rotate_left
        · (intro wS hSw; (try dsimp only at hSw); go_simp; try with_reducible rfl)
        try simp only [Act.put, List.setIfInBounds_toArray, List.set_cons_zero, List.set_cons_succ]
        refine uTake (i := 38) (some 79) (v := ?_) rfl rfl (by kernel_rfl) (by kernel_rfl) (by kernel_rfl) (by kernel_rfl) (fun _ _ _ h => h) (by rfl) (by assumption) ?_ ?_
        rotate_left
        · (intro wS hSw; (try dsimp only at hSw); go_simp; try with_reducible rfl)
        try simp only [Act.put, List.setIfInBounds_toArray, List.set_cons_zero, List.set_cons_succ]
        refine uTake (i := 39) (some 80) (v := ?_) rfl rfl (by kernel_rfl) (by kernel_rfl) (by kernel_rfl) (by kernel_rfl) (fun _ _ _ h => h) (by rfl) (by assumption) ?_ ?_
        rotate_left
        · (intro wS hSw; (try dsimp only at hSw); go_simp; try with_reducible rfl)
        try simp only [Act.put, List.setIfInBounds_toArray, List.set_cons_zero, List.set_cons_succ]
        refine uTake (i := 40) (some 81) (v := ?_) rfl rfl (by kernel_rfl) (by kernel_rfl) (by kernel_rfl) (by kernel_rfl) (fun _ _ _ h => h) (by rfl) (by assumption) ?_ ?_
        rotate_left
        · (intro wS hSw; (try dsimp only at hSw); go_simp; try with_reducible rfl)
        try simp only [Act.put, List.setIfInBounds_toArray, List.set_cons_zero, List.set_cons_succ]
        refine uTake (i := 41) (some 82) (v := ?_) rfl rfl (by kernel_rfl) (by kernel_rfl) (by kernel_rfl) (by kernel_rfl) (fun _ _ _ h => h) (by rfl) (by assumption) ?_ ?_
        rotate_left
        · (intro wS hSw; (try dsimp only at hSw); go_simp; try with_reducible rfl)
        try simp only [Act.put, List.setIfInBounds_toArray, List.set_cons_zero, List.set_cons_succ]
        refine uPass (i := 42) (some 83) rfl rfl (by kernel_rfl) (by kernel_rfl) (by kernel_rfl) (by kernel_rfl) (fun _ _ _ h => h) (by rfl) (by assumption) ?_
        try simp only [Act.put, List.setIfInBounds_toArray, List.set_cons_zero, List.set_cons_succ]
        refine uPass (i := 43) (some 84) rfl rfl (by kernel_rfl) (by kernel_rfl) (by kernel_rfl) (by kernel_rfl) (fun _ _ _ h => h) (by rfl) (by assumption) ?_
        try simp only [Act.put, List.setIfInBounds_toArray, List.set_cons_zero, List.set_cons_succ]
        refine uPass (i := 44) (some 85) rfl rfl (by kernel_rfl) (by kernel_rfl) (by kernel_rfl) (by kernel_rfl) (fun _ _ _ h => h) (by rfl) (by assumption) ?_
        try simp only [Act.put, List.setIfInBounds_toArray, List.set_cons_zero, List.set_cons_succ]
        refine uPass (i := 45) (some 86) rfl rfl (by kernel_rfl) (by kernel_rfl) (by kernel_rfl) (by kernel_rfl) (fun _ _ _ h => h) (by rfl) (by assumption) ?_
        try simp only [Act.put, List.setIfInBounds_toArray, List.set_cons_zero, List.set_cons_succ]
        refine uPass (i := 46) (some 87) rfl rfl (by kernel_rfl) (by kernel_rfl) (by kernel_rfl) (by kernel_rfl) (fun _ _ _ h => h) (by rfl) (by assumption) ?_
        try simp only [Act.put, List.setIfInBounds_toArray, List.set_cons_zero, List.set_cons_succ]
        refine uPass (i := 47) (some 88) rfl rfl (by kernel_rfl) (by kernel_rfl) (by kernel_rfl) (by kernel_rfl) (fun _ _ _ h => h) (by rfl) (by assumption) ?_
        try simp only [Act.put, List.setIfInBounds_toArray, List.set_cons_zero, List.set_cons_succ]
        refine uTake (i := 48) (some 89) (v := ?_) rfl rfl (by kernel_rfl) (by kernel_rfl) (by kernel_rfl) (by kernel_rfl) (fun _ _ _ h => h) (by rfl) (by assumption) ?_ ?_
        rotate_left
        · (intro wS hSw; (try dsimp only at hSw); go_simp; try with_reducible rfl)
        try simp only [Act.put, List.setIfInBounds_toArray, List.set_cons_zero, List.set_cons_succ]
        refine uTake (i := 49) (some 90) (v := ?_) rfl rfl (by kernel_rfl) (by kernel_rfl) (by kernel_rfl) (by kernel_rfl) (fun _ _ _ h => h) (by rfl) (by assumption) ?_ ?_
        rotate_left
        · (intro wS hSw; (try dsimp only at hSw); go_simp; try with_reducible rfl)
        try simp only [Act.put, List.setIfInBounds_toArray, List.set_cons_zero, List.set_cons_succ]
        refine uTake (i := 50) (some 91) (v := ?_) rfl rfl (by kernel_rfl) (by kernel_rfl) (by kernel_rfl) (by kernel_rfl) (fun _ _ _ h => h) (by rfl) (by assumption) ?_ ?_
        rotate_left
        · (intro wS hSw; (try dsimp only at hSw); go_simp; try with_reducible rfl)
        try simp only [Act.put, List.setIfInBounds_toArray, List.set_cons_zero, List.set_cons_succ]
        refine uTake (i := 51) (some 92) (v := ?_) rfl rfl (by kernel_rfl) (by kernel_rfl) (by kernel_rfl) (by kernel_rfl) (fun _ _ _ h => h) (by rfl) (by assumption) ?_ ?_
        rotate_left
        · (intro wS hSw; (try dsimp only at hSw); go_simp; try with_reducible rfl)
        try simp only [Act.put, List.setIfInBounds_toArray, List.set_cons_zero, List.set_cons_succ]
        refine uTake (i := 52) (some 93) (v := ?_) rfl rfl (by kernel_rfl) (by kernel_rfl) (by kernel_rfl) (by kernel_rfl) (fun _ _ _ h => h) (by rfl) (by assumption) ?_ ?_
        rotate_left
        · (intro wS hSw; (try dsimp only at hSw); go_simp; try with_reducible rfl)
        try simp only [Act.put, List.setIfInBounds_toArray, List.set_cons_zero, List.set_cons_succ]
        refine uTake (i := 53) (some 94) (v := ?_) rfl rfl (by kernel_rfl) (by kernel_rfl) (by kernel_rfl) (by kernel_rfl) (fun _ _ _ h => h) (by rfl) (by assumption) ?_ ?_
        rotate_left
        · (intro wS hSw; (try dsimp only at hSw); go_simp; try with_reducible rfl)
        try simp only [Act.put, List.setIfInBounds_toArray, List.set_cons_zero, List.set_cons_succ]
        refine uTake (i := 54) (some 95) (v := ?_) rfl rfl (by kernel_rfl) (by kernel_rfl) (by kernel_rfl) (by kernel_rfl) (fun _ _ _ h => h) (by rfl) (by assumption) ?_ ?_
        rotate_left
        · (intro wS hSw; (try dsimp only at hSw); go_simp; try with_reducible rfl)
        try simp only [Act.put, List.setIfInBounds_toArray, List.set_cons_zero, List.set_cons_succ]
        refine uReady (rs := [55]) (by kernel_rfl) (by simp) ?_
        refine ReadyU.cons rfl (fun KK hKK => ?_) ReadyU.nil
        go_simp
        refine (size_c X (E12.out.fc 2 rfl) HBX.out (Nat.le_trans HXL.out (by omega)) (r := 0) ⟨fun h => absurd h HNV.out, fun _ => rfl⟩).mono ?_
        rintro e w11 ⟨rfl, hb⟩
        have E13 : Hid (Env D w [(w5.heap.size, 44, usc zU fa fb), (w.heap.size + 1, 41, spc s la pa), (w.heap.size, 25, [.slice xa X.length xk])] [.gn (gSp zU.sp fa fb), .gn (gSp s la pa), .gn (gUl (.slice xa X.length xk) X)] w11) := Lib.hid (E12.out.below hb)
        clear E12 hb
        (try dsimp only)
        clear hHeld
        refine hKK.out _ _ (⟨((E13.out.bx 2 rfl).cell 0 rfl), ((E13.out.bx 0 rfl).range (o := 0) (fun j hj => by rw [Nat.zero_add]))⟩) (fun hHeld => ?_)
        clear hKK KK
        try simp only [Act.put, List.setIfInBounds_toArray, List.set_cons_zero, List.set_cons_succ]
        refine uTake (i := 56) (some 97) (v := ?_) rfl rfl (by kernel_rfl) (by kernel_rfl) (by kernel_rfl) (by kernel_rfl) (fun _ _ _ h => h) (by rfl) (by assumption) ?_ ?_
        rotate_left
        · (intro wS hSw; (try dsimp only at hSw); go_simp; try with_reducible rfl)
        try simp only [Act.put, List.setIfInBounds_toArray, List.set_cons_zero, List.set_cons_succ]
        refine uTake (i := 57) (some 98) (v := ?_) rfl rfl (by kernel_rfl) (by kernel_rfl) (by kernel_rfl) (by kernel_rfl) (fun _ _ _ h => h) (by rfl) (by assumption) ?_ ?_
        rotate_left
        · (intro wS hSw; (try dsimp only at hSw); go_simp; try with_reducible rfl)
        try simp only [Act.put, List.setIfInBounds_toArray, List.set_cons_zero, List.set_cons_succ]
        refine uTake (i := 58) (some 99) (v := ?_) rfl rfl (by kernel_rfl) (by kernel_rfl) (by kernel_rfl) (by kernel_rfl) (fun _ _ _ h => h) (by rfl) (by assumption) ?_ ?_
        rotate_left
        · (intro wS hSw; (try dsimp only at hSw); go_simp; try with_reducible rfl)
        try simp only [Act.put, List.setIfInBounds_toArray, List.set_cons_zero, List.set_cons_succ]
        refine uDone (by kernel_rfl) ?_ _
        have b6 := E13.out.bx 2 rfl
        have c6_0 := b6.cell 0 rfl
        clear b6
        have b7 := E13.out.bx 1 rfl
        have r7 := Lib.hid (b7.range (o := 0) (fun j hj => by rw [Nat.zero_add]))
        clear b7
        go_wp2_with (first | (with_reducible refine wpl_alloc_b ?_ ?_ _ zvUse ?_; (· rfl); (· rfl)) | (with_reducible refine wpl_load_b bSpend (w.heap.size + 1) 0 ?_ ?_ (spc s la pa) (spc_len HS.out _ _) r7.out ?_; (· exact ⟨_, rfl, rfl⟩); (· kernel_rfl)))
        refine (put_t X s (E13.out.fc 2 rfl) (E13.out.fc 1 rfl) HBX.out HBS.out (Nat.le_trans HXL.out (by omega)) HR.out).mono ?_
        rintro e w12 ⟨⟨da, dk, dX, dc, dj, dY, rfl, d1, d2, dH, dI⟩, hb⟩
        have E14 : Hid (Env D w [(w5.heap.size, 44, usc zU fa fb), (w.heap.size + 1, 41, spc s la pa), (w.heap.size, 25, [.slice xa X.length xk])] [.gn (gUl (.slice dc dY.length dj) dY), .gn (gUl (.slice da dX.length dk) dX), .gn (gSp zU.sp fa fb), .gn (gSp s la pa), .gn (gUl (.slice xa X.length xk) X)] w12) := Lib.hid (E13.out.got (E13.out.got (E13.out.below hb) (.gn (gUl (.slice da dX.length dk) dX)) dH.out) (.gn (gUl (.slice dc dY.length dj) dY)) dI.out)
        clear c6_0 r7 E13 hb dH dI
        have dL := Lib.hid d1; have dC := Lib.hid d2; clear d1 d2
        have E15 : Hid (Env D w [(w12.heap.size, 25, [.slice da dX.length dk]), (w5.heap.size, 44, usc zU fa fb), (w.heap.size + 1, 41, spc s la pa), (w.heap.size, 25, [.slice xa X.length xk])] [.gn (gUl (.slice dc dY.length dj) dY), .gn (gUl (.slice da dX.length dk) dX), .gn (gSp zU.sp fa fb), .gn (gSp s la pa), .gn (gUl (.slice xa X.length xk) X)] _) := Lib.hid ((E14.out.push 25 [.slice da dX.length dk] (w12.heap.size) (by simp)))
        have b8 := E15.out.bx 3 rfl
        have c8_0 := b8.cell 0 rfl
        clear b8
        have b9 := E15.out.bx 2 rfl
        have r9 := Lib.hid (b9.range (o := 0) (fun j hj => by rw [Nat.zero_add]))
        clear b9
        go_wp2_with (first | (with_reducible refine wpl_alloc_b ?_ ?_ _ zvUse ?_; (· rfl); (· rfl)) | (with_reducible refine wpl_load_b bSpend (w.heap.size + 1) 0 ?_ ?_ (spc s la pa) (spc_len HS.out _ _) r9.out ?_; (· exact ⟨_, rfl, rfl⟩); (· kernel_rfl)))
        refine (rput_c X s (E15.out.fc 4 rfl) (E15.out.fc 3 rfl) HBX.out HBS.out (Nat.le_trans HXL.out (by omega)) HR.out).mono ?_
        rintro e w13 ⟨⟨ra, rk, rX, rc, rj, rY, rfl, r1, r2, rH, rI⟩, hb⟩
        have E16 : Hid (Env D w [(w12.heap.size, 25, [.slice da dX.length dk]), (w5.heap.size, 44, usc zU fa fb), (w.heap.size + 1, 41, spc s la pa), (w.heap.size, 25, [.slice xa X.length xk])] [.gn (gUl (.slice rc rY.length rj) rY), .gn (gUl (.slice ra rX.length rk) rX), .gn (gUl (.slice dc dY.length dj) dY), .gn (gUl (.slice da dX.length dk) dX), .gn (gSp zU.sp fa fb), .gn (gSp s la pa), .gn (gUl (.slice xa X.length xk) X)] w13) := Lib.hid (E15.out.got (E15.out.got (E15.out.below hb) (.gn (gUl (.slice ra rX.length rk) rX)) rH.out) (.gn (gUl (.slice rc rY.length rj) rY)) rI.out)
        clear c8_0 r9 E14 E15 hb rH rI
        have rL := Lib.hid r1; have rC := Lib.hid r2; clear r1 r2
        have E17 : Hid (Env D w [(w13.heap.size, 25, [.slice ra rX.length rk]), (w12.heap.size, 25, [.slice da dX.length dk]), (w5.heap.size, 44, usc zU fa fb), (w.heap.size + 1, 41, spc s la pa), (w.heap.size, 25, [.slice xa X.length xk])] [.gn (gUl (.slice rc rY.length rj) rY), .gn (gUl (.slice ra rX.length rk) rX), .gn (gUl (.slice dc dY.length dj) dY), .gn (gUl (.slice da dX.length dk) dX), .gn (gSp zU.sp fa fb), .gn (gSp s la pa), .gn (gUl (.slice xa X.length xk) X)] _) := Lib.hid ((E16.out.push 25 [.slice ra rX.length rk] (w13.heap.size) (by simp)))
        have b10 := E17.out.bx 1 rfl
        have c10_0 := b10.cell 0 rfl
        clear b10
        have b11 := E17.out.bx 0 rfl
        have c11_0 := b11.cell 0 rfl
        clear b11
        go_wp2_with (first | (with_reducible refine wpl_alloc_b ?_ ?_ _ zvUse ?_; (· rfl); (· rfl)))
        refine (rsame_c dX rX (E17.out.fc 3 rfl) (E17.out.fc 1 rfl) (Bd.of HPB.out.1 dL.out) (Bd.of HPB.out.1 rL.out) ⟨by rw [map_len dL.out]; exact HLC.out.1, by rw [map_len rL.out]; exact HLC.out.1⟩ (t := true) ⟨fun _ => dL.out.trans rL.out.symm, fun _ => rfl⟩).mono ?_
        rintro e w14 ⟨rfl, hb⟩
        have E18 : Hid (Env D w [(w13.heap.size, 25, [.slice ra rX.length rk]), (w12.heap.size, 25, [.slice da dX.length dk]), (w5.heap.size, 44, usc zU fa fb), (w.heap.size + 1, 41, spc s la pa), (w.heap.size, 25, [.slice xa X.length xk])] [.gn (gUl (.slice rc rY.length rj) rY), .gn (gUl (.slice ra rX.length rk) rX), .gn (gUl (.slice dc dY.length dj) dY), .gn (gUl (.slice da dX.length dk) dX), .gn (gSp zU.sp fa fb), .gn (gSp s la pa), .gn (gUl (.slice xa X.length xk) X)] w14) := Lib.hid (E17.out.below hb)
        clear c10_0 c11_0 E16 E17 hb
        go_wp2_with (first | (with_reducible refine wpl_alloc_b ?_ ?_ _ zvUse ?_; (· rfl); (· rfl)))
        refine (rsame_c dY rY (E18.out.fc 2 rfl) (E18.out.fc 0 rfl) (Bd.of HPB.out.2.1 dC.out) (Bd.of HPB.out.2.1 rC.out) ⟨by rw [map_len dC.out]; exact HLC.out.2, by rw [map_len rC.out]; exact HLC.out.2⟩ (t := true) ⟨fun _ => dC.out.trans rC.out.symm, fun _ => rfl⟩).mono ?_
        rintro e w15 ⟨rfl, hb⟩
        have E19 : Hid (Env D w [(w13.heap.size, 25, [.slice ra rX.length rk]), (w12.heap.size, 25, [.slice da dX.length dk]), (w5.heap.size, 44, usc zU fa fb), (w.heap.size + 1, 41, spc s la pa), (w.heap.size, 25, [.slice xa X.length xk])] [.gn (gUl (.slice rc rY.length rj) rY), .gn (gUl (.slice ra rX.length rk) rX), .gn (gUl (.slice dc dY.length dj) dY), .gn (gUl (.slice da dX.length dk) dX), .gn (gSp zU.sp fa fb), .gn (gSp s la pa), .gn (gUl (.slice xa X.length xk) X)] w15) := Lib.hid (E18.out.below hb)
        clear E18 hb
        have hfin := Lib.hid E19.out.bel
        go_wp2_with (first | (with_reducible refine wpl_alloc_b ?_ ?_ _ zvUse ?_; (· rfl); (· rfl)))
        go_ret
        exact ⟨rfl, hfin.out⟩
      | true =>
        have HV : Hid (ValidT (X.map Uv.u)) := Lib.hid (v1H.out.1 (by simp))
        have b3 := E4.out.bx 1 rfl
        have c3_0 := b3.cell 0 rfl
        clear b3
        go_wp2_with fail
        refine (rvalid_c X (E4.out.fc 1 rfl) HBX.out (t := true) (by first | exact v1H.out | simpa using v1H.out) (Nat.le_trans HXL.out (by omega))).mono ?_
        rintro e w4 ⟨rfl, hb⟩
        have E5 : Hid (Env D w [(w.heap.size + 1, 41, spc s la pa), (w.heap.size, 25, [.slice xa X.length xk])] [.gn (gSp s la pa), .gn (gUl (.slice xa X.length xk) X)] w4) := Lib.hid (E4.out.below hb)
        clear c3_0 E4 hb
        have HSX : Hid ((ValidT (X.map Uv.u) → (X.length : Int) = (X.length : Int)) ∧ (¬ ValidT (X.map Uv.u) → (X.length : Int) = 0)) := Lib.hid ⟨fun _ => rfl, fun h => absurd HV.out h⟩
        obtain ⟨fd, hfd⟩ : ∃ fd, findK (X.map Uv.u) a b = fd := ⟨_, rfl⟩
        have HFK := Lib.hid hfd
        clear hfd
        cases fd with
        | none =>
          have b4 := E5.out.bx 1 rfl
          have c4_0 := b4.cell 0 rfl
          clear b4
          go_wp2_with fail
          refine (find_c X a b (E5.out.fc 1 rfl) HBX.out (Nat.le_trans HXL.out (by omega)) (u := zU) (t := false) (.inr (.inl ⟨HV.out, HFK.out, rfl, rfl⟩))).mono ?_
          rintro e w5 ⟨⟨fa, fb, rfl, fh⟩, hb⟩
          have E6 : Hid (Env D w [(w.heap.size + 1, 41, spc s la pa), (w.heap.size, 25, [.slice xa X.length xk])] [.gn (gSp zU.sp fa fb), .gn (gSp s la pa), .gn (gUl (.slice xa X.length xk) X)] w5) := Lib.hid (E5.out.got (E5.out.below hb) (.gn (gSp zU.sp fa fb)) fh.out)
          clear c4_0 E5 hb fh
          have FN : Hid (∀ v ∈ usc zU fa fb, v.oneCell' = true) := Lib.hid (gUv.one (x := ⟨zU, fa, fb⟩) (E6.out.fc 0 rfl)); have FfalseS : Hid (SpOk zU.sp) := Lib.hid (E6.out.spOk 0 rfl)
          have E7 : Hid (Env D w [(w5.heap.size, 44, usc zU nilV nilV), (w.heap.size + 1, 41, spc s la pa), (w.heap.size, 25, [.slice xa X.length xk])] [.gn (gSp zU.sp fa fb), .gn (gSp s la pa), .gn (gUl (.slice xa X.length xk) X)] _) := Lib.hid ((E6.out.push 44 (usc zU nilV nilV) (w5.heap.size) (by simp)))
          have b5 := Lib.hid (E7.out.bx 0 rfl)
          have E8 : Hid (Env D w [(w5.heap.size, 44, usc zU fa fb), (w.heap.size + 1, 41, spc s la pa), (w.heap.size, 25, [.slice xa X.length xk])] [.gn (gSp zU.sp fa fb), .gn (gSp s la pa), .gn (gUl (.slice xa X.length xk) X)] _) := Lib.hid ((E7.out.whole 0 (usc zU fa fb) rfl ((usc_len FfalseS.out _ _).trans (usc_len zS_ok _ _).symm)))
          have b6 := E8.out.bx 2 rfl
          have c6_0 := b6.cell 0 rfl
          clear b6
          go_wp2_with (first | (with_reducible refine wpl_alloc_b ?_ ?_ _ zvUse ?_; (· rfl); (· rfl)) | (with_reducible refine wpl_store_b bUse w5.heap.size 0 (usc zU fa fb) ?_ ?_ (usc_len FfalseS.out _ _) (Box.there b5.out (Nat.le_of_eq (usc_len zS_ok _ _).symm)) FN.out ?_; (· first | exact ⟨_, _, rfl, rfl, rfl⟩ | (refine ⟨_, _, rfl, ?_, ?_⟩ <;> simp [Act.eval, Act.put])); (· kernel_rfl)))
          refine (rfind_c X a b (E8.out.fc 2 rfl) (Nat.le_trans HXL.out (by omega)) (findR_none HFK.out)).mono ?_
          rintro e w6 ⟨rfl, hb⟩
          have E9 : Hid (Env D w [(w5.heap.size, 44, usc zU fa fb), (w.heap.size + 1, 41, spc s la pa), (w.heap.size, 25, [.slice xa X.length xk])] [.gn (gSp zU.sp fa fb), .gn (gSp s la pa), .gn (gUl (.slice xa X.length xk) X)] w6) := Lib.hid (E8.out.below hb)
          clear b5 c6_0 E6 E7 E8 hb
          go_wp2_with (first | (with_reducible refine wpl_alloc_b ?_ ?_ _ zvUse ?_; (· rfl); (· rfl)))
          have E10 : Hid (Env D w [(w5.heap.size, 44, usc zU fa fb), (w.heap.size + 1, 41, spc s la pa), (w.heap.size, 25, [.slice xa X.length xk])] [.gn (gSp zU.sp fa fb), .gn (gSp s la pa), .gn (gUl (.slice xa X.length xk) X)] (w6.drew)) := Lib.hid E9.out.drew
          clear E9
          refine wp_regionU (S := fun w' => w'.cell? ⟨w.heap.size, 0, none⟩ = some (.slice xa X.length xk) ∧ w'.rangeAt w5.heap.size 0 (usc zU fa fb)) [] (by kernel_rfl) (⟨((E10.out.bx 2 rfl).cell 0 rfl), ((E10.out.bx 0 rfl).range (o := 0) (fun j hj => by rw [Nat.zero_add]))⟩) (fun hHeld => ?_)
          generalize w6.drew = w7 at *
          refine uReady (rs := [0]) (by kernel_rfl) (by simp) ?_
          refine ReadyU.cons rfl (fun KK hKK => ?_) ReadyU.nil
          go_simp
          refine (new_c (D := fun _ => True)).mono ?_
          rintro e w8 ⟨rfl, hb⟩
          have E11 : Hid (Env D w [(w5.heap.size, 44, usc zU fa fb), (w.heap.size + 1, 41, spc s la pa), (w.heap.size, 25, [.slice xa X.length xk])] [.gn (gSp zU.sp fa fb), .gn (gSp s la pa), .gn (gUl (.slice xa X.length xk) X)] w8) := Lib.hid (E10.out.below hb)
          clear E10 hb
          (try dsimp only)
          clear hHeld
          refine hKK.out _ _ (⟨((E11.out.bx 2 rfl).cell 0 rfl), ((E11.out.bx 0 rfl).range (o := 0) (fun j hj => by rw [Nat.zero_add]))⟩) (fun hHeld => ?_)
          clear hKK KK
          try simp only [Act.put, List.setIfInBounds_toArray, List.set_cons_zero, List.set_cons_succ]
          refine uTake (i := 1) (some 42) (v := .slice none 0 0) rfl rfl (by kernel_rfl) (by kernel_rfl) (by kernel_rfl) (by kernel_rfl) (fun _ _ _ h => h) (by rfl) (by assumption) ?_ ?_
          · (intro wS hSw; (try dsimp only at hSw); go_simp; rw [field_tab]; rfl)
          try simp only [Act.put, List.setIfInBounds_toArray, List.set_cons_zero, List.set_cons_succ]
          refine uTake (i := 2) (some 43) (v := ?_) rfl rfl (by kernel_rfl) (by kernel_rfl) (by kernel_rfl) (by kernel_rfl) (fun _ _ _ h => h) (by rfl) (by assumption) ?_ ?_
          rotate_left
          · (intro wS hSw; (try dsimp only at hSw); go_simp; try with_reducible rfl)
          try simp only [Act.put, List.setIfInBounds_toArray, List.set_cons_zero, List.set_cons_succ]
          refine uTake (i := 3) (some 44) (v := ?_) rfl rfl (by kernel_rfl) (by kernel_rfl) (by kernel_rfl) (by kernel_rfl) (fun _ _ _ h => h) (by rfl) (by assumption) ?_ ?_
          rotate_left
          · (intro wS hSw; (try dsimp only at hSw); go_simp; try with_reducible rfl)
          try simp only [Act.put, List.setIfInBounds_toArray, List.set_cons_zero, List.set_cons_succ]
          refine uTake (i := 4) (some 45) (v := ?_) rfl rfl (by kernel_rfl) (by kernel_rfl) (by kernel_rfl) (by kernel_rfl) (fun _ _ _ h => h) (by rfl) (by assumption) ?_ ?_
          rotate_left
          · (intro wS hSw; (try dsimp only at hSw); go_simp; try with_reducible rfl)
          try simp only [Act.put, List.setIfInBounds_toArray, List.set_cons_zero, List.set_cons_succ]
          refine uTake (i := 5) (some 46) (v := ?_) rfl rfl (by kernel_rfl) (by kernel_rfl) (by kernel_rfl) (by kernel_rfl) (fun _ _ _ h => h) (by rfl) (by assumption) ?_ ?_
          rotate_left
          · (intro wS hSw; (try dsimp only at hSw); go_simp; try with_reducible rfl)
          try simp only [Act.put, List.setIfInBounds_toArray, List.set_cons_zero, List.set_cons_succ]
          refine uTake (i := 7) (some 48) (v := ?_) rfl rfl (by kernel_rfl) (by kernel_rfl) (by kernel_rfl) (by kernel_rfl) (fun _ _ _ h => h) (by rfl) (by assumption) ?_ ?_
          rotate_left
          · (intro wS hSw; (try dsimp only at hSw); go_simp; try with_reducible rfl)
          try simp only [Act.put, List.setIfInBounds_toArray, List.set_cons_zero, List.set_cons_succ]
          refine uReady (rs := [6]) (by kernel_rfl) (by simp) ?_
          refine ReadyU.cons rfl (fun KK hKK => ?_) ReadyU.nil
          go_simp
          refine (valid_c X (E11.out.fc 2 rfl) HBX.out (t := true) (by first | exact v1H.out | simpa using v1H.out) (Nat.le_trans HXL.out (by omega))).mono ?_
          rintro e w9 ⟨rfl, hb⟩
          have E12 : Hid (Env D w [(w5.heap.size, 44, usc zU fa fb), (w.heap.size + 1, 41, spc s la pa), (w.heap.size, 25, [.slice xa X.length xk])] [.gn (gSp zU.sp fa fb), .gn (gSp s la pa), .gn (gUl (.slice xa X.length xk) X)] w9) := Lib.hid (E11.out.below hb)
          clear E11 hb
          (try dsimp only)
          clear hHeld
          refine hKK.out _ _ (⟨((E12.out.bx 2 rfl).cell 0 rfl), ((E12.out.bx 0 rfl).range (o := 0) (fun j hj => by rw [Nat.zero_add]))⟩) (fun hHeld => ?_)
          clear hKK KK
          try simp only [Act.put, List.setIfInBounds_toArray, List.set_cons_zero, List.set_cons_succ]
          refine uTake (i := 8) (some 49) (v := ?_) rfl rfl (by kernel_rfl) (by kernel_rfl) (by kernel_rfl) (by kernel_rfl) (fun _ _ _ h => h) (by rfl) (by assumption) ?_ ?_
          rotate_left
          · (intro wS hSw; (try dsimp only at hSw); go_simp; try with_reducible rfl)
          try simp only [Act.put, List.setIfInBounds_toArray, List.set_cons_zero, List.set_cons_succ]
          refine uTake (i := 9) (some 50) (v := ?_) rfl rfl (by kernel_rfl) (by kernel_rfl) (by kernel_rfl) (by kernel_rfl) (fun _ _ _ h => h) (by rfl) (by assumption) ?_ ?_
          rotate_left
          · (intro wS hSw; (try dsimp only at hSw); go_simp; try with_reducible rfl)
          try simp only [Act.put, List.setIfInBounds_toArray, List.set_cons_zero, List.set_cons_succ]
          refine uTake (i := 10) (some 51) (v := ?_) rfl rfl (by kernel_rfl) (by kernel_rfl) (by kernel_rfl) (by kernel_rfl) (fun _ _ _ h => h) (by rfl) (by assumption) ?_ ?_
          rotate_left
          · (intro wS hSw; (try dsimp only at hSw); go_simp; try with_reducible rfl)
          try simp only [Act.put, List.setIfInBounds_toArray, List.set_cons_zero, List.set_cons_succ]
          refine uTake (i := 11) (some 52) (v := ?_) rfl rfl (by kernel_rfl) (by kernel_rfl) (by kernel_rfl) (by kernel_rfl) (fun _ _ _ h => h) (by rfl) (by assumption) ?_ ?_
          rotate_left
          · (intro wS hSw; (try dsimp only at hSw); go_simp; try with_reducible rfl)
          try simp only [Act.put, List.setIfInBounds_toArray, List.set_cons_zero, List.set_cons_succ]
          refine uTake (i := 12) (some 53) (v := ?_) rfl rfl (by kernel_rfl) (by kernel_rfl) (by kernel_rfl) (by kernel_rfl) (fun _ _ _ h => h) (by rfl) (by assumption) ?_ ?_
          rotate_left
          · (intro wS hSw; (try dsimp only at hSw); go_simp; try with_reducible rfl)
          try simp only [Act.put, List.setIfInBounds_toArray, List.set_cons_zero, List.set_cons_succ]
          refine uTake (i := 13) (some 54) (v := ?_) rfl rfl (by kernel_rfl) (by kernel_rfl) (by kernel_rfl) (by kernel_rfl) (fun _ _ _ h => h) (by rfl) (by assumption) ?_ ?_
          rotate_left
          · (intro wS hSw; (try dsimp only at hSw); go_simp; try with_reducible rfl)
          try simp only [Act.put, List.setIfInBounds_toArray, List.set_cons_zero, List.set_cons_succ]
          refine uTake (i := 14) (some 55) (v := ?_) rfl rfl (by kernel_rfl) (by kernel_rfl) (by kernel_rfl) (by kernel_rfl) (fun _ _ _ h => h) (by rfl) (by assumption) ?_ ?_
          rotate_left
          · (intro wS hSw; (try dsimp only at hSw); go_simp; try with_reducible rfl)
          try simp only [Act.put, List.setIfInBounds_toArray, List.set_cons_zero, List.set_cons_succ]
          refine uTake (i := 15) (some 56) (v := ?_) rfl rfl (by kernel_rfl) (by kernel_rfl) (by kernel_rfl) (by kernel_rfl) (fun _ _ _ h => h) (by rfl) (by assumption) ?_ ?_
          rotate_left
          · (intro wS hSw; (try dsimp only at hSw); go_simp; try with_reducible rfl)
          try simp only [Act.put, List.setIfInBounds_toArray, List.set_cons_zero, List.set_cons_succ]
          refine uTake (i := 16) (some 57) (v := ?_) rfl rfl (by kernel_rfl) (by kernel_rfl) (by kernel_rfl) (by kernel_rfl) (fun _ _ _ h => h) (by rfl) (by assumption) ?_ ?_
          rotate_left
          · (intro wS hSw; (try dsimp only at hSw); go_simp; try with_reducible rfl)
          try simp only [Act.put, List.setIfInBounds_toArray, List.set_cons_zero, List.set_cons_succ]
          refine uTake (i := 17) (some 58) (v := ?_) rfl rfl (by kernel_rfl) (by kernel_rfl) (by kernel_rfl) (by kernel_rfl) (fun _ _ _ h => h) (by rfl) (by assumption) ?_ ?_
          rotate_left
          · (intro wS hSw; (try dsimp only at hSw); go_simp; try with_reducible rfl)
          try simp only [Act.put, List.setIfInBounds_toArray, List.set_cons_zero, List.set_cons_succ]
          refine uTake (i := 18) (some 59) (v := ?_) rfl rfl (by kernel_rfl) (by kernel_rfl) (by kernel_rfl) (by kernel_rfl) (fun _ _ _ h => h) (by rfl) (by assumption) ?_ ?_
          rotate_left
          · (intro wS hSw; (try dsimp only at hSw); go_simp; try with_reducible rfl)
          try simp only [Act.put, List.setIfInBounds_toArray, List.set_cons_zero, List.set_cons_succ]
          refine uPass (i := 19) (some 60) rfl rfl (by kernel_rfl) (by kernel_rfl) (by kernel_rfl) (by kernel_rfl) (fun _ _ _ h => h) (by rfl) (by assumption) ?_
          try simp only [Act.put, List.setIfInBounds_toArray, List.set_cons_zero, List.set_cons_succ]
          refine uPass (i := 20) (some 61) rfl rfl (by kernel_rfl) (by kernel_rfl) (by kernel_rfl) (by kernel_rfl) (fun _ _ _ h => h) (by rfl) (by assumption) ?_
          try simp only [Act.put, List.setIfInBounds_toArray, List.set_cons_zero, List.set_cons_succ]
          refine uPass (i := 21) (some 62) rfl rfl (by kernel_rfl) (by kernel_rfl) (by kernel_rfl) (by kernel_rfl) (fun _ _ _ h => h) (by rfl) (by assumption) ?_
          try simp only [Act.put, List.setIfInBounds_toArray, List.set_cons_zero, List.set_cons_succ]
          refine uPass (i := 22) (some 63) rfl rfl (by kernel_rfl) (by kernel_rfl) (by kernel_rfl) (by kernel_rfl) (fun _ _ _ h => h) (by rfl) (by assumption) ?_
          try simp only [Act.put, List.setIfInBounds_toArray, List.set_cons_zero, List.set_cons_succ]
          refine uPass (i := 23) (some 64) rfl rfl (by kernel_rfl) (by kernel_rfl) (by kernel_rfl) (by kernel_rfl) (fun _ _ _ h => h) (by rfl) (by assumption) ?_
          try simp only [Act.put, List.setIfInBounds_toArray, List.set_cons_zero, List.set_cons_succ]
          refine uPass (i := 24) (some 65) rfl rfl (by kernel_rfl) (by kernel_rfl) (by kernel_rfl) (by kernel_rfl) (fun _ _ _ h => h) (by rfl) (by assumption) ?_
          try simp only [Act.put, List.setIfInBounds_toArray, List.set_cons_zero, List.set_cons_succ]
          refine uPass (i := 25) (some 66) rfl rfl (by kernel_rfl) (by kernel_rfl) (by kernel_rfl) (by kernel_rfl) (fun _ _ _ h => h) (by rfl) (by assumption) ?_
          try simp only [Act.put, List.setIfInBounds_toArray, List.set_cons_zero, List.set_cons_succ]
          refine uPass (i := 26) (some 67) rfl rfl (by kernel_rfl) (by kernel_rfl) (by kernel_rfl) (by kernel_rfl) (fun _ _ _ h => h) (by rfl) (by assumption) ?_
          try simp only [Act.put, List.setIfInBounds_toArray, List.set_cons_zero, List.set_cons_succ]
          refine uTake (i := 27) (some 68) (v := ?_) rfl rfl (by kernel_rfl) (by kernel_rfl) (by kernel_rfl) (by kernel_rfl) (fun _ _ _ h => h) (by rfl) (by assumption) ?_ ?_
          rotate_left
          · (intro wS hSw; (try dsimp only at hSw); go_simp; try with_reducible rfl)
          try simp only [Act.put, List.setIfInBounds_toArray, List.set_cons_zero, List.set_cons_succ]
          refine uTake (i := 28) (some 69) (v := ?_) rfl rfl (by kernel_rfl) (by kernel_rfl) (by kernel_rfl) (by kernel_rfl) (fun _ _ _ h => h) (by rfl) (by assumption) ?_ ?_
          rotate_left
          · (intro wS hSw; (try dsimp only at hSw); go_simp; try with_reducible rfl)
          try simp only [Act.put, List.setIfInBounds_toArray, List.set_cons_zero, List.set_cons_succ]
          refine uTake (i := 29) (some 70) (v := ?_) rfl rfl (by kernel_rfl) (by kernel_rfl) (by kernel_rfl) (by kernel_rfl) (fun _ _ _ h => h) (by rfl) (by assumption) ?_ ?_
          rotate_left
          · (intro wS hSw; (try dsimp only at hSw); go_simp; try with_reducible rfl)
          try simp only [Act.put, List.setIfInBounds_toArray, List.set_cons_zero, List.set_cons_succ]
          refine uTake (i := 30) (some 71) (v := ?_) rfl rfl (by kernel_rfl) (by kernel_rfl) (by kernel_rfl) (by kernel_rfl) (fun _ _ _ h => h) (by rfl) (by assumption) ?_ ?_
          rotate_left
          · (intro wS hSw; (try dsimp only at hSw); go_simp; try with_reducible rfl)
          try simp only [Act.put, List.setIfInBounds_toArray, List.set_cons_zero, List.set_cons_succ]
          refine uTake (i := 31) (some 72) (v := ?_) rfl rfl (by kernel_rfl) (by kernel_rfl) (by kernel_rfl) (by kernel_rfl) (fun _ _ _ h => h) (by rfl) (by assumption) ?_ ?_
          rotate_left
          · (intro wS hSw; (try dsimp only at hSw); go_simp; try with_reducible rfl)
          try simp only [Act.put, List.setIfInBounds_toArray, List.set_cons_zero, List.set_cons_succ]
          refine uTake (i := 32) (some 73) (v := ?_) rfl rfl (by kernel_rfl) (by kernel_rfl) (by kernel_rfl) (by kernel_rfl) (fun _ _ _ h => h) (by rfl) (by assumption) ?_ ?_
          rotate_left
          · (intro wS hSw; (try dsimp only at hSw); go_simp; try with_reducible rfl)
          try simp only [Act.put, List.setIfInBounds_toArray, List.set_cons_zero, List.set_cons_succ]
          refine uTake (i := 33) (some 74) (v := .agg (usc zU fa fb).toArray) rfl rfl (by kernel_rfl) (by kernel_rfl) (by kernel_rfl) (by kernel_rfl) (fun _ _ _ h => h) (by rfl) (by assumption) ?_ ?_
          · (intro wS hSw; (try dsimp only at hSw); revert hSw; (try simp only [and_imp]); intros; exact exec_load_b bUse _ rfl w5.heap.size 0 rfl (usc zU fa fb) (usc_len FfalseS.out _ _) (by assumption))
          try simp only [Act.put, List.setIfInBounds_toArray, List.set_cons_zero, List.set_cons_succ]
          refine uTake (i := 34) (some 75) (v := .agg (usc zU nilV nilV).toArray) rfl rfl (by kernel_rfl) (by kernel_rfl) (by kernel_rfl) (by kernel_rfl) (fun _ _ _ h => h) (by rfl) (by assumption) ?_ ?_
          · (intro wS hSw; (try dsimp only at hSw); exact exec_use0 rfl)
          try simp only [Act.put, List.setIfInBounds_toArray, List.set_cons_zero, List.set_cons_succ]
          refine uReady (rs := [35]) (by kernel_rfl) (by simp) ?_
          refine ReadyU.cons rfl (fun KK hKK => ?_) ReadyU.nil
          go_simp
          refine (sameu_c zU zU (E12.out.fc 0 rfl) (gSp.nil _ _) (by constructor <;> exact Nat.zero_le _) (by constructor <;> exact Nat.zero_le _) (t := true) ⟨fun _ => rfl, fun _ => rfl⟩).mono ?_
          rintro e w10 ⟨rfl, hb⟩
          have E13 : Hid (Env D w [(w5.heap.size, 44, usc zU fa fb), (w.heap.size + 1, 41, spc s la pa), (w.heap.size, 25, [.slice xa X.length xk])] [.gn (gSp zU.sp fa fb), .gn (gSp s la pa), .gn (gUl (.slice xa X.length xk) X)] w10) := Lib.hid (E12.out.below hb)
          clear E12 hb
          (try dsimp only)
          clear hHeld
          refine hKK.out _ _ (⟨((E13.out.bx 2 rfl).cell 0 rfl), ((E13.out.bx 0 rfl).range (o := 0) (fun j hj => by rw [Nat.zero_add]))⟩) (fun hHeld => ?_)
          clear hKK KK
          try simp only [Act.put, List.setIfInBounds_toArray, List.set_cons_zero, List.set_cons_succ]
          refine uTake (i := 36) (some 77) (v := ?_) rfl rfl (by kernel_rfl) (by kernel_rfl) (by kernel_rfl) (by kernel_rfl) (fun _ _ _ h => h) (by rfl) (by assumption) ?_ ?_
          rotate_left
          · (intro wS hSw; (try dsimp only at hSw); go_simp; try with_reducible rfl)
          try simp only [Act.put, List.setIfInBounds_toArray, List.set_cons_zero, List.set_cons_succ]
          refine uTake (i := 37) (some 78) (v := ?_) rfl rfl (by kernel_rfl) (by kernel_rfl) (by kernel_rfl) (by kernel_rfl) (fun _ _ _ h => h) (by rfl) (by assumption) ?_ ?_
          rotate_left
          · (intro wS hSw; (try dsimp only at hSw); go_simp; try with_reducible rfl)
          try simp only [Act.put, List.setIfInBounds_toArray, List.set_cons_zero, List.set_cons_succ]
          refine uTake (i := 38) (some 79) (v := ?_) rfl rfl (by kernel_rfl) (by kernel_rfl) (by kernel_rfl) (by kernel_rfl) (fun _ _ _ h => h) (by rfl) (by assumption) ?_ ?_
          rotate_left
          · (intro wS hSw; (try dsimp only at hSw); go_simp; try with_reducible rfl)
          try simp only [Act.put, List.setIfInBounds_toArray, List.set_cons_zero, List.set_cons_succ]
          refine uTake (i := 39) (some 80) (v := ?_) rfl rfl (by kernel_rfl) (by kernel_rfl) (by kernel_rfl) (by kernel_rfl) (fun _ _ _ h => h) (by rfl) (by assumption) ?_ ?_
          rotate_left
          · (intro wS hSw; (try dsimp only at hSw); go_simp; try with_reducible rfl)
          try simp only [Act.put, List.setIfInBounds_toArray, List.set_cons_zero, List.set_cons_succ]
          refine uTake (i := 40) (some 81) (v := ?_) rfl rfl (by kernel_rfl) (by kernel_rfl) (by kernel_rfl) (by kernel_rfl) (fun _ _ _ h => h) (by rfl) (by assumption) ?_ ?_
          rotate_left
          · (intro wS hSw; (try dsimp only at hSw); go_simp; try with_reducible rfl)
          try simp only [Act.put, List.setIfInBounds_toArray, List.set_cons_zero, List.set_cons_succ]
          refine uTake (i := 41) (some 82) (v := ?_) rfl rfl (by kernel_rfl) (by kernel_rfl) (by kernel_rfl) (by kernel_rfl) (fun _ _ _ h => h) (by rfl) (by assumption) ?_ ?_
          rotate_left
          · (intro wS hSw; (try dsimp only at hSw); go_simp; try with_reducible rfl)
          try simp only [Act.put, List.setIfInBounds_toArray, List.set_cons_zero, List.set_cons_succ]
          refine uTake (i := 42) (some 83) (v := ?_) rfl rfl (by kernel_rfl) (by kernel_rfl) (by kernel_rfl) (by kernel_rfl) (fun _ _ _ h => h) (by rfl) (by assumption) ?_ ?_
          rotate_left
          · (intro wS hSw; (try dsimp only at hSw); go_simp; try with_reducible rfl)
          try simp only [Act.put, List.setIfInBounds_toArray, List.set_cons_zero, List.set_cons_succ]
          refine uTake (i := 44) (some 85) (v := ?_) rfl rfl (by kernel_rfl) (by kernel_rfl) (by kernel_rfl) (by kernel_rfl) (fun _ _ _ h => h) (by rfl) (by assumption) ?_ ?_
          rotate_left
          · (intro wS hSw; (try dsimp only at hSw); go_simp; try with_reducible rfl)
          try simp only [Act.put, List.setIfInBounds_toArray, List.set_cons_zero, List.set_cons_succ]
          refine uTake (i := 45) (some 86) (v := ?_) rfl rfl (by kernel_rfl) (by kernel_rfl) (by kernel_rfl) (by kernel_rfl) (fun _ _ _ h => h) (by rfl) (by assumption) ?_ ?_
          rotate_left
          · (intro wS hSw; (try dsimp only at hSw); go_simp; try with_reducible rfl)
          try simp only [Act.put, List.setIfInBounds_toArray, List.set_cons_zero, List.set_cons_succ]
          refine uTake (i := 46) (some 87) (v := ?_) rfl rfl (by kernel_rfl) (by kernel_rfl) (by kernel_rfl) (by kernel_rfl) (fun _ _ _ h => h) (by rfl) (by assumption) ?_ ?_
          rotate_left
          · (intro wS hSw; (try dsimp only at hSw); go_simp; try with_reducible rfl)
          try simp only [Act.put, List.setIfInBounds_toArray, List.set_cons_zero, List.set_cons_succ]
          refine uReady (rs := [43]) (by kernel_rfl) (by simp) ?_
          refine ReadyU.cons rfl (fun KK hKK => ?_) ReadyU.nil
          go_simp
          refine (size_c X (E13.out.fc 2 rfl) HBX.out (Nat.le_trans HXL.out (by omega)) (r := (X.length : Int)) ⟨fun _ => rfl, fun h => absurd HV.out h⟩).mono ?_
          rintro e w11 ⟨rfl, hb⟩
          have E14 : Hid (Env D w [(w5.heap.size, 44, usc zU fa fb), (w.heap.size + 1, 41, spc s la pa), (w.heap.size, 25, [.slice xa X.length xk])] [.gn (gSp zU.sp fa fb), .gn (gSp s la pa), .gn (gUl (.slice xa X.length xk) X)] w11) := Lib.hid (E13.out.below hb)
          clear E13 hb
          (try dsimp only)
          clear hHeld
          refine hKK.out _ _ (⟨((E14.out.bx 2 rfl).cell 0 rfl), ((E14.out.bx 0 rfl).range (o := 0) (fun j hj => by rw [Nat.zero_add]))⟩) (fun hHeld => ?_)
          clear hKK KK
          try simp only [Act.put, List.setIfInBounds_toArray, List.set_cons_zero, List.set_cons_succ]
          refine uTake (i := 47) (some 88) (v := ?_) rfl rfl (by kernel_rfl) (by kernel_rfl) (by kernel_rfl) (by kernel_rfl) (fun _ _ _ h => h) (by rfl) (by assumption) ?_ ?_
          rotate_left
          · (intro wS hSw; (try dsimp only at hSw); go_simp; try with_reducible rfl)
          try simp only [Act.put, List.setIfInBounds_toArray, List.set_cons_zero, List.set_cons_succ]
          refine uTake (i := 48) (some 89) (v := ?_) rfl rfl (by kernel_rfl) (by kernel_rfl) (by kernel_rfl) (by kernel_rfl) (fun _ _ _ h => h) (by rfl) (by assumption) ?_ ?_
          rotate_left
          · (intro wS hSw; (try dsimp only at hSw); go_simp; try with_reducible rfl)
          try simp only [Act.put, List.setIfInBounds_toArray, List.set_cons_zero, List.set_cons_succ]
          refine uTake (i := 49) (some 90) (v := ?_) rfl rfl (by kernel_rfl) (by kernel_rfl) (by kernel_rfl) (by kernel_rfl) (fun _ _ _ h => h) (by rfl) (by assumption) ?_ ?_
          rotate_left
          · (intro wS hSw; (try dsimp only at hSw); go_simp; try with_reducible rfl)
          try simp only [Act.put, List.setIfInBounds_toArray, List.set_cons_zero, List.set_cons_succ]
          refine uTake (i := 50) (some 91) (v := ?_) rfl rfl (by kernel_rfl) (by kernel_rfl) (by kernel_rfl) (by kernel_rfl) (fun _ _ _ h => h) (by rfl) (by assumption) ?_ ?_
          rotate_left
          · (intro wS hSw; (try dsimp only at hSw); go_simp; try with_reducible rfl)
          try simp only [Act.put, List.setIfInBounds_toArray, List.set_cons_zero, List.set_cons_succ]
          refine uTake (i := 51) (some 92) (v := ?_) rfl rfl (by kernel_rfl) (by kernel_rfl) (by kernel_rfl) (by kernel_rfl) (fun _ _ _ h => h) (by rfl) (by assumption) ?_ ?_
          rotate_left
          · (intro wS hSw; (try dsimp only at hSw); go_simp; try with_reducible rfl)
          try simp only [Act.put, List.setIfInBounds_toArray, List.set_cons_zero, List.set_cons_succ]
          refine uTake (i := 52) (some 93) (v := ?_) rfl rfl (by kernel_rfl) (by kernel_rfl) (by kernel_rfl) (by kernel_rfl) (fun _ _ _ h => h) (by rfl) (by assumption) ?_ ?_
          rotate_left
          · (intro wS hSw; (try dsimp only at hSw); go_simp; try with_reducible rfl)
          try simp only [Act.put, List.setIfInBounds_toArray, List.set_cons_zero, List.set_cons_succ]
          refine uTake (i := 53) (some 94) (v := ?_) rfl rfl (by kernel_rfl) (by kernel_rfl) (by kernel_rfl) (by kernel_rfl) (fun _ _ _ h => h) (by rfl) (by assumption) ?_ ?_
          rotate_left
          · (intro wS hSw; (try dsimp only at hSw); go_simp; try with_reducible rfl)
          try simp only [Act.put, List.setIfInBounds_toArray, List.set_cons_zero, List.set_cons_succ]
          refine uPass (i := 54) (some 95) rfl rfl (by kernel_rfl) (by kernel_rfl) (by kernel_rfl) (by kernel_rfl) (fun _ _ _ h => h) (by rfl) (by assumption) ?_
          try simp only [Act.put, List.setIfInBounds_toArray, List.set_cons_zero, List.set_cons_succ]
          refine uPass (i := 55) (some 96) rfl rfl (by kernel_rfl) (by kernel_rfl) (by kernel_rfl) (by kernel_rfl) (fun _ _ _ h => h) (by rfl) (by assumption) ?_
          try simp only [Act.put, List.setIfInBounds_toArray, List.set_cons_zero, List.set_cons_succ]
          refine uPass (i := 56) (some 97) rfl rfl (by kernel_rfl) (by kernel_rfl) (by kernel_rfl) (by kernel_rfl) (fun _ _ _ h => h) (by rfl) (by assumption) ?_
          try simp only [Act.put, List.setIfInBounds_toArray, List.set_cons_zero, List.set_cons_succ]
          refine uTake (i := 57) (some 98) (v := ?_) rfl rfl (by kernel_rfl) (by kernel_rfl) (by kernel_rfl) (by kernel_rfl) (fun _ _ _ h => h) (by rfl) (by assumption) ?_ ?_
          rotate_left
          · (intro wS hSw; (try dsimp only at hSw); go_simp; try with_reducible rfl)
          try simp only [Act.put, List.setIfInBounds_toArray, List.set_cons_zero, List.set_cons_succ]
          refine uTake (i := 58) (some 99) (v := ?_) rfl rfl (by kernel_rfl) (by kernel_rfl) (by kernel_rfl) (by kernel_rfl) (fun _ _ _ h => h) (by rfl) (by assumption) ?_ ?_
          rotate_left
          · (intro wS hSw; (try dsimp only at hSw); go_simp; try with_reducible rfl)
          try simp only [Act.put, List.setIfInBounds_toArray, List.set_cons_zero, List.set_cons_succ]
          refine uDone (by kernel_rfl) ?_ _
          have b7 := E14.out.bx 2 rfl
          have c7_0 := b7.cell 0 rfl
          clear b7
          have b8 := E14.out.bx 1 rfl
          have r8 := Lib.hid (b8.range (o := 0) (fun j hj => by rw [Nat.zero_add]))
          clear b8
          go_wp2_with (first | (with_reducible refine wpl_alloc_b ?_ ?_ _ zvUse ?_; (· rfl); (· rfl)) | (with_reducible refine wpl_load_b bSpend (w.heap.size + 1) 0 ?_ ?_ (spc s la pa) (spc_len HS.out _ _) r8.out ?_; (· exact ⟨_, rfl, rfl⟩); (· kernel_rfl)))
          refine (put_t X s (E14.out.fc 2 rfl) (E14.out.fc 1 rfl) HBX.out HBS.out (Nat.le_trans HXL.out (by omega)) HR.out).mono ?_
          rintro e w12 ⟨⟨da, dk, dX, dc, dj, dY, rfl, d1, d2, dH, dI⟩, hb⟩
          have E15 : Hid (Env D w [(w5.heap.size, 44, usc zU fa fb), (w.heap.size + 1, 41, spc s la pa), (w.heap.size, 25, [.slice xa X.length xk])] [.gn (gUl (.slice dc dY.length dj) dY), .gn (gUl (.slice da dX.length dk) dX), .gn (gSp zU.sp fa fb), .gn (gSp s la pa), .gn (gUl (.slice xa X.length xk) X)] w12) := Lib.hid (E14.out.got (E14.out.got (E14.out.below hb) (.gn (gUl (.slice da dX.length dk) dX)) dH.out) (.gn (gUl (.slice dc dY.length dj) dY)) dI.out)
          clear c7_0 r8 E14 hb dH dI
          have dL := Lib.hid d1; have dC := Lib.hid d2; clear d1 d2
          have E16 : Hid (Env D w [(w12.heap.size, 25, [.slice da dX.length dk]), (w5.heap.size, 44, usc zU fa fb), (w.heap.size + 1, 41, spc s la pa), (w.heap.size, 25, [.slice xa X.length xk])] [.gn (gUl (.slice dc dY.length dj) dY), .gn (gUl (.slice da dX.length dk) dX), .gn (gSp zU.sp fa fb), .gn (gSp s la pa), .gn (gUl (.slice xa X.length xk) X)] _) := Lib.hid ((E15.out.push 25 [.slice da dX.length dk] (w12.heap.size) (by simp)))
          have b9 := E16.out.bx 3 rfl
          have c9_0 := b9.cell 0 rfl
          clear b9
          have b10 := E16.out.bx 2 rfl
          have r10 := Lib.hid (b10.range (o := 0) (fun j hj => by rw [Nat.zero_add]))
          clear b10
          go_wp2_with (first | (with_reducible refine wpl_alloc_b ?_ ?_ _ zvUse ?_; (· rfl); (· rfl)) | (with_reducible refine wpl_load_b bSpend (w.heap.size + 1) 0 ?_ ?_ (spc s la pa) (spc_len HS.out _ _) r10.out ?_; (· exact ⟨_, rfl, rfl⟩); (· kernel_rfl)))
          refine (rput_c X s (E16.out.fc 4 rfl) (E16.out.fc 3 rfl) HBX.out HBS.out (Nat.le_trans HXL.out (by omega)) HR.out).mono ?_
          rintro e w13 ⟨⟨ra, rk, rX, rc, rj, rY, rfl, r1, r2, rH, rI⟩, hb⟩
          have E17 : Hid (Env D w [(w12.heap.size, 25, [.slice da dX.length dk]), (w5.heap.size, 44, usc zU fa fb), (w.heap.size + 1, 41, spc s la pa), (w.heap.size, 25, [.slice xa X.length xk])] [.gn (gUl (.slice rc rY.length rj) rY), .gn (gUl (.slice ra rX.length rk) rX), .gn (gUl (.slice dc dY.length dj) dY), .gn (gUl (.slice da dX.length dk) dX), .gn (gSp zU.sp fa fb), .gn (gSp s la pa), .gn (gUl (.slice xa X.length xk) X)] w13) := Lib.hid (E16.out.got (E16.out.got (E16.out.below hb) (.gn (gUl (.slice ra rX.length rk) rX)) rH.out) (.gn (gUl (.slice rc rY.length rj) rY)) rI.out)
          clear c9_0 r10 E15 E16 hb rH rI
          have rL := Lib.hid r1; have rC := Lib.hid r2; clear r1 r2
          have E18 : Hid (Env D w [(w13.heap.size, 25, [.slice ra rX.length rk]), (w12.heap.size, 25, [.slice da dX.length dk]), (w5.heap.size, 44, usc zU fa fb), (w.heap.size + 1, 41, spc s la pa), (w.heap.size, 25, [.slice xa X.length xk])] [.gn (gUl (.slice rc rY.length rj) rY), .gn (gUl (.slice ra rX.length rk) rX), .gn (gUl (.slice dc dY.length dj) dY), .gn (gUl (.slice da dX.length dk) dX), .gn (gSp zU.sp fa fb), .gn (gSp s la pa), .gn (gUl (.slice xa X.length xk) X)] _) := Lib.hid ((E17.out.push 25 [.slice ra rX.length rk] (w13.heap.size) (by simp)))
          have b11 := E18.out.bx 1 rfl
          have c11_0 := b11.cell 0 rfl
          clear b11
          have b12 := E18.out.bx 0 rfl
          have c12_0 := b12.cell 0 rfl
          clear b12
          go_wp2_with (first | (with_reducible refine wpl_alloc_b ?_ ?_ _ zvUse ?_; (· rfl); (· rfl)))
          refine (rsame_c dX rX (E18.out.fc 3 rfl) (E18.out.fc 1 rfl) (Bd.of HPB.out.1 dL.out) (Bd.of HPB.out.1 rL.out) ⟨by rw [map_len dL.out]; exact HLC.out.1, by rw [map_len rL.out]; exact HLC.out.1⟩ (t := true) ⟨fun _ => dL.out.trans rL.out.symm, fun _ => rfl⟩).mono ?_
          rintro e w14 ⟨rfl, hb⟩
          have E19 : Hid (Env D w [(w13.heap.size, 25, [.slice ra rX.length rk]), (w12.heap.size, 25, [.slice da dX.length dk]), (w5.heap.size, 44, usc zU fa fb), (w.heap.size + 1, 41, spc s la pa), (w.heap.size, 25, [.slice xa X.length xk])] [.gn (gUl (.slice rc rY.length rj) rY), .gn (gUl (.slice ra rX.length rk) rX), .gn (gUl (.slice dc dY.length dj) dY), .gn (gUl (.slice da dX.length dk) dX), .gn (gSp zU.sp fa fb), .gn (gSp s la pa), .gn (gUl (.slice xa X.length xk) X)] w14) := Lib.hid (E18.out.below hb)
          clear c11_0 c12_0 E17 E18 hb
          go_wp2_with (first | (with_reducible refine wpl_alloc_b ?_ ?_ _ zvUse ?_; (· rfl); (· rfl)))
          refine (rsame_c dY rY (E19.out.fc 2 rfl) (E19.out.fc 0 rfl) (Bd.of HPB.out.2.1 dC.out) (Bd.of HPB.out.2.1 rC.out) ⟨by rw [map_len dC.out]; exact HLC.out.2, by rw [map_len rC.out]; exact HLC.out.2⟩ (t := true) ⟨fun _ => dC.out.trans rC.out.symm, fun _ => rfl⟩).mono ?_
          rintro e w15 ⟨rfl, hb⟩
          have E20 : Hid (Env D w [(w13.heap.size, 25, [.slice ra rX.length rk]), (w12.heap.size, 25, [.slice da dX.length dk]), (w5.heap.size, 44, usc zU fa fb), (w.heap.size + 1, 41, spc s la pa), (w.heap.size, 25, [.slice xa X.length xk])] [.gn (gUl (.slice rc rY.length rj) rY), .gn (gUl (.slice ra rX.length rk) rX), .gn (gUl (.slice dc dY.length dj) dY), .gn (gUl (.slice da dX.length dk) dX), .gn (gSp zU.sp fa fb), .gn (gSp s la pa), .gn (gUl (.slice xa X.length xk) X)] w15) := Lib.hid (E19.out.below hb)
          clear E19 hb
          have hfin := Lib.hid E20.out.bel
          go_wp2_with (first | (with_reducible refine wpl_alloc_b ?_ ?_ _ zvUse ?_; (· rfl); (· rfl)))
          go_ret
          exact ⟨rfl, hfin.out⟩
        | some y =>
          obtain ⟨i, hi⟩ : ∃ i, lb (X.map Uv.u) a b = i := ⟨_, rfl⟩
          have HI := Lib.hid hi
          have HFR : Hid (FindR (X.map Uv.u) a b (i : Int)) := Lib.hid (by rw [← hi]; exact findR_some HV.out.2.2 HFK.out)
          clear hi
          have HAT : Hid ((X.map Uv.u)[i]? = some y) := Lib.hid (by rw [← HI.out]; exact findK_at HV.out.2.2 HFK.out)
          have hii : i < X.length := by have h := (List.getElem?_eq_some_iff.1 HAT.out).1; rwa [List.length_map] at h
          have hiI : (i : Int) < (X.length : Int) := by omega
          have hi0 : decide (0 ≤ (i : Int)) = true := decide_eq_true (by omega)
          have hi0b : (0 : Int) ≤ (i : Int) := by omega
          have b4 := E5.out.bx 1 rfl
          have c4_0 := b4.cell 0 rfl
          clear b4
          go_wp2_with fail
          refine (find_c X a b (E5.out.fc 1 rfl) HBX.out (Nat.le_trans HXL.out (by omega)) (u := y) (t := true) (.inr (.inr ⟨HV.out, HFK.out, rfl⟩))).mono ?_
          rintro e w5 ⟨⟨fa, fb, rfl, fh⟩, hb⟩
          have E6 : Hid (Env D w [(w.heap.size + 1, 41, spc s la pa), (w.heap.size, 25, [.slice xa X.length xk])] [.gn (gSp y.sp fa fb), .gn (gSp s la pa), .gn (gUl (.slice xa X.length xk) X)] w5) := Lib.hid (E5.out.got (E5.out.below hb) (.gn (gSp y.sp fa fb)) fh.out)
          clear c4_0 E5 hb fh
          have FN : Hid (∀ v ∈ usc y fa fb, v.oneCell' = true) := Lib.hid (gUv.one (x := ⟨y, fa, fb⟩) (E6.out.fc 0 rfl)); have FtrueS : Hid (SpOk y.sp) := Lib.hid (E6.out.spOk 0 rfl)
          have E7 : Hid (Env D w [(w5.heap.size, 44, usc zU nilV nilV), (w.heap.size + 1, 41, spc s la pa), (w.heap.size, 25, [.slice xa X.length xk])] [.gn (gSp y.sp fa fb), .gn (gSp s la pa), .gn (gUl (.slice xa X.length xk) X)] _) := Lib.hid ((E6.out.push 44 (usc zU nilV nilV) (w5.heap.size) (by simp)))
          have b5 := Lib.hid (E7.out.bx 0 rfl)
          have E8 : Hid (Env D w [(w5.heap.size, 44, usc y fa fb), (w.heap.size + 1, 41, spc s la pa), (w.heap.size, 25, [.slice xa X.length xk])] [.gn (gSp y.sp fa fb), .gn (gSp s la pa), .gn (gUl (.slice xa X.length xk) X)] _) := Lib.hid ((E7.out.whole 0 (usc y fa fb) rfl ((usc_len FtrueS.out _ _).trans (usc_len zS_ok _ _).symm)))
          have b6 := E8.out.bx 2 rfl
          have c6_0 := b6.cell 0 rfl
          clear b6
          go_wp2_with (first | (with_reducible refine wpl_alloc_b ?_ ?_ _ zvUse ?_; (· rfl); (· rfl)) | (with_reducible refine wpl_store_b bUse w5.heap.size 0 (usc y fa fb) ?_ ?_ (usc_len FtrueS.out _ _) (Box.there b5.out (Nat.le_of_eq (usc_len zS_ok _ _).symm)) FN.out ?_; (· first | exact ⟨_, _, rfl, rfl, rfl⟩ | (refine ⟨_, _, rfl, ?_, ?_⟩ <;> simp [Act.eval, Act.put])); (· kernel_rfl)))
          refine (rfind_c X a b (E8.out.fc 2 rfl) (Nat.le_trans HXL.out (by omega)) HFR.out).mono ?_
          rintro e w6 ⟨rfl, hb⟩
          have E9 : Hid (Env D w [(w5.heap.size, 44, usc y fa fb), (w.heap.size + 1, 41, spc s la pa), (w.heap.size, 25, [.slice xa X.length xk])] [.gn (gSp y.sp fa fb), .gn (gSp s la pa), .gn (gUl (.slice xa X.length xk) X)] w6) := Lib.hid (E8.out.below hb)
          clear b5 c6_0 E6 E7 E8 hb
          go_upto_region 10 with (first | (with_reducible refine wpl_alloc_b ?_ ?_ _ zvUse ?_; (· rfl); (· rfl)))
          obtain ⟨xab, xao, rfl⟩ := gUl.addr (E9.out.fc 2 rfl) (List.ne_nil_of_length_pos (Nat.lt_of_le_of_lt (Nat.zero_le _) hii))
          obtain ⟨p, pe⟩ : ∃ x, X[i] = x := ⟨_, rfl⟩
          have pE := Lib.hid pe
          clear pe
          have E10 : Hid (Env D w [(w5.heap.size, 44, usc y fa fb), (w.heap.size + 1, 41, spc s la pa), (w.heap.size, 25, [.slice (some ⟨xab, xao, none⟩) X.length xk])] [.gn (gRg xab (xao + i * 83) (usc p.u p.la p.pa)), .gn (gSp p.u.sp p.la p.pa), .gn (gSp y.sp fa fb), .gn (gSp s la pa), .gn (gUl (.slice (some ⟨xab, xao, none⟩) X.length xk) X)] _) := Lib.hid (E9.out.elU 2 rfl hii pE.out)
          clear E9
          have pS := Lib.hid (E10.out.spOk 1 rfl)
          have pN : Hid (∀ v ∈ usc p.u p.la p.pa, v.oneCell' = true) := Lib.hid (usc_one pS.out (Rw.oneV (E10.out.fc 1 rfl).2.1) (Rw.oneV (E10.out.fc 1 rfl).2.2))
          have HPY : Hid (y = p.u) := Lib.hid (by have h := map_get hii pE.out; rw [HAT.out] at h; exact (Option.some.inj h))
          have HBY : Hid (y.sp.lv.length ≤ 1000000 ∧ y.sp.pa.length ≤ 1000000) := Lib.hid (HBU.out y (List.mem_of_getElem? HAT.out))
          have HBP : Hid (p.u.sp.lv.length ≤ 1000000 ∧ p.u.sp.pa.length ≤ 1000000) := Lib.hid (by rw [← HPY.out]; exact HBY.out)
          go_wp2_with (first | (with_reducible refine wpl_alloc_b ?_ ?_ _ zvUse ?_; (· rfl); (· rfl)))
          have E11 : Hid (Env D w [(w5.heap.size, 44, usc y fa fb), (w.heap.size + 1, 41, spc s la pa), (w.heap.size, 25, [.slice (some ⟨xab, xao, none⟩) X.length xk])] [.gn (gRg xab (xao + i * 83) (usc p.u p.la p.pa)), .gn (gSp p.u.sp p.la p.pa), .gn (gSp y.sp fa fb), .gn (gSp s la pa), .gn (gUl (.slice (some ⟨xab, xao, none⟩) X.length xk) X)] (w6.drew)) := Lib.hid E10.out.drew
          clear E10
          refine wp_regionU (S := fun w' => w'.cell? ⟨w.heap.size, 0, none⟩ = some (.slice (some ⟨xab, xao, none⟩) X.length xk) ∧ w'.rangeAt w5.heap.size 0 (usc y fa fb) ∧ w'.rangeAt xab (xao + i * 83) (usc p.u p.la p.pa)) [] (by kernel_rfl) (⟨((E11.out.bx 2 rfl).cell 0 rfl), ((E11.out.bx 0 rfl).range (o := 0) (fun j hj => by rw [Nat.zero_add])), (E11.out.fc 0 rfl).2⟩) (fun hHeld => ?_)
          generalize w6.drew = w7 at *
          refine uReady (rs := [0]) (by kernel_rfl) (by simp) ?_
          refine ReadyU.cons rfl (fun KK hKK => ?_) ReadyU.nil
          go_simp
          refine (new_c (D := fun _ => True)).mono ?_
          rintro e w8 ⟨rfl, hb⟩
          have E12 : Hid (Env D w [(w5.heap.size, 44, usc y fa fb), (w.heap.size + 1, 41, spc s la pa), (w.heap.size, 25, [.slice (some ⟨xab, xao, none⟩) X.length xk])] [.gn (gRg xab (xao + i * 83) (usc p.u p.la p.pa)), .gn (gSp p.u.sp p.la p.pa), .gn (gSp y.sp fa fb), .gn (gSp s la pa), .gn (gUl (.slice (some ⟨xab, xao, none⟩) X.length xk) X)] w8) := Lib.hid (E11.out.below hb)
          clear E11 hb
          (try dsimp only)
          clear hHeld
          refine hKK.out _ _ (⟨((E12.out.bx 2 rfl).cell 0 rfl), ((E12.out.bx 0 rfl).range (o := 0) (fun j hj => by rw [Nat.zero_add])), (E12.out.fc 0 rfl).2⟩) (fun hHeld => ?_)
          clear hKK KK
          try simp only [Act.put, List.setIfInBounds_toArray, List.set_cons_zero, List.set_cons_succ]
          refine uTake (i := 1) (some 42) (v := .slice none 0 0) rfl rfl (by kernel_rfl) (by kernel_rfl) (by kernel_rfl) (by kernel_rfl) (fun _ _ _ h => h) (by rfl) (by assumption) ?_ ?_
          · (intro wS hSw; (try dsimp only at hSw); go_simp; rw [field_tab]; rfl)
          try simp only [Act.put, List.setIfInBounds_toArray, List.set_cons_zero, List.set_cons_succ]
          refine uTake (i := 2) (some 43) (v := ?_) rfl rfl (by kernel_rfl) (by kernel_rfl) (by kernel_rfl) (by kernel_rfl) (fun _ _ _ h => h) (by rfl) (by assumption) ?_ ?_
          rotate_left
          · (intro wS hSw; (try dsimp only at hSw); go_simp; try with_reducible rfl)
          try simp only [Act.put, List.setIfInBounds_toArray, List.set_cons_zero, List.set_cons_succ]
          refine uTake (i := 3) (some 44) (v := ?_) rfl rfl (by kernel_rfl) (by kernel_rfl) (by kernel_rfl) (by kernel_rfl) (fun _ _ _ h => h) (by rfl) (by assumption) ?_ ?_
          rotate_left
          · (intro wS hSw; (try dsimp only at hSw); go_simp; try with_reducible rfl)
          try simp only [Act.put, List.setIfInBounds_toArray, List.set_cons_zero, List.set_cons_succ]
          refine uTake (i := 4) (some 45) (v := ?_) rfl rfl (by kernel_rfl) (by kernel_rfl) (by kernel_rfl) (by kernel_rfl) (fun _ _ _ h => h) (by rfl) (by assumption) ?_ ?_
          rotate_left
          · (intro wS hSw; (try dsimp only at hSw); go_simp; try with_reducible rfl)
          try simp only [Act.put, List.setIfInBounds_toArray, List.set_cons_zero, List.set_cons_succ]
          refine uTake (i := 5) (some 46) (v := ?_) rfl rfl (by kernel_rfl) (by kernel_rfl) (by kernel_rfl) (by kernel_rfl) (fun _ _ _ h => h) (by rfl) (by assumption) ?_ ?_
          rotate_left
          · (intro wS hSw; (try dsimp only at hSw); go_simp; try with_reducible rfl)
          try simp only [Act.put, List.setIfInBounds_toArray, List.set_cons_zero, List.set_cons_succ]
          refine uTake (i := 7) (some 48) (v := ?_) rfl rfl (by kernel_rfl) (by kernel_rfl) (by kernel_rfl) (by kernel_rfl) (fun _ _ _ h => h) (by rfl) (by assumption) ?_ ?_
          rotate_left
          · (intro wS hSw; (try dsimp only at hSw); go_simp; try with_reducible rfl)
          try simp only [Act.put, List.setIfInBounds_toArray, List.set_cons_zero, List.set_cons_succ]
          refine uReady (rs := [6]) (by kernel_rfl) (by simp) ?_
          refine ReadyU.cons rfl (fun KK hKK => ?_) ReadyU.nil
          go_simp
          refine (valid_c X (E12.out.fc 4 rfl) HBX.out (t := true) (by first | exact v1H.out | simpa using v1H.out) (Nat.le_trans HXL.out (by omega))).mono ?_
          rintro e w9 ⟨rfl, hb⟩
          have E13 : Hid (Env D w [(w5.heap.size, 44, usc y fa fb), (w.heap.size + 1, 41, spc s la pa), (w.heap.size, 25, [.slice (some ⟨xab, xao, none⟩) X.length xk])] [.gn (gRg xab (xao + i * 83) (usc p.u p.la p.pa)), .gn (gSp p.u.sp p.la p.pa), .gn (gSp y.sp fa fb), .gn (gSp s la pa), .gn (gUl (.slice (some ⟨xab, xao, none⟩) X.length xk) X)] w9) := Lib.hid (E12.out.below hb)
          clear E12 hb
          (try dsimp only)
          clear hHeld
          refine hKK.out _ _ (⟨((E13.out.bx 2 rfl).cell 0 rfl), ((E13.out.bx 0 rfl).range (o := 0) (fun j hj => by rw [Nat.zero_add])), (E13.out.fc 0 rfl).2⟩) (fun hHeld => ?_)
          clear hKK KK
          try simp only [Act.put, List.setIfInBounds_toArray, List.set_cons_zero, List.set_cons_succ]
          refine uTake (i := 8) (some 49) (v := ?_) rfl rfl (by kernel_rfl) (by kernel_rfl) (by kernel_rfl) (by kernel_rfl) (fun _ _ _ h => h) (by rfl) (by assumption) ?_ ?_
          rotate_left
          · (intro wS hSw; (try dsimp only at hSw); go_simp; try with_reducible rfl)
          try simp only [Act.put, List.setIfInBounds_toArray, List.set_cons_zero, List.set_cons_succ]
          refine uTake (i := 9) (some 50) (v := ?_) rfl rfl (by kernel_rfl) (by kernel_rfl) (by kernel_rfl) (by kernel_rfl) (fun _ _ _ h => h) (by rfl) (by assumption) ?_ ?_
          rotate_left
          · (intro wS hSw; (try dsimp only at hSw); go_simp; try with_reducible rfl)
          try simp only [Act.put, List.setIfInBounds_toArray, List.set_cons_zero, List.set_cons_succ]
          refine uTake (i := 10) (some 51) (v := ?_) rfl rfl (by kernel_rfl) (by kernel_rfl) (by kernel_rfl) (by kernel_rfl) (fun _ _ _ h => h) (by rfl) (by assumption) ?_ ?_
          rotate_left
          · (intro wS hSw; (try dsimp only at hSw); go_simp; try with_reducible rfl)
          try simp only [Act.put, List.setIfInBounds_toArray, List.set_cons_zero, List.set_cons_succ]
          refine uTake (i := 11) (some 52) (v := ?_) rfl rfl (by kernel_rfl) (by kernel_rfl) (by kernel_rfl) (by kernel_rfl) (fun _ _ _ h => h) (by rfl) (by assumption) ?_ ?_
          rotate_left
          · (intro wS hSw; (try dsimp only at hSw); go_simp; try with_reducible rfl)
          try simp only [Act.put, List.setIfInBounds_toArray, List.set_cons_zero, List.set_cons_succ]
          refine uTake (i := 12) (some 53) (v := ?_) rfl rfl (by kernel_rfl) (by kernel_rfl) (by kernel_rfl) (by kernel_rfl) (fun _ _ _ h => h) (by rfl) (by assumption) ?_ ?_
          rotate_left
          · (intro wS hSw; (try dsimp only at hSw); go_simp; try with_reducible rfl)
          try simp only [Act.put, List.setIfInBounds_toArray, List.set_cons_zero, List.set_cons_succ]
          refine uTake (i := 13) (some 54) (v := ?_) rfl rfl (by kernel_rfl) (by kernel_rfl) (by kernel_rfl) (by kernel_rfl) (fun _ _ _ h => h) (by rfl) (by assumption) ?_ ?_
          rotate_left
          · (intro wS hSw; (try dsimp only at hSw); go_simp; try with_reducible rfl)
          try simp only [Act.put, List.setIfInBounds_toArray, List.set_cons_zero, List.set_cons_succ]
          refine uTake (i := 14) (some 55) (v := ?_) rfl rfl (by kernel_rfl) (by kernel_rfl) (by kernel_rfl) (by kernel_rfl) (fun _ _ _ h => h) (by rfl) (by assumption) ?_ ?_
          rotate_left
          · (intro wS hSw; (try dsimp only at hSw); go_simp; try with_reducible rfl)
          try simp only [Act.put, List.setIfInBounds_toArray, List.set_cons_zero, List.set_cons_succ]
          refine uTake (i := 15) (some 56) (v := ?_) rfl rfl (by kernel_rfl) (by kernel_rfl) (by kernel_rfl) (by kernel_rfl) (fun _ _ _ h => h) (by rfl) (by assumption) ?_ ?_
          rotate_left
          · (intro wS hSw; (try dsimp only at hSw); go_simp; try with_reducible rfl)
          try simp only [Act.put, List.setIfInBounds_toArray, List.set_cons_zero, List.set_cons_succ]
          refine uTake (i := 16) (some 57) (v := ?_) rfl rfl (by kernel_rfl) (by kernel_rfl) (by kernel_rfl) (by kernel_rfl) (fun _ _ _ h => h) (by rfl) (by assumption) ?_ ?_
          rotate_left
          · (intro wS hSw; (try dsimp only at hSw); go_simp; try with_reducible rfl)
          try simp only [Act.put, List.setIfInBounds_toArray, List.set_cons_zero, List.set_cons_succ]
          refine uTake (i := 17) (some 58) (v := ?_) rfl rfl (by kernel_rfl) (by kernel_rfl) (by kernel_rfl) (by kernel_rfl) (fun _ _ _ h => h) (by rfl) (by assumption) ?_ ?_
          rotate_left
          · (intro wS hSw; (try dsimp only at hSw); go_simp; try with_reducible rfl)
          try simp only [Act.put, List.setIfInBounds_toArray, List.set_cons_zero, List.set_cons_succ]
          refine uTake (i := 18) (some 59) (v := ?_) rfl rfl (by kernel_rfl) (by kernel_rfl) (by kernel_rfl) (by kernel_rfl) (fun _ _ _ h => h) (by rfl) (by assumption) ?_ ?_
          rotate_left
          · (intro wS hSw; (try dsimp only at hSw); go_simp; try with_reducible rfl)
          try simp only [Act.put, List.setIfInBounds_toArray, List.set_cons_zero, List.set_cons_succ]
          refine uTake (i := 19) (some 60) (v := .agg (usc y fa fb).toArray) rfl rfl (by kernel_rfl) (by kernel_rfl) (by kernel_rfl) (by kernel_rfl) (fun _ _ _ h => h) (by rfl) (by assumption) ?_ ?_
          · (intro wS hSw; (try dsimp only at hSw); revert hSw; (try simp only [and_imp]); intros; exact exec_load_b bUse _ rfl w5.heap.size 0 rfl (usc y fa fb) (usc_len FtrueS.out _ _) (by assumption))
          try simp only [Act.put, List.setIfInBounds_toArray, List.set_cons_zero, List.set_cons_succ]
          refine uTake (i := 20) (some 61) (v := ?_) rfl rfl (by kernel_rfl) (by kernel_rfl) (by kernel_rfl) (by kernel_rfl) (fun _ _ _ h => h) (by rfl) (by assumption) ?_ ?_
          rotate_left
          · (intro wS hSw; (try dsimp only at hSw); go_simp; try with_reducible rfl)
          try simp only [Act.put, List.setIfInBounds_toArray, List.set_cons_zero, List.set_cons_succ]
          refine uTake (i := 21) (some 62) (v := ?_) rfl rfl (by kernel_rfl) (by kernel_rfl) (by kernel_rfl) (by kernel_rfl) (fun _ _ _ h => h) (by rfl) (by assumption) ?_ ?_
          rotate_left
          · (intro wS hSw; (try dsimp only at hSw); go_simp; try with_reducible rfl)
          try simp only [Act.put, List.setIfInBounds_toArray, List.set_cons_zero, List.set_cons_succ]
          refine uTake (i := 22) (some 63) (v := ?_) rfl rfl (by kernel_rfl) (by kernel_rfl) (by kernel_rfl) (by kernel_rfl) (fun _ _ _ h => h) (by rfl) (by assumption) ?_ ?_
          rotate_left
          · (intro wS hSw; (try dsimp only at hSw); go_simp; try with_reducible rfl)
          try simp only [Act.put, List.setIfInBounds_toArray, List.set_cons_zero, List.set_cons_succ]
          refine uTake (i := 23) (some 64) (v := ?_) rfl rfl (by kernel_rfl) (by kernel_rfl) (by kernel_rfl) (by kernel_rfl) (fun _ _ _ h => h) (by rfl) (by assumption) ?_ ?_
          rotate_left
          · (intro wS hSw; (try dsimp only at hSw); go_simp; try with_reducible rfl)
          try simp only [Act.put, List.setIfInBounds_toArray, List.set_cons_zero, List.set_cons_succ]
          refine uTake (i := 24) (some 65) (v := .agg (usc p.u p.la p.pa).toArray) rfl rfl (by kernel_rfl) (by kernel_rfl) (by kernel_rfl) (by kernel_rfl) (fun _ _ _ h => h) (by rfl) (by assumption) ?_ ?_
          · (intro wS hSw; (try dsimp only at hSw); revert hSw; (try simp only [and_imp]); intros; exact exec_load_b bUse _ rfl xab (xao + i * 83) rfl (usc p.u p.la p.pa) (usc_len pS.out _ _) (by assumption))
          try simp only [Act.put, List.setIfInBounds_toArray, List.set_cons_zero, List.set_cons_succ]
          refine uReady (rs := [25]) (by kernel_rfl) (by simp) ?_
          refine ReadyU.cons rfl (fun KK hKK => ?_) ReadyU.nil
          go_simp
          refine (sameu_c y p.u (E13.out.fc 2 rfl) (E13.out.fc 1 rfl) HBY.out HBP.out (t := true) ⟨fun _ => HPY.out, fun _ => rfl⟩).mono ?_
          rintro e w10 ⟨rfl, hb⟩
          have E14 : Hid (Env D w [(w5.heap.size, 44, usc y fa fb), (w.heap.size + 1, 41, spc s la pa), (w.heap.size, 25, [.slice (some ⟨xab, xao, none⟩) X.length xk])] [.gn (gRg xab (xao + i * 83) (usc p.u p.la p.pa)), .gn (gSp p.u.sp p.la p.pa), .gn (gSp y.sp fa fb), .gn (gSp s la pa), .gn (gUl (.slice (some ⟨xab, xao, none⟩) X.length xk) X)] w10) := Lib.hid (E13.out.below hb)
          clear E13 hb
          (try dsimp only)
          clear hHeld
          refine hKK.out _ _ (⟨((E14.out.bx 2 rfl).cell 0 rfl), ((E14.out.bx 0 rfl).range (o := 0) (fun j hj => by rw [Nat.zero_add])), (E14.out.fc 0 rfl).2⟩) (fun hHeld => ?_)
          clear hKK KK
          try simp only [Act.put, List.setIfInBounds_toArray, List.set_cons_zero, List.set_cons_succ]
          refine uTake (i := 26) (some 67) (v := ?_) rfl rfl (by kernel_rfl) (by kernel_rfl) (by kernel_rfl) (by kernel_rfl) (fun _ _ _ h => h) (by rfl) (by assumption) ?_ ?_
          rotate_left
          · (intro wS hSw; (try dsimp only at hSw); go_simp; try with_reducible rfl)
          try simp only [Act.put, List.setIfInBounds_toArray, List.set_cons_zero, List.set_cons_succ]
          refine uTake (i := 27) (some 68) (v := ?_) rfl rfl (by kernel_rfl) (by kernel_rfl) (by kernel_rfl) (by kernel_rfl) (fun _ _ _ h => h) (by rfl) (by assumption) ?_ ?_
          rotate_left
          · (intro wS hSw; (try dsimp only at hSw); go_simp; try with_reducible rfl)
          try simp only [Act.put, List.setIfInBounds_toArray, List.set_cons_zero, List.set_cons_succ]
          refine uTake (i := 28) (some 69) (v := ?_) rfl rfl (by kernel_rfl) (by kernel_rfl) (by kernel_rfl) (by kernel_rfl) (fun _ _ _ h => h) (by rfl) (by assumption) ?_ ?_
          rotate_left
          · (intro wS hSw; (try dsimp only at hSw); go_simp; try with_reducible rfl)
          try simp only [Act.put, List.setIfInBounds_toArray, List.set_cons_zero, List.set_cons_succ]
          refine uTake (i := 29) (some 70) (v := ?_) rfl rfl (by kernel_rfl) (by kernel_rfl) (by kernel_rfl) (by kernel_rfl) (fun _ _ _ h => h) (by rfl) (by assumption) ?_ ?_
          rotate_left
          · (intro wS hSw; (try dsimp only at hSw); go_simp; try with_reducible rfl)
          try simp only [Act.put, List.setIfInBounds_toArray, List.set_cons_zero, List.set_cons_succ]
          refine uTake (i := 30) (some 71) (v := ?_) rfl rfl (by kernel_rfl) (by kernel_rfl) (by kernel_rfl) (by kernel_rfl) (fun _ _ _ h => h) (by rfl) (by assumption) ?_ ?_
          rotate_left
          · (intro wS hSw; (try dsimp only at hSw); go_simp; try with_reducible rfl)
          try simp only [Act.put, List.setIfInBounds_toArray, List.set_cons_zero, List.set_cons_succ]
          refine uTake (i := 31) (some 72) (v := ?_) rfl rfl (by kernel_rfl) (by kernel_rfl) (by kernel_rfl) (by kernel_rfl) (fun _ _ _ h => h) (by rfl) (by assumption) ?_ ?_
          rotate_left
          · (intro wS hSw; (try dsimp only at hSw); go_simp; try with_reducible rfl)
          try simp only [Act.put, List.setIfInBounds_toArray, List.set_cons_zero, List.set_cons_succ]
          refine uTake (i := 32) (some 73) (v := ?_) rfl rfl (by kernel_rfl) (by kernel_rfl) (by kernel_rfl) (by kernel_rfl) (fun _ _ _ h => h) (by rfl) (by assumption) ?_ ?_
          rotate_left
          · (intro wS hSw; (try dsimp only at hSw); go_simp; try with_reducible rfl)
          try simp only [Act.put, List.setIfInBounds_toArray, List.set_cons_zero, List.set_cons_succ]
          refine uPass (i := 33) (some 74) rfl rfl (by kernel_rfl) (by kernel_rfl) (by kernel_rfl) (by kernel_rfl) (fun _ _ _ h => h) (by rfl) (by assumption) ?_
          try simp only [Act.put, List.setIfInBounds_toArray, List.set_cons_zero, List.set_cons_succ]
          refine uPass (i := 34) (some 75) rfl rfl (by kernel_rfl) (by kernel_rfl) (by kernel_rfl) (by kernel_rfl) (fun _ _ _ h => h) (by rfl) (by assumption) ?_
          try simp only [Act.put, List.setIfInBounds_toArray, List.set_cons_zero, List.set_cons_succ]
          refine uPass (i := 35) (some 76) rfl rfl (by kernel_rfl) (by kernel_rfl) (by kernel_rfl) (by kernel_rfl) (fun _ _ _ h => h) (by rfl) (by assumption) ?_
          try simp only [Act.put, List.setIfInBounds_toArray, List.set_cons_zero, List.set_cons_succ]
          refine uPass (i := 36) (some 77) rfl rfl (by kernel_rfl) (by kernel_rfl) (by kernel_rfl) (by kernel_rfl) (fun _ _ _ h => h) (by rfl) (by assumption) ?_
          try simp only [Act.put, List.setIfInBounds_toArray, List.set_cons_zero, List.set_cons_succ]
          refine uTake (i := 37) (some 78) (v := ?_) rfl rfl (by kernel_rfl) (by kernel_rfl) (by kernel_rfl) (by kernel_rfl) (fun _ _ _ h => h) (by rfl) (by assumption) ?_ ?_
          rotate_left
          · (intro wS hSw; (try dsimp only at hSw); go_simp; try with_reducible rfl)
          try simp only [Act.put, List.setIfInBounds_toArray, List.set_cons_zero, List.set_cons_succ]
          refine uTake (i := 38) (some 79) (v := ?_) rfl rfl (by kernel_rfl) (by kernel_rfl) (by kernel_rfl) (by kernel_rfl) (fun _ _ _ h => h) (by rfl) (by assumption) ?_ ?_
          rotate_left
          · (intro wS hSw; (try dsimp only at hSw); go_simp; try with_reducible rfl)
          try simp only [Act.put, List.setIfInBounds_toArray, List.set_cons_zero, List.set_cons_succ]
          refine uTake (i := 39) (some 80) (v := ?_) rfl rfl (by kernel_rfl) (by kernel_rfl) (by kernel_rfl) (by kernel_rfl) (fun _ _ _ h => h) (by rfl) (by assumption) ?_ ?_
          rotate_left
          · (intro wS hSw; (try dsimp only at hSw); go_simp; try with_reducible rfl)
          try simp only [Act.put, List.setIfInBounds_toArray, List.set_cons_zero, List.set_cons_succ]
          refine uTake (i := 40) (some 81) (v := ?_) rfl rfl (by kernel_rfl) (by kernel_rfl) (by kernel_rfl) (by kernel_rfl) (fun _ _ _ h => h) (by rfl) (by assumption) ?_ ?_
          rotate_left
          · (intro wS hSw; (try dsimp only at hSw); go_simp; try with_reducible rfl)
          try simp only [Act.put, List.setIfInBounds_toArray, List.set_cons_zero, List.set_cons_succ]
          refine uTake (i := 41) (some 82) (v := ?_) rfl rfl (by kernel_rfl) (by kernel_rfl) (by kernel_rfl) (by kernel_rfl) (fun _ _ _ h => h) (by rfl) (by assumption) ?_ ?_
          rotate_left
          · (intro wS hSw; (try dsimp only at hSw); go_simp; try with_reducible rfl)
          try simp only [Act.put, List.setIfInBounds_toArray, List.set_cons_zero, List.set_cons_succ]
          refine uTake (i := 42) (some 83) (v := ?_) rfl rfl (by kernel_rfl) (by kernel_rfl) (by kernel_rfl) (by kernel_rfl) (fun _ _ _ h => h) (by rfl) (by assumption) ?_ ?_
          rotate_left
          · (intro wS hSw; (try dsimp only at hSw); go_simp; try with_reducible rfl)
          try simp only [Act.put, List.setIfInBounds_toArray, List.set_cons_zero, List.set_cons_succ]
          refine uTake (i := 44) (some 85) (v := ?_) rfl rfl (by kernel_rfl) (by kernel_rfl) (by kernel_rfl) (by kernel_rfl) (fun _ _ _ h => h) (by rfl) (by assumption) ?_ ?_
          rotate_left
          · (intro wS hSw; (try dsimp only at hSw); go_simp; try with_reducible rfl)
          try simp only [Act.put, List.setIfInBounds_toArray, List.set_cons_zero, List.set_cons_succ]
          refine uTake (i := 45) (some 86) (v := ?_) rfl rfl (by kernel_rfl) (by kernel_rfl) (by kernel_rfl) (by kernel_rfl) (fun _ _ _ h => h) (by rfl) (by assumption) ?_ ?_
          rotate_left
          · (intro wS hSw; (try dsimp only at hSw); go_simp; try with_reducible rfl)
          try simp only [Act.put, List.setIfInBounds_toArray, List.set_cons_zero, List.set_cons_succ]
          refine uTake (i := 46) (some 87) (v := ?_) rfl rfl (by kernel_rfl) (by kernel_rfl) (by kernel_rfl) (by kernel_rfl) (fun _ _ _ h => h) (by rfl) (by assumption) ?_ ?_
          rotate_left
          · (intro wS hSw; (try dsimp only at hSw); go_simp; try with_reducible rfl)
          try simp only [Act.put, List.setIfInBounds_toArray, List.set_cons_zero, List.set_cons_succ]
          refine uReady (rs := [43]) (by kernel_rfl) (by simp) ?_
          refine ReadyU.cons rfl (fun KK hKK => ?_) ReadyU.nil
          go_simp
          refine (size_c X (E14.out.fc 4 rfl) HBX.out (Nat.le_trans HXL.out (by omega)) (r := (X.length : Int)) ⟨fun _ => rfl, fun h => absurd HV.out h⟩).mono ?_
          rintro e w11 ⟨rfl, hb⟩
          have E15 : Hid (Env D w [(w5.heap.size, 44, usc y fa fb), (w.heap.size + 1, 41, spc s la pa), (w.heap.size, 25, [.slice (some ⟨xab, xao, none⟩) X.length xk])] [.gn (gRg xab (xao + i * 83) (usc p.u p.la p.pa)), .gn (gSp p.u.sp p.la p.pa), .gn (gSp y.sp fa fb), .gn (gSp s la pa), .gn (gUl (.slice (some ⟨xab, xao, none⟩) X.length xk) X)] w11) := Lib.hid (E14.out.below hb)
          clear E14 hb
          (try dsimp only)
          clear hHeld
          refine hKK.out _ _ (⟨((E15.out.bx 2 rfl).cell 0 rfl), ((E15.out.bx 0 rfl).range (o := 0) (fun j hj => by rw [Nat.zero_add])), (E15.out.fc 0 rfl).2⟩) (fun hHeld => ?_)
          clear hKK KK
          try simp only [Act.put, List.setIfInBounds_toArray, List.set_cons_zero, List.set_cons_succ]
          refine uTake (i := 47) (some 88) (v := ?_) rfl rfl (by kernel_rfl) (by kernel_rfl) (by kernel_rfl) (by kernel_rfl) (fun _ _ _ h => h) (by rfl) (by assumption) ?_ ?_
          rotate_left
          · (intro wS hSw; (try dsimp only at hSw); go_simp; try with_reducible rfl)
          try simp only [Act.put, List.setIfInBounds_toArray, List.set_cons_zero, List.set_cons_succ]
          refine uTake (i := 48) (some 89) (v := ?_) rfl rfl (by kernel_rfl) (by kernel_rfl) (by kernel_rfl) (by kernel_rfl) (fun _ _ _ h => h) (by rfl) (by assumption) ?_ ?_
          rotate_left
          · (intro wS hSw; (try dsimp only at hSw); go_simp; try with_reducible rfl)
          try simp only [Act.put, List.setIfInBounds_toArray, List.set_cons_zero, List.set_cons_succ]
          refine uTake (i := 49) (some 90) (v := ?_) rfl rfl (by kernel_rfl) (by kernel_rfl) (by kernel_rfl) (by kernel_rfl) (fun _ _ _ h => h) (by rfl) (by assumption) ?_ ?_
          rotate_left
          · (intro wS hSw; (try dsimp only at hSw); go_simp; try with_reducible rfl)
          try simp only [Act.put, List.setIfInBounds_toArray, List.set_cons_zero, List.set_cons_succ]
          refine uTake (i := 50) (some 91) (v := ?_) rfl rfl (by kernel_rfl) (by kernel_rfl) (by kernel_rfl) (by kernel_rfl) (fun _ _ _ h => h) (by rfl) (by assumption) ?_ ?_
          rotate_left
          · (intro wS hSw; (try dsimp only at hSw); go_simp; try with_reducible rfl)
          try simp only [Act.put, List.setIfInBounds_toArray, List.set_cons_zero, List.set_cons_succ]
          refine uTake (i := 51) (some 92) (v := ?_) rfl rfl (by kernel_rfl) (by kernel_rfl) (by kernel_rfl) (by kernel_rfl) (fun _ _ _ h => h) (by rfl) (by assumption) ?_ ?_
          rotate_left
          · (intro wS hSw; (try dsimp only at hSw); go_simp; try with_reducible rfl)
          try simp only [Act.put, List.setIfInBounds_toArray, List.set_cons_zero, List.set_cons_succ]
          refine uTake (i := 52) (some 93) (v := ?_) rfl rfl (by kernel_rfl) (by kernel_rfl) (by kernel_rfl) (by kernel_rfl) (fun _ _ _ h => h) (by rfl) (by assumption) ?_ ?_
          rotate_left
          · (intro wS hSw; (try dsimp only at hSw); go_simp; try with_reducible rfl)
          try simp only [Act.put, List.setIfInBounds_toArray, List.set_cons_zero, List.set_cons_succ]
          refine uTake (i := 53) (some 94) (v := ?_) rfl rfl (by kernel_rfl) (by kernel_rfl) (by kernel_rfl) (by kernel_rfl) (fun _ _ _ h => h) (by rfl) (by assumption) ?_ ?_
          rotate_left
          · (intro wS hSw; (try dsimp only at hSw); go_simp; try with_reducible rfl)
          try simp only [Act.put, List.setIfInBounds_toArray, List.set_cons_zero, List.set_cons_succ]
          refine uPass (i := 54) (some 95) rfl rfl (by kernel_rfl) (by kernel_rfl) (by kernel_rfl) (by kernel_rfl) (fun _ _ _ h => h) (by rfl) (by assumption) ?_
          try simp only [Act.put, List.setIfInBounds_toArray, List.set_cons_zero, List.set_cons_succ]
          refine uPass (i := 55) (some 96) rfl rfl (by kernel_rfl) (by kernel_rfl) (by kernel_rfl) (by kernel_rfl) (fun _ _ _ h => h) (by rfl) (by assumption) ?_
          try simp only [Act.put, List.setIfInBounds_toArray, List.set_cons_zero, List.set_cons_succ]
          refine uPass (i := 56) (some 97) rfl rfl (by kernel_rfl) (by kernel_rfl) (by kernel_rfl) (by kernel_rfl) (fun _ _ _ h => h) (by rfl) (by assumption) ?_
          try simp only [Act.put, List.setIfInBounds_toArray, List.set_cons_zero, List.set_cons_succ]
          refine uTake (i := 57) (some 98) (v := ?_) rfl rfl (by kernel_rfl) (by kernel_rfl) (by kernel_rfl) (by kernel_rfl) (fun _ _ _ h => h) (by rfl) (by assumption) ?_ ?_
          rotate_left
          · (intro wS hSw; (try dsimp only at hSw); go_simp; try with_reducible rfl)
          try simp only [Act.put, List.setIfInBounds_toArray, List.set_cons_zero, List.set_cons_succ]
          refine uTake (i := 58) (some 99) (v := ?_) rfl rfl (by kernel_rfl) (by kernel_rfl) (by kernel_rfl) (by kernel_rfl) (fun _ _ _ h => h) (by rfl) (by assumption) ?_ ?_
          rotate_left
          · (intro wS hSw; (try dsimp only at hSw); go_simp; try with_reducible rfl)
          try simp only [Act.put, List.setIfInBounds_toArray, List.set_cons_zero, List.set_cons_succ]
          refine uDone (by kernel_rfl) ?_ _
          have b7 := E15.out.bx 2 rfl
          have c7_0 := b7.cell 0 rfl
          clear b7
          have b8 := E15.out.bx 1 rfl
          have r8 := Lib.hid (b8.range (o := 0) (fun j hj => by rw [Nat.zero_add]))
          clear b8
          go_wp2_with (first | (with_reducible refine wpl_alloc_b ?_ ?_ _ zvUse ?_; (· rfl); (· rfl)) | (with_reducible refine wpl_load_b bSpend (w.heap.size + 1) 0 ?_ ?_ (spc s la pa) (spc_len HS.out _ _) r8.out ?_; (· exact ⟨_, rfl, rfl⟩); (· kernel_rfl)))
          refine (put_t X s (E15.out.fc 4 rfl) (E15.out.fc 3 rfl) HBX.out HBS.out (Nat.le_trans HXL.out (by omega)) HR.out).mono ?_
          rintro e w12 ⟨⟨da, dk, dX, dc, dj, dY, rfl, d1, d2, dH, dI⟩, hb⟩
          have E16 : Hid (Env D w [(w5.heap.size, 44, usc y fa fb), (w.heap.size + 1, 41, spc s la pa), (w.heap.size, 25, [.slice (some ⟨xab, xao, none⟩) X.length xk])] [.gn (gUl (.slice dc dY.length dj) dY), .gn (gUl (.slice da dX.length dk) dX), .gn (gRg xab (xao + i * 83) (usc p.u p.la p.pa)), .gn (gSp p.u.sp p.la p.pa), .gn (gSp y.sp fa fb), .gn (gSp s la pa), .gn (gUl (.slice (some ⟨xab, xao, none⟩) X.length xk) X)] w12) := Lib.hid (E15.out.got (E15.out.got (E15.out.below hb) (.gn (gUl (.slice da dX.length dk) dX)) dH.out) (.gn (gUl (.slice dc dY.length dj) dY)) dI.out)
          clear c7_0 r8 E15 hb dH dI
          have dL := Lib.hid d1; have dC := Lib.hid d2; clear d1 d2
          have E17 : Hid (Env D w [(w12.heap.size, 25, [.slice da dX.length dk]), (w5.heap.size, 44, usc y fa fb), (w.heap.size + 1, 41, spc s la pa), (w.heap.size, 25, [.slice (some ⟨xab, xao, none⟩) X.length xk])] [.gn (gUl (.slice dc dY.length dj) dY), .gn (gUl (.slice da dX.length dk) dX), .gn (gRg xab (xao + i * 83) (usc p.u p.la p.pa)), .gn (gSp p.u.sp p.la p.pa), .gn (gSp y.sp fa fb), .gn (gSp s la pa), .gn (gUl (.slice (some ⟨xab, xao, none⟩) X.length xk) X)] _) := Lib.hid ((E16.out.push 25 [.slice da dX.length dk] (w12.heap.size) (by simp)))
          have b9 := E17.out.bx 3 rfl
          have c9_0 := b9.cell 0 rfl
          clear b9
          have b10 := E17.out.bx 2 rfl
          have r10 := Lib.hid (b10.range (o := 0) (fun j hj => by rw [Nat.zero_add]))
          clear b10
          go_wp2_with (first | (with_reducible refine wpl_alloc_b ?_ ?_ _ zvUse ?_; (· rfl); (· rfl)) | (with_reducible refine wpl_load_b bSpend (w.heap.size + 1) 0 ?_ ?_ (spc s la pa) (spc_len HS.out _ _) r10.out ?_; (· exact ⟨_, rfl, rfl⟩); (· kernel_rfl)))
          refine (rput_c X s (E17.out.fc 6 rfl) (E17.out.fc 5 rfl) HBX.out HBS.out (Nat.le_trans HXL.out (by omega)) HR.out).mono ?_
          rintro e w13 ⟨⟨ra, rk, rX, rc, rj, rY, rfl, r1, r2, rH, rI⟩, hb⟩
          have E18 : Hid (Env D w [(w12.heap.size, 25, [.slice da dX.length dk]), (w5.heap.size, 44, usc y fa fb), (w.heap.size + 1, 41, spc s la pa), (w.heap.size, 25, [.slice (some ⟨xab, xao, none⟩) X.length xk])] [.gn (gUl (.slice rc rY.length rj) rY), .gn (gUl (.slice ra rX.length rk) rX), .gn (gUl (.slice dc dY.length dj) dY), .gn (gUl (.slice da dX.length dk) dX), .gn (gRg xab (xao + i * 83) (usc p.u p.la p.pa)), .gn (gSp p.u.sp p.la p.pa), .gn (gSp y.sp fa fb), .gn (gSp s la pa), .gn (gUl (.slice (some ⟨xab, xao, none⟩) X.length xk) X)] w13) := Lib.hid (E17.out.got (E17.out.got (E17.out.below hb) (.gn (gUl (.slice ra rX.length rk) rX)) rH.out) (.gn (gUl (.slice rc rY.length rj) rY)) rI.out)
          clear c9_0 r10 E16 E17 hb rH rI
          have rL := Lib.hid r1; have rC := Lib.hid r2; clear r1 r2
          have E19 : Hid (Env D w [(w13.heap.size, 25, [.slice ra rX.length rk]), (w12.heap.size, 25, [.slice da dX.length dk]), (w5.heap.size, 44, usc y fa fb), (w.heap.size + 1, 41, spc s la pa), (w.heap.size, 25, [.slice (some ⟨xab, xao, none⟩) X.length xk])] [.gn (gUl (.slice rc rY.length rj) rY), .gn (gUl (.slice ra rX.length rk) rX), .gn (gUl (.slice dc dY.length dj) dY), .gn (gUl (.slice da dX.length dk) dX), .gn (gRg xab (xao + i * 83) (usc p.u p.la p.pa)), .gn (gSp p.u.sp p.la p.pa), .gn (gSp y.sp fa fb), .gn (gSp s la pa), .gn (gUl (.slice (some ⟨xab, xao, none⟩) X.length xk) X)] _) := Lib.hid ((E18.out.push 25 [.slice ra rX.length rk] (w13.heap.size) (by simp)))
          have b11 := E19.out.bx 1 rfl
          have c11_0 := b11.cell 0 rfl
          clear b11
          have b12 := E19.out.bx 0 rfl
          have c12_0 := b12.cell 0 rfl
          clear b12
          go_wp2_with (first | (with_reducible refine wpl_alloc_b ?_ ?_ _ zvUse ?_; (· rfl); (· rfl)))
          refine (rsame_c dX rX (E19.out.fc 3 rfl) (E19.out.fc 1 rfl) (Bd.of HPB.out.1 dL.out) (Bd.of HPB.out.1 rL.out) ⟨by rw [map_len dL.out]; exact HLC.out.1, by rw [map_len rL.out]; exact HLC.out.1⟩ (t := true) ⟨fun _ => dL.out.trans rL.out.symm, fun _ => rfl⟩).mono ?_
          rintro e w14 ⟨rfl, hb⟩
          have E20 : Hid (Env D w [(w13.heap.size, 25, [.slice ra rX.length rk]), (w12.heap.size, 25, [.slice da dX.length dk]), (w5.heap.size, 44, usc y fa fb), (w.heap.size + 1, 41, spc s la pa), (w.heap.size, 25, [.slice (some ⟨xab, xao, none⟩) X.length xk])] [.gn (gUl (.slice rc rY.length rj) rY), .gn (gUl (.slice ra rX.length rk) rX), .gn (gUl (.slice dc dY.length dj) dY), .gn (gUl (.slice da dX.length dk) dX), .gn (gRg xab (xao + i * 83) (usc p.u p.la p.pa)), .gn (gSp p.u.sp p.la p.pa), .gn (gSp y.sp fa fb), .gn (gSp s la pa), .gn (gUl (.slice (some ⟨xab, xao, none⟩) X.length xk) X)] w14) := Lib.hid (E19.out.below hb)
          clear c11_0 c12_0 E18 E19 hb
          go_wp2_with (first | (with_reducible refine wpl_alloc_b ?_ ?_ _ zvUse ?_; (· rfl); (· rfl)))
          refine (rsame_c dY rY (E20.out.fc 2 rfl) (E20.out.fc 0 rfl) (Bd.of HPB.out.2.1 dC.out) (Bd.of HPB.out.2.1 rC.out) ⟨by rw [map_len dC.out]; exact HLC.out.2, by rw [map_len rC.out]; exact HLC.out.2⟩ (t := true) ⟨fun _ => dC.out.trans rC.out.symm, fun _ => rfl⟩).mono ?_
          rintro e w15 ⟨rfl, hb⟩
          have E21 : Hid (Env D w [(w13.heap.size, 25, [.slice ra rX.length rk]), (w12.heap.size, 25, [.slice da dX.length dk]), (w5.heap.size, 44, usc y fa fb), (w.heap.size + 1, 41, spc s la pa), (w.heap.size, 25, [.slice (some ⟨xab, xao, none⟩) X.length xk])] [.gn (gUl (.slice rc rY.length rj) rY), .gn (gUl (.slice ra rX.length rk) rX), .gn (gUl (.slice dc dY.length dj) dY), .gn (gUl (.slice da dX.length dk) dX), .gn (gRg xab (xao + i * 83) (usc p.u p.la p.pa)), .gn (gSp p.u.sp p.la p.pa), .gn (gSp y.sp fa fb), .gn (gSp s la pa), .gn (gUl (.slice (some ⟨xab, xao, none⟩) X.length xk) X)] w15) := Lib.hid (E20.out.below hb)
          clear E20 hb
          have hfin := Lib.hid E21.out.bel
          go_wp2_with (first | (with_reducible refine wpl_alloc_b ?_ ?_ _ zvUse ?_; (· rfl); (· rfl)))
          go_ret
          exact ⟨rfl, hfin.out⟩
end Go.Proofs.Ytfnnfmefihiefaa

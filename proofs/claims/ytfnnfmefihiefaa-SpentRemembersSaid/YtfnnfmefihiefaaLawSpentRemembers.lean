/- SpentRemembers: a leaf is found, and its first use stays. -/
import Derived.Test.YtfnnfmefihiefaaSpGd
import Derived.Test.YtfnnfmefihiefaaSpV
namespace Go.Proofs.Ytfnnfmefihiefaa
open Go.RowKit
set_option linter.unusedVariables false
set_option linter.unusedSimpArgs false
theorem find_at {L : List Us} {a b : Int} {u : Us} (hv : ValidT L) (h : findK L a b = some u) : FindP L a b u true := .inr (.inr ⟨hv, h, rfl⟩)
theorem Bd.valR {L : List Us} (h : ValidT L) {u : Us} (hu : u ∈ L) : Bd u := st_bd (h.2.1 u hu).1
theorem bneF {a b : Int} (h : a = b) : (a != b) = false := by rw [h]; simp
set_option maxRecDepth 100000 in
set_option maxHeartbeats 32000000 in
theorem SpentRemembers_walk {D : Nat → Prop} (Z : List Sv) {za : Option Addr} {zk : Nat} {w : World} (hz : Fct.at w D (.gn (gSl (.slice za Z.length zk) Z))) (hlw0 : ∀ x ∈ Z, LvW x.s) :
    Calls Try.prog 5 #[.slice za Z.length zk] w fun e w' => e = .returned (.bool true) ∧ Below w.heap.size w w' := by
  have E0 := Lib.hid ((Env.start D w).arg (.gn (gSl (.slice za Z.length zk) Z)) hz)
  clear hz
  go_enter Try.func5, Try.ntmps5
  have hlw := Lib.hid hlw0
  clear hlw0
  have hmm := @run_makeMap Try.prog
  go_wp2_with fail
  have E1 := Lib.hid ((E0.out.push 61 [.slice za Z.length zk] (w.heap.size) (by simp)))
  refine (awake_c (D := fun _ => True)).mono ?_
  rintro e w1 ⟨rfl, hb⟩
  have E2 := Lib.hid (E1.out.below hb)
  clear E0 E1 hb
  by_cases q1 : 20 < Z.length
  · have d1 : decide ((20 : Int) < (Z.length : Int)) = true := decide_eq_true (by omega)
    have d1b : decide (20 < Z.length) = true := decide_eq_true q1
    clear q1
    have b1 := E2.out.bx 0 rfl
    have c1_0 := b1.cell 0 rfl
    clear b1
    have hfin := Lib.hid E2.out.bel
    go_wp2
    go_ret
    exact ⟨rfl, hfin.out⟩
  have d1 : decide ((20 : Int) < (Z.length : Int)) = false := decide_eq_false (by omega)
  have d1b : decide (20 < Z.length) = false := decide_eq_false q1
  have hz9 : Z.length ≤ 20 := by omega
  clear q1
  obtain ⟨lg, lgh⟩ : ∃ t, (Z.map Sv.s).any (fun x => longS (x)) = t := ⟨_, rfl⟩
  have HLG := Lib.hid lgh
  clear lgh
  cases lg with
  | true =>
    have b1 := E2.out.bx 0 rfl
    have c1_0 := b1.cell 0 rfl
    clear b1
    go_wp2_with fail
    refine (lsC Z (E2.out.fc 0 rfl) (t := true) HLG.out (by omega)).mono ?_
    rintro e w2 ⟨rfl, hb⟩
    have E3 := Lib.hid (E2.out.below hb)
    clear c1_0 E2 hb
    have hfin := Lib.hid E3.out.bel
    go_wp2
    go_ret
    exact ⟨rfl, hfin.out⟩
  | false =>
    have b1 := E2.out.bx 0 rfl
    have c1_0 := b1.cell 0 rfl
    clear b1
    go_wp2_with fail
    refine (lsC Z (E2.out.fc 0 rfl) (t := false) HLG.out (by omega)).mono ?_
    rintro e w2 ⟨rfl, hb⟩
    have E3 := Lib.hid (E2.out.below hb)
    clear c1_0 E2 hb
    have HNL : Hid (∀ s ∈ (Z.map Sv.s), s.lv.length ≤ 40 ∧ s.pa.length ≤ 30) := Lib.hid (fun s hs => longS_no (by have h := List.any_eq_false.1 HLG.out s hs; simpa using h))
    clear d1 d1b
    go_wp2_with fail
    refine (new_c (D := fun _ => True)).mono ?_
    rintro e w3 ⟨rfl, hb⟩
    have E4 := Lib.hid (E3.out.below hb)
    clear E3 hb
    go_upto_region 6 with (fail)
    have E5 := Lib.hid ((E4.out.push 25 [.slice none 0 0] (w3.heap.size) (by simp)))
    clear E4
    generalize w3.alloc (.cells #[.slice none 0 0] 25) = w4 at *
    have E6 := Lib.hid (EnvX.made E5.out w4.heap.size rfl)
    clear E5
    have E7 : Hid (EnvX D w [(w4.heap.size + 1, 63, [.map (some w4.heap.size)]), (w3.heap.size, 25, [.slice none 0 0]), (w.heap.size, 61, [.slice za Z.length zk])] [.gn (gSl (.slice za Z.length zk) Z)] [w4.heap.size] (QM w4.heap.size 0 (fun _ _ => none)) _) := Lib.hid ((E6.out.push 63 [.map (some w4.heap.size)] (w4.heap.size + 1) (by simp)))
    have b2 := E7.out.bx 2 rfl
    have c2_0 := b2.cell 0 rfl
    clear b2
    go_wp2_with fail
    clear hmm
    have E8 : Hid (EnvX D w [(w4.heap.size + 1, 63, [.map (some w4.heap.size)]), (w3.heap.size, 25, [.slice none 0 0]), (w.heap.size, 61, [.slice za Z.length zk])] [.gn (gUl (.slice none ([] : List Uv).length 0) []), .gn (gSl (.slice za Z.length zk) Z)] [w4.heap.size] (QM w4.heap.size 0 (fun _ _ => none)) _) := Lib.hid (E7.out.note (.gn (gUl (.slice none ([] : List Uv).length 0) [])) (gUl.nil _ _))
    clear E7
    go_loopg [35, 5] (Z.length) (fun gk s35 s5 wr => ∃ (k : Nat) (xa : Option Addr) (xk : Nat) (X : List Uv) (M : Mk) (sg : List Bx) (cs : List Value) (va : Option Addr) (vk : Nat) (l : List Int), s35 = .int .i64 (k : Int) ∧ s5 = .slice va l.length vk ∧ Hid (EnvX D w ((w4.heap.size + 1, 63, [.map (some w4.heap.size)]) :: (w3.heap.size, 25, [.slice xa X.length xk]) :: (w.heap.size, 61, [.slice za Z.length zk]) :: sg) [.gn (gUl (.slice xa X.length xk) X), .gn (gSl (.slice za Z.length zk) Z)] [w4.heap.size] (QM w4.heap.size X.length M) wr) ∧ Hid (OI sg cs (.slice va l.length vk) l) ∧ Hid (k ≤ Z.length ∧ gk = Z.length - k ∧ RmI (Z.map Sv.s) k (X.map Uv.u) M l ∧ l.length ≤ k))
    case atStart => exact ⟨0, none, 0, [], (fun _ _ => none), [], [], none, 0, [], rfl, rfl, Lib.hid (E8.out.cast (by simp)), Lib.hid OI.nil, Lib.hid ⟨Nat.zero_le _, rfl, RmI.start, Nat.le_refl _⟩⟩
    case round =>
      clear c2_0 E6 E8
      obtain ⟨k, xa, xk, X, M, sg, cs, va, vk, l, rfl, rfl, EL, hO, HA⟩ := hrel
      rename World => wo
      obtain ⟨a1, a2, a3, a4⟩ := HA.out
      have HI := Lib.hid a3
      have HLK := Lib.hid a4
      clear HA a3 a4
      have HVX : Hid (ValidT (X.map Uv.u)) := Lib.hid HI.out.tab.valid
      by_cases hy : k = Z.length
      · skip
        have t6 : decide ((k : Int) < (Z.length : Int)) = false := decide_eq_false (by omega)
        have t7 : decide (k < Z.length) = false := decide_eq_false (by omega)
        have HYY := Lib.hid hy
        clear hy
        have hx9 : X.length ≤ 2000 := valid_len HVX.out
        go_upto_region 38 with (fail)
        have nx1 : ((X.length : Int) != (X.length : Int)) = false := by simp
        have nx2 : (X.length != X.length) = false := by simp
        go_wp2_with fail
        have E9 : Hid (EnvX D w ((w4.heap.size + 1, 63, [.map (some w4.heap.size)]) :: (w3.heap.size, 25, [.slice xa X.length xk]) :: (w.heap.size, 61, [.slice za Z.length zk]) :: sg) [.gn (gUl (.slice xa X.length xk) X), .gn (gSl (.slice za Z.length zk) Z)] [w4.heap.size] (QM w4.heap.size X.length M) (wo.drew)) := Lib.hid EL.out.drew
        clear EL
        refine wp_regionU (S := fun w' => w'.cell? ⟨w3.heap.size, 0, none⟩ = some (.slice xa X.length xk) ∧ w'.cell? ⟨w4.heap.size + 1, 0, none⟩ = some (.map (some w4.heap.size)) ∧ QM (w4.heap.size) X.length M w') [] (by kernel_rfl) (⟨((E9.out.bx 1 rfl).cell 0 rfl), ((E9.out.bx 0 rfl).cell 0 rfl), E9.out.q⟩) (fun hHeld => ?_)
        generalize wo.drew = w5 at *
        refine uTake (i := 0) (some 140) (v := ?_) rfl rfl (by kernel_rfl) (by kernel_rfl) (by kernel_rfl) (by kernel_rfl) (fun _ _ _ h => h) (by rfl) (by assumption) ?_ ?_
        rotate_left
        · (intro wS hSw; (try dsimp only at hSw); go_simp; try with_reducible rfl)
        try simp only [Act.put, List.setIfInBounds_toArray, List.set_cons_zero, List.set_cons_succ]
        refine uReady (rs := [1]) (by kernel_rfl) (by simp) ?_
        refine ReadyU.cons rfl (fun KK hKK => ?_) ReadyU.nil
        go_simp
        refine (valid_c X (E9.out.fc 0 rfl) (valid_bd HVX.out) (t := true) ⟨fun _ => HVX.out, fun _ => rfl⟩ (Nat.le_trans (valid_len HVX.out) (by omega))).mono ?_
        rintro e w6 ⟨rfl, hb⟩
        have E10 : Hid (EnvX D w ((w4.heap.size + 1, 63, [.map (some w4.heap.size)]) :: (w3.heap.size, 25, [.slice xa X.length xk]) :: (w.heap.size, 61, [.slice za Z.length zk]) :: sg) [.gn (gUl (.slice xa X.length xk) X), .gn (gSl (.slice za Z.length zk) Z)] [w4.heap.size] (QM w4.heap.size X.length M) w6) := Lib.hid (E9.out.below hb)
        clear E9 hb
        (try dsimp only)
        clear hHeld
        refine hKK.out _ _ (⟨((E10.out.bx 1 rfl).cell 0 rfl), ((E10.out.bx 0 rfl).cell 0 rfl), E10.out.q⟩) (fun hHeld => ?_)
        clear hKK KK
        try simp only [Act.put, List.setIfInBounds_toArray, List.set_cons_zero, List.set_cons_succ]
        refine uTake (i := 2) (some 142) (v := ?_) rfl rfl (by kernel_rfl) (by kernel_rfl) (by kernel_rfl) (by kernel_rfl) (fun _ _ _ h => h) (by rfl) (by assumption) ?_ ?_
        rotate_left
        · (intro wS hSw; (try dsimp only at hSw); go_simp; try with_reducible rfl)
        try simp only [Act.put, List.setIfInBounds_toArray, List.set_cons_zero, List.set_cons_succ]
        refine uTake (i := 3) (some 143) (v := ?_) rfl rfl (by kernel_rfl) (by kernel_rfl) (by kernel_rfl) (by kernel_rfl) (fun _ _ _ h => h) (by rfl) (by assumption) ?_ ?_
        rotate_left
        · (intro wS hSw; (try dsimp only at hSw); go_simp; try with_reducible rfl)
        try simp only [Act.put, List.setIfInBounds_toArray, List.set_cons_zero, List.set_cons_succ]
        refine uTake (i := 4) (some 144) (v := ?_) rfl rfl (by kernel_rfl) (by kernel_rfl) (by kernel_rfl) (by kernel_rfl) (fun _ _ _ h => h) (by rfl) (by assumption) ?_ ?_
        rotate_left
        · (intro wS hSw; (try dsimp only at hSw); go_simp; try with_reducible rfl)
        try simp only [Act.put, List.setIfInBounds_toArray, List.set_cons_zero, List.set_cons_succ]
        refine uTake (i := 6) (some 146) (v := ?_) rfl rfl (by kernel_rfl) (by kernel_rfl) (by kernel_rfl) (by kernel_rfl) (fun _ _ _ h => h) (by rfl) (by assumption) ?_ ?_
        rotate_left
        · (intro wS hSw; (try dsimp only at hSw); go_simp; try with_reducible rfl)
        try simp only [Act.put, List.setIfInBounds_toArray, List.set_cons_zero, List.set_cons_succ]
        refine uReady (rs := [5]) (by kernel_rfl) (by simp) ?_
        refine ReadyU.cons rfl (fun KK hKK => ?_) ReadyU.nil
        go_simp
        refine (size_c X (E10.out.fc 0 rfl) (valid_bd HVX.out) (Nat.le_trans (valid_len HVX.out) (by omega)) (r := (X.length : Int)) ⟨fun _ => rfl, fun h => absurd HVX.out h⟩).mono ?_
        rintro e w7 ⟨rfl, hb⟩
        have E11 : Hid (EnvX D w ((w4.heap.size + 1, 63, [.map (some w4.heap.size)]) :: (w3.heap.size, 25, [.slice xa X.length xk]) :: (w.heap.size, 61, [.slice za Z.length zk]) :: sg) [.gn (gUl (.slice xa X.length xk) X), .gn (gSl (.slice za Z.length zk) Z)] [w4.heap.size] (QM w4.heap.size X.length M) w7) := Lib.hid (E10.out.below hb)
        clear E10 hb
        (try dsimp only)
        clear hHeld
        refine hKK.out _ _ (⟨((E11.out.bx 1 rfl).cell 0 rfl), ((E11.out.bx 0 rfl).cell 0 rfl), E11.out.q⟩) (fun hHeld => ?_)
        clear hKK KK
        try simp only [Act.put, List.setIfInBounds_toArray, List.set_cons_zero, List.set_cons_succ]
        refine uTake (i := 7) (some 147) (v := .int .i64 (X.length : Int)) rfl rfl (by kernel_rfl) (by kernel_rfl) (by kernel_rfl) (by kernel_rfl) (fun _ _ _ h => h) (by rfl) (by assumption) ?_ ?_
        · (intro wS hSw; (try dsimp only at hSw); revert hSw; (try simp only [and_imp]); intros; exact exec_lenM _ rfl rfl (by assumption))
        try simp only [Act.put, List.setIfInBounds_toArray, List.set_cons_zero, List.set_cons_succ]
        refine uTake (i := 8) (some 148) (v := ?_) rfl rfl (by kernel_rfl) (by kernel_rfl) (by kernel_rfl) (by kernel_rfl) (fun _ _ _ h => h) (by rfl) (by assumption) ?_ ?_
        rotate_left
        · (intro wS hSw; (try dsimp only at hSw); go_simp; try with_reducible rfl)
        try simp only [Act.put, List.setIfInBounds_toArray, List.set_cons_zero, List.set_cons_succ]
        refine uTake (i := 9) (some 149) (v := ?_) rfl rfl (by kernel_rfl) (by kernel_rfl) (by kernel_rfl) (by kernel_rfl) (fun _ _ _ h => h) (by rfl) (by assumption) ?_ ?_
        rotate_left
        · (intro wS hSw; (try dsimp only at hSw); go_simp; try with_reducible rfl)
        try simp only [Act.put, List.setIfInBounds_toArray, List.set_cons_zero, List.set_cons_succ]
        refine uDone (by kernel_rfl) ?_ _
        clear nx1 nx2 t6 t7
        go_upto_region 40 with (fail)
        have b3 := E11.out.bx 0 rfl
        have c3_0 := b3.cell 0 rfl
        clear b3
        go_wp2_with (at_range; refine wpl_rangeM rfl _ rfl E11.out rfl ?_; intro wq rb cnt0 EQ)
        clear c3_0 E11
        go_frame
        go_loopg [19] (cnt0) (fun gk s19 wr => ∃ (cnt : Nat) (v19 : Value), s19 = v19 ∧ Hid (EnvX D w ((w4.heap.size + 1, 63, [.map (some w4.heap.size)]) :: (w3.heap.size, 25, [.slice xa X.length xk]) :: (w.heap.size, 61, [.slice za Z.length zk]) :: sg) [.gn (gUl (.slice xa X.length xk) X), .gn (gSl (.slice za Z.length zk) Z)] [w4.heap.size, rb] (QR (w4.heap.size) rb X.length M cnt) wr) ∧ Hid (gk = cnt))
        case atStart => exact ⟨cnt0, _, rfl, Lib.hid EQ.out, Lib.hid rfl⟩
        case round =>
          clear EQ
          obtain ⟨cnt, v19, rfl, EL, HA⟩ := hrel
          have hgk := HA.out
          clear HA
          go_wp2_with (at_next; refine wpl_nextM rfl _ rfl EL.out rfl ?_ ?_)
          · skip
            have hfin := Lib.hid EL.out.bel
            go_wp2
            go_ret
            exact ⟨rfl, hfin.out⟩
          · intro p q kq cnt1 wn HK EN hen
            clear EL
            have HMK := Lib.hid HK.out.2.2.1
            have hlt := HK.out.2.2.2
            obtain ⟨u, h1, h2, h3, h4, h5, m, h6, h7, h8⟩ := HI.out.key HMK.out
            have HF1 := Lib.hid h1
            have HU2 := Lib.hid h2
            have HU3 := Lib.hid h3
            have HU4 := Lib.hid h4
            have HLM := Lib.hid h6
            have hkq : kq < Z.length := by omega
            have hkqI : (kq : Int) < (Z.length : Int) := by omega
            have HM8 := Lib.hid h8
            clear h1 h2 h3 h4 h5 h6 h8
            have HUM : Hid (u ∈ X.map Uv.u) := Lib.hid ((findK_iff HVX.out.2.2).1 HF1.out).1
            have E12 : Hid (EnvX D w ((wn.heap.size, 70, [.int .i64 p, .int .i64 q]) :: (w4.heap.size + 1, 63, [.map (some w4.heap.size)]) :: (w3.heap.size, 25, [.slice xa X.length xk]) :: (w.heap.size, 61, [.slice za Z.length zk]) :: sg) [.gn (gUl (.slice xa X.length xk) X), .gn (gSl (.slice za Z.length zk) Z)] [w4.heap.size, rb] (QR (w4.heap.size) rb X.length M cnt1) _) := Lib.hid ((EN.out.push 70 [.int .i64 p, .int .i64 q] (wn.heap.size) (by simp)))
            have b4 := E12.out.bx 2 rfl
            have c4_0 := b4.cell 0 rfl
            clear b4
            have b5 := E12.out.bx 0 rfl
            have c5_0 := b5.cell 0 rfl
            clear b5
            have b6 := E12.out.bx 0 rfl
            have c6_1 := b6.cell 1 rfl
            clear b6
            go_wp2_with fail
            refine (find_c X p q (E12.out.fc 0 rfl) (valid_bd HVX.out) (Nat.le_trans (valid_len HVX.out) (by omega)) (u := u) (t := true) (find_at HVX.out HF1.out)).mono ?_
            rintro e w8 ⟨⟨fa, fb, rfl, fh⟩, hb⟩
            have E13 : Hid (EnvX D w ((wn.heap.size, 70, [.int .i64 p, .int .i64 q]) :: (w4.heap.size + 1, 63, [.map (some w4.heap.size)]) :: (w3.heap.size, 25, [.slice xa X.length xk]) :: (w.heap.size, 61, [.slice za Z.length zk]) :: sg) [.gn (gSp u.sp fa fb), .gn (gUl (.slice xa X.length xk) X), .gn (gSl (.slice za Z.length zk) Z)] [w4.heap.size, rb] (QR (w4.heap.size) rb X.length M cnt1) w8) := Lib.hid (E12.out.got (E12.out.below hb) (.gn (gSp u.sp fa fb)) fh.out)
            clear c4_0 c5_0 c6_1 EN E12 hb fh
            have FN : Hid (∀ v ∈ usc u fa fb, v.oneCell' = true) := Lib.hid (gUv.one (x := ⟨u, fa, fb⟩) (E13.out.fc 0 rfl)); have FS : Hid (SpOk u.sp) := Lib.hid (E13.out.spOk 0 rfl)
            have E14 : Hid (EnvX D w ((w8.heap.size, 44, usc zU nilV nilV) :: (wn.heap.size, 70, [.int .i64 p, .int .i64 q]) :: (w4.heap.size + 1, 63, [.map (some w4.heap.size)]) :: (w3.heap.size, 25, [.slice xa X.length xk]) :: (w.heap.size, 61, [.slice za Z.length zk]) :: sg) [.gn (gSp u.sp fa fb), .gn (gUl (.slice xa X.length xk) X), .gn (gSl (.slice za Z.length zk) Z)] [w4.heap.size, rb] (QR (w4.heap.size) rb X.length M cnt1) _) := Lib.hid ((E13.out.push 44 (usc zU nilV nilV) (w8.heap.size) (by simp)))
            have b7 := Lib.hid (E14.out.bx 0 rfl)
            go_upto_region 44 with (first | (with_reducible refine wpl_alloc_b ?_ ?_ _ zvUse ?_; (· rfl); (· rfl)) | (with_reducible refine wpl_store_b bUse w8.heap.size 0 (usc u fa fb) ?_ ?_ (usc_len FS.out _ _) (Box.there b7.out (Nat.le_of_eq (usc_len zS_ok _ _).symm)) FN.out ?_; (· first | exact ⟨_, _, rfl, rfl, rfl⟩ | (refine ⟨_, _, rfl, ?_, ?_⟩ <;> simp [Act.eval, Act.put])); (· kernel_rfl)))
            have E15 : Hid (EnvX D w ((w8.heap.size, 44, usc u fa fb) :: (wn.heap.size, 70, [.int .i64 p, .int .i64 q]) :: (w4.heap.size + 1, 63, [.map (some w4.heap.size)]) :: (w3.heap.size, 25, [.slice xa X.length xk]) :: (w.heap.size, 61, [.slice za Z.length zk]) :: sg) [.gn (gSp u.sp fa fb), .gn (gUl (.slice xa X.length xk) X), .gn (gSl (.slice za Z.length zk) Z)] [w4.heap.size, rb] (QR (w4.heap.size) rb X.length M cnt1) _) := Lib.hid ((E14.out.whole 0 (usc u fa fb) rfl ((usc_len FS.out _ _).trans (usc_len zS_ok _ _).symm)))
            obtain ⟨zab, zao, rfl⟩ := gSl.addr (E15.out.fc 2 rfl) (List.ne_nil_of_length_pos (Nat.lt_of_le_of_lt (Nat.zero_le _) hkq))
            obtain ⟨⟨tu, tp, tq⟩, te⟩ : ∃ x, Z[kq] = x := ⟨_, rfl⟩
            have tE := Lib.hid te
            clear te
            have E16 : Hid (EnvX D w ((w8.heap.size, 44, usc u fa fb) :: (wn.heap.size, 70, [.int .i64 p, .int .i64 q]) :: (w4.heap.size + 1, 63, [.map (some w4.heap.size)]) :: (w3.heap.size, 25, [.slice xa X.length xk]) :: (w.heap.size, 61, [.slice (some ⟨zab, zao, none⟩) Z.length zk]) :: sg) [.gn (gRg zab (zao + kq * 80) (spc tu tp tq)), .gn (gSp tu tp tq), .gn (gSp u.sp fa fb), .gn (gUl (.slice xa X.length xk) X), .gn (gSl (.slice (some ⟨zab, zao, none⟩) Z.length zk) Z)] [w4.heap.size, rb] (QR (w4.heap.size) rb X.length M cnt1) _) := Lib.hid (E15.out.elV 2 rfl hkq tE.out)
            clear E15
            have tS := Lib.hid (E16.out.spOk 1 rfl)
            have tN : Hid (∀ v ∈ spc tu tp tq, v.oneCell' = true) := Lib.hid (gSp.one (E16.out.fc 1 rfl))
            obtain ⟨ia, ik, ic, ij, rfl, rfl, E170⟩ := E16.out.elS 1 rfl
            have E17 : Hid (EnvX D w ((w8.heap.size, 44, usc u fa fb) :: (wn.heap.size, 70, [.int .i64 p, .int .i64 q]) :: (w4.heap.size + 1, 63, [.map (some w4.heap.size)]) :: (w3.heap.size, 25, [.slice xa X.length xk]) :: (w.heap.size, 61, [.slice (some ⟨zab, zao, none⟩) Z.length zk]) :: sg) [.rw (.slice ia tu.lv.length ik) tu.lv.length 3 (lcl tu.lv), .rw (.slice ic tu.pa.length ij) tu.pa.length 32 tu.pa.flatten, .gn (gRg zab (zao + kq * 80) (spc tu (.slice ia tu.lv.length ik) (.slice ic tu.pa.length ij))), .gn (gSp tu (.slice ia tu.lv.length ik) (.slice ic tu.pa.length ij)), .gn (gSp u.sp fa fb), .gn (gUl (.slice xa X.length xk) X), .gn (gSl (.slice (some ⟨zab, zao, none⟩) Z.length zk) Z)] [w4.heap.size, rb] (QR (w4.heap.size) rb X.length M cnt1) _) := Lib.hid E170
            clear E170 E16
            have HTU : Hid (tu = u.sp) := Lib.hid (by have h := smap_get hkq tE.out; rw [HU4.out] at h; exact (Option.some.inj h).symm)
            have hml : m < tu.lv.length := by rw [HTU.out]; exact h7
            have hmI : (m : Int) < (tu.lv.length : Int) := by omega
            obtain ⟨iab, iao, rfl⟩ := Rw.addr (E17.out.fc 0 rfl) (by omega)
            obtain ⟨⟨c0, c1, c2⟩, ce⟩ : ∃ c, tu.lv[m] = c := ⟨_, rfl⟩
            have cE := Lib.hid ce
            clear ce
            have HC0 : Hid (c0 = q) := Lib.hid (by have e2 : ∀ (s : Sp) (hs : s = tu) (h : m < s.lv.length), s.lv[m] = (c0, c1, c2) := (by intro s hs h; subst hs; exact cE.out); have h := HM8.out; rw [e2 _ HTU.out.symm h7] at h; exact h)
            have HMB : Hid (0 ≤ u.lf ∧ u.lf < (tu.lv.length : Int)) := Lib.hid (by rw [HLM.out]; omega)
            have HTN : Hid (u.lf.toNat = m) := Lib.hid (by rw [HLM.out]; rfl)
            have n1 : (u.ua != p) = false := bneF HU2.out
            have n2 : (u.ub != q) = false := bneF HU3.out
            have n3 : (c0 != q) = false := bneF HC0.out
            have m1 : decide (u.lf < 0) = false := by rw [HLM.out]; exact decide_eq_false (by omega)
            have m2 : decide ((tu.lv.length : Int) ≤ u.lf) = false := by rw [HLM.out]; exact decide_eq_false (by omega)
            have Bu : Hid (u.sp.lv.length ≤ 1000000 ∧ u.sp.pa.length ≤ 1000000) := Lib.hid (Bd.valR HVX.out HUM.out)
            have Bt : Hid (tu.lv.length ≤ 1000000 ∧ tu.pa.length ≤ 1000000) := Lib.hid (by have h := HNL.out tu (List.mem_of_getElem? (smap_get hkq tE.out)); omega)
            go_wp2_with (first | (with_reducible refine wpl_alloc_b ?_ ?_ _ zvUse ?_; (· rfl); (· rfl)) | (with_reducible refine wpl_store_b bUse w8.heap.size 0 (usc u fa fb) ?_ ?_ (usc_len FS.out _ _) (Box.there b7.out (Nat.le_of_eq (usc_len zS_ok _ _).symm)) FN.out ?_; (· first | exact ⟨_, _, rfl, rfl, rfl⟩ | (refine ⟨_, _, rfl, ?_, ?_⟩ <;> simp [Act.eval, Act.put])); (· kernel_rfl)))
            clear b7 E13 E14
            generalize (w8.alloc (.cells (usc zU nilV nilV).toArray 44)).setCells (w8.heap.size) 0 (usc u fa fb) = w9 at *
            have E18 : Hid (EnvX D w ((w8.heap.size, 44, usc u fa fb) :: (wn.heap.size, 70, [.int .i64 p, .int .i64 q]) :: (w4.heap.size + 1, 63, [.map (some w4.heap.size)]) :: (w3.heap.size, 25, [.slice xa X.length xk]) :: (w.heap.size, 61, [.slice (some ⟨zab, zao, none⟩) Z.length zk]) :: sg) [.rw (.slice (some ⟨iab, iao, none⟩) tu.lv.length ik) tu.lv.length 3 (lcl tu.lv), .rw (.slice ic tu.pa.length ij) tu.pa.length 32 tu.pa.flatten, .gn (gRg zab (zao + kq * 80) (spc tu (.slice (some ⟨iab, iao, none⟩) tu.lv.length ik) (.slice ic tu.pa.length ij))), .gn (gSp tu (.slice (some ⟨iab, iao, none⟩) tu.lv.length ik) (.slice ic tu.pa.length ij)), .gn (gSp u.sp fa fb), .gn (gUl (.slice xa X.length xk) X), .gn (gSl (.slice (some ⟨zab, zao, none⟩) Z.length zk) Z)] [w4.heap.size, rb] (QR (w4.heap.size) rb X.length M cnt1) (w9.drew)) := Lib.hid E17.out.drew
            clear E17
            refine wp_regionU (S := fun w' => w'.cell? ⟨w.heap.size, 0, none⟩ = some (.slice (some ⟨zab, zao, none⟩) Z.length zk) ∧ w'.cell? ⟨iab, iao + m * 3, none⟩ = some (.int .i64 c0) ∧ w'.cell? ⟨iab, iao + m * 3 + 1, none⟩ = some (.int .i64 c1) ∧ w'.cell? ⟨iab, iao + m * 3 + 2, none⟩ = some (.int .i64 c2) ∧ w'.cell? ⟨wn.heap.size, 0, none⟩ = some (.int .i64 p) ∧ w'.cell? ⟨wn.heap.size, 1, none⟩ = some (.int .i64 q) ∧ w'.cell? ⟨w8.heap.size, 0, none⟩ = some (.int .i64 u.ua) ∧ w'.cell? ⟨w8.heap.size, 1, none⟩ = some (.int .i64 u.ub) ∧ w'.rangeAt w8.heap.size 2 (spc u.sp fa fb) ∧ w'.rangeAt zab (zao + kq * 80) (spc tu (.slice (some ⟨iab, iao, none⟩) tu.lv.length ik) (.slice ic tu.pa.length ij)) ∧ w'.cell? ⟨w8.heap.size, 82, none⟩ = some (.int .i64 u.lf) ∧ w'.cell? ⟨zab, zao + kq * 80 + 77, none⟩ = some ((.slice (some ⟨iab, iao, none⟩) tu.lv.length ik))) [] (by kernel_rfl) (⟨((E18.out.bx 4 rfl).cell 0 rfl), (by have h := ((E18.out.fc 0 rfl)).triple (k := m) rfl hml; rw [cE.out] at h; exact h.1), (by have h := ((E18.out.fc 0 rfl)).triple (k := m) rfl hml; rw [cE.out] at h; exact h.2.1), (by have h := ((E18.out.fc 0 rfl)).triple (k := m) rfl hml; rw [cE.out] at h; exact h.2.2), (E18.out.bx 1 rfl).cell 0 rfl, (E18.out.bx 1 rfl).cell 1 rfl, ((E18.out.bx 0 rfl).cell 0 rfl), ((E18.out.bx 0 rfl).cell 1 rfl), ((E18.out.bx 0 rfl).range (o := 2) (usc_sp FS.out _ _)), (E18.out.fc 2 rfl).2, ((E18.out.bx 0 rfl).cell 82 (usc_lf FS.out _ _)), (gRg.cell (E18.out.fc 2 rfl) (j := 77) (spc_tail tS.out _ _).1)⟩) (fun hHeld => ?_)
            generalize w9.drew = w10 at *
            refine uTake (i := 0) (some 166) (v := ?_) rfl rfl (by kernel_rfl) (by kernel_rfl) (by kernel_rfl) (by kernel_rfl) (fun _ _ _ h => h) (by rfl) (by assumption) ?_ ?_
            rotate_left
            · (intro wS hSw; (try dsimp only at hSw); go_simp; try with_reducible rfl)
            try simp only [Act.put, List.setIfInBounds_toArray, List.set_cons_zero, List.set_cons_succ]
            refine uTake (i := 1) (some 167) (v := ?_) rfl rfl (by kernel_rfl) (by kernel_rfl) (by kernel_rfl) (by kernel_rfl) (fun _ _ _ h => h) (by rfl) (by assumption) ?_ ?_
            rotate_left
            · (intro wS hSw; (try dsimp only at hSw); go_simp; try with_reducible rfl)
            try simp only [Act.put, List.setIfInBounds_toArray, List.set_cons_zero, List.set_cons_succ]
            refine uTake (i := 2) (some 168) (v := ?_) rfl rfl (by kernel_rfl) (by kernel_rfl) (by kernel_rfl) (by kernel_rfl) (fun _ _ _ h => h) (by rfl) (by assumption) ?_ ?_
            rotate_left
            · (intro wS hSw; (try dsimp only at hSw); go_simp; try with_reducible rfl)
            try simp only [Act.put, List.setIfInBounds_toArray, List.set_cons_zero, List.set_cons_succ]
            refine uTake (i := 3) (some 169) (v := ?_) rfl rfl (by kernel_rfl) (by kernel_rfl) (by kernel_rfl) (by kernel_rfl) (fun _ _ _ h => h) (by rfl) (by assumption) ?_ ?_
            rotate_left
            · (intro wS hSw; (try dsimp only at hSw); go_simp; try with_reducible rfl)
            try simp only [Act.put, List.setIfInBounds_toArray, List.set_cons_zero, List.set_cons_succ]
            refine uTake (i := 4) (some 170) (v := ?_) rfl rfl (by kernel_rfl) (by kernel_rfl) (by kernel_rfl) (by kernel_rfl) (fun _ _ _ h => h) (by rfl) (by assumption) ?_ ?_
            rotate_left
            · (intro wS hSw; (try dsimp only at hSw); go_simp; try with_reducible rfl)
            try simp only [Act.put, List.setIfInBounds_toArray, List.set_cons_zero, List.set_cons_succ]
            refine uTake (i := 5) (some 171) (v := ?_) rfl rfl (by kernel_rfl) (by kernel_rfl) (by kernel_rfl) (by kernel_rfl) (fun _ _ _ h => h) (by rfl) (by assumption) ?_ ?_
            rotate_left
            · (intro wS hSw; (try dsimp only at hSw); go_simp; try with_reducible rfl)
            try simp only [Act.put, List.setIfInBounds_toArray, List.set_cons_zero, List.set_cons_succ]
            refine uTake (i := 6) (some 172) (v := ?_) rfl rfl (by kernel_rfl) (by kernel_rfl) (by kernel_rfl) (by kernel_rfl) (fun _ _ _ h => h) (by rfl) (by assumption) ?_ ?_
            rotate_left
            · (intro wS hSw; (try dsimp only at hSw); go_simp; try with_reducible rfl)
            try simp only [Act.put, List.setIfInBounds_toArray, List.set_cons_zero, List.set_cons_succ]
            refine uTake (i := 7) (some 173) (v := ?_) rfl rfl (by kernel_rfl) (by kernel_rfl) (by kernel_rfl) (by kernel_rfl) (fun _ _ _ h => h) (by rfl) (by assumption) ?_ ?_
            rotate_left
            · (intro wS hSw; (try dsimp only at hSw); go_simp; try with_reducible rfl)
            try simp only [Act.put, List.setIfInBounds_toArray, List.set_cons_zero, List.set_cons_succ]
            refine uTake (i := 8) (some 174) (v := ?_) rfl rfl (by kernel_rfl) (by kernel_rfl) (by kernel_rfl) (by kernel_rfl) (fun _ _ _ h => h) (by rfl) (by assumption) ?_ ?_
            rotate_left
            · (intro wS hSw; (try dsimp only at hSw); go_simp; try with_reducible rfl)
            try simp only [Act.put, List.setIfInBounds_toArray, List.set_cons_zero, List.set_cons_succ]
            refine uTake (i := 9) (some 175) (v := ?_) rfl rfl (by kernel_rfl) (by kernel_rfl) (by kernel_rfl) (by kernel_rfl) (fun _ _ _ h => h) (by rfl) (by assumption) ?_ ?_
            rotate_left
            · (intro wS hSw; (try dsimp only at hSw); go_simp; try with_reducible rfl)
            try simp only [Act.put, List.setIfInBounds_toArray, List.set_cons_zero, List.set_cons_succ]
            refine uTake (i := 10) (some 176) (v := ?_) rfl rfl (by kernel_rfl) (by kernel_rfl) (by kernel_rfl) (by kernel_rfl) (fun _ _ _ h => h) (by rfl) (by assumption) ?_ ?_
            rotate_left
            · (intro wS hSw; (try dsimp only at hSw); go_simp; try with_reducible rfl)
            try simp only [Act.put, List.setIfInBounds_toArray, List.set_cons_zero, List.set_cons_succ]
            refine uTake (i := 11) (some 177) (v := ?_) rfl rfl (by kernel_rfl) (by kernel_rfl) (by kernel_rfl) (by kernel_rfl) (fun _ _ _ h => h) (by rfl) (by assumption) ?_ ?_
            rotate_left
            · (intro wS hSw; (try dsimp only at hSw); go_simp; try with_reducible rfl)
            try simp only [Act.put, List.setIfInBounds_toArray, List.set_cons_zero, List.set_cons_succ]
            refine uTake (i := 12) (some 178) (v := ?_) rfl rfl (by kernel_rfl) (by kernel_rfl) (by kernel_rfl) (by kernel_rfl) (fun _ _ _ h => h) (by rfl) (by assumption) ?_ ?_
            rotate_left
            · (intro wS hSw; (try dsimp only at hSw); go_simp; try with_reducible rfl)
            try simp only [Act.put, List.setIfInBounds_toArray, List.set_cons_zero, List.set_cons_succ]
            refine uTake (i := 13) (some 179) (v := ?_) rfl rfl (by kernel_rfl) (by kernel_rfl) (by kernel_rfl) (by kernel_rfl) (fun _ _ _ h => h) (by rfl) (by assumption) ?_ ?_
            rotate_left
            · (intro wS hSw; (try dsimp only at hSw); go_simp; try with_reducible rfl)
            try simp only [Act.put, List.setIfInBounds_toArray, List.set_cons_zero, List.set_cons_succ]
            refine uTake (i := 14) (some 180) (v := ?_) rfl rfl (by kernel_rfl) (by kernel_rfl) (by kernel_rfl) (by kernel_rfl) (fun _ _ _ h => h) (by rfl) (by assumption) ?_ ?_
            rotate_left
            · (intro wS hSw; (try dsimp only at hSw); go_simp; try with_reducible rfl)
            try simp only [Act.put, List.setIfInBounds_toArray, List.set_cons_zero, List.set_cons_succ]
            refine uTake (i := 15) (some 181) (v := ?_) rfl rfl (by kernel_rfl) (by kernel_rfl) (by kernel_rfl) (by kernel_rfl) (fun _ _ _ h => h) (by rfl) (by assumption) ?_ ?_
            rotate_left
            · (intro wS hSw; (try dsimp only at hSw); go_simp; try with_reducible rfl)
            try simp only [Act.put, List.setIfInBounds_toArray, List.set_cons_zero, List.set_cons_succ]
            refine uTake (i := 16) (some 182) (v := ?_) rfl rfl (by kernel_rfl) (by kernel_rfl) (by kernel_rfl) (by kernel_rfl) (fun _ _ _ h => h) (by rfl) (by assumption) ?_ ?_
            rotate_left
            · (intro wS hSw; (try dsimp only at hSw); go_simp; try with_reducible rfl)
            try simp only [Act.put, List.setIfInBounds_toArray, List.set_cons_zero, List.set_cons_succ]
            refine uTake (i := 17) (some 183) (v := ?_) rfl rfl (by kernel_rfl) (by kernel_rfl) (by kernel_rfl) (by kernel_rfl) (fun _ _ _ h => h) (by rfl) (by assumption) ?_ ?_
            rotate_left
            · (intro wS hSw; (try dsimp only at hSw); go_simp; try with_reducible rfl)
            try simp only [Act.put, List.setIfInBounds_toArray, List.set_cons_zero, List.set_cons_succ]
            refine uTake (i := 18) (some 184) (v := .agg (spc u.sp fa fb).toArray) rfl rfl (by kernel_rfl) (by kernel_rfl) (by kernel_rfl) (by kernel_rfl) (fun _ _ _ h => h) (by rfl) (by assumption) ?_ ?_
            · (intro wS hSw; (try dsimp only at hSw); revert hSw; (try simp only [and_imp]); intros; exact exec_load_b bSpend _ rfl w8.heap.size 2 rfl (spc u.sp fa fb) (spc_len FS.out _ _) (by assumption))
            try simp only [Act.put, List.setIfInBounds_toArray, List.set_cons_zero, List.set_cons_succ]
            refine uTake (i := 19) (some 185) (v := ?_) rfl rfl (by kernel_rfl) (by kernel_rfl) (by kernel_rfl) (by kernel_rfl) (fun _ _ _ h => h) (by rfl) (by assumption) ?_ ?_
            rotate_left
            · (intro wS hSw; (try dsimp only at hSw); go_simp; try with_reducible rfl)
            try simp only [Act.put, List.setIfInBounds_toArray, List.set_cons_zero, List.set_cons_succ]
            refine uTake (i := 20) (some 186) (v := ?_) rfl rfl (by kernel_rfl) (by kernel_rfl) (by kernel_rfl) (by kernel_rfl) (fun _ _ _ h => h) (by rfl) (by assumption) ?_ ?_
            rotate_left
            · (intro wS hSw; (try dsimp only at hSw); go_simp; try with_reducible rfl)
            try simp only [Act.put, List.setIfInBounds_toArray, List.set_cons_zero, List.set_cons_succ]
            refine uTake (i := 21) (some 187) (v := ?_) rfl rfl (by kernel_rfl) (by kernel_rfl) (by kernel_rfl) (by kernel_rfl) (fun _ _ _ h => h) (by rfl) (by assumption) ?_ ?_
            rotate_left
            · (intro wS hSw; (try dsimp only at hSw); go_simp; try with_reducible rfl)
            try simp only [Act.put, List.setIfInBounds_toArray, List.set_cons_zero, List.set_cons_succ]
            refine uTake (i := 22) (some 188) (v := .agg (spc tu (.slice (some ⟨iab, iao, none⟩) tu.lv.length ik) (.slice ic tu.pa.length ij)).toArray) rfl rfl (by kernel_rfl) (by kernel_rfl) (by kernel_rfl) (by kernel_rfl) (fun _ _ _ h => h) (by rfl) (by assumption) ?_ ?_
            · (intro wS hSw; (try dsimp only at hSw); revert hSw; (try simp only [and_imp]); intros; exact exec_load_b bSpend _ rfl zab (zao + kq * 80) rfl (spc tu (.slice (some ⟨iab, iao, none⟩) tu.lv.length ik) (.slice ic tu.pa.length ij)) (spc_len tS.out _ _) (by assumption))
            try simp only [Act.put, List.setIfInBounds_toArray, List.set_cons_zero, List.set_cons_succ]
            refine uReady (rs := [23]) (by kernel_rfl) (by simp) ?_
            refine ReadyU.cons rfl (fun KK hKK => ?_) ReadyU.nil
            go_simp
            refine (same32_c u.sp tu (E18.out.fc 4 rfl) (E18.out.fc 3 rfl) Bu.out Bt.out (r := true) ⟨fun _ => HTU.out.symm, fun _ => rfl⟩).mono ?_
            rintro e w11 ⟨rfl, hb⟩
            have E19 : Hid (EnvX D w ((w8.heap.size, 44, usc u fa fb) :: (wn.heap.size, 70, [.int .i64 p, .int .i64 q]) :: (w4.heap.size + 1, 63, [.map (some w4.heap.size)]) :: (w3.heap.size, 25, [.slice xa X.length xk]) :: (w.heap.size, 61, [.slice (some ⟨zab, zao, none⟩) Z.length zk]) :: sg) [.rw (.slice (some ⟨iab, iao, none⟩) tu.lv.length ik) tu.lv.length 3 (lcl tu.lv), .rw (.slice ic tu.pa.length ij) tu.pa.length 32 tu.pa.flatten, .gn (gRg zab (zao + kq * 80) (spc tu (.slice (some ⟨iab, iao, none⟩) tu.lv.length ik) (.slice ic tu.pa.length ij))), .gn (gSp tu (.slice (some ⟨iab, iao, none⟩) tu.lv.length ik) (.slice ic tu.pa.length ij)), .gn (gSp u.sp fa fb), .gn (gUl (.slice xa X.length xk) X), .gn (gSl (.slice (some ⟨zab, zao, none⟩) Z.length zk) Z)] [w4.heap.size, rb] (QR (w4.heap.size) rb X.length M cnt1) w11) := Lib.hid (E18.out.below hb)
            clear E18 hb
            (try dsimp only)
            clear hHeld
            refine hKK.out _ _ (⟨((E19.out.bx 4 rfl).cell 0 rfl), (by have h := ((E19.out.fc 0 rfl)).triple (k := m) rfl hml; rw [cE.out] at h; exact h.1), (by have h := ((E19.out.fc 0 rfl)).triple (k := m) rfl hml; rw [cE.out] at h; exact h.2.1), (by have h := ((E19.out.fc 0 rfl)).triple (k := m) rfl hml; rw [cE.out] at h; exact h.2.2), (E19.out.bx 1 rfl).cell 0 rfl, (E19.out.bx 1 rfl).cell 1 rfl, ((E19.out.bx 0 rfl).cell 0 rfl), ((E19.out.bx 0 rfl).cell 1 rfl), ((E19.out.bx 0 rfl).range (o := 2) (usc_sp FS.out _ _)), (E19.out.fc 2 rfl).2, ((E19.out.bx 0 rfl).cell 82 (usc_lf FS.out _ _)), (gRg.cell (E19.out.fc 2 rfl) (j := 77) (spc_tail tS.out _ _).1)⟩) (fun hHeld => ?_)
            clear hKK KK
            try simp only [Act.put, List.setIfInBounds_toArray, List.set_cons_zero, List.set_cons_succ]
            refine uTake (i := 24) (some 190) (v := ?_) rfl rfl (by kernel_rfl) (by kernel_rfl) (by kernel_rfl) (by kernel_rfl) (fun _ _ _ h => h) (by rfl) (by assumption) ?_ ?_
            rotate_left
            · (intro wS hSw; (try dsimp only at hSw); go_simp; try with_reducible rfl)
            try simp only [Act.put, List.setIfInBounds_toArray, List.set_cons_zero, List.set_cons_succ]
            refine uTake (i := 25) (some 191) (v := ?_) rfl rfl (by kernel_rfl) (by kernel_rfl) (by kernel_rfl) (by kernel_rfl) (fun _ _ _ h => h) (by rfl) (by assumption) ?_ ?_
            rotate_left
            · (intro wS hSw; (try dsimp only at hSw); go_simp; try with_reducible rfl)
            try simp only [Act.put, List.setIfInBounds_toArray, List.set_cons_zero, List.set_cons_succ]
            refine uTake (i := 26) (some 192) (v := ?_) rfl rfl (by kernel_rfl) (by kernel_rfl) (by kernel_rfl) (by kernel_rfl) (fun _ _ _ h => h) (by rfl) (by assumption) ?_ ?_
            rotate_left
            · (intro wS hSw; (try dsimp only at hSw); go_simp; try with_reducible rfl)
            try simp only [Act.put, List.setIfInBounds_toArray, List.set_cons_zero, List.set_cons_succ]
            refine uTake (i := 27) (some 193) (v := ?_) rfl rfl (by kernel_rfl) (by kernel_rfl) (by kernel_rfl) (by kernel_rfl) (fun _ _ _ h => h) (by rfl) (by assumption) ?_ ?_
            rotate_left
            · (intro wS hSw; (try dsimp only at hSw); go_simp; try with_reducible rfl)
            try simp only [Act.put, List.setIfInBounds_toArray, List.set_cons_zero, List.set_cons_succ]
            refine uTake (i := 28) (some 194) (v := ?_) rfl rfl (by kernel_rfl) (by kernel_rfl) (by kernel_rfl) (by kernel_rfl) (fun _ _ _ h => h) (by rfl) (by assumption) ?_ ?_
            rotate_left
            · (intro wS hSw; (try dsimp only at hSw); go_simp; try with_reducible rfl)
            try simp only [Act.put, List.setIfInBounds_toArray, List.set_cons_zero, List.set_cons_succ]
            refine uTake (i := 29) (some 195) (v := ?_) rfl rfl (by kernel_rfl) (by kernel_rfl) (by kernel_rfl) (by kernel_rfl) (fun _ _ _ h => h) (by rfl) (by assumption) ?_ ?_
            rotate_left
            · (intro wS hSw; (try dsimp only at hSw); go_simp; try with_reducible rfl)
            try simp only [Act.put, List.setIfInBounds_toArray, List.set_cons_zero, List.set_cons_succ]
            refine uTake (i := 30) (some 196) (v := ?_) rfl rfl (by kernel_rfl) (by kernel_rfl) (by kernel_rfl) (by kernel_rfl) (fun _ _ _ h => h) (by rfl) (by assumption) ?_ ?_
            rotate_left
            · (intro wS hSw; (try dsimp only at hSw); go_simp; try with_reducible rfl)
            try simp only [Act.put, List.setIfInBounds_toArray, List.set_cons_zero, List.set_cons_succ]
            refine uTake (i := 31) (some 197) (v := ?_) rfl rfl (by kernel_rfl) (by kernel_rfl) (by kernel_rfl) (by kernel_rfl) (fun _ _ _ h => h) (by rfl) (by assumption) ?_ ?_
            rotate_left
            · (intro wS hSw; (try dsimp only at hSw); go_simp; try with_reducible rfl)
            try simp only [Act.put, List.setIfInBounds_toArray, List.set_cons_zero, List.set_cons_succ]
            refine uTake (i := 32) (some 198) (v := ?_) rfl rfl (by kernel_rfl) (by kernel_rfl) (by kernel_rfl) (by kernel_rfl) (fun _ _ _ h => h) (by rfl) (by assumption) ?_ ?_
            rotate_left
            · (intro wS hSw; (try dsimp only at hSw); go_simp; try with_reducible rfl)
            try simp only [Act.put, List.setIfInBounds_toArray, List.set_cons_zero, List.set_cons_succ]
            refine uTake (i := 33) (some 199) (v := ?_) rfl rfl (by kernel_rfl) (by kernel_rfl) (by kernel_rfl) (by kernel_rfl) (fun _ _ _ h => h) (by rfl) (by assumption) ?_ ?_
            rotate_left
            · (intro wS hSw; (try dsimp only at hSw); go_simp; try with_reducible rfl)
            try simp only [Act.put, List.setIfInBounds_toArray, List.set_cons_zero, List.set_cons_succ]
            refine uTake (i := 34) (some 200) (v := ?_) rfl rfl (by kernel_rfl) (by kernel_rfl) (by kernel_rfl) (by kernel_rfl) (fun _ _ _ h => h) (by rfl) (by assumption) ?_ ?_
            rotate_left
            · (intro wS hSw; (try dsimp only at hSw); go_simp; try with_reducible rfl)
            try simp only [Act.put, List.setIfInBounds_toArray, List.set_cons_zero, List.set_cons_succ]
            refine uTake (i := 35) (some 201) (v := ?_) rfl rfl (by kernel_rfl) (by kernel_rfl) (by kernel_rfl) (by kernel_rfl) (fun _ _ _ h => h) (by rfl) (by assumption) ?_ ?_
            rotate_left
            · (intro wS hSw; (try dsimp only at hSw); go_simp; try with_reducible rfl)
            try simp only [Act.put, List.setIfInBounds_toArray, List.set_cons_zero, List.set_cons_succ]
            refine uTake (i := 36) (some 202) (v := ?_) rfl rfl (by kernel_rfl) (by kernel_rfl) (by kernel_rfl) (by kernel_rfl) (fun _ _ _ h => h) (by rfl) (by assumption) ?_ ?_
            rotate_left
            · (intro wS hSw; (try dsimp only at hSw); go_simp; try with_reducible rfl)
            try simp only [Act.put, List.setIfInBounds_toArray, List.set_cons_zero, List.set_cons_succ]
            refine uTake (i := 37) (some 203) (v := ?_) rfl rfl (by kernel_rfl) (by kernel_rfl) (by kernel_rfl) (by kernel_rfl) (fun _ _ _ h => h) (by rfl) (by assumption) ?_ ?_
            rotate_left
            · (intro wS hSw; (try dsimp only at hSw); go_simp; try with_reducible rfl)
            try simp only [Act.put, List.setIfInBounds_toArray, List.set_cons_zero, List.set_cons_succ]
            refine uTake (i := 38) (some 204) (v := ?_) rfl rfl (by kernel_rfl) (by kernel_rfl) (by kernel_rfl) (by kernel_rfl) (fun _ _ _ h => h) (by rfl) (by assumption) ?_ ?_
            rotate_left
            · (intro wS hSw; (try dsimp only at hSw); go_simp; try with_reducible rfl)
            try simp only [Act.put, List.setIfInBounds_toArray, List.set_cons_zero, List.set_cons_succ]
            refine uTake (i := 39) (some 205) (v := ?_) rfl rfl (by kernel_rfl) (by kernel_rfl) (by kernel_rfl) (by kernel_rfl) (fun _ _ _ h => h) (by rfl) (by assumption) ?_ ?_
            rotate_left
            · (intro wS hSw; (try dsimp only at hSw); go_simp; try with_reducible rfl)
            try simp only [Act.put, List.setIfInBounds_toArray, List.set_cons_zero, List.set_cons_succ]
            refine uTake (i := 40) (some 206) (v := ?_) rfl rfl (by kernel_rfl) (by kernel_rfl) (by kernel_rfl) (by kernel_rfl) (fun _ _ _ h => h) (by rfl) (by assumption) ?_ ?_
            rotate_left
            · (intro wS hSw; (try dsimp only at hSw); go_simp; try with_reducible rfl)
            try simp only [Act.put, List.setIfInBounds_toArray, List.set_cons_zero, List.set_cons_succ]
            refine uTake (i := 41) (some 207) (v := ?_) rfl rfl (by kernel_rfl) (by kernel_rfl) (by kernel_rfl) (by kernel_rfl) (fun _ _ _ h => h) (by rfl) (by assumption) ?_ ?_
            rotate_left
            · (intro wS hSw; (try dsimp only at hSw); go_simp; try with_reducible rfl)
            try simp only [Act.put, List.setIfInBounds_toArray, List.set_cons_zero, List.set_cons_succ]
            refine uTake (i := 42) (some 208) (v := ?_) rfl rfl (by kernel_rfl) (by kernel_rfl) (by kernel_rfl) (by kernel_rfl) (fun _ _ _ h => h) (by rfl) (by assumption) ?_ ?_
            rotate_left
            · (intro wS hSw; (try dsimp only at hSw); go_simp; try with_reducible rfl)
            try simp only [Act.put, List.setIfInBounds_toArray, List.set_cons_zero, List.set_cons_succ]
            refine uTake (i := 43) (some 209) (v := ?_) rfl rfl (by kernel_rfl) (by kernel_rfl) (by kernel_rfl) (by kernel_rfl) (fun _ _ _ h => h) (by rfl) (by assumption) ?_ ?_
            rotate_left
            · (intro wS hSw; (try dsimp only at hSw); go_simp; try with_reducible rfl)
            try simp only [Act.put, List.setIfInBounds_toArray, List.set_cons_zero, List.set_cons_succ]
            refine uTake (i := 44) (some 210) (v := ?_) rfl rfl (by kernel_rfl) (by kernel_rfl) (by kernel_rfl) (by kernel_rfl) (fun _ _ _ h => h) (by rfl) (by assumption) ?_ ?_
            rotate_left
            · (intro wS hSw; (try dsimp only at hSw); go_simp; try with_reducible rfl)
            try simp only [Act.put, List.setIfInBounds_toArray, List.set_cons_zero, List.set_cons_succ]
            refine uTake (i := 45) (some 211) (v := ?_) rfl rfl (by kernel_rfl) (by kernel_rfl) (by kernel_rfl) (by kernel_rfl) (fun _ _ _ h => h) (by rfl) (by assumption) ?_ ?_
            rotate_left
            · (intro wS hSw; (try dsimp only at hSw); go_simp; try with_reducible rfl)
            try simp only [Act.put, List.setIfInBounds_toArray, List.set_cons_zero, List.set_cons_succ]
            refine uTake (i := 46) (some 212) (v := ?_) rfl rfl (by kernel_rfl) (by kernel_rfl) (by kernel_rfl) (by kernel_rfl) (fun _ _ _ h => h) (by rfl) (by assumption) ?_ ?_
            rotate_left
            · (intro wS hSw; (try dsimp only at hSw); go_simp; try with_reducible rfl)
            try simp only [Act.put, List.setIfInBounds_toArray, List.set_cons_zero, List.set_cons_succ]
            refine uTake (i := 47) (some 213) (v := ?_) rfl rfl (by kernel_rfl) (by kernel_rfl) (by kernel_rfl) (by kernel_rfl) (fun _ _ _ h => h) (by rfl) (by assumption) ?_ ?_
            rotate_left
            · (intro wS hSw; (try dsimp only at hSw); go_simp; try with_reducible rfl)
            try simp only [Act.put, List.setIfInBounds_toArray, List.set_cons_zero, List.set_cons_succ]
            refine uTake (i := 48) (some 214) (v := ?_) rfl rfl (by kernel_rfl) (by kernel_rfl) (by kernel_rfl) (by kernel_rfl) (fun _ _ _ h => h) (by rfl) (by assumption) ?_ ?_
            rotate_left
            · (intro wS hSw; (try dsimp only at hSw); go_simp; try with_reducible rfl)
            try simp only [Act.put, List.setIfInBounds_toArray, List.set_cons_zero, List.set_cons_succ]
            refine uTake (i := 49) (some 215) (v := ?_) rfl rfl (by kernel_rfl) (by kernel_rfl) (by kernel_rfl) (by kernel_rfl) (fun _ _ _ h => h) (by rfl) (by assumption) ?_ ?_
            rotate_left
            · (intro wS hSw; (try dsimp only at hSw); go_simp; try with_reducible rfl)
            try simp only [Act.put, List.setIfInBounds_toArray, List.set_cons_zero, List.set_cons_succ]
            refine uTake (i := 50) (some 216) (v := .pointer (some ⟨iab, iao + m * 3, none⟩)) rfl rfl (by kernel_rfl) (by kernel_rfl) (by kernel_rfl) (by kernel_rfl) (fun _ _ _ h => h) (by rfl) (by assumption) ?_ ?_
            · (intro wS hSw; (try dsimp only at hSw); go_simp; rw [if_pos HMB.out, HTN.out])
            try simp only [Act.put, List.setIfInBounds_toArray, List.set_cons_zero, List.set_cons_succ]
            refine uTake (i := 51) (some 217) (v := ?_) rfl rfl (by kernel_rfl) (by kernel_rfl) (by kernel_rfl) (by kernel_rfl) (fun _ _ _ h => h) (by rfl) (by assumption) ?_ ?_
            rotate_left
            · (intro wS hSw; (try dsimp only at hSw); go_simp; try with_reducible rfl)
            try simp only [Act.put, List.setIfInBounds_toArray, List.set_cons_zero, List.set_cons_succ]
            refine uTake (i := 52) (some 218) (v := ?_) rfl rfl (by kernel_rfl) (by kernel_rfl) (by kernel_rfl) (by kernel_rfl) (fun _ _ _ h => h) (by rfl) (by assumption) ?_ ?_
            rotate_left
            · (intro wS hSw; (try dsimp only at hSw); go_simp; try with_reducible rfl)
            try simp only [Act.put, List.setIfInBounds_toArray, List.set_cons_zero, List.set_cons_succ]
            refine uTake (i := 53) (some 219) (v := ?_) rfl rfl (by kernel_rfl) (by kernel_rfl) (by kernel_rfl) (by kernel_rfl) (fun _ _ _ h => h) (by rfl) (by assumption) ?_ ?_
            rotate_left
            · (intro wS hSw; (try dsimp only at hSw); go_simp; try with_reducible rfl)
            try simp only [Act.put, List.setIfInBounds_toArray, List.set_cons_zero, List.set_cons_succ]
            refine uTake (i := 54) (some 220) (v := ?_) rfl rfl (by kernel_rfl) (by kernel_rfl) (by kernel_rfl) (by kernel_rfl) (fun _ _ _ h => h) (by rfl) (by assumption) ?_ ?_
            rotate_left
            · (intro wS hSw; (try dsimp only at hSw); go_simp; try with_reducible rfl)
            try simp only [Act.put, List.setIfInBounds_toArray, List.set_cons_zero, List.set_cons_succ]
            refine uTake (i := 55) (some 221) (v := ?_) rfl rfl (by kernel_rfl) (by kernel_rfl) (by kernel_rfl) (by kernel_rfl) (fun _ _ _ h => h) (by rfl) (by assumption) ?_ ?_
            rotate_left
            · (intro wS hSw; (try dsimp only at hSw); go_simp; try with_reducible rfl)
            try simp only [Act.put, List.setIfInBounds_toArray, List.set_cons_zero, List.set_cons_succ]
            refine uTake (i := 56) (some 222) (v := ?_) rfl rfl (by kernel_rfl) (by kernel_rfl) (by kernel_rfl) (by kernel_rfl) (fun _ _ _ h => h) (by rfl) (by assumption) ?_ ?_
            rotate_left
            · (intro wS hSw; (try dsimp only at hSw); go_simp; try with_reducible rfl)
            try simp only [Act.put, List.setIfInBounds_toArray, List.set_cons_zero, List.set_cons_succ]
            refine uDone (by kernel_rfl) ?_ _
            have EZ := Lib.hid (((((((E19.out.drop).drop).forget).forget).forget).forget).forget)
            go_wp2_with (first | (with_reducible refine wpl_alloc_b ?_ ?_ _ zvUse ?_; (· rfl); (· rfl)))
            go_roundg (cnt1)
            case rel => exact ⟨cnt1, _, rfl, EZ, Lib.hid rfl⟩
            case measure => exact by rw [hgk]; exact hlt
      have hk : k < Z.length := lt_of hy a1
      have t6 : decide ((k : Int) < (Z.length : Int)) = true := decide_eq_true (by omega)
      have t7 : decide (k < Z.length) = true := decide_eq_true (by omega)
      have hkI : (k : Int) < (Z.length : Int) := by omega
      clear hy
      go_upto_region 10 with (fail)
      obtain ⟨zab, zao, rfl⟩ := gSl.addr (EL.out.fc 1 rfl) (List.ne_nil_of_length_pos (Nat.lt_of_le_of_lt (Nat.zero_le _) hk))
      obtain ⟨⟨su, sp, sq⟩, se⟩ : ∃ x, Z[k] = x := ⟨_, rfl⟩
      have sE := Lib.hid se
      clear se
      have E9 : Hid (EnvX D w ((w4.heap.size + 1, 63, [.map (some w4.heap.size)]) :: (w3.heap.size, 25, [.slice xa X.length xk]) :: (w.heap.size, 61, [.slice (some ⟨zab, zao, none⟩) Z.length zk]) :: sg) [.gn (gRg zab (zao + k * 80) (spc su sp sq)), .gn (gSp su sp sq), .gn (gUl (.slice xa X.length xk) X), .gn (gSl (.slice (some ⟨zab, zao, none⟩) Z.length zk) Z)] [w4.heap.size] (QM w4.heap.size X.length M) _) := Lib.hid (EL.out.elV 1 rfl hk sE.out)
      clear EL
      have sS := Lib.hid (E9.out.spOk 1 rfl)
      have sN : Hid (∀ v ∈ spc su sp sq, v.oneCell' = true) := Lib.hid (gSp.one (E9.out.fc 1 rfl))
      have HNS : Hid (su.lv.length ≤ 40 ∧ su.pa.length ≤ 30) := Lib.hid (HNL.out su (List.mem_of_getElem? (smap_get hk sE.out)))
      have Bs : Hid (su.lv.length ≤ 1000000 ∧ su.pa.length ≤ 1000000) := Lib.hid (by have h := HNS.out; omega)
      have HLW : Hid (LvW su) := Lib.hid (hlw.out _ (List.mem_of_getElem (h := hk) sE.out))
      have HSK : Hid ((Z.map Sv.s)[k]? = some su) := Lib.hid (smap_get hk sE.out)
      obtain ⟨ya, yk, yc, yj, rfl, rfl, E100⟩ := E9.out.elS 1 rfl
      have E10 : Hid (EnvX D w ((w4.heap.size + 1, 63, [.map (some w4.heap.size)]) :: (w3.heap.size, 25, [.slice xa X.length xk]) :: (w.heap.size, 61, [.slice (some ⟨zab, zao, none⟩) Z.length zk]) :: sg) [.rw (.slice ya su.lv.length yk) su.lv.length 3 (lcl su.lv), .rw (.slice yc su.pa.length yj) su.pa.length 32 su.pa.flatten, .gn (gRg zab (zao + k * 80) (spc su (.slice ya su.lv.length yk) (.slice yc su.pa.length yj))), .gn (gSp su (.slice ya su.lv.length yk) (.slice yc su.pa.length yj)), .gn (gUl (.slice xa X.length xk) X), .gn (gSl (.slice (some ⟨zab, zao, none⟩) Z.length zk) Z)] [w4.heap.size] (QM w4.heap.size X.length M) _) := Lib.hid E100
      clear E100 E9
      have r3 := Lib.hid (E10.out.fc 2 rfl).2
      have E11 : Hid (EnvX D w ((wo.heap.size, 41, spc zS nilV nilV) :: (w4.heap.size + 1, 63, [.map (some w4.heap.size)]) :: (w3.heap.size, 25, [.slice xa X.length xk]) :: (w.heap.size, 61, [.slice (some ⟨zab, zao, none⟩) Z.length zk]) :: sg) [.rw (.slice ya su.lv.length yk) su.lv.length 3 (lcl su.lv), .rw (.slice yc su.pa.length yj) su.pa.length 32 su.pa.flatten, .gn (gRg zab (zao + k * 80) (spc su (.slice ya su.lv.length yk) (.slice yc su.pa.length yj))), .gn (gSp su (.slice ya su.lv.length yk) (.slice yc su.pa.length yj)), .gn (gUl (.slice xa X.length xk) X), .gn (gSl (.slice (some ⟨zab, zao, none⟩) Z.length zk) Z)] [w4.heap.size] (QM w4.heap.size X.length M) _) := Lib.hid ((E10.out.push 41 (spc zS nilV nilV) (wo.heap.size) (by simp)))
      have b4 := Lib.hid (E11.out.bx 0 rfl)
      obtain ⟨pR, pD, pn, pr⟩ : ∃ L C n, putRes (X.map Uv.u) su = (L, C, n) := ⟨_, _, _, rfl⟩
      have pQ := Lib.hid pr
      clear pr
      have E12 : Hid (EnvX D w ((wo.heap.size, 41, spc su (.slice ya su.lv.length yk) (.slice yc su.pa.length yj)) :: (w4.heap.size + 1, 63, [.map (some w4.heap.size)]) :: (w3.heap.size, 25, [.slice xa X.length xk]) :: (w.heap.size, 61, [.slice (some ⟨zab, zao, none⟩) Z.length zk]) :: sg) [.rw (.slice ya su.lv.length yk) su.lv.length 3 (lcl su.lv), .rw (.slice yc su.pa.length yj) su.pa.length 32 su.pa.flatten, .gn (gRg zab (zao + k * 80) (spc su (.slice ya su.lv.length yk) (.slice yc su.pa.length yj))), .gn (gSp su (.slice ya su.lv.length yk) (.slice yc su.pa.length yj)), .gn (gUl (.slice xa X.length xk) X), .gn (gSl (.slice (some ⟨zab, zao, none⟩) Z.length zk) Z)] [w4.heap.size] (QM w4.heap.size X.length M) _) := Lib.hid ((E11.out.whole 0 (spc su (.slice ya su.lv.length yk) (.slice yc su.pa.length yj)) rfl ((spc_len sS.out _ _).trans (spc_len zS_ok _ _).symm)))
      have b5 := E12.out.bx 2 rfl
      have c5_0 := b5.cell 0 rfl
      clear b5
      have b6 := E12.out.bx 0 rfl
      have r6 := Lib.hid (b6.range (o := 0) (fun j hj => by rw [Nat.zero_add]))
      clear b6
      go_wp2_with (first | (with_reducible refine wpl_load_b bSpend zab (zao + k * 80) ?_ ?_ (spc su (.slice ya su.lv.length yk) (.slice yc su.pa.length yj)) (spc_len sS.out _ _) r3.out ?_; (· exact ⟨_, rfl, rfl⟩); (· kernel_rfl)) | (with_reducible refine wpl_alloc_b ?_ ?_ _ zvSpend ?_; (· rfl); (· rfl)) | (with_reducible refine wpl_store_b bSpend wo.heap.size 0 (spc su (.slice ya su.lv.length yk) (.slice yc su.pa.length yj)) ?_ ?_ (spc_len sS.out _ _) (Box.there b4.out (Nat.le_of_eq (spc_len zS_ok _ _).symm)) sN.out ?_; (· first | exact ⟨_, _, rfl, rfl, rfl⟩ | (refine ⟨_, _, rfl, ?_, ?_⟩ <;> simp [Act.eval, Act.put])); (· kernel_rfl)) | (with_reducible refine wpl_load_b bSpend wo.heap.size 0 ?_ ?_ (spc su (.slice ya su.lv.length yk) (.slice yc su.pa.length yj)) (spc_len sS.out _ _) r6.out ?_; (· exact ⟨_, rfl, rfl⟩); (· kernel_rfl)))
      refine (put_t X su (E12.out.fc 4 rfl) (E12.out.fc 3 rfl) (valid_bd HVX.out) Bs.out (Nat.le_trans (valid_len HVX.out) (by omega)) pQ.out).mono ?_
      rintro e w5 ⟨⟨pa, pk, pX, pc, pj, pY, rfl, p1, p2, pH, pI⟩, hb⟩
      have E13 : Hid (EnvX D w ((wo.heap.size, 41, spc su (.slice ya su.lv.length yk) (.slice yc su.pa.length yj)) :: (w4.heap.size + 1, 63, [.map (some w4.heap.size)]) :: (w3.heap.size, 25, [.slice xa X.length xk]) :: (w.heap.size, 61, [.slice (some ⟨zab, zao, none⟩) Z.length zk]) :: sg) [.gn (gUl (.slice pc pY.length pj) pY), .gn (gUl (.slice pa pX.length pk) pX), .rw (.slice ya su.lv.length yk) su.lv.length 3 (lcl su.lv), .rw (.slice yc su.pa.length yj) su.pa.length 32 su.pa.flatten, .gn (gRg zab (zao + k * 80) (spc su (.slice ya su.lv.length yk) (.slice yc su.pa.length yj))), .gn (gSp su (.slice ya su.lv.length yk) (.slice yc su.pa.length yj)), .gn (gUl (.slice xa X.length xk) X), .gn (gSl (.slice (some ⟨zab, zao, none⟩) Z.length zk) Z)] [w4.heap.size] (QM w4.heap.size X.length M) w5) := Lib.hid (E12.out.got (E12.out.got (E12.out.below hb) (.gn (gUl (.slice pa pX.length pk) pX)) pH.out) (.gn (gUl (.slice pc pY.length pj) pY)) pI.out)
      clear r3 b4 c5_0 r6 E10 E11 E12 hb pH pI
      have pL := Lib.hid p1; have pC := Lib.hid p2; clear p1 p2
      have HK20 : Hid (k ≤ 20) := Lib.hid (by omega)
      obtain ⟨st, sth⟩ : ∃ b : Bool, b = true ↔ StOk su := by by_cases h : StOk su; (· exact ⟨true, ⟨fun _ => h, fun _ => rfl⟩⟩); exact ⟨false, ⟨fun h2 => Bool.noConfusion h2, fun h2 => absurd h2 h⟩⟩
      have stH := Lib.hid sth
      clear sth
      cases st with
      | false =>
        have HNS2 : Hid (¬ StOk su) := Lib.hid (by simpa using stH.out)
        have hpn : pn = 1 := by have h := putRes_bad (L := X.map Uv.u) (s := su) (.inr HNS2.out); rw [pQ.out] at h; exact (Prod.mk.inj (Prod.mk.inj h).2).2
        subst hpn
        have HI2 := Lib.hid (HI.out.skip HSK.out HK20.out (putS_no pQ.out (by decide)))
        have E14 : Hid (EnvX D w ((w5.heap.size, 25, [.slice pa pX.length pk]) :: (wo.heap.size, 41, spc su (.slice ya su.lv.length yk) (.slice yc su.pa.length yj)) :: (w4.heap.size + 1, 63, [.map (some w4.heap.size)]) :: (w3.heap.size, 25, [.slice xa X.length xk]) :: (w.heap.size, 61, [.slice (some ⟨zab, zao, none⟩) Z.length zk]) :: sg) [.gn (gUl (.slice pc pY.length pj) pY), .gn (gUl (.slice pa pX.length pk) pX), .rw (.slice ya su.lv.length yk) su.lv.length 3 (lcl su.lv), .rw (.slice yc su.pa.length yj) su.pa.length 32 su.pa.flatten, .gn (gRg zab (zao + k * 80) (spc su (.slice ya su.lv.length yk) (.slice yc su.pa.length yj))), .gn (gSp su (.slice ya su.lv.length yk) (.slice yc su.pa.length yj)), .gn (gUl (.slice xa X.length xk) X), .gn (gSl (.slice (some ⟨zab, zao, none⟩) Z.length zk) Z)] [w4.heap.size] (QM w4.heap.size X.length M) _) := Lib.hid ((E13.out.push 25 [.slice pa pX.length pk] (w5.heap.size) (by simp)))
        have b7 := E14.out.bx 1 rfl
        have r7 := Lib.hid (b7.range (o := 0) (fun j hj => by rw [Nat.zero_add]))
        clear b7
        go_wp2_with (first | (with_reducible refine wpl_alloc_b ?_ ?_ _ zvSpend ?_; (· rfl); (· rfl)) | (with_reducible refine wpl_load_b bSpend wo.heap.size 0 ?_ ?_ (spc su (.slice ya su.lv.length yk) (.slice yc su.pa.length yj)) (spc_len sS.out _ _) r7.out ?_; (· exact ⟨_, rfl, rfl⟩); (· kernel_rfl)))
        refine (rstorable_c su (E14.out.fc 5 rfl) Bs.out (t := false) (by first | exact stH.out | simpa using stH.out)).mono ?_
        rintro e w6 ⟨rfl, hb⟩
        have E15 : Hid (EnvX D w ((w5.heap.size, 25, [.slice pa pX.length pk]) :: (wo.heap.size, 41, spc su (.slice ya su.lv.length yk) (.slice yc su.pa.length yj)) :: (w4.heap.size + 1, 63, [.map (some w4.heap.size)]) :: (w3.heap.size, 25, [.slice xa X.length xk]) :: (w.heap.size, 61, [.slice (some ⟨zab, zao, none⟩) Z.length zk]) :: sg) [.gn (gUl (.slice pc pY.length pj) pY), .gn (gUl (.slice pa pX.length pk) pX), .rw (.slice ya su.lv.length yk) su.lv.length 3 (lcl su.lv), .rw (.slice yc su.pa.length yj) su.pa.length 32 su.pa.flatten, .gn (gRg zab (zao + k * 80) (spc su (.slice ya su.lv.length yk) (.slice yc su.pa.length yj))), .gn (gSp su (.slice ya su.lv.length yk) (.slice yc su.pa.length yj)), .gn (gUl (.slice xa X.length xk) X), .gn (gSl (.slice (some ⟨zab, zao, none⟩) Z.length zk) Z)] [w4.heap.size] (QM w4.heap.size X.length M) w6) := Lib.hid (E14.out.below hb)
        clear r7 E13 E14 hb
        have hZ := ((E15.out.drop).drop)
        have EY : Hid (EnvX D w ((w4.heap.size + 1, 63, [.map (some w4.heap.size)]) :: (w3.heap.size, 25, [.slice xa X.length xk]) :: (w.heap.size, 61, [.slice (some ⟨zab, zao, none⟩) Z.length zk]) :: sg) [.gn (gUl (.slice xa X.length xk) X), .gn (gSl (.slice (some ⟨zab, zao, none⟩) Z.length zk) Z)] [w4.heap.size] (QM w4.heap.size X.length M) _) := Lib.hid (hZ.facts ⟨hZ.fc 6 rfl, ⟨hZ.fc 7 rfl, trivial⟩⟩)
        clear hZ
        go_wp2_with (first | (with_reducible refine wpl_alloc_b ?_ ?_ _ zvSpend ?_; (· rfl); (· rfl)))
        go_roundg (Z.length - (k + 1))
        case rel => exact ⟨k + 1, xa, xk, X, M, sg, cs, va, vk, l, rfl, rfl, EY, hO, Lib.hid ⟨by omega, rfl, HI2.out, Nat.le_succ_of_le HLK.out⟩⟩
        case measure => exact by omega
      | true =>
        have HST : Hid (StOk su) := Lib.hid (stH.out.1 (by simp))
        have E14 : Hid (EnvX D w ((w5.heap.size, 25, [.slice pa pX.length pk]) :: (wo.heap.size, 41, spc su (.slice ya su.lv.length yk) (.slice yc su.pa.length yj)) :: (w4.heap.size + 1, 63, [.map (some w4.heap.size)]) :: (w3.heap.size, 25, [.slice xa X.length xk]) :: (w.heap.size, 61, [.slice (some ⟨zab, zao, none⟩) Z.length zk]) :: sg) [.gn (gUl (.slice pc pY.length pj) pY), .gn (gUl (.slice pa pX.length pk) pX), .rw (.slice ya su.lv.length yk) su.lv.length 3 (lcl su.lv), .rw (.slice yc su.pa.length yj) su.pa.length 32 su.pa.flatten, .gn (gRg zab (zao + k * 80) (spc su (.slice ya su.lv.length yk) (.slice yc su.pa.length yj))), .gn (gSp su (.slice ya su.lv.length yk) (.slice yc su.pa.length yj)), .gn (gUl (.slice xa X.length xk) X), .gn (gSl (.slice (some ⟨zab, zao, none⟩) Z.length zk) Z)] [w4.heap.size] (QM w4.heap.size X.length M) _) := Lib.hid ((E13.out.push 25 [.slice pa pX.length pk] (w5.heap.size) (by simp)))
        have b7 := E14.out.bx 1 rfl
        have r7 := Lib.hid (b7.range (o := 0) (fun j hj => by rw [Nat.zero_add]))
        clear b7
        go_wp2_with (first | (with_reducible refine wpl_alloc_b ?_ ?_ _ zvSpend ?_; (· rfl); (· rfl)) | (with_reducible refine wpl_load_b bSpend wo.heap.size 0 ?_ ?_ (spc su (.slice ya su.lv.length yk) (.slice yc su.pa.length yj)) (spc_len sS.out _ _) r7.out ?_; (· exact ⟨_, rfl, rfl⟩); (· kernel_rfl)))
        refine (rstorable_c su (E14.out.fc 5 rfl) Bs.out (t := true) (by first | exact stH.out | simpa using stH.out)).mono ?_
        rintro e w6 ⟨rfl, hb⟩
        have E15 : Hid (EnvX D w ((w5.heap.size, 25, [.slice pa pX.length pk]) :: (wo.heap.size, 41, spc su (.slice ya su.lv.length yk) (.slice yc su.pa.length yj)) :: (w4.heap.size + 1, 63, [.map (some w4.heap.size)]) :: (w3.heap.size, 25, [.slice xa X.length xk]) :: (w.heap.size, 61, [.slice (some ⟨zab, zao, none⟩) Z.length zk]) :: sg) [.gn (gUl (.slice pc pY.length pj) pY), .gn (gUl (.slice pa pX.length pk) pX), .rw (.slice ya su.lv.length yk) su.lv.length 3 (lcl su.lv), .rw (.slice yc su.pa.length yj) su.pa.length 32 su.pa.flatten, .gn (gRg zab (zao + k * 80) (spc su (.slice ya su.lv.length yk) (.slice yc su.pa.length yj))), .gn (gSp su (.slice ya su.lv.length yk) (.slice yc su.pa.length yj)), .gn (gUl (.slice xa X.length xk) X), .gn (gSl (.slice (some ⟨zab, zao, none⟩) Z.length zk) Z)] [w4.heap.size] (QM w4.heap.size X.length M) w6) := Lib.hid (E14.out.below hb)
        clear r7 E13 E14 hb
        obtain ⟨sm, smh⟩ : ∃ t, l.any (fun x => sameK (Z.map Sv.s) M su x) = t := ⟨_, rfl⟩
        have HSM := Lib.hid smh
        clear smh
        have HL9 : Hid (l.length ≤ 1000000) := Lib.hid (by have := HLK.out; have := HK20.out; omega)
        have HIB : Hid (∀ x ∈ l, InB Z.length x) := Lib.hid (by have h := HI.out.inb (by rw [List.length_map]; exact a1); rw [List.length_map] at h; exact h)
        cases sm with
        | true =>
          have HTW : Hid (∃ u ∈ X.map Uv.u, u.sp = su) := Lib.hid ((HI.out.same HST.out).1 HSM.out)
          have hpr := putRes_twice HVX.out HST.out HTW.out
          rw [pQ.out] at hpr
          obtain ⟨hp1, hpr2⟩ := Prod.mk.inj hpr
          obtain ⟨_, hp3⟩ := Prod.mk.inj hpr2
          clear hpr hpr2
          subst hp3
          have hpx : pX = [] := by have h := pL.out; rw [hp1] at h; exact List.map_eq_nil_iff.1 h
          clear hp1
          have e0 : ((pX.length : Int) != 0) = false := by rw [hpx]; rfl
          have e0n : (pX.length != 0) = false := by rw [hpx]; rfl
          have e0z : pX.length = 0 := by rw [hpx]; rfl
          clear hpx
          have HI2 := Lib.hid (HI.out.skip HSK.out HK20.out (putS_no pQ.out (by decide)))
          go_wp2_with (first | (with_reducible refine wpl_alloc_b ?_ ?_ _ zvSpend ?_; (· rfl); (· rfl)))
          refine (smC (D := fun _ => True) l Z su (w.heap.size) (wo.heap.size) (w4.heap.size + 1) (w4.heap.size) X.length M (Fct.any (OI.rw hO.out E15.out.env (by intro p hp; simp [hp]))) ⟨⟨(E15.out.bx 4 rfl).lt, trivial⟩, (E15.out.bx 4 rfl).cell 0 rfl⟩ (Fct.any (E15.out.fc 7 rfl)) ⟨⟨(E15.out.bx 1 rfl).lt, trivial⟩, (E15.out.bx 1 rfl).range (o := 0) (fun j hj => by rw [Nat.zero_add])⟩ (Fct.any (E15.out.fc 5 rfl)) ⟨⟨(E15.out.bx 2 rfl).lt, trivial⟩, (E15.out.bx 2 rfl).cell 0 rfl⟩ (Lib.hid E15.out.q) (Lib.hid HLW.out) (Lib.hid HNL.out) (Lib.hid HNS.out) HIB (t := true) HSM.out HL9.out).mono ?_
          rintro e w7 ⟨rfl, hb⟩
          have E16 : Hid (EnvX D w ((w5.heap.size, 25, [.slice pa pX.length pk]) :: (wo.heap.size, 41, spc su (.slice ya su.lv.length yk) (.slice yc su.pa.length yj)) :: (w4.heap.size + 1, 63, [.map (some w4.heap.size)]) :: (w3.heap.size, 25, [.slice xa X.length xk]) :: (w.heap.size, 61, [.slice (some ⟨zab, zao, none⟩) Z.length zk]) :: sg) [.gn (gUl (.slice pc pY.length pj) pY), .gn (gUl (.slice pa pX.length pk) pX), .rw (.slice ya su.lv.length yk) su.lv.length 3 (lcl su.lv), .rw (.slice yc su.pa.length yj) su.pa.length 32 su.pa.flatten, .gn (gRg zab (zao + k * 80) (spc su (.slice ya su.lv.length yk) (.slice yc su.pa.length yj))), .gn (gSp su (.slice ya su.lv.length yk) (.slice yc su.pa.length yj)), .gn (gUl (.slice xa X.length xk) X), .gn (gSl (.slice (some ⟨zab, zao, none⟩) Z.length zk) Z)] [w4.heap.size] (QM w4.heap.size X.length M) w7) := Lib.hid (E15.out.below hb)
          clear E15 hb
          have b8 := E16.out.bx 0 rfl
          have c8_0 := b8.cell 0 rfl
          clear b8
          have hZ := ((E16.out.drop).drop)
          have EY : Hid (EnvX D w ((w4.heap.size + 1, 63, [.map (some w4.heap.size)]) :: (w3.heap.size, 25, [.slice xa X.length xk]) :: (w.heap.size, 61, [.slice (some ⟨zab, zao, none⟩) Z.length zk]) :: sg) [.gn (gUl (.slice xa X.length xk) X), .gn (gSl (.slice (some ⟨zab, zao, none⟩) Z.length zk) Z)] [w4.heap.size] (QM w4.heap.size X.length M) _) := Lib.hid (hZ.facts ⟨hZ.fc 6 rfl, ⟨hZ.fc 7 rfl, trivial⟩⟩)
          clear hZ
          go_wp2_with (first | (with_reducible refine wpl_alloc_b ?_ ?_ _ zvSpend ?_; (· rfl); (· rfl)))
          go_roundg (Z.length - (k + 1))
          case rel => exact ⟨k + 1, xa, xk, X, M, sg, cs, va, vk, l, rfl, rfl, EY, hO, Lib.hid ⟨by omega, rfl, HI2.out, Nat.le_succ_of_le HLK.out⟩⟩
          case measure => exact by omega
        | false =>
          have HTW : Hid (¬ ∃ u ∈ X.map Uv.u, u.sp = su) := Lib.hid (fun h => by have h2 := (HI.out.same HST.out).2 h; rw [HSM.out] at h2; cases h2)
          have HNF : Hid (¬ 2000 < (putN su (X.map Uv.u) su.lv.length).1.length) := Lib.hid (HI.out.tab.notFull HK20.out HST.out)
          have hpr := putRes_ok HVX.out HST.out HTW.out HNF.out
          rw [pQ.out] at hpr
          obtain ⟨hp1, hpr2⟩ := Prod.mk.inj hpr
          obtain ⟨hp2, hp3⟩ := Prod.mk.inj hpr2
          clear hpr hpr2
          subst hp3
          have HPX : Hid (pX.map Uv.u = (putN su (X.map Uv.u) su.lv.length).1) := Lib.hid (by rw [pL.out, hp1])
          have HPY : Hid (pY.map Uv.u = (putN su (X.map Uv.u) su.lv.length).2) := Lib.hid (by rw [pC.out, hp2])
          clear hp1 hp2
          have HPV : Hid (ValidT (pX.map Uv.u)) := Lib.hid (by rw [HPX.out]; exact putN_valid HVX.out HST.out HNF.out)
          have HI2 := Lib.hid (HI.out.put HSK.out HK20.out HST.out (by rw [putS_yes pQ.out, ← pL.out, HPX.out]))
          go_wp2_with (first | (with_reducible refine wpl_alloc_b ?_ ?_ _ zvSpend ?_; (· rfl); (· rfl)))
          refine (smC (D := fun _ => True) l Z su (w.heap.size) (wo.heap.size) (w4.heap.size + 1) (w4.heap.size) X.length M (Fct.any (OI.rw hO.out E15.out.env (by intro p hp; simp [hp]))) ⟨⟨(E15.out.bx 4 rfl).lt, trivial⟩, (E15.out.bx 4 rfl).cell 0 rfl⟩ (Fct.any (E15.out.fc 7 rfl)) ⟨⟨(E15.out.bx 1 rfl).lt, trivial⟩, (E15.out.bx 1 rfl).range (o := 0) (fun j hj => by rw [Nat.zero_add])⟩ (Fct.any (E15.out.fc 5 rfl)) ⟨⟨(E15.out.bx 2 rfl).lt, trivial⟩, (E15.out.bx 2 rfl).cell 0 rfl⟩ (Lib.hid E15.out.q) (Lib.hid HLW.out) (Lib.hid HNL.out) (Lib.hid HNS.out) HIB (t := false) HSM.out HL9.out).mono ?_
          rintro e w7 ⟨rfl, hb⟩
          have E16 : Hid (EnvX D w ((w5.heap.size, 25, [.slice pa pX.length pk]) :: (wo.heap.size, 41, spc su (.slice ya su.lv.length yk) (.slice yc su.pa.length yj)) :: (w4.heap.size + 1, 63, [.map (some w4.heap.size)]) :: (w3.heap.size, 25, [.slice xa X.length xk]) :: (w.heap.size, 61, [.slice (some ⟨zab, zao, none⟩) Z.length zk]) :: sg) [.gn (gUl (.slice pc pY.length pj) pY), .gn (gUl (.slice pa pX.length pk) pX), .rw (.slice ya su.lv.length yk) su.lv.length 3 (lcl su.lv), .rw (.slice yc su.pa.length yj) su.pa.length 32 su.pa.flatten, .gn (gRg zab (zao + k * 80) (spc su (.slice ya su.lv.length yk) (.slice yc su.pa.length yj))), .gn (gSp su (.slice ya su.lv.length yk) (.slice yc su.pa.length yj)), .gn (gUl (.slice xa X.length xk) X), .gn (gSl (.slice (some ⟨zab, zao, none⟩) Z.length zk) Z)] [w4.heap.size] (QM w4.heap.size X.length M) w7) := Lib.hid (E15.out.below hb)
          clear E15 hb
          have hl9 : su.lv.length ≤ 40 := HNS.out.1
          have b8 := E16.out.bx 1 rfl
          have c8 := b8.cell 77 (spc_tail sS.out _ _).1
          clear b8
          go_wp2_with (first | (with_reducible refine wpl_alloc_b ?_ ?_ _ zvSpend ?_; (· rfl); (· rfl)))
          clear t6 t7
          have HCW : Hid (wI (cInt su.cn 4)) := Lib.hid HLW.out.1
          have HP8 : Hid (pY.length ≤ 40 ∧ (∀ x ∈ pY, Bd x.u)) := Lib.hid (by have h := putRes_bd (P := Bd) (fun u hu => Bd.valR HVX.out hu) (fun j => Bs.out) pQ.out; have h2 := map_len pC.out; exact ⟨by have := h.2.2.2; omega, fun x hx => h.2.1 _ (by rw [← pC.out]; exact List.mem_map.2 ⟨x, hx, rfl⟩)⟩)
          have E17 : Hid (EnvX D w ((w5.heap.size, 25, [.slice pa pX.length pk]) :: (wo.heap.size, 41, spc su (.slice ya su.lv.length yk) (.slice yc su.pa.length yj)) :: (w4.heap.size + 1, 63, [.map (some w4.heap.size)]) :: (w3.heap.size, 25, [.slice xa X.length xk]) :: (w.heap.size, 61, [.slice (some ⟨zab, zao, none⟩) Z.length zk]) :: sg) [.gn (gUl (.slice pc pY.length pj) pY), .gn (gUl (.slice pa pX.length pk) pX), .rw (.slice ya su.lv.length yk) su.lv.length 3 (lcl su.lv), .rw (.slice yc su.pa.length yj) su.pa.length 32 su.pa.flatten, .gn (gRg zab (zao + k * 80) (spc su (.slice ya su.lv.length yk) (.slice yc su.pa.length yj))), .gn (gSp su (.slice ya su.lv.length yk) (.slice yc su.pa.length yj)), .gn (gUl (.slice xa X.length xk) X), .gn (gSl (.slice (some ⟨zab, zao, none⟩) Z.length zk) Z)] [w4.heap.size] (QM w4.heap.size X.length (mN M su k 0)) _) := E16
          go_loopg [69, 12] (su.lv.length) (fun gk s69 s12 wr => ∃ (j : Nat) (at_ : Nat) (n : Nat), s69 = .int .i64 (j : Int) ∧ s12 = .int .i64 (at_ : Int) ∧ Hid (EnvX D w ((w5.heap.size, 25, [.slice pa pX.length pk]) :: (wo.heap.size, 41, spc su (.slice ya su.lv.length yk) (.slice yc su.pa.length yj)) :: (w4.heap.size + 1, 63, [.map (some w4.heap.size)]) :: (w3.heap.size, 25, [.slice xa X.length xk]) :: (w.heap.size, 61, [.slice (some ⟨zab, zao, none⟩) Z.length zk]) :: sg) [.gn (gUl (.slice pc pY.length pj) pY), .gn (gUl (.slice pa pX.length pk) pX), .rw (.slice ya su.lv.length yk) su.lv.length 3 (lcl su.lv), .rw (.slice yc su.pa.length yj) su.pa.length 32 su.pa.flatten, .gn (gRg zab (zao + k * 80) (spc su (.slice ya su.lv.length yk) (.slice yc su.pa.length yj))), .gn (gSp su (.slice ya su.lv.length yk) (.slice yc su.pa.length yj)), .gn (gUl (.slice xa X.length xk) X), .gn (gSl (.slice (some ⟨zab, zao, none⟩) Z.length zk) Z)] [w4.heap.size] (QM w4.heap.size n (mN M su k j)) wr) ∧ Hid ((j ≤ su.lv.length ∧ gk = su.lv.length - j) ∧ at_ = (putN su (X.map Uv.u) j).2.length ∧ n = (putN su (X.map Uv.u) j).1.length))
          case atStart => exact ⟨0, 0, X.length, rfl, rfl, Lib.hid E17.out, Lib.hid ⟨⟨Nat.zero_le _, rfl⟩, rfl, by rw [show putN su (X.map Uv.u) 0 = (X.map Uv.u, []) from rfl, List.length_map]⟩⟩
          case round =>
            clear c8 E16 E17
            obtain ⟨j, at_, n, rfl, rfl, EL, HA⟩ := hrel
            obtain ⟨⟨b1, b2⟩, b3, b4⟩ := HA.out
            have HAT := Lib.hid b3
            have HNN := Lib.hid b4
            clear HA b3 b4
            by_cases hy : j = su.lv.length
            · skip
              have u6 : decide ((j : Int) < (su.lv.length : Int)) = false := decide_eq_false (by omega)
              have u7 : decide (j < su.lv.length) = false := decide_eq_false (by omega)
              subst hy
              have HAY : Hid (at_ = pY.length) := Lib.hid (by rw [HAT.out, ← HPY.out, List.length_map])
              have hne1 : ((at_ : Int) != (pY.length : Int)) = false := by rw [HAY.out]; simp
              have hne2 : (at_ != pY.length) = false := by rw [HAY.out]; simp
              have b9 := EL.out.bx 0 rfl
              have c9_0 := b9.cell 0 rfl
              clear b9
              have b10 := EL.out.bx 3 rfl
              have c10_0 := b10.cell 0 rfl
              have f10_0 := b10.frozen 0
              clear b10
              have HK6 : Hid (l.length + 1 ≤ 1000000) := Lib.hid (by have := HLK.out; have := HK20.out; omega)
              have E18 : Hid (EnvX D w ((wr.heap.size, 3, [.int .i64 (k : Int)]) :: (w5.heap.size, 25, [.slice pa pX.length pk]) :: (wo.heap.size, 41, spc su (.slice ya su.lv.length yk) (.slice yc su.pa.length yj)) :: (w4.heap.size + 1, 63, [.map (some w4.heap.size)]) :: (w3.heap.size, 25, [.slice pa pX.length pk]) :: (w.heap.size, 61, [.slice (some ⟨zab, zao, none⟩) Z.length zk]) :: sg) [.gn (gUl (.slice pc pY.length pj) pY), .gn (gUl (.slice pa pX.length pk) pX), .rw (.slice ya su.lv.length yk) su.lv.length 3 (lcl su.lv), .rw (.slice yc su.pa.length yj) su.pa.length 32 su.pa.flatten, .gn (gRg zab (zao + k * 80) (spc su (.slice ya su.lv.length yk) (.slice yc su.pa.length yj))), .gn (gSp su (.slice ya su.lv.length yk) (.slice yc su.pa.length yj)), .gn (gUl (.slice xa X.length xk) X), .gn (gSl (.slice (some ⟨zab, zao, none⟩) Z.length zk) Z)] [w4.heap.size] (QM w4.heap.size n (mN M su k su.lv.length)) _) := Lib.hid (((EL.out.set 3 0 (.slice pa pX.length pk) rfl).push 3 [.int .i64 (k : Int)] (wr.heap.size) (by simp)))
              go_wp2_with (first | (with_reducible refine wpl_alloc_b ?_ ?_ _ zvSpend ?_; (· rfl); (· rfl)) | (at_builtin; refine wpl_appX rfl _ _ rfl E18.out (A := [(wr.heap.size, 3, [.int .i64 (k : Int)]), (w5.heap.size, 25, [.slice pa pX.length pk]), (wo.heap.size, 41, spc su (.slice ya su.lv.length yk) (.slice yc su.pa.length yj)), (w4.heap.size + 1, 63, [.map (some w4.heap.size)]), (w3.heap.size, 25, [.slice pa pX.length pk]), (w.heap.size, 61, [.slice (some ⟨zab, zao, none⟩) Z.length zk])]) (sg := sg) (B' := []) (F := ((wr.heap.size, 3, [.int .i64 (k : Int)]) :: (w5.heap.size, 25, [.slice pa pX.length pk]) :: (wo.heap.size, 41, spc su (.slice ya su.lv.length yk) (.slice yc su.pa.length yj)) :: (w4.heap.size + 1, 63, [.map (some w4.heap.size)]) :: (w3.heap.size, 25, [.slice pa pX.length pk]) :: (w.heap.size, 61, [.slice (some ⟨zab, zao, none⟩) Z.length zk]) :: sg)) (by simp) hO.out rfl rfl (SrcN.int (E18.out.bx 0 rfl)) HK6.out ?_))
              intro ag ap ac wa aO aE
              clear hne1 hne2 u6 u7
              have E19 : Hid (EnvX D w ((wr.heap.size, 3, [.int .i64 (k : Int)]) :: (w5.heap.size, 25, [.slice pa pX.length pk]) :: (wo.heap.size, 41, spc su (.slice ya su.lv.length yk) (.slice yc su.pa.length yj)) :: (w4.heap.size + 1, 63, [.map (some w4.heap.size)]) :: (w3.heap.size, 25, [.slice pa pX.length pk]) :: (w.heap.size, 61, [.slice (some ⟨zab, zao, none⟩) Z.length zk]) :: [(ag, 3, ac)]) [.gn (gUl (.slice pc pY.length pj) pY), .gn (gUl (.slice pa pX.length pk) pX), .rw (.slice ya su.lv.length yk) su.lv.length 3 (lcl su.lv), .rw (.slice yc su.pa.length yj) su.pa.length 32 su.pa.flatten, .gn (gRg zab (zao + k * 80) (spc su (.slice ya su.lv.length yk) (.slice yc su.pa.length yj))), .gn (gSp su (.slice ya su.lv.length yk) (.slice yc su.pa.length yj)), .gn (gUl (.slice xa X.length xk) X), .gn (gSl (.slice (some ⟨zab, zao, none⟩) Z.length zk) Z)] [w4.heap.size] (QM w4.heap.size n (mN M su k su.lv.length)) wa) := Lib.hid (aE.out.cast (by simp))
              clear c9_0 c10_0 f10_0 EL E18 aE
              have E20 : Hid (EnvX D w ((wr.heap.size, 3, [.int .i64 (k : Int)]) :: (w5.heap.size, 25, [.slice pa pX.length pk]) :: (wo.heap.size, 41, spc su (.slice ya su.lv.length yk) (.slice yc su.pa.length yj)) :: (w4.heap.size + 1, 63, [.map (some w4.heap.size)]) :: (w3.heap.size, 25, [.slice pa pX.length pk]) :: (w.heap.size, 61, [.slice (some ⟨zab, zao, none⟩) Z.length zk]) :: [(ag, 3, ac)]) [.gn (gUl (.slice pc pY.length pj) pY), .gn (gUl (.slice pa pX.length pk) pX), .rw (.slice ya su.lv.length yk) su.lv.length 3 (lcl su.lv), .rw (.slice yc su.pa.length yj) su.pa.length 32 su.pa.flatten, .gn (gRg zab (zao + k * 80) (spc su (.slice ya su.lv.length yk) (.slice yc su.pa.length yj))), .gn (gSp su (.slice ya su.lv.length yk) (.slice yc su.pa.length yj)), .gn (gUl (.slice xa X.length xk) X), .gn (gSl (.slice (some ⟨zab, zao, none⟩) Z.length zk) Z)] [w4.heap.size] (QM w4.heap.size pX.length (mN M su k su.lv.length)) _) := Lib.hid (by have h := E19.out; rw [show n = pX.length from by rw [HNN.out, ← HPX.out, List.length_map]] at h; exact h)
              have hZ := (((E20.out.drop).drop).drop)
              have EY : Hid (EnvX D w ((w4.heap.size + 1, 63, [.map (some w4.heap.size)]) :: (w3.heap.size, 25, [.slice pa pX.length pk]) :: (w.heap.size, 61, [.slice (some ⟨zab, zao, none⟩) Z.length zk]) :: [(ag, 3, ac)]) [.gn (gUl (.slice pa pX.length pk) pX), .gn (gSl (.slice (some ⟨zab, zao, none⟩) Z.length zk) Z)] [w4.heap.size] (QM w4.heap.size pX.length (mN M su k su.lv.length)) _) := Lib.hid (hZ.facts ⟨hZ.fc 1 rfl, ⟨hZ.fc 7 rfl, trivial⟩⟩)
              clear hZ
              have HI3 : Hid (RmI (Z.map Sv.s) (k + 1) (pX.map Uv.u) (mN M su k su.lv.length) (l ++ [(k : Int)])) := Lib.hid (by rw [HPX.out]; exact HI2.out)
              go_wp2_with (first | (with_reducible refine wpl_alloc_b ?_ ?_ _ zvSpend ?_; (· rfl); (· rfl)))
              go_roundg (Z.length - (k + 1))
              case rel => exact ⟨k + 1, pa, pk, pX, mN M su k su.lv.length, [(ag, 3, ac)], ac, some ⟨ag, 0, none⟩, ap, l ++ [(k : Int)], rfl, by simp, EY, Lib.hid (by rw [List.length_append, List.length_singleton]; exact aO.out), Lib.hid ⟨by omega, rfl, HI3.out, by simp; exact HLK.out⟩⟩
              case measure => exact by omega
            have hj : j < su.lv.length := lt_of hy b1
            have u6 : decide ((j : Int) < (su.lv.length : Int)) = true := decide_eq_true (by omega)
            have u7 : decide (j < su.lv.length) = true := decide_eq_true (by omega)
            have hjI : (j : Int) < (su.lv.length : Int) := by omega
            clear hy
            have hat9 : at_ ≤ 40 := by rw [HAT.out]; exact Nat.le_trans (putN_len (s := su) (L := X.map Uv.u) j).2.2 (by omega)
            go_upto_region 24 with (first | (with_reducible refine wpl_alloc_b ?_ ?_ _ zvSpend ?_; (· rfl); (· rfl)))
            obtain ⟨yab, yao, rfl⟩ := Rw.addr (EL.out.fc 2 rfl) (by omega)
            obtain ⟨⟨c0, c1, c2⟩, ce⟩ : ∃ c, su.lv[j] = c := ⟨_, rfl⟩
            have cE := Lib.hid ce
            have ch := (EL.out.fc 2 rfl).triple (k := j) rfl hj
            rw [ce] at ch
            obtain ⟨cx, cy, cz⟩ := ch
            clear ce
            have HLB : Hid (leafB su j = c0) := Lib.hid (by rw [leafB_eq hj, cE.out])
            have HWB : Hid (wI c0) := Lib.hid (by have h := HLW.out.2 _ (List.getElem_mem hj); rw [cE.out] at h; exact h)
            have E18 : Hid (EnvX D w ((wr.heap.size, 69, [.int .i64 c0, .int .i64 c1, .int .i64 c2]) :: (w5.heap.size, 25, [.slice pa pX.length pk]) :: (wo.heap.size, 41, spc su (.slice (some ⟨yab, yao, none⟩) su.lv.length yk) (.slice yc su.pa.length yj)) :: (w4.heap.size + 1, 63, [.map (some w4.heap.size)]) :: (w3.heap.size, 25, [.slice xa X.length xk]) :: (w.heap.size, 61, [.slice (some ⟨zab, zao, none⟩) Z.length zk]) :: sg) [.gn (gUl (.slice pc pY.length pj) pY), .gn (gUl (.slice pa pX.length pk) pX), .rw (.slice (some ⟨yab, yao, none⟩) su.lv.length yk) su.lv.length 3 (lcl su.lv), .rw (.slice yc su.pa.length yj) su.pa.length 32 su.pa.flatten, .gn (gRg zab (zao + k * 80) (spc su (.slice (some ⟨yab, yao, none⟩) su.lv.length yk) (.slice yc su.pa.length yj))), .gn (gSp su (.slice (some ⟨yab, yao, none⟩) su.lv.length yk) (.slice yc su.pa.length yj)), .gn (gUl (.slice xa X.length xk) X), .gn (gSl (.slice (some ⟨zab, zao, none⟩) Z.length zk) Z)] [w4.heap.size] (QM w4.heap.size n (mN M su k j)) _) := Lib.hid ((EL.out.push 69 [.int .i64 c0, .int .i64 c1, .int .i64 c2] (wr.heap.size) (by simp)))
            have b9 := E18.out.bx 2 rfl
            have c9 := b9.cell 4 (spc_ca sS.out _ _ (by omega))
            clear b9
            have b10 := E18.out.bx 0 rfl
            have c10_0 := b10.cell 0 rfl
            clear b10
            go_upto_region 26 with (first | (with_reducible refine wpl_alloc_b ?_ ?_ _ zvSpend ?_; (· rfl); (· rfl)))
            have E19 : Hid (EnvX D w ((wr.heap.size + 1, 70, [.int .i64 (cInt su.cn 4), .int .i64 c0]) :: (wr.heap.size, 69, [.int .i64 c0, .int .i64 c1, .int .i64 c2]) :: (w5.heap.size, 25, [.slice pa pX.length pk]) :: (wo.heap.size, 41, spc su (.slice (some ⟨yab, yao, none⟩) su.lv.length yk) (.slice yc su.pa.length yj)) :: (w4.heap.size + 1, 63, [.map (some w4.heap.size)]) :: (w3.heap.size, 25, [.slice xa X.length xk]) :: (w.heap.size, 61, [.slice (some ⟨zab, zao, none⟩) Z.length zk]) :: sg) [.gn (gUl (.slice pc pY.length pj) pY), .gn (gUl (.slice pa pX.length pk) pX), .rw (.slice (some ⟨yab, yao, none⟩) su.lv.length yk) su.lv.length 3 (lcl su.lv), .rw (.slice yc su.pa.length yj) su.pa.length 32 su.pa.flatten, .gn (gRg zab (zao + k * 80) (spc su (.slice (some ⟨yab, yao, none⟩) su.lv.length yk) (.slice yc su.pa.length yj))), .gn (gSp su (.slice (some ⟨yab, yao, none⟩) su.lv.length yk) (.slice yc su.pa.length yj)), .gn (gUl (.slice xa X.length xk) X), .gn (gSl (.slice (some ⟨zab, zao, none⟩) Z.length zk) Z)] [w4.heap.size] (QM w4.heap.size n (mN M su k j)) _) := Lib.hid ((E18.out.push 70 [.int .i64 (cInt su.cn 4), .int .i64 c0] (wr.heap.size + 1) (by simp)))
            clear cx cy cz c9 c10_0 EL E18
            generalize (wr.alloc (.cells #[.int .i64 c0, .int .i64 c1, .int .i64 c2] 69)).alloc (.cells #[.int .i64 (cInt su.cn 4), .int .i64 c0] 70) = w8 at *
            have HLF := Lib.hid (HI.out.leaf HST.out hj)
            rcases HLF.out with ⟨kk, uu, h1, h2, h3, h4, h5, h6, h7, h8, h9⟩ | ⟨h1, h2, h3, h4⟩
            · have HKK := Lib.hid h1
              have HM2 := Lib.hid h2
              have HL3 := Lib.hid h3
              have HL4 := Lib.hid h4
              have HU5 := Lib.hid h5
              have HU6 := Lib.hid h6
              have HU7 := Lib.hid h7
              have HU8 := Lib.hid h8
              have hkk : kk < Z.length := by omega
              have hkkI : (kk : Int) < (Z.length : Int) := by omega
              clear HLF h1 h2 h3 h4 h5 h6 h7 h8
              have hat : at_ < pY.length := by have h := (List.getElem?_eq_some_iff.1 HU5.out).1; rw [← HPY.out, List.length_map, ← HAT.out] at h; exact h
              have hatI : (at_ : Int) < (pY.length : Int) := by omega
              have hle1 : decide ((pY.length : Int) ≤ (at_ : Int)) = false := decide_eq_false (by omega)
              have hle2 : decide (pY.length ≤ at_) = false := decide_eq_false (by omega)
              have b11 := E19.out.bx 4 rfl
              have c11_0 := b11.cell 0 rfl
              clear b11
              have b12 := E19.out.bx 0 rfl
              have c12_0 := b12.cell 0 rfl
              have c12_1 := b12.cell 1 rfl
              clear b12
              go_upto_region 27 with (at_lookup; refine wpl_lookS rfl _ _ rfl E19.out.q rfl rfl HCW.out HWB.out (k := kk) (by rw [← HLB.out]; exact HKK.out) ?_)
              go_upto_region 29 with (first | (with_reducible refine wpl_alloc_b ?_ ?_ _ zvSpend ?_; (· rfl); (· rfl)))
              obtain ⟨pcb, pco, rfl⟩ := gUl.addr (E19.out.fc 0 rfl) (List.ne_nil_of_length_pos (Nat.lt_of_le_of_lt (Nat.zero_le _) hat))
              obtain ⟨u, ue⟩ : ∃ x, pY[at_] = x := ⟨_, rfl⟩
              have uE := Lib.hid ue
              clear ue
              have E20 : Hid (EnvX D w ((wr.heap.size + 1, 70, [.int .i64 (cInt su.cn 4), .int .i64 c0]) :: (wr.heap.size, 69, [.int .i64 c0, .int .i64 c1, .int .i64 c2]) :: (w5.heap.size, 25, [.slice pa pX.length pk]) :: (wo.heap.size, 41, spc su (.slice (some ⟨yab, yao, none⟩) su.lv.length yk) (.slice yc su.pa.length yj)) :: (w4.heap.size + 1, 63, [.map (some w4.heap.size)]) :: (w3.heap.size, 25, [.slice xa X.length xk]) :: (w.heap.size, 61, [.slice (some ⟨zab, zao, none⟩) Z.length zk]) :: sg) [.gn (gRg pcb (pco + at_ * 83) (usc u.u u.la u.pa)), .gn (gSp u.u.sp u.la u.pa), .gn (gUl (.slice (some ⟨pcb, pco, none⟩) pY.length pj) pY), .gn (gUl (.slice pa pX.length pk) pX), .rw (.slice (some ⟨yab, yao, none⟩) su.lv.length yk) su.lv.length 3 (lcl su.lv), .rw (.slice yc su.pa.length yj) su.pa.length 32 su.pa.flatten, .gn (gRg zab (zao + k * 80) (spc su (.slice (some ⟨yab, yao, none⟩) su.lv.length yk) (.slice yc su.pa.length yj))), .gn (gSp su (.slice (some ⟨yab, yao, none⟩) su.lv.length yk) (.slice yc su.pa.length yj)), .gn (gUl (.slice xa X.length xk) X), .gn (gSl (.slice (some ⟨zab, zao, none⟩) Z.length zk) Z)] [w4.heap.size] (QM w4.heap.size n (mN M su k j)) _) := Lib.hid (E19.out.elU 0 rfl hat uE.out)
              clear E19
              have uS := Lib.hid (E20.out.spOk 1 rfl)
              have uN : Hid (∀ v ∈ usc u.u u.la u.pa, v.oneCell' = true) := Lib.hid (usc_one uS.out (Rw.oneV (E20.out.fc 1 rfl).2.1) (Rw.oneV (E20.out.fc 1 rfl).2.2))
              obtain ⟨t, te⟩ : ∃ x, Z[kk] = x := ⟨_, rfl⟩
              have tE := Lib.hid te
              clear te
              have E21 : Hid (EnvX D w ((wr.heap.size + 1, 70, [.int .i64 (cInt su.cn 4), .int .i64 c0]) :: (wr.heap.size, 69, [.int .i64 c0, .int .i64 c1, .int .i64 c2]) :: (w5.heap.size, 25, [.slice pa pX.length pk]) :: (wo.heap.size, 41, spc su (.slice (some ⟨yab, yao, none⟩) su.lv.length yk) (.slice yc su.pa.length yj)) :: (w4.heap.size + 1, 63, [.map (some w4.heap.size)]) :: (w3.heap.size, 25, [.slice xa X.length xk]) :: (w.heap.size, 61, [.slice (some ⟨zab, zao, none⟩) Z.length zk]) :: sg) [.gn (gRg zab (zao + kk * 80) (spc t.s t.la t.pa)), .gn (gSp t.s t.la t.pa), .gn (gRg pcb (pco + at_ * 83) (usc u.u u.la u.pa)), .gn (gSp u.u.sp u.la u.pa), .gn (gUl (.slice (some ⟨pcb, pco, none⟩) pY.length pj) pY), .gn (gUl (.slice pa pX.length pk) pX), .rw (.slice (some ⟨yab, yao, none⟩) su.lv.length yk) su.lv.length 3 (lcl su.lv), .rw (.slice yc su.pa.length yj) su.pa.length 32 su.pa.flatten, .gn (gRg zab (zao + k * 80) (spc su (.slice (some ⟨yab, yao, none⟩) su.lv.length yk) (.slice yc su.pa.length yj))), .gn (gSp su (.slice (some ⟨yab, yao, none⟩) su.lv.length yk) (.slice yc su.pa.length yj)), .gn (gUl (.slice xa X.length xk) X), .gn (gSl (.slice (some ⟨zab, zao, none⟩) Z.length zk) Z)] [w4.heap.size] (QM w4.heap.size n (mN M su k j)) _) := Lib.hid (E20.out.elV 9 rfl hkk tE.out)
              clear E20
              have tS := Lib.hid (E21.out.spOk 1 rfl)
              have tN : Hid (∀ v ∈ spc t.s t.la t.pa, v.oneCell' = true) := Lib.hid (gSp.one (E21.out.fc 1 rfl))
              have HUU : Hid (u.u = uu) := Lib.hid (by have h := map_get hat uE.out; rw [HPY.out, HAT.out] at h; rw [HU5.out] at h; exact (Option.some.inj h).symm)
              have HTT : Hid (t.s = uu.sp) := Lib.hid (by have h := smap_get hkk tE.out; rw [HU8.out] at h; exact (Option.some.inj h).symm)
              have n1 : (u.u.ua != cInt su.cn 4) = false := bneF (by rw [HUU.out]; exact HU6.out)
              have n2 : (u.u.ub != c0) = false := bneF (by rw [HUU.out, ← HLB.out]; exact HU7.out)
              have Bu : Hid (u.u.sp.lv.length ≤ 1000000 ∧ u.u.sp.pa.length ≤ 1000000) := Lib.hid (HP8.out.2 _ (List.mem_of_getElem (h := hat) uE.out))
              have Bt : Hid (t.s.lv.length ≤ 1000000 ∧ t.s.pa.length ≤ 1000000) := Lib.hid (by have h := HNL.out t.s (List.mem_of_getElem? (smap_get hkk tE.out)); omega)
              go_wp2_with (first | (with_reducible refine wpl_alloc_b ?_ ?_ _ zvSpend ?_; (· rfl); (· rfl)))
              have E22 : Hid (EnvX D w ((wr.heap.size + 1, 70, [.int .i64 (cInt su.cn 4), .int .i64 c0]) :: (wr.heap.size, 69, [.int .i64 c0, .int .i64 c1, .int .i64 c2]) :: (w5.heap.size, 25, [.slice pa pX.length pk]) :: (wo.heap.size, 41, spc su (.slice (some ⟨yab, yao, none⟩) su.lv.length yk) (.slice yc su.pa.length yj)) :: (w4.heap.size + 1, 63, [.map (some w4.heap.size)]) :: (w3.heap.size, 25, [.slice xa X.length xk]) :: (w.heap.size, 61, [.slice (some ⟨zab, zao, none⟩) Z.length zk]) :: sg) [.gn (gRg zab (zao + kk * 80) (spc t.s t.la t.pa)), .gn (gSp t.s t.la t.pa), .gn (gRg pcb (pco + at_ * 83) (usc u.u u.la u.pa)), .gn (gSp u.u.sp u.la u.pa), .gn (gUl (.slice (some ⟨pcb, pco, none⟩) pY.length pj) pY), .gn (gUl (.slice pa pX.length pk) pX), .rw (.slice (some ⟨yab, yao, none⟩) su.lv.length yk) su.lv.length 3 (lcl su.lv), .rw (.slice yc su.pa.length yj) su.pa.length 32 su.pa.flatten, .gn (gRg zab (zao + k * 80) (spc su (.slice (some ⟨yab, yao, none⟩) su.lv.length yk) (.slice yc su.pa.length yj))), .gn (gSp su (.slice (some ⟨yab, yao, none⟩) su.lv.length yk) (.slice yc su.pa.length yj)), .gn (gUl (.slice xa X.length xk) X), .gn (gSl (.slice (some ⟨zab, zao, none⟩) Z.length zk) Z)] [w4.heap.size] (QM w4.heap.size n (mN M su k j)) (w8.drew)) := Lib.hid E21.out.drew
              clear c11_0 c12_0 c12_1 E21
              refine wp_regionU (S := fun w' => w'.cell? ⟨w.heap.size, 0, none⟩ = some (.slice (some ⟨zab, zao, none⟩) Z.length zk) ∧ w'.cell? ⟨wr.heap.size + 1, 0, none⟩ = some (.int .i64 (cInt su.cn 4)) ∧ w'.cell? ⟨wr.heap.size + 1, 1, none⟩ = some (.int .i64 c0) ∧ w'.cell? ⟨pcb, pco + at_ * 83, none⟩ = some (.int .i64 u.u.ua) ∧ w'.cell? ⟨pcb, pco + at_ * 83 + 1, none⟩ = some (.int .i64 u.u.ub) ∧ w'.rangeAt pcb (pco + at_ * 83 + 2) (spc u.u.sp u.la u.pa) ∧ w'.rangeAt zab (zao + kk * 80) (spc t.s t.la t.pa)) [] (by kernel_rfl) (⟨((E22.out.bx 6 rfl).cell 0 rfl), (E22.out.bx 0 rfl).cell 0 rfl, (E22.out.bx 0 rfl).cell 1 rfl, (gRg.cell (E22.out.fc 2 rfl) (j := 0) rfl), (gRg.cell (E22.out.fc 2 rfl) (j := 1) rfl), (gRg.sub (i := 2) (E22.out.fc 2 rfl).2 (usc_sp uS.out _ _)), (E22.out.fc 0 rfl).2⟩) (fun hHeld => ?_)
              generalize w8.drew = w9 at *
              refine uTake (i := 0) (some 90) (v := ?_) rfl rfl (by kernel_rfl) (by kernel_rfl) (by kernel_rfl) (by kernel_rfl) (fun _ _ _ h => h) (by rfl) (by assumption) ?_ ?_
              rotate_left
              · (intro wS hSw; (try dsimp only at hSw); go_simp; try with_reducible rfl)
              try simp only [Act.put, List.setIfInBounds_toArray, List.set_cons_zero, List.set_cons_succ]
              refine uTake (i := 1) (some 91) (v := ?_) rfl rfl (by kernel_rfl) (by kernel_rfl) (by kernel_rfl) (by kernel_rfl) (fun _ _ _ h => h) (by rfl) (by assumption) ?_ ?_
              rotate_left
              · (intro wS hSw; (try dsimp only at hSw); go_simp; try with_reducible rfl)
              try simp only [Act.put, List.setIfInBounds_toArray, List.set_cons_zero, List.set_cons_succ]
              refine uTake (i := 2) (some 92) (v := ?_) rfl rfl (by kernel_rfl) (by kernel_rfl) (by kernel_rfl) (by kernel_rfl) (fun _ _ _ h => h) (by rfl) (by assumption) ?_ ?_
              rotate_left
              · (intro wS hSw; (try dsimp only at hSw); go_simp; try with_reducible rfl)
              try simp only [Act.put, List.setIfInBounds_toArray, List.set_cons_zero, List.set_cons_succ]
              refine uTake (i := 3) (some 93) (v := ?_) rfl rfl (by kernel_rfl) (by kernel_rfl) (by kernel_rfl) (by kernel_rfl) (fun _ _ _ h => h) (by rfl) (by assumption) ?_ ?_
              rotate_left
              · (intro wS hSw; (try dsimp only at hSw); go_simp; try with_reducible rfl)
              try simp only [Act.put, List.setIfInBounds_toArray, List.set_cons_zero, List.set_cons_succ]
              refine uTake (i := 4) (some 94) (v := ?_) rfl rfl (by kernel_rfl) (by kernel_rfl) (by kernel_rfl) (by kernel_rfl) (fun _ _ _ h => h) (by rfl) (by assumption) ?_ ?_
              rotate_left
              · (intro wS hSw; (try dsimp only at hSw); go_simp; try with_reducible rfl)
              try simp only [Act.put, List.setIfInBounds_toArray, List.set_cons_zero, List.set_cons_succ]
              refine uTake (i := 5) (some 95) (v := ?_) rfl rfl (by kernel_rfl) (by kernel_rfl) (by kernel_rfl) (by kernel_rfl) (fun _ _ _ h => h) (by rfl) (by assumption) ?_ ?_
              rotate_left
              · (intro wS hSw; (try dsimp only at hSw); go_simp; try with_reducible rfl)
              try simp only [Act.put, List.setIfInBounds_toArray, List.set_cons_zero, List.set_cons_succ]
              refine uTake (i := 6) (some 96) (v := ?_) rfl rfl (by kernel_rfl) (by kernel_rfl) (by kernel_rfl) (by kernel_rfl) (fun _ _ _ h => h) (by rfl) (by assumption) ?_ ?_
              rotate_left
              · (intro wS hSw; (try dsimp only at hSw); go_simp; try with_reducible rfl)
              try simp only [Act.put, List.setIfInBounds_toArray, List.set_cons_zero, List.set_cons_succ]
              refine uTake (i := 7) (some 97) (v := ?_) rfl rfl (by kernel_rfl) (by kernel_rfl) (by kernel_rfl) (by kernel_rfl) (fun _ _ _ h => h) (by rfl) (by assumption) ?_ ?_
              rotate_left
              · (intro wS hSw; (try dsimp only at hSw); go_simp; try with_reducible rfl)
              try simp only [Act.put, List.setIfInBounds_toArray, List.set_cons_zero, List.set_cons_succ]
              refine uTake (i := 8) (some 98) (v := ?_) rfl rfl (by kernel_rfl) (by kernel_rfl) (by kernel_rfl) (by kernel_rfl) (fun _ _ _ h => h) (by rfl) (by assumption) ?_ ?_
              rotate_left
              · (intro wS hSw; (try dsimp only at hSw); go_simp; try with_reducible rfl)
              try simp only [Act.put, List.setIfInBounds_toArray, List.set_cons_zero, List.set_cons_succ]
              refine uTake (i := 9) (some 99) (v := ?_) rfl rfl (by kernel_rfl) (by kernel_rfl) (by kernel_rfl) (by kernel_rfl) (fun _ _ _ h => h) (by rfl) (by assumption) ?_ ?_
              rotate_left
              · (intro wS hSw; (try dsimp only at hSw); go_simp; try with_reducible rfl)
              try simp only [Act.put, List.setIfInBounds_toArray, List.set_cons_zero, List.set_cons_succ]
              refine uTake (i := 10) (some 100) (v := ?_) rfl rfl (by kernel_rfl) (by kernel_rfl) (by kernel_rfl) (by kernel_rfl) (fun _ _ _ h => h) (by rfl) (by assumption) ?_ ?_
              rotate_left
              · (intro wS hSw; (try dsimp only at hSw); go_simp; try with_reducible rfl)
              try simp only [Act.put, List.setIfInBounds_toArray, List.set_cons_zero, List.set_cons_succ]
              refine uTake (i := 11) (some 101) (v := ?_) rfl rfl (by kernel_rfl) (by kernel_rfl) (by kernel_rfl) (by kernel_rfl) (fun _ _ _ h => h) (by rfl) (by assumption) ?_ ?_
              rotate_left
              · (intro wS hSw; (try dsimp only at hSw); go_simp; try with_reducible rfl)
              try simp only [Act.put, List.setIfInBounds_toArray, List.set_cons_zero, List.set_cons_succ]
              refine uTake (i := 12) (some 102) (v := ?_) rfl rfl (by kernel_rfl) (by kernel_rfl) (by kernel_rfl) (by kernel_rfl) (fun _ _ _ h => h) (by rfl) (by assumption) ?_ ?_
              rotate_left
              · (intro wS hSw; (try dsimp only at hSw); go_simp; try with_reducible rfl)
              try simp only [Act.put, List.setIfInBounds_toArray, List.set_cons_zero, List.set_cons_succ]
              refine uTake (i := 13) (some 103) (v := ?_) rfl rfl (by kernel_rfl) (by kernel_rfl) (by kernel_rfl) (by kernel_rfl) (fun _ _ _ h => h) (by rfl) (by assumption) ?_ ?_
              rotate_left
              · (intro wS hSw; (try dsimp only at hSw); go_simp; try with_reducible rfl)
              try simp only [Act.put, List.setIfInBounds_toArray, List.set_cons_zero, List.set_cons_succ]
              refine uTake (i := 14) (some 104) (v := ?_) rfl rfl (by kernel_rfl) (by kernel_rfl) (by kernel_rfl) (by kernel_rfl) (fun _ _ _ h => h) (by rfl) (by assumption) ?_ ?_
              rotate_left
              · (intro wS hSw; (try dsimp only at hSw); go_simp; try with_reducible rfl)
              try simp only [Act.put, List.setIfInBounds_toArray, List.set_cons_zero, List.set_cons_succ]
              refine uTake (i := 15) (some 105) (v := ?_) rfl rfl (by kernel_rfl) (by kernel_rfl) (by kernel_rfl) (by kernel_rfl) (fun _ _ _ h => h) (by rfl) (by assumption) ?_ ?_
              rotate_left
              · (intro wS hSw; (try dsimp only at hSw); go_simp; try with_reducible rfl)
              try simp only [Act.put, List.setIfInBounds_toArray, List.set_cons_zero, List.set_cons_succ]
              refine uTake (i := 16) (some 106) (v := ?_) rfl rfl (by kernel_rfl) (by kernel_rfl) (by kernel_rfl) (by kernel_rfl) (fun _ _ _ h => h) (by rfl) (by assumption) ?_ ?_
              rotate_left
              · (intro wS hSw; (try dsimp only at hSw); go_simp; try with_reducible rfl)
              try simp only [Act.put, List.setIfInBounds_toArray, List.set_cons_zero, List.set_cons_succ]
              refine uTake (i := 17) (some 107) (v := ?_) rfl rfl (by kernel_rfl) (by kernel_rfl) (by kernel_rfl) (by kernel_rfl) (fun _ _ _ h => h) (by rfl) (by assumption) ?_ ?_
              rotate_left
              · (intro wS hSw; (try dsimp only at hSw); go_simp; try with_reducible rfl)
              try simp only [Act.put, List.setIfInBounds_toArray, List.set_cons_zero, List.set_cons_succ]
              refine uTake (i := 18) (some 108) (v := ?_) rfl rfl (by kernel_rfl) (by kernel_rfl) (by kernel_rfl) (by kernel_rfl) (fun _ _ _ h => h) (by rfl) (by assumption) ?_ ?_
              rotate_left
              · (intro wS hSw; (try dsimp only at hSw); go_simp; try with_reducible rfl)
              try simp only [Act.put, List.setIfInBounds_toArray, List.set_cons_zero, List.set_cons_succ]
              refine uTake (i := 19) (some 109) (v := ?_) rfl rfl (by kernel_rfl) (by kernel_rfl) (by kernel_rfl) (by kernel_rfl) (fun _ _ _ h => h) (by rfl) (by assumption) ?_ ?_
              rotate_left
              · (intro wS hSw; (try dsimp only at hSw); go_simp; try with_reducible rfl)
              try simp only [Act.put, List.setIfInBounds_toArray, List.set_cons_zero, List.set_cons_succ]
              refine uTake (i := 20) (some 110) (v := ?_) rfl rfl (by kernel_rfl) (by kernel_rfl) (by kernel_rfl) (by kernel_rfl) (fun _ _ _ h => h) (by rfl) (by assumption) ?_ ?_
              rotate_left
              · (intro wS hSw; (try dsimp only at hSw); go_simp; try with_reducible rfl)
              try simp only [Act.put, List.setIfInBounds_toArray, List.set_cons_zero, List.set_cons_succ]
              refine uTake (i := 21) (some 111) (v := ?_) rfl rfl (by kernel_rfl) (by kernel_rfl) (by kernel_rfl) (by kernel_rfl) (fun _ _ _ h => h) (by rfl) (by assumption) ?_ ?_
              rotate_left
              · (intro wS hSw; (try dsimp only at hSw); go_simp; try with_reducible rfl)
              try simp only [Act.put, List.setIfInBounds_toArray, List.set_cons_zero, List.set_cons_succ]
              refine uTake (i := 22) (some 112) (v := ?_) rfl rfl (by kernel_rfl) (by kernel_rfl) (by kernel_rfl) (by kernel_rfl) (fun _ _ _ h => h) (by rfl) (by assumption) ?_ ?_
              rotate_left
              · (intro wS hSw; (try dsimp only at hSw); go_simp; try with_reducible rfl)
              try simp only [Act.put, List.setIfInBounds_toArray, List.set_cons_zero, List.set_cons_succ]
              refine uTake (i := 23) (some 113) (v := ?_) rfl rfl (by kernel_rfl) (by kernel_rfl) (by kernel_rfl) (by kernel_rfl) (fun _ _ _ h => h) (by rfl) (by assumption) ?_ ?_
              rotate_left
              · (intro wS hSw; (try dsimp only at hSw); go_simp; try with_reducible rfl)
              try simp only [Act.put, List.setIfInBounds_toArray, List.set_cons_zero, List.set_cons_succ]
              refine uTake (i := 24) (some 114) (v := ?_) rfl rfl (by kernel_rfl) (by kernel_rfl) (by kernel_rfl) (by kernel_rfl) (fun _ _ _ h => h) (by rfl) (by assumption) ?_ ?_
              rotate_left
              · (intro wS hSw; (try dsimp only at hSw); go_simp; try with_reducible rfl)
              try simp only [Act.put, List.setIfInBounds_toArray, List.set_cons_zero, List.set_cons_succ]
              refine uTake (i := 25) (some 115) (v := ?_) rfl rfl (by kernel_rfl) (by kernel_rfl) (by kernel_rfl) (by kernel_rfl) (fun _ _ _ h => h) (by rfl) (by assumption) ?_ ?_
              rotate_left
              · (intro wS hSw; (try dsimp only at hSw); go_simp; try with_reducible rfl)
              try simp only [Act.put, List.setIfInBounds_toArray, List.set_cons_zero, List.set_cons_succ]
              refine uTake (i := 26) (some 116) (v := ?_) rfl rfl (by kernel_rfl) (by kernel_rfl) (by kernel_rfl) (by kernel_rfl) (fun _ _ _ h => h) (by rfl) (by assumption) ?_ ?_
              rotate_left
              · (intro wS hSw; (try dsimp only at hSw); go_simp; try with_reducible rfl)
              try simp only [Act.put, List.setIfInBounds_toArray, List.set_cons_zero, List.set_cons_succ]
              refine uTake (i := 27) (some 117) (v := ?_) rfl rfl (by kernel_rfl) (by kernel_rfl) (by kernel_rfl) (by kernel_rfl) (fun _ _ _ h => h) (by rfl) (by assumption) ?_ ?_
              rotate_left
              · (intro wS hSw; (try dsimp only at hSw); go_simp; try with_reducible rfl)
              try simp only [Act.put, List.setIfInBounds_toArray, List.set_cons_zero, List.set_cons_succ]
              refine uTake (i := 28) (some 118) (v := ?_) rfl rfl (by kernel_rfl) (by kernel_rfl) (by kernel_rfl) (by kernel_rfl) (fun _ _ _ h => h) (by rfl) (by assumption) ?_ ?_
              rotate_left
              · (intro wS hSw; (try dsimp only at hSw); go_simp; try with_reducible rfl)
              try simp only [Act.put, List.setIfInBounds_toArray, List.set_cons_zero, List.set_cons_succ]
              refine uTake (i := 29) (some 119) (v := .agg (spc u.u.sp u.la u.pa).toArray) rfl rfl (by kernel_rfl) (by kernel_rfl) (by kernel_rfl) (by kernel_rfl) (fun _ _ _ h => h) (by rfl) (by assumption) ?_ ?_
              · (intro wS hSw; (try dsimp only at hSw); revert hSw; (try simp only [and_imp]); intros; exact exec_load_b bSpend _ rfl pcb (pco + at_ * 83 + 2) rfl (spc u.u.sp u.la u.pa) (spc_len uS.out _ _) (by assumption))
              try simp only [Act.put, List.setIfInBounds_toArray, List.set_cons_zero, List.set_cons_succ]
              refine uTake (i := 30) (some 120) (v := ?_) rfl rfl (by kernel_rfl) (by kernel_rfl) (by kernel_rfl) (by kernel_rfl) (fun _ _ _ h => h) (by rfl) (by assumption) ?_ ?_
              rotate_left
              · (intro wS hSw; (try dsimp only at hSw); go_simp; try with_reducible rfl)
              try simp only [Act.put, List.setIfInBounds_toArray, List.set_cons_zero, List.set_cons_succ]
              refine uTake (i := 31) (some 121) (v := ?_) rfl rfl (by kernel_rfl) (by kernel_rfl) (by kernel_rfl) (by kernel_rfl) (fun _ _ _ h => h) (by rfl) (by assumption) ?_ ?_
              rotate_left
              · (intro wS hSw; (try dsimp only at hSw); go_simp; try with_reducible rfl)
              try simp only [Act.put, List.setIfInBounds_toArray, List.set_cons_zero, List.set_cons_succ]
              refine uTake (i := 32) (some 122) (v := ?_) rfl rfl (by kernel_rfl) (by kernel_rfl) (by kernel_rfl) (by kernel_rfl) (fun _ _ _ h => h) (by rfl) (by assumption) ?_ ?_
              rotate_left
              · (intro wS hSw; (try dsimp only at hSw); go_simp; try with_reducible rfl)
              try simp only [Act.put, List.setIfInBounds_toArray, List.set_cons_zero, List.set_cons_succ]
              refine uTake (i := 33) (some 123) (v := .agg (spc t.s t.la t.pa).toArray) rfl rfl (by kernel_rfl) (by kernel_rfl) (by kernel_rfl) (by kernel_rfl) (fun _ _ _ h => h) (by rfl) (by assumption) ?_ ?_
              · (intro wS hSw; (try dsimp only at hSw); revert hSw; (try simp only [and_imp]); intros; exact exec_load_b bSpend _ rfl zab (zao + kk * 80) rfl (spc t.s t.la t.pa) (spc_len tS.out _ _) (by assumption))
              try simp only [Act.put, List.setIfInBounds_toArray, List.set_cons_zero, List.set_cons_succ]
              refine uReady (rs := [34]) (by kernel_rfl) (by simp) ?_
              refine ReadyU.cons rfl (fun KK hKK => ?_) ReadyU.nil
              go_simp
              refine (same32_c u.u.sp t.s (E22.out.fc 3 rfl) (E22.out.fc 1 rfl) Bu.out Bt.out (r := true) ⟨fun _ => by rw [HUU.out, HTT.out], fun _ => rfl⟩).mono ?_
              rintro e w10 ⟨rfl, hb⟩
              have E23 : Hid (EnvX D w ((wr.heap.size + 1, 70, [.int .i64 (cInt su.cn 4), .int .i64 c0]) :: (wr.heap.size, 69, [.int .i64 c0, .int .i64 c1, .int .i64 c2]) :: (w5.heap.size, 25, [.slice pa pX.length pk]) :: (wo.heap.size, 41, spc su (.slice (some ⟨yab, yao, none⟩) su.lv.length yk) (.slice yc su.pa.length yj)) :: (w4.heap.size + 1, 63, [.map (some w4.heap.size)]) :: (w3.heap.size, 25, [.slice xa X.length xk]) :: (w.heap.size, 61, [.slice (some ⟨zab, zao, none⟩) Z.length zk]) :: sg) [.gn (gRg zab (zao + kk * 80) (spc t.s t.la t.pa)), .gn (gSp t.s t.la t.pa), .gn (gRg pcb (pco + at_ * 83) (usc u.u u.la u.pa)), .gn (gSp u.u.sp u.la u.pa), .gn (gUl (.slice (some ⟨pcb, pco, none⟩) pY.length pj) pY), .gn (gUl (.slice pa pX.length pk) pX), .rw (.slice (some ⟨yab, yao, none⟩) su.lv.length yk) su.lv.length 3 (lcl su.lv), .rw (.slice yc su.pa.length yj) su.pa.length 32 su.pa.flatten, .gn (gRg zab (zao + k * 80) (spc su (.slice (some ⟨yab, yao, none⟩) su.lv.length yk) (.slice yc su.pa.length yj))), .gn (gSp su (.slice (some ⟨yab, yao, none⟩) su.lv.length yk) (.slice yc su.pa.length yj)), .gn (gUl (.slice xa X.length xk) X), .gn (gSl (.slice (some ⟨zab, zao, none⟩) Z.length zk) Z)] [w4.heap.size] (QM w4.heap.size n (mN M su k j)) w10) := Lib.hid (E22.out.below hb)
              clear E22 hb
              (try dsimp only)
              clear hHeld
              refine hKK.out _ _ (⟨((E23.out.bx 6 rfl).cell 0 rfl), (E23.out.bx 0 rfl).cell 0 rfl, (E23.out.bx 0 rfl).cell 1 rfl, (gRg.cell (E23.out.fc 2 rfl) (j := 0) rfl), (gRg.cell (E23.out.fc 2 rfl) (j := 1) rfl), (gRg.sub (i := 2) (E23.out.fc 2 rfl).2 (usc_sp uS.out _ _)), (E23.out.fc 0 rfl).2⟩) (fun hHeld => ?_)
              clear hKK KK
              try simp only [Act.put, List.setIfInBounds_toArray, List.set_cons_zero, List.set_cons_succ]
              refine uTake (i := 35) (some 125) (v := ?_) rfl rfl (by kernel_rfl) (by kernel_rfl) (by kernel_rfl) (by kernel_rfl) (fun _ _ _ h => h) (by rfl) (by assumption) ?_ ?_
              rotate_left
              · (intro wS hSw; (try dsimp only at hSw); go_simp; try with_reducible rfl)
              try simp only [Act.put, List.setIfInBounds_toArray, List.set_cons_zero, List.set_cons_succ]
              refine uTake (i := 36) (some 126) (v := ?_) rfl rfl (by kernel_rfl) (by kernel_rfl) (by kernel_rfl) (by kernel_rfl) (fun _ _ _ h => h) (by rfl) (by assumption) ?_ ?_
              rotate_left
              · (intro wS hSw; (try dsimp only at hSw); go_simp; try with_reducible rfl)
              try simp only [Act.put, List.setIfInBounds_toArray, List.set_cons_zero, List.set_cons_succ]
              refine uDone (by kernel_rfl) ?_ _
              clear n1 n2 hle1 hle2
              have E24 : Hid (EnvX D w ((wr.heap.size + 1, 70, [.int .i64 (cInt su.cn 4), .int .i64 c0]) :: (wr.heap.size, 69, [.int .i64 c0, .int .i64 c1, .int .i64 c2]) :: (w5.heap.size, 25, [.slice pa pX.length pk]) :: (wo.heap.size, 41, spc su (.slice (some ⟨yab, yao, none⟩) su.lv.length yk) (.slice yc su.pa.length yj)) :: (w4.heap.size + 1, 63, [.map (some w4.heap.size)]) :: (w3.heap.size, 25, [.slice xa X.length xk]) :: (w.heap.size, 61, [.slice (some ⟨zab, zao, none⟩) Z.length zk]) :: sg) [.gn (gRg zab (zao + kk * 80) (spc t.s t.la t.pa)), .gn (gSp t.s t.la t.pa), .gn (gRg pcb (pco + at_ * 83) (usc u.u u.la u.pa)), .gn (gSp u.u.sp u.la u.pa), .gn (gUl (.slice (some ⟨pcb, pco, none⟩) pY.length pj) pY), .gn (gUl (.slice pa pX.length pk) pX), .rw (.slice (some ⟨yab, yao, none⟩) su.lv.length yk) su.lv.length 3 (lcl su.lv), .rw (.slice yc su.pa.length yj) su.pa.length 32 su.pa.flatten, .gn (gRg zab (zao + k * 80) (spc su (.slice (some ⟨yab, yao, none⟩) su.lv.length yk) (.slice yc su.pa.length yj))), .gn (gSp su (.slice (some ⟨yab, yao, none⟩) su.lv.length yk) (.slice yc su.pa.length yj)), .gn (gUl (.slice xa X.length xk) X), .gn (gSl (.slice (some ⟨zab, zao, none⟩) Z.length zk) Z)] [w4.heap.size] (QM w4.heap.size n (mN M su k (j + 1))) _) := Lib.hid (by rw [HM2.out]; exact E23.out)
              have EZ := Lib.hid ((((((E24.out.drop).drop).forget).forget).forget).forget)
              go_wp2_with (first | (with_reducible refine wpl_alloc_b ?_ ?_ _ zvSpend ?_; (· rfl); (· rfl)))
              go_roundg (su.lv.length - (j + 1))
              case rel => exact ⟨j + 1, at_ + 1, n, rfl, rfl, EZ, Lib.hid ⟨⟨by omega, rfl⟩, by rw [HL4.out, HAT.out], by rw [HL3.out]; exact HNN.out⟩⟩
              case measure => exact by omega
            have HKK := Lib.hid h1
            have HM2 := Lib.hid h2
            have HL3 := Lib.hid h3
            have HL4 := Lib.hid h4
            clear HLF h1 h2 h3 h4
            have hn9 : n ≤ 1000000 := by rw [HNN.out]; have h := (putN_len (s := su) (L := X.map Uv.u) j).2.1; have h2 := HVX.out.1; omega
            have hk9 : k ≤ 1000000 := by omega
            have b11 := E19.out.bx 4 rfl
            have c11_0 := b11.cell 0 rfl
            clear b11
            have b12 := E19.out.bx 0 rfl
            have c12_0 := b12.cell 0 rfl
            have c12_1 := b12.cell 1 rfl
            clear b12
            go_upto_region 27 with (at_lookup; refine wpl_lookN rfl _ _ rfl E19.out.q rfl rfl HCW.out HWB.out (by rw [← HLB.out]; exact HKK.out) ?_)
            go_upto_region 28 with (first | (with_reducible refine wpl_alloc_b ?_ ?_ _ zvSpend ?_; (· rfl); (· rfl)))
            go_wp2_with (at_mapUpdate; refine wpl_updM rfl _ _ _ rfl E19.out rfl hn9 rfl HCW.out HWB.out rfl hk9 (by rw [← HLB.out]; exact HKK.out) ?_)
            intro wu EU
            have E20 : Hid (EnvX D w ((wr.heap.size + 1, 70, [.int .i64 (cInt su.cn 4), .int .i64 c0]) :: (wr.heap.size, 69, [.int .i64 c0, .int .i64 c1, .int .i64 c2]) :: (w5.heap.size, 25, [.slice pa pX.length pk]) :: (wo.heap.size, 41, spc su (.slice (some ⟨yab, yao, none⟩) su.lv.length yk) (.slice yc su.pa.length yj)) :: (w4.heap.size + 1, 63, [.map (some w4.heap.size)]) :: (w3.heap.size, 25, [.slice xa X.length xk]) :: (w.heap.size, 61, [.slice (some ⟨zab, zao, none⟩) Z.length zk]) :: sg) [.gn (gUl (.slice pc pY.length pj) pY), .gn (gUl (.slice pa pX.length pk) pX), .rw (.slice (some ⟨yab, yao, none⟩) su.lv.length yk) su.lv.length 3 (lcl su.lv), .rw (.slice yc su.pa.length yj) su.pa.length 32 su.pa.flatten, .gn (gRg zab (zao + k * 80) (spc su (.slice (some ⟨yab, yao, none⟩) su.lv.length yk) (.slice yc su.pa.length yj))), .gn (gSp su (.slice (some ⟨yab, yao, none⟩) su.lv.length yk) (.slice yc su.pa.length yj)), .gn (gUl (.slice xa X.length xk) X), .gn (gSl (.slice (some ⟨zab, zao, none⟩) Z.length zk) Z)] [w4.heap.size] (QM w4.heap.size (n + 1) (mN M su k (j + 1))) wu) := Lib.hid (by rw [HM2.out, HLB.out]; exact EU.out)
            clear c11_0 c12_0 c12_1 E19 EU
            have EZ := Lib.hid ((E20.out.drop).drop)
            go_wp2_with (first | (with_reducible refine wpl_alloc_b ?_ ?_ _ zvSpend ?_; (· rfl); (· rfl)))
            go_roundg (su.lv.length - (j + 1))
            case rel => exact ⟨j + 1, at_, n + 1, rfl, rfl, EZ, Lib.hid ⟨⟨by omega, rfl⟩, by rw [HL4.out]; exact HAT.out, by rw [HL3.out, HNN.out]⟩⟩
            case measure => exact by omega
end Go.Proofs.Ytfnnfmefihiefaa

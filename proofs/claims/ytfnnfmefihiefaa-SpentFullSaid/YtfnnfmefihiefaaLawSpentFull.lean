/- SpentFull: a table of 2,000 uses takes no further leaf. -/
import Derived.Test.YtfnnfmefihiefaaSpV
namespace Go.Proofs.Ytfnnfmefihiefaa
open Go.RowKit
set_option linter.unusedVariables false
set_option linter.unusedSimpArgs false
theorem op_slice1 {o : Oper} {a : Act} {w : World} {K : Act → World → Prop} {Q : Exit → Act → World → Prop} {EE : Prop} {ops : Array Oper} (d : Option Tmp) (hgd : o.guard = none) (hd : o.dst = d) (x : Operand) (ho : o.op = .buildSlice 23 1 #[(0, x)]) (cs : List Value) (hl : cs.length = 83) (hx : a.eval x = .agg cs.toArray)
    (h : K (a.put d (.slice (some ⟨w.heap.size, 0, none⟩) 1 1)) (w.alloc (.cells cs.toArray 44))) : if Region.wanted o (yielded ops a.tmps) = true then Oper.wp Try.prog o a w K Q else EE := by
  have hw : Region.wanted o (yielded ops a.tmps) = true := by simp [Region.wanted, hgd]
  rw [if_pos hw]
  subst hd
  have hb := built_slice1 hl
  unfold Program.builtSlice at hb
  obtain ⟨i0, hi, hz0, hz1, hz2⟩ := info_parts Try.infoUse
  simp only [hi, hz0] at hb
  by_cases hc : 1 * i0.size > 2 ^ 24 ∨ 1 * i0.size = 0
  · rw [if_pos hc] at hb; cases hb
  · rw [if_neg hc] at hb
    exact wp_buildSlice 23 44 1 #[(0, x)] ho cs.toArray i0 _ Try.underlying23 hi hz0 (fun h' => hc (.inl h')) (fun h' => hc (.inr h')) (by rw [← hb]; simp [hx]) h
theorem Env.freezeU {D0 : Nat → Prop} {w W : World} {A sg : List Bx} {G : List Fct} {cs : List Value} {v : Value} {X : List Uv} (E : Env D0 w (A ++ sg) G W) (h : OU sg cs v X) (i : Nat) (e : G[i]? = some (.gn (gUd X))) : Env D0 w A (.gn (gUl v X) :: G) W := by
  have hp := held_iff.1 E.box
  have hpw := (List.pairwise_append.1 hp.2)
  have hA : HeldF w.heap.size A W := held_iff.2 ⟨fun p h => hp.1 p (by simp [h]), hpw.1⟩
  have hD : ∀ b, DF D0 w.heap.size (A ++ sg) b → DF D0 w.heap.size A b := fun b hb => ⟨fun p h => hb.1 p (by simp [h]), hb.2⟩
  have hG : HeldG (DF D0 w.heap.size A) G W := E.fct.turn (Nat.le_refl _) (fun b _ hb => hD b hb) (fun _ _ _ _ => rfl)
  have hd : (gUd X).at_ W (DF D0 w.heap.size A) := hG.get i e
  refine ⟨E.bel, hA, ⟨?_, hd⟩, hG⟩
  rcases h.1 with ⟨rfl, rfl, rfl, h0⟩ | ⟨g, cap, rfl, rfl, e1, e2, e3⟩
  · obtain rfl : X = [] := List.length_eq_zero_iff.1 h0
    exact Rw.nil _ _ _
  · have hB := hp.1 (g, 44, cs) (by simp)
    have hne : ∀ p ∈ A, p.1 ≠ g := fun p hp2 => hpw.2.2 p hp2 (g, 44, cs) (by simp)
    refine ⟨_, cap, rfl, e1, e2, ucl_len hd, ucl_one hd, fun _ => ⟨g, 0, rfl, ⟨hB.lt, hne, .inr hB.1⟩, fun j u hu => ?_⟩⟩
    rw [Nat.zero_add]
    rw [← h.2, List.getElem?_take] at hu
    split at hu
    · exact hB.cell _ hu
    · cases hu
theorem built_use3 {s : Sp} (h : SpOk s) (A B : Int) (la pa : Value) : Try.prog.built 44 [(0, .int .i64 A), (1, .int .i64 B), (2, .agg (spc s la pa).toArray)] = some (usc ⟨A, B, s, 0⟩ la pa).toArray := by
  obtain ⟨fields, hu, hp⟩ := usePlaces
  rw [built_of hu zUse hp]
  show Instr.fill _ (usc zU nilV nilV).toArray _ = _
  rw [fill_to 0 1 [.int .i64 A] (usc zU nilV nilV) (usc ⟨A, 0, zS, 0⟩ nilV nilV) rfl rfl rfl (by decide) rfl, fill_to 1 1 [.int .i64 B] (usc ⟨A, 0, zS, 0⟩ nilV nilV) (usc ⟨A, B, zS, 0⟩ nilV nilV) rfl rfl rfl (show 1 + 1 ≤ (usc ⟨A, 0, zS, 0⟩ nilV nilV).length by rw [usc_len (u := ⟨A, 0, zS, 0⟩) zS_ok]; omega) rfl]
  rw [fill_to 2 80 (spc s la pa) (usc ⟨A, B, zS, 0⟩ nilV nilV) (usc ⟨A, B, s, 0⟩ la pa) rfl rfl (spc_len h la pa) (by rw [usc_len (u := ⟨A, B, zS, 0⟩) zS_ok]; omega) (by rw [show 2 + 80 = 82 from rfl, drop_usc]; rfl)]
  rfl
theorem exec_use3 {oi : Oper} {ev : Operand → Value} {w : World} {u : Us} {A B : Int} {s : Sp} {la pa : Value} (hu : u = ⟨A, B, s, 0⟩) (h : SpOk s)
    (hx : ∃ x y z, oi.op = .build 44 #[(0, x), (1, y), (2, z)] ∧ ev x = .int .i64 A ∧ ev y = .int .i64 B ∧ ev z = .agg (spc s la pa).toArray) :
    (execOp ev oi).run Try.prog w = .ok (.value (.agg (usc u la pa).toArray)) w := by
  obtain ⟨x, y, z, ho, h1, h2, h3⟩ := hx
  subst hu
  exact exec_build_b _ ho [(0, .int .i64 A), (1, .int .i64 B), (2, .agg (spc s la pa).toArray)] (by simp [h1, h2, h3]) _ (built_use3 h A B la pa)
theorem made_s {D : Nat → Prop} (a n : Int) (l : List Int) {s : Sp} {xa : Option Addr} {xk : Nat} {w : World} (hx : Fct.at w D (.rw (.slice xa l.length xk) l.length 1 (icl l))) (wa : wI a ∧ wI n) (hm : l.length ≤ 1000) (hs : s = mkS a n l) :
    Calls Try.prog 9 #[.int .i64 a, .int .i64 n, .slice xa l.length xk] w fun e w' => RetSp (fun b => w.heap.size ≤ b) s e w' ∧ Below w.heap.size w w' := by subst hs; exact made_c a n l hx wa hm
theorem gSp.cast {W : World} {D : Nat → Prop} {s s' : Sp} {la pa : Value} (e : s = s') (h : (gSp s la pa).at_ W D) : (gSp s' la pa).at_ W D := e ▸ h
/-- a table of n leaves -/
def fullT (a : Int) (n : Nat) : List Us := (List.range n).map (fun (i : Nat) => (⟨a, (i : Int), mkS a (i : Int) [(i : Int)], 0⟩ : Us))
theorem fullT_succ (a : Int) (n : Nat) : fullT a (n + 1) = fullT a n ++ [⟨a, (n : Int), mkS a (n : Int) [(n : Int)], 0⟩] := by unfold fullT; rw [List.range_succ, List.map_append]; rfl
theorem fullT_len (a : Int) (n : Nat) : (fullT a n).length = n := by unfold fullT; simp
theorem fullT_get {a : Int} {n i : Nat} {u : Us} (h : (fullT a n)[i]? = some u) : i < n ∧ u = ⟨a, (i : Int), mkS a (i : Int) [(i : Int)], 0⟩ := by
  have hi : i < n := by have := (List.getElem?_eq_some_iff.1 h).1; rwa [fullT_len] at this
  refine ⟨hi, ?_⟩
  unfold fullT at h
  rw [List.getElem?_map, List.getElem?_range hi] at h
  exact (Option.some.inj h).symm
theorem fullT_mem {a : Int} {n : Nat} {u : Us} (h : u ∈ fullT a n) : ∃ i, i < n ∧ u = ⟨a, (i : Int), mkS a (i : Int) [(i : Int)], 0⟩ := by
  obtain ⟨i, hi, e⟩ := List.getElem_of_mem h
  exact ⟨i, fullT_get (by rw [List.getElem?_eq_getElem hi, e])⟩
theorem one_st (a n b : Int) : StOk (mkS a n [b]) := mkS_st (by simp) (by simp) (by intro i hi j hj h; simp only [List.length_singleton] at hi hj; omega)
theorem fullT_valid (a : Int) {n : Nat} (h : n ≤ 2000) : ValidT (fullT a n) := by
  refine ⟨by rw [fullT_len]; exact h, fun u hu => ?_, fun i u v hu hv => ?_⟩
  · obtain ⟨i, _, rfl⟩ := fullT_mem hu
    exact ⟨one_st _ _ _, Int.le_refl 0, by show 0 < 1; omega, rfl, rfl⟩
  · obtain ⟨_, rfl⟩ := fullT_get hu
    obtain ⟨_, rfl⟩ := fullT_get hv
    exact .inr ⟨rfl, by show (i : Int) < ((i + 1 : Nat) : Int); omega⟩
theorem fullT_no (a : Int) {n : Nat} (h : n ≤ 2000) : ¬ ∃ u ∈ fullT a n, u.sp = mkS a 5000 [5000] := by
  rintro ⟨u, hu, e⟩
  obtain ⟨i, hi, rfl⟩ := fullT_mem hu
  have := mkS_inj e
  omega
theorem full_put (a : Int) {n : Nat} (h : n ≤ 2000) : (putN (mkS a 5000 [5000]) (fullT a n) 1).1.length = n + 1 ∧ (putN (mkS a 5000 [5000]) (fullT a n) 1).2 = [] := by
  have hf : findK (putN (mkS a 5000 [5000]) (fullT a n) 0).1 (cInt (mkS a 5000 [5000]).cn 4) (leafB (mkS a 5000 [5000]) 0) = none := by
    refine findK_none.2 fun u hu hk => ?_
    obtain ⟨i, hi, rfl⟩ := fullT_mem hu
    have h2 : (i : Int) = 5000 := hk.2
    omega
  rw [putN_none hf]
  refine ⟨?_, rfl⟩
  exact (insU_length (fullT a n) _ _ (lb_le (fullT a n) _ _)).trans (by rw [fullT_len])
theorem full_more (a : Int) : ∃ L, putRes (fullT a 1999) (mkS a 5000 [5000]) = (L, [], 0) ∧ L.length = 2000 ∧ ValidT L := by
  obtain ⟨h1, h2⟩ := full_put a (n := 1999) (by omega)
  have h3 : ¬ 2000 < (putN (mkS a 5000 [5000]) (fullT a 1999) (mkS a 5000 [5000]).lv.length).1.length := by show ¬ 2000 < (putN (mkS a 5000 [5000]) (fullT a 1999) 1).1.length; omega
  refine ⟨(putN (mkS a 5000 [5000]) (fullT a 1999) 1).1, ?_, h1, putN_valid (fullT_valid a (by omega)) (one_st _ _ _) h3⟩
  rw [putRes_ok (fullT_valid a (by omega)) (one_st _ _ _) (fullT_no a (by omega)) h3]
  show ((putN (mkS a 5000 [5000]) (fullT a 1999) 1).1, (putN (mkS a 5000 [5000]) (fullT a 1999) 1).2, (0 : Int)) = _
  rw [h2]
theorem full_full (a : Int) : putRes (fullT a 2000) (mkS a 5000 [5000]) = ([], [], 5) := by
  obtain ⟨h1, h2⟩ := full_put a (n := 2000) (by omega)
  exact putRes_full (fullT_valid a (by omega)) (one_st _ _ _) (fullT_no a (by omega)) (by show 2000 < (putN (mkS a 5000 [5000]) (fullT a 2000) 1).1.length; omega)
set_option maxRecDepth 100000 in
set_option maxHeartbeats 8000000 in
theorem SpentFull_walk (a : Int) (free : Bool) {D : Nat → Prop} {w : World}  (hw0 : (Lit.int IntKind.i32 a).wf = true) :
    Calls Try.prog 3 #[.int .i32 a, .bool free] w fun e w' => e = .returned (.bool true) ∧ Below w.heap.size w w' := by
  have E0 : Hid (Env D w [] [] w) := Lib.hid (Env.start D w)
  go_enter Try.func3, Try.ntmps3
  have hb2 : -2147483648 ≤ a ∧ a ≤ 2147483647 := by have h : (decide (IntKind.i32.min ≤ a) && decide (a ≤ IntKind.i32.max)) = true := hw0; rw [Bool.and_eq_true, decide_eq_true_eq, decide_eq_true_eq] at h; exact h
  have HWA := Lib.hid (wI_of (a := a) (by omega))
  have wra : IntKind.i64.wrap a = a := by rw [IntKind.wrap_i64]; omega
  have HB2 := Lib.hid hb2
  clear hw0 hb2
  have HW5 := Lib.hid (wI_of (a := 5000) (by omega))
  go_wp2_with fail
  refine (awake_c (D := fun _ => True)).mono ?_
  rintro e w1 ⟨rfl, hb⟩
  have E1 : Hid (Env D w [] [] w1) := Lib.hid (E0.out.below hb)
  clear E0 hb
  cases free with
  | false =>
    have E2 : Hid (Env D w [(w1.heap.size, 25, [.slice none 0 0])] [] _) := Lib.hid ((E1.out.push 25 [.slice none 0 0] (w1.heap.size) (by simp)))
    have E3 : Hid (Env D w ((w1.heap.size, 25, [.slice none 0 0]) :: ([] : List Bx)) [.gn (gUd [])] _) := Lib.hid ((E2.out.note (.gn (gUd [])) gUd.nil).cast (by simp))
    go_wp2_with fail
    have hZ := E3.out
    have ES : Hid (Env D w ((w1.heap.size, 25, [.slice none 0 0]) :: ([] : List Bx)) [.gn (gUd [])] _) := Lib.hid ⟨hZ.bel, hZ.box, ⟨hZ.fc 0 rfl, trivial⟩⟩
    clear hZ
    go_loopg [15] (2000) (fun gk s15 wr => ∃ (k : Nat) (os : List Bx) (oc : List Value) (oa : Option Addr) (ok : Nat) (oX : List Uv), s15 = .int .i64 (k : Int) ∧ Hid (Env D w ((w1.heap.size, 25, [.slice oa oX.length ok]) :: os) [.gn (gUd oX)] wr) ∧ Hid (OU os oc (.slice oa oX.length ok) oX) ∧ Hid ((k ≤ 2000 ∧ gk = 2000 - k) ∧ oX.map Uv.u = fullT a k))
    case atStart => exact ⟨0, ([] : List Bx), [], none, 0, [], rfl, Lib.hid (ES.out.cast (by simp)), (Lib.hid OU.nil), Lib.hid ⟨⟨Nat.zero_le _, rfl⟩, rfl⟩⟩
    case round =>
      clear E1 E2 E3 ES
      obtain ⟨k, os, oc, oa, ok, oX, rfl, EL, oO, HA⟩ := hrel
      obtain ⟨⟨a1, a2⟩, a3⟩ := HA.out
      have HX := Lib.hid a3
      clear a3 HA
      by_cases hy : k = 2000
      · subst hy
        have t6 : decide (((2000 : Nat) : Int) < 2000) = false := decide_eq_false (by omega)
        have t6b : decide ((2000 : Int) < 2000) = false := decide_eq_false (by omega)
        have HVX : Hid (ValidT (oX.map Uv.u)) := Lib.hid (by rw [HX.out]; exact fullT_valid a (by omega))
        go_upto_region 12 with (fail)
        have E4 : Hid (Env D w [(w1.heap.size, 25, [.slice oa oX.length ok])] [.gn (gUl (.slice oa oX.length ok) oX), .gn (gUd oX)] _) := Lib.hid (Env.freezeU (A := [(w1.heap.size, 25, [.slice oa oX.length ok])]) (sg := os) (EL.out.cast (by simp)) oO.out 0 rfl)
        go_upto_region 12 with (fail)
        go_cut [8, 9, 10] (fun s8 s9 s10 wx => ∃ gr sa sb ra rk rX rc rj rY, s8 = .pointer (some ⟨gr, 0, none⟩) ∧ s9 = .slice rc rY.length rj ∧ s10 = .int .i64 5 ∧ Hid (Env D w [(gr, 25, [.slice ra rX.length rk]), (w1.heap.size, 25, [.slice oa oX.length ok])] [.gn (gUl (.slice rc rY.length rj) rY), .gn (gUl (.slice ra rX.length rk) rX), .gn (gSp (mkS a 5000 [5000]) sa sb), .gn (gUl (.slice oa oX.length ok) oX), .gn (gUd oX)] wx) ∧ Hid (rX.map Uv.u = []) ∧ Hid (rY.map Uv.u = []))
        case first =>
          have E5 : Hid (Env D w [(w1.heap.size, 25, [.slice oa oX.length ok])] [.gn (gUl (.slice oa oX.length ok) oX), .gn (gUd oX)] (wr.drew)) := Lib.hid E4.out.drew
          clear E4
          refine wp_regionU (S := fun w' => w'.cell? ⟨w1.heap.size, 0, none⟩ = some (.slice oa oX.length ok)) [] (by kernel_rfl) (((E5.out.bx 0 rfl).cell 0 rfl)) (fun hHeld => ?_)
          generalize wr.drew = w2 at *
          refine uTake (i := 0) (some 35) (v := ?_) rfl rfl (by kernel_rfl) (by kernel_rfl) (by kernel_rfl) (by kernel_rfl) (fun _ _ _ h => h) (by rfl) (by assumption) ?_ ?_
          rotate_left
          · (intro wS hSw; (try dsimp only at hSw); go_simp; try with_reducible rfl)
          try simp only [Act.put, List.setIfInBounds_toArray, List.set_cons_zero, List.set_cons_succ]
          refine uTake (i := 1) (some 36) (v := ?_) rfl rfl (by kernel_rfl) (by kernel_rfl) (by kernel_rfl) (by kernel_rfl) (fun _ _ _ h => h) (by rfl) (by assumption) ?_ ?_
          rotate_left
          · (intro wS hSw; (try dsimp only at hSw); go_simp; try with_reducible rfl)
          try simp only [Act.put, List.setIfInBounds_toArray, List.set_cons_zero, List.set_cons_succ]
          refine uTake (i := 2) (some 37) (v := ?_) rfl rfl (by kernel_rfl) (by kernel_rfl) (by kernel_rfl) (by kernel_rfl) (fun _ _ _ h => h) (by rfl) (by assumption) ?_ ?_
          rotate_left
          · (intro wS hSw; (try dsimp only at hSw); go_simp; try with_reducible rfl)
          try simp only [Act.put, List.setIfInBounds_toArray, List.set_cons_zero, List.set_cons_succ]
          refine uReady (rs := [3, 10]) (by kernel_rfl) (by simp) ?_
          refine (ReadyU.cons rfl (fun KK hKK => ?_) (ReadyU.cons rfl (fun KK hKK => ?_) ReadyU.nil))
          · skip
            go_simp
            have E6 : Hid (Env D w [(w2.heap.size, 3, [.int .i64 5000]), (w1.heap.size, 25, [.slice oa oX.length ok])] [.gn (gUl (.slice oa oX.length ok) oX), .gn (gUd oX)] _) := Lib.hid ((E5.out.push 3 [.int .i64 5000] (w2.heap.size) (by simp)))
            (try dsimp only)
            clear hHeld
            refine hKK.out _ _ (((E6.out.bx 1 rfl).cell 0 rfl)) (fun hHeld => ?_)
            clear hKK KK
            try simp only [Act.put, List.setIfInBounds_toArray, List.set_cons_zero, List.set_cons_succ]
            clear E5
            generalize w2.alloc (.cells #[.int .i64 5000] 3) = w3 at *
            refine uReady (rs := [4, 10]) (by kernel_rfl) (by simp) ?_
            refine (ReadyU.cons rfl (fun KK hKK => ?_) (ReadyU.cons rfl (fun KK hKK => ?_) ReadyU.nil))
            · skip
              go_simp
              refine (made_s a 5000 [5000] (D := fun _ => True) (Rw.ofBox (cs := icl [5000]) (n := 1) (k := 1) (cap := 1) (E6.out.bx 0 rfl) rfl (icl_one _) (by omega) (by omega)) ⟨HWA.out, HW5.out⟩ (by simp) rfl).mono ?_
              rintro e w4 ⟨⟨sa, sb, rfl, sh⟩, hb⟩
              have E7 : Hid (Env D w [(w2.heap.size, 3, [.int .i64 5000]), (w1.heap.size, 25, [.slice oa oX.length ok])] [.gn (gSp (mkS a 5000 [5000]) sa sb), .gn (gUl (.slice oa oX.length ok) oX), .gn (gUd oX)] w4) := Lib.hid (E6.out.got (E6.out.below hb) (.gn (gSp (mkS a 5000 [5000]) sa sb)) (Lib.hid (gSp.ge sh.out)).out)
              clear E6 hb
              (try dsimp only)
              clear hHeld
              refine hKK.out _ _ (((E7.out.bx 1 rfl).cell 0 rfl)) (fun hHeld => ?_)
              clear hKK KK
              try simp only [Act.put, List.setIfInBounds_toArray, List.set_cons_zero, List.set_cons_succ]
              refine uReady (rs := [5, 10]) (by kernel_rfl) (by simp) ?_
              refine (ReadyU.cons rfl (fun KK hKK => ?_) (ReadyU.cons rfl (fun KK hKK => ?_) ReadyU.nil))
              · skip
                go_simp
                refine (put_t oX (mkS a 5000 [5000]) (E7.out.fc 1 rfl) (E7.out.fc 0 rfl) (valid_bd HVX.out) (st_bd (one_st _ _ _)) (Nat.le_trans (valid_len HVX.out) (by omega)) (L := []) (C := []) (n := 5) (by rw [HX.out]; exact full_full a)).mono ?_
                rintro e w5 ⟨⟨ra, rk, rX, rc, rj, rY, rfl, r1, r2, rH, rI⟩, hb⟩
                have E8 : Hid (Env D w [(w2.heap.size, 3, [.int .i64 5000]), (w1.heap.size, 25, [.slice oa oX.length ok])] [.gn (gUl (.slice rc rY.length rj) rY), .gn (gUl (.slice ra rX.length rk) rX), .gn (gSp (mkS a 5000 [5000]) sa sb), .gn (gUl (.slice oa oX.length ok) oX), .gn (gUd oX)] w5) := Lib.hid (E7.out.got (E7.out.got (E7.out.below hb) (.gn (gUl (.slice ra rX.length rk) rX)) rH.out) (.gn (gUl (.slice rc rY.length rj) rY)) rI.out)
                clear E7 hb rH rI
                have rL := Lib.hid r1; have rC := Lib.hid r2; clear r1 r2
                (try dsimp only)
                clear hHeld
                refine hKK.out _ _ (((E8.out.bx 1 rfl).cell 0 rfl)) (fun hHeld => ?_)
                clear hKK KK
                try simp only [Act.put, List.setIfInBounds_toArray, List.set_cons_zero, List.set_cons_succ]
                refine uTake (i := 6) (some 34) (v := ?_) rfl rfl (by kernel_rfl) (by kernel_rfl) (by kernel_rfl) (by kernel_rfl) (fun _ _ _ h => h) (by rfl) (by assumption) ?_ ?_
                rotate_left
                · (intro wS hSw; (try dsimp only at hSw); go_simp; try with_reducible rfl)
                try simp only [Act.put, List.setIfInBounds_toArray, List.set_cons_zero, List.set_cons_succ]
                refine uTake (i := 7) (some 41) (v := ?_) rfl rfl (by kernel_rfl) (by kernel_rfl) (by kernel_rfl) (by kernel_rfl) (fun _ _ _ h => h) (by rfl) (by assumption) ?_ ?_
                rotate_left
                · (intro wS hSw; (try dsimp only at hSw); go_simp; try with_reducible rfl)
                try simp only [Act.put, List.setIfInBounds_toArray, List.set_cons_zero, List.set_cons_succ]
                refine uTake (i := 8) (some 42) (v := ?_) rfl rfl (by kernel_rfl) (by kernel_rfl) (by kernel_rfl) (by kernel_rfl) (fun _ _ _ h => h) (by rfl) (by assumption) ?_ ?_
                rotate_left
                · (intro wS hSw; (try dsimp only at hSw); go_simp; try with_reducible rfl)
                try simp only [Act.put, List.setIfInBounds_toArray, List.set_cons_zero, List.set_cons_succ]
                refine uTake (i := 9) (some 43) (v := ?_) rfl rfl (by kernel_rfl) (by kernel_rfl) (by kernel_rfl) (by kernel_rfl) (fun _ _ _ h => h) (by rfl) (by assumption) ?_ ?_
                rotate_left
                · (intro wS hSw; (try dsimp only at hSw); go_simp; try with_reducible rfl)
                try simp only [Act.put, List.setIfInBounds_toArray, List.set_cons_zero, List.set_cons_succ]
                refine uReady (rs := [10]) (by kernel_rfl) (by simp) ?_
                refine ReadyU.cons rfl (fun KK hKK => ?_) ReadyU.nil
                go_simp
                have E9 : Hid (Env D w [(w5.heap.size, 25, [.slice none 0 0]), (w2.heap.size, 3, [.int .i64 5000]), (w1.heap.size, 25, [.slice oa oX.length ok])] [.gn (gUl (.slice rc rY.length rj) rY), .gn (gUl (.slice ra rX.length rk) rX), .gn (gSp (mkS a 5000 [5000]) sa sb), .gn (gUl (.slice oa oX.length ok) oX), .gn (gUd oX)] _) := Lib.hid ((E8.out.push 25 [.slice none 0 0] (w5.heap.size) (by simp)))
                (try dsimp only)
                clear hHeld
                refine hKK.out _ _ (((E9.out.bx 2 rfl).cell 0 rfl)) (fun hHeld => ?_)
                clear hKK KK
                try simp only [Act.put, List.setIfInBounds_toArray, List.set_cons_zero, List.set_cons_succ]
                clear E8
                generalize w5.alloc (.cells #[.slice none 0 0] 25) = w6 at *
                have b1 := E9.out.bx 0 rfl
                have c1_0 := b1.cell 0 rfl
                have f1_0 := b1.frozen 0
                clear b1
                refine uReady (rs := [11]) (by kernel_rfl) (by simp) ?_
                refine ReadyU.cons rfl (fun KK hKK => ?_) ReadyU.nil
                go_simp
                have E10 : Hid (Env D w [(w5.heap.size, 25, [.slice ra rX.length rk]), (w2.heap.size, 3, [.int .i64 5000]), (w1.heap.size, 25, [.slice oa oX.length ok])] [.gn (gUl (.slice rc rY.length rj) rY), .gn (gUl (.slice ra rX.length rk) rX), .gn (gSp (mkS a 5000 [5000]) sa sb), .gn (gUl (.slice oa oX.length ok) oX), .gn (gUd oX)] _) := Lib.hid ((E9.out.set 0 0 (.slice ra rX.length rk) rfl))
                (try dsimp only)
                clear hHeld
                refine hKK.out _ _ (((E10.out.bx 2 rfl).cell 0 rfl)) (fun hHeld => ?_)
                clear hKK KK
                try simp only [Act.put, List.setIfInBounds_toArray, List.set_cons_zero, List.set_cons_succ]
                refine uTake (i := 12) (some 9) (v := ?_) rfl rfl (by kernel_rfl) (by kernel_rfl) (by kernel_rfl) (by kernel_rfl) (fun _ _ _ h => h) (by rfl) (by assumption) ?_ ?_
                rotate_left
                · (intro wS hSw; (try dsimp only at hSw); go_simp; try with_reducible rfl)
                try simp only [Act.put, List.setIfInBounds_toArray, List.set_cons_zero, List.set_cons_succ]
                refine uTake (i := 13) (some 10) (v := ?_) rfl rfl (by kernel_rfl) (by kernel_rfl) (by kernel_rfl) (by kernel_rfl) (fun _ _ _ h => h) (by rfl) (by assumption) ?_ ?_
                rotate_left
                · (intro wS hSw; (try dsimp only at hSw); go_simp; try with_reducible rfl)
                try simp only [Act.put, List.setIfInBounds_toArray, List.set_cons_zero, List.set_cons_succ]
                refine uDone (by kernel_rfl) ?_ _
                go_wp2_with fail
                go_meet
                exact ⟨w5.heap.size, sa, sb, ra, rk, rX, rc, rj, rY, rfl, rfl, rfl, Lib.hid ((Env.perm (F' := [(w2.heap.size, 3, [.int .i64 5000]), (w5.heap.size, 25, [.slice ra rX.length rk]), (w1.heap.size, 25, [.slice oa oX.length ok])]) E10.out (List.Perm.swap ..)).drop), rL, rC⟩
              · skip
                go_simp
                have E8 : Hid (Env D w [(w4.heap.size, 25, [.slice none 0 0]), (w2.heap.size, 3, [.int .i64 5000]), (w1.heap.size, 25, [.slice oa oX.length ok])] [.gn (gSp (mkS a 5000 [5000]) sa sb), .gn (gUl (.slice oa oX.length ok) oX), .gn (gUd oX)] _) := Lib.hid ((E7.out.push 25 [.slice none 0 0] (w4.heap.size) (by simp)))
                (try dsimp only)
                clear hHeld
                refine hKK.out _ _ (((E8.out.bx 2 rfl).cell 0 rfl)) (fun hHeld => ?_)
                clear hKK KK
                try simp only [Act.put, List.setIfInBounds_toArray, List.set_cons_zero, List.set_cons_succ]
                clear E7
                generalize w4.alloc (.cells #[.slice none 0 0] 25) = w5 at *
                refine uReady (rs := [5]) (by kernel_rfl) (by simp) ?_
                refine ReadyU.cons rfl (fun KK hKK => ?_) ReadyU.nil
                go_simp
                refine (put_t oX (mkS a 5000 [5000]) (E8.out.fc 1 rfl) (E8.out.fc 0 rfl) (valid_bd HVX.out) (st_bd (one_st _ _ _)) (Nat.le_trans (valid_len HVX.out) (by omega)) (L := []) (C := []) (n := 5) (by rw [HX.out]; exact full_full a)).mono ?_
                rintro e w6 ⟨⟨ra, rk, rX, rc, rj, rY, rfl, r1, r2, rH, rI⟩, hb⟩
                have E9 : Hid (Env D w [(w4.heap.size, 25, [.slice none 0 0]), (w2.heap.size, 3, [.int .i64 5000]), (w1.heap.size, 25, [.slice oa oX.length ok])] [.gn (gUl (.slice rc rY.length rj) rY), .gn (gUl (.slice ra rX.length rk) rX), .gn (gSp (mkS a 5000 [5000]) sa sb), .gn (gUl (.slice oa oX.length ok) oX), .gn (gUd oX)] w6) := Lib.hid (E8.out.got (E8.out.got (E8.out.below hb) (.gn (gUl (.slice ra rX.length rk) rX)) rH.out) (.gn (gUl (.slice rc rY.length rj) rY)) rI.out)
                clear E8 hb rH rI
                have rL := Lib.hid r1; have rC := Lib.hid r2; clear r1 r2
                (try dsimp only)
                clear hHeld
                refine hKK.out _ _ (((E9.out.bx 2 rfl).cell 0 rfl)) (fun hHeld => ?_)
                clear hKK KK
                try simp only [Act.put, List.setIfInBounds_toArray, List.set_cons_zero, List.set_cons_succ]
                refine uTake (i := 6) (some 34) (v := ?_) rfl rfl (by kernel_rfl) (by kernel_rfl) (by kernel_rfl) (by kernel_rfl) (fun _ _ _ h => h) (by rfl) (by assumption) ?_ ?_
                rotate_left
                · (intro wS hSw; (try dsimp only at hSw); go_simp; try with_reducible rfl)
                try simp only [Act.put, List.setIfInBounds_toArray, List.set_cons_zero, List.set_cons_succ]
                refine uTake (i := 7) (some 41) (v := ?_) rfl rfl (by kernel_rfl) (by kernel_rfl) (by kernel_rfl) (by kernel_rfl) (fun _ _ _ h => h) (by rfl) (by assumption) ?_ ?_
                rotate_left
                · (intro wS hSw; (try dsimp only at hSw); go_simp; try with_reducible rfl)
                try simp only [Act.put, List.setIfInBounds_toArray, List.set_cons_zero, List.set_cons_succ]
                refine uTake (i := 8) (some 42) (v := ?_) rfl rfl (by kernel_rfl) (by kernel_rfl) (by kernel_rfl) (by kernel_rfl) (fun _ _ _ h => h) (by rfl) (by assumption) ?_ ?_
                rotate_left
                · (intro wS hSw; (try dsimp only at hSw); go_simp; try with_reducible rfl)
                try simp only [Act.put, List.setIfInBounds_toArray, List.set_cons_zero, List.set_cons_succ]
                refine uTake (i := 9) (some 43) (v := ?_) rfl rfl (by kernel_rfl) (by kernel_rfl) (by kernel_rfl) (by kernel_rfl) (fun _ _ _ h => h) (by rfl) (by assumption) ?_ ?_
                rotate_left
                · (intro wS hSw; (try dsimp only at hSw); go_simp; try with_reducible rfl)
                try simp only [Act.put, List.setIfInBounds_toArray, List.set_cons_zero, List.set_cons_succ]
                have b1 := E9.out.bx 0 rfl
                have c1_0 := b1.cell 0 rfl
                have f1_0 := b1.frozen 0
                clear b1
                refine uReady (rs := [11]) (by kernel_rfl) (by simp) ?_
                refine ReadyU.cons rfl (fun KK hKK => ?_) ReadyU.nil
                go_simp
                have E10 : Hid (Env D w [(w4.heap.size, 25, [.slice ra rX.length rk]), (w2.heap.size, 3, [.int .i64 5000]), (w1.heap.size, 25, [.slice oa oX.length ok])] [.gn (gUl (.slice rc rY.length rj) rY), .gn (gUl (.slice ra rX.length rk) rX), .gn (gSp (mkS a 5000 [5000]) sa sb), .gn (gUl (.slice oa oX.length ok) oX), .gn (gUd oX)] _) := Lib.hid ((E9.out.set 0 0 (.slice ra rX.length rk) rfl))
                (try dsimp only)
                clear hHeld
                refine hKK.out _ _ (((E10.out.bx 2 rfl).cell 0 rfl)) (fun hHeld => ?_)
                clear hKK KK
                try simp only [Act.put, List.setIfInBounds_toArray, List.set_cons_zero, List.set_cons_succ]
                refine uTake (i := 12) (some 9) (v := ?_) rfl rfl (by kernel_rfl) (by kernel_rfl) (by kernel_rfl) (by kernel_rfl) (fun _ _ _ h => h) (by rfl) (by assumption) ?_ ?_
                rotate_left
                · (intro wS hSw; (try dsimp only at hSw); go_simp; try with_reducible rfl)
                try simp only [Act.put, List.setIfInBounds_toArray, List.set_cons_zero, List.set_cons_succ]
                refine uTake (i := 13) (some 10) (v := ?_) rfl rfl (by kernel_rfl) (by kernel_rfl) (by kernel_rfl) (by kernel_rfl) (fun _ _ _ h => h) (by rfl) (by assumption) ?_ ?_
                rotate_left
                · (intro wS hSw; (try dsimp only at hSw); go_simp; try with_reducible rfl)
                try simp only [Act.put, List.setIfInBounds_toArray, List.set_cons_zero, List.set_cons_succ]
                refine uDone (by kernel_rfl) ?_ _
                go_wp2_with fail
                go_meet
                exact ⟨w4.heap.size, sa, sb, ra, rk, rX, rc, rj, rY, rfl, rfl, rfl, Lib.hid ((Env.perm (F' := [(w2.heap.size, 3, [.int .i64 5000]), (w4.heap.size, 25, [.slice ra rX.length rk]), (w1.heap.size, 25, [.slice oa oX.length ok])]) E10.out (List.Perm.swap ..)).drop), rL, rC⟩
            · skip
              go_simp
              have E7 : Hid (Env D w [(w3.heap.size, 25, [.slice none 0 0]), (w2.heap.size, 3, [.int .i64 5000]), (w1.heap.size, 25, [.slice oa oX.length ok])] [.gn (gUl (.slice oa oX.length ok) oX), .gn (gUd oX)] _) := Lib.hid ((E6.out.push 25 [.slice none 0 0] (w3.heap.size) (by simp)))
              (try dsimp only)
              clear hHeld
              refine hKK.out _ _ (((E7.out.bx 2 rfl).cell 0 rfl)) (fun hHeld => ?_)
              clear hKK KK
              try simp only [Act.put, List.setIfInBounds_toArray, List.set_cons_zero, List.set_cons_succ]
              clear E6
              generalize w3.alloc (.cells #[.slice none 0 0] 25) = w4 at *
              refine uReady (rs := [4]) (by kernel_rfl) (by simp) ?_
              refine ReadyU.cons rfl (fun KK hKK => ?_) ReadyU.nil
              go_simp
              refine (made_s a 5000 [5000] (D := fun _ => True) (Rw.ofBox (cs := icl [5000]) (n := 1) (k := 1) (cap := 1) (E7.out.bx 1 rfl) rfl (icl_one _) (by omega) (by omega)) ⟨HWA.out, HW5.out⟩ (by simp) rfl).mono ?_
              rintro e w5 ⟨⟨sa, sb, rfl, sh⟩, hb⟩
              have E8 : Hid (Env D w [(w3.heap.size, 25, [.slice none 0 0]), (w2.heap.size, 3, [.int .i64 5000]), (w1.heap.size, 25, [.slice oa oX.length ok])] [.gn (gSp (mkS a 5000 [5000]) sa sb), .gn (gUl (.slice oa oX.length ok) oX), .gn (gUd oX)] w5) := Lib.hid (E7.out.got (E7.out.below hb) (.gn (gSp (mkS a 5000 [5000]) sa sb)) (Lib.hid (gSp.ge sh.out)).out)
              clear E7 hb
              (try dsimp only)
              clear hHeld
              refine hKK.out _ _ (((E8.out.bx 2 rfl).cell 0 rfl)) (fun hHeld => ?_)
              clear hKK KK
              try simp only [Act.put, List.setIfInBounds_toArray, List.set_cons_zero, List.set_cons_succ]
              refine uReady (rs := [5]) (by kernel_rfl) (by simp) ?_
              refine ReadyU.cons rfl (fun KK hKK => ?_) ReadyU.nil
              go_simp
              refine (put_t oX (mkS a 5000 [5000]) (E8.out.fc 1 rfl) (E8.out.fc 0 rfl) (valid_bd HVX.out) (st_bd (one_st _ _ _)) (Nat.le_trans (valid_len HVX.out) (by omega)) (L := []) (C := []) (n := 5) (by rw [HX.out]; exact full_full a)).mono ?_
              rintro e w6 ⟨⟨ra, rk, rX, rc, rj, rY, rfl, r1, r2, rH, rI⟩, hb⟩
              have E9 : Hid (Env D w [(w3.heap.size, 25, [.slice none 0 0]), (w2.heap.size, 3, [.int .i64 5000]), (w1.heap.size, 25, [.slice oa oX.length ok])] [.gn (gUl (.slice rc rY.length rj) rY), .gn (gUl (.slice ra rX.length rk) rX), .gn (gSp (mkS a 5000 [5000]) sa sb), .gn (gUl (.slice oa oX.length ok) oX), .gn (gUd oX)] w6) := Lib.hid (E8.out.got (E8.out.got (E8.out.below hb) (.gn (gUl (.slice ra rX.length rk) rX)) rH.out) (.gn (gUl (.slice rc rY.length rj) rY)) rI.out)
              clear E8 hb rH rI
              have rL := Lib.hid r1; have rC := Lib.hid r2; clear r1 r2
              (try dsimp only)
              clear hHeld
              refine hKK.out _ _ (((E9.out.bx 2 rfl).cell 0 rfl)) (fun hHeld => ?_)
              clear hKK KK
              try simp only [Act.put, List.setIfInBounds_toArray, List.set_cons_zero, List.set_cons_succ]
              refine uTake (i := 6) (some 34) (v := ?_) rfl rfl (by kernel_rfl) (by kernel_rfl) (by kernel_rfl) (by kernel_rfl) (fun _ _ _ h => h) (by rfl) (by assumption) ?_ ?_
              rotate_left
              · (intro wS hSw; (try dsimp only at hSw); go_simp; try with_reducible rfl)
              try simp only [Act.put, List.setIfInBounds_toArray, List.set_cons_zero, List.set_cons_succ]
              refine uTake (i := 7) (some 41) (v := ?_) rfl rfl (by kernel_rfl) (by kernel_rfl) (by kernel_rfl) (by kernel_rfl) (fun _ _ _ h => h) (by rfl) (by assumption) ?_ ?_
              rotate_left
              · (intro wS hSw; (try dsimp only at hSw); go_simp; try with_reducible rfl)
              try simp only [Act.put, List.setIfInBounds_toArray, List.set_cons_zero, List.set_cons_succ]
              refine uTake (i := 8) (some 42) (v := ?_) rfl rfl (by kernel_rfl) (by kernel_rfl) (by kernel_rfl) (by kernel_rfl) (fun _ _ _ h => h) (by rfl) (by assumption) ?_ ?_
              rotate_left
              · (intro wS hSw; (try dsimp only at hSw); go_simp; try with_reducible rfl)
              try simp only [Act.put, List.setIfInBounds_toArray, List.set_cons_zero, List.set_cons_succ]
              refine uTake (i := 9) (some 43) (v := ?_) rfl rfl (by kernel_rfl) (by kernel_rfl) (by kernel_rfl) (by kernel_rfl) (fun _ _ _ h => h) (by rfl) (by assumption) ?_ ?_
              rotate_left
              · (intro wS hSw; (try dsimp only at hSw); go_simp; try with_reducible rfl)
              try simp only [Act.put, List.setIfInBounds_toArray, List.set_cons_zero, List.set_cons_succ]
              have b1 := E9.out.bx 0 rfl
              have c1_0 := b1.cell 0 rfl
              have f1_0 := b1.frozen 0
              clear b1
              refine uReady (rs := [11]) (by kernel_rfl) (by simp) ?_
              refine ReadyU.cons rfl (fun KK hKK => ?_) ReadyU.nil
              go_simp
              have E10 : Hid (Env D w [(w3.heap.size, 25, [.slice ra rX.length rk]), (w2.heap.size, 3, [.int .i64 5000]), (w1.heap.size, 25, [.slice oa oX.length ok])] [.gn (gUl (.slice rc rY.length rj) rY), .gn (gUl (.slice ra rX.length rk) rX), .gn (gSp (mkS a 5000 [5000]) sa sb), .gn (gUl (.slice oa oX.length ok) oX), .gn (gUd oX)] _) := Lib.hid ((E9.out.set 0 0 (.slice ra rX.length rk) rfl))
              (try dsimp only)
              clear hHeld
              refine hKK.out _ _ (((E10.out.bx 2 rfl).cell 0 rfl)) (fun hHeld => ?_)
              clear hKK KK
              try simp only [Act.put, List.setIfInBounds_toArray, List.set_cons_zero, List.set_cons_succ]
              refine uTake (i := 12) (some 9) (v := ?_) rfl rfl (by kernel_rfl) (by kernel_rfl) (by kernel_rfl) (by kernel_rfl) (fun _ _ _ h => h) (by rfl) (by assumption) ?_ ?_
              rotate_left
              · (intro wS hSw; (try dsimp only at hSw); go_simp; try with_reducible rfl)
              try simp only [Act.put, List.setIfInBounds_toArray, List.set_cons_zero, List.set_cons_succ]
              refine uTake (i := 13) (some 10) (v := ?_) rfl rfl (by kernel_rfl) (by kernel_rfl) (by kernel_rfl) (by kernel_rfl) (fun _ _ _ h => h) (by rfl) (by assumption) ?_ ?_
              rotate_left
              · (intro wS hSw; (try dsimp only at hSw); go_simp; try with_reducible rfl)
              try simp only [Act.put, List.setIfInBounds_toArray, List.set_cons_zero, List.set_cons_succ]
              refine uDone (by kernel_rfl) ?_ _
              go_wp2_with fail
              go_meet
              exact ⟨w3.heap.size, sa, sb, ra, rk, rX, rc, rj, rY, rfl, rfl, rfl, Lib.hid ((Env.perm (F' := [(w2.heap.size, 3, [.int .i64 5000]), (w3.heap.size, 25, [.slice ra rX.length rk]), (w1.heap.size, 25, [.slice oa oX.length ok])]) E10.out (List.Perm.swap ..)).drop), rL, rC⟩
          · skip
            go_simp
            have E6 : Hid (Env D w [(w2.heap.size, 25, [.slice none 0 0]), (w1.heap.size, 25, [.slice oa oX.length ok])] [.gn (gUl (.slice oa oX.length ok) oX), .gn (gUd oX)] _) := Lib.hid ((E5.out.push 25 [.slice none 0 0] (w2.heap.size) (by simp)))
            (try dsimp only)
            clear hHeld
            refine hKK.out _ _ (((E6.out.bx 1 rfl).cell 0 rfl)) (fun hHeld => ?_)
            clear hKK KK
            try simp only [Act.put, List.setIfInBounds_toArray, List.set_cons_zero, List.set_cons_succ]
            clear E5
            generalize w2.alloc (.cells #[.slice none 0 0] 25) = w3 at *
            refine uReady (rs := [3]) (by kernel_rfl) (by simp) ?_
            refine ReadyU.cons rfl (fun KK hKK => ?_) ReadyU.nil
            go_simp
            have E7 : Hid (Env D w [(w3.heap.size, 3, [.int .i64 5000]), (w2.heap.size, 25, [.slice none 0 0]), (w1.heap.size, 25, [.slice oa oX.length ok])] [.gn (gUl (.slice oa oX.length ok) oX), .gn (gUd oX)] _) := Lib.hid ((E6.out.push 3 [.int .i64 5000] (w3.heap.size) (by simp)))
            (try dsimp only)
            clear hHeld
            refine hKK.out _ _ (((E7.out.bx 2 rfl).cell 0 rfl)) (fun hHeld => ?_)
            clear hKK KK
            try simp only [Act.put, List.setIfInBounds_toArray, List.set_cons_zero, List.set_cons_succ]
            clear E6
            generalize w3.alloc (.cells #[.int .i64 5000] 3) = w4 at *
            refine uReady (rs := [4]) (by kernel_rfl) (by simp) ?_
            refine ReadyU.cons rfl (fun KK hKK => ?_) ReadyU.nil
            go_simp
            refine (made_s a 5000 [5000] (D := fun _ => True) (Rw.ofBox (cs := icl [5000]) (n := 1) (k := 1) (cap := 1) (E7.out.bx 0 rfl) rfl (icl_one _) (by omega) (by omega)) ⟨HWA.out, HW5.out⟩ (by simp) rfl).mono ?_
            rintro e w5 ⟨⟨sa, sb, rfl, sh⟩, hb⟩
            have E8 : Hid (Env D w [(w3.heap.size, 3, [.int .i64 5000]), (w2.heap.size, 25, [.slice none 0 0]), (w1.heap.size, 25, [.slice oa oX.length ok])] [.gn (gSp (mkS a 5000 [5000]) sa sb), .gn (gUl (.slice oa oX.length ok) oX), .gn (gUd oX)] w5) := Lib.hid (E7.out.got (E7.out.below hb) (.gn (gSp (mkS a 5000 [5000]) sa sb)) (Lib.hid (gSp.ge sh.out)).out)
            clear E7 hb
            (try dsimp only)
            clear hHeld
            refine hKK.out _ _ (((E8.out.bx 2 rfl).cell 0 rfl)) (fun hHeld => ?_)
            clear hKK KK
            try simp only [Act.put, List.setIfInBounds_toArray, List.set_cons_zero, List.set_cons_succ]
            refine uReady (rs := [5]) (by kernel_rfl) (by simp) ?_
            refine ReadyU.cons rfl (fun KK hKK => ?_) ReadyU.nil
            go_simp
            refine (put_t oX (mkS a 5000 [5000]) (E8.out.fc 1 rfl) (E8.out.fc 0 rfl) (valid_bd HVX.out) (st_bd (one_st _ _ _)) (Nat.le_trans (valid_len HVX.out) (by omega)) (L := []) (C := []) (n := 5) (by rw [HX.out]; exact full_full a)).mono ?_
            rintro e w6 ⟨⟨ra, rk, rX, rc, rj, rY, rfl, r1, r2, rH, rI⟩, hb⟩
            have E9 : Hid (Env D w [(w3.heap.size, 3, [.int .i64 5000]), (w2.heap.size, 25, [.slice none 0 0]), (w1.heap.size, 25, [.slice oa oX.length ok])] [.gn (gUl (.slice rc rY.length rj) rY), .gn (gUl (.slice ra rX.length rk) rX), .gn (gSp (mkS a 5000 [5000]) sa sb), .gn (gUl (.slice oa oX.length ok) oX), .gn (gUd oX)] w6) := Lib.hid (E8.out.got (E8.out.got (E8.out.below hb) (.gn (gUl (.slice ra rX.length rk) rX)) rH.out) (.gn (gUl (.slice rc rY.length rj) rY)) rI.out)
            clear E8 hb rH rI
            have rL := Lib.hid r1; have rC := Lib.hid r2; clear r1 r2
            (try dsimp only)
            clear hHeld
            refine hKK.out _ _ (((E9.out.bx 2 rfl).cell 0 rfl)) (fun hHeld => ?_)
            clear hKK KK
            try simp only [Act.put, List.setIfInBounds_toArray, List.set_cons_zero, List.set_cons_succ]
            refine uTake (i := 6) (some 34) (v := ?_) rfl rfl (by kernel_rfl) (by kernel_rfl) (by kernel_rfl) (by kernel_rfl) (fun _ _ _ h => h) (by rfl) (by assumption) ?_ ?_
            rotate_left
            · (intro wS hSw; (try dsimp only at hSw); go_simp; try with_reducible rfl)
            try simp only [Act.put, List.setIfInBounds_toArray, List.set_cons_zero, List.set_cons_succ]
            refine uTake (i := 7) (some 41) (v := ?_) rfl rfl (by kernel_rfl) (by kernel_rfl) (by kernel_rfl) (by kernel_rfl) (fun _ _ _ h => h) (by rfl) (by assumption) ?_ ?_
            rotate_left
            · (intro wS hSw; (try dsimp only at hSw); go_simp; try with_reducible rfl)
            try simp only [Act.put, List.setIfInBounds_toArray, List.set_cons_zero, List.set_cons_succ]
            refine uTake (i := 8) (some 42) (v := ?_) rfl rfl (by kernel_rfl) (by kernel_rfl) (by kernel_rfl) (by kernel_rfl) (fun _ _ _ h => h) (by rfl) (by assumption) ?_ ?_
            rotate_left
            · (intro wS hSw; (try dsimp only at hSw); go_simp; try with_reducible rfl)
            try simp only [Act.put, List.setIfInBounds_toArray, List.set_cons_zero, List.set_cons_succ]
            refine uTake (i := 9) (some 43) (v := ?_) rfl rfl (by kernel_rfl) (by kernel_rfl) (by kernel_rfl) (by kernel_rfl) (fun _ _ _ h => h) (by rfl) (by assumption) ?_ ?_
            rotate_left
            · (intro wS hSw; (try dsimp only at hSw); go_simp; try with_reducible rfl)
            try simp only [Act.put, List.setIfInBounds_toArray, List.set_cons_zero, List.set_cons_succ]
            have b1 := E9.out.bx 1 rfl
            have c1_0 := b1.cell 0 rfl
            have f1_0 := b1.frozen 0
            clear b1
            refine uReady (rs := [11]) (by kernel_rfl) (by simp) ?_
            refine ReadyU.cons rfl (fun KK hKK => ?_) ReadyU.nil
            go_simp
            have E10 : Hid (Env D w [(w3.heap.size, 3, [.int .i64 5000]), (w2.heap.size, 25, [.slice ra rX.length rk]), (w1.heap.size, 25, [.slice oa oX.length ok])] [.gn (gUl (.slice rc rY.length rj) rY), .gn (gUl (.slice ra rX.length rk) rX), .gn (gSp (mkS a 5000 [5000]) sa sb), .gn (gUl (.slice oa oX.length ok) oX), .gn (gUd oX)] _) := Lib.hid ((E9.out.set 1 0 (.slice ra rX.length rk) rfl))
            (try dsimp only)
            clear hHeld
            refine hKK.out _ _ (((E10.out.bx 2 rfl).cell 0 rfl)) (fun hHeld => ?_)
            clear hKK KK
            try simp only [Act.put, List.setIfInBounds_toArray, List.set_cons_zero, List.set_cons_succ]
            refine uTake (i := 12) (some 9) (v := ?_) rfl rfl (by kernel_rfl) (by kernel_rfl) (by kernel_rfl) (by kernel_rfl) (fun _ _ _ h => h) (by rfl) (by assumption) ?_ ?_
            rotate_left
            · (intro wS hSw; (try dsimp only at hSw); go_simp; try with_reducible rfl)
            try simp only [Act.put, List.setIfInBounds_toArray, List.set_cons_zero, List.set_cons_succ]
            refine uTake (i := 13) (some 10) (v := ?_) rfl rfl (by kernel_rfl) (by kernel_rfl) (by kernel_rfl) (by kernel_rfl) (fun _ _ _ h => h) (by rfl) (by assumption) ?_ ?_
            rotate_left
            · (intro wS hSw; (try dsimp only at hSw); go_simp; try with_reducible rfl)
            try simp only [Act.put, List.setIfInBounds_toArray, List.set_cons_zero, List.set_cons_succ]
            refine uDone (by kernel_rfl) ?_ _
            go_wp2_with fail
            go_meet
            exact ⟨w2.heap.size, sa, sb, ra, rk, rX, rc, rj, rY, rfl, rfl, rfl, Lib.hid (E10.out.drop), rL, rC⟩
        case rest =>
          obtain ⟨gr, sa, sb, ra, rk, rX, rc, rj, rY, rfl, rfl, rfl, E11, rL, rC⟩ := hcut
          clear E4 EL
          have hl0 : rY.length = 0 := by have h := congrArg List.length rC.out; simpa using h
          have i0 : ((rY.length : Int) == 0) = true := by rw [hl0]; rfl
          have i0n : (rY.length == 0) = true := by rw [hl0]; rfl
          clear hl0
          have hx0 : rX.length = 0 := by have h := congrArg List.length rL.out; simpa using h
          have i1 : ((rX.length : Int) == 0) = true := by rw [hx0]; rfl
          have i1n : (rX.length == 0) = true := by rw [hx0]; rfl
          clear hx0
          have b2 := E11.out.bx 0 rfl
          have c2_0 := b2.cell 0 rfl
          clear b2
          have hfin := Lib.hid E11.out.bel
          go_wp2
          go_ret
          exact ⟨rfl, hfin.out⟩
      have hk : k < 2000 := by omega
      have t6 : decide ((k : Int) < 2000) = true := decide_eq_true (by omega)
      have t7 : decide (k < 2000) = true := decide_eq_true (by omega)
      clear hy
      have hol : oX.length = k := by have h := congrArg List.length HX.out; rwa [List.length_map, fullT_len] at h
      have HOL : Hid (oX.length + 1 ≤ 1000000) := Lib.hid (by omega)
      clear hol
      have HWK := Lib.hid (wI_of (a := (k : Int)) (by omega))
      obtain ⟨ms, hms⟩ : ∃ ms, ms = mkS a (k : Int) [(k : Int)] := ⟨_, rfl⟩
      have HMS := Lib.hid hms
      have mS : Hid (SpOk ms) := Lib.hid (by rw [hms]; exact mkS_ok HWA.out HWK.out _)
      clear hms
      obtain ⟨nu, hnu⟩ : ∃ nu : Us, nu = ⟨a, (k : Int), ms, 0⟩ := ⟨_, rfl⟩
      have HNU := Lib.hid hnu
      have nS : Hid (SpOk nu.sp) := Lib.hid (by rw [hnu]; exact mS.out)
      clear hnu
      go_upto_region 10 with (fail)
      go_wp2_with fail
      have E4 : Hid (Env D w ((w1.heap.size, 25, [.slice oa oX.length ok]) :: os) [.gn (gUd oX)] (wr.drew)) := Lib.hid EL.out.drew
      clear EL
      refine wp_regionU (S := fun w' => w'.cell? ⟨w1.heap.size, 0, none⟩ = some (.slice oa oX.length ok)) [15] (by kernel_rfl) (((E4.out.bx 0 rfl).cell 0 rfl)) (fun hHeld => ?_)
      generalize wr.drew = w2 at *
      refine uTake (i := 0) (some 18) (v := ?_) rfl rfl (by kernel_rfl) (by kernel_rfl) (by kernel_rfl) (by kernel_rfl) (fun _ _ _ h => h) (by rfl) (by assumption) ?_ ?_
      rotate_left
      · (intro wS hSw; (try dsimp only at hSw); go_simp; try with_reducible rfl)
      try simp only [Act.put, List.setIfInBounds_toArray, List.set_cons_zero, List.set_cons_succ]
      refine uTake (i := 1) (some 19) (v := ?_) rfl rfl (by kernel_rfl) (by kernel_rfl) (by kernel_rfl) (by kernel_rfl) (fun _ _ _ h => h) (by rfl) (by assumption) ?_ ?_
      rotate_left
      · (intro wS hSw; (try dsimp only at hSw); go_simp; try with_reducible rfl)
      try simp only [Act.put, List.setIfInBounds_toArray, List.set_cons_zero, List.set_cons_succ]
      refine uTake (i := 2) (some 20) (v := ?_) rfl rfl (by kernel_rfl) (by kernel_rfl) (by kernel_rfl) (by kernel_rfl) (fun _ _ _ h => h) (by rfl) (by assumption) ?_ ?_
      rotate_left
      · (intro wS hSw; (try dsimp only at hSw); go_simp; try with_reducible rfl)
      try simp only [Act.put, List.setIfInBounds_toArray, List.set_cons_zero, List.set_cons_succ]
      refine uTake (i := 3) (some 21) (v := ?_) rfl rfl (by kernel_rfl) (by kernel_rfl) (by kernel_rfl) (by kernel_rfl) (fun _ _ _ h => h) (by rfl) (by assumption) ?_ ?_
      rotate_left
      · (intro wS hSw; (try dsimp only at hSw); go_simp; try with_reducible rfl)
      try simp only [Act.put, List.setIfInBounds_toArray, List.set_cons_zero, List.set_cons_succ]
      refine uTake (i := 4) (some 22) (v := ?_) rfl rfl (by kernel_rfl) (by kernel_rfl) (by kernel_rfl) (by kernel_rfl) (fun _ _ _ h => h) (by rfl) (by assumption) ?_ ?_
      rotate_left
      · (intro wS hSw; (try dsimp only at hSw); go_simp; try with_reducible rfl)
      try simp only [Act.put, List.setIfInBounds_toArray, List.set_cons_zero, List.set_cons_succ]
      refine uTake (i := 5) (some 23) (v := ?_) rfl rfl (by kernel_rfl) (by kernel_rfl) (by kernel_rfl) (by kernel_rfl) (fun _ _ _ h => h) (by rfl) (by assumption) ?_ ?_
      rotate_left
      · (intro wS hSw; (try dsimp only at hSw); go_simp; try with_reducible rfl)
      try simp only [Act.put, List.setIfInBounds_toArray, List.set_cons_zero, List.set_cons_succ]
      refine uTake (i := 6) (some 24) (v := ?_) rfl rfl (by kernel_rfl) (by kernel_rfl) (by kernel_rfl) (by kernel_rfl) (fun _ _ _ h => h) (by rfl) (by assumption) ?_ ?_
      rotate_left
      · (intro wS hSw; (try dsimp only at hSw); go_simp; try with_reducible rfl)
      try simp only [Act.put, List.setIfInBounds_toArray, List.set_cons_zero, List.set_cons_succ]
      refine uTake (i := 7) (some 25) (v := ?_) rfl rfl (by kernel_rfl) (by kernel_rfl) (by kernel_rfl) (by kernel_rfl) (fun _ _ _ h => h) (by rfl) (by assumption) ?_ ?_
      rotate_left
      · (intro wS hSw; (try dsimp only at hSw); go_simp; try with_reducible rfl)
      try simp only [Act.put, List.setIfInBounds_toArray, List.set_cons_zero, List.set_cons_succ]
      refine uTake (i := 8) (some 26) (v := ?_) rfl rfl (by kernel_rfl) (by kernel_rfl) (by kernel_rfl) (by kernel_rfl) (fun _ _ _ h => h) (by rfl) (by assumption) ?_ ?_
      rotate_left
      · (intro wS hSw; (try dsimp only at hSw); go_simp; try with_reducible rfl)
      try simp only [Act.put, List.setIfInBounds_toArray, List.set_cons_zero, List.set_cons_succ]
      refine uReady (rs := [9]) (by kernel_rfl) (by simp) ?_
      refine ReadyU.cons rfl (fun KK hKK => ?_) ReadyU.nil
      go_simp
      have E5 : Hid (Env D w ((w2.heap.size, 3, [.int .i64 (k : Int)]) :: (w1.heap.size, 25, [.slice oa oX.length ok]) :: os) [.gn (gUd oX)] _) := Lib.hid ((E4.out.push 3 [.int .i64 (k : Int)] (w2.heap.size) (by simp)))
      (try dsimp only)
      clear hHeld
      refine hKK.out _ _ (((E5.out.bx 1 rfl).cell 0 rfl)) (fun hHeld => ?_)
      clear hKK KK
      try simp only [Act.put, List.setIfInBounds_toArray, List.set_cons_zero, List.set_cons_succ]
      clear E4
      generalize w2.alloc (.cells #[.int .i64 (k : Int)] 3) = w3 at *
      refine uReady (rs := [10]) (by kernel_rfl) (by simp) ?_
      refine ReadyU.cons rfl (fun KK hKK => ?_) ReadyU.nil
      go_simp
      refine (made_s a (k : Int) [(k : Int)] (D := fun _ => True) (Rw.ofBox (cs := icl [(k : Int)]) (n := 1) (k := 1) (cap := 1) (E5.out.bx 0 rfl) rfl (icl_one _) (by omega) (by omega)) ⟨HWA.out, HWK.out⟩ (by simp) HMS.out).mono ?_
      rintro e w4 ⟨⟨ya, yb, rfl, yh⟩, hb⟩
      have E6 : Hid (Env D w ((w2.heap.size, 3, [.int .i64 (k : Int)]) :: (w1.heap.size, 25, [.slice oa oX.length ok]) :: os) [.gn (gSp ms ya yb), .gn (gUd oX)] w4) := Lib.hid (E5.out.got (E5.out.below hb) (.gn (gSp ms ya yb)) (Lib.hid (gSp.ge yh.out)).out)
      clear E5 hb
      have yN : Hid (∀ v ∈ usc nu ya yb, v.oneCell' = true) := Lib.hid (usc_one nS.out (Rw.oneV (E6.out.fc 0 rfl).2.1) (Rw.oneV (E6.out.fc 0 rfl).2.2))
      (try dsimp only)
      clear hHeld
      refine hKK.out _ _ (((E6.out.bx 1 rfl).cell 0 rfl)) (fun hHeld => ?_)
      clear hKK KK
      try simp only [Act.put, List.setIfInBounds_toArray, List.set_cons_zero, List.set_cons_succ]
      refine uTake (i := 11) (some 29) (v := .agg (usc nu ya yb).toArray) rfl rfl (by kernel_rfl) (by kernel_rfl) (by kernel_rfl) (by kernel_rfl) (fun _ _ _ h => h) (by rfl) (by assumption) ?_ ?_
      · (intro wS hSw; (try dsimp only at hSw); exact exec_use3 (la := ya) (pa := yb) HNU.out mS.out ⟨_, _, _, rfl, rfl, rfl, rfl⟩)
      try simp only [Act.put, List.setIfInBounds_toArray, List.set_cons_zero, List.set_cons_succ]
      refine uReady (rs := [12]) (by kernel_rfl) (by simp) ?_
      refine ReadyU.cons rfl (fun KK hKK => ?_) ReadyU.nil
      refine op_slice1 (some 30) rfl rfl (.tmp 29) rfl (usc nu ya yb) (usc_len nS.out _ _) (by simp [Act.eval, Act.put]; done) ?_
      have E7 : Hid (Env D w ((w4.heap.size, 44, usc nu ya yb) :: (w2.heap.size, 3, [.int .i64 (k : Int)]) :: (w1.heap.size, 25, [.slice oa oX.length ok]) :: os) [.gn (gSp ms ya yb), .gn (gUd oX)] _) := Lib.hid ((E6.out.push 44 (usc nu ya yb) (w4.heap.size) (by simp)))
      (try dsimp only)
      clear hHeld
      refine hKK.out _ _ (((E7.out.bx 2 rfl).cell 0 rfl)) (fun hHeld => ?_)
      clear hKK KK
      try simp only [Act.put, List.setIfInBounds_toArray, List.set_cons_zero, List.set_cons_succ]
      clear E6
      generalize w4.alloc (.cells (usc nu ya yb).toArray 44) = w5 at *
      refine uReady (rs := [13]) (by kernel_rfl) (by simp) ?_
      refine ReadyU.cons rfl (fun KK hKK => ?_) ReadyU.nil
      refine op_app1 (c := 1) tiUse (some 31) rfl rfl (.tmp 19) (.tmp 30) rfl E7.out (A := [(w4.heap.size, 44, usc nu ya yb), (w2.heap.size, 3, [.int .i64 (k : Int)]), (w1.heap.size, 25, [.slice oa oX.length ok])]) (sg := os) (B' := []) (F := ((w4.heap.size, 44, usc nu ya yb) :: (w2.heap.size, 3, [.int .i64 (k : Int)]) :: (w1.heap.size, 25, [.slice oa oX.length ok]) :: os)) (by simp) (oO.out.os rfl) (by simp [Act.eval, Act.put]) (by simp [Act.eval, Act.put]; done) (SrcN.box (m := 1) (E7.out.bx 0 rfl) (usc_len nS.out _ _) yN.out) HOL.out ?_
      intro zg zp zc w6 zH zT zE
      have zO := Lib.hid (OU.app (x := Uv.mk nu ya yb) (g' := zg) (cs' := zc) (cap' := zp) oO.out rfl zH.out zT.out)
      have E8 : Hid (Env D w ((w4.heap.size, 44, usc nu ya yb) :: (w2.heap.size, 3, [.int .i64 (k : Int)]) :: (w1.heap.size, 25, [.slice oa oX.length ok]) :: [(zg, 44, zc)]) [.gn (gUd (oX ++ [Uv.mk nu ya yb])), .gn (gSp ms ya yb), .gn (gUd oX)] w6) := Lib.hid ((zE.out.note (.gn (gUd (oX ++ [Uv.mk nu ya yb]))) (gUd.app (x := Uv.mk nu ya yb) (zE.out.fc 1 rfl) (gSp.cast (s := ms) (by rw [HNU.out]) (zE.out.fc 0 rfl)))).cast (by simp))
      clear E7 zE zH zT oO
      (try dsimp only)
      clear hHeld
      refine hKK.out _ _ (((E8.out.bx 2 rfl).cell 0 rfl)) (fun hHeld => ?_)
      clear hKK KK
      try simp only [Act.put, List.setIfInBounds_toArray, List.set_cons_zero, List.set_cons_succ]
      refine uTake (i := 14) (some 32) (v := ?_) rfl rfl (by kernel_rfl) (by kernel_rfl) (by kernel_rfl) (by kernel_rfl) (fun _ _ _ h => h) (by rfl) (by assumption) ?_ ?_
      rotate_left
      · (intro wS hSw; (try dsimp only at hSw); go_simp; try with_reducible rfl)
      try simp only [Act.put, List.setIfInBounds_toArray, List.set_cons_zero, List.set_cons_succ]
      have b1 := E8.out.bx 2 rfl
      have c1_0 := b1.cell 0 rfl
      have f1_0 := b1.frozen 0
      clear b1
      refine uReady (rs := [15]) (by kernel_rfl) (by simp) ?_
      refine ReadyU.consU (by kernel_rfl) rfl (fun KK hKK => ?_) ReadyU.nil
      go_simp
      have E9 : Hid (Env D w ((w4.heap.size, 44, usc nu ya yb) :: (w2.heap.size, 3, [.int .i64 (k : Int)]) :: (w1.heap.size, 25, [.slice (some ⟨zg, 0, none⟩) (oX.length + 1) zp]) :: [(zg, 44, zc)]) [.gn (gUd (oX ++ [Uv.mk nu ya yb])), .gn (gSp ms ya yb), .gn (gUd oX)] _) := Lib.hid ((E8.out.set 2 0 (.slice (some ⟨zg, 0, none⟩) (oX.length + 1) zp) rfl))
      (try dsimp only)
      (try clear hHeld)
      refine hKK.out _ _ ?_
      clear hKK KK
      try simp only [Act.put, List.setIfInBounds_toArray, List.set_cons_zero, List.set_cons_succ]
      refine uDone (by kernel_rfl) ?_ _
      have HX2 : Hid ((oX ++ [Uv.mk nu ya yb]).map Uv.u = fullT a (k + 1)) := Lib.hid (by rw [List.map_append, HX.out, fullT_succ]; show _ ++ [nu] = _; rw [HNU.out, HMS.out])
      have hZ := ((E9.out.drop).drop)
      have EZ : Hid (Env D w ((w1.heap.size, 25, [.slice (some ⟨zg, 0, none⟩) (oX.length + 1) zp]) :: [(zg, 44, zc)]) [.gn (gUd (oX ++ [Uv.mk nu ya yb]))] _) := Lib.hid ⟨hZ.bel, hZ.box, ⟨hZ.fc 0 rfl, trivial⟩⟩
      clear hZ
      go_wp2
      go_roundg (2000 - (k + 1))
      case rel => exact ⟨k + 1, [(zg, 44, zc)], zc, (some ⟨zg, 0, none⟩), zp, oX ++ [Uv.mk nu ya yb], rfl, Lib.hid (EZ.out.cast (by simp)), (OU.len' zO), Lib.hid ⟨⟨by omega, rfl⟩, HX2.out⟩⟩
      case measure => exact by omega
  | true =>
    have E2 : Hid (Env D w [(w1.heap.size, 25, [.slice none 0 0])] [] _) := Lib.hid ((E1.out.push 25 [.slice none 0 0] (w1.heap.size) (by simp)))
    have E3 : Hid (Env D w ((w1.heap.size, 25, [.slice none 0 0]) :: ([] : List Bx)) [.gn (gUd [])] _) := Lib.hid ((E2.out.note (.gn (gUd [])) gUd.nil).cast (by simp))
    go_wp2_with fail
    have hZ := E3.out
    have ES : Hid (Env D w ((w1.heap.size, 25, [.slice none 0 0]) :: ([] : List Bx)) [.gn (gUd [])] _) := Lib.hid ⟨hZ.bel, hZ.box, ⟨hZ.fc 0 rfl, trivial⟩⟩
    clear hZ
    go_loopg [15] (1999) (fun gk s15 wr => ∃ (k : Nat) (os : List Bx) (oc : List Value) (oa : Option Addr) (ok : Nat) (oX : List Uv), s15 = .int .i64 (k : Int) ∧ Hid (Env D w ((w1.heap.size, 25, [.slice oa oX.length ok]) :: os) [.gn (gUd oX)] wr) ∧ Hid (OU os oc (.slice oa oX.length ok) oX) ∧ Hid ((k ≤ 1999 ∧ gk = 1999 - k) ∧ oX.map Uv.u = fullT a k))
    case atStart => exact ⟨0, ([] : List Bx), [], none, 0, [], rfl, Lib.hid (ES.out.cast (by simp)), (Lib.hid OU.nil), Lib.hid ⟨⟨Nat.zero_le _, rfl⟩, rfl⟩⟩
    case round =>
      clear E1 E2 E3 ES
      obtain ⟨k, os, oc, oa, ok, oX, rfl, EL, oO, HA⟩ := hrel
      obtain ⟨⟨a1, a2⟩, a3⟩ := HA.out
      have HX := Lib.hid a3
      clear a3 HA
      by_cases hy : k = 1999
      · subst hy
        have t6 : decide (((1999 : Nat) : Int) < 1999) = false := decide_eq_false (by omega)
        have t6b : decide ((1999 : Int) < 1999) = false := decide_eq_false (by omega)
        have HVX : Hid (ValidT (oX.map Uv.u)) := Lib.hid (by rw [HX.out]; exact fullT_valid a (by omega))
        go_upto_region 12 with (fail)
        have E4 : Hid (Env D w [(w1.heap.size, 25, [.slice oa oX.length ok])] [.gn (gUl (.slice oa oX.length ok) oX), .gn (gUd oX)] _) := Lib.hid (Env.freezeU (A := [(w1.heap.size, 25, [.slice oa oX.length ok])]) (sg := os) (EL.out.cast (by simp)) oO.out 0 rfl)
        obtain ⟨L9, hl1, hl2, hl3⟩ := full_more a
        have HL1 := Lib.hid hl1
        have HL2 := Lib.hid hl2
        have HL3 := Lib.hid hl3
        clear hl1 hl2 hl3
        go_upto_region 12 with (fail)
        go_cut [8, 9, 10] (fun s8 s9 s10 wx => ∃ gr sa sb ra rk rX rc rj rY, s8 = .pointer (some ⟨gr, 0, none⟩) ∧ s9 = .slice rc rY.length rj ∧ s10 = .int .i64 0 ∧ Hid (Env D w [(gr, 25, [.slice ra rX.length rk]), (w1.heap.size, 25, [.slice oa oX.length ok])] [.gn (gUl (.slice rc rY.length rj) rY), .gn (gUl (.slice ra rX.length rk) rX), .gn (gSp (mkS a 5000 [5000]) sa sb), .gn (gUl (.slice oa oX.length ok) oX), .gn (gUd oX)] wx) ∧ Hid (rX.map Uv.u = L9) ∧ Hid (rY.map Uv.u = []))
        case first =>
          have E5 : Hid (Env D w [(w1.heap.size, 25, [.slice oa oX.length ok])] [.gn (gUl (.slice oa oX.length ok) oX), .gn (gUd oX)] (wr.drew)) := Lib.hid E4.out.drew
          clear E4
          refine wp_regionU (S := fun w' => w'.cell? ⟨w1.heap.size, 0, none⟩ = some (.slice oa oX.length ok)) [] (by kernel_rfl) (((E5.out.bx 0 rfl).cell 0 rfl)) (fun hHeld => ?_)
          generalize wr.drew = w2 at *
          refine uTake (i := 0) (some 35) (v := ?_) rfl rfl (by kernel_rfl) (by kernel_rfl) (by kernel_rfl) (by kernel_rfl) (fun _ _ _ h => h) (by rfl) (by assumption) ?_ ?_
          rotate_left
          · (intro wS hSw; (try dsimp only at hSw); go_simp; try with_reducible rfl)
          try simp only [Act.put, List.setIfInBounds_toArray, List.set_cons_zero, List.set_cons_succ]
          refine uTake (i := 1) (some 36) (v := ?_) rfl rfl (by kernel_rfl) (by kernel_rfl) (by kernel_rfl) (by kernel_rfl) (fun _ _ _ h => h) (by rfl) (by assumption) ?_ ?_
          rotate_left
          · (intro wS hSw; (try dsimp only at hSw); go_simp; try with_reducible rfl)
          try simp only [Act.put, List.setIfInBounds_toArray, List.set_cons_zero, List.set_cons_succ]
          refine uTake (i := 2) (some 37) (v := ?_) rfl rfl (by kernel_rfl) (by kernel_rfl) (by kernel_rfl) (by kernel_rfl) (fun _ _ _ h => h) (by rfl) (by assumption) ?_ ?_
          rotate_left
          · (intro wS hSw; (try dsimp only at hSw); go_simp; try with_reducible rfl)
          try simp only [Act.put, List.setIfInBounds_toArray, List.set_cons_zero, List.set_cons_succ]
          refine uReady (rs := [3, 10]) (by kernel_rfl) (by simp) ?_
          refine (ReadyU.cons rfl (fun KK hKK => ?_) (ReadyU.cons rfl (fun KK hKK => ?_) ReadyU.nil))
          · skip
            go_simp
            have E6 : Hid (Env D w [(w2.heap.size, 3, [.int .i64 5000]), (w1.heap.size, 25, [.slice oa oX.length ok])] [.gn (gUl (.slice oa oX.length ok) oX), .gn (gUd oX)] _) := Lib.hid ((E5.out.push 3 [.int .i64 5000] (w2.heap.size) (by simp)))
            (try dsimp only)
            clear hHeld
            refine hKK.out _ _ (((E6.out.bx 1 rfl).cell 0 rfl)) (fun hHeld => ?_)
            clear hKK KK
            try simp only [Act.put, List.setIfInBounds_toArray, List.set_cons_zero, List.set_cons_succ]
            clear E5
            generalize w2.alloc (.cells #[.int .i64 5000] 3) = w3 at *
            refine uReady (rs := [4, 10]) (by kernel_rfl) (by simp) ?_
            refine (ReadyU.cons rfl (fun KK hKK => ?_) (ReadyU.cons rfl (fun KK hKK => ?_) ReadyU.nil))
            · skip
              go_simp
              refine (made_s a 5000 [5000] (D := fun _ => True) (Rw.ofBox (cs := icl [5000]) (n := 1) (k := 1) (cap := 1) (E6.out.bx 0 rfl) rfl (icl_one _) (by omega) (by omega)) ⟨HWA.out, HW5.out⟩ (by simp) rfl).mono ?_
              rintro e w4 ⟨⟨sa, sb, rfl, sh⟩, hb⟩
              have E7 : Hid (Env D w [(w2.heap.size, 3, [.int .i64 5000]), (w1.heap.size, 25, [.slice oa oX.length ok])] [.gn (gSp (mkS a 5000 [5000]) sa sb), .gn (gUl (.slice oa oX.length ok) oX), .gn (gUd oX)] w4) := Lib.hid (E6.out.got (E6.out.below hb) (.gn (gSp (mkS a 5000 [5000]) sa sb)) (Lib.hid (gSp.ge sh.out)).out)
              clear E6 hb
              (try dsimp only)
              clear hHeld
              refine hKK.out _ _ (((E7.out.bx 1 rfl).cell 0 rfl)) (fun hHeld => ?_)
              clear hKK KK
              try simp only [Act.put, List.setIfInBounds_toArray, List.set_cons_zero, List.set_cons_succ]
              refine uReady (rs := [5, 10]) (by kernel_rfl) (by simp) ?_
              refine (ReadyU.cons rfl (fun KK hKK => ?_) (ReadyU.cons rfl (fun KK hKK => ?_) ReadyU.nil))
              · skip
                go_simp
                refine (put_t oX (mkS a 5000 [5000]) (E7.out.fc 1 rfl) (E7.out.fc 0 rfl) (valid_bd HVX.out) (st_bd (one_st _ _ _)) (Nat.le_trans (valid_len HVX.out) (by omega)) (L := L9) (C := []) (n := 0) (by rw [HX.out]; exact HL1.out)).mono ?_
                rintro e w5 ⟨⟨ra, rk, rX, rc, rj, rY, rfl, r1, r2, rH, rI⟩, hb⟩
                have E8 : Hid (Env D w [(w2.heap.size, 3, [.int .i64 5000]), (w1.heap.size, 25, [.slice oa oX.length ok])] [.gn (gUl (.slice rc rY.length rj) rY), .gn (gUl (.slice ra rX.length rk) rX), .gn (gSp (mkS a 5000 [5000]) sa sb), .gn (gUl (.slice oa oX.length ok) oX), .gn (gUd oX)] w5) := Lib.hid (E7.out.got (E7.out.got (E7.out.below hb) (.gn (gUl (.slice ra rX.length rk) rX)) rH.out) (.gn (gUl (.slice rc rY.length rj) rY)) rI.out)
                clear E7 hb rH rI
                have rL := Lib.hid r1; have rC := Lib.hid r2; clear r1 r2
                (try dsimp only)
                clear hHeld
                refine hKK.out _ _ (((E8.out.bx 1 rfl).cell 0 rfl)) (fun hHeld => ?_)
                clear hKK KK
                try simp only [Act.put, List.setIfInBounds_toArray, List.set_cons_zero, List.set_cons_succ]
                refine uTake (i := 6) (some 34) (v := ?_) rfl rfl (by kernel_rfl) (by kernel_rfl) (by kernel_rfl) (by kernel_rfl) (fun _ _ _ h => h) (by rfl) (by assumption) ?_ ?_
                rotate_left
                · (intro wS hSw; (try dsimp only at hSw); go_simp; try with_reducible rfl)
                try simp only [Act.put, List.setIfInBounds_toArray, List.set_cons_zero, List.set_cons_succ]
                refine uTake (i := 7) (some 41) (v := ?_) rfl rfl (by kernel_rfl) (by kernel_rfl) (by kernel_rfl) (by kernel_rfl) (fun _ _ _ h => h) (by rfl) (by assumption) ?_ ?_
                rotate_left
                · (intro wS hSw; (try dsimp only at hSw); go_simp; try with_reducible rfl)
                try simp only [Act.put, List.setIfInBounds_toArray, List.set_cons_zero, List.set_cons_succ]
                refine uTake (i := 8) (some 42) (v := ?_) rfl rfl (by kernel_rfl) (by kernel_rfl) (by kernel_rfl) (by kernel_rfl) (fun _ _ _ h => h) (by rfl) (by assumption) ?_ ?_
                rotate_left
                · (intro wS hSw; (try dsimp only at hSw); go_simp; try with_reducible rfl)
                try simp only [Act.put, List.setIfInBounds_toArray, List.set_cons_zero, List.set_cons_succ]
                refine uTake (i := 9) (some 43) (v := ?_) rfl rfl (by kernel_rfl) (by kernel_rfl) (by kernel_rfl) (by kernel_rfl) (fun _ _ _ h => h) (by rfl) (by assumption) ?_ ?_
                rotate_left
                · (intro wS hSw; (try dsimp only at hSw); go_simp; try with_reducible rfl)
                try simp only [Act.put, List.setIfInBounds_toArray, List.set_cons_zero, List.set_cons_succ]
                refine uReady (rs := [10]) (by kernel_rfl) (by simp) ?_
                refine ReadyU.cons rfl (fun KK hKK => ?_) ReadyU.nil
                go_simp
                have E9 : Hid (Env D w [(w5.heap.size, 25, [.slice none 0 0]), (w2.heap.size, 3, [.int .i64 5000]), (w1.heap.size, 25, [.slice oa oX.length ok])] [.gn (gUl (.slice rc rY.length rj) rY), .gn (gUl (.slice ra rX.length rk) rX), .gn (gSp (mkS a 5000 [5000]) sa sb), .gn (gUl (.slice oa oX.length ok) oX), .gn (gUd oX)] _) := Lib.hid ((E8.out.push 25 [.slice none 0 0] (w5.heap.size) (by simp)))
                (try dsimp only)
                clear hHeld
                refine hKK.out _ _ (((E9.out.bx 2 rfl).cell 0 rfl)) (fun hHeld => ?_)
                clear hKK KK
                try simp only [Act.put, List.setIfInBounds_toArray, List.set_cons_zero, List.set_cons_succ]
                clear E8
                generalize w5.alloc (.cells #[.slice none 0 0] 25) = w6 at *
                have b1 := E9.out.bx 0 rfl
                have c1_0 := b1.cell 0 rfl
                have f1_0 := b1.frozen 0
                clear b1
                refine uReady (rs := [11]) (by kernel_rfl) (by simp) ?_
                refine ReadyU.cons rfl (fun KK hKK => ?_) ReadyU.nil
                go_simp
                have E10 : Hid (Env D w [(w5.heap.size, 25, [.slice ra rX.length rk]), (w2.heap.size, 3, [.int .i64 5000]), (w1.heap.size, 25, [.slice oa oX.length ok])] [.gn (gUl (.slice rc rY.length rj) rY), .gn (gUl (.slice ra rX.length rk) rX), .gn (gSp (mkS a 5000 [5000]) sa sb), .gn (gUl (.slice oa oX.length ok) oX), .gn (gUd oX)] _) := Lib.hid ((E9.out.set 0 0 (.slice ra rX.length rk) rfl))
                (try dsimp only)
                clear hHeld
                refine hKK.out _ _ (((E10.out.bx 2 rfl).cell 0 rfl)) (fun hHeld => ?_)
                clear hKK KK
                try simp only [Act.put, List.setIfInBounds_toArray, List.set_cons_zero, List.set_cons_succ]
                refine uTake (i := 12) (some 9) (v := ?_) rfl rfl (by kernel_rfl) (by kernel_rfl) (by kernel_rfl) (by kernel_rfl) (fun _ _ _ h => h) (by rfl) (by assumption) ?_ ?_
                rotate_left
                · (intro wS hSw; (try dsimp only at hSw); go_simp; try with_reducible rfl)
                try simp only [Act.put, List.setIfInBounds_toArray, List.set_cons_zero, List.set_cons_succ]
                refine uTake (i := 13) (some 10) (v := ?_) rfl rfl (by kernel_rfl) (by kernel_rfl) (by kernel_rfl) (by kernel_rfl) (fun _ _ _ h => h) (by rfl) (by assumption) ?_ ?_
                rotate_left
                · (intro wS hSw; (try dsimp only at hSw); go_simp; try with_reducible rfl)
                try simp only [Act.put, List.setIfInBounds_toArray, List.set_cons_zero, List.set_cons_succ]
                refine uDone (by kernel_rfl) ?_ _
                go_wp2_with fail
                go_meet
                exact ⟨w5.heap.size, sa, sb, ra, rk, rX, rc, rj, rY, rfl, rfl, rfl, Lib.hid ((Env.perm (F' := [(w2.heap.size, 3, [.int .i64 5000]), (w5.heap.size, 25, [.slice ra rX.length rk]), (w1.heap.size, 25, [.slice oa oX.length ok])]) E10.out (List.Perm.swap ..)).drop), rL, rC⟩
              · skip
                go_simp
                have E8 : Hid (Env D w [(w4.heap.size, 25, [.slice none 0 0]), (w2.heap.size, 3, [.int .i64 5000]), (w1.heap.size, 25, [.slice oa oX.length ok])] [.gn (gSp (mkS a 5000 [5000]) sa sb), .gn (gUl (.slice oa oX.length ok) oX), .gn (gUd oX)] _) := Lib.hid ((E7.out.push 25 [.slice none 0 0] (w4.heap.size) (by simp)))
                (try dsimp only)
                clear hHeld
                refine hKK.out _ _ (((E8.out.bx 2 rfl).cell 0 rfl)) (fun hHeld => ?_)
                clear hKK KK
                try simp only [Act.put, List.setIfInBounds_toArray, List.set_cons_zero, List.set_cons_succ]
                clear E7
                generalize w4.alloc (.cells #[.slice none 0 0] 25) = w5 at *
                refine uReady (rs := [5]) (by kernel_rfl) (by simp) ?_
                refine ReadyU.cons rfl (fun KK hKK => ?_) ReadyU.nil
                go_simp
                refine (put_t oX (mkS a 5000 [5000]) (E8.out.fc 1 rfl) (E8.out.fc 0 rfl) (valid_bd HVX.out) (st_bd (one_st _ _ _)) (Nat.le_trans (valid_len HVX.out) (by omega)) (L := L9) (C := []) (n := 0) (by rw [HX.out]; exact HL1.out)).mono ?_
                rintro e w6 ⟨⟨ra, rk, rX, rc, rj, rY, rfl, r1, r2, rH, rI⟩, hb⟩
                have E9 : Hid (Env D w [(w4.heap.size, 25, [.slice none 0 0]), (w2.heap.size, 3, [.int .i64 5000]), (w1.heap.size, 25, [.slice oa oX.length ok])] [.gn (gUl (.slice rc rY.length rj) rY), .gn (gUl (.slice ra rX.length rk) rX), .gn (gSp (mkS a 5000 [5000]) sa sb), .gn (gUl (.slice oa oX.length ok) oX), .gn (gUd oX)] w6) := Lib.hid (E8.out.got (E8.out.got (E8.out.below hb) (.gn (gUl (.slice ra rX.length rk) rX)) rH.out) (.gn (gUl (.slice rc rY.length rj) rY)) rI.out)
                clear E8 hb rH rI
                have rL := Lib.hid r1; have rC := Lib.hid r2; clear r1 r2
                (try dsimp only)
                clear hHeld
                refine hKK.out _ _ (((E9.out.bx 2 rfl).cell 0 rfl)) (fun hHeld => ?_)
                clear hKK KK
                try simp only [Act.put, List.setIfInBounds_toArray, List.set_cons_zero, List.set_cons_succ]
                refine uTake (i := 6) (some 34) (v := ?_) rfl rfl (by kernel_rfl) (by kernel_rfl) (by kernel_rfl) (by kernel_rfl) (fun _ _ _ h => h) (by rfl) (by assumption) ?_ ?_
                rotate_left
                · (intro wS hSw; (try dsimp only at hSw); go_simp; try with_reducible rfl)
                try simp only [Act.put, List.setIfInBounds_toArray, List.set_cons_zero, List.set_cons_succ]
                refine uTake (i := 7) (some 41) (v := ?_) rfl rfl (by kernel_rfl) (by kernel_rfl) (by kernel_rfl) (by kernel_rfl) (fun _ _ _ h => h) (by rfl) (by assumption) ?_ ?_
                rotate_left
                · (intro wS hSw; (try dsimp only at hSw); go_simp; try with_reducible rfl)
                try simp only [Act.put, List.setIfInBounds_toArray, List.set_cons_zero, List.set_cons_succ]
                refine uTake (i := 8) (some 42) (v := ?_) rfl rfl (by kernel_rfl) (by kernel_rfl) (by kernel_rfl) (by kernel_rfl) (fun _ _ _ h => h) (by rfl) (by assumption) ?_ ?_
                rotate_left
                · (intro wS hSw; (try dsimp only at hSw); go_simp; try with_reducible rfl)
                try simp only [Act.put, List.setIfInBounds_toArray, List.set_cons_zero, List.set_cons_succ]
                refine uTake (i := 9) (some 43) (v := ?_) rfl rfl (by kernel_rfl) (by kernel_rfl) (by kernel_rfl) (by kernel_rfl) (fun _ _ _ h => h) (by rfl) (by assumption) ?_ ?_
                rotate_left
                · (intro wS hSw; (try dsimp only at hSw); go_simp; try with_reducible rfl)
                try simp only [Act.put, List.setIfInBounds_toArray, List.set_cons_zero, List.set_cons_succ]
                have b1 := E9.out.bx 0 rfl
                have c1_0 := b1.cell 0 rfl
                have f1_0 := b1.frozen 0
                clear b1
                refine uReady (rs := [11]) (by kernel_rfl) (by simp) ?_
                refine ReadyU.cons rfl (fun KK hKK => ?_) ReadyU.nil
                go_simp
                have E10 : Hid (Env D w [(w4.heap.size, 25, [.slice ra rX.length rk]), (w2.heap.size, 3, [.int .i64 5000]), (w1.heap.size, 25, [.slice oa oX.length ok])] [.gn (gUl (.slice rc rY.length rj) rY), .gn (gUl (.slice ra rX.length rk) rX), .gn (gSp (mkS a 5000 [5000]) sa sb), .gn (gUl (.slice oa oX.length ok) oX), .gn (gUd oX)] _) := Lib.hid ((E9.out.set 0 0 (.slice ra rX.length rk) rfl))
                (try dsimp only)
                clear hHeld
                refine hKK.out _ _ (((E10.out.bx 2 rfl).cell 0 rfl)) (fun hHeld => ?_)
                clear hKK KK
                try simp only [Act.put, List.setIfInBounds_toArray, List.set_cons_zero, List.set_cons_succ]
                refine uTake (i := 12) (some 9) (v := ?_) rfl rfl (by kernel_rfl) (by kernel_rfl) (by kernel_rfl) (by kernel_rfl) (fun _ _ _ h => h) (by rfl) (by assumption) ?_ ?_
                rotate_left
                · (intro wS hSw; (try dsimp only at hSw); go_simp; try with_reducible rfl)
                try simp only [Act.put, List.setIfInBounds_toArray, List.set_cons_zero, List.set_cons_succ]
                refine uTake (i := 13) (some 10) (v := ?_) rfl rfl (by kernel_rfl) (by kernel_rfl) (by kernel_rfl) (by kernel_rfl) (fun _ _ _ h => h) (by rfl) (by assumption) ?_ ?_
                rotate_left
                · (intro wS hSw; (try dsimp only at hSw); go_simp; try with_reducible rfl)
                try simp only [Act.put, List.setIfInBounds_toArray, List.set_cons_zero, List.set_cons_succ]
                refine uDone (by kernel_rfl) ?_ _
                go_wp2_with fail
                go_meet
                exact ⟨w4.heap.size, sa, sb, ra, rk, rX, rc, rj, rY, rfl, rfl, rfl, Lib.hid ((Env.perm (F' := [(w2.heap.size, 3, [.int .i64 5000]), (w4.heap.size, 25, [.slice ra rX.length rk]), (w1.heap.size, 25, [.slice oa oX.length ok])]) E10.out (List.Perm.swap ..)).drop), rL, rC⟩
            · skip
              go_simp
              have E7 : Hid (Env D w [(w3.heap.size, 25, [.slice none 0 0]), (w2.heap.size, 3, [.int .i64 5000]), (w1.heap.size, 25, [.slice oa oX.length ok])] [.gn (gUl (.slice oa oX.length ok) oX), .gn (gUd oX)] _) := Lib.hid ((E6.out.push 25 [.slice none 0 0] (w3.heap.size) (by simp)))
              (try dsimp only)
              clear hHeld
              refine hKK.out _ _ (((E7.out.bx 2 rfl).cell 0 rfl)) (fun hHeld => ?_)
              clear hKK KK
              try simp only [Act.put, List.setIfInBounds_toArray, List.set_cons_zero, List.set_cons_succ]
              clear E6
              generalize w3.alloc (.cells #[.slice none 0 0] 25) = w4 at *
              refine uReady (rs := [4]) (by kernel_rfl) (by simp) ?_
              refine ReadyU.cons rfl (fun KK hKK => ?_) ReadyU.nil
              go_simp
              refine (made_s a 5000 [5000] (D := fun _ => True) (Rw.ofBox (cs := icl [5000]) (n := 1) (k := 1) (cap := 1) (E7.out.bx 1 rfl) rfl (icl_one _) (by omega) (by omega)) ⟨HWA.out, HW5.out⟩ (by simp) rfl).mono ?_
              rintro e w5 ⟨⟨sa, sb, rfl, sh⟩, hb⟩
              have E8 : Hid (Env D w [(w3.heap.size, 25, [.slice none 0 0]), (w2.heap.size, 3, [.int .i64 5000]), (w1.heap.size, 25, [.slice oa oX.length ok])] [.gn (gSp (mkS a 5000 [5000]) sa sb), .gn (gUl (.slice oa oX.length ok) oX), .gn (gUd oX)] w5) := Lib.hid (E7.out.got (E7.out.below hb) (.gn (gSp (mkS a 5000 [5000]) sa sb)) (Lib.hid (gSp.ge sh.out)).out)
              clear E7 hb
              (try dsimp only)
              clear hHeld
              refine hKK.out _ _ (((E8.out.bx 2 rfl).cell 0 rfl)) (fun hHeld => ?_)
              clear hKK KK
              try simp only [Act.put, List.setIfInBounds_toArray, List.set_cons_zero, List.set_cons_succ]
              refine uReady (rs := [5]) (by kernel_rfl) (by simp) ?_
              refine ReadyU.cons rfl (fun KK hKK => ?_) ReadyU.nil
              go_simp
              refine (put_t oX (mkS a 5000 [5000]) (E8.out.fc 1 rfl) (E8.out.fc 0 rfl) (valid_bd HVX.out) (st_bd (one_st _ _ _)) (Nat.le_trans (valid_len HVX.out) (by omega)) (L := L9) (C := []) (n := 0) (by rw [HX.out]; exact HL1.out)).mono ?_
              rintro e w6 ⟨⟨ra, rk, rX, rc, rj, rY, rfl, r1, r2, rH, rI⟩, hb⟩
              have E9 : Hid (Env D w [(w3.heap.size, 25, [.slice none 0 0]), (w2.heap.size, 3, [.int .i64 5000]), (w1.heap.size, 25, [.slice oa oX.length ok])] [.gn (gUl (.slice rc rY.length rj) rY), .gn (gUl (.slice ra rX.length rk) rX), .gn (gSp (mkS a 5000 [5000]) sa sb), .gn (gUl (.slice oa oX.length ok) oX), .gn (gUd oX)] w6) := Lib.hid (E8.out.got (E8.out.got (E8.out.below hb) (.gn (gUl (.slice ra rX.length rk) rX)) rH.out) (.gn (gUl (.slice rc rY.length rj) rY)) rI.out)
              clear E8 hb rH rI
              have rL := Lib.hid r1; have rC := Lib.hid r2; clear r1 r2
              (try dsimp only)
              clear hHeld
              refine hKK.out _ _ (((E9.out.bx 2 rfl).cell 0 rfl)) (fun hHeld => ?_)
              clear hKK KK
              try simp only [Act.put, List.setIfInBounds_toArray, List.set_cons_zero, List.set_cons_succ]
              refine uTake (i := 6) (some 34) (v := ?_) rfl rfl (by kernel_rfl) (by kernel_rfl) (by kernel_rfl) (by kernel_rfl) (fun _ _ _ h => h) (by rfl) (by assumption) ?_ ?_
              rotate_left
              · (intro wS hSw; (try dsimp only at hSw); go_simp; try with_reducible rfl)
              try simp only [Act.put, List.setIfInBounds_toArray, List.set_cons_zero, List.set_cons_succ]
              refine uTake (i := 7) (some 41) (v := ?_) rfl rfl (by kernel_rfl) (by kernel_rfl) (by kernel_rfl) (by kernel_rfl) (fun _ _ _ h => h) (by rfl) (by assumption) ?_ ?_
              rotate_left
              · (intro wS hSw; (try dsimp only at hSw); go_simp; try with_reducible rfl)
              try simp only [Act.put, List.setIfInBounds_toArray, List.set_cons_zero, List.set_cons_succ]
              refine uTake (i := 8) (some 42) (v := ?_) rfl rfl (by kernel_rfl) (by kernel_rfl) (by kernel_rfl) (by kernel_rfl) (fun _ _ _ h => h) (by rfl) (by assumption) ?_ ?_
              rotate_left
              · (intro wS hSw; (try dsimp only at hSw); go_simp; try with_reducible rfl)
              try simp only [Act.put, List.setIfInBounds_toArray, List.set_cons_zero, List.set_cons_succ]
              refine uTake (i := 9) (some 43) (v := ?_) rfl rfl (by kernel_rfl) (by kernel_rfl) (by kernel_rfl) (by kernel_rfl) (fun _ _ _ h => h) (by rfl) (by assumption) ?_ ?_
              rotate_left
              · (intro wS hSw; (try dsimp only at hSw); go_simp; try with_reducible rfl)
              try simp only [Act.put, List.setIfInBounds_toArray, List.set_cons_zero, List.set_cons_succ]
              have b1 := E9.out.bx 0 rfl
              have c1_0 := b1.cell 0 rfl
              have f1_0 := b1.frozen 0
              clear b1
              refine uReady (rs := [11]) (by kernel_rfl) (by simp) ?_
              refine ReadyU.cons rfl (fun KK hKK => ?_) ReadyU.nil
              go_simp
              have E10 : Hid (Env D w [(w3.heap.size, 25, [.slice ra rX.length rk]), (w2.heap.size, 3, [.int .i64 5000]), (w1.heap.size, 25, [.slice oa oX.length ok])] [.gn (gUl (.slice rc rY.length rj) rY), .gn (gUl (.slice ra rX.length rk) rX), .gn (gSp (mkS a 5000 [5000]) sa sb), .gn (gUl (.slice oa oX.length ok) oX), .gn (gUd oX)] _) := Lib.hid ((E9.out.set 0 0 (.slice ra rX.length rk) rfl))
              (try dsimp only)
              clear hHeld
              refine hKK.out _ _ (((E10.out.bx 2 rfl).cell 0 rfl)) (fun hHeld => ?_)
              clear hKK KK
              try simp only [Act.put, List.setIfInBounds_toArray, List.set_cons_zero, List.set_cons_succ]
              refine uTake (i := 12) (some 9) (v := ?_) rfl rfl (by kernel_rfl) (by kernel_rfl) (by kernel_rfl) (by kernel_rfl) (fun _ _ _ h => h) (by rfl) (by assumption) ?_ ?_
              rotate_left
              · (intro wS hSw; (try dsimp only at hSw); go_simp; try with_reducible rfl)
              try simp only [Act.put, List.setIfInBounds_toArray, List.set_cons_zero, List.set_cons_succ]
              refine uTake (i := 13) (some 10) (v := ?_) rfl rfl (by kernel_rfl) (by kernel_rfl) (by kernel_rfl) (by kernel_rfl) (fun _ _ _ h => h) (by rfl) (by assumption) ?_ ?_
              rotate_left
              · (intro wS hSw; (try dsimp only at hSw); go_simp; try with_reducible rfl)
              try simp only [Act.put, List.setIfInBounds_toArray, List.set_cons_zero, List.set_cons_succ]
              refine uDone (by kernel_rfl) ?_ _
              go_wp2_with fail
              go_meet
              exact ⟨w3.heap.size, sa, sb, ra, rk, rX, rc, rj, rY, rfl, rfl, rfl, Lib.hid ((Env.perm (F' := [(w2.heap.size, 3, [.int .i64 5000]), (w3.heap.size, 25, [.slice ra rX.length rk]), (w1.heap.size, 25, [.slice oa oX.length ok])]) E10.out (List.Perm.swap ..)).drop), rL, rC⟩
          · skip
            go_simp
            have E6 : Hid (Env D w [(w2.heap.size, 25, [.slice none 0 0]), (w1.heap.size, 25, [.slice oa oX.length ok])] [.gn (gUl (.slice oa oX.length ok) oX), .gn (gUd oX)] _) := Lib.hid ((E5.out.push 25 [.slice none 0 0] (w2.heap.size) (by simp)))
            (try dsimp only)
            clear hHeld
            refine hKK.out _ _ (((E6.out.bx 1 rfl).cell 0 rfl)) (fun hHeld => ?_)
            clear hKK KK
            try simp only [Act.put, List.setIfInBounds_toArray, List.set_cons_zero, List.set_cons_succ]
            clear E5
            generalize w2.alloc (.cells #[.slice none 0 0] 25) = w3 at *
            refine uReady (rs := [3]) (by kernel_rfl) (by simp) ?_
            refine ReadyU.cons rfl (fun KK hKK => ?_) ReadyU.nil
            go_simp
            have E7 : Hid (Env D w [(w3.heap.size, 3, [.int .i64 5000]), (w2.heap.size, 25, [.slice none 0 0]), (w1.heap.size, 25, [.slice oa oX.length ok])] [.gn (gUl (.slice oa oX.length ok) oX), .gn (gUd oX)] _) := Lib.hid ((E6.out.push 3 [.int .i64 5000] (w3.heap.size) (by simp)))
            (try dsimp only)
            clear hHeld
            refine hKK.out _ _ (((E7.out.bx 2 rfl).cell 0 rfl)) (fun hHeld => ?_)
            clear hKK KK
            try simp only [Act.put, List.setIfInBounds_toArray, List.set_cons_zero, List.set_cons_succ]
            clear E6
            generalize w3.alloc (.cells #[.int .i64 5000] 3) = w4 at *
            refine uReady (rs := [4]) (by kernel_rfl) (by simp) ?_
            refine ReadyU.cons rfl (fun KK hKK => ?_) ReadyU.nil
            go_simp
            refine (made_s a 5000 [5000] (D := fun _ => True) (Rw.ofBox (cs := icl [5000]) (n := 1) (k := 1) (cap := 1) (E7.out.bx 0 rfl) rfl (icl_one _) (by omega) (by omega)) ⟨HWA.out, HW5.out⟩ (by simp) rfl).mono ?_
            rintro e w5 ⟨⟨sa, sb, rfl, sh⟩, hb⟩
            have E8 : Hid (Env D w [(w3.heap.size, 3, [.int .i64 5000]), (w2.heap.size, 25, [.slice none 0 0]), (w1.heap.size, 25, [.slice oa oX.length ok])] [.gn (gSp (mkS a 5000 [5000]) sa sb), .gn (gUl (.slice oa oX.length ok) oX), .gn (gUd oX)] w5) := Lib.hid (E7.out.got (E7.out.below hb) (.gn (gSp (mkS a 5000 [5000]) sa sb)) (Lib.hid (gSp.ge sh.out)).out)
            clear E7 hb
            (try dsimp only)
            clear hHeld
            refine hKK.out _ _ (((E8.out.bx 2 rfl).cell 0 rfl)) (fun hHeld => ?_)
            clear hKK KK
            try simp only [Act.put, List.setIfInBounds_toArray, List.set_cons_zero, List.set_cons_succ]
            refine uReady (rs := [5]) (by kernel_rfl) (by simp) ?_
            refine ReadyU.cons rfl (fun KK hKK => ?_) ReadyU.nil
            go_simp
            refine (put_t oX (mkS a 5000 [5000]) (E8.out.fc 1 rfl) (E8.out.fc 0 rfl) (valid_bd HVX.out) (st_bd (one_st _ _ _)) (Nat.le_trans (valid_len HVX.out) (by omega)) (L := L9) (C := []) (n := 0) (by rw [HX.out]; exact HL1.out)).mono ?_
            rintro e w6 ⟨⟨ra, rk, rX, rc, rj, rY, rfl, r1, r2, rH, rI⟩, hb⟩
            have E9 : Hid (Env D w [(w3.heap.size, 3, [.int .i64 5000]), (w2.heap.size, 25, [.slice none 0 0]), (w1.heap.size, 25, [.slice oa oX.length ok])] [.gn (gUl (.slice rc rY.length rj) rY), .gn (gUl (.slice ra rX.length rk) rX), .gn (gSp (mkS a 5000 [5000]) sa sb), .gn (gUl (.slice oa oX.length ok) oX), .gn (gUd oX)] w6) := Lib.hid (E8.out.got (E8.out.got (E8.out.below hb) (.gn (gUl (.slice ra rX.length rk) rX)) rH.out) (.gn (gUl (.slice rc rY.length rj) rY)) rI.out)
            clear E8 hb rH rI
            have rL := Lib.hid r1; have rC := Lib.hid r2; clear r1 r2
            (try dsimp only)
            clear hHeld
            refine hKK.out _ _ (((E9.out.bx 2 rfl).cell 0 rfl)) (fun hHeld => ?_)
            clear hKK KK
            try simp only [Act.put, List.setIfInBounds_toArray, List.set_cons_zero, List.set_cons_succ]
            refine uTake (i := 6) (some 34) (v := ?_) rfl rfl (by kernel_rfl) (by kernel_rfl) (by kernel_rfl) (by kernel_rfl) (fun _ _ _ h => h) (by rfl) (by assumption) ?_ ?_
            rotate_left
            · (intro wS hSw; (try dsimp only at hSw); go_simp; try with_reducible rfl)
            try simp only [Act.put, List.setIfInBounds_toArray, List.set_cons_zero, List.set_cons_succ]
            refine uTake (i := 7) (some 41) (v := ?_) rfl rfl (by kernel_rfl) (by kernel_rfl) (by kernel_rfl) (by kernel_rfl) (fun _ _ _ h => h) (by rfl) (by assumption) ?_ ?_
            rotate_left
            · (intro wS hSw; (try dsimp only at hSw); go_simp; try with_reducible rfl)
            try simp only [Act.put, List.setIfInBounds_toArray, List.set_cons_zero, List.set_cons_succ]
            refine uTake (i := 8) (some 42) (v := ?_) rfl rfl (by kernel_rfl) (by kernel_rfl) (by kernel_rfl) (by kernel_rfl) (fun _ _ _ h => h) (by rfl) (by assumption) ?_ ?_
            rotate_left
            · (intro wS hSw; (try dsimp only at hSw); go_simp; try with_reducible rfl)
            try simp only [Act.put, List.setIfInBounds_toArray, List.set_cons_zero, List.set_cons_succ]
            refine uTake (i := 9) (some 43) (v := ?_) rfl rfl (by kernel_rfl) (by kernel_rfl) (by kernel_rfl) (by kernel_rfl) (fun _ _ _ h => h) (by rfl) (by assumption) ?_ ?_
            rotate_left
            · (intro wS hSw; (try dsimp only at hSw); go_simp; try with_reducible rfl)
            try simp only [Act.put, List.setIfInBounds_toArray, List.set_cons_zero, List.set_cons_succ]
            have b1 := E9.out.bx 1 rfl
            have c1_0 := b1.cell 0 rfl
            have f1_0 := b1.frozen 0
            clear b1
            refine uReady (rs := [11]) (by kernel_rfl) (by simp) ?_
            refine ReadyU.cons rfl (fun KK hKK => ?_) ReadyU.nil
            go_simp
            have E10 : Hid (Env D w [(w3.heap.size, 3, [.int .i64 5000]), (w2.heap.size, 25, [.slice ra rX.length rk]), (w1.heap.size, 25, [.slice oa oX.length ok])] [.gn (gUl (.slice rc rY.length rj) rY), .gn (gUl (.slice ra rX.length rk) rX), .gn (gSp (mkS a 5000 [5000]) sa sb), .gn (gUl (.slice oa oX.length ok) oX), .gn (gUd oX)] _) := Lib.hid ((E9.out.set 1 0 (.slice ra rX.length rk) rfl))
            (try dsimp only)
            clear hHeld
            refine hKK.out _ _ (((E10.out.bx 2 rfl).cell 0 rfl)) (fun hHeld => ?_)
            clear hKK KK
            try simp only [Act.put, List.setIfInBounds_toArray, List.set_cons_zero, List.set_cons_succ]
            refine uTake (i := 12) (some 9) (v := ?_) rfl rfl (by kernel_rfl) (by kernel_rfl) (by kernel_rfl) (by kernel_rfl) (fun _ _ _ h => h) (by rfl) (by assumption) ?_ ?_
            rotate_left
            · (intro wS hSw; (try dsimp only at hSw); go_simp; try with_reducible rfl)
            try simp only [Act.put, List.setIfInBounds_toArray, List.set_cons_zero, List.set_cons_succ]
            refine uTake (i := 13) (some 10) (v := ?_) rfl rfl (by kernel_rfl) (by kernel_rfl) (by kernel_rfl) (by kernel_rfl) (fun _ _ _ h => h) (by rfl) (by assumption) ?_ ?_
            rotate_left
            · (intro wS hSw; (try dsimp only at hSw); go_simp; try with_reducible rfl)
            try simp only [Act.put, List.setIfInBounds_toArray, List.set_cons_zero, List.set_cons_succ]
            refine uDone (by kernel_rfl) ?_ _
            go_wp2_with fail
            go_meet
            exact ⟨w2.heap.size, sa, sb, ra, rk, rX, rc, rj, rY, rfl, rfl, rfl, Lib.hid (E10.out.drop), rL, rC⟩
        case rest =>
          obtain ⟨gr, sa, sb, ra, rk, rX, rc, rj, rY, rfl, rfl, rfl, E11, rL, rC⟩ := hcut
          clear E4 EL
          have hl0 : rY.length = 0 := by have h := congrArg List.length rC.out; simpa using h
          have i0 : ((rY.length : Int) == 0) = true := by rw [hl0]; rfl
          have i0n : (rY.length == 0) = true := by rw [hl0]; rfl
          clear hl0
          have HL0 : Hid ((2000 : Int) = (rX.length : Int)) := Lib.hid (by have h := congrArg List.length rL.out; rw [List.length_map, HL2.out] at h; rw [h]; rfl)
          have HVR : Hid (ValidT (rX.map Uv.u)) := Lib.hid (by rw [rL.out]; exact HL3.out)
          have b2 := E11.out.bx 0 rfl
          have c2_0 := b2.cell 0 rfl
          clear b2
          go_wp2_with fail
          refine (size_c rX (E11.out.fc 1 rfl) (valid_bd HVR.out) (Nat.le_trans (valid_len HVR.out) (by omega)) (r := 2000) ⟨fun _ => HL0.out, fun h => absurd HVR.out h⟩).mono ?_
          rintro e w7 ⟨rfl, hb⟩
          have E12 : Hid (Env D w [(gr, 25, [.slice ra rX.length rk]), (w1.heap.size, 25, [.slice oa oX.length ok])] [.gn (gUl (.slice rc rY.length rj) rY), .gn (gUl (.slice ra rX.length rk) rX), .gn (gSp (mkS a 5000 [5000]) sa sb), .gn (gUl (.slice oa oX.length ok) oX), .gn (gUd oX)] w7) := Lib.hid (E11.out.below hb)
          clear c2_0 E11 hb
          have hfin := Lib.hid E12.out.bel
          go_wp2
          go_ret
          exact ⟨rfl, hfin.out⟩
      have hk : k < 1999 := by omega
      have t6 : decide ((k : Int) < 1999) = true := decide_eq_true (by omega)
      have t7 : decide (k < 1999) = true := decide_eq_true (by omega)
      clear hy
      have hol : oX.length = k := by have h := congrArg List.length HX.out; rwa [List.length_map, fullT_len] at h
      have HOL : Hid (oX.length + 1 ≤ 1000000) := Lib.hid (by omega)
      clear hol
      have HWK := Lib.hid (wI_of (a := (k : Int)) (by omega))
      obtain ⟨ms, hms⟩ : ∃ ms, ms = mkS a (k : Int) [(k : Int)] := ⟨_, rfl⟩
      have HMS := Lib.hid hms
      have mS : Hid (SpOk ms) := Lib.hid (by rw [hms]; exact mkS_ok HWA.out HWK.out _)
      clear hms
      obtain ⟨nu, hnu⟩ : ∃ nu : Us, nu = ⟨a, (k : Int), ms, 0⟩ := ⟨_, rfl⟩
      have HNU := Lib.hid hnu
      have nS : Hid (SpOk nu.sp) := Lib.hid (by rw [hnu]; exact mS.out)
      clear hnu
      go_upto_region 10 with (fail)
      go_wp2_with fail
      have E4 : Hid (Env D w ((w1.heap.size, 25, [.slice oa oX.length ok]) :: os) [.gn (gUd oX)] (wr.drew)) := Lib.hid EL.out.drew
      clear EL
      refine wp_regionU (S := fun w' => w'.cell? ⟨w1.heap.size, 0, none⟩ = some (.slice oa oX.length ok)) [15] (by kernel_rfl) (((E4.out.bx 0 rfl).cell 0 rfl)) (fun hHeld => ?_)
      generalize wr.drew = w2 at *
      refine uTake (i := 0) (some 18) (v := ?_) rfl rfl (by kernel_rfl) (by kernel_rfl) (by kernel_rfl) (by kernel_rfl) (fun _ _ _ h => h) (by rfl) (by assumption) ?_ ?_
      rotate_left
      · (intro wS hSw; (try dsimp only at hSw); go_simp; try with_reducible rfl)
      try simp only [Act.put, List.setIfInBounds_toArray, List.set_cons_zero, List.set_cons_succ]
      refine uTake (i := 1) (some 19) (v := ?_) rfl rfl (by kernel_rfl) (by kernel_rfl) (by kernel_rfl) (by kernel_rfl) (fun _ _ _ h => h) (by rfl) (by assumption) ?_ ?_
      rotate_left
      · (intro wS hSw; (try dsimp only at hSw); go_simp; try with_reducible rfl)
      try simp only [Act.put, List.setIfInBounds_toArray, List.set_cons_zero, List.set_cons_succ]
      refine uTake (i := 2) (some 20) (v := ?_) rfl rfl (by kernel_rfl) (by kernel_rfl) (by kernel_rfl) (by kernel_rfl) (fun _ _ _ h => h) (by rfl) (by assumption) ?_ ?_
      rotate_left
      · (intro wS hSw; (try dsimp only at hSw); go_simp; try with_reducible rfl)
      try simp only [Act.put, List.setIfInBounds_toArray, List.set_cons_zero, List.set_cons_succ]
      refine uTake (i := 3) (some 21) (v := ?_) rfl rfl (by kernel_rfl) (by kernel_rfl) (by kernel_rfl) (by kernel_rfl) (fun _ _ _ h => h) (by rfl) (by assumption) ?_ ?_
      rotate_left
      · (intro wS hSw; (try dsimp only at hSw); go_simp; try with_reducible rfl)
      try simp only [Act.put, List.setIfInBounds_toArray, List.set_cons_zero, List.set_cons_succ]
      refine uTake (i := 4) (some 22) (v := ?_) rfl rfl (by kernel_rfl) (by kernel_rfl) (by kernel_rfl) (by kernel_rfl) (fun _ _ _ h => h) (by rfl) (by assumption) ?_ ?_
      rotate_left
      · (intro wS hSw; (try dsimp only at hSw); go_simp; try with_reducible rfl)
      try simp only [Act.put, List.setIfInBounds_toArray, List.set_cons_zero, List.set_cons_succ]
      refine uTake (i := 5) (some 23) (v := ?_) rfl rfl (by kernel_rfl) (by kernel_rfl) (by kernel_rfl) (by kernel_rfl) (fun _ _ _ h => h) (by rfl) (by assumption) ?_ ?_
      rotate_left
      · (intro wS hSw; (try dsimp only at hSw); go_simp; try with_reducible rfl)
      try simp only [Act.put, List.setIfInBounds_toArray, List.set_cons_zero, List.set_cons_succ]
      refine uTake (i := 6) (some 24) (v := ?_) rfl rfl (by kernel_rfl) (by kernel_rfl) (by kernel_rfl) (by kernel_rfl) (fun _ _ _ h => h) (by rfl) (by assumption) ?_ ?_
      rotate_left
      · (intro wS hSw; (try dsimp only at hSw); go_simp; try with_reducible rfl)
      try simp only [Act.put, List.setIfInBounds_toArray, List.set_cons_zero, List.set_cons_succ]
      refine uTake (i := 7) (some 25) (v := ?_) rfl rfl (by kernel_rfl) (by kernel_rfl) (by kernel_rfl) (by kernel_rfl) (fun _ _ _ h => h) (by rfl) (by assumption) ?_ ?_
      rotate_left
      · (intro wS hSw; (try dsimp only at hSw); go_simp; try with_reducible rfl)
      try simp only [Act.put, List.setIfInBounds_toArray, List.set_cons_zero, List.set_cons_succ]
      refine uTake (i := 8) (some 26) (v := ?_) rfl rfl (by kernel_rfl) (by kernel_rfl) (by kernel_rfl) (by kernel_rfl) (fun _ _ _ h => h) (by rfl) (by assumption) ?_ ?_
      rotate_left
      · (intro wS hSw; (try dsimp only at hSw); go_simp; try with_reducible rfl)
      try simp only [Act.put, List.setIfInBounds_toArray, List.set_cons_zero, List.set_cons_succ]
      refine uReady (rs := [9]) (by kernel_rfl) (by simp) ?_
      refine ReadyU.cons rfl (fun KK hKK => ?_) ReadyU.nil
      go_simp
      have E5 : Hid (Env D w ((w2.heap.size, 3, [.int .i64 (k : Int)]) :: (w1.heap.size, 25, [.slice oa oX.length ok]) :: os) [.gn (gUd oX)] _) := Lib.hid ((E4.out.push 3 [.int .i64 (k : Int)] (w2.heap.size) (by simp)))
      (try dsimp only)
      clear hHeld
      refine hKK.out _ _ (((E5.out.bx 1 rfl).cell 0 rfl)) (fun hHeld => ?_)
      clear hKK KK
      try simp only [Act.put, List.setIfInBounds_toArray, List.set_cons_zero, List.set_cons_succ]
      clear E4
      generalize w2.alloc (.cells #[.int .i64 (k : Int)] 3) = w3 at *
      refine uReady (rs := [10]) (by kernel_rfl) (by simp) ?_
      refine ReadyU.cons rfl (fun KK hKK => ?_) ReadyU.nil
      go_simp
      refine (made_s a (k : Int) [(k : Int)] (D := fun _ => True) (Rw.ofBox (cs := icl [(k : Int)]) (n := 1) (k := 1) (cap := 1) (E5.out.bx 0 rfl) rfl (icl_one _) (by omega) (by omega)) ⟨HWA.out, HWK.out⟩ (by simp) HMS.out).mono ?_
      rintro e w4 ⟨⟨ya, yb, rfl, yh⟩, hb⟩
      have E6 : Hid (Env D w ((w2.heap.size, 3, [.int .i64 (k : Int)]) :: (w1.heap.size, 25, [.slice oa oX.length ok]) :: os) [.gn (gSp ms ya yb), .gn (gUd oX)] w4) := Lib.hid (E5.out.got (E5.out.below hb) (.gn (gSp ms ya yb)) (Lib.hid (gSp.ge yh.out)).out)
      clear E5 hb
      have yN : Hid (∀ v ∈ usc nu ya yb, v.oneCell' = true) := Lib.hid (usc_one nS.out (Rw.oneV (E6.out.fc 0 rfl).2.1) (Rw.oneV (E6.out.fc 0 rfl).2.2))
      (try dsimp only)
      clear hHeld
      refine hKK.out _ _ (((E6.out.bx 1 rfl).cell 0 rfl)) (fun hHeld => ?_)
      clear hKK KK
      try simp only [Act.put, List.setIfInBounds_toArray, List.set_cons_zero, List.set_cons_succ]
      refine uTake (i := 11) (some 29) (v := .agg (usc nu ya yb).toArray) rfl rfl (by kernel_rfl) (by kernel_rfl) (by kernel_rfl) (by kernel_rfl) (fun _ _ _ h => h) (by rfl) (by assumption) ?_ ?_
      · (intro wS hSw; (try dsimp only at hSw); exact exec_use3 (la := ya) (pa := yb) HNU.out mS.out ⟨_, _, _, rfl, rfl, rfl, rfl⟩)
      try simp only [Act.put, List.setIfInBounds_toArray, List.set_cons_zero, List.set_cons_succ]
      refine uReady (rs := [12]) (by kernel_rfl) (by simp) ?_
      refine ReadyU.cons rfl (fun KK hKK => ?_) ReadyU.nil
      refine op_slice1 (some 30) rfl rfl (.tmp 29) rfl (usc nu ya yb) (usc_len nS.out _ _) (by simp [Act.eval, Act.put]; done) ?_
      have E7 : Hid (Env D w ((w4.heap.size, 44, usc nu ya yb) :: (w2.heap.size, 3, [.int .i64 (k : Int)]) :: (w1.heap.size, 25, [.slice oa oX.length ok]) :: os) [.gn (gSp ms ya yb), .gn (gUd oX)] _) := Lib.hid ((E6.out.push 44 (usc nu ya yb) (w4.heap.size) (by simp)))
      (try dsimp only)
      clear hHeld
      refine hKK.out _ _ (((E7.out.bx 2 rfl).cell 0 rfl)) (fun hHeld => ?_)
      clear hKK KK
      try simp only [Act.put, List.setIfInBounds_toArray, List.set_cons_zero, List.set_cons_succ]
      clear E6
      generalize w4.alloc (.cells (usc nu ya yb).toArray 44) = w5 at *
      refine uReady (rs := [13]) (by kernel_rfl) (by simp) ?_
      refine ReadyU.cons rfl (fun KK hKK => ?_) ReadyU.nil
      refine op_app1 (c := 1) tiUse (some 31) rfl rfl (.tmp 19) (.tmp 30) rfl E7.out (A := [(w4.heap.size, 44, usc nu ya yb), (w2.heap.size, 3, [.int .i64 (k : Int)]), (w1.heap.size, 25, [.slice oa oX.length ok])]) (sg := os) (B' := []) (F := ((w4.heap.size, 44, usc nu ya yb) :: (w2.heap.size, 3, [.int .i64 (k : Int)]) :: (w1.heap.size, 25, [.slice oa oX.length ok]) :: os)) (by simp) (oO.out.os rfl) (by simp [Act.eval, Act.put]) (by simp [Act.eval, Act.put]; done) (SrcN.box (m := 1) (E7.out.bx 0 rfl) (usc_len nS.out _ _) yN.out) HOL.out ?_
      intro zg zp zc w6 zH zT zE
      have zO := Lib.hid (OU.app (x := Uv.mk nu ya yb) (g' := zg) (cs' := zc) (cap' := zp) oO.out rfl zH.out zT.out)
      have E8 : Hid (Env D w ((w4.heap.size, 44, usc nu ya yb) :: (w2.heap.size, 3, [.int .i64 (k : Int)]) :: (w1.heap.size, 25, [.slice oa oX.length ok]) :: [(zg, 44, zc)]) [.gn (gUd (oX ++ [Uv.mk nu ya yb])), .gn (gSp ms ya yb), .gn (gUd oX)] w6) := Lib.hid ((zE.out.note (.gn (gUd (oX ++ [Uv.mk nu ya yb]))) (gUd.app (x := Uv.mk nu ya yb) (zE.out.fc 1 rfl) (gSp.cast (s := ms) (by rw [HNU.out]) (zE.out.fc 0 rfl)))).cast (by simp))
      clear E7 zE zH zT oO
      (try dsimp only)
      clear hHeld
      refine hKK.out _ _ (((E8.out.bx 2 rfl).cell 0 rfl)) (fun hHeld => ?_)
      clear hKK KK
      try simp only [Act.put, List.setIfInBounds_toArray, List.set_cons_zero, List.set_cons_succ]
      refine uTake (i := 14) (some 32) (v := ?_) rfl rfl (by kernel_rfl) (by kernel_rfl) (by kernel_rfl) (by kernel_rfl) (fun _ _ _ h => h) (by rfl) (by assumption) ?_ ?_
      rotate_left
      · (intro wS hSw; (try dsimp only at hSw); go_simp; try with_reducible rfl)
      try simp only [Act.put, List.setIfInBounds_toArray, List.set_cons_zero, List.set_cons_succ]
      have b1 := E8.out.bx 2 rfl
      have c1_0 := b1.cell 0 rfl
      have f1_0 := b1.frozen 0
      clear b1
      refine uReady (rs := [15]) (by kernel_rfl) (by simp) ?_
      refine ReadyU.consU (by kernel_rfl) rfl (fun KK hKK => ?_) ReadyU.nil
      go_simp
      have E9 : Hid (Env D w ((w4.heap.size, 44, usc nu ya yb) :: (w2.heap.size, 3, [.int .i64 (k : Int)]) :: (w1.heap.size, 25, [.slice (some ⟨zg, 0, none⟩) (oX.length + 1) zp]) :: [(zg, 44, zc)]) [.gn (gUd (oX ++ [Uv.mk nu ya yb])), .gn (gSp ms ya yb), .gn (gUd oX)] _) := Lib.hid ((E8.out.set 2 0 (.slice (some ⟨zg, 0, none⟩) (oX.length + 1) zp) rfl))
      (try dsimp only)
      (try clear hHeld)
      refine hKK.out _ _ ?_
      clear hKK KK
      try simp only [Act.put, List.setIfInBounds_toArray, List.set_cons_zero, List.set_cons_succ]
      refine uDone (by kernel_rfl) ?_ _
      have HX2 : Hid ((oX ++ [Uv.mk nu ya yb]).map Uv.u = fullT a (k + 1)) := Lib.hid (by rw [List.map_append, HX.out, fullT_succ]; show _ ++ [nu] = _; rw [HNU.out, HMS.out])
      have hZ := ((E9.out.drop).drop)
      have EZ : Hid (Env D w ((w1.heap.size, 25, [.slice (some ⟨zg, 0, none⟩) (oX.length + 1) zp]) :: [(zg, 44, zc)]) [.gn (gUd (oX ++ [Uv.mk nu ya yb]))] _) := Lib.hid ⟨hZ.bel, hZ.box, ⟨hZ.fc 0 rfl, trivial⟩⟩
      clear hZ
      go_wp2
      go_roundg (1999 - (k + 1))
      case rel => exact ⟨k + 1, [(zg, 44, zc)], zc, (some ⟨zg, 0, none⟩), zp, oX ++ [Uv.mk nu ya yb], rfl, Lib.hid (EZ.out.cast (by simp)), (OU.len' zO), Lib.hid ⟨⟨by omega, rfl⟩, HX2.out⟩⟩
      case measure => exact by omega
end Go.Proofs.Ytfnnfmefihiefaa

/- uses compared; a use found. -/
import Derived.Test.YtfnnfmefihiefaaSpU
namespace Go.Proofs.Ytfnnfmefihiefaa
open Go.RowKit
set_option linter.unusedVariables false
set_option linter.unusedSimpArgs false
theorem us_iff {u v : Us} : u = v ↔ u.ua = v.ua ∧ u.ub = v.ub ∧ u.lf = v.lf ∧ u.sp = v.sp := by
  constructor
  · rintro rfl; exact ⟨rfl, rfl, rfl, rfl⟩
  · cases u; cases v; rintro ⟨h1, h2, h3, h4⟩; simp only at h1 h2 h3 h4; subst h1 h2 h3 h4; rfl
/-- the first use of a leaf -/
def FindR (L : List Us) (a b r : Int) : Prop := (r = -1 ∧ ∀ (k : Nat) (u : Us), L[k]? = some u → ¬ (u.ua = a ∧ u.ub = b)) ∨ ∃ (i : Nat) (u : Us), r = (i : Int) ∧ L[i]? = some u ∧ (u.ua = a ∧ u.ub = b) ∧ ∀ (j : Nat) (v : Us), j < i → L[j]? = some v → ¬ (v.ua = a ∧ v.ub = b)
/-- what Find gives -/
def FindP (L : List Us) (a b : Int) (u : Us) (t : Bool) : Prop := (¬ ValidT L ∧ u = zU ∧ t = false) ∨ (ValidT L ∧ findK L a b = none ∧ u = zU ∧ t = false) ∨ (ValidT L ∧ findK L a b = some u ∧ t = true)
theorem use_built0 : Try.prog.built 44 [] = some (usc zU nilV nilV).toArray := by
  obtain ⟨fields, hu, hp⟩ := usePlaces
  rw [built_of hu zUse hp]; rfl
theorem wpl_use0 {ops : Array Oper} {rest : List Oper} {op : Oper} {a : Act} {w : World} {Q : Exit → Act → World → Prop} (hg : op.guard = none) (ho : op.op = .build 44 #[])
    (h : wpList Try.prog ops Q rest (a.put op.dst (.agg (usc zU nilV nilV).toArray)) w) : wpList Try.prog ops Q (op :: rest) a w := wpl_build_b hg _ ho [] (by simp) _ use_built0 h
theorem zU_one : ∀ v ∈ usc zU nilV nilV, v.oneCell' = true := usc_one zS_ok rfl rfl
set_option maxRecDepth 100000 in
set_option maxHeartbeats 2000000 in
theorem sameu_c {D : Nat → Prop} (u v : Us) {la pa lb pb : Value} {w : World} (hu : Fct.at w D (.gn (gSp u.sp la pa))) (hv : Fct.at w D (.gn (gSp v.sp lb pb))) (fu0 : u.sp.lv.length ≤ 1000000 ∧ u.sp.pa.length ≤ 1000000) (fv0 : v.sp.lv.length ≤ 1000000 ∧ v.sp.pa.length ≤ 1000000) {t : Bool} (ht0 : t = true ↔ u = v) :
    Calls Try.prog 19 #[.agg (usc u la pa).toArray, .agg (usc v lb pb).toArray] w fun e w' => e = .returned (.bool t) ∧ Below w.heap.size w w' := by
  have E0 : Hid (Env D w [] [.gn (gSp v.sp lb pb), .gn (gSp u.sp la pa)] w) := Lib.hid (((Env.start D w).arg (.gn (gSp u.sp la pa)) hu).arg (.gn (gSp v.sp lb pb)) hv)
  clear hu hv
  go_enter Try.func19, Try.ntmps19
  have fu := Lib.hid fu0
  have fv := Lib.hid fv0
  have ht := Lib.hid ht0
  clear fu0 fv0 ht0
  have HU := Lib.hid (E0.out.spOk 1 rfl)
  have HV := Lib.hid (E0.out.spOk 0 rfl)
  go_upto_region 1 with (fail)
  have E1 : Hid (Env D w [(w.heap.size + 1, 44, usc v lb pb), (w.heap.size, 44, usc u la pa)] [.gn (gSp v.sp lb pb), .gn (gSp u.sp la pa)] _) := Lib.hid (((E0.out.push 44 (usc u la pa) (w.heap.size) (by simp)).push 44 (usc v lb pb) (w.heap.size + 1) (by simp)))
  clear E0
  generalize (w.alloc (.cells (usc u la pa).toArray 44)).alloc (.cells (usc v lb pb).toArray 44) = w1 at *
  have HQ : Hid (t = true ↔ u.ua = v.ua ∧ u.ub = v.ub ∧ u.lf = v.lf ∧ u.sp = v.sp) := Lib.hid (by rw [← us_iff]; exact ht.out)
  by_cases q1 : u.ua = v.ua
  rotate_left
  · have q1t : (u.ua == v.ua) = false := by simpa using q1
    have HT : Hid (t = false) := Lib.hid (by cases t; (· rfl); exact absurd (HQ.out.1 rfl).1 q1)
    have b1 := E1.out.bx 1 rfl
    have c1 := b1.cell 0 rfl
    clear b1
    have b2 := E1.out.bx 0 rfl
    have c2 := b2.cell 0 rfl
    clear b2
    have hfin := Lib.hid E1.out.bel
    go_wp2
    go_ret
    exact ⟨RetEqB HT.out.symm, hfin.out⟩
  have q1t : (u.ua == v.ua) = true := by simpa using q1
  have q1H := Lib.hid q1
  clear q1
  by_cases q2 : u.ub = v.ub
  rotate_left
  · have q2t : (u.ub == v.ub) = false := by simpa using q2
    have HT : Hid (t = false) := Lib.hid (by cases t; (· rfl); exact absurd (HQ.out.1 rfl).2.1 q2)
    have b1 := E1.out.bx 1 rfl
    have c1 := b1.cell 0 rfl
    clear b1
    have b2 := E1.out.bx 0 rfl
    have c2 := b2.cell 0 rfl
    clear b2
    have b3 := E1.out.bx 1 rfl
    have c3 := b3.cell 1 rfl
    clear b3
    have b4 := E1.out.bx 0 rfl
    have c4 := b4.cell 1 rfl
    clear b4
    have hfin := Lib.hid E1.out.bel
    go_wp2
    go_ret
    exact ⟨RetEqB HT.out.symm, hfin.out⟩
  have q2t : (u.ub == v.ub) = true := by simpa using q2
  have q2H := Lib.hid q2
  clear q2
  by_cases q3 : u.lf = v.lf
  rotate_left
  · have q3t : (u.lf == v.lf) = false := by simpa using q3
    have HT : Hid (t = false) := Lib.hid (by cases t; (· rfl); exact absurd (HQ.out.1 rfl).2.2.1 q3)
    have b1 := E1.out.bx 1 rfl
    have c1 := b1.cell 0 rfl
    clear b1
    have b2 := E1.out.bx 0 rfl
    have c2 := b2.cell 0 rfl
    clear b2
    have b3 := E1.out.bx 1 rfl
    have c3 := b3.cell 1 rfl
    clear b3
    have b4 := E1.out.bx 0 rfl
    have c4 := b4.cell 1 rfl
    clear b4
    have b5 := E1.out.bx 1 rfl
    have c5 := b5.cell 82 (usc_lf HU.out _ _)
    clear b5
    have b6 := E1.out.bx 0 rfl
    have c6 := b6.cell 82 (usc_lf HV.out _ _)
    clear b6
    have hfin := Lib.hid E1.out.bel
    go_wp2
    go_ret
    exact ⟨RetEqB HT.out.symm, hfin.out⟩
  have q3t : (u.lf == v.lf) = true := by simpa using q3
  have q3H := Lib.hid q3
  clear q3
  have HR : Hid (t = true ↔ u.sp = v.sp) := Lib.hid (HQ.out.trans ⟨fun h => h.2.2.2, fun h => ⟨q1H.out, q2H.out, q3H.out, h⟩⟩)
  have b1 := E1.out.bx 1 rfl
  have c1 := b1.cell 0 rfl
  clear b1
  have b2 := E1.out.bx 0 rfl
  have c2 := b2.cell 0 rfl
  clear b2
  have b3 := E1.out.bx 1 rfl
  have c3 := b3.cell 1 rfl
  clear b3
  have b4 := E1.out.bx 0 rfl
  have c4 := b4.cell 1 rfl
  clear b4
  have b5 := E1.out.bx 1 rfl
  have c5 := b5.cell 82 (usc_lf HU.out _ _)
  clear b5
  have b6 := E1.out.bx 0 rfl
  have c6 := b6.cell 82 (usc_lf HV.out _ _)
  clear b6
  have b7 := E1.out.bx 1 rfl
  have r7 := Lib.hid (b7.range (o := 2) (usc_sp HU.out _ _))
  clear b7
  have b8 := E1.out.bx 0 rfl
  have r8 := Lib.hid (b8.range (o := 2) (usc_sp HV.out _ _))
  clear b8
  go_wp2_with (first | (with_reducible refine wpl_load_b bSpend w.heap.size 2 ?_ ?_ (spc u.sp la pa) (spc_len HU.out _ _) r7.out ?_; (· exact ⟨_, rfl, rfl⟩); (· kernel_rfl)) | (with_reducible refine wpl_load_b bSpend (w.heap.size + 1) 2 ?_ ?_ (spc v.sp lb pb) (spc_len HV.out _ _) r8.out ?_; (· exact ⟨_, rfl, rfl⟩); (· kernel_rfl)))
  refine (same32_c u.sp v.sp (E1.out.fc 1 rfl) (E1.out.fc 0 rfl) fu.out fv.out (r := t) HR.out).mono ?_
  rintro e w2 ⟨rfl, hb⟩
  have E2 : Hid (Env D w [(w.heap.size + 1, 44, usc v lb pb), (w.heap.size, 44, usc u la pa)] [.gn (gSp v.sp lb pb), .gn (gSp u.sp la pa)] w2) := Lib.hid (E1.out.below hb)
  clear c1 c2 c3 c4 c5 c6 r7 r8 E1 hb
  have hfin := Lib.hid E2.out.bel
  go_wp2
  go_ret
  exact ⟨rfl, hfin.out⟩
set_option maxRecDepth 100000 in
set_option maxHeartbeats 2000000 in
theorem rsame_c {D : Nat → Prop} (X Y : List Uv) {xa ya : Option Addr} {xk yk : Nat} {w : World} (hx : Fct.at w D (.gn (gUl (.slice xa X.length xk) X))) (hy : Fct.at w D (.gn (gUl (.slice ya Y.length yk) Y))) (hb0 : ∀ x ∈ X, x.u.sp.lv.length ≤ 1000000 ∧ x.u.sp.pa.length ≤ 1000000) (hc0 : ∀ x ∈ Y, x.u.sp.lv.length ≤ 1000000 ∧ x.u.sp.pa.length ≤ 1000000) (hm0 : X.length ≤ 1000000 ∧ Y.length ≤ 1000000) {t : Bool} (ht0 : t = true ↔ X.map Uv.u = Y.map Uv.u) :
    Calls Try.prog 21 #[.slice xa X.length xk, .slice ya Y.length yk] w fun e w' => e = .returned (.bool t) ∧ Below w.heap.size w w' := by
  have E0 : Hid (Env D w [] [.gn (gUl (.slice ya Y.length yk) Y), .gn (gUl (.slice xa X.length xk) X)] w) := Lib.hid (((Env.start D w).arg (.gn (gUl (.slice xa X.length xk) X)) hx).arg (.gn (gUl (.slice ya Y.length yk) Y)) hy)
  clear hx hy
  go_enter Try.func21, Try.ntmps21
  have hb := Lib.hid hb0
  have hc := Lib.hid hc0
  have hm := Lib.hid hm0
  have ht := Lib.hid ht0
  clear hb0 hc0 hm0 ht0
  have hm9 := hm.out
  by_cases hl : X.length = Y.length
  rotate_left
  · have d1 : ((X.length : Int) != (Y.length : Int)) = true := by rw [bne_iff_ne]; omega
    have d1b : (X.length != Y.length) = true := by rw [bne_iff_ne]; exact hl
    have HT : Hid (t = false) := Lib.hid (by cases t; (· rfl); exfalso; have h := congrArg List.length (ht.out.1 rfl); rw [List.length_map, List.length_map] at h; exact hl h)
    have HLL := Lib.hid hl
    clear hl
    have hfin := Lib.hid E0.out.bel
    go_wp2
    go_ret
    exact ⟨RetEqB HT.out.symm, hfin.out⟩
  have d1 : ((X.length : Int) != (Y.length : Int)) = false := by rw [bne_eq_false_iff_eq]; omega
  have d1b : (X.length != Y.length) = false := by rw [bne_eq_false_iff_eq]; exact hl
  have HL := Lib.hid hl
  clear hl
  go_wp2_with fail
  go_loopg [5] (X.length) (fun gk s5 wr => ∃ (k : Nat), s5 = .int .i64 (k : Int) ∧ Hid (Env D w [] [.gn (gUl (.slice ya Y.length yk) Y), .gn (gUl (.slice xa X.length xk) X)] wr) ∧ Hid ((k ≤ X.length ∧ gk = X.length - k) ∧ (∀ (j : Nat), j < k → (X.map Uv.u)[j]? = (Y.map Uv.u)[j]?)))
  case atStart => exact ⟨0, rfl, Lib.hid E0.out, Lib.hid ⟨⟨Nat.zero_le _, rfl⟩, fun j h => absurd h (Nat.not_lt_zero _)⟩⟩
  case round =>
    clear E0 d1 d1b
    obtain ⟨k, rfl, EL, HA⟩ := hrel
    obtain ⟨⟨a1, a2⟩, a3⟩ := HA.out
    have HS := Lib.hid a3
    clear a3 HA
    by_cases hy : k = X.length
    · skip
      have t6 : decide ((k : Int) < (X.length : Int)) = false := decide_eq_false (by omega)
      have t7 : decide (k < X.length) = false := decide_eq_false (by omega)
      have HT : Hid (t = true) := Lib.hid (ht.out.2 (List.ext_getElem? fun j => by by_cases hj : j < k; (· exact HS.out j hj); rw [List.getElem?_eq_none (by rw [List.length_map]; omega), List.getElem?_eq_none (by rw [List.length_map, ← HL.out]; omega)]))
      have HY := Lib.hid hy
      clear hy
      have hfin := Lib.hid EL.out.bel
      go_wp2
      go_ret
      exact ⟨RetEqB HT.out.symm, hfin.out⟩
    have hk : k < X.length := lt_of hy a1
    have hk2 : k < Y.length := by have := HL.out; omega
    have t6 : decide ((k : Int) < (X.length : Int)) = true := decide_eq_true (by omega)
    have t7 : decide (k < X.length) = true := decide_eq_true (by omega)
    have hkI : (k : Int) < (X.length : Int) := by omega
    have hkJ : (k : Int) < (Y.length : Int) := by omega
    clear hy
    go_upto_region 6 with (fail)
    obtain ⟨xab, xao, rfl⟩ := gUl.addr (EL.out.fc 1 rfl) (List.ne_nil_of_length_pos (Nat.lt_of_le_of_lt (Nat.zero_le _) hk))
    obtain ⟨⟨xu, xp, xq⟩, xe⟩ : ∃ x, X[k] = x := ⟨_, rfl⟩
    have xE := Lib.hid xe
    clear xe
    have E1 : Hid (Env D w [] [.gn (gRg xab (xao + k * 83) (usc xu xp xq)), .gn (gSp xu.sp xp xq), .gn (gUl (.slice ya Y.length yk) Y), .gn (gUl (.slice (some ⟨xab, xao, none⟩) X.length xk) X)] _) := Lib.hid (EL.out.elU 1 rfl hk xE.out)
    clear EL
    have xS := Lib.hid (E1.out.spOk 1 rfl)
    have xN : Hid (∀ v ∈ usc xu xp xq, v.oneCell' = true) := Lib.hid (usc_one xS.out (Rw.oneV (E1.out.fc 1 rfl).2.1) (Rw.oneV (E1.out.fc 1 rfl).2.2))
    obtain ⟨yab, yao, rfl⟩ := gUl.addr (E1.out.fc 2 rfl) (List.ne_nil_of_length_pos (Nat.lt_of_le_of_lt (Nat.zero_le _) hk2))
    obtain ⟨⟨yu, yp, yq⟩, ye⟩ : ∃ x, Y[k] = x := ⟨_, rfl⟩
    have yE := Lib.hid ye
    clear ye
    have E2 : Hid (Env D w [] [.gn (gRg yab (yao + k * 83) (usc yu yp yq)), .gn (gSp yu.sp yp yq), .gn (gRg xab (xao + k * 83) (usc xu xp xq)), .gn (gSp xu.sp xp xq), .gn (gUl (.slice (some ⟨yab, yao, none⟩) Y.length yk) Y), .gn (gUl (.slice (some ⟨xab, xao, none⟩) X.length xk) X)] _) := Lib.hid (E1.out.elU 2 rfl hk2 yE.out)
    clear E1
    have yS := Lib.hid (E2.out.spOk 1 rfl)
    have yN : Hid (∀ v ∈ usc yu yp yq, v.oneCell' = true) := Lib.hid (usc_one yS.out (Rw.oneV (E2.out.fc 1 rfl).2.1) (Rw.oneV (E2.out.fc 1 rfl).2.2))
    have HU : Hid ((X.map Uv.u)[k]? = some xu) := Lib.hid (map_get hk xE.out)
    have HV : Hid ((Y.map Uv.u)[k]? = some yu) := Lib.hid (map_get hk2 yE.out)
    have HB1 : Hid (xu.sp.lv.length ≤ 1000000 ∧ xu.sp.pa.length ≤ 1000000) := Lib.hid (hb.out _ (List.mem_of_getElem (h := hk) xE.out))
    have HB2 : Hid (yu.sp.lv.length ≤ 1000000 ∧ yu.sp.pa.length ≤ 1000000) := Lib.hid (hc.out _ (List.mem_of_getElem (h := hk2) yE.out))
    obtain ⟨b, bh⟩ : ∃ b : Bool, b = true ↔ xu = yu := by by_cases h : xu = yu; (· exact ⟨true, ⟨fun _ => h, fun _ => rfl⟩⟩); exact ⟨false, ⟨fun h2 => Bool.noConfusion h2, fun h2 => absurd h2 h⟩⟩
    have bH := Lib.hid bh
    clear bh
    cases b with
    | false =>
      have HT : Hid (t = false) := Lib.hid (by cases t; (· rfl); exfalso; have h := congrArg (fun l => l[k]?) (ht.out.1 rfl); simp only [HU.out, HV.out, Option.some.injEq] at h; exact Bool.noConfusion (bH.out.2 h))
      go_wp2_with fail
      have E3 : Hid (Env D w [] [.gn (gRg yab (yao + k * 83) (usc yu yp yq)), .gn (gSp yu.sp yp yq), .gn (gRg xab (xao + k * 83) (usc xu xp xq)), .gn (gSp xu.sp xp xq), .gn (gUl (.slice (some ⟨yab, yao, none⟩) Y.length yk) Y), .gn (gUl (.slice (some ⟨xab, xao, none⟩) X.length xk) X)] (wr.drew)) := Lib.hid E2.out.drew
      clear E2
      refine wp_regionU (S := fun w' => w'.rangeAt xab (xao + k * 83) (usc xu xp xq) ∧ w'.rangeAt yab (yao + k * 83) (usc yu yp yq)) [] (by kernel_rfl) (⟨(E3.out.fc 2 rfl).2, (E3.out.fc 0 rfl).2⟩) (fun hHeld => ?_)
      generalize wr.drew = w1 at *
      refine uTake (i := 0) (some 17) (v := ?_) rfl rfl (by kernel_rfl) (by kernel_rfl) (by kernel_rfl) (by kernel_rfl) (fun _ _ _ h => h) (by rfl) (by assumption) ?_ ?_
      rotate_left
      · (intro wS hSw; (try dsimp only at hSw); go_simp; try with_reducible rfl)
      try simp only [Act.put, List.setIfInBounds_toArray, List.set_cons_zero, List.set_cons_succ]
      refine uTake (i := 1) (some 18) (v := ?_) rfl rfl (by kernel_rfl) (by kernel_rfl) (by kernel_rfl) (by kernel_rfl) (fun _ _ _ h => h) (by rfl) (by assumption) ?_ ?_
      rotate_left
      · (intro wS hSw; (try dsimp only at hSw); go_simp; try with_reducible rfl)
      try simp only [Act.put, List.setIfInBounds_toArray, List.set_cons_zero, List.set_cons_succ]
      refine uTake (i := 2) (some 19) (v := ?_) rfl rfl (by kernel_rfl) (by kernel_rfl) (by kernel_rfl) (by kernel_rfl) (fun _ _ _ h => h) (by rfl) (by assumption) ?_ ?_
      rotate_left
      · (intro wS hSw; (try dsimp only at hSw); go_simp; try with_reducible rfl)
      try simp only [Act.put, List.setIfInBounds_toArray, List.set_cons_zero, List.set_cons_succ]
      refine uTake (i := 3) (some 20) (v := .agg (usc xu xp xq).toArray) rfl rfl (by kernel_rfl) (by kernel_rfl) (by kernel_rfl) (by kernel_rfl) (fun _ _ _ h => h) (by rfl) (by assumption) ?_ ?_
      · (intro wS hSw; (try dsimp only at hSw); revert hSw; (try simp only [and_imp]); intros; exact exec_load_b bUse _ rfl xab (xao + k * 83) rfl (usc xu xp xq) (usc_len xS.out _ _) (by assumption))
      try simp only [Act.put, List.setIfInBounds_toArray, List.set_cons_zero, List.set_cons_succ]
      refine uTake (i := 4) (some 21) (v := ?_) rfl rfl (by kernel_rfl) (by kernel_rfl) (by kernel_rfl) (by kernel_rfl) (fun _ _ _ h => h) (by rfl) (by assumption) ?_ ?_
      rotate_left
      · (intro wS hSw; (try dsimp only at hSw); go_simp; try with_reducible rfl)
      try simp only [Act.put, List.setIfInBounds_toArray, List.set_cons_zero, List.set_cons_succ]
      refine uTake (i := 5) (some 22) (v := ?_) rfl rfl (by kernel_rfl) (by kernel_rfl) (by kernel_rfl) (by kernel_rfl) (fun _ _ _ h => h) (by rfl) (by assumption) ?_ ?_
      rotate_left
      · (intro wS hSw; (try dsimp only at hSw); go_simp; try with_reducible rfl)
      try simp only [Act.put, List.setIfInBounds_toArray, List.set_cons_zero, List.set_cons_succ]
      refine uTake (i := 6) (some 23) (v := ?_) rfl rfl (by kernel_rfl) (by kernel_rfl) (by kernel_rfl) (by kernel_rfl) (fun _ _ _ h => h) (by rfl) (by assumption) ?_ ?_
      rotate_left
      · (intro wS hSw; (try dsimp only at hSw); go_simp; try with_reducible rfl)
      try simp only [Act.put, List.setIfInBounds_toArray, List.set_cons_zero, List.set_cons_succ]
      refine uTake (i := 7) (some 24) (v := .agg (usc yu yp yq).toArray) rfl rfl (by kernel_rfl) (by kernel_rfl) (by kernel_rfl) (by kernel_rfl) (fun _ _ _ h => h) (by rfl) (by assumption) ?_ ?_
      · (intro wS hSw; (try dsimp only at hSw); revert hSw; (try simp only [and_imp]); intros; exact exec_load_b bUse _ rfl yab (yao + k * 83) rfl (usc yu yp yq) (usc_len yS.out _ _) (by assumption))
      try simp only [Act.put, List.setIfInBounds_toArray, List.set_cons_zero, List.set_cons_succ]
      refine uReady (rs := [8]) (by kernel_rfl) (by simp) ?_
      refine ReadyU.cons rfl (fun KK hKK => ?_) ReadyU.nil
      go_simp
      refine (sameu_c xu yu (E3.out.fc 3 rfl) (E3.out.fc 1 rfl) HB1.out HB2.out (t := false) (by first | exact bH.out | simpa using bH.out)).mono ?_
      rintro e w2 ⟨rfl, hb⟩
      have E4 : Hid (Env D w [] [.gn (gRg yab (yao + k * 83) (usc yu yp yq)), .gn (gSp yu.sp yp yq), .gn (gRg xab (xao + k * 83) (usc xu xp xq)), .gn (gSp xu.sp xp xq), .gn (gUl (.slice (some ⟨yab, yao, none⟩) Y.length yk) Y), .gn (gUl (.slice (some ⟨xab, xao, none⟩) X.length xk) X)] w2) := Lib.hid (E3.out.below hb)
      clear E3 hb
      (try dsimp only)
      clear hHeld
      refine hKK.out _ _ (⟨(E4.out.fc 2 rfl).2, (E4.out.fc 0 rfl).2⟩) (fun hHeld => ?_)
      clear hKK KK
      try simp only [Act.put, List.setIfInBounds_toArray, List.set_cons_zero, List.set_cons_succ]
      refine uTake (i := 9) (some 26) (v := ?_) rfl rfl (by kernel_rfl) (by kernel_rfl) (by kernel_rfl) (by kernel_rfl) (fun _ _ _ h => h) (by rfl) (by assumption) ?_ ?_
      rotate_left
      · (intro wS hSw; (try dsimp only at hSw); go_simp; try with_reducible rfl)
      try simp only [Act.put, List.setIfInBounds_toArray, List.set_cons_zero, List.set_cons_succ]
      refine uDone (by kernel_rfl) ?_ _
      have hfin := Lib.hid E4.out.bel
      go_wp2
      go_ret
      exact ⟨RetEqB HT.out.symm, hfin.out⟩
    | true =>
      have HS2 : Hid (∀ (j : Nat), j < k + 1 → (X.map Uv.u)[j]? = (Y.map Uv.u)[j]?) := Lib.hid (fun j hj => by by_cases e : j = k; (· subst e; rw [HU.out, HV.out, bH.out.1 (by simp)]); exact HS.out j (by omega))
      go_wp2_with fail
      have E3 : Hid (Env D w [] [.gn (gRg yab (yao + k * 83) (usc yu yp yq)), .gn (gSp yu.sp yp yq), .gn (gRg xab (xao + k * 83) (usc xu xp xq)), .gn (gSp xu.sp xp xq), .gn (gUl (.slice (some ⟨yab, yao, none⟩) Y.length yk) Y), .gn (gUl (.slice (some ⟨xab, xao, none⟩) X.length xk) X)] (wr.drew)) := Lib.hid E2.out.drew
      clear E2
      refine wp_regionU (S := fun w' => w'.rangeAt xab (xao + k * 83) (usc xu xp xq) ∧ w'.rangeAt yab (yao + k * 83) (usc yu yp yq)) [] (by kernel_rfl) (⟨(E3.out.fc 2 rfl).2, (E3.out.fc 0 rfl).2⟩) (fun hHeld => ?_)
      generalize wr.drew = w1 at *
      refine uTake (i := 0) (some 17) (v := ?_) rfl rfl (by kernel_rfl) (by kernel_rfl) (by kernel_rfl) (by kernel_rfl) (fun _ _ _ h => h) (by rfl) (by assumption) ?_ ?_
      rotate_left
      · (intro wS hSw; (try dsimp only at hSw); go_simp; try with_reducible rfl)
      try simp only [Act.put, List.setIfInBounds_toArray, List.set_cons_zero, List.set_cons_succ]
      refine uTake (i := 1) (some 18) (v := ?_) rfl rfl (by kernel_rfl) (by kernel_rfl) (by kernel_rfl) (by kernel_rfl) (fun _ _ _ h => h) (by rfl) (by assumption) ?_ ?_
      rotate_left
      · (intro wS hSw; (try dsimp only at hSw); go_simp; try with_reducible rfl)
      try simp only [Act.put, List.setIfInBounds_toArray, List.set_cons_zero, List.set_cons_succ]
      refine uTake (i := 2) (some 19) (v := ?_) rfl rfl (by kernel_rfl) (by kernel_rfl) (by kernel_rfl) (by kernel_rfl) (fun _ _ _ h => h) (by rfl) (by assumption) ?_ ?_
      rotate_left
      · (intro wS hSw; (try dsimp only at hSw); go_simp; try with_reducible rfl)
      try simp only [Act.put, List.setIfInBounds_toArray, List.set_cons_zero, List.set_cons_succ]
      refine uTake (i := 3) (some 20) (v := .agg (usc xu xp xq).toArray) rfl rfl (by kernel_rfl) (by kernel_rfl) (by kernel_rfl) (by kernel_rfl) (fun _ _ _ h => h) (by rfl) (by assumption) ?_ ?_
      · (intro wS hSw; (try dsimp only at hSw); revert hSw; (try simp only [and_imp]); intros; exact exec_load_b bUse _ rfl xab (xao + k * 83) rfl (usc xu xp xq) (usc_len xS.out _ _) (by assumption))
      try simp only [Act.put, List.setIfInBounds_toArray, List.set_cons_zero, List.set_cons_succ]
      refine uTake (i := 4) (some 21) (v := ?_) rfl rfl (by kernel_rfl) (by kernel_rfl) (by kernel_rfl) (by kernel_rfl) (fun _ _ _ h => h) (by rfl) (by assumption) ?_ ?_
      rotate_left
      · (intro wS hSw; (try dsimp only at hSw); go_simp; try with_reducible rfl)
      try simp only [Act.put, List.setIfInBounds_toArray, List.set_cons_zero, List.set_cons_succ]
      refine uTake (i := 5) (some 22) (v := ?_) rfl rfl (by kernel_rfl) (by kernel_rfl) (by kernel_rfl) (by kernel_rfl) (fun _ _ _ h => h) (by rfl) (by assumption) ?_ ?_
      rotate_left
      · (intro wS hSw; (try dsimp only at hSw); go_simp; try with_reducible rfl)
      try simp only [Act.put, List.setIfInBounds_toArray, List.set_cons_zero, List.set_cons_succ]
      refine uTake (i := 6) (some 23) (v := ?_) rfl rfl (by kernel_rfl) (by kernel_rfl) (by kernel_rfl) (by kernel_rfl) (fun _ _ _ h => h) (by rfl) (by assumption) ?_ ?_
      rotate_left
      · (intro wS hSw; (try dsimp only at hSw); go_simp; try with_reducible rfl)
      try simp only [Act.put, List.setIfInBounds_toArray, List.set_cons_zero, List.set_cons_succ]
      refine uTake (i := 7) (some 24) (v := .agg (usc yu yp yq).toArray) rfl rfl (by kernel_rfl) (by kernel_rfl) (by kernel_rfl) (by kernel_rfl) (fun _ _ _ h => h) (by rfl) (by assumption) ?_ ?_
      · (intro wS hSw; (try dsimp only at hSw); revert hSw; (try simp only [and_imp]); intros; exact exec_load_b bUse _ rfl yab (yao + k * 83) rfl (usc yu yp yq) (usc_len yS.out _ _) (by assumption))
      try simp only [Act.put, List.setIfInBounds_toArray, List.set_cons_zero, List.set_cons_succ]
      refine uReady (rs := [8]) (by kernel_rfl) (by simp) ?_
      refine ReadyU.cons rfl (fun KK hKK => ?_) ReadyU.nil
      go_simp
      refine (sameu_c xu yu (E3.out.fc 3 rfl) (E3.out.fc 1 rfl) HB1.out HB2.out (t := true) (by first | exact bH.out | simpa using bH.out)).mono ?_
      rintro e w2 ⟨rfl, hb⟩
      have E4 : Hid (Env D w [] [.gn (gRg yab (yao + k * 83) (usc yu yp yq)), .gn (gSp yu.sp yp yq), .gn (gRg xab (xao + k * 83) (usc xu xp xq)), .gn (gSp xu.sp xp xq), .gn (gUl (.slice (some ⟨yab, yao, none⟩) Y.length yk) Y), .gn (gUl (.slice (some ⟨xab, xao, none⟩) X.length xk) X)] w2) := Lib.hid (E3.out.below hb)
      clear E3 hb
      (try dsimp only)
      clear hHeld
      refine hKK.out _ _ (⟨(E4.out.fc 2 rfl).2, (E4.out.fc 0 rfl).2⟩) (fun hHeld => ?_)
      clear hKK KK
      try simp only [Act.put, List.setIfInBounds_toArray, List.set_cons_zero, List.set_cons_succ]
      refine uTake (i := 9) (some 26) (v := ?_) rfl rfl (by kernel_rfl) (by kernel_rfl) (by kernel_rfl) (by kernel_rfl) (fun _ _ _ h => h) (by rfl) (by assumption) ?_ ?_
      rotate_left
      · (intro wS hSw; (try dsimp only at hSw); go_simp; try with_reducible rfl)
      try simp only [Act.put, List.setIfInBounds_toArray, List.set_cons_zero, List.set_cons_succ]
      refine uDone (by kernel_rfl) ?_ _
      have EZ := Lib.hid ((((E4.out.forget).forget).forget).forget)
      go_wp2
      go_roundg (X.length - (k + 1))
      case rel => exact ⟨k + 1, rfl, EZ, Lib.hid ⟨⟨by omega, rfl⟩, HS2.out⟩⟩
      case measure => exact by omega
set_option maxRecDepth 100000 in
set_option maxHeartbeats 2000000 in
theorem rfind_c {D : Nat → Prop} (X : List Uv) (a b : Int) {xa : Option Addr} {xk : Nat} {w : World} (hx : Fct.at w D (.gn (gUl (.slice xa X.length xk) X))) (hm0 : X.length ≤ 1000000) {r : Int} (hr0 : FindR (X.map Uv.u) a b r) :
    Calls Try.prog 16 #[.agg #[.slice xa X.length xk], .int .i64 a, .int .i64 b] w fun e w' => e = .returned (.int .i64 r) ∧ Below w.heap.size w w' := by
  have E0 : Hid (Env D w [] [.gn (gUl (.slice xa X.length xk) X)] w) := Lib.hid ((Env.start D w).arg (.gn (gUl (.slice xa X.length xk) X)) hx)
  clear hx
  go_enter Try.func16, Try.ntmps16
  have hm := Lib.hid hm0
  have hr := Lib.hid hr0
  clear hm0 hr0
  have hm9 := hm.out
  go_wp2_with fail
  have E1 : Hid (Env D w [(w.heap.size, 25, [.slice xa X.length xk])] [.gn (gUl (.slice xa X.length xk) X)] _) := Lib.hid ((E0.out.push 25 [.slice xa X.length xk] (w.heap.size) (by simp)))
  go_loopg [7] (X.length) (fun gk s7 wr => ∃ (k : Nat), s7 = .int .i64 (k : Int) ∧ Hid (Env D w [(w.heap.size, 25, [.slice xa X.length xk])] [.gn (gUl (.slice xa X.length xk) X)] wr) ∧ Hid ((k ≤ X.length ∧ gk = X.length - k) ∧ (∀ (j : Nat) (v : Us), j < k → (X.map Uv.u)[j]? = some v → ¬ (v.ua = a ∧ v.ub = b))))
  case atStart => exact ⟨0, rfl, Lib.hid E1.out, Lib.hid ⟨⟨Nat.zero_le _, rfl⟩, fun j v h => absurd h (Nat.not_lt_zero _)⟩⟩
  case round =>
    clear E0 E1
    obtain ⟨k, rfl, EL, HA⟩ := hrel
    obtain ⟨⟨a1, a2⟩, a3⟩ := HA.out
    have HS := Lib.hid a3
    clear a3 HA
    by_cases hy : k = X.length
    · skip
      have t6 : decide ((k : Int) < (X.length : Int)) = false := decide_eq_false (by omega)
      have t7 : decide (k < X.length) = false := decide_eq_false (by omega)
      have HR : Hid (r = -1) := Lib.hid (by rcases hr.out with ⟨h, _⟩ | ⟨i, u, _, h1, h2, _⟩; (· exact h); exact absurd h2 (HS.out i u (by have := (List.getElem?_eq_some_iff.1 h1).1; rw [List.length_map] at this; omega) h1))
      have HY := Lib.hid hy
      clear hy
      have b1 := EL.out.bx 0 rfl
      have c1_0 := b1.cell 0 rfl
      clear b1
      have hfin := Lib.hid EL.out.bel
      go_wp2
      go_ret
      exact ⟨RetEq HR.out.symm, hfin.out⟩
    have hk : k < X.length := lt_of hy a1
    have t6 : decide ((k : Int) < (X.length : Int)) = true := decide_eq_true (by omega)
    have t7 : decide (k < X.length) = true := decide_eq_true (by omega)
    have hkI : (k : Int) < (X.length : Int) := by omega
    clear hy
    have b1 := EL.out.bx 0 rfl
    have c1_0 := b1.cell 0 rfl
    clear b1
    go_upto_region 4 with (fail)
    obtain ⟨xab, xao, rfl⟩ := gUl.addr (EL.out.fc 0 rfl) (List.ne_nil_of_length_pos (Nat.lt_of_le_of_lt (Nat.zero_le _) hk))
    obtain ⟨⟨xu, xp, xq⟩, xe⟩ : ∃ x, X[k] = x := ⟨_, rfl⟩
    have xE := Lib.hid xe
    clear xe
    have E2 : Hid (Env D w [(w.heap.size, 25, [.slice (some ⟨xab, xao, none⟩) X.length xk])] [.gn (gRg xab (xao + k * 83) (usc xu xp xq)), .gn (gSp xu.sp xp xq), .gn (gUl (.slice (some ⟨xab, xao, none⟩) X.length xk) X)] _) := Lib.hid (EL.out.elU 0 rfl hk xE.out)
    clear EL
    have xS := Lib.hid (E2.out.spOk 1 rfl)
    have xN : Hid (∀ v ∈ usc xu xp xq, v.oneCell' = true) := Lib.hid (usc_one xS.out (Rw.oneV (E2.out.fc 1 rfl).2.1) (Rw.oneV (E2.out.fc 1 rfl).2.2))
    have HU : Hid ((X.map Uv.u)[k]? = some xu) := Lib.hid (map_get hk xE.out)
    by_cases q1 : xu.ua = a
    rotate_left
    · have q1t : (xu.ua == a) = false := by simpa using q1
      have HS2 : Hid (∀ (j : Nat) (v : Us), j < k + 1 → (X.map Uv.u)[j]? = some v → ¬ (v.ua = a ∧ v.ub = b)) := Lib.hid (fun j v hj hv => by by_cases e : j = k; (· subst e; rw [HU.out] at hv; cases hv; exact fun h => q1 h.1); exact HS.out j v (by omega) hv)
      clear q1
      have b2 := E2.out.bx 0 rfl
      have c2_0 := b2.cell 0 rfl
      clear b2
      have c3 : World.cell? _ ⟨xab, xao + k * 83, none⟩ = some (.int .i64 xu.ua) := gRg.cell (E2.out.fc 0 rfl) (j := 0) rfl
      have EZ := Lib.hid ((E2.out.forget).forget)
      go_wp2
      go_roundg (X.length - (k + 1))
      case rel => exact ⟨k + 1, rfl, EZ, Lib.hid ⟨⟨by omega, rfl⟩, HS2.out⟩⟩
      case measure => exact by omega
    have q1t : (xu.ua == a) = true := by simpa using q1
    have q1H := Lib.hid q1
    clear q1
    by_cases q2 : xu.ub = b
    rotate_left
    · have q2t : (xu.ub == b) = false := by simpa using q2
      have HS2 : Hid (∀ (j : Nat) (v : Us), j < k + 1 → (X.map Uv.u)[j]? = some v → ¬ (v.ua = a ∧ v.ub = b)) := Lib.hid (fun j v hj hv => by by_cases e : j = k; (· subst e; rw [HU.out] at hv; cases hv; exact fun h => q2 h.2); exact HS.out j v (by omega) hv)
      clear q2
      have b2 := E2.out.bx 0 rfl
      have c2_0 := b2.cell 0 rfl
      clear b2
      have c3 : World.cell? _ ⟨xab, xao + k * 83, none⟩ = some (.int .i64 xu.ua) := gRg.cell (E2.out.fc 0 rfl) (j := 0) rfl
      have c4 : World.cell? _ ⟨xab, xao + k * 83 + 1, none⟩ = some (.int .i64 xu.ub) := gRg.cell (E2.out.fc 0 rfl) (j := 1) rfl
      have EZ := Lib.hid ((E2.out.forget).forget)
      go_wp2
      go_roundg (X.length - (k + 1))
      case rel => exact ⟨k + 1, rfl, EZ, Lib.hid ⟨⟨by omega, rfl⟩, HS2.out⟩⟩
      case measure => exact by omega
    have q2t : (xu.ub == b) = true := by simpa using q2
    have q2H := Lib.hid q2
    clear q2
    have HR : Hid (r = (k : Int)) := Lib.hid (by rcases hr.out with ⟨_, h⟩ | ⟨i, u, h0, h1, h2, h3⟩; (· exact absurd ⟨q1H.out, q2H.out⟩ (h k _ HU.out)); rw [h0]; rcases Nat.lt_trichotomy i k with e | e | e; (· exact absurd h2 (HS.out i u e h1)); (· rw [e]); exact absurd ⟨q1H.out, q2H.out⟩ (h3 k _ e HU.out))
    have b2 := E2.out.bx 0 rfl
    have c2_0 := b2.cell 0 rfl
    clear b2
    have c3 : World.cell? _ ⟨xab, xao + k * 83, none⟩ = some (.int .i64 xu.ua) := gRg.cell (E2.out.fc 0 rfl) (j := 0) rfl
    have c4 : World.cell? _ ⟨xab, xao + k * 83 + 1, none⟩ = some (.int .i64 xu.ub) := gRg.cell (E2.out.fc 0 rfl) (j := 1) rfl
    have hfin := Lib.hid E2.out.bel
    go_wp2
    go_ret
    exact ⟨RetEq HR.out.symm, hfin.out⟩
set_option maxRecDepth 100000 in
set_option maxHeartbeats 4000000 in
theorem find_c {D : Nat → Prop} (X : List Uv) (a b : Int) {xa : Option Addr} {xk : Nat} {w : World} (hx : Fct.at w D (.gn (gUl (.slice xa X.length xk) X))) (hb0 : ∀ x ∈ X, x.u.sp.lv.length ≤ 1000000 ∧ x.u.sp.pa.length ≤ 1000000) (hm0 : X.length ≤ 1000000) {u : Us} {t : Bool} (hr0 : FindP (X.map Uv.u) a b u t) :
    Calls Try.prog 15 #[.agg #[.slice xa X.length xk], .int .i64 a, .int .i64 b] w fun e w' => RetUB (fun b => D b ∨ w.heap.size ≤ b) u t e w' ∧ Below w.heap.size w w' := by
  have E0 : Hid (Env D w [] [.gn (gUl (.slice xa X.length xk) X)] w) := Lib.hid ((Env.start D w).arg (.gn (gUl (.slice xa X.length xk) X)) hx)
  clear hx
  go_enter Try.func15, Try.ntmps15
  have hb := Lib.hid hb0
  have hm := Lib.hid hm0
  have hr := Lib.hid hr0
  clear hb0 hm0 hr0
  have ZN : Hid (∀ v ∈ usc zU nilV nilV, v.oneCell' = true) := Lib.hid zU_one
  obtain ⟨v1, v1h⟩ : ∃ b : Bool, b = true ↔ ValidT (X.map Uv.u) := by by_cases h : ValidT (X.map Uv.u); (· exact ⟨true, ⟨fun _ => h, fun _ => rfl⟩⟩); exact ⟨false, ⟨fun h2 => Bool.noConfusion h2, fun h2 => absurd h2 h⟩⟩
  have v1H := Lib.hid v1h
  clear v1h
  cases v1 with
  | false =>
    go_wp2_with (first | (with_reducible refine wpl_alloc_b ?_ ?_ _ zvUse ?_; (· rfl); (· rfl)))
    have E1 : Hid (Env D w [(w.heap.size + 1, 44, usc zU nilV nilV), (w.heap.size, 25, [.slice xa X.length xk])] [.gn (gUl (.slice xa X.length xk) X)] _) := Lib.hid (((E0.out.push 25 [.slice xa X.length xk] (w.heap.size) (by simp)).push 44 (usc zU nilV nilV) (w.heap.size + 1) (by simp)))
    refine (valid_c X (E1.out.fc 0 rfl) hb.out (t := false) (by first | exact v1H.out | simpa using v1H.out) hm.out).mono ?_
    rintro e w1 ⟨rfl, hb⟩
    have E2 : Hid (Env D w [(w.heap.size + 1, 44, usc zU nilV nilV), (w.heap.size, 25, [.slice xa X.length xk])] [.gn (gUl (.slice xa X.length xk) X)] w1) := Lib.hid (E1.out.below hb)
    clear E0 E1 hb
    have HR : Hid (u = zU ∧ t = false) := Lib.hid (by have hnv : ¬ ValidT (X.map Uv.u) := (by simpa using v1H.out); rcases hr.out with h | h | h; (· exact h.2); (· exact absurd h.1 hnv); exact absurd h.1 hnv)
    have b1 := Lib.hid (E2.out.bx 0 rfl)
    go_wp2_with (first | (with_reducible refine wpl_alloc_b ?_ ?_ _ zvUse ?_; (· rfl); (· rfl)) | (with_reducible refine wpl_use0 ?_ ?_ ?_; (· rfl); (· rfl)) | (with_reducible refine wpl_store_b bUse (w.heap.size + 1) 0 (usc zU nilV nilV) ?_ ?_ (usc_len zS_ok _ _) (Box.there b1.out (Nat.le_of_eq (usc_len zS_ok _ _).symm)) ZN.out ?_; (· first | exact ⟨_, _, rfl, rfl, rfl⟩ | (refine ⟨_, _, rfl, ?_, ?_⟩ <;> simp [Act.eval, Act.put])); (· kernel_rfl)))
    have E3 : Hid (Env D w [(w.heap.size + 1, 44, usc zU nilV nilV), (w.heap.size, 25, [.slice xa X.length xk])] [.gn (gUl (.slice xa X.length xk) X)] _) := Lib.hid ((E2.out.whole 0 (usc zU nilV nilV) rfl ((usc_len zS_ok _ _).trans (usc_len zS_ok _ _).symm)))
    exact bodyPost_ret (results_b2 bUse Try.results15 _ (E3.out.bx 0 rfl) (usc_len (u := zU) zS_ok _ _) rfl) rfl ⟨by obtain ⟨e1, e2⟩ := HR.out; subst e1 e2; exact ⟨nilV, nilV, rfl, Lib.hid (gSp.nil _ _)⟩, E3.out.bel⟩
  | true =>
    have HV : Hid (ValidT (X.map Uv.u)) := Lib.hid (v1H.out.1 (by simp))
    go_wp2_with (first | (with_reducible refine wpl_alloc_b ?_ ?_ _ zvUse ?_; (· rfl); (· rfl)))
    have E1 : Hid (Env D w [(w.heap.size + 1, 44, usc zU nilV nilV), (w.heap.size, 25, [.slice xa X.length xk])] [.gn (gUl (.slice xa X.length xk) X)] _) := Lib.hid (((E0.out.push 25 [.slice xa X.length xk] (w.heap.size) (by simp)).push 44 (usc zU nilV nilV) (w.heap.size + 1) (by simp)))
    refine (valid_c X (E1.out.fc 0 rfl) hb.out (t := true) (by first | exact v1H.out | simpa using v1H.out) hm.out).mono ?_
    rintro e w1 ⟨rfl, hb⟩
    have E2 : Hid (Env D w [(w.heap.size + 1, 44, usc zU nilV nilV), (w.heap.size, 25, [.slice xa X.length xk])] [.gn (gUl (.slice xa X.length xk) X)] w1) := Lib.hid (E1.out.below hb)
    clear E0 E1 hb
    obtain ⟨i, hi⟩ : ∃ i, lb (X.map Uv.u) a b = i := ⟨_, rfl⟩
    have HI := Lib.hid hi
    have HPL : Hid (PlaceK (X.map Uv.u) a b i) := Lib.hid (by rw [← hi]; exact place_lb HV.out.2.2 _ _)
    have HFD : Hid (FoundK (X.map Uv.u) a b i (findK (X.map Uv.u) a b).isSome) := Lib.hid (by rw [← hi]; exact found_lb HV.out.2.2 _ _)
    clear hi
    obtain ⟨fd, hfd⟩ : ∃ fd, findK (X.map Uv.u) a b = fd := ⟨_, rfl⟩
    have HFK := Lib.hid hfd
    rw [hfd] at HFD
    clear hfd
    cases fd with
    | none =>
      have b1 := E2.out.bx 1 rfl
      have c1_0 := b1.cell 0 rfl
      clear b1
      go_wp2_with (first | (with_reducible refine wpl_alloc_b ?_ ?_ _ zvUse ?_; (· rfl); (· rfl)))
      refine (search_c X a b (E2.out.fc 0 rfl) HPL.out (t := false) HFD.out hm.out).mono ?_
      rintro e w2 ⟨rfl, hb⟩
      have E3 : Hid (Env D w [(w.heap.size + 1, 44, usc zU nilV nilV), (w.heap.size, 25, [.slice xa X.length xk])] [.gn (gUl (.slice xa X.length xk) X)] w2) := Lib.hid (E2.out.below hb)
      clear c1_0 E2 hb
      have HR : Hid (u = zU ∧ t = false) := Lib.hid (by rcases hr.out with h | h | h; (· exact absurd HV.out h.1); (· exact h.2.2); have h2 := h.2.1; rw [HFK.out] at h2; cases h2)
      have b2 := Lib.hid (E3.out.bx 0 rfl)
      go_wp2_with (first | (with_reducible refine wpl_alloc_b ?_ ?_ _ zvUse ?_; (· rfl); (· rfl)) | (with_reducible refine wpl_use0 ?_ ?_ ?_; (· rfl); (· rfl)) | (with_reducible refine wpl_store_b bUse (w.heap.size + 1) 0 (usc zU nilV nilV) ?_ ?_ (usc_len zS_ok _ _) (Box.there b2.out (Nat.le_of_eq (usc_len zS_ok _ _).symm)) ZN.out ?_; (· first | exact ⟨_, _, rfl, rfl, rfl⟩ | (refine ⟨_, _, rfl, ?_, ?_⟩ <;> simp [Act.eval, Act.put])); (· kernel_rfl)))
      have E4 : Hid (Env D w [(w.heap.size + 1, 44, usc zU nilV nilV), (w.heap.size, 25, [.slice xa X.length xk])] [.gn (gUl (.slice xa X.length xk) X)] _) := Lib.hid ((E3.out.whole 0 (usc zU nilV nilV) rfl ((usc_len zS_ok _ _).trans (usc_len zS_ok _ _).symm)))
      exact bodyPost_ret (results_b2 bUse Try.results15 _ (E4.out.bx 0 rfl) (usc_len (u := zU) zS_ok _ _) rfl) rfl ⟨by obtain ⟨e1, e2⟩ := HR.out; subst e1 e2; exact ⟨nilV, nilV, rfl, Lib.hid (gSp.nil _ _)⟩, E4.out.bel⟩
    | some y =>
      have b1 := E2.out.bx 1 rfl
      have c1_0 := b1.cell 0 rfl
      clear b1
      go_wp2_with (first | (with_reducible refine wpl_alloc_b ?_ ?_ _ zvUse ?_; (· rfl); (· rfl)))
      refine (search_c X a b (E2.out.fc 0 rfl) HPL.out (t := true) HFD.out hm.out).mono ?_
      rintro e w2 ⟨rfl, hb⟩
      have E3 : Hid (Env D w [(w.heap.size + 1, 44, usc zU nilV nilV), (w.heap.size, 25, [.slice xa X.length xk])] [.gn (gUl (.slice xa X.length xk) X)] w2) := Lib.hid (E2.out.below hb)
      clear c1_0 E2 hb
      have HAT : Hid ((X.map Uv.u)[i]? = some y) := Lib.hid (by rw [← HI.out]; exact findK_at HV.out.2.2 HFK.out)
      have hii : i < X.length := by have h := (List.getElem?_eq_some_iff.1 HAT.out).1; rwa [List.length_map] at h
      have hiI : (i : Int) < (X.length : Int) := by omega
      have HR : Hid (u = y ∧ t = true) := Lib.hid (by rcases hr.out with h | h | h; (· exact absurd HV.out h.1); (· have h2 := h.2.1; rw [HFK.out] at h2; cases h2); have h2 := h.2.1; rw [HFK.out] at h2; exact ⟨(Option.some.inj h2).symm, h.2.2⟩)
      go_upto_region 6 with (first | (with_reducible refine wpl_alloc_b ?_ ?_ _ zvUse ?_; (· rfl); (· rfl)))
      obtain ⟨xab, xao, rfl⟩ := gUl.addr (E3.out.fc 0 rfl) (List.ne_nil_of_length_pos (Nat.lt_of_le_of_lt (Nat.zero_le _) hii))
      obtain ⟨p, pe⟩ : ∃ x, X[i] = x := ⟨_, rfl⟩
      have pE := Lib.hid pe
      clear pe
      have E4 : Hid (Env D w [(w.heap.size + 1, 44, usc zU nilV nilV), (w.heap.size, 25, [.slice (some ⟨xab, xao, none⟩) X.length xk])] [.gn (gRg xab (xao + i * 83) (usc p.u p.la p.pa)), .gn (gSp p.u.sp p.la p.pa), .gn (gUl (.slice (some ⟨xab, xao, none⟩) X.length xk) X)] _) := Lib.hid (E3.out.elU 0 rfl hii pE.out)
      clear E3
      have pS := Lib.hid (E4.out.spOk 1 rfl)
      have pN : Hid (∀ v ∈ usc p.u p.la p.pa, v.oneCell' = true) := Lib.hid (usc_one pS.out (Rw.oneV (E4.out.fc 1 rfl).2.1) (Rw.oneV (E4.out.fc 1 rfl).2.2))
      have HPY : Hid (p.u = y) := Lib.hid (by have h := map_get hii pE.out; rw [HAT.out] at h; exact (Option.some.inj h).symm)
      have HBP : Hid (p.u.sp.lv.length ≤ 1000000 ∧ p.u.sp.pa.length ≤ 1000000) := Lib.hid (hb.out _ (List.mem_of_getElem (h := hii) pE.out))
      have b2 := E4.out.bx 1 rfl
      have c2_0 := b2.cell 0 rfl
      clear b2
      have r3 := Lib.hid (E4.out.fc 0 rfl).2
      go_wp2_with (first | (with_reducible refine wpl_alloc_b ?_ ?_ _ zvUse ?_; (· rfl); (· rfl)) | (with_reducible refine wpl_load_b bUse xab (xao + i * 83) ?_ ?_ (usc p.u p.la p.pa) (usc_len pS.out _ _) r3.out ?_; (· exact ⟨_, rfl, rfl⟩); (· kernel_rfl)))
      refine (copyOf_c p.u (E4.out.fc 1 rfl) HBP.out).mono ?_
      rintro e w3 ⟨⟨ra, rb, rfl, rh⟩, hb⟩
      have E5 : Hid (Env D w [(w.heap.size + 1, 44, usc zU nilV nilV), (w.heap.size, 25, [.slice (some ⟨xab, xao, none⟩) X.length xk])] [.gn (gSp p.u.sp ra rb), .gn (gRg xab (xao + i * 83) (usc p.u p.la p.pa)), .gn (gSp p.u.sp p.la p.pa), .gn (gUl (.slice (some ⟨xab, xao, none⟩) X.length xk) X)] w3) := Lib.hid (E4.out.got (E4.out.below hb) (.gn (gSp p.u.sp ra rb)) rh.out)
      clear c2_0 r3 E4 hb rh
      have rN : Hid (∀ v ∈ usc p.u ra rb, v.oneCell' = true) := Lib.hid (gUv.one (x := ⟨p.u, ra, rb⟩) (E5.out.fc 0 rfl))
      have b4 := Lib.hid (E5.out.bx 0 rfl)
      go_wp2_with (first | (with_reducible refine wpl_alloc_b ?_ ?_ _ zvUse ?_; (· rfl); (· rfl)) | (with_reducible refine wpl_store_b bUse (w.heap.size + 1) 0 (usc p.u ra rb) ?_ ?_ (usc_len pS.out _ _) (Box.there b4.out (Nat.le_of_eq (usc_len zS_ok _ _).symm)) rN.out ?_; (· first | exact ⟨_, _, rfl, rfl, rfl⟩ | (refine ⟨_, _, rfl, ?_, ?_⟩ <;> simp [Act.eval, Act.put])); (· kernel_rfl)))
      have E6 : Hid (Env D w [(w.heap.size + 1, 44, usc p.u ra rb), (w.heap.size, 25, [.slice (some ⟨xab, xao, none⟩) X.length xk])] [.gn (gSp p.u.sp ra rb), .gn (gRg xab (xao + i * 83) (usc p.u p.la p.pa)), .gn (gSp p.u.sp p.la p.pa), .gn (gUl (.slice (some ⟨xab, xao, none⟩) X.length xk) X)] _) := Lib.hid ((E5.out.whole 0 (usc p.u ra rb) rfl ((usc_len pS.out _ _).trans (usc_len zS_ok _ _).symm)))
      exact bodyPost_ret (results_b2 bUse Try.results15 _ (E6.out.bx 0 rfl) (usc_len pS.out _ _) rfl) rfl ⟨by obtain ⟨e1, e2⟩ := HR.out; rw [e1, e2, ← HPY.out]; exact ⟨_, _, rfl, Lib.hid (E6.out.out 0 rfl)⟩, E6.out.bel⟩
end Go.Proofs.Ytfnnfmefihiefaa

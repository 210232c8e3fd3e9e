/- the place of a leaf's use. -/
import Derived.Test.YtfnnfmefihiefaaSpM
namespace Go.Proofs.Ytfnnfmefihiefaa
open Go.RowKit
set_option linter.unusedVariables false
set_option linter.unusedSimpArgs false
theorem RetEqT {i : Int} {a b : Bool} (h : a = b) : Ending.returned (.tuple #[.int .i64 i, .bool a]) = Ending.returned (.tuple #[.int .i64 i, .bool b]) := by rw [h]
/-- where the use of a leaf is, or would be -/
def PlaceK (L : List Us) (a b : Int) (i : Nat) : Prop := i ≤ L.length ∧ (∀ k u, L[k]? = some u → k < i → ltK u.ua u.ub a b) ∧ (∀ k u, L[k]? = some u → i ≤ k → ¬ ltK u.ua u.ub a b)
def FoundK (L : List Us) (a b : Int) (i : Nat) (t : Bool) : Prop := t = true ↔ ∃ u, L[i]? = some u ∧ u.ua = a ∧ u.ub = b
theorem map_get {X : List Uv} {k : Nat} (h : k < X.length) {x : Uv} (e : X[k] = x) : (X.map Uv.u)[k]? = some x.u := by rw [List.getElem?_map, List.getElem?_eq_getElem h, e]; rfl
theorem wpl_use2 {ops : Array Oper} {rest : List Oper} {op : Oper} {a : Act} {w : World} {Q : Exit → Act → World → Prop} (A B : Int) (hg : op.guard = none) (hx : ∃ x y, op.op = .build 44 #[(0, x), (1, y)] ∧ a.eval x = .int .i64 A ∧ a.eval y = .int .i64 B)
    (h : wpList Try.prog ops Q rest (a.put op.dst (.agg (usc (Us.mk A B zS 0) nilV nilV).toArray)) w) : wpList Try.prog ops Q (op :: rest) a w := by
  obtain ⟨x, y, ho, h1, h2⟩ := hx
  exact wpl_build_b hg _ ho [(0, .int .i64 A), (1, .int .i64 B)] (by simp [h1, h2]) _ (built_use2 A B) h
set_option maxRecDepth 100000 in
set_option maxHeartbeats 2000000 in
theorem bsf_c {D : Nat → Prop} (X : List Uv) (a b : Int) {xa : Option Addr} {xk : Nat} {w : World} (hx : Fct.at w D (.gn (gUl (.slice xa X.length xk) X))) {i : Nat} {t : Bool} (hi0 : PlaceK (X.map Uv.u) a b i) (ht0 : FoundK (X.map Uv.u) a b i t) (hm0 : X.length ≤ 1000000) :
    Calls Try.prog 56 #[.slice xa X.length xk, .agg (usc (Us.mk a b zS 0) nilV nilV).toArray, .func (.func 44) #[] #[]] w fun e w' => e = .returned (.tuple #[.int .i64 (i : Int), .bool t]) ∧ Below w.heap.size w w' := by
  have E0 : Hid (Env D w [] [.gn (gUl (.slice xa X.length xk) X)] w) := Lib.hid ((Env.start D w).arg (.gn (gUl (.slice xa X.length xk) X)) hx)
  clear hx
  go_enter Try.func56, Try.ntmps56
  have hi := Lib.hid hi0
  have ht := Lib.hid ht0
  have hm := Lib.hid hm0
  clear hi0 ht0 hm0
  have HZ : Hid (SpOk (Us.mk a b zS 0).sp) := Lib.hid zS_ok
  have HLE : Hid (i ≤ X.length) := Lib.hid (by have h := hi.out.1; rwa [List.length_map] at h)
  go_wp2_with fail
  have E1 : Hid (Env D w [(w.heap.size, 44, usc (Us.mk a b zS 0) nilV nilV)] [.gn (gUl (.slice xa X.length xk) X)] _) := Lib.hid ((E0.out.push 44 (usc (Us.mk a b zS 0) nilV nilV) (w.heap.size) (by simp)))
  go_loopg [9, 10, 11] (X.length) (fun gk s9 s10 s11 wr => ∃ (lo hi : Nat) (x11 : Value), s9 = .int .i64 (lo : Int) ∧ s10 = .int .i64 (hi : Int) ∧ s11 = x11 ∧ Hid (Env D w [(w.heap.size, 44, usc (Us.mk a b zS 0) nilV nilV)] [.gn (gUl (.slice xa X.length xk) X)] wr) ∧ Hid ((lo ≤ hi ∧ hi ≤ X.length ∧ gk = hi - lo) ∧ lo ≤ i ∧ i ≤ hi))
  case atStart => exact ⟨0, X.length, _, rfl, rfl, rfl, Lib.hid E1.out, Lib.hid ⟨⟨Nat.zero_le _, Nat.le_refl _, rfl⟩, Nat.zero_le _, HLE.out⟩⟩
  case round =>
    clear E0 E1
    obtain ⟨lo, hj, x11, rfl, rfl, rfl, EL, HA⟩ := hrel
    obtain ⟨⟨a1, a2, a5⟩, a6, a7⟩ := HA.out
    have hm9 := hm.out
    clear HA
    by_cases hy : lo < hj
    · have t1 : decide ((lo : Int) < (hj : Int)) = true := decide_eq_true (by omega)
      have t2 : decide (lo < hj) = true := decide_eq_true hy
      obtain ⟨m, hm0, hmn⟩ : ∃ m, m = (lo + hj) / 2 ∧ (lo ≤ m ∧ m < hj) := ⟨_, rfl, by omega⟩
      have HM := Lib.hid hm0
      have hmd : m < X.length := by omega
      have hmI : (m : Int) < (X.length : Int) := by omega
      have w1 : IntKind.i64.wrap ((lo : Int) + (hj : Int)) = ((lo + hj : Nat) : Int) := by rw [IntKind.wrap_i64]; omega
      have w2 : IntKind.u64.wrap (((lo + hj : Nat) : Int)) = ((lo + hj : Nat) : Int) := by rw [IntKind.wrap_u64]; omega
      have ed : ((lo : Int) + (hj : Int)) / 2 = (m : Int) := by omega
      have en : (lo + hj) / 2 = m := by omega
      clear hm0 hy
      go_upto_region 5 with (fail)
      obtain ⟨xab, xao, rfl⟩ := gUl.addr (EL.out.fc 0 rfl) (List.ne_nil_of_length_pos (Nat.lt_of_le_of_lt (Nat.zero_le _) hmd))
      obtain ⟨x, xe⟩ : ∃ x, X[m] = x := ⟨_, rfl⟩
      have xE := Lib.hid xe
      clear xe
      have E2 : Hid (Env D w [(w.heap.size, 44, usc (Us.mk a b zS 0) nilV nilV)] [.gn (gRg xab (xao + m * 83) (usc x.u x.la x.pa)), .gn (gSp x.u.sp x.la x.pa), .gn (gUl (.slice (some ⟨xab, xao, none⟩) X.length xk) X)] _) := Lib.hid (EL.out.elU 0 rfl hmd xE.out)
      clear EL
      have xS := Lib.hid (E2.out.spOk 1 rfl)
      have xN : Hid (∀ v ∈ usc x.u x.la x.pa, v.oneCell' = true) := Lib.hid (usc_one xS.out (Rw.oneV (E2.out.fc 1 rfl).2.1) (Rw.oneV (E2.out.fc 1 rfl).2.2))
      obtain ⟨r, hr⟩ : ∃ r, cmpK x.u.ua x.u.ub a b = r := ⟨_, rfl⟩
      have HR := Lib.hid hr
      have HU := Lib.hid (map_get hmd xE.out)
      have hlt : Hid (decide (r < 0) = true ↔ ltK x.u.ua x.u.ub a b) := Lib.hid (by rw [← hr, ← cmpK_neg]; have h := cmpK_cases x.u.ua x.u.ub a b; rw [decide_eq_true_eq]; omega)
      clear hr
      obtain ⟨tl, htl⟩ : ∃ tl, decide (r < 0) = tl := ⟨_, rfl⟩
      have hlt2 : Hid (tl = true ↔ ltK x.u.ua x.u.ub a b) := Lib.hid (by rw [← htl]; exact hlt.out)
      clear ed en
      go_wp2_with fail
      have E3 : Hid (Env D w [(w.heap.size, 44, usc (Us.mk a b zS 0) nilV nilV)] [.gn (gRg xab (xao + m * 83) (usc x.u x.la x.pa)), .gn (gSp x.u.sp x.la x.pa), .gn (gUl (.slice (some ⟨xab, xao, none⟩) X.length xk) X)] (wr.drew)) := Lib.hid E2.out.drew
      clear E2
      refine wp_regionU (S := fun w' => w'.rangeAt xab (xao + m * 83) (usc x.u x.la x.pa) ∧ w'.rangeAt w.heap.size 0 (usc (Us.mk a b zS 0) nilV nilV)) [] (by kernel_rfl) (⟨(E3.out.fc 0 rfl).2, ((E3.out.bx 0 rfl).range (o := 0) (fun j hj => by rw [Nat.zero_add]))⟩) (fun hHeld => ?_)
      generalize wr.drew = w1 at *
      refine uTake (i := 0) (some 24) (v := ?_) rfl rfl (by kernel_rfl) (by kernel_rfl) (by kernel_rfl) (by kernel_rfl) (fun _ _ _ h => h) (by rfl) (by assumption) ?_ ?_
      rotate_left
      · (intro wS hSw; (try dsimp only at hSw); go_simp; try with_reducible rfl)
      try simp only [Act.put, List.setIfInBounds_toArray, List.set_cons_zero, List.set_cons_succ]
      refine uTake (i := 1) (some 25) (v := ?_) rfl rfl (by kernel_rfl) (by kernel_rfl) (by kernel_rfl) (by kernel_rfl) (fun _ _ _ h => h) (by rfl) (by assumption) ?_ ?_
      rotate_left
      · (intro wS hSw; (try dsimp only at hSw); go_simp; try with_reducible rfl)
      try simp only [Act.put, List.setIfInBounds_toArray, List.set_cons_zero, List.set_cons_succ]
      refine uTake (i := 2) (some 26) (v := ?_) rfl rfl (by kernel_rfl) (by kernel_rfl) (by kernel_rfl) (by kernel_rfl) (fun _ _ _ h => h) (by rfl) (by assumption) ?_ ?_
      rotate_left
      · (intro wS hSw; (try dsimp only at hSw); go_simp; try with_reducible rfl)
      try simp only [Act.put, List.setIfInBounds_toArray, List.set_cons_zero, List.set_cons_succ]
      refine uTake (i := 3) (some 27) (v := ?_) rfl rfl (by kernel_rfl) (by kernel_rfl) (by kernel_rfl) (by kernel_rfl) (fun _ _ _ h => h) (by rfl) (by assumption) ?_ ?_
      rotate_left
      · (intro wS hSw; (try dsimp only at hSw); go_simp; try with_reducible rfl)
      try simp only [Act.put, List.setIfInBounds_toArray, List.set_cons_zero, List.set_cons_succ]
      refine uTake (i := 4) (some 28) (v := .agg (usc x.u x.la x.pa).toArray) rfl rfl (by kernel_rfl) (by kernel_rfl) (by kernel_rfl) (by kernel_rfl) (fun _ _ _ h => h) (by rfl) (by assumption) ?_ ?_
      · (intro wS hSw; (try dsimp only at hSw); revert hSw; (try simp only [and_imp]); intros; exact exec_load_b bUse _ rfl xab (xao + m * 83) rfl (usc x.u x.la x.pa) (usc_len xS.out _ _) (by assumption))
      try simp only [Act.put, List.setIfInBounds_toArray, List.set_cons_zero, List.set_cons_succ]
      refine uTake (i := 5) (some 29) (v := .agg (usc (Us.mk a b zS 0) nilV nilV).toArray) rfl rfl (by kernel_rfl) (by kernel_rfl) (by kernel_rfl) (by kernel_rfl) (fun _ _ _ h => h) (by rfl) (by assumption) ?_ ?_
      · (intro wS hSw; (try dsimp only at hSw); revert hSw; (try simp only [and_imp]); intros; exact exec_load_b bUse _ rfl w.heap.size 0 rfl (usc (Us.mk a b zS 0) nilV nilV) (usc_len HZ.out _ _) (by assumption))
      try simp only [Act.put, List.setIfInBounds_toArray, List.set_cons_zero, List.set_cons_succ]
      refine uReady (rs := [6]) (by kernel_rfl) (by simp) ?_
      refine ReadyU.cons rfl (fun KK hKK => ?_) ReadyU.nil
      go_simp
      refine (compare_c x.u (Us.mk a b zS 0) (D := fun _ => True) xS.out HZ.out HR.out).mono ?_
      rintro e w2 ⟨rfl, hb⟩
      have E4 : Hid (Env D w [(w.heap.size, 44, usc (Us.mk a b zS 0) nilV nilV)] [.gn (gRg xab (xao + m * 83) (usc x.u x.la x.pa)), .gn (gSp x.u.sp x.la x.pa), .gn (gUl (.slice (some ⟨xab, xao, none⟩) X.length xk) X)] w2) := Lib.hid (E3.out.below hb)
      clear E3 hb
      (try dsimp only)
      clear hHeld
      refine hKK.out _ _ (⟨(E4.out.fc 0 rfl).2, ((E4.out.bx 0 rfl).range (o := 0) (fun j hj => by rw [Nat.zero_add]))⟩) (fun hHeld => ?_)
      clear hKK KK
      try simp only [Act.put, List.setIfInBounds_toArray, List.set_cons_zero, List.set_cons_succ]
      refine uTake (i := 7) (some 31) (v := .bool tl) rfl rfl (by kernel_rfl) (by kernel_rfl) (by kernel_rfl) (by kernel_rfl) (fun _ _ _ h => h) (by rfl) (by assumption) ?_ ?_
      · (intro wS hSw; (try dsimp only at hSw); go_simp; (try rw [← htl]))
      try simp only [Act.put, List.setIfInBounds_toArray, List.set_cons_zero, List.set_cons_succ]
      refine uDone (by kernel_rfl) ?_ _
      clear htl
      cases tl with
      | true =>
        have HX : Hid (m + 1 ≤ i) := Lib.hid (by apply Nat.lt_of_not_le; intro hle; exact hi.out.2.2 m _ HU.out hle (hlt2.out.1 rfl))
        have ei : (m : Int) + 1 = ((m + 1 : Nat) : Int) := by omega
        have wi : IntKind.i64.wrap ((m : Int) + 1) = ((m + 1 : Nat) : Int) := by rw [IntKind.wrap_i64]; omega
        clear ei
        have EZ := Lib.hid ((E4.out.forget).forget)
        go_wp2
        go_roundg (hj - (m + 1))
        case rel => exact ⟨m + 1, hj, _, rfl, rfl, rfl, EZ, Lib.hid ⟨⟨by omega, by omega, rfl⟩, HX.out, a7⟩⟩
        case measure => exact by omega
      | false =>
        have HX : Hid (i ≤ m) := Lib.hid (by apply Nat.le_of_not_lt; intro hle; exact Bool.noConfusion (hlt2.out.2 (hi.out.2.1 m _ HU.out hle)))
        have EZ := Lib.hid ((E4.out.forget).forget)
        go_wp2
        go_roundg (m - lo)
        case rel => exact ⟨lo, m, _, rfl, rfl, rfl, EZ, Lib.hid ⟨⟨by omega, by omega, rfl⟩, a6, HX.out⟩⟩
        case measure => exact by omega
    have t1 : decide ((lo : Int) < (hj : Int)) = false := decide_eq_false (by omega)
    have t2 : decide (lo < hj) = false := decide_eq_false hy
    have eli : lo = i := by omega
    subst eli
    clear hy
    by_cases hz : lo < X.length
    · have t3 : decide ((lo : Int) < (X.length : Int)) = true := decide_eq_true (by omega)
      have t4 : decide (lo < X.length) = true := decide_eq_true hz
      have hmI : (lo : Int) < (X.length : Int) := by omega
      go_upto_region 8 with (fail)
      obtain ⟨xab, xao, rfl⟩ := gUl.addr (EL.out.fc 0 rfl) (List.ne_nil_of_length_pos (Nat.lt_of_le_of_lt (Nat.zero_le _) hz))
      obtain ⟨x, xe⟩ : ∃ x, X[lo] = x := ⟨_, rfl⟩
      have xE := Lib.hid xe
      clear xe
      have E2 : Hid (Env D w [(w.heap.size, 44, usc (Us.mk a b zS 0) nilV nilV)] [.gn (gRg xab (xao + lo * 83) (usc x.u x.la x.pa)), .gn (gSp x.u.sp x.la x.pa), .gn (gUl (.slice (some ⟨xab, xao, none⟩) X.length xk) X)] _) := Lib.hid (EL.out.elU 0 rfl hz xE.out)
      clear EL
      have xS := Lib.hid (E2.out.spOk 1 rfl)
      have xN : Hid (∀ v ∈ usc x.u x.la x.pa, v.oneCell' = true) := Lib.hid (usc_one xS.out (Rw.oneV (E2.out.fc 1 rfl).2.1) (Rw.oneV (E2.out.fc 1 rfl).2.2))
      obtain ⟨r, hr⟩ : ∃ r, cmpK x.u.ua x.u.ub a b = r := ⟨_, rfl⟩
      have HR := Lib.hid hr
      have HU := Lib.hid (map_get hz xE.out)
      have heq : Hid ((r == 0) = t) := Lib.hid (by rw [Bool.eq_iff_iff, (show t = true ↔ _ from ht.out), HU.out, beq_iff_eq, ← hr, cmpK_zero]; simp)
      clear hr
      have heq2 := heq.out
      go_wp2_with fail
      have E3 : Hid (Env D w [(w.heap.size, 44, usc (Us.mk a b zS 0) nilV nilV)] [.gn (gRg xab (xao + lo * 83) (usc x.u x.la x.pa)), .gn (gSp x.u.sp x.la x.pa), .gn (gUl (.slice (some ⟨xab, xao, none⟩) X.length xk) X)] (wr.drew)) := Lib.hid E2.out.drew
      clear E2
      refine wp_regionU (S := fun w' => w'.rangeAt xab (xao + lo * 83) (usc x.u x.la x.pa) ∧ w'.rangeAt w.heap.size 0 (usc (Us.mk a b zS 0) nilV nilV)) [] (by kernel_rfl) (⟨(E3.out.fc 0 rfl).2, ((E3.out.bx 0 rfl).range (o := 0) (fun j hj => by rw [Nat.zero_add]))⟩) (fun hHeld => ?_)
      generalize wr.drew = w1 at *
      refine uTake (i := 0) (some 35) (v := ?_) rfl rfl (by kernel_rfl) (by kernel_rfl) (by kernel_rfl) (by kernel_rfl) (fun _ _ _ h => h) (by rfl) (by assumption) ?_ ?_
      rotate_left
      · (intro wS hSw; (try dsimp only at hSw); go_simp; try with_reducible rfl)
      try simp only [Act.put, List.setIfInBounds_toArray, List.set_cons_zero, List.set_cons_succ]
      refine uTake (i := 1) (some 36) (v := ?_) rfl rfl (by kernel_rfl) (by kernel_rfl) (by kernel_rfl) (by kernel_rfl) (fun _ _ _ h => h) (by rfl) (by assumption) ?_ ?_
      rotate_left
      · (intro wS hSw; (try dsimp only at hSw); go_simp; try with_reducible rfl)
      try simp only [Act.put, List.setIfInBounds_toArray, List.set_cons_zero, List.set_cons_succ]
      refine uTake (i := 2) (some 37) (v := ?_) rfl rfl (by kernel_rfl) (by kernel_rfl) (by kernel_rfl) (by kernel_rfl) (fun _ _ _ h => h) (by rfl) (by assumption) ?_ ?_
      rotate_left
      · (intro wS hSw; (try dsimp only at hSw); go_simp; try with_reducible rfl)
      try simp only [Act.put, List.setIfInBounds_toArray, List.set_cons_zero, List.set_cons_succ]
      refine uTake (i := 3) (some 38) (v := ?_) rfl rfl (by kernel_rfl) (by kernel_rfl) (by kernel_rfl) (by kernel_rfl) (fun _ _ _ h => h) (by rfl) (by assumption) ?_ ?_
      rotate_left
      · (intro wS hSw; (try dsimp only at hSw); go_simp; try with_reducible rfl)
      try simp only [Act.put, List.setIfInBounds_toArray, List.set_cons_zero, List.set_cons_succ]
      refine uTake (i := 4) (some 39) (v := ?_) rfl rfl (by kernel_rfl) (by kernel_rfl) (by kernel_rfl) (by kernel_rfl) (fun _ _ _ h => h) (by rfl) (by assumption) ?_ ?_
      rotate_left
      · (intro wS hSw; (try dsimp only at hSw); go_simp; try with_reducible rfl)
      try simp only [Act.put, List.setIfInBounds_toArray, List.set_cons_zero, List.set_cons_succ]
      refine uTake (i := 5) (some 40) (v := ?_) rfl rfl (by kernel_rfl) (by kernel_rfl) (by kernel_rfl) (by kernel_rfl) (fun _ _ _ h => h) (by rfl) (by assumption) ?_ ?_
      rotate_left
      · (intro wS hSw; (try dsimp only at hSw); go_simp; try with_reducible rfl)
      try simp only [Act.put, List.setIfInBounds_toArray, List.set_cons_zero, List.set_cons_succ]
      refine uTake (i := 6) (some 41) (v := ?_) rfl rfl (by kernel_rfl) (by kernel_rfl) (by kernel_rfl) (by kernel_rfl) (fun _ _ _ h => h) (by rfl) (by assumption) ?_ ?_
      rotate_left
      · (intro wS hSw; (try dsimp only at hSw); go_simp; try with_reducible rfl)
      try simp only [Act.put, List.setIfInBounds_toArray, List.set_cons_zero, List.set_cons_succ]
      refine uTake (i := 7) (some 42) (v := ?_) rfl rfl (by kernel_rfl) (by kernel_rfl) (by kernel_rfl) (by kernel_rfl) (fun _ _ _ h => h) (by rfl) (by assumption) ?_ ?_
      rotate_left
      · (intro wS hSw; (try dsimp only at hSw); go_simp; try with_reducible rfl)
      try simp only [Act.put, List.setIfInBounds_toArray, List.set_cons_zero, List.set_cons_succ]
      refine uTake (i := 8) (some 43) (v := ?_) rfl rfl (by kernel_rfl) (by kernel_rfl) (by kernel_rfl) (by kernel_rfl) (fun _ _ _ h => h) (by rfl) (by assumption) ?_ ?_
      rotate_left
      · (intro wS hSw; (try dsimp only at hSw); go_simp; try with_reducible rfl)
      try simp only [Act.put, List.setIfInBounds_toArray, List.set_cons_zero, List.set_cons_succ]
      refine uTake (i := 9) (some 44) (v := .agg (usc x.u x.la x.pa).toArray) rfl rfl (by kernel_rfl) (by kernel_rfl) (by kernel_rfl) (by kernel_rfl) (fun _ _ _ h => h) (by rfl) (by assumption) ?_ ?_
      · (intro wS hSw; (try dsimp only at hSw); revert hSw; (try simp only [and_imp]); intros; exact exec_load_b bUse _ rfl xab (xao + lo * 83) rfl (usc x.u x.la x.pa) (usc_len xS.out _ _) (by assumption))
      try simp only [Act.put, List.setIfInBounds_toArray, List.set_cons_zero, List.set_cons_succ]
      refine uTake (i := 10) (some 45) (v := .agg (usc (Us.mk a b zS 0) nilV nilV).toArray) rfl rfl (by kernel_rfl) (by kernel_rfl) (by kernel_rfl) (by kernel_rfl) (fun _ _ _ h => h) (by rfl) (by assumption) ?_ ?_
      · (intro wS hSw; (try dsimp only at hSw); revert hSw; (try simp only [and_imp]); intros; exact exec_load_b bUse _ rfl w.heap.size 0 rfl (usc (Us.mk a b zS 0) nilV nilV) (usc_len HZ.out _ _) (by assumption))
      try simp only [Act.put, List.setIfInBounds_toArray, List.set_cons_zero, List.set_cons_succ]
      refine uReady (rs := [11]) (by kernel_rfl) (by simp) ?_
      refine ReadyU.cons rfl (fun KK hKK => ?_) ReadyU.nil
      go_simp
      refine (compare_c x.u (Us.mk a b zS 0) (D := fun _ => True) xS.out HZ.out HR.out).mono ?_
      rintro e w2 ⟨rfl, hb⟩
      have E4 : Hid (Env D w [(w.heap.size, 44, usc (Us.mk a b zS 0) nilV nilV)] [.gn (gRg xab (xao + lo * 83) (usc x.u x.la x.pa)), .gn (gSp x.u.sp x.la x.pa), .gn (gUl (.slice (some ⟨xab, xao, none⟩) X.length xk) X)] w2) := Lib.hid (E3.out.below hb)
      clear E3 hb
      (try dsimp only)
      clear hHeld
      refine hKK.out _ _ (⟨(E4.out.fc 0 rfl).2, ((E4.out.bx 0 rfl).range (o := 0) (fun j hj => by rw [Nat.zero_add]))⟩) (fun hHeld => ?_)
      clear hKK KK
      try simp only [Act.put, List.setIfInBounds_toArray, List.set_cons_zero, List.set_cons_succ]
      refine uTake (i := 12) (some 47) (v := .bool t) rfl rfl (by kernel_rfl) (by kernel_rfl) (by kernel_rfl) (by kernel_rfl) (fun _ _ _ h => h) (by rfl) (by assumption) ?_ ?_
      · (intro wS hSw; (try dsimp only at hSw); go_simp; (try rw [← heq2]))
      try simp only [Act.put, List.setIfInBounds_toArray, List.set_cons_zero, List.set_cons_succ]
      refine uTake (i := 13) (some 48) (v := ?_) rfl rfl (by kernel_rfl) (by kernel_rfl) (by kernel_rfl) (by kernel_rfl) (fun _ _ _ h => h) (by rfl) (by assumption) ?_ ?_
      rotate_left
      · (intro wS hSw; (try dsimp only at hSw); go_simp; try with_reducible rfl)
      try simp only [Act.put, List.setIfInBounds_toArray, List.set_cons_zero, List.set_cons_succ]
      refine uTake (i := 14) (some 6) (v := ?_) rfl rfl (by kernel_rfl) (by kernel_rfl) (by kernel_rfl) (by kernel_rfl) (fun _ _ _ h => h) (by rfl) (by assumption) ?_ ?_
      rotate_left
      · (intro wS hSw; (try dsimp only at hSw); go_simp; try with_reducible rfl)
      try simp only [Act.put, List.setIfInBounds_toArray, List.set_cons_zero, List.set_cons_succ]
      refine uTake (i := 15) (some 7) (v := ?_) rfl rfl (by kernel_rfl) (by kernel_rfl) (by kernel_rfl) (by kernel_rfl) (fun _ _ _ h => h) (by rfl) (by assumption) ?_ ?_
      rotate_left
      · (intro wS hSw; (try dsimp only at hSw); go_simp; try with_reducible rfl)
      try simp only [Act.put, List.setIfInBounds_toArray, List.set_cons_zero, List.set_cons_succ]
      refine uDone (by kernel_rfl) ?_ _
      have hfin := Lib.hid E4.out.bel
      go_wp2
      go_ret2
      exact ⟨rfl, hfin.out⟩
    · have t3 : decide ((lo : Int) < (X.length : Int)) = false := decide_eq_false (by omega)
      have t4 : decide (lo < X.length) = false := decide_eq_false hz
      have HT : Hid (t = false) := Lib.hid (by cases t; (· rfl); obtain ⟨u, h1, _⟩ := ht.out.1 rfl; rw [List.getElem?_eq_none (by rw [List.length_map]; omega)] at h1; cases h1)
      clear hz
      go_wp2_with fail
      have E2 : Hid (Env D w [(w.heap.size, 44, usc (Us.mk a b zS 0) nilV nilV)] [.gn (gUl (.slice xa X.length xk) X)] (wr.drew)) := Lib.hid EL.out.drew
      clear EL
      refine wp_regionU (S := fun w' => True) [] (by kernel_rfl) (trivial) (fun hHeld => ?_)
      generalize wr.drew = w1 at *
      refine uTake (i := 0) (some 35) (v := ?_) rfl rfl (by kernel_rfl) (by kernel_rfl) (by kernel_rfl) (by kernel_rfl) (fun _ _ _ h => h) (by rfl) (by assumption) ?_ ?_
      rotate_left
      · (intro wS hSw; (try dsimp only at hSw); go_simp; try with_reducible rfl)
      try simp only [Act.put, List.setIfInBounds_toArray, List.set_cons_zero, List.set_cons_succ]
      refine uTake (i := 1) (some 36) (v := ?_) rfl rfl (by kernel_rfl) (by kernel_rfl) (by kernel_rfl) (by kernel_rfl) (fun _ _ _ h => h) (by rfl) (by assumption) ?_ ?_
      rotate_left
      · (intro wS hSw; (try dsimp only at hSw); go_simp; try with_reducible rfl)
      try simp only [Act.put, List.setIfInBounds_toArray, List.set_cons_zero, List.set_cons_succ]
      refine uTake (i := 2) (some 37) (v := ?_) rfl rfl (by kernel_rfl) (by kernel_rfl) (by kernel_rfl) (by kernel_rfl) (fun _ _ _ h => h) (by rfl) (by assumption) ?_ ?_
      rotate_left
      · (intro wS hSw; (try dsimp only at hSw); go_simp; try with_reducible rfl)
      try simp only [Act.put, List.setIfInBounds_toArray, List.set_cons_zero, List.set_cons_succ]
      refine uTake (i := 3) (some 38) (v := ?_) rfl rfl (by kernel_rfl) (by kernel_rfl) (by kernel_rfl) (by kernel_rfl) (fun _ _ _ h => h) (by rfl) (by assumption) ?_ ?_
      rotate_left
      · (intro wS hSw; (try dsimp only at hSw); go_simp; try with_reducible rfl)
      try simp only [Act.put, List.setIfInBounds_toArray, List.set_cons_zero, List.set_cons_succ]
      refine uTake (i := 4) (some 39) (v := ?_) rfl rfl (by kernel_rfl) (by kernel_rfl) (by kernel_rfl) (by kernel_rfl) (fun _ _ _ h => h) (by rfl) (by assumption) ?_ ?_
      rotate_left
      · (intro wS hSw; (try dsimp only at hSw); go_simp; try with_reducible rfl)
      try simp only [Act.put, List.setIfInBounds_toArray, List.set_cons_zero, List.set_cons_succ]
      refine uPass (i := 5) (some 40) rfl rfl (by kernel_rfl) (by kernel_rfl) (by kernel_rfl) (by kernel_rfl) (fun _ _ _ h => h) (by rfl) (by assumption) ?_
      try simp only [Act.put, List.setIfInBounds_toArray, List.set_cons_zero, List.set_cons_succ]
      refine uPass (i := 6) (some 41) rfl rfl (by kernel_rfl) (by kernel_rfl) (by kernel_rfl) (by kernel_rfl) (fun _ _ _ h => h) (by rfl) (by assumption) ?_
      try simp only [Act.put, List.setIfInBounds_toArray, List.set_cons_zero, List.set_cons_succ]
      refine uPass (i := 7) (some 42) rfl rfl (by kernel_rfl) (by kernel_rfl) (by kernel_rfl) (by kernel_rfl) (fun _ _ _ h => h) (by rfl) (by assumption) ?_
      try simp only [Act.put, List.setIfInBounds_toArray, List.set_cons_zero, List.set_cons_succ]
      refine uPass (i := 8) (some 43) rfl rfl (by kernel_rfl) (by kernel_rfl) (by kernel_rfl) (by kernel_rfl) (fun _ _ _ h => h) (by rfl) (by assumption) ?_
      try simp only [Act.put, List.setIfInBounds_toArray, List.set_cons_zero, List.set_cons_succ]
      refine uPass (i := 9) (some 44) rfl rfl (by kernel_rfl) (by kernel_rfl) (by kernel_rfl) (by kernel_rfl) (fun _ _ _ h => h) (by rfl) (by assumption) ?_
      try simp only [Act.put, List.setIfInBounds_toArray, List.set_cons_zero, List.set_cons_succ]
      refine uPass (i := 10) (some 45) rfl rfl (by kernel_rfl) (by kernel_rfl) (by kernel_rfl) (by kernel_rfl) (fun _ _ _ h => h) (by rfl) (by assumption) ?_
      try simp only [Act.put, List.setIfInBounds_toArray, List.set_cons_zero, List.set_cons_succ]
      refine uPass (i := 11) (some 46) rfl rfl (by kernel_rfl) (by kernel_rfl) (by kernel_rfl) (by kernel_rfl) (fun _ _ _ h => h) (by rfl) (by assumption) ?_
      try simp only [Act.put, List.setIfInBounds_toArray, List.set_cons_zero, List.set_cons_succ]
      refine uPass (i := 12) (some 47) rfl rfl (by kernel_rfl) (by kernel_rfl) (by kernel_rfl) (by kernel_rfl) (fun _ _ _ h => h) (by rfl) (by assumption) ?_
      try simp only [Act.put, List.setIfInBounds_toArray, List.set_cons_zero, List.set_cons_succ]
      refine uTake (i := 13) (some 48) (v := ?_) rfl rfl (by kernel_rfl) (by kernel_rfl) (by kernel_rfl) (by kernel_rfl) (fun _ _ _ h => h) (by rfl) (by assumption) ?_ ?_
      rotate_left
      · (intro wS hSw; (try dsimp only at hSw); go_simp; try with_reducible rfl)
      try simp only [Act.put, List.setIfInBounds_toArray, List.set_cons_zero, List.set_cons_succ]
      refine uTake (i := 14) (some 6) (v := ?_) rfl rfl (by kernel_rfl) (by kernel_rfl) (by kernel_rfl) (by kernel_rfl) (fun _ _ _ h => h) (by rfl) (by assumption) ?_ ?_
      rotate_left
      · (intro wS hSw; (try dsimp only at hSw); go_simp; try with_reducible rfl)
      try simp only [Act.put, List.setIfInBounds_toArray, List.set_cons_zero, List.set_cons_succ]
      refine uTake (i := 15) (some 7) (v := ?_) rfl rfl (by kernel_rfl) (by kernel_rfl) (by kernel_rfl) (by kernel_rfl) (fun _ _ _ h => h) (by rfl) (by assumption) ?_ ?_
      rotate_left
      · (intro wS hSw; (try dsimp only at hSw); go_simp; try with_reducible rfl)
      try simp only [Act.put, List.setIfInBounds_toArray, List.set_cons_zero, List.set_cons_succ]
      refine uDone (by kernel_rfl) ?_ _
      have hfin := Lib.hid E2.out.bel
      go_wp2
      go_ret2
      exact ⟨RetEqT HT.out.symm, hfin.out⟩
set_option maxRecDepth 100000 in
set_option maxHeartbeats 1000000 in
theorem search_c {D : Nat → Prop} (X : List Uv) (a b : Int) {xa : Option Addr} {xk : Nat} {w : World} (hx : Fct.at w D (.gn (gUl (.slice xa X.length xk) X))) {i : Nat} {t : Bool} (hi0 : PlaceK (X.map Uv.u) a b i) (ht0 : FoundK (X.map Uv.u) a b i t) (hm0 : X.length ≤ 1000000) :
    Calls Try.prog 39 #[.slice xa X.length xk, .int .i64 a, .int .i64 b] w fun e w' => e = .returned (.tuple #[.int .i64 (i : Int), .bool t]) ∧ Below w.heap.size w w' := by
  have E0 : Hid (Env D w [] [.gn (gUl (.slice xa X.length xk) X)] w) := Lib.hid ((Env.start D w).arg (.gn (gUl (.slice xa X.length xk) X)) hx)
  clear hx
  go_enter Try.func39, Try.ntmps39
  have hi := Lib.hid hi0
  have ht := Lib.hid ht0
  have hm := Lib.hid hm0
  clear hi0 ht0 hm0
  have HZ : Hid (SpOk (Us.mk a b zS 0).sp) := Lib.hid zS_ok
  go_wp2_with (first | (with_reducible refine wpl_use2 a b ?_ ?_ ?_; (· rfl); (· exact ⟨_, _, rfl, rfl, rfl⟩)))
  refine (bsf_c X a b (E0.out.fc 0 rfl) hi.out ht.out hm.out).mono ?_
  rintro e w1 ⟨rfl, hb⟩
  have E1 : Hid (Env D w [] [.gn (gUl (.slice xa X.length xk) X)] w1) := Lib.hid (E0.out.below hb)
  clear E0 hb
  have hfin := Lib.hid E1.out.bel
  go_wp2_with (first | (with_reducible refine wpl_use2 a b ?_ ?_ ?_; (· rfl); (· exact ⟨_, _, rfl, rfl, rfl⟩)))
  go_ret2
  exact ⟨rfl, hfin.out⟩
end Go.Proofs.Ytfnnfmefihiefaa

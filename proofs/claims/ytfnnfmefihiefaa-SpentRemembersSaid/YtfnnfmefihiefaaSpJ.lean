/- the order of uses. -/
import Derived.Test.YtfnnfmefihiefaaSpI
namespace Go.Proofs.Ytfnnfmefihiefaa
open Go.RowKit
set_option linter.unusedVariables false
set_option linter.unusedSimpArgs false
/-- how two numbers compare -/
def cmpI (a b : Int) : Int := if a < b then -1 else if b < a then 1 else 0
def orI : List Int → Int
  | [] => 0
  | x :: r => if x = 0 then orI r else x
/-- how two pairs compare -/
def cmpK (a b c d : Int) : Int := orI [cmpI a c, cmpI b d]
def ltK (a b c d : Int) : Prop := a < c ∨ (a = c ∧ b < d)
instance (a b c d : Int) : Decidable (ltK a b c d) := by unfold ltK; infer_instance
theorem cmpK_neg (a b c d : Int) : cmpK a b c d = -1 ↔ ltK a b c d := by unfold cmpK orI orI orI cmpI ltK; repeat' split <;> omega
theorem cmpK_zero (a b c d : Int) : cmpK a b c d = 0 ↔ a = c ∧ b = d := by unfold cmpK orI orI orI cmpI; repeat' split <;> omega
theorem cmpK_pos (a b c d : Int) : cmpK a b c d = 1 ↔ ltK c d a b := by unfold cmpK orI orI orI cmpI ltK; repeat' split <;> omega
theorem cmpK_cases (a b c d : Int) : cmpK a b c d = -1 ∨ cmpK a b c d = 0 ∨ cmpK a b c d = 1 := by unfold cmpK orI orI orI cmpI; repeat' split <;> omega
theorem cmpI_one (a b : Int) : (Value.int .i64 (cmpI a b)).oneCell' = true := rfl
theorem Rw.ofBox {W : World} {B g n k cap : Nat} {T : TypeId} {cs : List Value} (h : Box B g T cs W) (hl : cs.length = n * k) (h1 : ∀ u ∈ cs, u.oneCell' = true) (hn : n ≤ cap) (hc : cap ≤ 9223372036854775807) : Rw W (fun _ => True) (.slice (some ⟨g, 0, none⟩) n cap) n k cs :=
  ⟨_, cap, rfl, hn, hc, hl, h1, fun _ => ⟨g, 0, rfl, ⟨h.lt, trivial⟩, fun j u hu => by rw [Nat.zero_add]; exact h.cell j hu⟩⟩
set_option maxRecDepth 100000 in
set_option maxHeartbeats 1000000 in
theorem isNaN_c {D : Nat → Prop} (x : Int) {w : World}   :
    Calls Try.prog 66 #[.int .i64 x] w fun e w' => e = .returned (.bool false) ∧ Below w.heap.size w w' := by
  have E0 : Hid (Env D w [] [] w) := Lib.hid (Env.start D w)
  go_enter Try.func66, Try.ntmps66
  have hfin := Lib.hid E0.out.bel
  go_wp2
  go_ret
  exact ⟨rfl, hfin.out⟩
set_option maxRecDepth 100000 in
set_option maxHeartbeats 1000000 in
theorem cmpI_c {D : Nat → Prop} (a b : Int) {w : World}  {r : Int} (hr0 : cmpI a b = r) :
    Calls Try.prog 62 #[.int .i64 a, .int .i64 b] w fun e w' => e = .returned (.int .i64 r) ∧ Below w.heap.size w w' := by
  have E0 : Hid (Env D w [] [] w) := Lib.hid (Env.start D w)
  go_enter Try.func62, Try.ntmps62
  have hr := Lib.hid hr0
  clear hr0
  go_wp2_with fail
  refine (isNaN_c a (D := fun _ => True)).mono ?_
  rintro e w1 ⟨rfl, hb⟩
  have E1 : Hid (Env D w [] [] w1) := Lib.hid (E0.out.below hb)
  clear E0 hb
  go_wp2_with fail
  refine (isNaN_c b (D := fun _ => True)).mono ?_
  rintro e w2 ⟨rfl, hb⟩
  have E2 : Hid (Env D w [] [] w2) := Lib.hid (E1.out.below hb)
  clear E1 hb
  by_cases q : a < b
  · skip
    have t6 : decide (a < b) = true := decide_eq_true q
    have HR : Hid (r = -1) := Lib.hid (by rw [← hr.out]; unfold cmpI; rw [if_pos q])
    have hfin := Lib.hid E2.out.bel
    go_wp2
    go_ret
    exact ⟨RetEq HR.out.symm, hfin.out⟩
  have t6 : decide (a < b) = false := decide_eq_false q
  by_cases q2 : b < a
  · skip
    have t7 : decide (b < a) = true := decide_eq_true q2
    have HR : Hid (r = 1) := Lib.hid (by rw [← hr.out]; unfold cmpI; rw [if_neg q, if_pos q2])
    have hfin := Lib.hid E2.out.bel
    go_wp2
    go_ret
    exact ⟨RetEq HR.out.symm, hfin.out⟩
  have t7 : decide (b < a) = false := decide_eq_false q2
  have HR : Hid (r = 0) := Lib.hid (by rw [← hr.out]; unfold cmpI; rw [if_neg q, if_neg q2])
  have hfin := Lib.hid E2.out.bel
  go_wp2
  go_ret
  exact ⟨RetEq HR.out.symm, hfin.out⟩
set_option maxRecDepth 100000 in
set_option maxHeartbeats 1000000 in
theorem orI_c {D : Nat → Prop} (l : List Int) {xa : Option Addr} {xk : Nat} {w : World} (hx : Fct.at w D (.rw (.slice xa l.length xk) l.length 1 (icl l))) {r : Int} (hr0 : orI l = r) (hm0 : l.length ≤ 1000000) :
    Calls Try.prog 61 #[.slice xa l.length xk] w fun e w' => e = .returned (.int .i64 r) ∧ Below w.heap.size w w' := by
  have E0 : Hid (Env D w [] [.rw (.slice xa l.length xk) l.length 1 (icl l)] w) := Lib.hid ((Env.start D w).arg (.rw (.slice xa l.length xk) l.length 1 (icl l)) hx)
  clear hx
  go_enter Try.func61, Try.ntmps61
  have hr := Lib.hid hr0
  have hm := Lib.hid hm0
  clear hr0 hm0
  go_wp2_with fail
  go_loopg [8] (l.length) (fun gk s8 wr => ∃ (k : Nat), s8 = .int .i64 (k : Int) ∧ Hid (Env D w [] [.rw (.slice xa l.length xk) l.length 1 (icl l)] wr) ∧ Hid ((k ≤ l.length ∧ gk = l.length - k) ∧ orI (l.drop k) = r))
  case atStart => exact ⟨0, rfl, Lib.hid E0.out, Lib.hid ⟨⟨Nat.zero_le _, rfl⟩, by simpa using hr.out⟩⟩
  case round =>
    clear E0
    obtain ⟨k, rfl, EL, HA⟩ := hrel
    obtain ⟨⟨a1, a2⟩, a3⟩ := HA.out
    have HS := Lib.hid a3
    clear a3 HA
    by_cases hy : k = l.length
    · skip
      have t6 : decide ((k : Int) < (l.length : Int)) = false := decide_eq_false (by omega)
      have t7 : decide (k < l.length) = false := decide_eq_false (by omega)
      have HR : Hid (r = 0) := Lib.hid (by rw [← HS.out, hy, List.drop_length]; rfl)
      have HY := Lib.hid hy
      clear hy
      have hfin := Lib.hid EL.out.bel
      go_wp2
      go_ret
      exact ⟨RetEq HR.out.symm, hfin.out⟩
    have hk : k < l.length := lt_of hy a1
    have hm9 := hm.out
    have t6 : decide ((k : Int) < (l.length : Int)) = true := decide_eq_true (by omega)
    have t7 : decide (k < l.length) = true := decide_eq_true (by omega)
    have hkI : (k : Int) < (l.length : Int) := by omega
    clear hy
    go_upto_region 4 with (fail)
    obtain ⟨xab, xao, rfl⟩ := Rw.addr (EL.out.fc 0 rfl) (by omega)
    have E1 : Hid (Env D w [] [.ce xab (xao + k) (.int .i64 l[k]), .rw (.slice (some ⟨xab, xao, none⟩) l.length xk) l.length 1 (icl l)] _) := Lib.hid (EL.out.elI 0 rfl rfl (k) hk)
    clear EL
    have c0 := (E1.out.fc 0 rfl).2
    obtain ⟨x, hx⟩ : ∃ x, l[k] = x := ⟨_, rfl⟩
    rw [hx] at c0
    have HX := Lib.hid hx
    clear hx
    have HD : Hid (orI (l.drop k) = if x = 0 then orI (l.drop (k + 1)) else x) := Lib.hid (by rw [List.drop_eq_getElem_cons hk, HX.out]; rfl)
    by_cases q : x = 0
    · subst q
      have HS2 : Hid (orI (l.drop (k + 1)) = r) := Lib.hid (by rw [← HS.out, HD.out]; rfl)
      have EZ := Lib.hid (E1.out.forget)
      go_wp2
      go_roundg (l.length - (k + 1))
      case rel => exact ⟨k + 1, rfl, EZ, Lib.hid ⟨⟨by omega, rfl⟩, HS2.out⟩⟩
      case measure => exact by omega
    have HR : Hid (r = x) := Lib.hid (by rw [← HS.out, HD.out, if_neg q])
    have t8 : (x == 0) = false := by simpa using q
    have hfin := Lib.hid E1.out.bel
    go_wp2
    go_ret
    exact ⟨RetEq HR.out.symm, hfin.out⟩
set_option maxRecDepth 100000 in
set_option maxHeartbeats 2000000 in
theorem compare_c {D : Nat → Prop} (u v : Us) {la pa lb pb : Value} {w : World}  (hu0 : SpOk u.sp) (hv0 : SpOk v.sp) {r : Int} (hr0 : cmpK u.ua u.ub v.ua v.ub = r) :
    Calls Try.prog 44 #[.agg (usc u la pa).toArray, .agg (usc v lb pb).toArray] w fun e w' => e = .returned (.int .i64 r) ∧ Below w.heap.size w w' := by
  have E0 : Hid (Env D w [] [] w) := Lib.hid (Env.start D w)
  go_enter Try.func44, Try.ntmps44
  have hu := Lib.hid hu0
  have hv := Lib.hid hv0
  have hr := Lib.hid hr0
  clear hu0 hv0 hr0
  go_upto_region 1 with (fail)
  have E1 : Hid (Env D w [(w.heap.size + 1, 44, usc v lb pb), (w.heap.size, 44, usc u la pa)] [] _) := Lib.hid (((E0.out.push 44 (usc u la pa) (w.heap.size) (by simp)).push 44 (usc v lb pb) (w.heap.size + 1) (by simp)))
  clear E0
  generalize (w.alloc (.cells (usc u la pa).toArray 44)).alloc (.cells (usc v lb pb).toArray 44) = w1 at *
  obtain ⟨x, hx⟩ : ∃ x, cmpI u.ua v.ua = x := ⟨_, rfl⟩
  obtain ⟨y, hy⟩ : ∃ y, cmpI u.ub v.ub = y := ⟨_, rfl⟩
  have HX := Lib.hid hx
  have HY := Lib.hid hy
  have HR : Hid (orI [x, y] = r) := Lib.hid (by rw [← hx, ← hy]; exact hr.out)
  clear hx hy
  go_wp2_with fail
  have E2 : Hid (Env D w [(w.heap.size + 1, 44, usc v lb pb), (w.heap.size, 44, usc u la pa)] [] (w1.drew)) := Lib.hid E1.out.drew
  clear E1
  refine wp_regionU (S := fun w' => w'.cell? ⟨w.heap.size, 0, none⟩ = some (.int .i64 u.ua) ∧ w'.cell? ⟨w.heap.size + 1, 0, none⟩ = some (.int .i64 v.ua) ∧ w'.cell? ⟨w.heap.size, 1, none⟩ = some (.int .i64 u.ub) ∧ w'.cell? ⟨w.heap.size + 1, 1, none⟩ = some (.int .i64 v.ub)) [] (by kernel_rfl) (⟨((E2.out.bx 1 rfl).cell 0 rfl), ((E2.out.bx 0 rfl).cell 0 rfl), ((E2.out.bx 1 rfl).cell 1 rfl), ((E2.out.bx 0 rfl).cell 1 rfl)⟩) (fun hHeld => ?_)
  generalize w1.drew = w2 at *
  refine uTake (i := 0) (some 5) (v := ?_) rfl rfl (by kernel_rfl) (by kernel_rfl) (by kernel_rfl) (by kernel_rfl) (fun _ _ _ h => h) (by rfl) (by assumption) ?_ ?_
  rotate_left
  · (intro wS hSw; (try dsimp only at hSw); go_simp; try with_reducible rfl)
  try simp only [Act.put, List.setIfInBounds_toArray, List.set_cons_zero, List.set_cons_succ]
  refine uTake (i := 1) (some 6) (v := ?_) rfl rfl (by kernel_rfl) (by kernel_rfl) (by kernel_rfl) (by kernel_rfl) (fun _ _ _ h => h) (by rfl) (by assumption) ?_ ?_
  rotate_left
  · (intro wS hSw; (try dsimp only at hSw); go_simp; try with_reducible rfl)
  try simp only [Act.put, List.setIfInBounds_toArray, List.set_cons_zero, List.set_cons_succ]
  refine uTake (i := 2) (some 7) (v := ?_) rfl rfl (by kernel_rfl) (by kernel_rfl) (by kernel_rfl) (by kernel_rfl) (fun _ _ _ h => h) (by rfl) (by assumption) ?_ ?_
  rotate_left
  · (intro wS hSw; (try dsimp only at hSw); go_simp; try with_reducible rfl)
  try simp only [Act.put, List.setIfInBounds_toArray, List.set_cons_zero, List.set_cons_succ]
  refine uTake (i := 3) (some 8) (v := ?_) rfl rfl (by kernel_rfl) (by kernel_rfl) (by kernel_rfl) (by kernel_rfl) (fun _ _ _ h => h) (by rfl) (by assumption) ?_ ?_
  rotate_left
  · (intro wS hSw; (try dsimp only at hSw); go_simp; try with_reducible rfl)
  try simp only [Act.put, List.setIfInBounds_toArray, List.set_cons_zero, List.set_cons_succ]
  refine uTake (i := 5) (some 10) (v := ?_) rfl rfl (by kernel_rfl) (by kernel_rfl) (by kernel_rfl) (by kernel_rfl) (fun _ _ _ h => h) (by rfl) (by assumption) ?_ ?_
  rotate_left
  · (intro wS hSw; (try dsimp only at hSw); go_simp; try with_reducible rfl)
  try simp only [Act.put, List.setIfInBounds_toArray, List.set_cons_zero, List.set_cons_succ]
  refine uTake (i := 6) (some 11) (v := ?_) rfl rfl (by kernel_rfl) (by kernel_rfl) (by kernel_rfl) (by kernel_rfl) (fun _ _ _ h => h) (by rfl) (by assumption) ?_ ?_
  rotate_left
  · (intro wS hSw; (try dsimp only at hSw); go_simp; try with_reducible rfl)
  try simp only [Act.put, List.setIfInBounds_toArray, List.set_cons_zero, List.set_cons_succ]
  refine uTake (i := 7) (some 12) (v := ?_) rfl rfl (by kernel_rfl) (by kernel_rfl) (by kernel_rfl) (by kernel_rfl) (fun _ _ _ h => h) (by rfl) (by assumption) ?_ ?_
  rotate_left
  · (intro wS hSw; (try dsimp only at hSw); go_simp; try with_reducible rfl)
  try simp only [Act.put, List.setIfInBounds_toArray, List.set_cons_zero, List.set_cons_succ]
  refine uTake (i := 8) (some 13) (v := ?_) rfl rfl (by kernel_rfl) (by kernel_rfl) (by kernel_rfl) (by kernel_rfl) (fun _ _ _ h => h) (by rfl) (by assumption) ?_ ?_
  rotate_left
  · (intro wS hSw; (try dsimp only at hSw); go_simp; try with_reducible rfl)
  try simp only [Act.put, List.setIfInBounds_toArray, List.set_cons_zero, List.set_cons_succ]
  refine uReady (rs := [4]) (by kernel_rfl) (by simp) ?_
  refine ReadyU.cons rfl (fun KK hKK => ?_) ReadyU.nil
  go_simp
  refine (cmpI_c u.ua v.ua HX.out (D := fun _ => True)).mono ?_
  rintro e w3 ⟨rfl, hb⟩
  have E3 : Hid (Env D w [(w.heap.size + 1, 44, usc v lb pb), (w.heap.size, 44, usc u la pa)] [] w3) := Lib.hid (E2.out.below hb)
  clear E2 hb
  (try dsimp only)
  clear hHeld
  refine hKK.out _ _ (⟨((E3.out.bx 1 rfl).cell 0 rfl), ((E3.out.bx 0 rfl).cell 0 rfl), ((E3.out.bx 1 rfl).cell 1 rfl), ((E3.out.bx 0 rfl).cell 1 rfl)⟩) (fun hHeld => ?_)
  clear hKK KK
  try simp only [Act.put, List.setIfInBounds_toArray, List.set_cons_zero, List.set_cons_succ]
  refine uReady (rs := [9]) (by kernel_rfl) (by simp) ?_
  refine ReadyU.cons rfl (fun KK hKK => ?_) ReadyU.nil
  go_simp
  refine (cmpI_c u.ub v.ub HY.out (D := fun _ => True)).mono ?_
  rintro e w4 ⟨rfl, hb⟩
  have E4 : Hid (Env D w [(w.heap.size + 1, 44, usc v lb pb), (w.heap.size, 44, usc u la pa)] [] w4) := Lib.hid (E3.out.below hb)
  clear E3 hb
  (try dsimp only)
  clear hHeld
  refine hKK.out _ _ (⟨((E4.out.bx 1 rfl).cell 0 rfl), ((E4.out.bx 0 rfl).cell 0 rfl), ((E4.out.bx 1 rfl).cell 1 rfl), ((E4.out.bx 0 rfl).cell 1 rfl)⟩) (fun hHeld => ?_)
  clear hKK KK
  try simp only [Act.put, List.setIfInBounds_toArray, List.set_cons_zero, List.set_cons_succ]
  refine uReady (rs := [10]) (by kernel_rfl) (by simp) ?_
  refine ReadyU.cons rfl (fun KK hKK => ?_) ReadyU.nil
  go_simp
  have E5 : Hid (Env D w [(w4.heap.size, 3, [.int .i64 x, .int .i64 y]), (w.heap.size + 1, 44, usc v lb pb), (w.heap.size, 44, usc u la pa)] [] _) := Lib.hid ((E4.out.push 3 [.int .i64 x, .int .i64 y] (w4.heap.size) (by simp)))
  (try dsimp only)
  clear hHeld
  refine hKK.out _ _ (⟨((E5.out.bx 2 rfl).cell 0 rfl), ((E5.out.bx 1 rfl).cell 0 rfl), ((E5.out.bx 2 rfl).cell 1 rfl), ((E5.out.bx 1 rfl).cell 1 rfl)⟩) (fun hHeld => ?_)
  clear hKK KK
  try simp only [Act.put, List.setIfInBounds_toArray, List.set_cons_zero, List.set_cons_succ]
  clear E4
  generalize w4.alloc (.cells #[.int .i64 x, .int .i64 y] 3) = w5 at *
  refine uReady (rs := [11]) (by kernel_rfl) (by simp) ?_
  refine ReadyU.cons rfl (fun KK hKK => ?_) ReadyU.nil
  go_simp
  refine (orI_c [x, y] (D := fun _ => True) (Rw.ofBox (cs := icl [x, y]) (n := 2) (k := 1) (E5.out.bx 0 rfl) rfl (icl_one _) (by omega) (by omega)) HR.out (by simp)).mono ?_
  rintro e w6 ⟨rfl, hb⟩
  have E6 : Hid (Env D w [(w4.heap.size, 3, [.int .i64 x, .int .i64 y]), (w.heap.size + 1, 44, usc v lb pb), (w.heap.size, 44, usc u la pa)] [] w6) := Lib.hid (E5.out.below hb)
  clear E5 hb
  (try dsimp only)
  clear hHeld
  refine hKK.out _ _ (⟨((E6.out.bx 2 rfl).cell 0 rfl), ((E6.out.bx 1 rfl).cell 0 rfl), ((E6.out.bx 2 rfl).cell 1 rfl), ((E6.out.bx 1 rfl).cell 1 rfl)⟩) (fun hHeld => ?_)
  clear hKK KK
  try simp only [Act.put, List.setIfInBounds_toArray, List.set_cons_zero, List.set_cons_succ]
  refine uTake (i := 12) (some 4) (v := ?_) rfl rfl (by kernel_rfl) (by kernel_rfl) (by kernel_rfl) (by kernel_rfl) (fun _ _ _ h => h) (by rfl) (by assumption) ?_ ?_
  rotate_left
  · (intro wS hSw; (try dsimp only at hSw); go_simp; try with_reducible rfl)
  try simp only [Act.put, List.setIfInBounds_toArray, List.set_cons_zero, List.set_cons_succ]
  refine uDone (by kernel_rfl) ?_ _
  have hfin := Lib.hid E6.out.bel
  go_wp2
  go_ret
  exact ⟨rfl, hfin.out⟩
set_option maxRecDepth 100000 in
set_option maxHeartbeats 1000000 in
theorem less_c {D : Nat → Prop} (a b c d : Int) {w : World}  {t : Bool} (ht0 : t = true ↔ ltK a b c d) :
    Calls Try.prog 43 #[.int .i64 a, .int .i64 b, .int .i64 c, .int .i64 d] w fun e w' => e = .returned (.bool t) ∧ Below w.heap.size w w' := by
  have E0 : Hid (Env D w [] [] w) := Lib.hid (Env.start D w)
  go_enter Try.func43, Try.ntmps43
  have ht := Lib.hid ht0
  clear ht0
  by_cases q : a < c
  · skip
    have t6 : decide (a < c) = true := decide_eq_true q
    have HR : Hid (t = true) := Lib.hid (ht.out.2 (.inl q))
    have hfin := Lib.hid E0.out.bel
    go_wp2
    go_ret
    exact ⟨RetEqB HR.out.symm, hfin.out⟩
  have t6 : decide (a < c) = false := decide_eq_false q
  by_cases q2 : a = c
  · subst q2
    have HR : Hid (t = decide (b < d)) := Lib.hid (by rw [Bool.eq_iff_iff, ht.out]; unfold ltK; simp)
    have hfin := Lib.hid E0.out.bel
    go_wp2
    go_ret
    exact ⟨RetEqB HR.out.symm, hfin.out⟩
  have t7 : (a == c) = false := by simpa using q2
  have HR : Hid (t = false) := Lib.hid (by cases t; (· rfl); exact absurd (ht.out.1 rfl) (by unfold ltK; omega))
  have hfin := Lib.hid E0.out.bel
  go_wp2
  go_ret
  exact ⟨RetEqB HR.out.symm, hfin.out⟩
end Go.Proofs.Ytfnnfmefihiefaa

/- line: first, Waiting, Next. -/
import Derived.Test.YtbcfcdcomboljaaLinV
import Derived.Test.YtbcfcdcomboljaaLinWa
namespace Go.Proofs.Ytbcfcdcomboljaa
open Go.RowKit
set_option linter.unusedVariables false
set_option linter.unusedSimpArgs false
/-- the i-th message is one pt a party, and has arrived -/
def arrB (l : Lin) (pt : Int) (i : Nat) : Bool := match l.L[i]?, l.ats[i]? with
  | some m, some t => decide (t ≤ l.nw) && decide (m.to_ = pt)
  | _, _ => false
theorem arrB_eq {l : Lin} {pt : Int} {i : Nat} (h : i < l.L.length) (h' : i < l.ats.length) : arrB l pt i = (decide (l.ats[i] ≤ l.nw) && decide (l.L[i].to_ = pt)) := by
  unfold arrB; rw [List.getElem?_eq_getElem h, List.getElem?_eq_getElem h']
theorem arrB_lt {l : Lin} {pt : Int} {i : Nat} (h : arrB l pt i = true) : i < l.L.length ∧ i < l.ats.length := by
  constructor
  · apply Nat.lt_of_not_le; intro hn; unfold arrB at h; rw [List.getElem?_eq_none hn] at h; simp at h
  · apply Nat.lt_of_not_le; intro hn; unfold arrB at h; rw [List.getElem?_eq_none hn] at h; cases h2 : l.L[i]? <;> rw [h2] at h <;> simp at h
/-- r is the index of the first message pt a party that has arrived; -1: there is none -/
def FirstIs (l : Lin) (pt r : Int) : Prop := (∃ i : Nat, r = (i : Int) ∧ arrB l pt i = true ∧ ∀ j, j < i → arrB l pt j = false) ∨ (r = -1 ∧ ∀ j, arrB l pt j = false)
theorem FirstIs.at {l : Lin} {pt r : Int} {k : Nat} (h : FirstIs l pt r) (hk : arrB l pt k = true) (hb : ∀ j, j < k → arrB l pt j = false) : r = (k : Int) := by
  rcases h with ⟨i, rfl, h1, h2⟩ | ⟨_, h1⟩
  · rcases Nat.lt_trichotomy i k with e | e | e
    · rw [hb i e] at h1; cases h1
    · rw [e]
    · rw [h2 k e] at hk; cases hk
  · rw [h1 k] at hk; cases hk
theorem FirstIs.no {l : Lin} {pt r : Int} (h : FirstIs l pt r) (hb : ∀ j, j < l.L.length → arrB l pt j = false) : r = -1 := by
  rcases h with ⟨i, rfl, h1, h2⟩ | ⟨h, _⟩
  · rw [hb i (arrB_lt h1).1] at h1; cases h1
  · exact h
theorem RI {a b : Int} (h : a = b) : Ending.returned (.int .i64 a) = Ending.returned (.int .i64 b) := by rw [h]
/-- how many messages pt a party have arrived, of the first k -/
def wcnt (l : Lin) (pt : Int) : Nat → Nat
  | 0 => 0
  | k + 1 => wcnt l pt k + (if arrB l pt k then 1 else 0)
theorem wcnt_le (l : Lin) (pt : Int) : ∀ k, wcnt l pt k ≤ k
  | 0 => Nat.le_refl _
  | k + 1 => by have := wcnt_le l pt k; unfold wcnt; split <;> omega
/-- the time of the first message that has not arrived -/
def NextIs (l : Lin) (t : Int) (b : Bool) : Prop := (∃ i, ∃ h : i < l.ats.length, l.ats[i] = t ∧ b = true ∧ l.nw < t ∧ ∀ j (h : j < l.ats.length), j < i → l.ats[j] ≤ l.nw) ∨ (t = 0 ∧ b = false ∧ ∀ j (h : j < l.ats.length), l.ats[j] ≤ l.nw)
theorem NextIs.at {l : Lin} {t : Int} {b : Bool} {k : Nat} (h : NextIs l t b) (hk : k < l.ats.length) (h1 : l.nw < l.ats[k]) (hb : ∀ j (h : j < l.ats.length), j < k → l.ats[j] ≤ l.nw) : t = l.ats[k] ∧ b = true := by
  rcases h with ⟨i, hi, h2, h3, h4, h5⟩ | ⟨_, _, h2⟩
  · rcases Nat.lt_trichotomy i k with e | e | e
    · have := hb i hi e; omega
    · subst e; exact ⟨h2.symm, h3⟩
    · have := h5 k hk e; omega
  · have := h2 k hk; omega
theorem NextIs.no {l : Lin} {t : Int} {b : Bool} (h : NextIs l t b) (hb : ∀ j (h : j < l.ats.length), l.ats[j] ≤ l.nw) : t = 0 ∧ b = false := by
  rcases h with ⟨i, hi, h2, h3, h4, h5⟩ | ⟨h1, h2, _⟩
  · have := hb i hi; omega
  · exact ⟨h1, h2⟩
theorem RTB {a b : Int} {s t : Bool} (h : a = b ∧ s = t) : Ending.returned (.tuple #[.int .i64 a, .bool s]) = Ending.returned (.tuple #[.int .i64 b, .bool t]) := by rw [h.1, h.2]
set_option maxRecDepth 100000 in
set_option maxHeartbeats 1000000 in
theorem first_c {D : Nat → Prop} (l : Lin) (pt : Int) {xa xb xc : Option Addr} {xj xk xm : Nat} {w : World} (h1 : Fct.at w D (.ms (.slice xa l.L.length xj) l.L)) (h2 : Fct.at w D (.rw (.slice xb l.ats.length xk) l.ats.length 1 (icl l.ats))) (h3 : Fct.at w D (.rw (.slice xc l.ft.length xm) l.ft.length 2 (fcl l.ft))) {r : Int} (hr0 : FirstIs l pt r) (H20 : l.L.length = l.ats.length) (hlen : l.L.length ≤ 100000) :
    Calls Try.prog 67 #[.agg #[.int .i64 l.nw, .slice xa l.L.length xj, .slice xb l.ats.length xk, .slice xc l.ft.length xm], .int .i64 pt] w fun e w' => e = .returned (.int .i64 r) ∧ Below w.heap.size w w' := by
  have E0 := Lib.hid ((((Env.start D w).arg (.ms (.slice xa l.L.length xj) l.L) h1).arg (.rw (.slice xb l.ats.length xk) l.ats.length 1 (icl l.ats)) h2).arg (.rw (.slice xc l.ft.length xm) l.ft.length 2 (fcl l.ft)) h3)
  clear h1 h2 h3
  go_enter Try.func67, Try.ntmps67
  have hr := Lib.hid hr0
  clear hr0
  have H2 := Lib.hid H20
  clear H20
  go_wp2_with fail
  have E1 := Lib.hid ((E0.out.push 64 [.int .i64 l.nw, .slice xa l.L.length xj, .slice xb l.ats.length xk, .slice xc l.ft.length xm] (w.heap.size) (by simp)))
  go_loopg [10] (l.L.length) (fun gk s10 wr => ∃ (k : Nat), s10 = .int .i64 (k : Int) ∧ Hid (Env D w [(w.heap.size, 64, [.int .i64 l.nw, .slice xa l.L.length xj, .slice xb l.ats.length xk, .slice xc l.ft.length xm])] [.rw (.slice xc l.ft.length xm) l.ft.length 2 (fcl l.ft), .rw (.slice xb l.ats.length xk) l.ats.length 1 (icl l.ats), .ms (.slice xa l.L.length xj) l.L] wr) ∧ Hid ((k ≤ l.L.length ∧ gk = l.L.length - k) ∧ ∀ j, j < k → arrB l pt j = false))
  case atStart => exact ⟨0, rfl, Lib.hid E1.out, Lib.hid ⟨⟨Nat.zero_le _, rfl⟩, fun j h => absurd h (Nat.not_lt_zero _)⟩⟩
  case round =>
    clear E0 E1
    obtain ⟨k, rfl, EL, HA⟩ := hrel
    obtain ⟨⟨a1, a2⟩, a3⟩ := HA.out
    have HS := Lib.hid a3
    clear a3 HA
    by_cases hy : k = l.L.length
    rotate_left
    · have hk : k < l.L.length := by omega
      have t6 : decide ((k : Int) < (l.L.length : Int)) = true := decide_eq_true (by omega)
      have t7 : decide (k < l.L.length) = true := decide_eq_true hk
      have hk2 : k < l.ats.length := by have := H2.out; omega
      clear hy
      obtain ⟨xab, xao, rfl⟩ := Ms.addr (EL.out.fc 2 rfl) hk
      obtain ⟨ua, uk, E20⟩ := EL.out.els 2 rfl (k) hk
      have E2 : Hid (Env D w [(w.heap.size, 64, [.int .i64 l.nw, .slice (some ⟨xab, xao, none⟩) l.L.length xj, .slice xb l.ats.length xk, .slice xc l.ft.length xm])] [.ce xab (xao + k * 5) (.int .i64 l.L[k].fr), .ce xab (xao + k * 5 + 1) (.int .i64 l.L[k].to_), .ce xab (xao + k * 5 + 2) (.int .i64 l.L[k].kd), .ce xab (xao + k * 5 + 3) (.int .i64 l.L[k].nm), .ce xab (xao + k * 5 + 4) (.slice ua l.L[k].body.length uk), .bs (.slice ua l.L[k].body.length uk) l.L[k].body, .rw (.slice xc l.ft.length xm) l.ft.length 2 (fcl l.ft), .rw (.slice xb l.ats.length xk) l.ats.length 1 (icl l.ats), .ms (.slice (some ⟨xab, xao, none⟩) l.L.length xj) l.L] _) := Lib.hid E20
      clear E20 EL
      have u0 := (E2.out.fc 0 rfl).2
      have u1 := (E2.out.fc 1 rfl).2
      have u2 := (E2.out.fc 2 rfl).2
      have u3 := (E2.out.fc 3 rfl).2
      have u4 := (E2.out.fc 4 rfl).2
      obtain ⟨xbb, xbo, rfl⟩ := Rw.addr (E2.out.fc 7 rfl) (by omega)
      have E3 := Lib.hid (E2.out.elI 7 rfl rfl (k) hk2)
      clear E2
      have v0 := (E3.out.fc 0 rfl).2
      have hae := Lib.hid (arrB_eq (pt := pt) hk hk2)
      have z1 := (E3.out.fc 1 rfl).2
      have z2 := (E3.out.fc 2 rfl).2
      have z3 := (E3.out.fc 3 rfl).2
      have z4 := (E3.out.fc 4 rfl).2
      have z5 := (E3.out.fc 5 rfl).2
      by_cases c1 : l.ats[k] ≤ l.nw
      rotate_left
      · have d1 : decide (l.ats[k] ≤ l.nw) = false := decide_eq_false c1
        have HB : Hid (arrB l pt k = false) := Lib.hid (by rw [hae.out, d1]; rfl)
        clear c1
        go_wp2_with fail
        have E4 := Lib.hid ((E3.out.push 24 [.int .i64 l.L[k].fr, .int .i64 l.L[k].to_, .int .i64 l.L[k].kd, .int .i64 l.L[k].nm, .slice ua l.L[k].body.length uk] (wr.heap.size) (by simp)))
        clear u0 u1 u2 u3 u4 v0 z1 z2 z3 z4 z5 E3
        generalize wr.alloc (.cells #[.int .i64 l.L[k].fr, .int .i64 l.L[k].to_, .int .i64 l.L[k].kd, .int .i64 l.L[k].nm, .slice ua l.L[k].body.length uk] 24) = w1 at *
        have E5 := Lib.hid E4.out.drew
        clear E4
        refine wp_regionU (S := fun w' => w'.cell? ⟨w.heap.size, 2, none⟩ = some (.slice (some ⟨xbb, xbo, none⟩) l.ats.length xk) ∧ w'.cell? ⟨w.heap.size, 0, none⟩ = some (.int .i64 l.nw) ∧ w'.cell? ⟨xbb, xbo + k, none⟩ = some (.int .i64 l.ats[k])) [] (by kernel_rfl) (⟨((E5.out.bx 1 rfl).cell 2 rfl), ((E5.out.bx 1 rfl).cell 0 rfl), (E5.out.fc 0 rfl).2⟩) (fun hHeld => ?_)
        generalize w1.drew = w2 at *
        refine uTake (i := 0) (some 15) (v := ?_) rfl rfl (by kernel_rfl) (by kernel_rfl) (by kernel_rfl) (by kernel_rfl) (fun _ _ _ h => h) (by rfl) (by assumption) ?_ ?_
        rotate_left
        · (intro wS hSw; (try dsimp only at hSw); go_simp; try with_reducible rfl)
        try simp only [Act.put, List.setIfInBounds_toArray, List.set_cons_zero, List.set_cons_succ]
        refine uTake (i := 1) (some 16) (v := ?_) rfl rfl (by kernel_rfl) (by kernel_rfl) (by kernel_rfl) (by kernel_rfl) (fun _ _ _ h => h) (by rfl) (by assumption) ?_ ?_
        rotate_left
        · (intro wS hSw; (try dsimp only at hSw); go_simp; try with_reducible rfl)
        try simp only [Act.put, List.setIfInBounds_toArray, List.set_cons_zero, List.set_cons_succ]
        refine uTake (i := 2) (some 17) (v := ?_) rfl rfl (by kernel_rfl) (by kernel_rfl) (by kernel_rfl) (by kernel_rfl) (fun _ _ _ h => h) (by rfl) (by assumption) ?_ ?_
        rotate_left
        · (intro wS hSw; (try dsimp only at hSw); go_simp; try with_reducible rfl)
        try simp only [Act.put, List.setIfInBounds_toArray, List.set_cons_zero, List.set_cons_succ]
        refine uTake (i := 3) (some 18) (v := ?_) rfl rfl (by kernel_rfl) (by kernel_rfl) (by kernel_rfl) (by kernel_rfl) (fun _ _ _ h => h) (by rfl) (by assumption) ?_ ?_
        rotate_left
        · (intro wS hSw; (try dsimp only at hSw); go_simp; try with_reducible rfl)
        try simp only [Act.put, List.setIfInBounds_toArray, List.set_cons_zero, List.set_cons_succ]
        refine uTake (i := 4) (some 19) (v := ?_) rfl rfl (by kernel_rfl) (by kernel_rfl) (by kernel_rfl) (by kernel_rfl) (fun _ _ _ h => h) (by rfl) (by assumption) ?_ ?_
        rotate_left
        · (intro wS hSw; (try dsimp only at hSw); go_simp; try with_reducible rfl)
        try simp only [Act.put, List.setIfInBounds_toArray, List.set_cons_zero, List.set_cons_succ]
        refine uTake (i := 5) (some 20) (v := ?_) rfl rfl (by kernel_rfl) (by kernel_rfl) (by kernel_rfl) (by kernel_rfl) (fun _ _ _ h => h) (by rfl) (by assumption) ?_ ?_
        rotate_left
        · (intro wS hSw; (try dsimp only at hSw); go_simp; try with_reducible rfl)
        try simp only [Act.put, List.setIfInBounds_toArray, List.set_cons_zero, List.set_cons_succ]
        refine uTake (i := 6) (some 21) (v := ?_) rfl rfl (by kernel_rfl) (by kernel_rfl) (by kernel_rfl) (by kernel_rfl) (fun _ _ _ h => h) (by rfl) (by assumption) ?_ ?_
        rotate_left
        · (intro wS hSw; (try dsimp only at hSw); go_simp; try with_reducible rfl)
        try simp only [Act.put, List.setIfInBounds_toArray, List.set_cons_zero, List.set_cons_succ]
        refine uTake (i := 7) (some 22) (v := .bool false) rfl rfl (by kernel_rfl) (by kernel_rfl) (by kernel_rfl) (by kernel_rfl) (fun _ _ _ h => h) (by rfl) (by assumption) ?_ ?_
        · (intro wS hSw; (try dsimp only at hSw); go_simp; try simp [*])
        try simp only [Act.put, List.setIfInBounds_toArray, List.set_cons_zero, List.set_cons_succ]
        refine uTake (i := 8) (some 23) (v := ?_) rfl rfl (by kernel_rfl) (by kernel_rfl) (by kernel_rfl) (by kernel_rfl) (fun _ _ _ h => h) (by rfl) (by assumption) ?_ ?_
        rotate_left
        · (intro wS hSw; (try dsimp only at hSw); go_simp; try with_reducible rfl)
        try simp only [Act.put, List.setIfInBounds_toArray, List.set_cons_zero, List.set_cons_succ]
        refine uPass (i := 9) (some 24) rfl rfl (by kernel_rfl) (by kernel_rfl) (by kernel_rfl) (by kernel_rfl) (fun _ _ _ h => h) (by rfl) (by assumption) ?_
        try simp only [Act.put, List.setIfInBounds_toArray, List.set_cons_zero, List.set_cons_succ]
        refine uPass (i := 10) (some 25) rfl rfl (by kernel_rfl) (by kernel_rfl) (by kernel_rfl) (by kernel_rfl) (fun _ _ _ h => h) (by rfl) (by assumption) ?_
        try simp only [Act.put, List.setIfInBounds_toArray, List.set_cons_zero, List.set_cons_succ]
        refine uPass (i := 11) (some 26) rfl rfl (by kernel_rfl) (by kernel_rfl) (by kernel_rfl) (by kernel_rfl) (fun _ _ _ h => h) (by rfl) (by assumption) ?_
        try simp only [Act.put, List.setIfInBounds_toArray, List.set_cons_zero, List.set_cons_succ]
        refine uPass (i := 12) (some 27) rfl rfl (by kernel_rfl) (by kernel_rfl) (by kernel_rfl) (by kernel_rfl) (fun _ _ _ h => h) (by rfl) (by assumption) ?_
        try simp only [Act.put, List.setIfInBounds_toArray, List.set_cons_zero, List.set_cons_succ]
        refine uTake (i := 13) (some 28) (v := ?_) rfl rfl (by kernel_rfl) (by kernel_rfl) (by kernel_rfl) (by kernel_rfl) (fun _ _ _ h => h) (by rfl) (by assumption) ?_ ?_
        rotate_left
        · (intro wS hSw; (try dsimp only at hSw); go_simp; try with_reducible rfl)
        try simp only [Act.put, List.setIfInBounds_toArray, List.set_cons_zero, List.set_cons_succ]
        refine uDone (by kernel_rfl) ?_ _
        have EZ := Lib.hid ((((((((E5.out.drop).forget).forget).forget).forget).forget).forget).forget)
        go_wp2
        go_roundg (l.L.length - (k + 1))
        case rel => exact ⟨k + 1, rfl, EZ, Lib.hid ⟨⟨by omega, rfl⟩, fun j hj => by by_cases e : j = k; (· subst e; exact HB.out); exact HS.out j (by omega)⟩⟩
        case measure => exact by omega
      have d1 : decide (l.ats[k] ≤ l.nw) = true := decide_eq_true c1
      by_cases c2 : l.L[k].to_ = pt
      rotate_left
      · have d2 : decide (l.L[k].to_ = pt) = false := decide_eq_false c2
        have d3 : (l.L[k].to_ == pt) = false := by simpa using c2
        have HB : Hid (arrB l pt k = false) := Lib.hid (by rw [hae.out, d1, d2]; rfl)
        clear c1 c2
        go_wp2_with fail
        have E4 := Lib.hid ((E3.out.push 24 [.int .i64 l.L[k].fr, .int .i64 l.L[k].to_, .int .i64 l.L[k].kd, .int .i64 l.L[k].nm, .slice ua l.L[k].body.length uk] (wr.heap.size) (by simp)))
        clear u0 u1 u2 u3 u4 v0 z1 z2 z3 z4 z5 E3
        generalize wr.alloc (.cells #[.int .i64 l.L[k].fr, .int .i64 l.L[k].to_, .int .i64 l.L[k].kd, .int .i64 l.L[k].nm, .slice ua l.L[k].body.length uk] 24) = w1 at *
        have E5 := Lib.hid E4.out.drew
        clear E4
        refine wp_regionU (S := fun w' => w'.cell? ⟨w.heap.size, 2, none⟩ = some (.slice (some ⟨xbb, xbo, none⟩) l.ats.length xk) ∧ w'.cell? ⟨w.heap.size, 0, none⟩ = some (.int .i64 l.nw) ∧ w'.cell? ⟨wr.heap.size, 1, none⟩ = some (.int .i64 l.L[k].to_) ∧ w'.cell? ⟨xbb, xbo + k, none⟩ = some (.int .i64 l.ats[k])) [] (by kernel_rfl) (⟨((E5.out.bx 1 rfl).cell 2 rfl), ((E5.out.bx 1 rfl).cell 0 rfl), ((E5.out.bx 0 rfl).cell 1 rfl), (E5.out.fc 0 rfl).2⟩) (fun hHeld => ?_)
        generalize w1.drew = w2 at *
        refine uTake (i := 0) (some 15) (v := ?_) rfl rfl (by kernel_rfl) (by kernel_rfl) (by kernel_rfl) (by kernel_rfl) (fun _ _ _ h => h) (by rfl) (by assumption) ?_ ?_
        rotate_left
        · (intro wS hSw; (try dsimp only at hSw); go_simp; try with_reducible rfl)
        try simp only [Act.put, List.setIfInBounds_toArray, List.set_cons_zero, List.set_cons_succ]
        refine uTake (i := 1) (some 16) (v := ?_) rfl rfl (by kernel_rfl) (by kernel_rfl) (by kernel_rfl) (by kernel_rfl) (fun _ _ _ h => h) (by rfl) (by assumption) ?_ ?_
        rotate_left
        · (intro wS hSw; (try dsimp only at hSw); go_simp; try with_reducible rfl)
        try simp only [Act.put, List.setIfInBounds_toArray, List.set_cons_zero, List.set_cons_succ]
        refine uTake (i := 2) (some 17) (v := ?_) rfl rfl (by kernel_rfl) (by kernel_rfl) (by kernel_rfl) (by kernel_rfl) (fun _ _ _ h => h) (by rfl) (by assumption) ?_ ?_
        rotate_left
        · (intro wS hSw; (try dsimp only at hSw); go_simp; try with_reducible rfl)
        try simp only [Act.put, List.setIfInBounds_toArray, List.set_cons_zero, List.set_cons_succ]
        refine uTake (i := 3) (some 18) (v := ?_) rfl rfl (by kernel_rfl) (by kernel_rfl) (by kernel_rfl) (by kernel_rfl) (fun _ _ _ h => h) (by rfl) (by assumption) ?_ ?_
        rotate_left
        · (intro wS hSw; (try dsimp only at hSw); go_simp; try with_reducible rfl)
        try simp only [Act.put, List.setIfInBounds_toArray, List.set_cons_zero, List.set_cons_succ]
        refine uTake (i := 4) (some 19) (v := ?_) rfl rfl (by kernel_rfl) (by kernel_rfl) (by kernel_rfl) (by kernel_rfl) (fun _ _ _ h => h) (by rfl) (by assumption) ?_ ?_
        rotate_left
        · (intro wS hSw; (try dsimp only at hSw); go_simp; try with_reducible rfl)
        try simp only [Act.put, List.setIfInBounds_toArray, List.set_cons_zero, List.set_cons_succ]
        refine uTake (i := 5) (some 20) (v := ?_) rfl rfl (by kernel_rfl) (by kernel_rfl) (by kernel_rfl) (by kernel_rfl) (fun _ _ _ h => h) (by rfl) (by assumption) ?_ ?_
        rotate_left
        · (intro wS hSw; (try dsimp only at hSw); go_simp; try with_reducible rfl)
        try simp only [Act.put, List.setIfInBounds_toArray, List.set_cons_zero, List.set_cons_succ]
        refine uTake (i := 6) (some 21) (v := ?_) rfl rfl (by kernel_rfl) (by kernel_rfl) (by kernel_rfl) (by kernel_rfl) (fun _ _ _ h => h) (by rfl) (by assumption) ?_ ?_
        rotate_left
        · (intro wS hSw; (try dsimp only at hSw); go_simp; try with_reducible rfl)
        try simp only [Act.put, List.setIfInBounds_toArray, List.set_cons_zero, List.set_cons_succ]
        refine uTake (i := 7) (some 22) (v := .bool true) rfl rfl (by kernel_rfl) (by kernel_rfl) (by kernel_rfl) (by kernel_rfl) (fun _ _ _ h => h) (by rfl) (by assumption) ?_ ?_
        · (intro wS hSw; (try dsimp only at hSw); go_simp; try simp [*])
        try simp only [Act.put, List.setIfInBounds_toArray, List.set_cons_zero, List.set_cons_succ]
        refine uTake (i := 8) (some 23) (v := ?_) rfl rfl (by kernel_rfl) (by kernel_rfl) (by kernel_rfl) (by kernel_rfl) (fun _ _ _ h => h) (by rfl) (by assumption) ?_ ?_
        rotate_left
        · (intro wS hSw; (try dsimp only at hSw); go_simp; try with_reducible rfl)
        try simp only [Act.put, List.setIfInBounds_toArray, List.set_cons_zero, List.set_cons_succ]
        refine uTake (i := 9) (some 24) (v := ?_) rfl rfl (by kernel_rfl) (by kernel_rfl) (by kernel_rfl) (by kernel_rfl) (fun _ _ _ h => h) (by rfl) (by assumption) ?_ ?_
        rotate_left
        · (intro wS hSw; (try dsimp only at hSw); go_simp; try with_reducible rfl)
        try simp only [Act.put, List.setIfInBounds_toArray, List.set_cons_zero, List.set_cons_succ]
        refine uTake (i := 10) (some 25) (v := ?_) rfl rfl (by kernel_rfl) (by kernel_rfl) (by kernel_rfl) (by kernel_rfl) (fun _ _ _ h => h) (by rfl) (by assumption) ?_ ?_
        rotate_left
        · (intro wS hSw; (try dsimp only at hSw); go_simp; try with_reducible rfl)
        try simp only [Act.put, List.setIfInBounds_toArray, List.set_cons_zero, List.set_cons_succ]
        refine uTake (i := 11) (some 26) (v := ?_) rfl rfl (by kernel_rfl) (by kernel_rfl) (by kernel_rfl) (by kernel_rfl) (fun _ _ _ h => h) (by rfl) (by assumption) ?_ ?_
        rotate_left
        · (intro wS hSw; (try dsimp only at hSw); go_simp; try with_reducible rfl)
        try simp only [Act.put, List.setIfInBounds_toArray, List.set_cons_zero, List.set_cons_succ]
        refine uTake (i := 12) (some 27) (v := ?_) rfl rfl (by kernel_rfl) (by kernel_rfl) (by kernel_rfl) (by kernel_rfl) (fun _ _ _ h => h) (by rfl) (by assumption) ?_ ?_
        rotate_left
        · (intro wS hSw; (try dsimp only at hSw); go_simp; try with_reducible rfl)
        try simp only [Act.put, List.setIfInBounds_toArray, List.set_cons_zero, List.set_cons_succ]
        refine uTake (i := 13) (some 28) (v := ?_) rfl rfl (by kernel_rfl) (by kernel_rfl) (by kernel_rfl) (by kernel_rfl) (fun _ _ _ h => h) (by rfl) (by assumption) ?_ ?_
        rotate_left
        · (intro wS hSw; (try dsimp only at hSw); go_simp; try with_reducible rfl)
        try simp only [Act.put, List.setIfInBounds_toArray, List.set_cons_zero, List.set_cons_succ]
        refine uDone (by kernel_rfl) ?_ _
        have EZ := Lib.hid ((((((((E5.out.drop).forget).forget).forget).forget).forget).forget).forget)
        go_wp2
        go_roundg (l.L.length - (k + 1))
        case rel => exact ⟨k + 1, rfl, EZ, Lib.hid ⟨⟨by omega, rfl⟩, fun j hj => by by_cases e : j = k; (· subst e; exact HB.out); exact HS.out j (by omega)⟩⟩
        case measure => exact by omega
      have d2 : decide (l.L[k].to_ = pt) = true := decide_eq_true c2
      have d3 : (l.L[k].to_ == pt) = true := by simpa using c2
      have HB : Hid (arrB l pt k = true) := Lib.hid (by rw [hae.out, d1, d2]; rfl)
      clear c1 c2
      go_wp2_with fail
      have E4 := Lib.hid ((E3.out.push 24 [.int .i64 l.L[k].fr, .int .i64 l.L[k].to_, .int .i64 l.L[k].kd, .int .i64 l.L[k].nm, .slice ua l.L[k].body.length uk] (wr.heap.size) (by simp)))
      clear u0 u1 u2 u3 u4 v0 z1 z2 z3 z4 z5 E3
      generalize wr.alloc (.cells #[.int .i64 l.L[k].fr, .int .i64 l.L[k].to_, .int .i64 l.L[k].kd, .int .i64 l.L[k].nm, .slice ua l.L[k].body.length uk] 24) = w1 at *
      have E5 := Lib.hid E4.out.drew
      clear E4
      refine wp_regionU (S := fun w' => w'.cell? ⟨w.heap.size, 2, none⟩ = some (.slice (some ⟨xbb, xbo, none⟩) l.ats.length xk) ∧ w'.cell? ⟨w.heap.size, 0, none⟩ = some (.int .i64 l.nw) ∧ w'.cell? ⟨wr.heap.size, 1, none⟩ = some (.int .i64 l.L[k].to_) ∧ w'.cell? ⟨xbb, xbo + k, none⟩ = some (.int .i64 l.ats[k])) [] (by kernel_rfl) (⟨((E5.out.bx 1 rfl).cell 2 rfl), ((E5.out.bx 1 rfl).cell 0 rfl), ((E5.out.bx 0 rfl).cell 1 rfl), (E5.out.fc 0 rfl).2⟩) (fun hHeld => ?_)
      generalize w1.drew = w2 at *
      refine uTake (i := 0) (some 15) (v := ?_) rfl rfl (by kernel_rfl) (by kernel_rfl) (by kernel_rfl) (by kernel_rfl) (fun _ _ _ h => h) (by rfl) (by assumption) ?_ ?_
      rotate_left
      · (intro wS hSw; (try dsimp only at hSw); go_simp; try with_reducible rfl)
      try simp only [Act.put, List.setIfInBounds_toArray, List.set_cons_zero, List.set_cons_succ]
      refine uTake (i := 1) (some 16) (v := ?_) rfl rfl (by kernel_rfl) (by kernel_rfl) (by kernel_rfl) (by kernel_rfl) (fun _ _ _ h => h) (by rfl) (by assumption) ?_ ?_
      rotate_left
      · (intro wS hSw; (try dsimp only at hSw); go_simp; try with_reducible rfl)
      try simp only [Act.put, List.setIfInBounds_toArray, List.set_cons_zero, List.set_cons_succ]
      refine uTake (i := 2) (some 17) (v := ?_) rfl rfl (by kernel_rfl) (by kernel_rfl) (by kernel_rfl) (by kernel_rfl) (fun _ _ _ h => h) (by rfl) (by assumption) ?_ ?_
      rotate_left
      · (intro wS hSw; (try dsimp only at hSw); go_simp; try with_reducible rfl)
      try simp only [Act.put, List.setIfInBounds_toArray, List.set_cons_zero, List.set_cons_succ]
      refine uTake (i := 3) (some 18) (v := ?_) rfl rfl (by kernel_rfl) (by kernel_rfl) (by kernel_rfl) (by kernel_rfl) (fun _ _ _ h => h) (by rfl) (by assumption) ?_ ?_
      rotate_left
      · (intro wS hSw; (try dsimp only at hSw); go_simp; try with_reducible rfl)
      try simp only [Act.put, List.setIfInBounds_toArray, List.set_cons_zero, List.set_cons_succ]
      refine uTake (i := 4) (some 19) (v := ?_) rfl rfl (by kernel_rfl) (by kernel_rfl) (by kernel_rfl) (by kernel_rfl) (fun _ _ _ h => h) (by rfl) (by assumption) ?_ ?_
      rotate_left
      · (intro wS hSw; (try dsimp only at hSw); go_simp; try with_reducible rfl)
      try simp only [Act.put, List.setIfInBounds_toArray, List.set_cons_zero, List.set_cons_succ]
      refine uTake (i := 5) (some 20) (v := ?_) rfl rfl (by kernel_rfl) (by kernel_rfl) (by kernel_rfl) (by kernel_rfl) (fun _ _ _ h => h) (by rfl) (by assumption) ?_ ?_
      rotate_left
      · (intro wS hSw; (try dsimp only at hSw); go_simp; try with_reducible rfl)
      try simp only [Act.put, List.setIfInBounds_toArray, List.set_cons_zero, List.set_cons_succ]
      refine uTake (i := 6) (some 21) (v := ?_) rfl rfl (by kernel_rfl) (by kernel_rfl) (by kernel_rfl) (by kernel_rfl) (fun _ _ _ h => h) (by rfl) (by assumption) ?_ ?_
      rotate_left
      · (intro wS hSw; (try dsimp only at hSw); go_simp; try with_reducible rfl)
      try simp only [Act.put, List.setIfInBounds_toArray, List.set_cons_zero, List.set_cons_succ]
      refine uTake (i := 7) (some 22) (v := .bool true) rfl rfl (by kernel_rfl) (by kernel_rfl) (by kernel_rfl) (by kernel_rfl) (fun _ _ _ h => h) (by rfl) (by assumption) ?_ ?_
      · (intro wS hSw; (try dsimp only at hSw); go_simp; try simp [*])
      try simp only [Act.put, List.setIfInBounds_toArray, List.set_cons_zero, List.set_cons_succ]
      refine uTake (i := 8) (some 23) (v := ?_) rfl rfl (by kernel_rfl) (by kernel_rfl) (by kernel_rfl) (by kernel_rfl) (fun _ _ _ h => h) (by rfl) (by assumption) ?_ ?_
      rotate_left
      · (intro wS hSw; (try dsimp only at hSw); go_simp; try with_reducible rfl)
      try simp only [Act.put, List.setIfInBounds_toArray, List.set_cons_zero, List.set_cons_succ]
      refine uTake (i := 9) (some 24) (v := ?_) rfl rfl (by kernel_rfl) (by kernel_rfl) (by kernel_rfl) (by kernel_rfl) (fun _ _ _ h => h) (by rfl) (by assumption) ?_ ?_
      rotate_left
      · (intro wS hSw; (try dsimp only at hSw); go_simp; try with_reducible rfl)
      try simp only [Act.put, List.setIfInBounds_toArray, List.set_cons_zero, List.set_cons_succ]
      refine uTake (i := 10) (some 25) (v := ?_) rfl rfl (by kernel_rfl) (by kernel_rfl) (by kernel_rfl) (by kernel_rfl) (fun _ _ _ h => h) (by rfl) (by assumption) ?_ ?_
      rotate_left
      · (intro wS hSw; (try dsimp only at hSw); go_simp; try with_reducible rfl)
      try simp only [Act.put, List.setIfInBounds_toArray, List.set_cons_zero, List.set_cons_succ]
      refine uTake (i := 11) (some 26) (v := ?_) rfl rfl (by kernel_rfl) (by kernel_rfl) (by kernel_rfl) (by kernel_rfl) (fun _ _ _ h => h) (by rfl) (by assumption) ?_ ?_
      rotate_left
      · (intro wS hSw; (try dsimp only at hSw); go_simp; try with_reducible rfl)
      try simp only [Act.put, List.setIfInBounds_toArray, List.set_cons_zero, List.set_cons_succ]
      refine uTake (i := 12) (some 27) (v := ?_) rfl rfl (by kernel_rfl) (by kernel_rfl) (by kernel_rfl) (by kernel_rfl) (fun _ _ _ h => h) (by rfl) (by assumption) ?_ ?_
      rotate_left
      · (intro wS hSw; (try dsimp only at hSw); go_simp; try with_reducible rfl)
      try simp only [Act.put, List.setIfInBounds_toArray, List.set_cons_zero, List.set_cons_succ]
      refine uTake (i := 13) (some 28) (v := ?_) rfl rfl (by kernel_rfl) (by kernel_rfl) (by kernel_rfl) (by kernel_rfl) (fun _ _ _ h => h) (by rfl) (by assumption) ?_ ?_
      rotate_left
      · (intro wS hSw; (try dsimp only at hSw); go_simp; try with_reducible rfl)
      try simp only [Act.put, List.setIfInBounds_toArray, List.set_cons_zero, List.set_cons_succ]
      refine uDone (by kernel_rfl) ?_ _
      have HR := Lib.hid (hr.out.at HB.out HS.out)
      have hfin := Lib.hid E5.out.bel
      go_wp2
      go_ret
      exact ⟨RI HR.out.symm, hfin.out⟩
    have t6 : decide ((k : Int) < (l.L.length : Int)) = false := decide_eq_false (by omega)
    have t7 : decide (k < l.L.length) = false := decide_eq_false (by omega)
    have HY := Lib.hid hy
    clear hy
    have HR := Lib.hid (hr.out.no (fun j hj => HS.out j (by have := HY.out; omega)))
    have hfin := Lib.hid EL.out.bel
    go_wp2
    go_ret
    exact ⟨RI HR.out.symm, hfin.out⟩
set_option maxRecDepth 100000 in
set_option maxHeartbeats 1000000 in
theorem Waiting_no {D : Nat → Prop} (l : Lin) (pt : Int) {xa xb xc : Option Addr} {xj xk xm : Nat} {w : World} (h1 : Fct.at w D (.ms (.slice xa l.L.length xj) l.L)) (h2 : Fct.at w D (.rw (.slice xb l.ats.length xk) l.ats.length 1 (icl l.ats))) (h3 : Fct.at w D (.rw (.slice xc l.ft.length xm) l.ft.length 2 (fcl l.ft))) (hv0 : ¬ LinOk l) (hlen : l.ats.length ≤ 1000000) :
    Calls Try.prog 35 #[.agg #[.int .i64 l.nw, .slice xa l.L.length xj, .slice xb l.ats.length xk, .slice xc l.ft.length xm], .int .i64 pt] w fun e w' => e = .returned (.int .i64 0) ∧ Below w.heap.size w w' := by
  have E0 := Lib.hid ((((Env.start D w).arg (.ms (.slice xa l.L.length xj) l.L) h1).arg (.rw (.slice xb l.ats.length xk) l.ats.length 1 (icl l.ats)) h2).arg (.rw (.slice xc l.ft.length xm) l.ft.length 2 (fcl l.ft)) h3)
  clear h1 h2 h3
  go_enter Try.func35, Try.ntmps35
  have hv := Lib.hid hv0
  clear hv0
  go_wp2_with fail
  have E1 := Lib.hid ((E0.out.push 64 [.int .i64 l.nw, .slice xa l.L.length xj, .slice xb l.ats.length xk, .slice xc l.ft.length xm] (w.heap.size) (by simp)))
  refine (lValid_c l (E1.out.fc 2 rfl) (E1.out.fc 1 rfl) (E1.out.fc 0 rfl) (noOf hv.out) hlen).mono ?_
  rintro e w1 ⟨rfl, hb⟩
  have E2 := Lib.hid (E1.out.below hb)
  clear E0 E1 hb
  have hfin := Lib.hid E2.out.bel
  go_wp2
  go_ret
  exact ⟨rfl, hfin.out⟩
set_option maxRecDepth 100000 in
set_option maxHeartbeats 1000000 in
theorem Waiting_ok {D : Nat → Prop} (l : Lin) (pt : Int) {xa xb xc : Option Addr} {xj xk xm : Nat} {w : World} (h1 : Fct.at w D (.ms (.slice xa l.L.length xj) l.L)) (h2 : Fct.at w D (.rw (.slice xb l.ats.length xk) l.ats.length 1 (icl l.ats))) (h3 : Fct.at w D (.rw (.slice xc l.ft.length xm) l.ft.length 2 (fcl l.ft))) (hv0 : LinOk l) :
    Calls Try.prog 35 #[.agg #[.int .i64 l.nw, .slice xa l.L.length xj, .slice xb l.ats.length xk, .slice xc l.ft.length xm], .int .i64 pt] w fun e w' => e = .returned (.int .i64 (wcnt l pt l.L.length : Nat)) ∧ Below w.heap.size w w' := by
  have E0 := Lib.hid ((((Env.start D w).arg (.ms (.slice xa l.L.length xj) l.L) h1).arg (.rw (.slice xb l.ats.length xk) l.ats.length 1 (icl l.ats)) h2).arg (.rw (.slice xc l.ft.length xm) l.ft.length 2 (fcl l.ft)) h3)
  clear h1 h2 h3
  go_enter Try.func35, Try.ntmps35
  have hlen : l.L.length ≤ 1000 ∧ l.ats.length ≤ 1000 := by obtain ⟨⟨_, h1, h2, _⟩, _⟩ := hv0; omega
  have H2 := Lib.hid hv0.1.2.1
  have hv := Lib.hid hv0
  clear hv0
  go_wp2_with fail
  have E1 := Lib.hid ((E0.out.push 64 [.int .i64 l.nw, .slice xa l.L.length xj, .slice xb l.ats.length xk, .slice xc l.ft.length xm] (w.heap.size) (by simp)))
  refine (lValid_c l (E1.out.fc 2 rfl) (E1.out.fc 1 rfl) (E1.out.fc 0 rfl) (okOf hv.out) (by omega)).mono ?_
  rintro e w1 ⟨rfl, hb⟩
  have E2 := Lib.hid (E1.out.below hb)
  clear E0 E1 hb
  have b1 := E2.out.bx 0 rfl
  have c1_1 := b1.cell 1 rfl
  clear b1
  go_wp2_with fail
  go_loopg [5, 14] (l.L.length) (fun gk s5 s14 wr => ∃ (k : Nat), s5 = .int .i64 (wcnt l pt k : Nat) ∧ s14 = .int .i64 (k : Int) ∧ Hid (Env D w [(w.heap.size, 64, [.int .i64 l.nw, .slice xa l.L.length xj, .slice xb l.ats.length xk, .slice xc l.ft.length xm])] [.rw (.slice xc l.ft.length xm) l.ft.length 2 (fcl l.ft), .rw (.slice xb l.ats.length xk) l.ats.length 1 (icl l.ats), .ms (.slice xa l.L.length xj) l.L] wr) ∧ Hid (k ≤ l.L.length ∧ gk = l.L.length - k))
  case atStart => exact ⟨0, rfl, rfl, Lib.hid E2.out, Lib.hid ⟨Nat.zero_le _, rfl⟩⟩
  case round =>
    clear c1_1 E2
    obtain ⟨k, rfl, rfl, EL, HA⟩ := hrel
    obtain ⟨a1, a2⟩ := HA.out
    clear HA
    have a3 := wcnt_le l pt k
    by_cases hy : k = l.L.length
    rotate_left
    · have hk : k < l.L.length := by omega
      have t6 : decide ((k : Int) < (l.L.length : Int)) = true := decide_eq_true (by omega)
      have t7 : decide (k < l.L.length) = true := decide_eq_true hk
      have hk2 : k < l.ats.length := by have := H2.out; omega
      clear hy
      obtain ⟨xab, xao, rfl⟩ := Ms.addr (EL.out.fc 2 rfl) hk
      obtain ⟨ua, uk, E30⟩ := EL.out.els 2 rfl (k) hk
      have E3 : Hid (Env D w [(w.heap.size, 64, [.int .i64 l.nw, .slice (some ⟨xab, xao, none⟩) l.L.length xj, .slice xb l.ats.length xk, .slice xc l.ft.length xm])] [.ce xab (xao + k * 5) (.int .i64 l.L[k].fr), .ce xab (xao + k * 5 + 1) (.int .i64 l.L[k].to_), .ce xab (xao + k * 5 + 2) (.int .i64 l.L[k].kd), .ce xab (xao + k * 5 + 3) (.int .i64 l.L[k].nm), .ce xab (xao + k * 5 + 4) (.slice ua l.L[k].body.length uk), .bs (.slice ua l.L[k].body.length uk) l.L[k].body, .rw (.slice xc l.ft.length xm) l.ft.length 2 (fcl l.ft), .rw (.slice xb l.ats.length xk) l.ats.length 1 (icl l.ats), .ms (.slice (some ⟨xab, xao, none⟩) l.L.length xj) l.L] _) := Lib.hid E30
      clear E30 EL
      have u0 := (E3.out.fc 0 rfl).2
      have u1 := (E3.out.fc 1 rfl).2
      have u2 := (E3.out.fc 2 rfl).2
      have u3 := (E3.out.fc 3 rfl).2
      have u4 := (E3.out.fc 4 rfl).2
      obtain ⟨xbb, xbo, rfl⟩ := Rw.addr (E3.out.fc 7 rfl) (by omega)
      have E4 := Lib.hid (E3.out.elI 7 rfl rfl (k) hk2)
      clear E3
      have v0 := (E4.out.fc 0 rfl).2
      have hae := Lib.hid (arrB_eq (pt := pt) hk hk2)
      have z2 := (E4.out.fc 1 rfl).2
      have z3 := (E4.out.fc 2 rfl).2
      have z4 := (E4.out.fc 3 rfl).2
      have z5 := (E4.out.fc 4 rfl).2
      have z6 := (E4.out.fc 5 rfl).2
      by_cases c1 : l.ats[k] ≤ l.nw
      rotate_left
      · have d1 : decide (l.ats[k] ≤ l.nw) = false := decide_eq_false c1
        have HB : Hid (arrB l pt k = false) := Lib.hid (by rw [hae.out, d1]; rfl)
        clear c1
        go_wp2_with fail
        have E5 := Lib.hid ((E4.out.push 24 [.int .i64 l.L[k].fr, .int .i64 l.L[k].to_, .int .i64 l.L[k].kd, .int .i64 l.L[k].nm, .slice ua l.L[k].body.length uk] (wr.heap.size) (by simp)))
        clear u0 u1 u2 u3 u4 v0 z2 z3 z4 z5 z6 E4
        generalize wr.alloc (.cells #[.int .i64 l.L[k].fr, .int .i64 l.L[k].to_, .int .i64 l.L[k].kd, .int .i64 l.L[k].nm, .slice ua l.L[k].body.length uk] 24) = w2 at *
        have E6 := Lib.hid E5.out.drew
        clear E5
        refine wp_regionU (S := fun w' => w'.cell? ⟨w.heap.size, 2, none⟩ = some (.slice (some ⟨xbb, xbo, none⟩) l.ats.length xk) ∧ w'.cell? ⟨w.heap.size, 0, none⟩ = some (.int .i64 l.nw) ∧ w'.cell? ⟨xbb, xbo + k, none⟩ = some (.int .i64 l.ats[k])) [] (by kernel_rfl) (⟨((E6.out.bx 1 rfl).cell 2 rfl), ((E6.out.bx 1 rfl).cell 0 rfl), (E6.out.fc 0 rfl).2⟩) (fun hHeld => ?_)
        generalize w2.drew = w3 at *
        refine uTake (i := 0) (some 19) (v := ?_) rfl rfl (by kernel_rfl) (by kernel_rfl) (by kernel_rfl) (by kernel_rfl) (fun _ _ _ h => h) (by rfl) (by assumption) ?_ ?_
        rotate_left
        · (intro wS hSw; (try dsimp only at hSw); go_simp; try with_reducible rfl)
        try simp only [Act.put, List.setIfInBounds_toArray, List.set_cons_zero, List.set_cons_succ]
        refine uTake (i := 1) (some 20) (v := ?_) rfl rfl (by kernel_rfl) (by kernel_rfl) (by kernel_rfl) (by kernel_rfl) (fun _ _ _ h => h) (by rfl) (by assumption) ?_ ?_
        rotate_left
        · (intro wS hSw; (try dsimp only at hSw); go_simp; try with_reducible rfl)
        try simp only [Act.put, List.setIfInBounds_toArray, List.set_cons_zero, List.set_cons_succ]
        refine uTake (i := 2) (some 21) (v := ?_) rfl rfl (by kernel_rfl) (by kernel_rfl) (by kernel_rfl) (by kernel_rfl) (fun _ _ _ h => h) (by rfl) (by assumption) ?_ ?_
        rotate_left
        · (intro wS hSw; (try dsimp only at hSw); go_simp; try with_reducible rfl)
        try simp only [Act.put, List.setIfInBounds_toArray, List.set_cons_zero, List.set_cons_succ]
        refine uTake (i := 3) (some 22) (v := ?_) rfl rfl (by kernel_rfl) (by kernel_rfl) (by kernel_rfl) (by kernel_rfl) (fun _ _ _ h => h) (by rfl) (by assumption) ?_ ?_
        rotate_left
        · (intro wS hSw; (try dsimp only at hSw); go_simp; try with_reducible rfl)
        try simp only [Act.put, List.setIfInBounds_toArray, List.set_cons_zero, List.set_cons_succ]
        refine uTake (i := 4) (some 23) (v := ?_) rfl rfl (by kernel_rfl) (by kernel_rfl) (by kernel_rfl) (by kernel_rfl) (fun _ _ _ h => h) (by rfl) (by assumption) ?_ ?_
        rotate_left
        · (intro wS hSw; (try dsimp only at hSw); go_simp; try with_reducible rfl)
        try simp only [Act.put, List.setIfInBounds_toArray, List.set_cons_zero, List.set_cons_succ]
        refine uTake (i := 5) (some 24) (v := ?_) rfl rfl (by kernel_rfl) (by kernel_rfl) (by kernel_rfl) (by kernel_rfl) (fun _ _ _ h => h) (by rfl) (by assumption) ?_ ?_
        rotate_left
        · (intro wS hSw; (try dsimp only at hSw); go_simp; try with_reducible rfl)
        try simp only [Act.put, List.setIfInBounds_toArray, List.set_cons_zero, List.set_cons_succ]
        refine uTake (i := 6) (some 25) (v := ?_) rfl rfl (by kernel_rfl) (by kernel_rfl) (by kernel_rfl) (by kernel_rfl) (fun _ _ _ h => h) (by rfl) (by assumption) ?_ ?_
        rotate_left
        · (intro wS hSw; (try dsimp only at hSw); go_simp; try with_reducible rfl)
        try simp only [Act.put, List.setIfInBounds_toArray, List.set_cons_zero, List.set_cons_succ]
        refine uTake (i := 7) (some 26) (v := .bool false) rfl rfl (by kernel_rfl) (by kernel_rfl) (by kernel_rfl) (by kernel_rfl) (fun _ _ _ h => h) (by rfl) (by assumption) ?_ ?_
        · (intro wS hSw; (try dsimp only at hSw); go_simp; try simp [*])
        try simp only [Act.put, List.setIfInBounds_toArray, List.set_cons_zero, List.set_cons_succ]
        refine uTake (i := 8) (some 27) (v := ?_) rfl rfl (by kernel_rfl) (by kernel_rfl) (by kernel_rfl) (by kernel_rfl) (fun _ _ _ h => h) (by rfl) (by assumption) ?_ ?_
        rotate_left
        · (intro wS hSw; (try dsimp only at hSw); go_simp; try with_reducible rfl)
        try simp only [Act.put, List.setIfInBounds_toArray, List.set_cons_zero, List.set_cons_succ]
        refine uPass (i := 9) (some 28) rfl rfl (by kernel_rfl) (by kernel_rfl) (by kernel_rfl) (by kernel_rfl) (fun _ _ _ h => h) (by rfl) (by assumption) ?_
        try simp only [Act.put, List.setIfInBounds_toArray, List.set_cons_zero, List.set_cons_succ]
        refine uPass (i := 10) (some 29) rfl rfl (by kernel_rfl) (by kernel_rfl) (by kernel_rfl) (by kernel_rfl) (fun _ _ _ h => h) (by rfl) (by assumption) ?_
        try simp only [Act.put, List.setIfInBounds_toArray, List.set_cons_zero, List.set_cons_succ]
        refine uPass (i := 11) (some 30) rfl rfl (by kernel_rfl) (by kernel_rfl) (by kernel_rfl) (by kernel_rfl) (fun _ _ _ h => h) (by rfl) (by assumption) ?_
        try simp only [Act.put, List.setIfInBounds_toArray, List.set_cons_zero, List.set_cons_succ]
        refine uPass (i := 12) (some 31) rfl rfl (by kernel_rfl) (by kernel_rfl) (by kernel_rfl) (by kernel_rfl) (fun _ _ _ h => h) (by rfl) (by assumption) ?_
        try simp only [Act.put, List.setIfInBounds_toArray, List.set_cons_zero, List.set_cons_succ]
        refine uTake (i := 13) (some 32) (v := ?_) rfl rfl (by kernel_rfl) (by kernel_rfl) (by kernel_rfl) (by kernel_rfl) (fun _ _ _ h => h) (by rfl) (by assumption) ?_ ?_
        rotate_left
        · (intro wS hSw; (try dsimp only at hSw); go_simp; try with_reducible rfl)
        try simp only [Act.put, List.setIfInBounds_toArray, List.set_cons_zero, List.set_cons_succ]
        refine uDone (by kernel_rfl) ?_ _
        have HC : Hid (wcnt l pt (k + 1) = wcnt l pt k) := Lib.hid (by simp only [wcnt, HB.out, Bool.false_eq_true, if_false, Nat.add_zero])
        have EZ := Lib.hid ((((((((E6.out.drop).forget).forget).forget).forget).forget).forget).forget)
        go_wp2
        go_roundg (l.L.length - (k + 1))
        case rel => exact ⟨k + 1, by first | (rw [HC.out]; done) | (rw [HC.out]; rfl), by rfl, EZ, Lib.hid ⟨by omega, rfl⟩⟩
        case measure => exact by omega
      have d1 : decide (l.ats[k] ≤ l.nw) = true := decide_eq_true c1
      by_cases c2 : l.L[k].to_ = pt
      rotate_left
      · have d2 : decide (l.L[k].to_ = pt) = false := decide_eq_false c2
        have d3 : (l.L[k].to_ == pt) = false := by simpa using c2
        have HB : Hid (arrB l pt k = false) := Lib.hid (by rw [hae.out, d1, d2]; rfl)
        clear c1 c2
        go_wp2_with fail
        have E5 := Lib.hid ((E4.out.push 24 [.int .i64 l.L[k].fr, .int .i64 l.L[k].to_, .int .i64 l.L[k].kd, .int .i64 l.L[k].nm, .slice ua l.L[k].body.length uk] (wr.heap.size) (by simp)))
        clear u0 u1 u2 u3 u4 v0 z2 z3 z4 z5 z6 E4
        generalize wr.alloc (.cells #[.int .i64 l.L[k].fr, .int .i64 l.L[k].to_, .int .i64 l.L[k].kd, .int .i64 l.L[k].nm, .slice ua l.L[k].body.length uk] 24) = w2 at *
        have E6 := Lib.hid E5.out.drew
        clear E5
        refine wp_regionU (S := fun w' => w'.cell? ⟨w.heap.size, 2, none⟩ = some (.slice (some ⟨xbb, xbo, none⟩) l.ats.length xk) ∧ w'.cell? ⟨w.heap.size, 0, none⟩ = some (.int .i64 l.nw) ∧ w'.cell? ⟨wr.heap.size, 1, none⟩ = some (.int .i64 l.L[k].to_) ∧ w'.cell? ⟨xbb, xbo + k, none⟩ = some (.int .i64 l.ats[k])) [] (by kernel_rfl) (⟨((E6.out.bx 1 rfl).cell 2 rfl), ((E6.out.bx 1 rfl).cell 0 rfl), ((E6.out.bx 0 rfl).cell 1 rfl), (E6.out.fc 0 rfl).2⟩) (fun hHeld => ?_)
        generalize w2.drew = w3 at *
        refine uTake (i := 0) (some 19) (v := ?_) rfl rfl (by kernel_rfl) (by kernel_rfl) (by kernel_rfl) (by kernel_rfl) (fun _ _ _ h => h) (by rfl) (by assumption) ?_ ?_
        rotate_left
        · (intro wS hSw; (try dsimp only at hSw); go_simp; try with_reducible rfl)
        try simp only [Act.put, List.setIfInBounds_toArray, List.set_cons_zero, List.set_cons_succ]
        refine uTake (i := 1) (some 20) (v := ?_) rfl rfl (by kernel_rfl) (by kernel_rfl) (by kernel_rfl) (by kernel_rfl) (fun _ _ _ h => h) (by rfl) (by assumption) ?_ ?_
        rotate_left
        · (intro wS hSw; (try dsimp only at hSw); go_simp; try with_reducible rfl)
        try simp only [Act.put, List.setIfInBounds_toArray, List.set_cons_zero, List.set_cons_succ]
        refine uTake (i := 2) (some 21) (v := ?_) rfl rfl (by kernel_rfl) (by kernel_rfl) (by kernel_rfl) (by kernel_rfl) (fun _ _ _ h => h) (by rfl) (by assumption) ?_ ?_
        rotate_left
        · (intro wS hSw; (try dsimp only at hSw); go_simp; try with_reducible rfl)
        try simp only [Act.put, List.setIfInBounds_toArray, List.set_cons_zero, List.set_cons_succ]
        refine uTake (i := 3) (some 22) (v := ?_) rfl rfl (by kernel_rfl) (by kernel_rfl) (by kernel_rfl) (by kernel_rfl) (fun _ _ _ h => h) (by rfl) (by assumption) ?_ ?_
        rotate_left
        · (intro wS hSw; (try dsimp only at hSw); go_simp; try with_reducible rfl)
        try simp only [Act.put, List.setIfInBounds_toArray, List.set_cons_zero, List.set_cons_succ]
        refine uTake (i := 4) (some 23) (v := ?_) rfl rfl (by kernel_rfl) (by kernel_rfl) (by kernel_rfl) (by kernel_rfl) (fun _ _ _ h => h) (by rfl) (by assumption) ?_ ?_
        rotate_left
        · (intro wS hSw; (try dsimp only at hSw); go_simp; try with_reducible rfl)
        try simp only [Act.put, List.setIfInBounds_toArray, List.set_cons_zero, List.set_cons_succ]
        refine uTake (i := 5) (some 24) (v := ?_) rfl rfl (by kernel_rfl) (by kernel_rfl) (by kernel_rfl) (by kernel_rfl) (fun _ _ _ h => h) (by rfl) (by assumption) ?_ ?_
        rotate_left
        · (intro wS hSw; (try dsimp only at hSw); go_simp; try with_reducible rfl)
        try simp only [Act.put, List.setIfInBounds_toArray, List.set_cons_zero, List.set_cons_succ]
        refine uTake (i := 6) (some 25) (v := ?_) rfl rfl (by kernel_rfl) (by kernel_rfl) (by kernel_rfl) (by kernel_rfl) (fun _ _ _ h => h) (by rfl) (by assumption) ?_ ?_
        rotate_left
        · (intro wS hSw; (try dsimp only at hSw); go_simp; try with_reducible rfl)
        try simp only [Act.put, List.setIfInBounds_toArray, List.set_cons_zero, List.set_cons_succ]
        refine uTake (i := 7) (some 26) (v := .bool true) rfl rfl (by kernel_rfl) (by kernel_rfl) (by kernel_rfl) (by kernel_rfl) (fun _ _ _ h => h) (by rfl) (by assumption) ?_ ?_
        · (intro wS hSw; (try dsimp only at hSw); go_simp; try simp [*])
        try simp only [Act.put, List.setIfInBounds_toArray, List.set_cons_zero, List.set_cons_succ]
        refine uTake (i := 8) (some 27) (v := ?_) rfl rfl (by kernel_rfl) (by kernel_rfl) (by kernel_rfl) (by kernel_rfl) (fun _ _ _ h => h) (by rfl) (by assumption) ?_ ?_
        rotate_left
        · (intro wS hSw; (try dsimp only at hSw); go_simp; try with_reducible rfl)
        try simp only [Act.put, List.setIfInBounds_toArray, List.set_cons_zero, List.set_cons_succ]
        refine uTake (i := 9) (some 28) (v := ?_) rfl rfl (by kernel_rfl) (by kernel_rfl) (by kernel_rfl) (by kernel_rfl) (fun _ _ _ h => h) (by rfl) (by assumption) ?_ ?_
        rotate_left
        · (intro wS hSw; (try dsimp only at hSw); go_simp; try with_reducible rfl)
        try simp only [Act.put, List.setIfInBounds_toArray, List.set_cons_zero, List.set_cons_succ]
        refine uTake (i := 10) (some 29) (v := ?_) rfl rfl (by kernel_rfl) (by kernel_rfl) (by kernel_rfl) (by kernel_rfl) (fun _ _ _ h => h) (by rfl) (by assumption) ?_ ?_
        rotate_left
        · (intro wS hSw; (try dsimp only at hSw); go_simp; try with_reducible rfl)
        try simp only [Act.put, List.setIfInBounds_toArray, List.set_cons_zero, List.set_cons_succ]
        refine uTake (i := 11) (some 30) (v := ?_) rfl rfl (by kernel_rfl) (by kernel_rfl) (by kernel_rfl) (by kernel_rfl) (fun _ _ _ h => h) (by rfl) (by assumption) ?_ ?_
        rotate_left
        · (intro wS hSw; (try dsimp only at hSw); go_simp; try with_reducible rfl)
        try simp only [Act.put, List.setIfInBounds_toArray, List.set_cons_zero, List.set_cons_succ]
        refine uTake (i := 12) (some 31) (v := ?_) rfl rfl (by kernel_rfl) (by kernel_rfl) (by kernel_rfl) (by kernel_rfl) (fun _ _ _ h => h) (by rfl) (by assumption) ?_ ?_
        rotate_left
        · (intro wS hSw; (try dsimp only at hSw); go_simp; try with_reducible rfl)
        try simp only [Act.put, List.setIfInBounds_toArray, List.set_cons_zero, List.set_cons_succ]
        refine uTake (i := 13) (some 32) (v := ?_) rfl rfl (by kernel_rfl) (by kernel_rfl) (by kernel_rfl) (by kernel_rfl) (fun _ _ _ h => h) (by rfl) (by assumption) ?_ ?_
        rotate_left
        · (intro wS hSw; (try dsimp only at hSw); go_simp; try with_reducible rfl)
        try simp only [Act.put, List.setIfInBounds_toArray, List.set_cons_zero, List.set_cons_succ]
        refine uDone (by kernel_rfl) ?_ _
        have HC : Hid (wcnt l pt (k + 1) = wcnt l pt k) := Lib.hid (by simp only [wcnt, HB.out, Bool.false_eq_true, if_false, Nat.add_zero])
        have EZ := Lib.hid ((((((((E6.out.drop).forget).forget).forget).forget).forget).forget).forget)
        go_wp2
        go_roundg (l.L.length - (k + 1))
        case rel => exact ⟨k + 1, by first | (rw [HC.out]; done) | (rw [HC.out]; rfl), by rfl, EZ, Lib.hid ⟨by omega, rfl⟩⟩
        case measure => exact by omega
      have d2 : decide (l.L[k].to_ = pt) = true := decide_eq_true c2
      have d3 : (l.L[k].to_ == pt) = true := by simpa using c2
      have HB : Hid (arrB l pt k = true) := Lib.hid (by rw [hae.out, d1, d2]; rfl)
      clear c1 c2
      go_wp2_with fail
      have E5 := Lib.hid ((E4.out.push 24 [.int .i64 l.L[k].fr, .int .i64 l.L[k].to_, .int .i64 l.L[k].kd, .int .i64 l.L[k].nm, .slice ua l.L[k].body.length uk] (wr.heap.size) (by simp)))
      clear u0 u1 u2 u3 u4 v0 z2 z3 z4 z5 z6 E4
      generalize wr.alloc (.cells #[.int .i64 l.L[k].fr, .int .i64 l.L[k].to_, .int .i64 l.L[k].kd, .int .i64 l.L[k].nm, .slice ua l.L[k].body.length uk] 24) = w2 at *
      have E6 := Lib.hid E5.out.drew
      clear E5
      refine wp_regionU (S := fun w' => w'.cell? ⟨w.heap.size, 2, none⟩ = some (.slice (some ⟨xbb, xbo, none⟩) l.ats.length xk) ∧ w'.cell? ⟨w.heap.size, 0, none⟩ = some (.int .i64 l.nw) ∧ w'.cell? ⟨wr.heap.size, 1, none⟩ = some (.int .i64 l.L[k].to_) ∧ w'.cell? ⟨xbb, xbo + k, none⟩ = some (.int .i64 l.ats[k])) [] (by kernel_rfl) (⟨((E6.out.bx 1 rfl).cell 2 rfl), ((E6.out.bx 1 rfl).cell 0 rfl), ((E6.out.bx 0 rfl).cell 1 rfl), (E6.out.fc 0 rfl).2⟩) (fun hHeld => ?_)
      generalize w2.drew = w3 at *
      refine uTake (i := 0) (some 19) (v := ?_) rfl rfl (by kernel_rfl) (by kernel_rfl) (by kernel_rfl) (by kernel_rfl) (fun _ _ _ h => h) (by rfl) (by assumption) ?_ ?_
      rotate_left
      · (intro wS hSw; (try dsimp only at hSw); go_simp; try with_reducible rfl)
      try simp only [Act.put, List.setIfInBounds_toArray, List.set_cons_zero, List.set_cons_succ]
      refine uTake (i := 1) (some 20) (v := ?_) rfl rfl (by kernel_rfl) (by kernel_rfl) (by kernel_rfl) (by kernel_rfl) (fun _ _ _ h => h) (by rfl) (by assumption) ?_ ?_
      rotate_left
      · (intro wS hSw; (try dsimp only at hSw); go_simp; try with_reducible rfl)
      try simp only [Act.put, List.setIfInBounds_toArray, List.set_cons_zero, List.set_cons_succ]
      refine uTake (i := 2) (some 21) (v := ?_) rfl rfl (by kernel_rfl) (by kernel_rfl) (by kernel_rfl) (by kernel_rfl) (fun _ _ _ h => h) (by rfl) (by assumption) ?_ ?_
      rotate_left
      · (intro wS hSw; (try dsimp only at hSw); go_simp; try with_reducible rfl)
      try simp only [Act.put, List.setIfInBounds_toArray, List.set_cons_zero, List.set_cons_succ]
      refine uTake (i := 3) (some 22) (v := ?_) rfl rfl (by kernel_rfl) (by kernel_rfl) (by kernel_rfl) (by kernel_rfl) (fun _ _ _ h => h) (by rfl) (by assumption) ?_ ?_
      rotate_left
      · (intro wS hSw; (try dsimp only at hSw); go_simp; try with_reducible rfl)
      try simp only [Act.put, List.setIfInBounds_toArray, List.set_cons_zero, List.set_cons_succ]
      refine uTake (i := 4) (some 23) (v := ?_) rfl rfl (by kernel_rfl) (by kernel_rfl) (by kernel_rfl) (by kernel_rfl) (fun _ _ _ h => h) (by rfl) (by assumption) ?_ ?_
      rotate_left
      · (intro wS hSw; (try dsimp only at hSw); go_simp; try with_reducible rfl)
      try simp only [Act.put, List.setIfInBounds_toArray, List.set_cons_zero, List.set_cons_succ]
      refine uTake (i := 5) (some 24) (v := ?_) rfl rfl (by kernel_rfl) (by kernel_rfl) (by kernel_rfl) (by kernel_rfl) (fun _ _ _ h => h) (by rfl) (by assumption) ?_ ?_
      rotate_left
      · (intro wS hSw; (try dsimp only at hSw); go_simp; try with_reducible rfl)
      try simp only [Act.put, List.setIfInBounds_toArray, List.set_cons_zero, List.set_cons_succ]
      refine uTake (i := 6) (some 25) (v := ?_) rfl rfl (by kernel_rfl) (by kernel_rfl) (by kernel_rfl) (by kernel_rfl) (fun _ _ _ h => h) (by rfl) (by assumption) ?_ ?_
      rotate_left
      · (intro wS hSw; (try dsimp only at hSw); go_simp; try with_reducible rfl)
      try simp only [Act.put, List.setIfInBounds_toArray, List.set_cons_zero, List.set_cons_succ]
      refine uTake (i := 7) (some 26) (v := .bool true) rfl rfl (by kernel_rfl) (by kernel_rfl) (by kernel_rfl) (by kernel_rfl) (fun _ _ _ h => h) (by rfl) (by assumption) ?_ ?_
      · (intro wS hSw; (try dsimp only at hSw); go_simp; try simp [*])
      try simp only [Act.put, List.setIfInBounds_toArray, List.set_cons_zero, List.set_cons_succ]
      refine uTake (i := 8) (some 27) (v := ?_) rfl rfl (by kernel_rfl) (by kernel_rfl) (by kernel_rfl) (by kernel_rfl) (fun _ _ _ h => h) (by rfl) (by assumption) ?_ ?_
      rotate_left
      · (intro wS hSw; (try dsimp only at hSw); go_simp; try with_reducible rfl)
      try simp only [Act.put, List.setIfInBounds_toArray, List.set_cons_zero, List.set_cons_succ]
      refine uTake (i := 9) (some 28) (v := ?_) rfl rfl (by kernel_rfl) (by kernel_rfl) (by kernel_rfl) (by kernel_rfl) (fun _ _ _ h => h) (by rfl) (by assumption) ?_ ?_
      rotate_left
      · (intro wS hSw; (try dsimp only at hSw); go_simp; try with_reducible rfl)
      try simp only [Act.put, List.setIfInBounds_toArray, List.set_cons_zero, List.set_cons_succ]
      refine uTake (i := 10) (some 29) (v := ?_) rfl rfl (by kernel_rfl) (by kernel_rfl) (by kernel_rfl) (by kernel_rfl) (fun _ _ _ h => h) (by rfl) (by assumption) ?_ ?_
      rotate_left
      · (intro wS hSw; (try dsimp only at hSw); go_simp; try with_reducible rfl)
      try simp only [Act.put, List.setIfInBounds_toArray, List.set_cons_zero, List.set_cons_succ]
      refine uTake (i := 11) (some 30) (v := ?_) rfl rfl (by kernel_rfl) (by kernel_rfl) (by kernel_rfl) (by kernel_rfl) (fun _ _ _ h => h) (by rfl) (by assumption) ?_ ?_
      rotate_left
      · (intro wS hSw; (try dsimp only at hSw); go_simp; try with_reducible rfl)
      try simp only [Act.put, List.setIfInBounds_toArray, List.set_cons_zero, List.set_cons_succ]
      refine uTake (i := 12) (some 31) (v := ?_) rfl rfl (by kernel_rfl) (by kernel_rfl) (by kernel_rfl) (by kernel_rfl) (fun _ _ _ h => h) (by rfl) (by assumption) ?_ ?_
      rotate_left
      · (intro wS hSw; (try dsimp only at hSw); go_simp; try with_reducible rfl)
      try simp only [Act.put, List.setIfInBounds_toArray, List.set_cons_zero, List.set_cons_succ]
      refine uTake (i := 13) (some 32) (v := ?_) rfl rfl (by kernel_rfl) (by kernel_rfl) (by kernel_rfl) (by kernel_rfl) (fun _ _ _ h => h) (by rfl) (by assumption) ?_ ?_
      rotate_left
      · (intro wS hSw; (try dsimp only at hSw); go_simp; try with_reducible rfl)
      try simp only [Act.put, List.setIfInBounds_toArray, List.set_cons_zero, List.set_cons_succ]
      refine uDone (by kernel_rfl) ?_ _
      have HC : Hid (wcnt l pt (k + 1) = wcnt l pt k + 1) := Lib.hid (by simp only [wcnt, HB.out, if_true])
      have EZ := Lib.hid ((((((((E6.out.drop).forget).forget).forget).forget).forget).forget).forget)
      go_wp2
      go_roundg (l.L.length - (k + 1))
      case rel => exact ⟨k + 1, by first | (rw [HC.out]; done) | (rw [HC.out]; rfl), by rfl, EZ, Lib.hid ⟨by omega, rfl⟩⟩
      case measure => exact by omega
    have t6 : decide ((k : Int) < (l.L.length : Int)) = false := decide_eq_false (by omega)
    have t7 : decide (k < l.L.length) = false := decide_eq_false (by omega)
    have HY := Lib.hid hy
    clear hy
    have hfin := Lib.hid EL.out.bel
    go_wp2
    go_ret
    exact ⟨RI (by rw [HY.out]), hfin.out⟩
set_option maxRecDepth 100000 in
set_option maxHeartbeats 1000000 in
theorem Next_no {D : Nat → Prop} (l : Lin) {xa xb xc : Option Addr} {xj xk xm : Nat} {w : World} (h1 : Fct.at w D (.ms (.slice xa l.L.length xj) l.L)) (h2 : Fct.at w D (.rw (.slice xb l.ats.length xk) l.ats.length 1 (icl l.ats))) (h3 : Fct.at w D (.rw (.slice xc l.ft.length xm) l.ft.length 2 (fcl l.ft))) (hv0 : ¬ LinOk l) (hlen : l.ats.length ≤ 1000000) :
    Calls Try.prog 39 #[.agg #[.int .i64 l.nw, .slice xa l.L.length xj, .slice xb l.ats.length xk, .slice xc l.ft.length xm]] w fun e w' => e = .returned (.tuple #[.int .i64 0, .bool false]) ∧ Below w.heap.size w w' := by
  have E0 := Lib.hid ((((Env.start D w).arg (.ms (.slice xa l.L.length xj) l.L) h1).arg (.rw (.slice xb l.ats.length xk) l.ats.length 1 (icl l.ats)) h2).arg (.rw (.slice xc l.ft.length xm) l.ft.length 2 (fcl l.ft)) h3)
  clear h1 h2 h3
  go_enter Try.func39, Try.ntmps39
  have hv := Lib.hid hv0
  clear hv0
  go_wp2_with fail
  have E1 := Lib.hid ((E0.out.push 64 [.int .i64 l.nw, .slice xa l.L.length xj, .slice xb l.ats.length xk, .slice xc l.ft.length xm] (w.heap.size) (by simp)))
  refine (lValid_c l (E1.out.fc 2 rfl) (E1.out.fc 1 rfl) (E1.out.fc 0 rfl) (noOf hv.out) hlen).mono ?_
  rintro e w1 ⟨rfl, hb⟩
  have E2 := Lib.hid (E1.out.below hb)
  clear E0 E1 hb
  have hfin := Lib.hid E2.out.bel
  go_wp2
  go_ret2
  exact ⟨rfl, hfin.out⟩
set_option maxRecDepth 100000 in
set_option maxHeartbeats 1000000 in
theorem Next_ok {D : Nat → Prop} (l : Lin) {xa xb xc : Option Addr} {xj xk xm : Nat} {w : World} (h1 : Fct.at w D (.ms (.slice xa l.L.length xj) l.L)) (h2 : Fct.at w D (.rw (.slice xb l.ats.length xk) l.ats.length 1 (icl l.ats))) (h3 : Fct.at w D (.rw (.slice xc l.ft.length xm) l.ft.length 2 (fcl l.ft))) {t : Int} {b : Bool} (hn0 : NextIs l t b) (hv0 : LinOk l) :
    Calls Try.prog 39 #[.agg #[.int .i64 l.nw, .slice xa l.L.length xj, .slice xb l.ats.length xk, .slice xc l.ft.length xm]] w fun e w' => e = .returned (.tuple #[.int .i64 t, .bool b]) ∧ Below w.heap.size w w' := by
  have E0 := Lib.hid ((((Env.start D w).arg (.ms (.slice xa l.L.length xj) l.L) h1).arg (.rw (.slice xb l.ats.length xk) l.ats.length 1 (icl l.ats)) h2).arg (.rw (.slice xc l.ft.length xm) l.ft.length 2 (fcl l.ft)) h3)
  clear h1 h2 h3
  go_enter Try.func39, Try.ntmps39
  have hlen : l.L.length ≤ 1000 ∧ l.ats.length ≤ 1000 := by obtain ⟨⟨_, h1, h2, _⟩, _⟩ := hv0; omega
  have hv := Lib.hid hv0
  have hn := Lib.hid hn0
  clear hv0 hn0
  go_wp2_with fail
  have E1 := Lib.hid ((E0.out.push 64 [.int .i64 l.nw, .slice xa l.L.length xj, .slice xb l.ats.length xk, .slice xc l.ft.length xm] (w.heap.size) (by simp)))
  refine (lValid_c l (E1.out.fc 2 rfl) (E1.out.fc 1 rfl) (E1.out.fc 0 rfl) (okOf hv.out) (by omega)).mono ?_
  rintro e w1 ⟨rfl, hb⟩
  have E2 := Lib.hid (E1.out.below hb)
  clear E0 E1 hb
  have b1 := E2.out.bx 0 rfl
  have c1_2 := b1.cell 2 rfl
  clear b1
  go_wp2_with fail
  go_loopg [12] (l.ats.length) (fun gk s12 wr => ∃ (k : Nat), s12 = .int .i64 (k : Int) ∧ Hid (Env D w [(w.heap.size, 64, [.int .i64 l.nw, .slice xa l.L.length xj, .slice xb l.ats.length xk, .slice xc l.ft.length xm])] [.rw (.slice xc l.ft.length xm) l.ft.length 2 (fcl l.ft), .rw (.slice xb l.ats.length xk) l.ats.length 1 (icl l.ats), .ms (.slice xa l.L.length xj) l.L] wr) ∧ Hid ((k ≤ l.ats.length ∧ gk = l.ats.length - k) ∧ ∀ j (h : j < l.ats.length), j < k → l.ats[j] ≤ l.nw))
  case atStart => exact ⟨0, rfl, Lib.hid E2.out, Lib.hid ⟨⟨Nat.zero_le _, rfl⟩, fun j _ h => absurd h (Nat.not_lt_zero _)⟩⟩
  case round =>
    clear c1_2 E2
    obtain ⟨k, rfl, EL, HA⟩ := hrel
    obtain ⟨⟨a1, a2⟩, a3⟩ := HA.out
    have HS := Lib.hid a3
    clear a3 HA
    by_cases hy : k = l.ats.length
    rotate_left
    · have hk : k < l.ats.length := by omega
      have t6 : decide ((k : Int) < (l.ats.length : Int)) = true := decide_eq_true (by omega)
      have t7 : decide (k < l.ats.length) = true := decide_eq_true hk
      clear hy
      obtain ⟨xbb, xbo, rfl⟩ := Rw.addr (EL.out.fc 1 rfl) (by omega)
      have E3 := Lib.hid (EL.out.elI 1 rfl rfl (k) hk)
      clear EL
      have v0 := (E3.out.fc 0 rfl).2
      by_cases c1 : l.nw < l.ats[k]
      · have d1 : decide (l.nw < l.ats[k]) = true := decide_eq_true c1
        have HR := Lib.hid (hn.out.at hk c1 HS.out)
        clear c1
        have b2 := E3.out.bx 0 rfl
        have c2_0 := b2.cell 0 rfl
        clear b2
        have hfin := Lib.hid E3.out.bel
        go_wp2
        go_ret2
        exact ⟨RTB ⟨HR.out.1.symm, HR.out.2.symm⟩, hfin.out⟩
      · have d1 : decide (l.nw < l.ats[k]) = false := decide_eq_false c1
        have HB : Hid (l.ats[k] ≤ l.nw) := Lib.hid (by omega)
        clear c1
        have b2 := E3.out.bx 0 rfl
        have c2_0 := b2.cell 0 rfl
        clear b2
        have EZ := Lib.hid (E3.out.forget)
        go_wp2
        go_roundg (l.ats.length - (k + 1))
        case rel => exact ⟨k + 1, rfl, EZ, Lib.hid ⟨⟨by omega, rfl⟩, fun j h hj => by by_cases e : j = k; (· subst e; exact HB.out); exact HS.out j h (by omega)⟩⟩
        case measure => exact by omega
    have t6 : decide ((k : Int) < (l.ats.length : Int)) = false := decide_eq_false (by omega)
    have t7 : decide (k < l.ats.length) = false := decide_eq_false (by omega)
    have HR := Lib.hid (hn.out.no (fun j h => HS.out j h (by omega)))
    have HY := Lib.hid hy
    clear hy
    have hfin := Lib.hid EL.out.bel
    go_wp2
    go_ret2
    exact ⟨RTB ⟨HR.out.1.symm, HR.out.2.symm⟩, hfin.out⟩
end Go.Proofs.Ytbcfcdcomboljaa

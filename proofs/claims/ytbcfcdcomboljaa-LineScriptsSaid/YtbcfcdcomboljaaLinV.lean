/- line: when a line is valid: the program's answer. -/
import Derived.Test.YtbcfcdcomboljaaLinH
namespace Go.Proofs.Ytbcfcdcomboljaa
open Go.RowKit
set_option linter.unusedVariables false
set_option linter.unusedSimpArgs false
theorem RB {a b : Bool} (h : a = b) : Ending.returned (.bool a) = Ending.returned (.bool b) := by rw [h]
def Srt (l : List Int) : Prop := ∀ i (h : i + 1 < l.length), l[i] ≤ l[i + 1]
theorem isNaN_l (a : Int) (w : World) : Calls Try.prog 84 #[.int .i64 a] w fun e w' => e = .returned (.bool false) ∧ w' = w := by
  go_enter Try.func84, Try.ntmps84
  go_wp2
  go_ret
  exact ⟨rfl, rfl⟩
theorem less_b (a b : Int) (w : World) : Calls Try.prog 88 #[.int .i64 a, .int .i64 b] w fun e w' => e = .returned (.bool (decide (a < b))) ∧ Below w.heap.size w w' := by
  go_enter Try.func88, Try.ntmps88
  go_wp2_with (go_at_call 84; refine (isNaN_l _ _).mono ?_; rintro e w' ⟨rfl, rfl⟩)
  all_goals go_ret
  all_goals refine ⟨?_, Below.refl _ _⟩
  all_goals simp_all
theorem less_v {a b : Int} {t : Bool} (ht : decide (a < b) = t) (w : World) : Calls Try.prog 88 #[.int .i64 a, .int .i64 b] w fun e w' => e = .returned (.bool t) ∧ Below w.heap.size w w' := by
  subst ht; exact less_b a b w
theorem within_v {n m : Int} {t : Bool} (ht : wth n m = t) (w : World) : Calls Try.prog 70 #[.int .i64 n, .int .i64 m] w fun e w' => e = .returned (.bool t) ∧ Below w.heap.size w w' := by
  subst ht; exact (within_c n m w).mono fun e w' ⟨h, hw⟩ => ⟨h, hw ▸ Below.refl _ _⟩
theorem lmessage_v (M : Msg) {t : Bool} (ht : msgOk M = t) (ao : Option Addr) (cap : Nat) (w : World) : Calls Try.prog 60 #[mval M (.slice ao M.body.length cap)] w fun e w' => e = .returned (.bool t) ∧ Below w.heap.size w w' := by
  subst ht; exact lmessage_c M ao cap w
theorem fate_v {c d : Int} {t : Bool} (ht : fateOk c d = t) (w : World) : Calls Try.prog 72 #[.agg #[.int .i64 c, .int .i64 d]] w fun e w' => e = .returned (.bool t) ∧ Below w.heap.size w w' := by
  subst ht; exact fate_c c d w
set_option maxRecDepth 100000 in
set_option maxHeartbeats 1000000 in
theorem sorted_n {D : Nat → Prop} {xa : Option Addr} {xk : Nat} {w : World}   :
    Calls Try.prog 71 #[.slice xa 0 xk] w fun e w' => e = .returned (.bool true) ∧ Below w.heap.size w w' := by
  have E0 := Lib.hid (Env.start D w)
  go_enter Try.func71, Try.ntmps71
  go_wp2_with fail
  refine wp_loop_rounds 1 ?_
  rw [rounds_succ]
  have hfin := Lib.hid E0.out.bel
  go_wp2
  go_ret
  exact ⟨rfl, hfin.out⟩
set_option maxRecDepth 100000 in
set_option maxHeartbeats 1000000 in
theorem sorted_s {D : Nat → Prop} (l : List Int) {xb xo xk : Nat} {w : World} (hx : Fct.at w D (.rw (.slice (some ⟨xb, xo, none⟩) l.length xk) l.length 1 (icl l))) {t : Bool} (ht0 : Srt l ↔ t = true) (hn0 : 0 < l.length ∧ l.length ≤ 1000000) :
    Calls Try.prog 71 #[.slice (some ⟨xb, xo, none⟩) l.length xk] w fun e w' => e = .returned (.bool t) ∧ Below w.heap.size w w' := by
  have E0 := Lib.hid ((Env.start D w).arg (.rw (.slice (some ⟨xb, xo, none⟩) l.length xk) l.length 1 (icl l)) hx)
  clear hx
  go_enter Try.func71, Try.ntmps71
  have ht := Lib.hid ht0
  clear ht0
  have hn := hn0.1
  have hm := hn0.2
  clear hn0
  obtain ⟨m, em⟩ : ∃ m, Hid (l.length = m + 1) := ⟨l.length - 1, Lib.hid (by omega)⟩
  have e1 : (l.length : Int) - 1 = (m : Int) := by have := em.out; omega
  have e2 : IntKind.i64.wrap ((l.length : Int) - 1) = (m : Int) := by rw [IntKind.wrap_i64]; have := em.out; omega
  go_wp2_with fail
  go_loopg [3] (m) (fun gk s3 wr => ∃ (k : Nat), s3 = .int .i64 (k : Int) ∧ Hid (Env D w [] [.rw (.slice (some ⟨xb, xo, none⟩) l.length xk) l.length 1 (icl l)] wr) ∧ Hid ((k ≤ m ∧ gk = k) ∧ ∀ i (h : i + 1 < l.length), k ≤ i → l[i] ≤ l[i + 1]))
  case atStart => exact ⟨m, rfl, Lib.hid E0.out, Lib.hid ⟨⟨Nat.le_refl _, rfl⟩, fun i h hi => by have := em.out; omega⟩⟩
  case round =>
    clear E0
    obtain ⟨k, rfl, EL, HA⟩ := hrel
    obtain ⟨⟨a1, a2⟩, a3⟩ := HA.out
    have HS := Lib.hid a3
    clear a3 HA
    by_cases h0 : k = 0
    · have t1 : decide ((0 : Int) < (k : Int)) = false := decide_eq_false (by omega)
      have t2 : decide (0 < k) = false := decide_eq_false (by omega)
      have HT : Hid (t = true) := Lib.hid (ht.out.1 fun i h => HS.out i h (by omega))
      clear h0
      have hfin := Lib.hid EL.out.bel
      go_wp2
      go_ret
      exact ⟨RB HT.out.symm, hfin.out⟩
    · have t1 : decide ((0 : Int) < (k : Int)) = true := decide_eq_true (by omega)
      have t2 : decide (0 < k) = true := decide_eq_true (by omega)
      obtain ⟨j, HJ⟩ : ∃ j, Hid (k = j + 1) := ⟨k - 1, Lib.hid (by omega)⟩
      have hkl : k < l.length := by have := em.out; omega
      have hjl : j < l.length := by have := HJ.out; omega
      have hj1 : j + 1 < l.length := by have := HJ.out; omega
      have ej : ((k : Int) - 1) = (j : Int) := by have := HJ.out; omega
      have ew : IntKind.i64.wrap ((k : Int) - 1) = (j : Int) := by rw [IntKind.wrap_i64]; have := HJ.out; omega
      have ex : IntKind.i64.wrap (j : Int) = (j : Int) := by rw [IntKind.wrap_i64]; omega
      have HKK : Hid (l[k] = l[j + 1]) := Lib.hid (by have := HJ.out; simp only [this])
      have E1 := Lib.hid (EL.out.elI 0 rfl rfl (k) hkl)
      clear EL
      have u0 := (E1.out.fc 0 rfl).2
      have E2 := Lib.hid (E1.out.elI 1 rfl rfl (j) hjl)
      clear E1
      have v0 := (E2.out.fc 0 rfl).2
      clear h0
      by_cases hb : l[k] < l[j]
      · have HB : Hid (decide (l[k] < l[j]) = true) := Lib.hid (decide_eq_true hb)
        have HT : Hid (t = false) := Lib.hid (by cases t with | false => rfl | true => exact absurd (ht.out.2 rfl j hj1) (by rw [← HKK.out]; omega))
        clear hb
        go_wp2_with fail
        have E3 : Hid (Env D w [] [.ce xb (xo + j) (.int .i64 l[j]), .ce xb (xo + k) (.int .i64 l[k]), .rw (.slice (some ⟨xb, xo, none⟩) l.length xk) l.length 1 (icl l)] (wr.drew)) := Lib.hid E2.out.drew
        clear u0 v0 E2
        refine wp_regionU (S := fun w' => w'.cell? ⟨xb, xo + k, none⟩ = some (.int .i64 l[k]) ∧ w'.cell? ⟨xb, xo + j, none⟩ = some (.int .i64 l[j])) [] (by kernel_rfl) (⟨(E3.out.fc 1 rfl).2, (E3.out.fc 0 rfl).2⟩) (fun hHeld => ?_)
        generalize wr.drew = w1 at *
        refine uTake (i := 0) (some 11) (v := ?_) rfl rfl (by kernel_rfl) (by kernel_rfl) (by kernel_rfl) (by kernel_rfl) (fun _ _ _ h => h) (by rfl) (by assumption) ?_ ?_
        rotate_left
        · (intro wS hSw; (try dsimp only at hSw); go_simp; try with_reducible rfl)
        try simp only [Act.put, List.setIfInBounds_toArray, List.set_cons_zero, List.set_cons_succ]
        refine uTake (i := 1) (some 12) (v := ?_) rfl rfl (by kernel_rfl) (by kernel_rfl) (by kernel_rfl) (by kernel_rfl) (fun _ _ _ h => h) (by rfl) (by assumption) ?_ ?_
        rotate_left
        · (intro wS hSw; (try dsimp only at hSw); go_simp; try with_reducible rfl)
        try simp only [Act.put, List.setIfInBounds_toArray, List.set_cons_zero, List.set_cons_succ]
        refine uTake (i := 2) (some 13) (v := ?_) rfl rfl (by kernel_rfl) (by kernel_rfl) (by kernel_rfl) (by kernel_rfl) (fun _ _ _ h => h) (by rfl) (by assumption) ?_ ?_
        rotate_left
        · (intro wS hSw; (try dsimp only at hSw); go_simp; try with_reducible rfl)
        try simp only [Act.put, List.setIfInBounds_toArray, List.set_cons_zero, List.set_cons_succ]
        refine uTake (i := 3) (some 14) (v := ?_) rfl rfl (by kernel_rfl) (by kernel_rfl) (by kernel_rfl) (by kernel_rfl) (fun _ _ _ h => h) (by rfl) (by assumption) ?_ ?_
        rotate_left
        · (intro wS hSw; (try dsimp only at hSw); go_simp; try with_reducible rfl)
        try simp only [Act.put, List.setIfInBounds_toArray, List.set_cons_zero, List.set_cons_succ]
        refine uTake (i := 4) (some 15) (v := ?_) rfl rfl (by kernel_rfl) (by kernel_rfl) (by kernel_rfl) (by kernel_rfl) (fun _ _ _ h => h) (by rfl) (by assumption) ?_ ?_
        rotate_left
        · (intro wS hSw; (try dsimp only at hSw); go_simp; try with_reducible rfl)
        try simp only [Act.put, List.setIfInBounds_toArray, List.set_cons_zero, List.set_cons_succ]
        refine uTake (i := 5) (some 16) (v := ?_) rfl rfl (by kernel_rfl) (by kernel_rfl) (by kernel_rfl) (by kernel_rfl) (fun _ _ _ h => h) (by rfl) (by assumption) ?_ ?_
        rotate_left
        · (intro wS hSw; (try dsimp only at hSw); go_simp; try with_reducible rfl)
        try simp only [Act.put, List.setIfInBounds_toArray, List.set_cons_zero, List.set_cons_succ]
        refine uTake (i := 6) (some 17) (v := ?_) rfl rfl (by kernel_rfl) (by kernel_rfl) (by kernel_rfl) (by kernel_rfl) (fun _ _ _ h => h) (by rfl) (by assumption) ?_ ?_
        rotate_left
        · (intro wS hSw; (try dsimp only at hSw); go_simp; try with_reducible rfl)
        try simp only [Act.put, List.setIfInBounds_toArray, List.set_cons_zero, List.set_cons_succ]
        refine uTake (i := 7) (some 18) (v := ?_) rfl rfl (by kernel_rfl) (by kernel_rfl) (by kernel_rfl) (by kernel_rfl) (fun _ _ _ h => h) (by rfl) (by assumption) ?_ ?_
        rotate_left
        · (intro wS hSw; (try dsimp only at hSw); go_simp; try with_reducible rfl)
        try simp only [Act.put, List.setIfInBounds_toArray, List.set_cons_zero, List.set_cons_succ]
        refine uTake (i := 8) (some 19) (v := ?_) rfl rfl (by kernel_rfl) (by kernel_rfl) (by kernel_rfl) (by kernel_rfl) (fun _ _ _ h => h) (by rfl) (by assumption) ?_ ?_
        rotate_left
        · (intro wS hSw; (try dsimp only at hSw); go_simp; try with_reducible rfl)
        try simp only [Act.put, List.setIfInBounds_toArray, List.set_cons_zero, List.set_cons_succ]
        refine uReady (rs := [9]) (by kernel_rfl) (by simp) ?_
        refine ReadyU.cons rfl (fun KK hKK => ?_) ReadyU.nil
        go_simp
        refine (less_v HB.out _).mono ?_
        rintro e w2 ⟨rfl, hb⟩
        have E4 := Lib.hid (E3.out.below hb)
        clear E3 hb
        (try dsimp only)
        clear hHeld
        refine hKK.out _ _ (⟨(E4.out.fc 1 rfl).2, (E4.out.fc 0 rfl).2⟩) (fun hHeld => ?_)
        clear hKK KK
        try simp only [Act.put, List.setIfInBounds_toArray, List.set_cons_zero, List.set_cons_succ]
        refine uDone (by kernel_rfl) ?_ _
        have hfin := Lib.hid E4.out.bel
        go_wp2
        go_ret
        exact ⟨RB HT.out.symm, hfin.out⟩
      · have HB : Hid (decide (l[k] < l[j]) = false) := Lib.hid (decide_eq_false hb)
        have HN : Hid (l[j] ≤ l[j + 1]) := Lib.hid (by rw [← HKK.out]; omega)
        clear hb
        go_wp2_with fail
        have E3 : Hid (Env D w [] [.ce xb (xo + j) (.int .i64 l[j]), .ce xb (xo + k) (.int .i64 l[k]), .rw (.slice (some ⟨xb, xo, none⟩) l.length xk) l.length 1 (icl l)] (wr.drew)) := Lib.hid E2.out.drew
        clear u0 v0 E2
        refine wp_regionU (S := fun w' => w'.cell? ⟨xb, xo + k, none⟩ = some (.int .i64 l[k]) ∧ w'.cell? ⟨xb, xo + j, none⟩ = some (.int .i64 l[j])) [] (by kernel_rfl) (⟨(E3.out.fc 1 rfl).2, (E3.out.fc 0 rfl).2⟩) (fun hHeld => ?_)
        generalize wr.drew = w1 at *
        refine uTake (i := 0) (some 11) (v := ?_) rfl rfl (by kernel_rfl) (by kernel_rfl) (by kernel_rfl) (by kernel_rfl) (fun _ _ _ h => h) (by rfl) (by assumption) ?_ ?_
        rotate_left
        · (intro wS hSw; (try dsimp only at hSw); go_simp; try with_reducible rfl)
        try simp only [Act.put, List.setIfInBounds_toArray, List.set_cons_zero, List.set_cons_succ]
        refine uTake (i := 1) (some 12) (v := ?_) rfl rfl (by kernel_rfl) (by kernel_rfl) (by kernel_rfl) (by kernel_rfl) (fun _ _ _ h => h) (by rfl) (by assumption) ?_ ?_
        rotate_left
        · (intro wS hSw; (try dsimp only at hSw); go_simp; try with_reducible rfl)
        try simp only [Act.put, List.setIfInBounds_toArray, List.set_cons_zero, List.set_cons_succ]
        refine uTake (i := 2) (some 13) (v := ?_) rfl rfl (by kernel_rfl) (by kernel_rfl) (by kernel_rfl) (by kernel_rfl) (fun _ _ _ h => h) (by rfl) (by assumption) ?_ ?_
        rotate_left
        · (intro wS hSw; (try dsimp only at hSw); go_simp; try with_reducible rfl)
        try simp only [Act.put, List.setIfInBounds_toArray, List.set_cons_zero, List.set_cons_succ]
        refine uTake (i := 3) (some 14) (v := ?_) rfl rfl (by kernel_rfl) (by kernel_rfl) (by kernel_rfl) (by kernel_rfl) (fun _ _ _ h => h) (by rfl) (by assumption) ?_ ?_
        rotate_left
        · (intro wS hSw; (try dsimp only at hSw); go_simp; try with_reducible rfl)
        try simp only [Act.put, List.setIfInBounds_toArray, List.set_cons_zero, List.set_cons_succ]
        refine uTake (i := 4) (some 15) (v := ?_) rfl rfl (by kernel_rfl) (by kernel_rfl) (by kernel_rfl) (by kernel_rfl) (fun _ _ _ h => h) (by rfl) (by assumption) ?_ ?_
        rotate_left
        · (intro wS hSw; (try dsimp only at hSw); go_simp; try with_reducible rfl)
        try simp only [Act.put, List.setIfInBounds_toArray, List.set_cons_zero, List.set_cons_succ]
        refine uTake (i := 5) (some 16) (v := ?_) rfl rfl (by kernel_rfl) (by kernel_rfl) (by kernel_rfl) (by kernel_rfl) (fun _ _ _ h => h) (by rfl) (by assumption) ?_ ?_
        rotate_left
        · (intro wS hSw; (try dsimp only at hSw); go_simp; try with_reducible rfl)
        try simp only [Act.put, List.setIfInBounds_toArray, List.set_cons_zero, List.set_cons_succ]
        refine uTake (i := 6) (some 17) (v := ?_) rfl rfl (by kernel_rfl) (by kernel_rfl) (by kernel_rfl) (by kernel_rfl) (fun _ _ _ h => h) (by rfl) (by assumption) ?_ ?_
        rotate_left
        · (intro wS hSw; (try dsimp only at hSw); go_simp; try with_reducible rfl)
        try simp only [Act.put, List.setIfInBounds_toArray, List.set_cons_zero, List.set_cons_succ]
        refine uTake (i := 7) (some 18) (v := ?_) rfl rfl (by kernel_rfl) (by kernel_rfl) (by kernel_rfl) (by kernel_rfl) (fun _ _ _ h => h) (by rfl) (by assumption) ?_ ?_
        rotate_left
        · (intro wS hSw; (try dsimp only at hSw); go_simp; try with_reducible rfl)
        try simp only [Act.put, List.setIfInBounds_toArray, List.set_cons_zero, List.set_cons_succ]
        refine uTake (i := 8) (some 19) (v := ?_) rfl rfl (by kernel_rfl) (by kernel_rfl) (by kernel_rfl) (by kernel_rfl) (fun _ _ _ h => h) (by rfl) (by assumption) ?_ ?_
        rotate_left
        · (intro wS hSw; (try dsimp only at hSw); go_simp; try with_reducible rfl)
        try simp only [Act.put, List.setIfInBounds_toArray, List.set_cons_zero, List.set_cons_succ]
        refine uReady (rs := [9]) (by kernel_rfl) (by simp) ?_
        refine ReadyU.cons rfl (fun KK hKK => ?_) ReadyU.nil
        go_simp
        refine (less_v HB.out _).mono ?_
        rintro e w2 ⟨rfl, hb⟩
        have E4 := Lib.hid (E3.out.below hb)
        clear E3 hb
        (try dsimp only)
        clear hHeld
        refine hKK.out _ _ (⟨(E4.out.fc 1 rfl).2, (E4.out.fc 0 rfl).2⟩) (fun hHeld => ?_)
        clear hKK KK
        try simp only [Act.put, List.setIfInBounds_toArray, List.set_cons_zero, List.set_cons_succ]
        refine uDone (by kernel_rfl) ?_ _
        have EZ := Lib.hid ((E4.out.forget).forget)
        go_wp2
        go_roundg (j)
        case rel => exact ⟨j, rfl, EZ, Lib.hid ⟨⟨by have := HJ.out; omega, rfl⟩, fun i h hi => by by_cases e : i = j; (· subst e; exact HN.out); exact HS.out i h (by have := HJ.out; omega)⟩⟩
        case measure => exact by have := HJ.out; omega
theorem sorted_c {D : Nat → Prop} {l : List Int} {xa : Option Addr} {xk : Nat} {t : Bool} (ht : Srt l ↔ t = true) (hm : l.length ≤ 1000000) {w : World} (hx : Fct.at w D (.rw (.slice xa l.length xk) l.length 1 (icl l))) :
    Calls Try.prog 71 #[.slice xa l.length xk] w fun e w' => e = .returned (.bool t) ∧ Below w.heap.size w w' := by
  by_cases h0 : l.length = 0
  · obtain rfl : l = [] := List.length_eq_zero_iff.1 h0
    have : t = true := ht.1 (fun i h => by simp at h)
    subst this; exact sorted_n (D := D)
  · obtain ⟨b, o, rfl⟩ := Rw.addr hx h0
    exact sorted_s l hx ht ⟨by omega, hm⟩
/-- a line is valid -/
def LinHd (l : Lin) : Prop := wth l.nw 1099511627776 = true ∧ l.L.length = l.ats.length ∧ l.L.length ≤ 1000 ∧ l.ft.length ≤ 1000
def LinMs (l : Lin) : Prop := ∀ k (h : k < l.L.length) (h' : k < l.ats.length), msgOk l.L[k] = true ∧ wth l.ats[k] 1099512627776 = true
def FatsOk (ft : List (Int × Int)) : Prop := ∀ k (h : k < ft.length), fateOk ft[k].1 ft[k].2 = true
def LinOk (l : Lin) : Prop := LinHd l ∧ Srt l.ats ∧ LinMs l ∧ FatsOk l.ft
set_option maxRecDepth 100000 in
set_option maxHeartbeats 1000000 in
theorem lValid_c {D : Nat → Prop} (l : Lin) {xa xb xc : Option Addr} {xj xk xm : Nat} {w : World} (h1 : Fct.at w D (.ms (.slice xa l.L.length xj) l.L)) (h2 : Fct.at w D (.rw (.slice xb l.ats.length xk) l.ats.length 1 (icl l.ats))) (h3 : Fct.at w D (.rw (.slice xc l.ft.length xm) l.ft.length 2 (fcl l.ft))) {t : Bool} (ht0 : LinOk l ↔ t = true) (hb0 : l.ats.length ≤ 1000000) :
    Calls Try.prog 38 #[.agg #[.int .i64 l.nw, .slice xa l.L.length xj, .slice xb l.ats.length xk, .slice xc l.ft.length xm]] w fun e w' => e = .returned (.bool t) ∧ Below w.heap.size w w' := by
  have E0 := Lib.hid ((((Env.start D w).arg (.ms (.slice xa l.L.length xj) l.L) h1).arg (.rw (.slice xb l.ats.length xk) l.ats.length 1 (icl l.ats)) h2).arg (.rw (.slice xc l.ft.length xm) l.ft.length 2 (fcl l.ft)) h3)
  clear h1 h2 h3
  go_enter Try.func38, Try.ntmps38
  have ht := Lib.hid ht0
  have hbig := hb0
  clear ht0 hb0
  cases h1 : wth l.nw 1099511627776
  · have HF : Hid (t = false) := Lib.hid (by cases t with | false => rfl | true => exact absurd (ht.out.2 rfl) (by intro hh; have := hh.1.1; rw [h1] at this; cases this))
    go_wp2_with fail
    have E1 := Lib.hid ((E0.out.push 64 [.int .i64 l.nw, .slice xa l.L.length xj, .slice xb l.ats.length xk, .slice xc l.ft.length xm] (w.heap.size) (by simp)))
    refine (within_v h1 _).mono ?_
    rintro e w1 ⟨rfl, hb⟩
    have E2 := Lib.hid (E1.out.below hb)
    clear E0 E1 hb
    have b1 := E2.out.bx 0 rfl
    have c1_1 := b1.cell 1 rfl
    clear b1
    have b2 := E2.out.bx 0 rfl
    have c2_2 := b2.cell 2 rfl
    clear b2
    have b3 := E2.out.bx 0 rfl
    have c3_3 := b3.cell 3 rfl
    clear b3
    have hfin := Lib.hid E2.out.bel
    go_wp2
    go_ret
    exact ⟨RB HF.out.symm, hfin.out⟩
  · skip
    have H1 := Lib.hid h1
    clear h1
    by_cases h2 : l.L.length = l.ats.length
    rotate_left
    · have HF : Hid (t = false) := Lib.hid (by cases t with | false => rfl | true => exact absurd (ht.out.2 rfl) (by intro hh; exact h2 hh.1.2.1))
      have t2 : (l.L.length != l.ats.length) = true := by simpa using h2
      have t3 : ((l.L.length : Int) != (l.ats.length : Int)) = true := by simp only [bne_iff_ne, ne_eq]; omega
      clear h2
      go_wp2_with fail
      have E1 := Lib.hid ((E0.out.push 64 [.int .i64 l.nw, .slice xa l.L.length xj, .slice xb l.ats.length xk, .slice xc l.ft.length xm] (w.heap.size) (by simp)))
      refine (within_v H1.out _).mono ?_
      rintro e w1 ⟨rfl, hb⟩
      have E2 := Lib.hid (E1.out.below hb)
      clear E0 E1 hb
      have b1 := E2.out.bx 0 rfl
      have c1_1 := b1.cell 1 rfl
      clear b1
      have b2 := E2.out.bx 0 rfl
      have c2_2 := b2.cell 2 rfl
      clear b2
      have b3 := E2.out.bx 0 rfl
      have c3_3 := b3.cell 3 rfl
      clear b3
      have hfin := Lib.hid E2.out.bel
      go_wp2
      go_ret
      exact ⟨RB HF.out.symm, hfin.out⟩
    have t2 : (l.L.length != l.ats.length) = false := by simpa using h2
    have t3 : ((l.L.length : Int) != (l.ats.length : Int)) = false := by simp only [bne_eq_false_iff_eq]; omega
    have H2 := Lib.hid h2
    clear h2
    by_cases h3 : l.L.length ≤ 1000
    rotate_left
    · have HF : Hid (t = false) := Lib.hid (by cases t with | false => rfl | true => exact absurd (ht.out.2 rfl) (by intro hh; exact h3 hh.1.2.2.1))
      have t4 : decide ((1000 : Int) < (l.L.length : Int)) = true := decide_eq_true (by omega)
      go_wp2_with fail
      have E1 := Lib.hid ((E0.out.push 64 [.int .i64 l.nw, .slice xa l.L.length xj, .slice xb l.ats.length xk, .slice xc l.ft.length xm] (w.heap.size) (by simp)))
      refine (within_v H1.out _).mono ?_
      rintro e w1 ⟨rfl, hb⟩
      have E2 := Lib.hid (E1.out.below hb)
      clear E0 E1 hb
      have b1 := E2.out.bx 0 rfl
      have c1_1 := b1.cell 1 rfl
      clear b1
      have b2 := E2.out.bx 0 rfl
      have c2_2 := b2.cell 2 rfl
      clear b2
      have b3 := E2.out.bx 0 rfl
      have c3_3 := b3.cell 3 rfl
      clear b3
      have hfin := Lib.hid E2.out.bel
      go_wp2
      go_ret
      exact ⟨RB HF.out.symm, hfin.out⟩
    have t4 : decide ((1000 : Int) < (l.L.length : Int)) = false := decide_eq_false (by omega)
    by_cases h4 : l.ft.length ≤ 1000
    rotate_left
    · have HF : Hid (t = false) := Lib.hid (by cases t with | false => rfl | true => exact absurd (ht.out.2 rfl) (by intro hh; exact h4 hh.1.2.2.2))
      have t5 : decide ((1000 : Int) < (l.ft.length : Int)) = true := decide_eq_true (by omega)
      go_wp2_with fail
      have E1 := Lib.hid ((E0.out.push 64 [.int .i64 l.nw, .slice xa l.L.length xj, .slice xb l.ats.length xk, .slice xc l.ft.length xm] (w.heap.size) (by simp)))
      refine (within_v H1.out _).mono ?_
      rintro e w1 ⟨rfl, hb⟩
      have E2 := Lib.hid (E1.out.below hb)
      clear E0 E1 hb
      have b1 := E2.out.bx 0 rfl
      have c1_1 := b1.cell 1 rfl
      clear b1
      have b2 := E2.out.bx 0 rfl
      have c2_2 := b2.cell 2 rfl
      clear b2
      have b3 := E2.out.bx 0 rfl
      have c3_3 := b3.cell 3 rfl
      clear b3
      have hfin := Lib.hid E2.out.bel
      go_wp2
      go_ret
      exact ⟨RB HF.out.symm, hfin.out⟩
    have t5 : decide ((1000 : Int) < (l.ft.length : Int)) = false := decide_eq_false (by omega)
    by_cases h5 : Srt l.ats
    rotate_left
    · have HF : Hid (t = false) := Lib.hid (by cases t with | false => rfl | true => exact absurd (ht.out.2 rfl) (by intro hh; exact h5 hh.2.1))
      go_wp2_with fail
      have E1 := Lib.hid ((E0.out.push 64 [.int .i64 l.nw, .slice xa l.L.length xj, .slice xb l.ats.length xk, .slice xc l.ft.length xm] (w.heap.size) (by simp)))
      refine (within_v H1.out _).mono ?_
      rintro e w1 ⟨rfl, hb⟩
      have E2 := Lib.hid (E1.out.below hb)
      clear E0 E1 hb
      have b1 := E2.out.bx 0 rfl
      have c1_1 := b1.cell 1 rfl
      clear b1
      have b2 := E2.out.bx 0 rfl
      have c2_2 := b2.cell 2 rfl
      clear b2
      have b3 := E2.out.bx 0 rfl
      have c3_3 := b3.cell 3 rfl
      clear b3
      go_wp2_with fail
      refine (sorted_c (t := false) (by simp [h5]) (by omega) (E2.out.fc 1 rfl)).mono ?_
      rintro e w2 ⟨rfl, hb⟩
      have E3 := Lib.hid (E2.out.below hb)
      clear c1_1 c2_2 c3_3 E2 hb
      have hfin := Lib.hid E3.out.bel
      go_wp2
      go_ret
      exact ⟨RB HF.out.symm, hfin.out⟩
    have H5 := Lib.hid h5
    clear h5
    go_wp2_with fail
    have E1 := Lib.hid ((E0.out.push 64 [.int .i64 l.nw, .slice xa l.L.length xj, .slice xb l.ats.length xk, .slice xc l.ft.length xm] (w.heap.size) (by simp)))
    refine (within_v H1.out _).mono ?_
    rintro e w1 ⟨rfl, hb⟩
    have E2 := Lib.hid (E1.out.below hb)
    clear E0 E1 hb
    have b1 := E2.out.bx 0 rfl
    have c1_1 := b1.cell 1 rfl
    clear b1
    have b2 := E2.out.bx 0 rfl
    have c2_2 := b2.cell 2 rfl
    clear b2
    have b3 := E2.out.bx 0 rfl
    have c3_3 := b3.cell 3 rfl
    clear b3
    go_wp2_with fail
    refine (sorted_c (t := true) (by simp [H5.out]) (by omega) (E2.out.fc 1 rfl)).mono ?_
    rintro e w2 ⟨rfl, hb⟩
    have E3 := Lib.hid (E2.out.below hb)
    clear c1_1 c2_2 c3_3 E2 hb
    have b4 := E3.out.bx 0 rfl
    have c4_1 := b4.cell 1 rfl
    clear b4
    go_wp2_with fail
    go_loopg [41] (l.L.length) (fun gk s41 wr => ∃ (k : Nat), s41 = .int .i64 (k : Int) ∧ Hid (Env D w [(w.heap.size, 64, [.int .i64 l.nw, .slice xa l.L.length xj, .slice xb l.ats.length xk, .slice xc l.ft.length xm])] [.rw (.slice xc l.ft.length xm) l.ft.length 2 (fcl l.ft), .rw (.slice xb l.ats.length xk) l.ats.length 1 (icl l.ats), .ms (.slice xa l.L.length xj) l.L] wr) ∧ Hid ((k ≤ l.L.length ∧ gk = l.L.length - k) ∧ ∀ i (h : i < l.L.length) (h' : i < l.ats.length), i < k → msgOk l.L[i] = true ∧ wth l.ats[i] 1099512627776 = true))
    case atStart => exact ⟨0, rfl, Lib.hid E3.out, Lib.hid ⟨⟨Nat.zero_le _, rfl⟩, fun i _ _ h => absurd h (Nat.not_lt_zero _)⟩⟩
    case round =>
      clear c4_1 E3
      obtain ⟨k, rfl, EL, HA⟩ := hrel
      obtain ⟨⟨a1, a2⟩, a3⟩ := HA.out
      have HS := Lib.hid a3
      clear a3 HA
      by_cases hy : k = l.L.length
      rotate_left
      · have hk : k < l.L.length := by omega
        have t6 : decide ((k : Int) < (l.L.length : Int)) = true := decide_eq_true (by omega)
        have t7 : decide (k < l.L.length) = true := decide_eq_true hk
        have hk2 : k < l.ats.length := by have := H2.out; omega
        clear hy
        obtain ⟨xab, xao, rfl⟩ := Ms.addr (EL.out.fc 2 rfl) hk
        obtain ⟨ua, uk, E40⟩ := EL.out.els 2 rfl (k) hk
        have E4 : Hid (Env D w [(w.heap.size, 64, [.int .i64 l.nw, .slice (some ⟨xab, xao, none⟩) l.L.length xj, .slice xb l.ats.length xk, .slice xc l.ft.length xm])] [.ce xab (xao + k * 5) (.int .i64 l.L[k].fr), .ce xab (xao + k * 5 + 1) (.int .i64 l.L[k].to_), .ce xab (xao + k * 5 + 2) (.int .i64 l.L[k].kd), .ce xab (xao + k * 5 + 3) (.int .i64 l.L[k].nm), .ce xab (xao + k * 5 + 4) (.slice ua l.L[k].body.length uk), .bs (.slice ua l.L[k].body.length uk) l.L[k].body, .rw (.slice xc l.ft.length xm) l.ft.length 2 (fcl l.ft), .rw (.slice xb l.ats.length xk) l.ats.length 1 (icl l.ats), .ms (.slice (some ⟨xab, xao, none⟩) l.L.length xj) l.L] _) := Lib.hid E40
        clear E40 EL
        have u0 := (E4.out.fc 0 rfl).2
        have u1 := (E4.out.fc 1 rfl).2
        have u2 := (E4.out.fc 2 rfl).2
        have u3 := (E4.out.fc 3 rfl).2
        have u4 := (E4.out.fc 4 rfl).2
        obtain ⟨xbb, xbo, rfl⟩ := Rw.addr (E4.out.fc 7 rfl) (by omega)
        have E5 := Lib.hid (E4.out.elI 7 rfl rfl (k) hk2)
        clear E4
        have v0 := (E5.out.fc 0 rfl).2
        have z5 := (E5.out.fc 1 rfl).2
        have z6 := (E5.out.fc 2 rfl).2
        have z7 := (E5.out.fc 3 rfl).2
        have z8 := (E5.out.fc 4 rfl).2
        have z9 := (E5.out.fc 5 rfl).2
        cases hm : msgOk l.L[k]
        · have hmm := Lib.hid hm
          have HF : Hid (t = false) := Lib.hid (by cases t with | false => rfl | true => exact absurd (ht.out.2 rfl) (by intro hh; have := (hh.2.2.1 k hk hk2).1; rw [hm] at this; cases this))
          clear hm
          go_wp2_with fail
          have E6 := Lib.hid ((E5.out.push 24 [.int .i64 l.L[k].fr, .int .i64 l.L[k].to_, .int .i64 l.L[k].kd, .int .i64 l.L[k].nm, .slice ua l.L[k].body.length uk] (wr.heap.size) (by simp)))
          refine (lmessage_v l.L[k] hmm.out _ _ _).mono ?_
          rintro e w3 ⟨rfl, hb⟩
          have E7 := Lib.hid (E6.out.below hb)
          clear u0 u1 u2 u3 u4 v0 z5 z6 z7 z8 z9 E5 E6 hb
          have b10 := E7.out.bx 1 rfl
          have c10_2 := b10.cell 2 rfl
          clear b10
          have hfin := Lib.hid E7.out.bel
          go_wp2
          go_ret
          exact ⟨RB HF.out.symm, hfin.out⟩
        · have hmm := Lib.hid hm
          clear hm
          cases hv : wth l.ats[k] 1099512627776
          · have hvv := Lib.hid hv
            have HF : Hid (t = false) := Lib.hid (by cases t with | false => rfl | true => exact absurd (ht.out.2 rfl) (by intro hh; have := (hh.2.2.1 k hk hk2).2; rw [hv] at this; cases this))
            clear hv
            go_wp2_with fail
            have E6 := Lib.hid ((E5.out.push 24 [.int .i64 l.L[k].fr, .int .i64 l.L[k].to_, .int .i64 l.L[k].kd, .int .i64 l.L[k].nm, .slice ua l.L[k].body.length uk] (wr.heap.size) (by simp)))
            refine (lmessage_v l.L[k] hmm.out _ _ _).mono ?_
            rintro e w3 ⟨rfl, hb⟩
            have E7 := Lib.hid (E6.out.below hb)
            clear u0 u1 u2 u3 u4 v0 z5 z6 z7 z8 z9 E5 E6 hb
            have b10 := E7.out.bx 1 rfl
            have c10_2 := b10.cell 2 rfl
            clear b10
            have z11 := (E7.out.fc 0 rfl).2
            go_wp2_with fail
            refine (within_v hvv.out _).mono ?_
            rintro e w4 ⟨rfl, hb⟩
            have E8 := Lib.hid (E7.out.below hb)
            clear c10_2 z11 E7 hb
            have hfin := Lib.hid E8.out.bel
            go_wp2
            go_ret
            exact ⟨RB HF.out.symm, hfin.out⟩
          · have hvv := Lib.hid hv
            clear hv
            go_wp2_with fail
            have E6 := Lib.hid ((E5.out.push 24 [.int .i64 l.L[k].fr, .int .i64 l.L[k].to_, .int .i64 l.L[k].kd, .int .i64 l.L[k].nm, .slice ua l.L[k].body.length uk] (wr.heap.size) (by simp)))
            refine (lmessage_v l.L[k] hmm.out _ _ _).mono ?_
            rintro e w3 ⟨rfl, hb⟩
            have E7 := Lib.hid (E6.out.below hb)
            clear u0 u1 u2 u3 u4 v0 z5 z6 z7 z8 z9 E5 E6 hb
            have b10 := E7.out.bx 1 rfl
            have c10_2 := b10.cell 2 rfl
            clear b10
            have z11 := (E7.out.fc 0 rfl).2
            go_wp2_with fail
            refine (within_v hvv.out _).mono ?_
            rintro e w4 ⟨rfl, hb⟩
            have E8 := Lib.hid (E7.out.below hb)
            clear c10_2 z11 E7 hb
            have EZ := Lib.hid ((((((((E8.out.drop).forget).forget).forget).forget).forget).forget).forget)
            go_wp2
            go_roundg (l.L.length - (k + 1))
            case rel => exact ⟨k + 1, rfl, EZ, Lib.hid ⟨⟨by omega, rfl⟩, fun i h h' hi => by by_cases e : i = k; (· subst e; exact ⟨hmm.out, hvv.out⟩); exact HS.out i h h' (by omega)⟩⟩
            case measure => exact by omega
      have t6 : decide ((k : Int) < (l.L.length : Int)) = false := decide_eq_false (by omega)
      have t7 : decide (k < l.L.length) = false := decide_eq_false (by omega)
      have HM : Hid (LinMs l) := Lib.hid fun i h h' => HS.out i h h' (by omega)
      clear HS
      have HY := Lib.hid hy
      clear hy
      have b5 := EL.out.bx 0 rfl
      have c5_3 := b5.cell 3 rfl
      clear b5
      go_wp2_with fail
      go_loopg [62] (l.ft.length) (fun gk s62 wr => ∃ (k2 : Nat), s62 = .int .i64 (k2 : Int) ∧ Hid (Env D w [(w.heap.size, 64, [.int .i64 l.nw, .slice xa l.L.length xj, .slice xb l.ats.length xk, .slice xc l.ft.length xm])] [.rw (.slice xc l.ft.length xm) l.ft.length 2 (fcl l.ft), .rw (.slice xb l.ats.length xk) l.ats.length 1 (icl l.ats), .ms (.slice xa l.L.length xj) l.L] wr) ∧ Hid ((k2 ≤ l.ft.length ∧ gk = l.ft.length - k2) ∧ ∀ i (h : i < l.ft.length), i < k2 → fateOk l.ft[i].1 l.ft[i].2 = true))
      case atStart => exact ⟨0, rfl, Lib.hid EL.out, Lib.hid ⟨⟨Nat.zero_le _, rfl⟩, fun i _ h => absurd h (Nat.not_lt_zero _)⟩⟩
      case round =>
        clear c5_3 EL
        obtain ⟨k2, rfl, EL, HA⟩ := hrel
        obtain ⟨⟨a1, a2⟩, a3⟩ := HA.out
        have HS := Lib.hid a3
        clear a3 HA
        by_cases hy : k2 = l.ft.length
        rotate_left
        · have hk : k2 < l.ft.length := by omega
          have t8 : decide ((k2 : Int) < (l.ft.length : Int)) = true := decide_eq_true (by omega)
          have t9 : decide (k2 < l.ft.length) = true := decide_eq_true hk
          clear hy
          obtain ⟨xcb, xco, rfl⟩ := Rw.addr (EL.out.fc 0 rfl) (by omega)
          have E4 := Lib.hid (EL.out.elF 0 rfl rfl (k2) hk)
          clear EL
          have u0 := (E4.out.fc 0 rfl).2
          have u1 := (E4.out.fc 1 rfl).2
          cases hm : fateOk l.ft[k2].1 l.ft[k2].2
          · have hmm := Lib.hid hm
            have HF : Hid (t = false) := Lib.hid (by cases t with | false => rfl | true => exact absurd (ht.out.2 rfl) (by intro hh; have := hh.2.2.2 k2 hk; rw [hm] at this; cases this))
            clear hm
            go_wp2_with fail
            have E5 := Lib.hid ((E4.out.push 72 [.int .i64 l.ft[k2].1, .int .i64 l.ft[k2].2] (wr.heap.size) (by simp)))
            refine (fate_v hmm.out _).mono ?_
            rintro e w3 ⟨rfl, hb⟩
            have E6 := Lib.hid (E5.out.below hb)
            clear u0 u1 E4 E5 hb
            have hfin := Lib.hid E6.out.bel
            go_wp2
            go_ret
            exact ⟨RB HF.out.symm, hfin.out⟩
          · have hmm := Lib.hid hm
            clear hm
            go_wp2_with fail
            have E5 := Lib.hid ((E4.out.push 72 [.int .i64 l.ft[k2].1, .int .i64 l.ft[k2].2] (wr.heap.size) (by simp)))
            refine (fate_v hmm.out _).mono ?_
            rintro e w3 ⟨rfl, hb⟩
            have E6 := Lib.hid (E5.out.below hb)
            clear u0 u1 E4 E5 hb
            have EZ := Lib.hid (((E6.out.drop).forget).forget)
            go_wp2
            go_roundg (l.ft.length - (k2 + 1))
            case rel => exact ⟨k2 + 1, rfl, EZ, Lib.hid ⟨⟨by omega, rfl⟩, fun i h hi => by by_cases e : i = k2; (· subst e; exact hmm.out); exact HS.out i h (by omega)⟩⟩
            case measure => exact by omega
        have t8 : decide ((k2 : Int) < (l.ft.length : Int)) = false := decide_eq_false (by omega)
        have t9 : decide (k2 < l.ft.length) = false := decide_eq_false (by omega)
        have HT : Hid (t = true) := Lib.hid (ht.out.1 ⟨⟨H1.out, H2.out, h3, h4⟩, H5.out, HM.out, fun i h => HS.out i h (by omega)⟩)
        have HY2 := Lib.hid hy
        clear hy
        have hfin := Lib.hid EL.out.bel
        go_wp2
        go_ret
        exact ⟨RB HT.out.symm, hfin.out⟩
end Go.Proofs.Ytbcfcdcomboljaa

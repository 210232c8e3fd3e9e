/- specieref39: Same. -/
import Derived.Test.YtbcfcdcomboljaaLinWb
import Derived.Laws.BytesArg
import Derived.Shelf.Bytes.SlSmallAll
namespace Go.Proofs.Ytbcfcdcomboljaa
open Go.RowKit
set_option linter.unusedVariables false
set_option linter.unusedSimpArgs false
def bstr (l : List Nat) : ByteArray := strOfNums (l.map fun (n : Nat) => (n : Int))
theorem str_of {W : World} {D : Nat → Prop} {v : Value} {l : List Nat} (h : Bs W D v l) : (convert 22 9 v).run Try.prog W = .ok (.string (bstr l)) W := by
  obtain ⟨ao, cap, rfl, h1, h2, h3, h4, _⟩ := h
  by_cases hl : l = []
  · subst hl
    have := run_convert_bytes_zero (P := Try.prog) W 22 5 Try.underlying22 Try.underlying5 ao cap 9 Try.underlying9
    exact this
  · obtain ⟨b, off, rfl, _, hc⟩ := h4 hl
    exact run_convert_bytes_arg W 22 5 Try.underlying22 Try.underlying5 b off l.length cap (l.map fun (n : Nat) => (n : Int)) (by simp) (fun i hi => by rw [hc i hi]; simp [List.getD_eq_getElem?_getD, List.getElem?_eq_getElem hi]) 9 Try.underlying9
set_option maxRecDepth 100000 in
set_option maxHeartbeats 1000000 in
theorem rSameM {D : Nat → Prop} (M : Msg) {xa ya : Option Addr} {xk yk : Nat} {w : World} (hx : Fct.at w D (.bs (.slice xa M.body.length xk) M.body)) (hy : Fct.at w D (.bs (.slice ya M.body.length yk) M.body))  :
    Calls Try.prog 45 #[.agg #[.int .i64 M.fr, .int .i64 M.to_, .int .i64 M.kd, .int .i64 M.nm, .slice xa M.body.length xk], .agg #[.int .i64 M.fr, .int .i64 M.to_, .int .i64 M.kd, .int .i64 M.nm, .slice ya M.body.length yk]] w fun e w' => e = .returned (.bool true) ∧ Below w.heap.size w w' := by
  have E0 := Lib.hid (((Env.start D w).arg (.bs (.slice xa M.body.length xk) M.body) hx).arg (.bs (.slice ya M.body.length yk) M.body) hy)
  clear hx hy
  go_enter Try.func45, Try.ntmps45
  have E1 := Lib.hid (((E0.out.push 24 [.int .i64 M.fr, .int .i64 M.to_, .int .i64 M.kd, .int .i64 M.nm, .slice xa M.body.length xk] (w.heap.size) (by simp)).push 24 [.int .i64 M.fr, .int .i64 M.to_, .int .i64 M.kd, .int .i64 M.nm, .slice ya M.body.length yk] (w.heap.size + 1) (by simp)))
  have HC1 := Lib.hid (str_of (E1.out.fc 1 rfl)); have HC2 := Lib.hid (str_of (E1.out.fc 0 rfl))
  go_wp2_with (first | rw [HC1.out] | rw [HC2.out])
  all_goals (go_ret; exact ⟨rfl, E1.out.bel⟩)
set_option maxRecDepth 100000 in
set_option maxHeartbeats 1000000 in
theorem rSame_c {D : Nat → Prop} (l : Lin) {xa xb xc : Option Addr} {xj xk xm : Nat} {ya yb yc : Option Addr} {yj yk ym : Nat} {w : World} (h1 : Fct.at w D (.ms (.slice xa l.L.length xj) l.L)) (h2 : Fct.at w D (.rw (.slice xb l.ats.length xk) l.ats.length 1 (icl l.ats))) (h3 : Fct.at w D (.rw (.slice xc l.ft.length xm) l.ft.length 2 (fcl l.ft))) (g1 : Fct.at w D (.ms (.slice ya l.L.length yj) l.L)) (g2 : Fct.at w D (.rw (.slice yb l.ats.length yk) l.ats.length 1 (icl l.ats))) (g3 : Fct.at w D (.rw (.slice yc l.ft.length ym) l.ft.length 2 (fcl l.ft))) (hl0 : l.L.length ≤ 1000000 ∧ l.ats.length ≤ 1000000 ∧ l.ft.length ≤ 1000000) :
    Calls Try.prog 43 #[.agg #[.int .i64 l.nw, .slice xa l.L.length xj, .slice xb l.ats.length xk, .slice xc l.ft.length xm], .agg #[.int .i64 l.nw, .slice ya l.L.length yj, .slice yb l.ats.length yk, .slice yc l.ft.length ym]] w fun e w' => e = .returned (.bool true) ∧ Below w.heap.size w w' := by
  have E0 := Lib.hid (((((((Env.start D w).arg (.ms (.slice xa l.L.length xj) l.L) h1).arg (.rw (.slice xb l.ats.length xk) l.ats.length 1 (icl l.ats)) h2).arg (.rw (.slice xc l.ft.length xm) l.ft.length 2 (fcl l.ft)) h3).arg (.ms (.slice ya l.L.length yj) l.L) g1).arg (.rw (.slice yb l.ats.length yk) l.ats.length 1 (icl l.ats)) g2).arg (.rw (.slice yc l.ft.length ym) l.ft.length 2 (fcl l.ft)) g3)
  clear h1 h2 h3 g1 g2 g3
  go_enter Try.func43, Try.ntmps43
  have hl := Lib.hid hl0
  clear hl0
  go_wp2_with fail
  have E1 := Lib.hid (((E0.out.push 64 [.int .i64 l.nw, .slice xa l.L.length xj, .slice xb l.ats.length xk, .slice xc l.ft.length xm] (w.heap.size) (by simp)).push 64 [.int .i64 l.nw, .slice ya l.L.length yj, .slice yb l.ats.length yk, .slice yc l.ft.length ym] (w.heap.size + 1) (by simp)))
  go_loopg [5] (l.L.length) (fun gk s5 wr => ∃ (k : Nat), s5 = .int .i64 (k : Int) ∧ Hid (Env D w [(w.heap.size + 1, 64, [.int .i64 l.nw, .slice ya l.L.length yj, .slice yb l.ats.length yk, .slice yc l.ft.length ym]), (w.heap.size, 64, [.int .i64 l.nw, .slice xa l.L.length xj, .slice xb l.ats.length xk, .slice xc l.ft.length xm])] [.rw (.slice yc l.ft.length ym) l.ft.length 2 (fcl l.ft), .rw (.slice yb l.ats.length yk) l.ats.length 1 (icl l.ats), .ms (.slice ya l.L.length yj) l.L, .rw (.slice xc l.ft.length xm) l.ft.length 2 (fcl l.ft), .rw (.slice xb l.ats.length xk) l.ats.length 1 (icl l.ats), .ms (.slice xa l.L.length xj) l.L] wr) ∧ Hid (k ≤ l.L.length ∧ gk = l.L.length - k))
  case atStart => exact ⟨0, rfl, Lib.hid E1.out, Lib.hid ⟨Nat.zero_le _, rfl⟩⟩
  case round =>
    clear E0 E1
    obtain ⟨k, rfl, EL, HA⟩ := hrel
    obtain ⟨a1, a2⟩ := HA.out
    clear HA
    by_cases hy : k = l.L.length
    rotate_left
    · have hk : k < l.L.length := by omega
      have t6 : decide ((k : Int) < (l.L.length : Int)) = true := decide_eq_true (by omega)
      have t7 : decide (k < l.L.length) = true := decide_eq_true hk
      have hbb := hl.out
      clear hy
      obtain ⟨xab, xao, rfl⟩ := Ms.addr (EL.out.fc 5 rfl) hk
      obtain ⟨ua, uk, E20⟩ := EL.out.els 5 rfl (k) hk
      have E2 : Hid (Env D w [(w.heap.size + 1, 64, [.int .i64 l.nw, .slice ya l.L.length yj, .slice yb l.ats.length yk, .slice yc l.ft.length ym]), (w.heap.size, 64, [.int .i64 l.nw, .slice (some ⟨xab, xao, none⟩) l.L.length xj, .slice xb l.ats.length xk, .slice xc l.ft.length xm])] [.ce xab (xao + k * 5) (.int .i64 l.L[k].fr), .ce xab (xao + k * 5 + 1) (.int .i64 l.L[k].to_), .ce xab (xao + k * 5 + 2) (.int .i64 l.L[k].kd), .ce xab (xao + k * 5 + 3) (.int .i64 l.L[k].nm), .ce xab (xao + k * 5 + 4) (.slice ua l.L[k].body.length uk), .bs (.slice ua l.L[k].body.length uk) l.L[k].body, .rw (.slice yc l.ft.length ym) l.ft.length 2 (fcl l.ft), .rw (.slice yb l.ats.length yk) l.ats.length 1 (icl l.ats), .ms (.slice ya l.L.length yj) l.L, .rw (.slice xc l.ft.length xm) l.ft.length 2 (fcl l.ft), .rw (.slice xb l.ats.length xk) l.ats.length 1 (icl l.ats), .ms (.slice (some ⟨xab, xao, none⟩) l.L.length xj) l.L] _) := Lib.hid E20
      clear E20 EL
      have u0 := (E2.out.fc 0 rfl).2
      have u1 := (E2.out.fc 1 rfl).2
      have u2 := (E2.out.fc 2 rfl).2
      have u3 := (E2.out.fc 3 rfl).2
      have u4 := (E2.out.fc 4 rfl).2
      obtain ⟨yab, yao, rfl⟩ := Ms.addr (E2.out.fc 8 rfl) hk
      obtain ⟨va, vk, E30⟩ := E2.out.els 8 rfl (k) hk
      have E3 : Hid (Env D w [(w.heap.size + 1, 64, [.int .i64 l.nw, .slice (some ⟨yab, yao, none⟩) l.L.length yj, .slice yb l.ats.length yk, .slice yc l.ft.length ym]), (w.heap.size, 64, [.int .i64 l.nw, .slice (some ⟨xab, xao, none⟩) l.L.length xj, .slice xb l.ats.length xk, .slice xc l.ft.length xm])] [.ce yab (yao + k * 5) (.int .i64 l.L[k].fr), .ce yab (yao + k * 5 + 1) (.int .i64 l.L[k].to_), .ce yab (yao + k * 5 + 2) (.int .i64 l.L[k].kd), .ce yab (yao + k * 5 + 3) (.int .i64 l.L[k].nm), .ce yab (yao + k * 5 + 4) (.slice va l.L[k].body.length vk), .bs (.slice va l.L[k].body.length vk) l.L[k].body, .ce xab (xao + k * 5) (.int .i64 l.L[k].fr), .ce xab (xao + k * 5 + 1) (.int .i64 l.L[k].to_), .ce xab (xao + k * 5 + 2) (.int .i64 l.L[k].kd), .ce xab (xao + k * 5 + 3) (.int .i64 l.L[k].nm), .ce xab (xao + k * 5 + 4) (.slice ua l.L[k].body.length uk), .bs (.slice ua l.L[k].body.length uk) l.L[k].body, .rw (.slice yc l.ft.length ym) l.ft.length 2 (fcl l.ft), .rw (.slice yb l.ats.length yk) l.ats.length 1 (icl l.ats), .ms (.slice (some ⟨yab, yao, none⟩) l.L.length yj) l.L, .rw (.slice xc l.ft.length xm) l.ft.length 2 (fcl l.ft), .rw (.slice xb l.ats.length xk) l.ats.length 1 (icl l.ats), .ms (.slice (some ⟨xab, xao, none⟩) l.L.length xj) l.L] _) := Lib.hid E30
      clear E30 E2
      have v0 := (E3.out.fc 0 rfl).2
      have v1 := (E3.out.fc 1 rfl).2
      have v2 := (E3.out.fc 2 rfl).2
      have v3 := (E3.out.fc 3 rfl).2
      have v4 := (E3.out.fc 4 rfl).2
      have b1 := E3.out.bx 1 rfl
      have c1_1 := b1.cell 1 rfl
      clear b1
      go_wp2_with fail
      have E4 := Lib.hid E3.out.drew
      clear u0 u1 u2 u3 u4 v0 v1 v2 v3 v4 c1_1 E3
      refine wp_regionU (S := fun w' => w'.cell? ⟨w.heap.size, 1, none⟩ = some (.slice (some ⟨xab, xao, none⟩) l.L.length xj) ∧ w'.cell? ⟨w.heap.size + 1, 1, none⟩ = some (.slice (some ⟨yab, yao, none⟩) l.L.length yj) ∧ w'.cell? ⟨xab, xao + k * 5, none⟩ = some (.int .i64 l.L[k].fr) ∧ w'.cell? ⟨xab, xao + k * 5 + 1, none⟩ = some (.int .i64 l.L[k].to_) ∧ w'.cell? ⟨xab, xao + k * 5 + 2, none⟩ = some (.int .i64 l.L[k].kd) ∧ w'.cell? ⟨xab, xao + k * 5 + 3, none⟩ = some (.int .i64 l.L[k].nm) ∧ w'.cell? ⟨xab, xao + k * 5 + 4, none⟩ = some (.slice ua l.L[k].body.length uk) ∧ w'.cell? ⟨yab, yao + k * 5, none⟩ = some (.int .i64 l.L[k].fr) ∧ w'.cell? ⟨yab, yao + k * 5 + 1, none⟩ = some (.int .i64 l.L[k].to_) ∧ w'.cell? ⟨yab, yao + k * 5 + 2, none⟩ = some (.int .i64 l.L[k].kd) ∧ w'.cell? ⟨yab, yao + k * 5 + 3, none⟩ = some (.int .i64 l.L[k].nm) ∧ w'.cell? ⟨yab, yao + k * 5 + 4, none⟩ = some (.slice va l.L[k].body.length vk)) [] (by kernel_rfl) (⟨((E4.out.bx 1 rfl).cell 1 rfl), ((E4.out.bx 0 rfl).cell 1 rfl), (E4.out.fc 6 rfl).2, (E4.out.fc 7 rfl).2, (E4.out.fc 8 rfl).2, (E4.out.fc 9 rfl).2, (E4.out.fc 10 rfl).2, (E4.out.fc 0 rfl).2, (E4.out.fc 1 rfl).2, (E4.out.fc 2 rfl).2, (E4.out.fc 3 rfl).2, (E4.out.fc 4 rfl).2⟩) (fun hHeld => ?_)
      generalize wr.drew = w1 at *
      refine uTake (i := 0) (some 47) (v := ?_) rfl rfl (by kernel_rfl) (by kernel_rfl) (by kernel_rfl) (by kernel_rfl) (fun _ _ _ h => h) (by rfl) (by assumption) ?_ ?_
      rotate_left
      · (intro wS hSw; (try dsimp only at hSw); go_simp; try with_reducible rfl)
      try simp only [Act.put, List.setIfInBounds_toArray, List.set_cons_zero, List.set_cons_succ]
      refine uTake (i := 1) (some 48) (v := ?_) rfl rfl (by kernel_rfl) (by kernel_rfl) (by kernel_rfl) (by kernel_rfl) (fun _ _ _ h => h) (by rfl) (by assumption) ?_ ?_
      rotate_left
      · (intro wS hSw; (try dsimp only at hSw); go_simp; try with_reducible rfl)
      try simp only [Act.put, List.setIfInBounds_toArray, List.set_cons_zero, List.set_cons_succ]
      refine uTake (i := 2) (some 49) (v := ?_) rfl rfl (by kernel_rfl) (by kernel_rfl) (by kernel_rfl) (by kernel_rfl) (fun _ _ _ h => h) (by rfl) (by assumption) ?_ ?_
      rotate_left
      · (intro wS hSw; (try dsimp only at hSw); go_simp; try with_reducible rfl)
      try simp only [Act.put, List.setIfInBounds_toArray, List.set_cons_zero, List.set_cons_succ]
      refine uTake (i := 3) (some 50) (v := ?_) rfl rfl (by kernel_rfl) (by kernel_rfl) (by kernel_rfl) (by kernel_rfl) (fun _ _ _ h => h) (by rfl) (by assumption) ?_ ?_
      rotate_left
      · (intro wS hSw; (try dsimp only at hSw); go_simp; try with_reducible rfl)
      try simp only [Act.put, List.setIfInBounds_toArray, List.set_cons_zero, List.set_cons_succ]
      refine uTake (i := 4) (some 51) (v := ?_) rfl rfl (by kernel_rfl) (by kernel_rfl) (by kernel_rfl) (by kernel_rfl) (fun _ _ _ h => h) (by rfl) (by assumption) ?_ ?_
      rotate_left
      · (intro wS hSw; (try dsimp only at hSw); go_simp; try with_reducible rfl)
      try simp only [Act.put, List.setIfInBounds_toArray, List.set_cons_zero, List.set_cons_succ]
      refine uTake (i := 5) (some 52) (v := ?_) rfl rfl (by kernel_rfl) (by kernel_rfl) (by kernel_rfl) (by kernel_rfl) (fun _ _ _ h => h) (by rfl) (by assumption) ?_ ?_
      rotate_left
      · (intro wS hSw; (try dsimp only at hSw); go_simp; try with_reducible rfl)
      try simp only [Act.put, List.setIfInBounds_toArray, List.set_cons_zero, List.set_cons_succ]
      refine uTake (i := 6) (some 53) (v := ?_) rfl rfl (by kernel_rfl) (by kernel_rfl) (by kernel_rfl) (by kernel_rfl) (fun _ _ _ h => h) (by rfl) (by assumption) ?_ ?_
      rotate_left
      · (intro wS hSw; (try dsimp only at hSw); go_simp; try with_reducible rfl)
      try simp only [Act.put, List.setIfInBounds_toArray, List.set_cons_zero, List.set_cons_succ]
      refine uTake (i := 7) (some 54) (v := ?_) rfl rfl (by kernel_rfl) (by kernel_rfl) (by kernel_rfl) (by kernel_rfl) (fun _ _ _ h => h) (by rfl) (by assumption) ?_ ?_
      rotate_left
      · (intro wS hSw; (try dsimp only at hSw); go_simp; try with_reducible rfl)
      try simp only [Act.put, List.setIfInBounds_toArray, List.set_cons_zero, List.set_cons_succ]
      refine uTake (i := 8) (some 55) (v := ?_) rfl rfl (by kernel_rfl) (by kernel_rfl) (by kernel_rfl) (by kernel_rfl) (fun _ _ _ h => h) (by rfl) (by assumption) ?_ ?_
      rotate_left
      · (intro wS hSw; (try dsimp only at hSw); go_simp; try with_reducible rfl)
      try simp only [Act.put, List.setIfInBounds_toArray, List.set_cons_zero, List.set_cons_succ]
      refine uTake (i := 9) (some 56) (v := ?_) rfl rfl (by kernel_rfl) (by kernel_rfl) (by kernel_rfl) (by kernel_rfl) (fun _ _ _ h => h) (by rfl) (by assumption) ?_ ?_
      rotate_left
      · (intro wS hSw; (try dsimp only at hSw); go_simp; try with_reducible rfl)
      try simp only [Act.put, List.setIfInBounds_toArray, List.set_cons_zero, List.set_cons_succ]
      refine uReady (rs := [10]) (by kernel_rfl) (by simp) ?_
      refine ReadyU.cons rfl (fun KK hKK => ?_) ReadyU.nil
      go_simp
      refine (rSameM l.L[k] (E4.out.fc 11 rfl) (E4.out.fc 5 rfl)).mono ?_
      rintro e w2 ⟨rfl, hb⟩
      have E5 := Lib.hid (E4.out.below hb)
      clear E4 hb
      (try dsimp only)
      clear hHeld
      refine hKK.out _ _ (⟨((E5.out.bx 1 rfl).cell 1 rfl), ((E5.out.bx 0 rfl).cell 1 rfl), (E5.out.fc 6 rfl).2, (E5.out.fc 7 rfl).2, (E5.out.fc 8 rfl).2, (E5.out.fc 9 rfl).2, (E5.out.fc 10 rfl).2, (E5.out.fc 0 rfl).2, (E5.out.fc 1 rfl).2, (E5.out.fc 2 rfl).2, (E5.out.fc 3 rfl).2, (E5.out.fc 4 rfl).2⟩) (fun hHeld => ?_)
      clear hKK KK
      try simp only [Act.put, List.setIfInBounds_toArray, List.set_cons_zero, List.set_cons_succ]
      refine uTake (i := 11) (some 58) (v := ?_) rfl rfl (by kernel_rfl) (by kernel_rfl) (by kernel_rfl) (by kernel_rfl) (fun _ _ _ h => h) (by rfl) (by assumption) ?_ ?_
      rotate_left
      · (intro wS hSw; (try dsimp only at hSw); go_simp; try with_reducible rfl)
      try simp only [Act.put, List.setIfInBounds_toArray, List.set_cons_zero, List.set_cons_succ]
      refine uDone (by kernel_rfl) ?_ _
      have EZ := Lib.hid ((((((((((((E5.out.forget).forget).forget).forget).forget).forget).forget).forget).forget).forget).forget).forget)
      go_wp2
      go_roundg (l.L.length - (k + 1))
      case rel => exact ⟨k + 1, rfl, EZ, Lib.hid ⟨by omega, rfl⟩⟩
      case measure => exact by omega
    have t6 : decide ((k : Int) < (l.L.length : Int)) = false := decide_eq_false (by omega)
    have t7 : decide (k < l.L.length) = false := decide_eq_false (by omega)
    have HY := Lib.hid hy
    clear hy
    have b1 := EL.out.bx 1 rfl
    have c1_1 := b1.cell 1 rfl
    clear b1
    go_wp2_with fail
    go_loopg [6] (l.ats.length) (fun gk s6 wr => ∃ (k2 : Nat), s6 = .int .i64 (k2 : Int) ∧ Hid (Env D w [(w.heap.size + 1, 64, [.int .i64 l.nw, .slice ya l.L.length yj, .slice yb l.ats.length yk, .slice yc l.ft.length ym]), (w.heap.size, 64, [.int .i64 l.nw, .slice xa l.L.length xj, .slice xb l.ats.length xk, .slice xc l.ft.length xm])] [.rw (.slice yc l.ft.length ym) l.ft.length 2 (fcl l.ft), .rw (.slice yb l.ats.length yk) l.ats.length 1 (icl l.ats), .ms (.slice ya l.L.length yj) l.L, .rw (.slice xc l.ft.length xm) l.ft.length 2 (fcl l.ft), .rw (.slice xb l.ats.length xk) l.ats.length 1 (icl l.ats), .ms (.slice xa l.L.length xj) l.L] wr) ∧ Hid (k2 ≤ l.ats.length ∧ gk = l.ats.length - k2))
    case atStart => exact ⟨0, rfl, Lib.hid EL.out, Lib.hid ⟨Nat.zero_le _, rfl⟩⟩
    case round =>
      clear c1_1 EL
      obtain ⟨k2, rfl, EL, HA⟩ := hrel
      obtain ⟨a1, a2⟩ := HA.out
      clear HA
      by_cases hy : k2 = l.ats.length
      rotate_left
      · have hk : k2 < l.ats.length := by omega
        have t6 : decide ((k2 : Int) < (l.ats.length : Int)) = true := decide_eq_true (by omega)
        have t7 : decide (k2 < l.ats.length) = true := decide_eq_true hk
        have hbb := hl.out
        clear hy
        obtain ⟨xbb, xbo, rfl⟩ := Rw.addr (EL.out.fc 4 rfl) (by omega)
        have E2 := Lib.hid (EL.out.elI 4 rfl rfl (k2) hk)
        clear EL
        have u0 := (E2.out.fc 0 rfl).2
        obtain ⟨ybb, ybo, rfl⟩ := Rw.addr (E2.out.fc 2 rfl) (by omega)
        have E3 := Lib.hid (E2.out.elI 2 rfl rfl (k2) hk)
        clear E2
        have v0 := (E3.out.fc 0 rfl).2
        have b2 := E3.out.bx 1 rfl
        have c2_2 := b2.cell 2 rfl
        clear b2
        go_wp2_with fail
        have E4 := Lib.hid E3.out.drew
        clear u0 v0 c2_2 E3
        refine wp_regionU (S := fun w' => w'.cell? ⟨w.heap.size, 2, none⟩ = some (.slice (some ⟨xbb, xbo, none⟩) l.ats.length xk) ∧ w'.cell? ⟨w.heap.size + 1, 2, none⟩ = some (.slice (some ⟨ybb, ybo, none⟩) l.ats.length yk) ∧ w'.cell? ⟨xbb, xbo + k2, none⟩ = some (.int .i64 l.ats[k2]) ∧ w'.cell? ⟨ybb, ybo + k2, none⟩ = some (.int .i64 l.ats[k2])) [] (by kernel_rfl) (⟨((E4.out.bx 1 rfl).cell 2 rfl), ((E4.out.bx 0 rfl).cell 2 rfl), (E4.out.fc 1 rfl).2, (E4.out.fc 0 rfl).2⟩) (fun hHeld => ?_)
        generalize wr.drew = w1 at *
        refine uTake (i := 0) (some 66) (v := ?_) rfl rfl (by kernel_rfl) (by kernel_rfl) (by kernel_rfl) (by kernel_rfl) (fun _ _ _ h => h) (by rfl) (by assumption) ?_ ?_
        rotate_left
        · (intro wS hSw; (try dsimp only at hSw); go_simp; try with_reducible rfl)
        try simp only [Act.put, List.setIfInBounds_toArray, List.set_cons_zero, List.set_cons_succ]
        refine uTake (i := 1) (some 67) (v := ?_) rfl rfl (by kernel_rfl) (by kernel_rfl) (by kernel_rfl) (by kernel_rfl) (fun _ _ _ h => h) (by rfl) (by assumption) ?_ ?_
        rotate_left
        · (intro wS hSw; (try dsimp only at hSw); go_simp; try with_reducible rfl)
        try simp only [Act.put, List.setIfInBounds_toArray, List.set_cons_zero, List.set_cons_succ]
        refine uTake (i := 2) (some 68) (v := ?_) rfl rfl (by kernel_rfl) (by kernel_rfl) (by kernel_rfl) (by kernel_rfl) (fun _ _ _ h => h) (by rfl) (by assumption) ?_ ?_
        rotate_left
        · (intro wS hSw; (try dsimp only at hSw); go_simp; try with_reducible rfl)
        try simp only [Act.put, List.setIfInBounds_toArray, List.set_cons_zero, List.set_cons_succ]
        refine uTake (i := 3) (some 69) (v := ?_) rfl rfl (by kernel_rfl) (by kernel_rfl) (by kernel_rfl) (by kernel_rfl) (fun _ _ _ h => h) (by rfl) (by assumption) ?_ ?_
        rotate_left
        · (intro wS hSw; (try dsimp only at hSw); go_simp; try with_reducible rfl)
        try simp only [Act.put, List.setIfInBounds_toArray, List.set_cons_zero, List.set_cons_succ]
        refine uTake (i := 4) (some 70) (v := ?_) rfl rfl (by kernel_rfl) (by kernel_rfl) (by kernel_rfl) (by kernel_rfl) (fun _ _ _ h => h) (by rfl) (by assumption) ?_ ?_
        rotate_left
        · (intro wS hSw; (try dsimp only at hSw); go_simp; try with_reducible rfl)
        try simp only [Act.put, List.setIfInBounds_toArray, List.set_cons_zero, List.set_cons_succ]
        refine uTake (i := 5) (some 71) (v := ?_) rfl rfl (by kernel_rfl) (by kernel_rfl) (by kernel_rfl) (by kernel_rfl) (fun _ _ _ h => h) (by rfl) (by assumption) ?_ ?_
        rotate_left
        · (intro wS hSw; (try dsimp only at hSw); go_simp; try with_reducible rfl)
        try simp only [Act.put, List.setIfInBounds_toArray, List.set_cons_zero, List.set_cons_succ]
        refine uTake (i := 6) (some 72) (v := ?_) rfl rfl (by kernel_rfl) (by kernel_rfl) (by kernel_rfl) (by kernel_rfl) (fun _ _ _ h => h) (by rfl) (by assumption) ?_ ?_
        rotate_left
        · (intro wS hSw; (try dsimp only at hSw); go_simp; try with_reducible rfl)
        try simp only [Act.put, List.setIfInBounds_toArray, List.set_cons_zero, List.set_cons_succ]
        refine uTake (i := 7) (some 73) (v := ?_) rfl rfl (by kernel_rfl) (by kernel_rfl) (by kernel_rfl) (by kernel_rfl) (fun _ _ _ h => h) (by rfl) (by assumption) ?_ ?_
        rotate_left
        · (intro wS hSw; (try dsimp only at hSw); go_simp; try with_reducible rfl)
        try simp only [Act.put, List.setIfInBounds_toArray, List.set_cons_zero, List.set_cons_succ]
        refine uTake (i := 8) (some 74) (v := ?_) rfl rfl (by kernel_rfl) (by kernel_rfl) (by kernel_rfl) (by kernel_rfl) (fun _ _ _ h => h) (by rfl) (by assumption) ?_ ?_
        rotate_left
        · (intro wS hSw; (try dsimp only at hSw); go_simp; try with_reducible rfl)
        try simp only [Act.put, List.setIfInBounds_toArray, List.set_cons_zero, List.set_cons_succ]
        refine uTake (i := 9) (some 75) (v := ?_) rfl rfl (by kernel_rfl) (by kernel_rfl) (by kernel_rfl) (by kernel_rfl) (fun _ _ _ h => h) (by rfl) (by assumption) ?_ ?_
        rotate_left
        · (intro wS hSw; (try dsimp only at hSw); go_simp; try with_reducible rfl)
        try simp only [Act.put, List.setIfInBounds_toArray, List.set_cons_zero, List.set_cons_succ]
        refine uTake (i := 10) (some 76) (v := .bool false) rfl rfl (by kernel_rfl) (by kernel_rfl) (by kernel_rfl) (by kernel_rfl) (fun _ _ _ h => h) (by rfl) (by assumption) ?_ ?_
        · (intro wS hSw; (try dsimp only at hSw); go_simp; try simp [*])
        try simp only [Act.put, List.setIfInBounds_toArray, List.set_cons_zero, List.set_cons_succ]
        refine uDone (by kernel_rfl) ?_ _
        have EZ := Lib.hid ((E4.out.forget).forget)
        go_wp2
        go_roundg (l.ats.length - (k2 + 1))
        case rel => exact ⟨k2 + 1, rfl, EZ, Lib.hid ⟨by omega, rfl⟩⟩
        case measure => exact by omega
      have t6 : decide ((k2 : Int) < (l.ats.length : Int)) = false := decide_eq_false (by omega)
      have t7 : decide (k2 < l.ats.length) = false := decide_eq_false (by omega)
      have HY := Lib.hid hy
      clear hy
      have b2 := EL.out.bx 1 rfl
      have c2_2 := b2.cell 2 rfl
      clear b2
      go_wp2_with fail
      go_loopg [7] (l.ft.length) (fun gk s7 wr => ∃ (k3 : Nat), s7 = .int .i64 (k3 : Int) ∧ Hid (Env D w [(w.heap.size + 1, 64, [.int .i64 l.nw, .slice ya l.L.length yj, .slice yb l.ats.length yk, .slice yc l.ft.length ym]), (w.heap.size, 64, [.int .i64 l.nw, .slice xa l.L.length xj, .slice xb l.ats.length xk, .slice xc l.ft.length xm])] [.rw (.slice yc l.ft.length ym) l.ft.length 2 (fcl l.ft), .rw (.slice yb l.ats.length yk) l.ats.length 1 (icl l.ats), .ms (.slice ya l.L.length yj) l.L, .rw (.slice xc l.ft.length xm) l.ft.length 2 (fcl l.ft), .rw (.slice xb l.ats.length xk) l.ats.length 1 (icl l.ats), .ms (.slice xa l.L.length xj) l.L] wr) ∧ Hid (k3 ≤ l.ft.length ∧ gk = l.ft.length - k3))
      case atStart => exact ⟨0, rfl, Lib.hid EL.out, Lib.hid ⟨Nat.zero_le _, rfl⟩⟩
      case round =>
        clear c2_2 EL
        obtain ⟨k3, rfl, EL, HA⟩ := hrel
        obtain ⟨a1, a2⟩ := HA.out
        clear HA
        by_cases hy : k3 = l.ft.length
        rotate_left
        · have hk : k3 < l.ft.length := by omega
          have t6 : decide ((k3 : Int) < (l.ft.length : Int)) = true := decide_eq_true (by omega)
          have t7 : decide (k3 < l.ft.length) = true := decide_eq_true hk
          have hbb := hl.out
          clear hy
          obtain ⟨xcb, xco, rfl⟩ := Rw.addr (EL.out.fc 3 rfl) (by omega)
          have E2 := Lib.hid (EL.out.elF 3 rfl rfl (k3) hk)
          clear EL
          have u0 := (E2.out.fc 0 rfl).2
          have u1 := (E2.out.fc 1 rfl).2
          obtain ⟨ycb, yco, rfl⟩ := Rw.addr (E2.out.fc 2 rfl) (by omega)
          have E3 := Lib.hid (E2.out.elF 2 rfl rfl (k3) hk)
          clear E2
          have v0 := (E3.out.fc 0 rfl).2
          have v1 := (E3.out.fc 1 rfl).2
          have b3 := E3.out.bx 1 rfl
          have c3_3 := b3.cell 3 rfl
          clear b3
          go_wp2_with fail
          have E4 := Lib.hid E3.out.drew
          clear u0 u1 v0 v1 c3_3 E3
          refine wp_regionU (S := fun w' => w'.cell? ⟨w.heap.size, 3, none⟩ = some (.slice (some ⟨xcb, xco, none⟩) l.ft.length xm) ∧ w'.cell? ⟨w.heap.size + 1, 3, none⟩ = some (.slice (some ⟨ycb, yco, none⟩) l.ft.length ym) ∧ w'.cell? ⟨xcb, xco + k3 * 2, none⟩ = some (.int .i64 l.ft[k3].1) ∧ w'.cell? ⟨xcb, xco + k3 * 2 + 1, none⟩ = some (.int .i64 l.ft[k3].2) ∧ w'.cell? ⟨ycb, yco + k3 * 2, none⟩ = some (.int .i64 l.ft[k3].1) ∧ w'.cell? ⟨ycb, yco + k3 * 2 + 1, none⟩ = some (.int .i64 l.ft[k3].2)) [] (by kernel_rfl) (⟨((E4.out.bx 1 rfl).cell 3 rfl), ((E4.out.bx 0 rfl).cell 3 rfl), (E4.out.fc 2 rfl).2, (E4.out.fc 3 rfl).2, (E4.out.fc 0 rfl).2, (E4.out.fc 1 rfl).2⟩) (fun hHeld => ?_)
          generalize wr.drew = w1 at *
          refine uTake (i := 0) (some 84) (v := ?_) rfl rfl (by kernel_rfl) (by kernel_rfl) (by kernel_rfl) (by kernel_rfl) (fun _ _ _ h => h) (by rfl) (by assumption) ?_ ?_
          rotate_left
          · (intro wS hSw; (try dsimp only at hSw); go_simp; try with_reducible rfl)
          try simp only [Act.put, List.setIfInBounds_toArray, List.set_cons_zero, List.set_cons_succ]
          refine uTake (i := 1) (some 85) (v := ?_) rfl rfl (by kernel_rfl) (by kernel_rfl) (by kernel_rfl) (by kernel_rfl) (fun _ _ _ h => h) (by rfl) (by assumption) ?_ ?_
          rotate_left
          · (intro wS hSw; (try dsimp only at hSw); go_simp; try with_reducible rfl)
          try simp only [Act.put, List.setIfInBounds_toArray, List.set_cons_zero, List.set_cons_succ]
          refine uTake (i := 2) (some 86) (v := ?_) rfl rfl (by kernel_rfl) (by kernel_rfl) (by kernel_rfl) (by kernel_rfl) (fun _ _ _ h => h) (by rfl) (by assumption) ?_ ?_
          rotate_left
          · (intro wS hSw; (try dsimp only at hSw); go_simp; try with_reducible rfl)
          try simp only [Act.put, List.setIfInBounds_toArray, List.set_cons_zero, List.set_cons_succ]
          refine uTake (i := 3) (some 87) (v := ?_) rfl rfl (by kernel_rfl) (by kernel_rfl) (by kernel_rfl) (by kernel_rfl) (fun _ _ _ h => h) (by rfl) (by assumption) ?_ ?_
          rotate_left
          · (intro wS hSw; (try dsimp only at hSw); go_simp; try with_reducible rfl)
          try simp only [Act.put, List.setIfInBounds_toArray, List.set_cons_zero, List.set_cons_succ]
          refine uTake (i := 4) (some 88) (v := ?_) rfl rfl (by kernel_rfl) (by kernel_rfl) (by kernel_rfl) (by kernel_rfl) (fun _ _ _ h => h) (by rfl) (by assumption) ?_ ?_
          rotate_left
          · (intro wS hSw; (try dsimp only at hSw); go_simp; try with_reducible rfl)
          try simp only [Act.put, List.setIfInBounds_toArray, List.set_cons_zero, List.set_cons_succ]
          refine uTake (i := 5) (some 89) (v := ?_) rfl rfl (by kernel_rfl) (by kernel_rfl) (by kernel_rfl) (by kernel_rfl) (fun _ _ _ h => h) (by rfl) (by assumption) ?_ ?_
          rotate_left
          · (intro wS hSw; (try dsimp only at hSw); go_simp; try with_reducible rfl)
          try simp only [Act.put, List.setIfInBounds_toArray, List.set_cons_zero, List.set_cons_succ]
          refine uTake (i := 6) (some 90) (v := ?_) rfl rfl (by kernel_rfl) (by kernel_rfl) (by kernel_rfl) (by kernel_rfl) (fun _ _ _ h => h) (by rfl) (by assumption) ?_ ?_
          rotate_left
          · (intro wS hSw; (try dsimp only at hSw); go_simp; try with_reducible rfl)
          try simp only [Act.put, List.setIfInBounds_toArray, List.set_cons_zero, List.set_cons_succ]
          refine uTake (i := 7) (some 91) (v := ?_) rfl rfl (by kernel_rfl) (by kernel_rfl) (by kernel_rfl) (by kernel_rfl) (fun _ _ _ h => h) (by rfl) (by assumption) ?_ ?_
          rotate_left
          · (intro wS hSw; (try dsimp only at hSw); go_simp; try with_reducible rfl)
          try simp only [Act.put, List.setIfInBounds_toArray, List.set_cons_zero, List.set_cons_succ]
          refine uTake (i := 8) (some 92) (v := ?_) rfl rfl (by kernel_rfl) (by kernel_rfl) (by kernel_rfl) (by kernel_rfl) (fun _ _ _ h => h) (by rfl) (by assumption) ?_ ?_
          rotate_left
          · (intro wS hSw; (try dsimp only at hSw); go_simp; try with_reducible rfl)
          try simp only [Act.put, List.setIfInBounds_toArray, List.set_cons_zero, List.set_cons_succ]
          refine uTake (i := 9) (some 93) (v := ?_) rfl rfl (by kernel_rfl) (by kernel_rfl) (by kernel_rfl) (by kernel_rfl) (fun _ _ _ h => h) (by rfl) (by assumption) ?_ ?_
          rotate_left
          · (intro wS hSw; (try dsimp only at hSw); go_simp; try with_reducible rfl)
          try simp only [Act.put, List.setIfInBounds_toArray, List.set_cons_zero, List.set_cons_succ]
          refine uTake (i := 10) (some 94) (v := .bool false) rfl rfl (by kernel_rfl) (by kernel_rfl) (by kernel_rfl) (by kernel_rfl) (fun _ _ _ h => h) (by rfl) (by assumption) ?_ ?_
          · (intro wS hSw; (try dsimp only at hSw); go_simp; try simp [*])
          try simp only [Act.put, List.setIfInBounds_toArray, List.set_cons_zero, List.set_cons_succ]
          refine uDone (by kernel_rfl) ?_ _
          have EZ := Lib.hid ((((E4.out.forget).forget).forget).forget)
          go_wp2
          go_roundg (l.ft.length - (k3 + 1))
          case rel => exact ⟨k3 + 1, rfl, EZ, Lib.hid ⟨by omega, rfl⟩⟩
          case measure => exact by omega
        have t6 : decide ((k3 : Int) < (l.ft.length : Int)) = false := decide_eq_false (by omega)
        have t7 : decide (k3 < l.ft.length) = false := decide_eq_false (by omega)
        have HY := Lib.hid hy
        clear hy
        have b3 := EL.out.bx 1 rfl
        have c3_3 := b3.cell 3 rfl
        clear b3
        have hfin := Lib.hid EL.out.bel
        go_wp2
        go_ret
        exact ⟨rfl, hfin.out⟩
end Go.Proofs.Ytbcfcdcomboljaa

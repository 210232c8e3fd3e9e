/- two spends compared by the reference. -/
import Derived.Test.YtfnnfmefihiefaaSpE
namespace Go.Proofs.Ytfnnfmefihiefaa
open Go.RowKit
set_option linter.unusedVariables false
set_option linter.unusedSimpArgs false
set_option maxRecDepth 100000 in
set_option maxHeartbeats 2000000 in
theorem same27_c {D : Nat → Prop} (p q : List (List Value)) (m n : Int) {xa ya : Option Addr} {xk yk : Nat} {w : World} (hx : Fct.at w D (.rw (.slice xa p.length xk) p.length 32 p.flatten)) (hy : Fct.at w D (.rw (.slice ya q.length yk) q.length 32 q.flatten)) (hp0 : HOk p) (hq0 : HOk q) (hm : p.length ≤ 1000000 ∧ q.length ≤ 1000000) {t : Bool} (ht0 : t = true ↔ m = n ∧ samePa p q) :
    Calls Try.prog 48 #[.agg #[.int .i64 m, .slice xa p.length xk], .agg #[.int .i64 n, .slice ya q.length yk]] w fun e w' => e = .returned (.bool t) ∧ Below w.heap.size w w' := by
  have E0 : Hid (Env D w [] [.rw (.slice ya q.length yk) q.length 32 q.flatten, .rw (.slice xa p.length xk) p.length 32 p.flatten] w) := Lib.hid (((Env.start D w).arg (.rw (.slice xa p.length xk) p.length 32 p.flatten) hx).arg (.rw (.slice ya q.length yk) q.length 32 q.flatten) hy)
  clear hx hy
  go_enter Try.func48, Try.ntmps48
  have ht := Lib.hid ht0
  have hp := Lib.hid hp0
  have hq := Lib.hid hq0
  clear ht0 hp0 hq0
  by_cases hmn : m = n
  rotate_left
  · have d1 : (m == n) = false := beq_eq_false_iff_ne.2 hmn
    have d1b : (m != n) = true := by rw [bne, d1]; rfl
    have HT : Hid (t = false) := Lib.hid (by cases t; (· rfl); exact absurd (ht.out.1 rfl).1 hmn)
    clear hmn ht
    have E1 : Hid (Env D w [(w.heap.size + 1, 39, [.int .i64 n, .slice ya q.length yk]), (w.heap.size, 39, [.int .i64 m, .slice xa p.length xk])] [.rw (.slice ya q.length yk) q.length 32 q.flatten, .rw (.slice xa p.length xk) p.length 32 p.flatten] _) := Lib.hid (((E0.out.push 39 [.int .i64 m, .slice xa p.length xk] (w.heap.size) (by simp)).push 39 [.int .i64 n, .slice ya q.length yk] (w.heap.size + 1) (by simp)))
    have hfin := Lib.hid E1.out.bel
    go_wp2
    go_ret
    exact ⟨RetEqB HT.out.symm, hfin.out⟩
  subst hmn
  have d1 : (m == m) = true := beq_iff_eq.2 rfl
  have d1b : (m != m) = false := by rw [bne, d1]; rfl
  by_cases hl : p.length = q.length
  rotate_left
  · skip
    have d2 : ((p.length : Int) == (q.length : Int)) = false := beq_eq_false_iff_ne.2 (by omega)
    have d2b : ((p.length : Int) != (q.length : Int)) = true := by rw [bne, d2]; rfl
    have d3 : (p.length == q.length) = false := beq_eq_false_iff_ne.2 hl
    have d3b : (p.length != q.length) = true := by rw [bne, d3]; rfl
    have HT : Hid (t = false) := Lib.hid (by cases t; (· rfl); exact absurd (ht.out.1 rfl).2.1 hl)
    have HL := Lib.hid hl
    clear hl ht
    have E1 : Hid (Env D w [(w.heap.size + 1, 39, [.int .i64 m, .slice ya q.length yk]), (w.heap.size, 39, [.int .i64 m, .slice xa p.length xk])] [.rw (.slice ya q.length yk) q.length 32 q.flatten, .rw (.slice xa p.length xk) p.length 32 p.flatten] _) := Lib.hid (((E0.out.push 39 [.int .i64 m, .slice xa p.length xk] (w.heap.size) (by simp)).push 39 [.int .i64 m, .slice ya q.length yk] (w.heap.size + 1) (by simp)))
    have hfin := Lib.hid E1.out.bel
    go_wp2
    go_ret
    exact ⟨RetEqB HT.out.symm, hfin.out⟩
  have d2 : ((p.length : Int) == (q.length : Int)) = true := beq_iff_eq.2 (by omega)
  have d2b : ((p.length : Int) != (q.length : Int)) = false := by rw [bne, d2]; rfl
  have d3 : (p.length == q.length) = true := beq_iff_eq.2 hl
  have d3b : (p.length != q.length) = false := by rw [bne, d3]; rfl
  have HL := Lib.hid hl
  clear hl
  go_wp2_with fail
  have E1 : Hid (Env D w [(w.heap.size + 1, 39, [.int .i64 m, .slice ya q.length yk]), (w.heap.size, 39, [.int .i64 m, .slice xa p.length xk])] [.rw (.slice ya q.length yk) q.length 32 q.flatten, .rw (.slice xa p.length xk) p.length 32 p.flatten] _) := Lib.hid (((E0.out.push 39 [.int .i64 m, .slice xa p.length xk] (w.heap.size) (by simp)).push 39 [.int .i64 m, .slice ya q.length yk] (w.heap.size + 1) (by simp)))
  go_loopg [5] (p.length) (fun gk s5 wr => ∃ (i : Nat), s5 = .int .i64 (i : Int) ∧ Hid (Env D w [(w.heap.size + 1, 39, [.int .i64 m, .slice ya q.length yk]), (w.heap.size, 39, [.int .i64 m, .slice xa p.length xk])] [.rw (.slice ya q.length yk) q.length 32 q.flatten, .rw (.slice xa p.length xk) p.length 32 p.flatten] wr) ∧ Hid ((i ≤ p.length ∧ gk = p.length - i) ∧ (∀ j (h : j < p.length) (h' : j < q.length), j < i → eqc 27 p[j] q[j])))
  case atStart => exact ⟨0, rfl, Lib.hid E1.out, Lib.hid ⟨⟨Nat.zero_le _, rfl⟩, fun j _ _ h => absurd h (Nat.not_lt_zero _)⟩⟩
  case round =>
    clear E0 E1 d1 d1b d2 d2b d3 d3b
    obtain ⟨i, rfl, EL, HA⟩ := hrel
    obtain ⟨⟨a1, a2⟩, a3⟩ := HA.out
    have HS := Lib.hid a3
    clear a3 HA
    by_cases hy : i = p.length
    · have t6 : decide ((i : Int) < (p.length : Int)) = false := decide_eq_false (by omega)
      have t7 : decide (i < p.length) = false := decide_eq_false (by omega)
      have HT : Hid (t = true) := Lib.hid (ht.out.2 ⟨by simp, HL.out, fun k h h' => HS.out k h h' (by omega)⟩)
      have HY := Lib.hid hy
      clear hy
      have b1 := EL.out.bx 1 rfl
      have c1_1 := b1.cell 1 rfl
      clear b1
      have hfin := Lib.hid EL.out.bel
      go_wp2
      go_ret
      exact ⟨RetEqB HT.out.symm, hfin.out⟩
    have hi : i < p.length := lt_of hy a1
    have hj : i < q.length := by have := HL.out; omega
    have t6 : decide ((i : Int) < (p.length : Int)) = true := decide_eq_true (by omega)
    have t7 : decide (i < p.length) = true := decide_eq_true hi
    have hiI : (i : Int) < (p.length : Int) := by omega
    have hjI : (i : Int) < (q.length : Int) := by omega
    clear hy
    have b1 := EL.out.bx 1 rfl
    have c1_1 := b1.cell 1 rfl
    clear b1
    go_upto_region 6 with (fail)
    obtain ⟨xb, xo, rfl⟩ := Rw.addr (EL.out.fc 1 rfl) (by omega)
    obtain ⟨yb, yo, rfl⟩ := Rw.addr (EL.out.fc 0 rfl) (by omega)
    obtain ⟨c, hc⟩ : ∃ c, p[i] = c := ⟨_, rfl⟩
    obtain ⟨c2, hc2⟩ : ∃ c2, q[i] = c2 := ⟨_, rfl⟩
    have KC : Hid (okc 27 c) := Lib.hid (by rw [← hc]; exact hp.out _ (List.getElem_mem hi))
    have KD : Hid (okc 27 c2) := Lib.hid (by rw [← hc2]; exact hq.out _ (List.getElem_mem hj))
    obtain ⟨b, bh⟩ : ∃ b : Bool, b = true ↔ eqc 27 c c2 := by by_cases h : eqc 27 c c2; (· exact ⟨true, ⟨fun _ => h, fun _ => rfl⟩⟩); exact ⟨false, ⟨fun h2 => Bool.noConfusion h2, fun h2 => absurd h2 h⟩⟩
    have HN := neq_pl wHash KC.out KD.out bh
    have HB := Lib.hid bh
    have HC := Lib.hid hc
    have HC2 := Lib.hid hc2
    clear hc hc2 bh
    go_wp2_with fail
    have E2 : Hid (Env D w [(w.heap.size + 1, 39, [.int .i64 m, .slice (some ⟨yb, yo, none⟩) q.length yk]), (w.heap.size, 39, [.int .i64 m, .slice (some ⟨xb, xo, none⟩) p.length xk])] [.rw (.slice (some ⟨yb, yo, none⟩) q.length yk) q.length 32 q.flatten, .rw (.slice (some ⟨xb, xo, none⟩) p.length xk) p.length 32 p.flatten] (wr.drew)) := Lib.hid EL.out.drew
    clear c1_1 EL
    refine wp_regionU (S := fun w' => w'.cell? ⟨w.heap.size, 1, none⟩ = some (.slice (some ⟨xb, xo, none⟩) p.length xk) ∧ w'.cell? ⟨w.heap.size + 1, 1, none⟩ = some (.slice (some ⟨yb, yo, none⟩) q.length yk) ∧ w'.rangeAt xb (xo + i * 32) c ∧ w'.rangeAt yb (yo + i * 32) c2) [] (by kernel_rfl) (⟨((E2.out.bx 1 rfl).cell 1 rfl), ((E2.out.bx 0 rfl).cell 1 rfl), (by have h := (E2.out.fc 1 rfl).whole rfl hp.out.len hi; rw [HC.out] at h; exact h), (by have h := (E2.out.fc 0 rfl).whole rfl hq.out.len hj; rw [HC2.out] at h; exact h)⟩) (fun hHeld => ?_)
    generalize wr.drew = w1 at *
    refine uTake (i := 0) (some 27) (v := ?_) rfl rfl (by kernel_rfl) (by kernel_rfl) (by kernel_rfl) (by kernel_rfl) (fun _ _ _ h => h) (by rfl) (by assumption) ?_ ?_
    rotate_left
    · (intro wS hSw; (try dsimp only at hSw); go_simp; try with_reducible rfl)
    try simp only [Act.put, List.setIfInBounds_toArray, List.set_cons_zero, List.set_cons_succ]
    refine uTake (i := 1) (some 28) (v := ?_) rfl rfl (by kernel_rfl) (by kernel_rfl) (by kernel_rfl) (by kernel_rfl) (fun _ _ _ h => h) (by rfl) (by assumption) ?_ ?_
    rotate_left
    · (intro wS hSw; (try dsimp only at hSw); go_simp; try with_reducible rfl)
    try simp only [Act.put, List.setIfInBounds_toArray, List.set_cons_zero, List.set_cons_succ]
    refine uTake (i := 2) (some 29) (v := ?_) rfl rfl (by kernel_rfl) (by kernel_rfl) (by kernel_rfl) (by kernel_rfl) (fun _ _ _ h => h) (by rfl) (by assumption) ?_ ?_
    rotate_left
    · (intro wS hSw; (try dsimp only at hSw); go_simp; try with_reducible rfl)
    try simp only [Act.put, List.setIfInBounds_toArray, List.set_cons_zero, List.set_cons_succ]
    refine uTake (i := 3) (some 30) (v := ?_) rfl rfl (by kernel_rfl) (by kernel_rfl) (by kernel_rfl) (by kernel_rfl) (fun _ _ _ h => h) (by rfl) (by assumption) ?_ ?_
    rotate_left
    · (intro wS hSw; (try dsimp only at hSw); go_simp; try with_reducible rfl)
    try simp only [Act.put, List.setIfInBounds_toArray, List.set_cons_zero, List.set_cons_succ]
    refine uTake (i := 4) (some 31) (v := .agg c.toArray) rfl rfl (by kernel_rfl) (by kernel_rfl) (by kernel_rfl) (by kernel_rfl) (fun _ _ _ h => h) (by rfl) (by assumption) ?_ ?_
    · (intro wS hSw; (try dsimp only at hSw); revert hSw; (try simp only [and_imp]); intros; exact exec_load_w wHash _ rfl xb (xo + i * 32) rfl c KC.out (by assumption))
    try simp only [Act.put, List.setIfInBounds_toArray, List.set_cons_zero, List.set_cons_succ]
    refine uTake (i := 5) (some 32) (v := ?_) rfl rfl (by kernel_rfl) (by kernel_rfl) (by kernel_rfl) (by kernel_rfl) (fun _ _ _ h => h) (by rfl) (by assumption) ?_ ?_
    rotate_left
    · (intro wS hSw; (try dsimp only at hSw); go_simp; try with_reducible rfl)
    try simp only [Act.put, List.setIfInBounds_toArray, List.set_cons_zero, List.set_cons_succ]
    refine uTake (i := 6) (some 33) (v := ?_) rfl rfl (by kernel_rfl) (by kernel_rfl) (by kernel_rfl) (by kernel_rfl) (fun _ _ _ h => h) (by rfl) (by assumption) ?_ ?_
    rotate_left
    · (intro wS hSw; (try dsimp only at hSw); go_simp; try with_reducible rfl)
    try simp only [Act.put, List.setIfInBounds_toArray, List.set_cons_zero, List.set_cons_succ]
    refine uTake (i := 7) (some 34) (v := ?_) rfl rfl (by kernel_rfl) (by kernel_rfl) (by kernel_rfl) (by kernel_rfl) (fun _ _ _ h => h) (by rfl) (by assumption) ?_ ?_
    rotate_left
    · (intro wS hSw; (try dsimp only at hSw); go_simp; try with_reducible rfl)
    try simp only [Act.put, List.setIfInBounds_toArray, List.set_cons_zero, List.set_cons_succ]
    refine uTake (i := 8) (some 35) (v := ?_) rfl rfl (by kernel_rfl) (by kernel_rfl) (by kernel_rfl) (by kernel_rfl) (fun _ _ _ h => h) (by rfl) (by assumption) ?_ ?_
    rotate_left
    · (intro wS hSw; (try dsimp only at hSw); go_simp; try with_reducible rfl)
    try simp only [Act.put, List.setIfInBounds_toArray, List.set_cons_zero, List.set_cons_succ]
    refine uTake (i := 9) (some 36) (v := .agg c2.toArray) rfl rfl (by kernel_rfl) (by kernel_rfl) (by kernel_rfl) (by kernel_rfl) (fun _ _ _ h => h) (by rfl) (by assumption) ?_ ?_
    · (intro wS hSw; (try dsimp only at hSw); revert hSw; (try simp only [and_imp]); intros; exact exec_load_w wHash _ rfl yb (yo + i * 32) rfl c2 KD.out (by assumption))
    try simp only [Act.put, List.setIfInBounds_toArray, List.set_cons_zero, List.set_cons_succ]
    refine uTake (i := 10) (some 37) (v := .bool (!b)) rfl rfl (by kernel_rfl) (by kernel_rfl) (by kernel_rfl) (by kernel_rfl) (fun _ _ _ h => h) (by rfl) (by assumption) ?_ ?_
    · (intro wS hSw; (try dsimp only at hSw); go_simp; try with_reducible rfl)
    try simp only [Act.put, List.setIfInBounds_toArray, List.set_cons_zero, List.set_cons_succ]
    refine uDone (by kernel_rfl) ?_ _
    cases b with
    | false =>
      have HT : Hid (t = false) := Lib.hid (by cases t; (· rfl); exfalso; have h := (ht.out.1 rfl).2; have h2 := h.2 i hi hj; rw [HC.out, HC2.out] at h2; exact absurd (HB.out.2 h2) (by decide))
      have hfin := Lib.hid E2.out.bel
      go_wp2
      go_ret
      exact ⟨RetEqB HT.out.symm, hfin.out⟩
    | true =>
      have HS2 : Hid (∀ j (h : j < p.length) (h' : j < q.length), j < i + 1 → eqc 27 p[j] q[j]) := Lib.hid (fun j h h' hji => by by_cases e : j = i; (· subst e; rw [HC.out, HC2.out]; exact HB.out.1 rfl); exact HS.out j h h' (by omega))
      have EZ := Lib.hid E2.out
      go_wp2
      go_roundg (p.length - (i + 1))
      case rel => exact ⟨i + 1, rfl, EZ, Lib.hid ⟨⟨by omega, rfl⟩, HS2.out⟩⟩
      case measure => exact by omega
set_option maxRecDepth 100000 in
set_option maxHeartbeats 4000000 in
theorem same32_c {D : Nat → Prop} (s t : Sp) {la pa lb pb : Value} {w : World} (hs : Fct.at w D (.gn (gSp s la pa))) (ht : Fct.at w D (.gn (gSp t lb pb))) (fs0 : s.lv.length ≤ 1000000 ∧ s.pa.length ≤ 1000000) (ft0 : t.lv.length ≤ 1000000 ∧ t.pa.length ≤ 1000000) {r : Bool} (hr0 : r = true ↔ s = t) :
    Calls Try.prog 26 #[.agg (spc s la pa).toArray, .agg (spc t lb pb).toArray] w fun e w' => e = .returned (.bool r) ∧ Below w.heap.size w w' := by
  have E0 : Hid (Env D w [] [.gn (gSp t lb pb), .gn (gSp s la pa)] w) := Lib.hid (((Env.start D w).arg (.gn (gSp s la pa)) hs).arg (.gn (gSp t lb pb)) ht)
  clear hs ht
  go_enter Try.func26, Try.ntmps26
  have fs := Lib.hid fs0
  have ft := Lib.hid ft0
  have hr := Lib.hid hr0
  clear fs0 ft0 hr0
  have HS := Lib.hid (E0.out.spOk 1 rfl)
  have HT := Lib.hid (E0.out.spOk 0 rfl)
  obtain ⟨xa, xk, xc, xj, rfl, rfl, E10⟩ := E0.out.elS 1 rfl
  have E1 : Hid (Env D w [] [.rw (.slice xa s.lv.length xk) s.lv.length 3 (lcl s.lv), .rw (.slice xc s.pa.length xj) s.pa.length 32 s.pa.flatten, .gn (gSp t lb pb), .gn (gSp s (.slice xa s.lv.length xk) (.slice xc s.pa.length xj))] _) := Lib.hid E10
  clear E10 E0
  obtain ⟨ya, yk, yc, yj, rfl, rfl, E20⟩ := E1.out.elS 2 rfl
  have E2 : Hid (Env D w [] [.rw (.slice ya t.lv.length yk) t.lv.length 3 (lcl t.lv), .rw (.slice yc t.pa.length yj) t.pa.length 32 t.pa.flatten, .rw (.slice xa s.lv.length xk) s.lv.length 3 (lcl s.lv), .rw (.slice xc s.pa.length xj) s.pa.length 32 s.pa.flatten, .gn (gSp t (.slice ya t.lv.length yk) (.slice yc t.pa.length yj)), .gn (gSp s (.slice xa s.lv.length xk) (.slice xc s.pa.length xj))] _) := Lib.hid E20
  clear E20 E1
  go_upto_region 1 with (fail)
  have E3 : Hid (Env D w [(w.heap.size + 1, 41, spc t (.slice ya t.lv.length yk) (.slice yc t.pa.length yj)), (w.heap.size, 41, spc s (.slice xa s.lv.length xk) (.slice xc s.pa.length xj))] [.rw (.slice ya t.lv.length yk) t.lv.length 3 (lcl t.lv), .rw (.slice yc t.pa.length yj) t.pa.length 32 t.pa.flatten, .rw (.slice xa s.lv.length xk) s.lv.length 3 (lcl s.lv), .rw (.slice xc s.pa.length xj) s.pa.length 32 s.pa.flatten, .gn (gSp t (.slice ya t.lv.length yk) (.slice yc t.pa.length yj)), .gn (gSp s (.slice xa s.lv.length xk) (.slice xc s.pa.length xj))] _) := Lib.hid (((E2.out.push 41 (spc s (.slice xa s.lv.length xk) (.slice xc s.pa.length xj)) (w.heap.size) (by simp)).push 41 (spc t (.slice ya t.lv.length yk) (.slice yc t.pa.length yj)) (w.heap.size + 1) (by simp)))
  clear E2
  generalize (w.alloc (.cells (spc s (.slice xa s.lv.length xk) (.slice xc s.pa.length xj)).toArray 41)).alloc (.cells (spc t (.slice ya t.lv.length yk) (.slice yc t.pa.length yj)).toArray 41) = w1 at *
  obtain ⟨c1, c1h⟩ : ∃ b : Bool, b = true ↔ s.cn = t.cn := by by_cases h : s.cn = t.cn; (· exact ⟨true, ⟨fun _ => h, fun _ => rfl⟩⟩); exact ⟨false, ⟨fun h2 => Bool.noConfusion h2, fun h2 => absurd h2 h⟩⟩
  have c1q := neq_pl wCoin HS.out.cn HT.out.cn (c1h.trans (eqc_iff tCoin HS.out.cn HT.out.cn).symm)
  have c1H := Lib.hid c1h
  clear c1h
  obtain ⟨c2, c2h⟩ : ∃ b : Bool, b = true ↔ s.nd = t.nd := by by_cases h : s.nd = t.nd; (· exact ⟨true, ⟨fun _ => h, fun _ => rfl⟩⟩); exact ⟨false, ⟨fun h2 => Bool.noConfusion h2, fun h2 => absurd h2 h⟩⟩
  have c2q := neq_pl wNode HS.out.nd HT.out.nd (c2h.trans (eqc_iff tNode HS.out.nd HT.out.nd).symm)
  have c2H := Lib.hid c2h
  clear c2h
  obtain ⟨c3, c3h⟩ : ∃ b : Bool, b = true ↔ s.cx = t.cx := by by_cases h : s.cx = t.cx; (· exact ⟨true, ⟨fun _ => h, fun _ => rfl⟩⟩); exact ⟨false, ⟨fun h2 => Bool.noConfusion h2, fun h2 => absurd h2 h⟩⟩
  have c3q := neq_pl wCtx HS.out.cx HT.out.cx (c3h.trans (eqc_iff tCtx HS.out.cx HT.out.cx).symm)
  have c3H := Lib.hid c3h
  clear c3h
  obtain ⟨c4, c4h⟩ : ∃ b : Bool, b = true ↔ s.lv.length = t.lv.length := by by_cases h : s.lv.length = t.lv.length; (· exact ⟨true, ⟨fun _ => h, fun _ => rfl⟩⟩); exact ⟨false, ⟨fun h2 => Bool.noConfusion h2, fun h2 => absurd h2 h⟩⟩
  have c4q : ((s.lv.length : Int) != (t.lv.length : Int)) = !c4 := by rw [bne]; congr 1; rw [Bool.eq_iff_iff, c4h, beq_iff_eq]; omega
  have c4p : (s.lv.length != t.lv.length) = !c4 := by rw [bne]; congr 1; rw [Bool.eq_iff_iff, c4h, beq_iff_eq]
  have c4H := Lib.hid c4h
  clear c4h
  obtain ⟨c5, c5h⟩ : ∃ b : Bool, b = true ↔ (s.pi = t.pi ∧ samePa s.pa t.pa) := by by_cases h : (s.pi = t.pi ∧ samePa s.pa t.pa); (· exact ⟨true, ⟨fun _ => h, fun _ => rfl⟩⟩); exact ⟨false, ⟨fun h2 => Bool.noConfusion h2, fun h2 => absurd h2 h⟩⟩
  have c5H := Lib.hid c5h
  clear c5h
  cases c1 with
  | false =>
    have HR : Hid (r = false) := Lib.hid (by cases r; (· rfl); exact absurd (hr.out.1 rfl) (fun e => absurd (c1H.out.2 (by rw [e])) (by decide)))
    have b1 := E3.out.bx 1 rfl
    have r1 := Lib.hid (b1.range (o := 0) (spc_cn HS.out _ _))
    clear b1
    have b2 := E3.out.bx 0 rfl
    have r2 := Lib.hid (b2.range (o := 0) (spc_cn HT.out _ _))
    clear b2
    have hfin := Lib.hid E3.out.bel
    go_wp2_with (first | (with_reducible refine wpl_load_w wCoin w.heap.size 0 ?_ ?_ s.cn HS.out.cn r1.out ?_; (· exact ⟨_, rfl, rfl⟩); (· kernel_rfl)) | (with_reducible refine wpl_load_w wCoin (w.heap.size + 1) 0 ?_ ?_ t.cn HT.out.cn r2.out ?_; (· exact ⟨_, rfl, rfl⟩); (· kernel_rfl)))
    go_ret
    exact ⟨RetEqB HR.out.symm, hfin.out⟩
  | true =>
    cases c2 with
    | false =>
      have HR : Hid (r = false) := Lib.hid (by cases r; (· rfl); exact absurd (hr.out.1 rfl) (fun e => absurd (c2H.out.2 (by rw [e])) (by decide)))
      have b1 := E3.out.bx 1 rfl
      have r1 := Lib.hid (b1.range (o := 0) (spc_cn HS.out _ _))
      clear b1
      have b2 := E3.out.bx 0 rfl
      have r2 := Lib.hid (b2.range (o := 0) (spc_cn HT.out _ _))
      clear b2
      have b3 := E3.out.bx 1 rfl
      have r3 := Lib.hid (b3.range (o := 41) (spc_nd HS.out _ _))
      clear b3
      have b4 := E3.out.bx 0 rfl
      have r4 := Lib.hid (b4.range (o := 41) (spc_nd HT.out _ _))
      clear b4
      have hfin := Lib.hid E3.out.bel
      go_wp2_with (first | (with_reducible refine wpl_load_w wCoin w.heap.size 0 ?_ ?_ s.cn HS.out.cn r1.out ?_; (· exact ⟨_, rfl, rfl⟩); (· kernel_rfl)) | (with_reducible refine wpl_load_w wCoin (w.heap.size + 1) 0 ?_ ?_ t.cn HT.out.cn r2.out ?_; (· exact ⟨_, rfl, rfl⟩); (· kernel_rfl)) | (with_reducible refine wpl_load_w wNode w.heap.size 41 ?_ ?_ s.nd HS.out.nd r3.out ?_; (· exact ⟨_, rfl, rfl⟩); (· kernel_rfl)) | (with_reducible refine wpl_load_w wNode (w.heap.size + 1) 41 ?_ ?_ t.nd HT.out.nd r4.out ?_; (· exact ⟨_, rfl, rfl⟩); (· kernel_rfl)))
      go_ret
      exact ⟨RetEqB HR.out.symm, hfin.out⟩
    | true =>
      cases c3 with
      | false =>
        have HR : Hid (r = false) := Lib.hid (by cases r; (· rfl); exact absurd (hr.out.1 rfl) (fun e => absurd (c3H.out.2 (by rw [e])) (by decide)))
        have b1 := E3.out.bx 1 rfl
        have r1 := Lib.hid (b1.range (o := 0) (spc_cn HS.out _ _))
        clear b1
        have b2 := E3.out.bx 0 rfl
        have r2 := Lib.hid (b2.range (o := 0) (spc_cn HT.out _ _))
        clear b2
        have b3 := E3.out.bx 1 rfl
        have r3 := Lib.hid (b3.range (o := 41) (spc_nd HS.out _ _))
        clear b3
        have b4 := E3.out.bx 0 rfl
        have r4 := Lib.hid (b4.range (o := 41) (spc_nd HT.out _ _))
        clear b4
        have b5 := E3.out.bx 1 rfl
        have r5 := Lib.hid (b5.range (o := 43) (spc_cx HS.out _ _))
        clear b5
        have b6 := E3.out.bx 0 rfl
        have r6 := Lib.hid (b6.range (o := 43) (spc_cx HT.out _ _))
        clear b6
        have hfin := Lib.hid E3.out.bel
        go_wp2_with (first | (with_reducible refine wpl_load_w wCoin w.heap.size 0 ?_ ?_ s.cn HS.out.cn r1.out ?_; (· exact ⟨_, rfl, rfl⟩); (· kernel_rfl)) | (with_reducible refine wpl_load_w wCoin (w.heap.size + 1) 0 ?_ ?_ t.cn HT.out.cn r2.out ?_; (· exact ⟨_, rfl, rfl⟩); (· kernel_rfl)) | (with_reducible refine wpl_load_w wNode w.heap.size 41 ?_ ?_ s.nd HS.out.nd r3.out ?_; (· exact ⟨_, rfl, rfl⟩); (· kernel_rfl)) | (with_reducible refine wpl_load_w wNode (w.heap.size + 1) 41 ?_ ?_ t.nd HT.out.nd r4.out ?_; (· exact ⟨_, rfl, rfl⟩); (· kernel_rfl)) | (with_reducible refine wpl_load_w wCtx w.heap.size 43 ?_ ?_ s.cx HS.out.cx r5.out ?_; (· exact ⟨_, rfl, rfl⟩); (· kernel_rfl)) | (with_reducible refine wpl_load_w wCtx (w.heap.size + 1) 43 ?_ ?_ t.cx HT.out.cx r6.out ?_; (· exact ⟨_, rfl, rfl⟩); (· kernel_rfl)))
        go_ret
        exact ⟨RetEqB HR.out.symm, hfin.out⟩
      | true =>
        cases c4 with
        | false =>
          have HR : Hid (r = false) := Lib.hid (by cases r; (· rfl); exact absurd (hr.out.1 rfl) (fun e => absurd (c4H.out.2 (by rw [e])) (by decide)))
          have b1 := E3.out.bx 1 rfl
          have r1 := Lib.hid (b1.range (o := 0) (spc_cn HS.out _ _))
          clear b1
          have b2 := E3.out.bx 0 rfl
          have r2 := Lib.hid (b2.range (o := 0) (spc_cn HT.out _ _))
          clear b2
          have b3 := E3.out.bx 1 rfl
          have r3 := Lib.hid (b3.range (o := 41) (spc_nd HS.out _ _))
          clear b3
          have b4 := E3.out.bx 0 rfl
          have r4 := Lib.hid (b4.range (o := 41) (spc_nd HT.out _ _))
          clear b4
          have b5 := E3.out.bx 1 rfl
          have r5 := Lib.hid (b5.range (o := 43) (spc_cx HS.out _ _))
          clear b5
          have b6 := E3.out.bx 0 rfl
          have r6 := Lib.hid (b6.range (o := 43) (spc_cx HT.out _ _))
          clear b6
          have b7 := E3.out.bx 1 rfl
          have c7 := b7.cell 77 (spc_tail HS.out _ _).1
          clear b7
          have b8 := E3.out.bx 0 rfl
          have c8 := b8.cell 77 (spc_tail HT.out _ _).1
          clear b8
          have hfin := Lib.hid E3.out.bel
          go_wp2_with (first | (with_reducible refine wpl_load_w wCoin w.heap.size 0 ?_ ?_ s.cn HS.out.cn r1.out ?_; (· exact ⟨_, rfl, rfl⟩); (· kernel_rfl)) | (with_reducible refine wpl_load_w wCoin (w.heap.size + 1) 0 ?_ ?_ t.cn HT.out.cn r2.out ?_; (· exact ⟨_, rfl, rfl⟩); (· kernel_rfl)) | (with_reducible refine wpl_load_w wNode w.heap.size 41 ?_ ?_ s.nd HS.out.nd r3.out ?_; (· exact ⟨_, rfl, rfl⟩); (· kernel_rfl)) | (with_reducible refine wpl_load_w wNode (w.heap.size + 1) 41 ?_ ?_ t.nd HT.out.nd r4.out ?_; (· exact ⟨_, rfl, rfl⟩); (· kernel_rfl)) | (with_reducible refine wpl_load_w wCtx w.heap.size 43 ?_ ?_ s.cx HS.out.cx r5.out ?_; (· exact ⟨_, rfl, rfl⟩); (· kernel_rfl)) | (with_reducible refine wpl_load_w wCtx (w.heap.size + 1) 43 ?_ ?_ t.cx HT.out.cx r6.out ?_; (· exact ⟨_, rfl, rfl⟩); (· kernel_rfl)))
          go_ret
          exact ⟨RetEqB HR.out.symm, hfin.out⟩
        | true =>
          cases c5 with
          | false =>
            have HR : Hid (r = false) := Lib.hid (by cases r; (· rfl); exact absurd (hr.out.1 rfl) (fun e => absurd (c5H.out.2 (by rw [e]; exact ⟨rfl, rfl, fun _ _ _ => rfl⟩)) (by decide)))
            have b1 := E3.out.bx 1 rfl
            have r1 := Lib.hid (b1.range (o := 0) (spc_cn HS.out _ _))
            clear b1
            have b2 := E3.out.bx 0 rfl
            have r2 := Lib.hid (b2.range (o := 0) (spc_cn HT.out _ _))
            clear b2
            have b3 := E3.out.bx 1 rfl
            have r3 := Lib.hid (b3.range (o := 41) (spc_nd HS.out _ _))
            clear b3
            have b4 := E3.out.bx 0 rfl
            have r4 := Lib.hid (b4.range (o := 41) (spc_nd HT.out _ _))
            clear b4
            have b5 := E3.out.bx 1 rfl
            have r5 := Lib.hid (b5.range (o := 43) (spc_cx HS.out _ _))
            clear b5
            have b6 := E3.out.bx 0 rfl
            have r6 := Lib.hid (b6.range (o := 43) (spc_cx HT.out _ _))
            clear b6
            have b7 := E3.out.bx 1 rfl
            have c7 := b7.cell 77 (spc_tail HS.out _ _).1
            clear b7
            have b8 := E3.out.bx 0 rfl
            have c8 := b8.cell 77 (spc_tail HT.out _ _).1
            clear b8
            have b9 := E3.out.bx 1 rfl
            have c9 := b9.cell 78 (spc_tail HS.out _ _).2.1
            clear b9
            have b10 := E3.out.bx 1 rfl
            have c10 := b10.cell 79 (spc_tail HS.out _ _).2.2
            clear b10
            have b11 := E3.out.bx 0 rfl
            have c11 := b11.cell 78 (spc_tail HT.out _ _).2.1
            clear b11
            have b12 := E3.out.bx 0 rfl
            have c12 := b12.cell 79 (spc_tail HT.out _ _).2.2
            clear b12
            go_wp2_with (first | (with_reducible refine wpl_load_w wCoin w.heap.size 0 ?_ ?_ s.cn HS.out.cn r1.out ?_; (· exact ⟨_, rfl, rfl⟩); (· kernel_rfl)) | (with_reducible refine wpl_load_w wCoin (w.heap.size + 1) 0 ?_ ?_ t.cn HT.out.cn r2.out ?_; (· exact ⟨_, rfl, rfl⟩); (· kernel_rfl)) | (with_reducible refine wpl_load_w wNode w.heap.size 41 ?_ ?_ s.nd HS.out.nd r3.out ?_; (· exact ⟨_, rfl, rfl⟩); (· kernel_rfl)) | (with_reducible refine wpl_load_w wNode (w.heap.size + 1) 41 ?_ ?_ t.nd HT.out.nd r4.out ?_; (· exact ⟨_, rfl, rfl⟩); (· kernel_rfl)) | (with_reducible refine wpl_load_w wCtx w.heap.size 43 ?_ ?_ s.cx HS.out.cx r5.out ?_; (· exact ⟨_, rfl, rfl⟩); (· kernel_rfl)) | (with_reducible refine wpl_load_w wCtx (w.heap.size + 1) 43 ?_ ?_ t.cx HT.out.cx r6.out ?_; (· exact ⟨_, rfl, rfl⟩); (· kernel_rfl)))
            refine (same27_c s.pa t.pa s.pi t.pi (E3.out.fc 3 rfl) (E3.out.fc 1 rfl) HS.out.pa HT.out.pa (hm := ⟨fs.out.2, ft.out.2⟩) (t := false) (by first | exact c5H.out | simpa using c5H.out)).mono ?_
            rintro e w2 ⟨rfl, hb⟩
            have E4 : Hid (Env D w [(w.heap.size + 1, 41, spc t (.slice ya t.lv.length yk) (.slice yc t.pa.length yj)), (w.heap.size, 41, spc s (.slice xa s.lv.length xk) (.slice xc s.pa.length xj))] [.rw (.slice ya t.lv.length yk) t.lv.length 3 (lcl t.lv), .rw (.slice yc t.pa.length yj) t.pa.length 32 t.pa.flatten, .rw (.slice xa s.lv.length xk) s.lv.length 3 (lcl s.lv), .rw (.slice xc s.pa.length xj) s.pa.length 32 s.pa.flatten, .gn (gSp t (.slice ya t.lv.length yk) (.slice yc t.pa.length yj)), .gn (gSp s (.slice xa s.lv.length xk) (.slice xc s.pa.length xj))] w2) := Lib.hid (E3.out.below hb)
            clear r1 r2 r3 r4 r5 r6 c7 c8 c9 c10 c11 c12 E3 hb
            have hfin := Lib.hid E4.out.bel
            go_wp2
            go_ret
            exact ⟨RetEqB HR.out.symm, hfin.out⟩
          | true =>
            have b1 := E3.out.bx 1 rfl
            have r1 := Lib.hid (b1.range (o := 0) (spc_cn HS.out _ _))
            clear b1
            have b2 := E3.out.bx 0 rfl
            have r2 := Lib.hid (b2.range (o := 0) (spc_cn HT.out _ _))
            clear b2
            have b3 := E3.out.bx 1 rfl
            have r3 := Lib.hid (b3.range (o := 41) (spc_nd HS.out _ _))
            clear b3
            have b4 := E3.out.bx 0 rfl
            have r4 := Lib.hid (b4.range (o := 41) (spc_nd HT.out _ _))
            clear b4
            have b5 := E3.out.bx 1 rfl
            have r5 := Lib.hid (b5.range (o := 43) (spc_cx HS.out _ _))
            clear b5
            have b6 := E3.out.bx 0 rfl
            have r6 := Lib.hid (b6.range (o := 43) (spc_cx HT.out _ _))
            clear b6
            have b7 := E3.out.bx 1 rfl
            have c7 := b7.cell 77 (spc_tail HS.out _ _).1
            clear b7
            have b8 := E3.out.bx 0 rfl
            have c8 := b8.cell 77 (spc_tail HT.out _ _).1
            clear b8
            have b9 := E3.out.bx 1 rfl
            have c9 := b9.cell 78 (spc_tail HS.out _ _).2.1
            clear b9
            have b10 := E3.out.bx 1 rfl
            have c10 := b10.cell 79 (spc_tail HS.out _ _).2.2
            clear b10
            have b11 := E3.out.bx 0 rfl
            have c11 := b11.cell 78 (spc_tail HT.out _ _).2.1
            clear b11
            have b12 := E3.out.bx 0 rfl
            have c12 := b12.cell 79 (spc_tail HT.out _ _).2.2
            clear b12
            go_wp2_with (first | (with_reducible refine wpl_load_w wCoin w.heap.size 0 ?_ ?_ s.cn HS.out.cn r1.out ?_; (· exact ⟨_, rfl, rfl⟩); (· kernel_rfl)) | (with_reducible refine wpl_load_w wCoin (w.heap.size + 1) 0 ?_ ?_ t.cn HT.out.cn r2.out ?_; (· exact ⟨_, rfl, rfl⟩); (· kernel_rfl)) | (with_reducible refine wpl_load_w wNode w.heap.size 41 ?_ ?_ s.nd HS.out.nd r3.out ?_; (· exact ⟨_, rfl, rfl⟩); (· kernel_rfl)) | (with_reducible refine wpl_load_w wNode (w.heap.size + 1) 41 ?_ ?_ t.nd HT.out.nd r4.out ?_; (· exact ⟨_, rfl, rfl⟩); (· kernel_rfl)) | (with_reducible refine wpl_load_w wCtx w.heap.size 43 ?_ ?_ s.cx HS.out.cx r5.out ?_; (· exact ⟨_, rfl, rfl⟩); (· kernel_rfl)) | (with_reducible refine wpl_load_w wCtx (w.heap.size + 1) 43 ?_ ?_ t.cx HT.out.cx r6.out ?_; (· exact ⟨_, rfl, rfl⟩); (· kernel_rfl)))
            refine (same27_c s.pa t.pa s.pi t.pi (E3.out.fc 3 rfl) (E3.out.fc 1 rfl) HS.out.pa HT.out.pa (hm := ⟨fs.out.2, ft.out.2⟩) (t := true) (by first | exact c5H.out | simpa using c5H.out)).mono ?_
            rintro e w2 ⟨rfl, hb⟩
            have E4 : Hid (Env D w [(w.heap.size + 1, 41, spc t (.slice ya t.lv.length yk) (.slice yc t.pa.length yj)), (w.heap.size, 41, spc s (.slice xa s.lv.length xk) (.slice xc s.pa.length xj))] [.rw (.slice ya t.lv.length yk) t.lv.length 3 (lcl t.lv), .rw (.slice yc t.pa.length yj) t.pa.length 32 t.pa.flatten, .rw (.slice xa s.lv.length xk) s.lv.length 3 (lcl s.lv), .rw (.slice xc s.pa.length xj) s.pa.length 32 s.pa.flatten, .gn (gSp t (.slice ya t.lv.length yk) (.slice yc t.pa.length yj)), .gn (gSp s (.slice xa s.lv.length xk) (.slice xc s.pa.length xj))] w2) := Lib.hid (E3.out.below hb)
            clear r1 r2 r3 r4 r5 r6 c7 c8 c9 c10 c11 c12 E3 hb
            go_wp2_with fail
            go_loopg [5] (s.lv.length) (fun gk s5 wr => ∃ (i : Nat), s5 = .int .i64 (i : Int) ∧ Hid (Env D w [(w.heap.size + 1, 41, spc t (.slice ya t.lv.length yk) (.slice yc t.pa.length yj)), (w.heap.size, 41, spc s (.slice xa s.lv.length xk) (.slice xc s.pa.length xj))] [.rw (.slice ya t.lv.length yk) t.lv.length 3 (lcl t.lv), .rw (.slice yc t.pa.length yj) t.pa.length 32 t.pa.flatten, .rw (.slice xa s.lv.length xk) s.lv.length 3 (lcl s.lv), .rw (.slice xc s.pa.length xj) s.pa.length 32 s.pa.flatten, .gn (gSp t (.slice ya t.lv.length yk) (.slice yc t.pa.length yj)), .gn (gSp s (.slice xa s.lv.length xk) (.slice xc s.pa.length xj))] wr) ∧ Hid ((i ≤ s.lv.length ∧ gk = s.lv.length - i) ∧ (∀ j (h : j < s.lv.length) (h' : j < t.lv.length), j < i → s.lv[j] = t.lv[j])))
            case atStart => exact ⟨0, rfl, Lib.hid E4.out, Lib.hid ⟨⟨Nat.zero_le _, rfl⟩, fun j _ _ h => absurd h (Nat.not_lt_zero _)⟩⟩
            case round =>
              clear E4 c1q c2q c3q c4q c4p
              obtain ⟨i, rfl, EL, HA⟩ := hrel
              obtain ⟨⟨a1, a2⟩, a3⟩ := HA.out
              have HU := Lib.hid a3
              clear a3 HA
              have hl9 : s.lv.length = t.lv.length := by simpa using c4H.out
              have hm9 : s.lv.length ≤ 1000000 := fs.out.1
              by_cases hy : i = s.lv.length
              · have t6 : decide ((i : Int) < (s.lv.length : Int)) = false := decide_eq_false (by omega)
                have t7 : decide (i < s.lv.length) = false := decide_eq_false (by omega)
                have HR : Hid (r = true) := Lib.hid (hr.out.2 ((sameS_iff HS.out HT.out).1 (by unfold sameS; rw [eqc_iff tCoin HS.out.cn HT.out.cn, eqc_iff tNode HS.out.nd HT.out.nd, eqc_iff tCtx HS.out.cx HT.out.cx]; have h5 : s.pi = t.pi ∧ samePa s.pa t.pa := c5H.out.1 (by simp); exact ⟨c1H.out.1 (by simp), c2H.out.1 (by simp), c3H.out.1 (by simp), List.ext_getElem hl9 (fun k h h' => HU.out k h h' (by omega)), h5.1, h5.2⟩)))
                have HY := Lib.hid hy
                have HL9 := Lib.hid hl9
                clear hy hl9
                have b13 := EL.out.bx 1 rfl
                have c13 := b13.cell 77 (spc_tail HS.out _ _).1
                clear b13
                have hfin := Lib.hid EL.out.bel
                go_wp2
                go_ret
                exact ⟨RetEqB HR.out.symm, hfin.out⟩
              have hi : i < s.lv.length := lt_of hy a1
              have hj : i < t.lv.length := by omega
              have t6 : decide ((i : Int) < (s.lv.length : Int)) = true := decide_eq_true (by omega)
              have t7 : decide (i < s.lv.length) = true := decide_eq_true hi
              have hiI : (i : Int) < (s.lv.length : Int) := by omega
              have hjI : (i : Int) < (t.lv.length : Int) := by omega
              have HL9 := Lib.hid hl9
              clear hy hl9
              have b13 := EL.out.bx 1 rfl
              have c13 := b13.cell 77 (spc_tail HS.out _ _).1
              clear b13
              go_upto_region 6 with (fail)
              obtain ⟨xb, xo, rfl⟩ := Rw.addr (EL.out.fc 2 rfl) (by omega)
              obtain ⟨yb, yo, rfl⟩ := Rw.addr (EL.out.fc 0 rfl) (by omega)
              obtain ⟨⟨d0, d1, d2⟩, hc⟩ : ∃ c, s.lv[i] = c := ⟨_, rfl⟩
              obtain ⟨⟨e0, e1, e2⟩, he⟩ : ∃ c, t.lv[i] = c := ⟨_, rfl⟩
              obtain ⟨b, hb⟩ : ∃ b, (d0 == e0 && (d1 == e1 && d2 == e2)) = b := ⟨_, rfl⟩
              have HB : Hid (b = true ↔ s.lv[i] = t.lv[i]) := Lib.hid (by rw [hc, he, ← hb]; simp)
              have HC := Lib.hid hc
              have HE := Lib.hid he
              clear hc he
              go_wp2_with fail
              have E5 : Hid (Env D w [(w.heap.size + 1, 41, spc t (.slice (some ⟨yb, yo, none⟩) t.lv.length yk) (.slice yc t.pa.length yj)), (w.heap.size, 41, spc s (.slice (some ⟨xb, xo, none⟩) s.lv.length xk) (.slice xc s.pa.length xj))] [.rw (.slice (some ⟨yb, yo, none⟩) t.lv.length yk) t.lv.length 3 (lcl t.lv), .rw (.slice yc t.pa.length yj) t.pa.length 32 t.pa.flatten, .rw (.slice (some ⟨xb, xo, none⟩) s.lv.length xk) s.lv.length 3 (lcl s.lv), .rw (.slice xc s.pa.length xj) s.pa.length 32 s.pa.flatten, .gn (gSp t (.slice (some ⟨yb, yo, none⟩) t.lv.length yk) (.slice yc t.pa.length yj)), .gn (gSp s (.slice (some ⟨xb, xo, none⟩) s.lv.length xk) (.slice xc s.pa.length xj))] (wr.drew)) := Lib.hid EL.out.drew
              clear c13 EL
              refine wp_regionU (S := fun w' => w'.cell? ⟨xb, xo + i * 3, none⟩ = some (.int .i64 d0) ∧ w'.cell? ⟨xb, xo + i * 3 + 1, none⟩ = some (.int .i64 d1) ∧ w'.cell? ⟨xb, xo + i * 3 + 2, none⟩ = some (.int .i64 d2) ∧ w'.cell? ⟨yb, yo + i * 3, none⟩ = some (.int .i64 e0) ∧ w'.cell? ⟨yb, yo + i * 3 + 1, none⟩ = some (.int .i64 e1) ∧ w'.cell? ⟨yb, yo + i * 3 + 2, none⟩ = some (.int .i64 e2) ∧ w'.cell? ⟨w.heap.size, 77, none⟩ = some (.slice (some ⟨xb, xo, none⟩) s.lv.length xk) ∧ w'.cell? ⟨w.heap.size + 1, 77, none⟩ = some (.slice (some ⟨yb, yo, none⟩) t.lv.length yk)) [] (by kernel_rfl) (⟨(by have h := ((E5.out.fc 2 rfl).triple rfl hi); rw [HC.out] at h; exact h.1), (by have h := ((E5.out.fc 2 rfl).triple rfl hi); rw [HC.out] at h; exact h.2.1), (by have h := ((E5.out.fc 2 rfl).triple rfl hi); rw [HC.out] at h; exact h.2.2), (by have h := ((E5.out.fc 0 rfl).triple rfl hj); rw [HE.out] at h; exact h.1), (by have h := ((E5.out.fc 0 rfl).triple rfl hj); rw [HE.out] at h; exact h.2.1), (by have h := ((E5.out.fc 0 rfl).triple rfl hj); rw [HE.out] at h; exact h.2.2), ((E5.out.bx 1 rfl).cell 77 (spc_tail HS.out _ _).1), ((E5.out.bx 0 rfl).cell 77 (spc_tail HT.out _ _).1)⟩) (fun hHeld => ?_)
              generalize wr.drew = w3 at *
              refine uTake (i := 0) (some 49) (v := ?_) rfl rfl (by kernel_rfl) (by kernel_rfl) (by kernel_rfl) (by kernel_rfl) (fun _ _ _ h => h) (by rfl) (by assumption) ?_ ?_
              rotate_left
              · (intro wS hSw; (try dsimp only at hSw); go_simp; try with_reducible rfl)
              try simp only [Act.put, List.setIfInBounds_toArray, List.set_cons_zero, List.set_cons_succ]
              refine uTake (i := 1) (some 50) (v := ?_) rfl rfl (by kernel_rfl) (by kernel_rfl) (by kernel_rfl) (by kernel_rfl) (fun _ _ _ h => h) (by rfl) (by assumption) ?_ ?_
              rotate_left
              · (intro wS hSw; (try dsimp only at hSw); go_simp; try with_reducible rfl)
              try simp only [Act.put, List.setIfInBounds_toArray, List.set_cons_zero, List.set_cons_succ]
              refine uTake (i := 2) (some 51) (v := ?_) rfl rfl (by kernel_rfl) (by kernel_rfl) (by kernel_rfl) (by kernel_rfl) (fun _ _ _ h => h) (by rfl) (by assumption) ?_ ?_
              rotate_left
              · (intro wS hSw; (try dsimp only at hSw); go_simp; try with_reducible rfl)
              try simp only [Act.put, List.setIfInBounds_toArray, List.set_cons_zero, List.set_cons_succ]
              refine uTake (i := 3) (some 52) (v := ?_) rfl rfl (by kernel_rfl) (by kernel_rfl) (by kernel_rfl) (by kernel_rfl) (fun _ _ _ h => h) (by rfl) (by assumption) ?_ ?_
              rotate_left
              · (intro wS hSw; (try dsimp only at hSw); go_simp; try with_reducible rfl)
              try simp only [Act.put, List.setIfInBounds_toArray, List.set_cons_zero, List.set_cons_succ]
              refine uTake (i := 4) (some 53) (v := ?_) rfl rfl (by kernel_rfl) (by kernel_rfl) (by kernel_rfl) (by kernel_rfl) (fun _ _ _ h => h) (by rfl) (by assumption) ?_ ?_
              rotate_left
              · (intro wS hSw; (try dsimp only at hSw); go_simp; try with_reducible rfl)
              try simp only [Act.put, List.setIfInBounds_toArray, List.set_cons_zero, List.set_cons_succ]
              refine uTake (i := 5) (some 54) (v := ?_) rfl rfl (by kernel_rfl) (by kernel_rfl) (by kernel_rfl) (by kernel_rfl) (fun _ _ _ h => h) (by rfl) (by assumption) ?_ ?_
              rotate_left
              · (intro wS hSw; (try dsimp only at hSw); go_simp; try with_reducible rfl)
              try simp only [Act.put, List.setIfInBounds_toArray, List.set_cons_zero, List.set_cons_succ]
              refine uTake (i := 6) (some 55) (v := ?_) rfl rfl (by kernel_rfl) (by kernel_rfl) (by kernel_rfl) (by kernel_rfl) (fun _ _ _ h => h) (by rfl) (by assumption) ?_ ?_
              rotate_left
              · (intro wS hSw; (try dsimp only at hSw); go_simp; try with_reducible rfl)
              try simp only [Act.put, List.setIfInBounds_toArray, List.set_cons_zero, List.set_cons_succ]
              refine uTake (i := 7) (some 56) (v := ?_) rfl rfl (by kernel_rfl) (by kernel_rfl) (by kernel_rfl) (by kernel_rfl) (fun _ _ _ h => h) (by rfl) (by assumption) ?_ ?_
              rotate_left
              · (intro wS hSw; (try dsimp only at hSw); go_simp; try with_reducible rfl)
              try simp only [Act.put, List.setIfInBounds_toArray, List.set_cons_zero, List.set_cons_succ]
              refine uTake (i := 8) (some 57) (v := ?_) rfl rfl (by kernel_rfl) (by kernel_rfl) (by kernel_rfl) (by kernel_rfl) (fun _ _ _ h => h) (by rfl) (by assumption) ?_ ?_
              rotate_left
              · (intro wS hSw; (try dsimp only at hSw); go_simp; try with_reducible rfl)
              try simp only [Act.put, List.setIfInBounds_toArray, List.set_cons_zero, List.set_cons_succ]
              refine uTake (i := 9) (some 58) (v := ?_) rfl rfl (by kernel_rfl) (by kernel_rfl) (by kernel_rfl) (by kernel_rfl) (fun _ _ _ h => h) (by rfl) (by assumption) ?_ ?_
              rotate_left
              · (intro wS hSw; (try dsimp only at hSw); go_simp; try with_reducible rfl)
              try simp only [Act.put, List.setIfInBounds_toArray, List.set_cons_zero, List.set_cons_succ]
              refine uTake (i := 10) (some 59) (v := .bool (!b)) rfl rfl (by kernel_rfl) (by kernel_rfl) (by kernel_rfl) (by kernel_rfl) (fun _ _ _ h => h) (by rfl) (by assumption) ?_ ?_
              · (intro wS hSw; (try dsimp only at hSw); go_simp; rw [← hb]; by_cases h0 : d0 = e0 <;> by_cases h1 : d1 = e1 <;> by_cases h2 : d2 = e2 <;> simp [h0, h1, h2])
              try simp only [Act.put, List.setIfInBounds_toArray, List.set_cons_zero, List.set_cons_succ]
              refine uDone (by kernel_rfl) ?_ _
              cases b with
              | false =>
                have HR : Hid (r = false) := Lib.hid (by cases r; (· rfl); exfalso; have h := hr.out.1 rfl; subst h; exact absurd (HB.out.2 rfl) (by decide))
                have hfin := Lib.hid E5.out.bel
                go_wp2
                go_ret
                exact ⟨RetEqB HR.out.symm, hfin.out⟩
              | true =>
                have HU2 : Hid (∀ j (h : j < s.lv.length) (h' : j < t.lv.length), j < i + 1 → s.lv[j] = t.lv[j]) := Lib.hid (fun j h h' hji => by by_cases e : j = i; (· subst e; exact HB.out.1 rfl); exact HU.out j h h' (by omega))
                have EZ := Lib.hid E5.out
                go_wp2
                go_roundg (s.lv.length - (i + 1))
                case rel => exact ⟨i + 1, rfl, EZ, Lib.hid ⟨⟨by omega, rfl⟩, HU2.out⟩⟩
                case measure => exact by omega
end Go.Proofs.Ytfnnfmefihiefaa

/- specielaw39: letter, few, none. -/
import Derived.Test.YtbcfcdcomboljaaLinTc
namespace Go.Proofs.Ytbcfcdcomboljaa
open Go.RowKit
set_option linter.unusedVariables false
set_option linter.unusedSimpArgs false
def NL (ft : List (Int × Int)) : Lin := ⟨0, [], [], ft⟩
def goL (l : Lin) (now : Int) : Lin := ⟨now, l.L, l.ats, l.ft⟩
def Big (l : Lin) : Prop := (l.L.length ≤ 100000 ∧ l.ats.length ≤ 100000 ∧ l.ft.length ≤ 100000) ∧ ∀ k (h : k < l.L.length), l.L[k].body.length ≤ 1000000
def letterM (n : Int) : Msg := ⟨0, 1, 0, n, []⟩
def Few (l : Lin) : Prop := l.L.length ≤ 60 ∧ l.ats.length ≤ 60 ∧ l.ft.length ≤ 60 ∧ ∀ k (h : k < l.L.length), l.L[k].body.length ≤ 100
set_option maxRecDepth 100000 in
set_option maxHeartbeats 1000000 in
theorem letter_c {D : Nat → Prop} (n : Int) {w : World}   :
    Calls Try.prog 40 #[.int .i64 n] w fun e w' => RetM (fun b => D b ∨ w.heap.size ≤ b) (letterM n) e w' ∧ Below w.heap.size w w' := by
  have E0 := Lib.hid (Env.start D w)
  go_enter Try.func40, Try.ntmps40
  go_wp2
  have E1 := Lib.hid ((E0.out.push 24 [.int .i64 0, .int .i64 1, .int .i64 0, .int .i64 n, .slice none 0 0] (w.heap.size) (by simp)))
  have hfin := E1.out
  have q1 := (hfin.bx 0 rfl).cell 0 rfl
  have q2 := (hfin.bx 0 rfl).cell 1 rfl
  have q3 := (hfin.bx 0 rfl).cell 2 rfl
  have q4 := (hfin.bx 0 rfl).cell 3 rfl
  have q5 := (hfin.bx 0 rfl).cell 4 rfl
  exact bodyPost_ret (v := .agg #[.int .i64 0, .int .i64 1, .int .i64 0, .int .i64 n, .slice none 0 0]) (by simp [results, Try.results40, go_sem, q1, q2, q3, q4, q5]) rfl ⟨⟨none, 0, rfl, Lib.hid (Bs.nil _ _)⟩, hfin.bel⟩
set_option maxRecDepth 100000 in
set_option maxHeartbeats 1000000 in
theorem few1_c {D : Nat → Prop} (M : Msg) {xa : Option Addr} {xk : Nat} {w : World}  {t : Bool} (ht : decide ((100 : Int) < (M.body.length : Int)) = t) :
    Calls Try.prog 74 #[.agg #[.int .i64 M.fr, .int .i64 M.to_, .int .i64 M.kd, .int .i64 M.nm, .slice xa M.body.length xk]] w fun e w' => e = .returned (.bool t) ∧ Below w.heap.size w w' := by
  have E0 := Lib.hid (Env.start D w)
  go_enter Try.func74, Try.ntmps74
  subst ht
  have E1 := Lib.hid ((E0.out.push 24 [.int .i64 M.fr, .int .i64 M.to_, .int .i64 M.kd, .int .i64 M.nm, .slice xa M.body.length xk] (w.heap.size) (by simp)))
  have hfin := Lib.hid E1.out.bel
  go_wp2
  go_ret
  exact ⟨rfl, hfin.out⟩
set_option maxRecDepth 100000 in
set_option maxHeartbeats 1000000 in
theorem fewIx_c {D : Nat → Prop} (L : List Msg) {xa : Option Addr} {xj : Nat} {w : World} (hx : Fct.at w D (.ms (.slice xa L.length xj) L)) {r : Int} (hr0 : (r = -1 ∧ ∀ k (h : k < L.length), L[k].body.length ≤ 100) ∨ ∃ k : Nat, r = (k : Int) ∧ ∃ h : k < L.length, 100 < L[k].body.length ∧ ∀ j (h : j < L.length), j < k → L[j].body.length ≤ 100) (hl : L.length ≤ 1000000) :
    Calls Try.prog 89 #[.slice xa L.length xj, .func (.func 74) #[] #[]] w fun e w' => e = .returned (.int .i64 r) ∧ Below w.heap.size w w' := by
  have E0 := Lib.hid ((Env.start D w).arg (.ms (.slice xa L.length xj) L) hx)
  clear hx
  go_enter Try.func89, Try.ntmps89
  have hr := Lib.hid hr0
  clear hr0
  go_wp2_with fail
  go_loopg [8] (L.length) (fun gk s8 wr => ∃ (k : Nat), s8 = .int .i64 (k : Int) ∧ Hid (Env D w [] [.ms (.slice xa L.length xj) L] wr) ∧ Hid ((k ≤ L.length ∧ gk = L.length - k) ∧ ∀ j (h : j < L.length), j < k → L[j].body.length ≤ 100))
  case atStart => exact ⟨0, rfl, Lib.hid E0.out, Lib.hid ⟨⟨Nat.zero_le _, rfl⟩, fun j _ h => absurd h (Nat.not_lt_zero _)⟩⟩
  case round =>
    clear E0
    obtain ⟨k, rfl, EL, HA⟩ := hrel
    obtain ⟨⟨a1, a2⟩, a3⟩ := HA.out
    have HS := Lib.hid a3
    clear a3 HA
    by_cases hy : k = L.length
    rotate_left
    · have hk : k < L.length := by omega
      have t6 : decide ((k : Int) < (L.length : Int)) = true := decide_eq_true (by omega)
      have t7 : decide (k < L.length) = true := decide_eq_true hk
      clear hy
      obtain ⟨xab, xao, rfl⟩ := Ms.addr (EL.out.fc 0 rfl) hk
      obtain ⟨ua, uk, E10⟩ := EL.out.els 0 rfl (k) hk
      have E1 : Hid (Env D w [] [.ce xab (xao + k * 5) (.int .i64 L[k].fr), .ce xab (xao + k * 5 + 1) (.int .i64 L[k].to_), .ce xab (xao + k * 5 + 2) (.int .i64 L[k].kd), .ce xab (xao + k * 5 + 3) (.int .i64 L[k].nm), .ce xab (xao + k * 5 + 4) (.slice ua L[k].body.length uk), .bs (.slice ua L[k].body.length uk) L[k].body, .ms (.slice (some ⟨xab, xao, none⟩) L.length xj) L] _) := Lib.hid E10
      clear E10 EL
      have u0 := (E1.out.fc 0 rfl).2
      have u1 := (E1.out.fc 1 rfl).2
      have u2 := (E1.out.fc 2 rfl).2
      have u3 := (E1.out.fc 3 rfl).2
      have u4 := (E1.out.fc 4 rfl).2
      by_cases hb : 100 < L[k].body.length
      · have HB : Hid (decide ((100 : Int) < (L[k].body.length : Int)) = true) := Lib.hid (decide_eq_true (by omega))
        have HR : Hid (r = (k : Int)) := Lib.hid (by rcases hr.out with ⟨_, h9⟩ | ⟨j, rfl, hj, h8, h7⟩; (· have := h9 k hk; omega); rcases Nat.lt_trichotomy j k with e | e | e; (· have := HS.out j hj e; omega); (· rw [e]); (· have := h7 k hk e; omega))
        clear hb
        go_wp2_with fail
        refine (few1_c (D := (DF D w.heap.size [])) L[k] HB.out).mono ?_
        rintro e w1 ⟨rfl, hb⟩
        have E2 := Lib.hid (E1.out.below hb)
        clear u0 u1 u2 u3 u4 E1 hb
        have hfin := Lib.hid E2.out.bel
        go_wp2
        go_ret
        exact ⟨RI HR.out.symm, hfin.out⟩
      · have HB : Hid (decide ((100 : Int) < (L[k].body.length : Int)) = false) := Lib.hid (decide_eq_false (by omega))
        have HN : Hid (L[k].body.length ≤ 100) := Lib.hid (by omega)
        clear hb
        go_wp2_with fail
        refine (few1_c (D := (DF D w.heap.size [])) L[k] HB.out).mono ?_
        rintro e w1 ⟨rfl, hb⟩
        have E2 := Lib.hid (E1.out.below hb)
        clear u0 u1 u2 u3 u4 E1 hb
        have EZ := Lib.hid ((((((E2.out.forget).forget).forget).forget).forget).forget)
        go_wp2
        go_roundg (L.length - (k + 1))
        case rel => exact ⟨k + 1, rfl, EZ, Lib.hid ⟨⟨by omega, rfl⟩, fun j h hj => by by_cases e : j = k; (· subst e; exact HN.out); exact HS.out j h (by omega)⟩⟩
        case measure => exact by omega
    have t6 : decide ((k : Int) < (L.length : Int)) = false := decide_eq_false (by omega)
    have t7 : decide (k < L.length) = false := decide_eq_false (by omega)
    have HR : Hid (r = -1) := Lib.hid (by rcases hr.out with ⟨h9, _⟩ | ⟨j, rfl, hj, h8, h7⟩; (· exact h9); have := HS.out j hj (by omega); omega)
    have HY := Lib.hid hy
    clear hy
    have hfin := Lib.hid EL.out.bel
    go_wp2
    go_ret
    exact ⟨RI HR.out.symm, hfin.out⟩
set_option maxRecDepth 100000 in
set_option maxHeartbeats 1000000 in
theorem fewCf_t {D : Nat → Prop} (L : List Msg) {xa : Option Addr} {xj : Nat} {w : World} (hx : Fct.at w D (.ms (.slice xa L.length xj) L)) (hr0 : ∃ r : Nat, ∃ h : r < L.length, 100 < L[r].body.length ∧ ∀ j (h : j < L.length), j < r → L[j].body.length ≤ 100) (hl : L.length ≤ 1000000) :
    Calls Try.prog 73 #[.slice xa L.length xj, .func (.func 74) #[] #[]] w fun e w' => e = .returned (.bool true) ∧ Below w.heap.size w w' := by
  have E0 := Lib.hid ((Env.start D w).arg (.ms (.slice xa L.length xj) L) hx)
  clear hx
  go_enter Try.func73, Try.ntmps73
  have hr := Lib.hid hr0
  clear hr0
  obtain ⟨r, hrr⟩ := hr.out
  have HRR := Lib.hid hrr
  clear hr hrr
  have t1 : decide ((0 : Int) ≤ (r : Int)) = true := decide_eq_true (by omega)
  go_wp2_with fail
  refine (fewIx_c L (E0.out.fc 0 rfl) (.inr ⟨r, rfl, HRR.out⟩) hl).mono ?_
  rintro e w1 ⟨rfl, hb⟩
  have E1 := Lib.hid (E0.out.below hb)
  clear E0 hb
  have hfin := Lib.hid E1.out.bel
  go_wp2
  go_ret
  exact ⟨rfl, hfin.out⟩
set_option maxRecDepth 100000 in
set_option maxHeartbeats 1000000 in
theorem fewCf_f {D : Nat → Prop} (L : List Msg) {xa : Option Addr} {xj : Nat} {w : World} (hx : Fct.at w D (.ms (.slice xa L.length xj) L)) (hr0 : ∀ k (h : k < L.length), L[k].body.length ≤ 100) (hl : L.length ≤ 1000000) :
    Calls Try.prog 73 #[.slice xa L.length xj, .func (.func 74) #[] #[]] w fun e w' => e = .returned (.bool false) ∧ Below w.heap.size w w' := by
  have E0 := Lib.hid ((Env.start D w).arg (.ms (.slice xa L.length xj) L) hx)
  clear hx
  go_enter Try.func73, Try.ntmps73
  have hr := Lib.hid hr0
  clear hr0
  go_wp2_with fail
  refine (fewIx_c L (E0.out.fc 0 rfl) (.inl ⟨rfl, hr.out⟩) hl).mono ?_
  rintro e w1 ⟨rfl, hb⟩
  have E1 := Lib.hid (E0.out.below hb)
  clear E0 hb
  have hfin := Lib.hid E1.out.bel
  go_wp2
  go_ret
  exact ⟨rfl, hfin.out⟩
theorem few_least {L : List Msg} (h : ¬ ∀ k (h : k < L.length), L[k].body.length ≤ 100) : ∃ r : Nat, ∃ h : r < L.length, 100 < L[r].body.length ∧ ∀ j (h : j < L.length), j < r → L[j].body.length ≤ 100 := by
  have key : ∀ n, (∀ k (h : k < L.length), k < n → L[k].body.length ≤ 100) ∨ ∃ r : Nat, ∃ h : r < L.length, 100 < L[r].body.length ∧ ∀ j (h : j < L.length), j < r → L[j].body.length ≤ 100 := by
    intro n
    induction n with
    | zero => exact .inl fun k _ h => absurd h (Nat.not_lt_zero _)
    | succ n ih =>
      rcases ih with ih | ih
      · by_cases hn : n < L.length
        · by_cases hb : 100 < L[n].body.length
          · exact .inr ⟨n, hn, hb, ih⟩
          · refine .inl fun k hk hkn => ?_
            by_cases e : k = n
            · subst e; omega
            · exact ih k hk (by omega)
        · exact .inl fun k hk hkn => ih k hk (by omega)
      · exact .inr ih
  rcases key L.length with h1 | h1
  · exact absurd (fun k hk => h1 k hk hk) h
  · exact h1
theorem fewCf_c {L : List Msg} {t : Bool} (ht : (∀ k (h : k < L.length), L[k].body.length ≤ 100) ↔ t = false) {D : Nat → Prop} {xa : Option Addr} {xj : Nat} {w : World} (hx : Fct.at w D (.ms (.slice xa L.length xj) L)) (hl : L.length ≤ 1000000) :
    Calls Try.prog 73 #[.slice xa L.length xj, .func (.func 74) #[] #[]] w fun e w' => e = .returned (.bool t) ∧ Below w.heap.size w w' := by
  cases t with
  | false => exact fewCf_f L hx (ht.2 rfl) hl
  | true => exact fewCf_t L hx (few_least (fun h => by have := ht.1 h; cases this)) hl
set_option maxRecDepth 100000 in
set_option maxHeartbeats 1000000 in
theorem few_c {D : Nat → Prop} (l : Lin) {xa xb xc : Option Addr} {xj xk xm : Nat} {w : World} (h1 : Fct.at w D (.ms (.slice xa l.L.length xj) l.L)) (h2 : Fct.at w D (.rw (.slice xb l.ats.length xk) l.ats.length 1 (icl l.ats))) (h3 : Fct.at w D (.rw (.slice xc l.ft.length xm) l.ft.length 2 (fcl l.ft))) {t : Bool} (ht0 : Few l ↔ t = true) :
    Calls Try.prog 41 #[.agg #[.int .i64 l.nw, .slice xa l.L.length xj, .slice xb l.ats.length xk, .slice xc l.ft.length xm]] w fun e w' => e = .returned (.bool t) ∧ Below w.heap.size w w' := by
  have E0 := Lib.hid ((((Env.start D w).arg (.ms (.slice xa l.L.length xj) l.L) h1).arg (.rw (.slice xb l.ats.length xk) l.ats.length 1 (icl l.ats)) h2).arg (.rw (.slice xc l.ft.length xm) l.ft.length 2 (fcl l.ft)) h3)
  clear h1 h2 h3
  go_enter Try.func41, Try.ntmps41
  have ht := Lib.hid ht0
  clear ht0
  by_cases h0 : l.L.length ≤ 60
  rotate_left
  · have HF : Hid (t = false) := Lib.hid (by cases t with | false => rfl | true => exact absurd (ht.out.2 rfl) (by intro hh; exact h0 hh.1))
    have d0 : decide ((l.L.length : Int) ≤ 60) = false := decide_eq_false (by omega)
    clear h0
    have E1 := Lib.hid ((E0.out.push 64 [.int .i64 l.nw, .slice xa l.L.length xj, .slice xb l.ats.length xk, .slice xc l.ft.length xm] (w.heap.size) (by simp)))
    have hfin := Lib.hid E1.out.bel
    go_wp2
    go_ret
    exact ⟨RB HF.out.symm, hfin.out⟩
  have d0 : decide ((l.L.length : Int) ≤ 60) = true := decide_eq_true (by omega)
  by_cases h1 : l.ats.length ≤ 60
  rotate_left
  · have HF : Hid (t = false) := Lib.hid (by cases t with | false => rfl | true => exact absurd (ht.out.2 rfl) (by intro hh; exact h1 hh.2.1))
    have d1 : decide ((l.ats.length : Int) ≤ 60) = false := decide_eq_false (by omega)
    clear h1
    have E1 := Lib.hid ((E0.out.push 64 [.int .i64 l.nw, .slice xa l.L.length xj, .slice xb l.ats.length xk, .slice xc l.ft.length xm] (w.heap.size) (by simp)))
    have hfin := Lib.hid E1.out.bel
    go_wp2
    go_ret
    exact ⟨RB HF.out.symm, hfin.out⟩
  have d1 : decide ((l.ats.length : Int) ≤ 60) = true := decide_eq_true (by omega)
  by_cases h2 : l.ft.length ≤ 60
  rotate_left
  · have HF : Hid (t = false) := Lib.hid (by cases t with | false => rfl | true => exact absurd (ht.out.2 rfl) (by intro hh; exact h2 hh.2.2.1))
    have d2 : decide ((l.ft.length : Int) ≤ 60) = false := decide_eq_false (by omega)
    clear h2
    have E1 := Lib.hid ((E0.out.push 64 [.int .i64 l.nw, .slice xa l.L.length xj, .slice xb l.ats.length xk, .slice xc l.ft.length xm] (w.heap.size) (by simp)))
    have hfin := Lib.hid E1.out.bel
    go_wp2
    go_ret
    exact ⟨RB HF.out.symm, hfin.out⟩
  have d2 : decide ((l.ft.length : Int) ≤ 60) = true := decide_eq_true (by omega)
  by_cases h3 : ∀ k (h : k < l.L.length), l.L[k].body.length ≤ 100
  · have HT : Hid (t = true) := Lib.hid (ht.out.1 ⟨h0, h1, h2, h3⟩)
    have H3 := Lib.hid h3
    clear h3
    go_wp2_with fail
    have E1 := Lib.hid ((E0.out.push 64 [.int .i64 l.nw, .slice xa l.L.length xj, .slice xb l.ats.length xk, .slice xc l.ft.length xm] (w.heap.size) (by simp)))
    refine (fewCf_c (t := false) (by simp [H3.out]) (E1.out.fc 2 rfl) (by omega)).mono ?_
    rintro e w1 ⟨rfl, hb⟩
    have E2 := Lib.hid (E1.out.below hb)
    clear E0 E1 hb
    have hfin := Lib.hid E2.out.bel
    go_wp2
    go_ret
    exact ⟨RB HT.out.symm, hfin.out⟩
  · have HF : Hid (t = false) := Lib.hid (by cases t with | false => rfl | true => exact absurd (ht.out.2 rfl) (by intro hh; exact h3 hh.2.2.2))
    have H3 := Lib.hid h3
    clear h3
    go_wp2_with fail
    have E1 := Lib.hid ((E0.out.push 64 [.int .i64 l.nw, .slice xa l.L.length xj, .slice xb l.ats.length xk, .slice xc l.ft.length xm] (w.heap.size) (by simp)))
    refine (fewCf_c (t := true) ⟨fun h => absurd h H3.out, fun h => by cases h⟩ (E1.out.fc 2 rfl) (by omega)).mono ?_
    rintro e w1 ⟨rfl, hb⟩
    have E2 := Lib.hid (E1.out.below hb)
    clear E0 E1 hb
    have hfin := Lib.hid E2.out.bel
    go_wp2
    go_ret
    exact ⟨RB HF.out.symm, hfin.out⟩
set_option maxRecDepth 100000 in
set_option maxHeartbeats 1000000 in
theorem none_c {D : Nat → Prop} {xa xb xc : Option Addr} {xj xk xm : Nat} {w : World} (x1 : Fct.at w D (.ms (.slice xa (L0).L.length xj) (L0).L)) (x2 : Fct.at w D (.rw (.slice xb (L0).ats.length xk) (L0).ats.length 1 (icl (L0).ats))) (x3 : Fct.at w D (.rw (.slice xc (L0).ft.length xm) (L0).ft.length 2 (fcl (L0).ft)))  :
    Calls Try.prog 42 #[.agg #[.int .i64 (L0).nw, .slice xa (L0).L.length xj, .slice xb (L0).ats.length xk, .slice xc (L0).ft.length xm]] w fun e w' => e = .returned (.bool true) ∧ Below w.heap.size w w' := by
  have E0 := Lib.hid ((((Env.start D w).arg (.ms (.slice xa (L0).L.length xj) (L0).L) x1).arg (.rw (.slice xb (L0).ats.length xk) (L0).ats.length 1 (icl (L0).ats)) x2).arg (.rw (.slice xc (L0).ft.length xm) (L0).ft.length 2 (fcl (L0).ft)) x3)
  clear x1 x2 x3
  go_enter Try.func42, Try.ntmps42
  go_wp2_with fail
  have E1 := Lib.hid ((E0.out.push 64 [.int .i64 (L0).nw, .slice xa (L0).L.length xj, .slice xb (L0).ats.length xk, .slice xc (L0).ft.length xm] (w.heap.size) (by simp)))
  refine (rSame_c L0 (D := (DF D w.heap.size [(w.heap.size, 64, [.int .i64 (L0).nw, .slice xa (L0).L.length xj, .slice xb (L0).ats.length xk, .slice xc (L0).ft.length xm])])) (E1.out.fc 2 rfl) (E1.out.fc 1 rfl) (E1.out.fc 0 rfl) (Ms.nil _ _ : Fct.at _ _ (.ms (.slice none L0.L.length 0) L0.L)) (Rw.nil _ _ _ : Fct.at _ _ (.rw (.slice none L0.ats.length 0) L0.ats.length 1 (icl L0.ats))) (Rw.nil _ _ _ : Fct.at _ _ (.rw (.slice none L0.ft.length 0) L0.ft.length 2 (fcl L0.ft))) (by decide)).mono ?_
  rintro e w1 ⟨rfl, hb⟩
  have E2 := Lib.hid (E1.out.below hb)
  clear E0 E1 hb
  have hfin := Lib.hid E2.out.bel
  go_wp2
  go_ret
  exact ⟨rfl, hfin.out⟩
end Go.Proofs.Ytbcfcdcomboljaa

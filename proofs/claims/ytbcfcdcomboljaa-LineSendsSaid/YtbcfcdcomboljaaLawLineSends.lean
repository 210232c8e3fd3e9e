/- specielaw39: LineSends. -/
import Derived.Test.YtbcfcdcomboljaaLinLb
import Derived.Deep.DeepCutAuto
namespace Go.Proofs.Ytbcfcdcomboljaa
open Go.RowKit
set_option linter.unusedVariables false
set_option linter.unusedSimpArgs false
theorem big_ok {l : Lin} (h : LinOk l) : Big l := by
  obtain ⟨⟨_, h1, h2, h3⟩, _, hm, _⟩ := h
  refine ⟨⟨by omega, by omega, by omega⟩, fun k hk => ?_⟩
  have := (hm k hk (by omega)).1
  unfold msgOk at this
  simp only [Bool.and_eq_true, decide_eq_true_eq] at this
  omega
theorem first_ex (l : Lin) (pt : Int) : ∃ f, (∀ j, j < f → arrB l pt j = false) ∧ (f < l.L.length → arrB l pt f = true) := by
  have key : ∀ n, (∀ j, j < n → arrB l pt j = false) ∨ ∃ f, (∀ j, j < f → arrB l pt j = false) ∧ arrB l pt f = true := by
    intro n
    induction n with
    | zero => exact .inl fun j h => absurd h (Nat.not_lt_zero _)
    | succ n ih =>
      rcases ih with ih | ih
      · cases hc : arrB l pt n with
        | false => exact .inl fun j hj => by by_cases e : j = n; (· subst e; exact hc); exact ih j (by omega)
        | true => exact .inr ⟨n, ih, hc⟩
      · exact .inr ih
  rcases key l.L.length with h | ⟨f, h1, h2⟩
  · exact ⟨l.L.length, h, fun h => absurd h (Nat.lt_irrefl _)⟩
  · exact ⟨f, h1, fun _ => h2⟩
theorem fate_nat {l : Lin} (h : LinOk l) : ∃ (c : Nat) (d : Int), fate0 l = ((c : Int), d) := by
  have := (snd_bounds h).2.1.1
  exact ⟨(fate0 l).1.toNat, (fate0 l).2, by rw [Int.toNat_of_nonneg this]⟩
theorem first_none {l : Lin} {pt : Int} {f : Nat} (h1 : ∀ j, j < f → arrB l pt j = false) (h2 : ¬ f < l.L.length) : FirstIs l pt (-1) :=
  .inr ⟨rfl, fun j => by
    cases hc : arrB l pt j with
    | false => rfl
    | true => have := (arrB_lt hc).1; rw [h1 j (by omega)] at hc; cases hc⟩
theorem sl_bound {l : Lin} {M : Msg} {p c : Nat} {d : Int} (hb : Big l) (hp : PlaceIs l.ats (l.nw + d) p) (h2 : l.L.length = l.ats.length) (hf : ¬ 1000 < l.L.length + c) : (sendL l M p c d).L.length ≤ 1000000 ∧ (sendL l M p c d).ats.length ≤ 1000000 ∧ (sendL l M p c d).ft.length ≤ 1000000 := by
  obtain ⟨⟨b1, b2, b3⟩, _⟩ := hb
  have e1 : (sendL l M p c d).L.length = l.L.length + c := rep_len (by have := hp.1; omega) c M
  have e2 : (sendL l M p c d).ats.length = l.ats.length + c := rep_len hp.1 c _
  have e3 : (sendL l M p c d).ft.length = l.ft.length - 1 := List.length_drop
  omega
theorem rl_bound {l : Lin} {f : Nat} (hb : Big l) : (recvL l f).L.length ≤ 1000000 ∧ (recvL l f).ats.length ≤ 1000000 ∧ (recvL l f).ft.length ≤ 1000000 := by
  obtain ⟨⟨b1, b2, b3⟩, _⟩ := hb
  have e1 : (recvL l f).L.length ≤ l.L.length := List.length_eraseIdx_le _ _
  have e2 : (recvL l f).ats.length ≤ l.ats.length := List.length_eraseIdx_le _ _
  have e3 : (recvL l f).ft.length = l.ft.length := rfl
  omega
theorem rReceive_ok (l : Lin) (pt : Int) (f : Nat) {xa xb xc : Option Addr} {xj xk xm : Nat} {D : Nat → Prop} {w : World} (h1 : Fct.at w D (.ms (.slice xa l.L.length xj) l.L)) (h2 : Fct.at w D (.rw (.slice xb l.ats.length xk) l.ats.length 1 (icl l.ats))) (h3 : Fct.at w D (.rw (.slice xc l.ft.length xm) l.ft.length 2 (fcl l.ft))) (hb : Big l) (H2 : l.L.length = l.ats.length) (hn : f < l.L.length) (a1 : ∀ j, j < f → arrB l pt j = false) (a2 : arrB l pt f = true) : Calls Try.prog 48 #[.agg #[.int .i64 l.nw, .slice xa l.L.length xj, .slice xb l.ats.length xk, .slice xc l.ft.length xm], .int .i64 pt] w fun e w' => RetLMB (fun b => D b ∨ w.heap.size ≤ b) (recvL l f) l.L[f] true e w' ∧ Below w.heap.size w w' :=
  (rReceive_c l pt f l.L[f] h1 h2 h3 ⟨a1, fun _ => ⟨a2, fun _ => rfl⟩⟩ hb H2).mono fun _ _ h => ⟨h.1.1 hn, h.2⟩
theorem rReceive_none (l : Lin) (pt : Int) (f : Nat) {xa xb xc : Option Addr} {xj xk xm : Nat} {D : Nat → Prop} {w : World} (h1 : Fct.at w D (.ms (.slice xa l.L.length xj) l.L)) (h2 : Fct.at w D (.rw (.slice xb l.ats.length xk) l.ats.length 1 (icl l.ats))) (h3 : Fct.at w D (.rw (.slice xc l.ft.length xm) l.ft.length 2 (fcl l.ft))) (hb : Big l) (H2 : l.L.length = l.ats.length) (hn : ¬ f < l.L.length) (a1 : ∀ j, j < f → arrB l pt j = false) : Calls Try.prog 48 #[.agg #[.int .i64 l.nw, .slice xa l.L.length xj, .slice xb l.ats.length xk, .slice xc l.ft.length xm], .int .i64 pt] w fun e w' => RetLMB (fun b => D b ∨ w.heap.size ≤ b) L0 M0 false e w' ∧ Below w.heap.size w w' :=
  (rReceive_c l pt f M0 h1 h2 h3 ⟨a1, fun h => absurd h hn⟩ hb H2).mono fun _ _ h => ⟨h.1.2 hn, h.2⟩
set_option maxRecDepth 100000 in
set_option maxHeartbeats 1000000 in
theorem sends_s1 {D : Nat → Prop} (l : Lin) (M : Msg) (pt : Int) {xa xb xc : Option Addr} {xj xk xm : Nat} {ma : Option Addr} {mk : Nat} {w : World} (h1 : Fct.at w D (.ms (.slice xa l.L.length xj) l.L)) (h2 : Fct.at w D (.rw (.slice xb l.ats.length xk) l.ats.length 1 (icl l.ats))) (h3 : Fct.at w D (.rw (.slice xc l.ft.length xm) l.ft.length 2 (fcl l.ft))) (hm : Fct.at w D (.bs (.slice ma (M).body.length mk) (M).body)) (hF0 : ¬ Few l) (hh : l.L.length < 998) :
    Calls Try.prog 11 #[.agg #[.int .i64 l.nw, .slice xa l.L.length xj, .slice xb l.ats.length xk, .slice xc l.ft.length xm], .agg #[.int .i64 M.fr, .int .i64 M.to_, .int .i64 M.kd, .int .i64 M.nm, .slice ma (M).body.length mk], .int .i64 pt] w fun e w' => e = .returned (.bool true) ∧ Below w.heap.size w w' := by
  have E0 := Lib.hid (((((Env.start D w).arg (.ms (.slice xa l.L.length xj) l.L) h1).arg (.rw (.slice xb l.ats.length xk) l.ats.length 1 (icl l.ats)) h2).arg (.rw (.slice xc l.ft.length xm) l.ft.length 2 (fcl l.ft)) h3).arg (.bs (.slice ma (M).body.length mk) (M).body) hm)
  clear h1 h2 h3 hm
  go_enter Try.func11, Try.ntmps11
  have hF := Lib.hid hF0
  clear hF0
  have d1 : decide ((l.L.length : Int) < 998) = true := decide_eq_true (by omega)
  go_wp2_with fail
  have E1 := Lib.hid (((E0.out.push 64 [.int .i64 l.nw, .slice xa l.L.length xj, .slice xb l.ats.length xk, .slice xc l.ft.length xm] (w.heap.size) (by simp)).push 24 [.int .i64 M.fr, .int .i64 M.to_, .int .i64 M.kd, .int .i64 M.nm, .slice ma (M).body.length mk] (w.heap.size + 1) (by simp)))
  refine (awake_c (D := (DF D w.heap.size [(w.heap.size + 1, 24, [.int .i64 M.fr, .int .i64 M.to_, .int .i64 M.kd, .int .i64 M.nm, .slice ma (M).body.length mk]), (w.heap.size, 64, [.int .i64 l.nw, .slice xa l.L.length xj, .slice xb l.ats.length xk, .slice xc l.ft.length xm])]))).mono ?_
  rintro e w1 ⟨rfl, hb⟩
  have E2 := Lib.hid (E1.out.below hb)
  clear E0 E1 hb
  have b1 := E2.out.bx 1 rfl
  have c1_0 := b1.cell 0 rfl
  have c1_1 := b1.cell 1 rfl
  have c1_2 := b1.cell 2 rfl
  have c1_3 := b1.cell 3 rfl
  clear b1
  go_wp2_with fail
  refine (few_c l (t := false) (E2.out.fc 3 rfl) (E2.out.fc 2 rfl) (E2.out.fc 1 rfl) (by simp [hF.out])).mono ?_
  rintro e w2 ⟨rfl, hb⟩
  have E3 := Lib.hid (E2.out.below hb)
  clear c1_0 c1_1 c1_2 c1_3 E2 hb
  have b2 := E3.out.bx 1 rfl
  have c2_1 := b2.cell 1 rfl
  clear b2
  have b3 := E3.out.bx 1 rfl
  have c3_2 := b3.cell 2 rfl
  clear b3
  have b4 := E3.out.bx 0 rfl
  have c4_4 := b4.cell 4 rfl
  clear b4
  go_wp2_with fail
  refine (awake_c (D := (DF D w.heap.size [(w.heap.size + 1, 24, [.int .i64 M.fr, .int .i64 M.to_, .int .i64 M.kd, .int .i64 M.nm, .slice ma (M).body.length mk]), (w.heap.size, 64, [.int .i64 l.nw, .slice xa l.L.length xj, .slice xb l.ats.length xk, .slice xc l.ft.length xm])]))).mono ?_
  rintro e w3 ⟨rfl, hb⟩
  have E4 := Lib.hid (E3.out.below hb)
  clear c2_1 c3_2 c4_4 E3 hb
  have hfin := Lib.hid E4.out.bel
  go_wp2
  go_ret
  exact ⟨rfl, hfin.out⟩
set_option maxRecDepth 100000 in
set_option maxHeartbeats 1000000 in
theorem sends_s2f {D : Nat → Prop} (l : Lin) (M : Msg) (pt : Int) {xa xb xc : Option Addr} {xj xk xm : Nat} {ma : Option Addr} {mk : Nat} {w : World} (h1 : Fct.at w D (.ms (.slice xa l.L.length xj) l.L)) (h2 : Fct.at w D (.rw (.slice xb l.ats.length xk) l.ats.length 1 (icl l.ats))) (h3 : Fct.at w D (.rw (.slice xc l.ft.length xm) l.ft.length 2 (fcl l.ft))) (hm : Fct.at w D (.bs (.slice ma (M).body.length mk) (M).body)) (hF0 : ¬ Few l) (hh : 1010 < l.L.length) :
    Calls Try.prog 11 #[.agg #[.int .i64 l.nw, .slice xa l.L.length xj, .slice xb l.ats.length xk, .slice xc l.ft.length xm], .agg #[.int .i64 M.fr, .int .i64 M.to_, .int .i64 M.kd, .int .i64 M.nm, .slice ma (M).body.length mk], .int .i64 pt] w fun e w' => e = .returned (.bool true) ∧ Below w.heap.size w w' := by
  have E0 := Lib.hid (((((Env.start D w).arg (.ms (.slice xa l.L.length xj) l.L) h1).arg (.rw (.slice xb l.ats.length xk) l.ats.length 1 (icl l.ats)) h2).arg (.rw (.slice xc l.ft.length xm) l.ft.length 2 (fcl l.ft)) h3).arg (.bs (.slice ma (M).body.length mk) (M).body) hm)
  clear h1 h2 h3 hm
  go_enter Try.func11, Try.ntmps11
  have hF := Lib.hid hF0
  clear hF0
  have d1 : decide ((l.L.length : Int) < 998) = false := decide_eq_false (by omega)
  have d2 : decide ((1010 : Int) < (l.L.length : Int)) = true := decide_eq_true (by omega)
  go_wp2_with fail
  have E1 := Lib.hid (((E0.out.push 64 [.int .i64 l.nw, .slice xa l.L.length xj, .slice xb l.ats.length xk, .slice xc l.ft.length xm] (w.heap.size) (by simp)).push 24 [.int .i64 M.fr, .int .i64 M.to_, .int .i64 M.kd, .int .i64 M.nm, .slice ma (M).body.length mk] (w.heap.size + 1) (by simp)))
  refine (awake_c (D := (DF D w.heap.size [(w.heap.size + 1, 24, [.int .i64 M.fr, .int .i64 M.to_, .int .i64 M.kd, .int .i64 M.nm, .slice ma (M).body.length mk]), (w.heap.size, 64, [.int .i64 l.nw, .slice xa l.L.length xj, .slice xb l.ats.length xk, .slice xc l.ft.length xm])]))).mono ?_
  rintro e w1 ⟨rfl, hb⟩
  have E2 := Lib.hid (E1.out.below hb)
  clear E0 E1 hb
  have b1 := E2.out.bx 1 rfl
  have c1_0 := b1.cell 0 rfl
  have c1_1 := b1.cell 1 rfl
  have c1_2 := b1.cell 2 rfl
  have c1_3 := b1.cell 3 rfl
  clear b1
  go_wp2_with fail
  refine (few_c l (t := false) (E2.out.fc 3 rfl) (E2.out.fc 2 rfl) (E2.out.fc 1 rfl) (by simp [hF.out])).mono ?_
  rintro e w2 ⟨rfl, hb⟩
  have E3 := Lib.hid (E2.out.below hb)
  clear c1_0 c1_1 c1_2 c1_3 E2 hb
  have b2 := E3.out.bx 1 rfl
  have c2_1 := b2.cell 1 rfl
  clear b2
  have b3 := E3.out.bx 1 rfl
  have c3_2 := b3.cell 2 rfl
  clear b3
  have b4 := E3.out.bx 0 rfl
  have c4_4 := b4.cell 4 rfl
  clear b4
  go_wp2_with fail
  refine (awake_c (D := (DF D w.heap.size [(w.heap.size + 1, 24, [.int .i64 M.fr, .int .i64 M.to_, .int .i64 M.kd, .int .i64 M.nm, .slice ma (M).body.length mk]), (w.heap.size, 64, [.int .i64 l.nw, .slice xa l.L.length xj, .slice xb l.ats.length xk, .slice xc l.ft.length xm])]))).mono ?_
  rintro e w3 ⟨rfl, hb⟩
  have E4 := Lib.hid (E3.out.below hb)
  clear c2_1 c3_2 c4_4 E3 hb
  have hfin := Lib.hid E4.out.bel
  go_wp2
  go_ret
  exact ⟨rfl, hfin.out⟩
set_option maxRecDepth 100000 in
set_option maxHeartbeats 1000000 in
theorem sends_s3f {D : Nat → Prop} (l : Lin) (M : Msg) (pt : Int) {xa xb xc : Option Addr} {xj xk xm : Nat} {ma : Option Addr} {mk : Nat} {w : World} (h1 : Fct.at w D (.ms (.slice xa l.L.length xj) l.L)) (h2 : Fct.at w D (.rw (.slice xb l.ats.length xk) l.ats.length 1 (icl l.ats))) (h3 : Fct.at w D (.rw (.slice xc l.ft.length xm) l.ft.length 2 (fcl l.ft))) (hm : Fct.at w D (.bs (.slice ma (M).body.length mk) (M).body)) (hF0 : ¬ Few l) (hh : 998 ≤ l.L.length ∧ l.L.length ≤ 1010 ∧ 1010 < l.ats.length) :
    Calls Try.prog 11 #[.agg #[.int .i64 l.nw, .slice xa l.L.length xj, .slice xb l.ats.length xk, .slice xc l.ft.length xm], .agg #[.int .i64 M.fr, .int .i64 M.to_, .int .i64 M.kd, .int .i64 M.nm, .slice ma (M).body.length mk], .int .i64 pt] w fun e w' => e = .returned (.bool true) ∧ Below w.heap.size w w' := by
  have E0 := Lib.hid (((((Env.start D w).arg (.ms (.slice xa l.L.length xj) l.L) h1).arg (.rw (.slice xb l.ats.length xk) l.ats.length 1 (icl l.ats)) h2).arg (.rw (.slice xc l.ft.length xm) l.ft.length 2 (fcl l.ft)) h3).arg (.bs (.slice ma (M).body.length mk) (M).body) hm)
  clear h1 h2 h3 hm
  go_enter Try.func11, Try.ntmps11
  have hF := Lib.hid hF0
  clear hF0
  have d1 : decide ((l.L.length : Int) < 998) = false := decide_eq_false (by omega)
  have d2 : decide ((1010 : Int) < (l.L.length : Int)) = false := decide_eq_false (by omega)
  have d3 : decide ((1010 : Int) < (l.ats.length : Int)) = true := decide_eq_true (by omega)
  go_wp2_with fail
  have E1 := Lib.hid (((E0.out.push 64 [.int .i64 l.nw, .slice xa l.L.length xj, .slice xb l.ats.length xk, .slice xc l.ft.length xm] (w.heap.size) (by simp)).push 24 [.int .i64 M.fr, .int .i64 M.to_, .int .i64 M.kd, .int .i64 M.nm, .slice ma (M).body.length mk] (w.heap.size + 1) (by simp)))
  refine (awake_c (D := (DF D w.heap.size [(w.heap.size + 1, 24, [.int .i64 M.fr, .int .i64 M.to_, .int .i64 M.kd, .int .i64 M.nm, .slice ma (M).body.length mk]), (w.heap.size, 64, [.int .i64 l.nw, .slice xa l.L.length xj, .slice xb l.ats.length xk, .slice xc l.ft.length xm])]))).mono ?_
  rintro e w1 ⟨rfl, hb⟩
  have E2 := Lib.hid (E1.out.below hb)
  clear E0 E1 hb
  have b1 := E2.out.bx 1 rfl
  have c1_0 := b1.cell 0 rfl
  have c1_1 := b1.cell 1 rfl
  have c1_2 := b1.cell 2 rfl
  have c1_3 := b1.cell 3 rfl
  clear b1
  go_wp2_with fail
  refine (few_c l (t := false) (E2.out.fc 3 rfl) (E2.out.fc 2 rfl) (E2.out.fc 1 rfl) (by simp [hF.out])).mono ?_
  rintro e w2 ⟨rfl, hb⟩
  have E3 := Lib.hid (E2.out.below hb)
  clear c1_0 c1_1 c1_2 c1_3 E2 hb
  have b2 := E3.out.bx 1 rfl
  have c2_1 := b2.cell 1 rfl
  clear b2
  have b3 := E3.out.bx 1 rfl
  have c3_2 := b3.cell 2 rfl
  clear b3
  have b4 := E3.out.bx 0 rfl
  have c4_4 := b4.cell 4 rfl
  clear b4
  go_wp2_with fail
  refine (awake_c (D := (DF D w.heap.size [(w.heap.size + 1, 24, [.int .i64 M.fr, .int .i64 M.to_, .int .i64 M.kd, .int .i64 M.nm, .slice ma (M).body.length mk]), (w.heap.size, 64, [.int .i64 l.nw, .slice xa l.L.length xj, .slice xb l.ats.length xk, .slice xc l.ft.length xm])]))).mono ?_
  rintro e w3 ⟨rfl, hb⟩
  have E4 := Lib.hid (E3.out.below hb)
  clear c2_1 c3_2 c4_4 E3 hb
  have hfin := Lib.hid E4.out.bel
  go_wp2
  go_ret
  exact ⟨rfl, hfin.out⟩
set_option maxRecDepth 100000 in
set_option maxHeartbeats 1000000 in
theorem sends_s4t {D : Nat → Prop} (l : Lin) (M : Msg) (pt : Int) {xa xb xc : Option Addr} {xj xk xm : Nat} {ma : Option Addr} {mk : Nat} {w : World} (h1 : Fct.at w D (.ms (.slice xa l.L.length xj) l.L)) (h2 : Fct.at w D (.rw (.slice xb l.ats.length xk) l.ats.length 1 (icl l.ats))) (h3 : Fct.at w D (.rw (.slice xc l.ft.length xm) l.ft.length 2 (fcl l.ft))) (hm : Fct.at w D (.bs (.slice ma (M).body.length mk) (M).body)) (hF0 : Few l) (hh : l.L.length ≤ 1010 ∧ l.ats.length ≤ 1010 ∧ 100 < M.body.length ∧ M.body.length ≤ 16384) :
    Calls Try.prog 11 #[.agg #[.int .i64 l.nw, .slice xa l.L.length xj, .slice xb l.ats.length xk, .slice xc l.ft.length xm], .agg #[.int .i64 M.fr, .int .i64 M.to_, .int .i64 M.kd, .int .i64 M.nm, .slice ma (M).body.length mk], .int .i64 pt] w fun e w' => e = .returned (.bool true) ∧ Below w.heap.size w w' := by
  have E0 := Lib.hid (((((Env.start D w).arg (.ms (.slice xa l.L.length xj) l.L) h1).arg (.rw (.slice xb l.ats.length xk) l.ats.length 1 (icl l.ats)) h2).arg (.rw (.slice xc l.ft.length xm) l.ft.length 2 (fcl l.ft)) h3).arg (.bs (.slice ma (M).body.length mk) (M).body) hm)
  clear h1 h2 h3 hm
  go_enter Try.func11, Try.ntmps11
  have hF := Lib.hid hF0
  clear hF0
  have d2 : decide ((1010 : Int) < (l.L.length : Int)) = false := decide_eq_false (by omega)
  have d3 : decide ((1010 : Int) < (l.ats.length : Int)) = false := decide_eq_false (by omega)
  have d4 : decide ((100 : Int) < (M.body.length : Int)) = true := decide_eq_true (by omega)
  have d5 : decide ((M.body.length : Int) ≤ 16384) = true := decide_eq_true (by omega)
  go_wp2_with fail
  have E1 := Lib.hid (((E0.out.push 64 [.int .i64 l.nw, .slice xa l.L.length xj, .slice xb l.ats.length xk, .slice xc l.ft.length xm] (w.heap.size) (by simp)).push 24 [.int .i64 M.fr, .int .i64 M.to_, .int .i64 M.kd, .int .i64 M.nm, .slice ma (M).body.length mk] (w.heap.size + 1) (by simp)))
  refine (awake_c (D := (DF D w.heap.size [(w.heap.size + 1, 24, [.int .i64 M.fr, .int .i64 M.to_, .int .i64 M.kd, .int .i64 M.nm, .slice ma (M).body.length mk]), (w.heap.size, 64, [.int .i64 l.nw, .slice xa l.L.length xj, .slice xb l.ats.length xk, .slice xc l.ft.length xm])]))).mono ?_
  rintro e w1 ⟨rfl, hb⟩
  have E2 := Lib.hid (E1.out.below hb)
  clear E0 E1 hb
  have b1 := E2.out.bx 1 rfl
  have c1_0 := b1.cell 0 rfl
  have c1_1 := b1.cell 1 rfl
  have c1_2 := b1.cell 2 rfl
  have c1_3 := b1.cell 3 rfl
  clear b1
  go_wp2_with fail
  refine (few_c l (t := true) (E2.out.fc 3 rfl) (E2.out.fc 2 rfl) (E2.out.fc 1 rfl) (by simp [hF.out])).mono ?_
  rintro e w2 ⟨rfl, hb⟩
  have E3 := Lib.hid (E2.out.below hb)
  clear c1_0 c1_1 c1_2 c1_3 E2 hb
  have b2 := E3.out.bx 1 rfl
  have c2_1 := b2.cell 1 rfl
  clear b2
  have b3 := E3.out.bx 1 rfl
  have c3_2 := b3.cell 2 rfl
  clear b3
  have b4 := E3.out.bx 0 rfl
  have c4_4 := b4.cell 4 rfl
  clear b4
  go_wp2_with fail
  refine (awake_c (D := (DF D w.heap.size [(w.heap.size + 1, 24, [.int .i64 M.fr, .int .i64 M.to_, .int .i64 M.kd, .int .i64 M.nm, .slice ma (M).body.length mk]), (w.heap.size, 64, [.int .i64 l.nw, .slice xa l.L.length xj, .slice xb l.ats.length xk, .slice xc l.ft.length xm])]))).mono ?_
  rintro e w3 ⟨rfl, hb⟩
  have E4 := Lib.hid (E3.out.below hb)
  clear c2_1 c3_2 c4_4 E3 hb
  have hfin := Lib.hid E4.out.bel
  go_wp2
  go_ret
  exact ⟨rfl, hfin.out⟩
set_option maxRecDepth 100000 in
set_option maxHeartbeats 1000000 in
theorem sends_s4f {D : Nat → Prop} (l : Lin) (M : Msg) (pt : Int) {xa xb xc : Option Addr} {xj xk xm : Nat} {ma : Option Addr} {mk : Nat} {w : World} (h1 : Fct.at w D (.ms (.slice xa l.L.length xj) l.L)) (h2 : Fct.at w D (.rw (.slice xb l.ats.length xk) l.ats.length 1 (icl l.ats))) (h3 : Fct.at w D (.rw (.slice xc l.ft.length xm) l.ft.length 2 (fcl l.ft))) (hm : Fct.at w D (.bs (.slice ma (M).body.length mk) (M).body)) (hF0 : ¬ Few l) (hh : 998 ≤ l.L.length ∧ l.L.length ≤ 1010 ∧ l.ats.length ≤ 1010 ∧ 100 < M.body.length ∧ M.body.length ≤ 16384) :
    Calls Try.prog 11 #[.agg #[.int .i64 l.nw, .slice xa l.L.length xj, .slice xb l.ats.length xk, .slice xc l.ft.length xm], .agg #[.int .i64 M.fr, .int .i64 M.to_, .int .i64 M.kd, .int .i64 M.nm, .slice ma (M).body.length mk], .int .i64 pt] w fun e w' => e = .returned (.bool true) ∧ Below w.heap.size w w' := by
  have E0 := Lib.hid (((((Env.start D w).arg (.ms (.slice xa l.L.length xj) l.L) h1).arg (.rw (.slice xb l.ats.length xk) l.ats.length 1 (icl l.ats)) h2).arg (.rw (.slice xc l.ft.length xm) l.ft.length 2 (fcl l.ft)) h3).arg (.bs (.slice ma (M).body.length mk) (M).body) hm)
  clear h1 h2 h3 hm
  go_enter Try.func11, Try.ntmps11
  have hF := Lib.hid hF0
  clear hF0
  have d1 : decide ((l.L.length : Int) < 998) = false := decide_eq_false (by omega)
  have d2 : decide ((1010 : Int) < (l.L.length : Int)) = false := decide_eq_false (by omega)
  have d3 : decide ((1010 : Int) < (l.ats.length : Int)) = false := decide_eq_false (by omega)
  have d4 : decide ((100 : Int) < (M.body.length : Int)) = true := decide_eq_true (by omega)
  have d5 : decide ((M.body.length : Int) ≤ 16384) = true := decide_eq_true (by omega)
  go_wp2_with fail
  have E1 := Lib.hid (((E0.out.push 64 [.int .i64 l.nw, .slice xa l.L.length xj, .slice xb l.ats.length xk, .slice xc l.ft.length xm] (w.heap.size) (by simp)).push 24 [.int .i64 M.fr, .int .i64 M.to_, .int .i64 M.kd, .int .i64 M.nm, .slice ma (M).body.length mk] (w.heap.size + 1) (by simp)))
  refine (awake_c (D := (DF D w.heap.size [(w.heap.size + 1, 24, [.int .i64 M.fr, .int .i64 M.to_, .int .i64 M.kd, .int .i64 M.nm, .slice ma (M).body.length mk]), (w.heap.size, 64, [.int .i64 l.nw, .slice xa l.L.length xj, .slice xb l.ats.length xk, .slice xc l.ft.length xm])]))).mono ?_
  rintro e w1 ⟨rfl, hb⟩
  have E2 := Lib.hid (E1.out.below hb)
  clear E0 E1 hb
  have b1 := E2.out.bx 1 rfl
  have c1_0 := b1.cell 0 rfl
  have c1_1 := b1.cell 1 rfl
  have c1_2 := b1.cell 2 rfl
  have c1_3 := b1.cell 3 rfl
  clear b1
  go_wp2_with fail
  refine (few_c l (t := false) (E2.out.fc 3 rfl) (E2.out.fc 2 rfl) (E2.out.fc 1 rfl) (by simp [hF.out])).mono ?_
  rintro e w2 ⟨rfl, hb⟩
  have E3 := Lib.hid (E2.out.below hb)
  clear c1_0 c1_1 c1_2 c1_3 E2 hb
  have b2 := E3.out.bx 1 rfl
  have c2_1 := b2.cell 1 rfl
  clear b2
  have b3 := E3.out.bx 1 rfl
  have c3_2 := b3.cell 2 rfl
  clear b3
  have b4 := E3.out.bx 0 rfl
  have c4_4 := b4.cell 4 rfl
  clear b4
  go_wp2_with fail
  refine (awake_c (D := (DF D w.heap.size [(w.heap.size + 1, 24, [.int .i64 M.fr, .int .i64 M.to_, .int .i64 M.kd, .int .i64 M.nm, .slice ma (M).body.length mk]), (w.heap.size, 64, [.int .i64 l.nw, .slice xa l.L.length xj, .slice xb l.ats.length xk, .slice xc l.ft.length xm])]))).mono ?_
  rintro e w3 ⟨rfl, hb⟩
  have E4 := Lib.hid (E3.out.below hb)
  clear c2_1 c3_2 c4_4 E3 hb
  have hfin := Lib.hid E4.out.bel
  go_wp2
  go_ret
  exact ⟨rfl, hfin.out⟩
set_option maxRecDepth 100000 in
set_option maxHeartbeats 1000000 in
theorem sends_s5t {D : Nat → Prop} (l : Lin) (M : Msg) (pt : Int) {xa xb xc : Option Addr} {xj xk xm : Nat} {ma : Option Addr} {mk : Nat} {w : World} (h1 : Fct.at w D (.ms (.slice xa l.L.length xj) l.L)) (h2 : Fct.at w D (.rw (.slice xb l.ats.length xk) l.ats.length 1 (icl l.ats))) (h3 : Fct.at w D (.rw (.slice xc l.ft.length xm) l.ft.length 2 (fcl l.ft))) (hm : Fct.at w D (.bs (.slice ma (M).body.length mk) (M).body)) (hF0 : Few l) (hh : l.L.length ≤ 1010 ∧ l.ats.length ≤ 1010 ∧ 17000 < M.body.length) :
    Calls Try.prog 11 #[.agg #[.int .i64 l.nw, .slice xa l.L.length xj, .slice xb l.ats.length xk, .slice xc l.ft.length xm], .agg #[.int .i64 M.fr, .int .i64 M.to_, .int .i64 M.kd, .int .i64 M.nm, .slice ma (M).body.length mk], .int .i64 pt] w fun e w' => e = .returned (.bool true) ∧ Below w.heap.size w w' := by
  have E0 := Lib.hid (((((Env.start D w).arg (.ms (.slice xa l.L.length xj) l.L) h1).arg (.rw (.slice xb l.ats.length xk) l.ats.length 1 (icl l.ats)) h2).arg (.rw (.slice xc l.ft.length xm) l.ft.length 2 (fcl l.ft)) h3).arg (.bs (.slice ma (M).body.length mk) (M).body) hm)
  clear h1 h2 h3 hm
  go_enter Try.func11, Try.ntmps11
  have hF := Lib.hid hF0
  clear hF0
  have d2 : decide ((1010 : Int) < (l.L.length : Int)) = false := decide_eq_false (by omega)
  have d3 : decide ((1010 : Int) < (l.ats.length : Int)) = false := decide_eq_false (by omega)
  have d4 : decide ((100 : Int) < (M.body.length : Int)) = true := decide_eq_true (by omega)
  have d5 : decide ((M.body.length : Int) ≤ 16384) = false := decide_eq_false (by omega)
  have d6 : decide ((17000 : Int) < (M.body.length : Int)) = true := decide_eq_true (by omega)
  go_wp2_with fail
  have E1 := Lib.hid (((E0.out.push 64 [.int .i64 l.nw, .slice xa l.L.length xj, .slice xb l.ats.length xk, .slice xc l.ft.length xm] (w.heap.size) (by simp)).push 24 [.int .i64 M.fr, .int .i64 M.to_, .int .i64 M.kd, .int .i64 M.nm, .slice ma (M).body.length mk] (w.heap.size + 1) (by simp)))
  refine (awake_c (D := (DF D w.heap.size [(w.heap.size + 1, 24, [.int .i64 M.fr, .int .i64 M.to_, .int .i64 M.kd, .int .i64 M.nm, .slice ma (M).body.length mk]), (w.heap.size, 64, [.int .i64 l.nw, .slice xa l.L.length xj, .slice xb l.ats.length xk, .slice xc l.ft.length xm])]))).mono ?_
  rintro e w1 ⟨rfl, hb⟩
  have E2 := Lib.hid (E1.out.below hb)
  clear E0 E1 hb
  have b1 := E2.out.bx 1 rfl
  have c1_0 := b1.cell 0 rfl
  have c1_1 := b1.cell 1 rfl
  have c1_2 := b1.cell 2 rfl
  have c1_3 := b1.cell 3 rfl
  clear b1
  go_wp2_with fail
  refine (few_c l (t := true) (E2.out.fc 3 rfl) (E2.out.fc 2 rfl) (E2.out.fc 1 rfl) (by simp [hF.out])).mono ?_
  rintro e w2 ⟨rfl, hb⟩
  have E3 := Lib.hid (E2.out.below hb)
  clear c1_0 c1_1 c1_2 c1_3 E2 hb
  have b2 := E3.out.bx 1 rfl
  have c2_1 := b2.cell 1 rfl
  clear b2
  have b3 := E3.out.bx 1 rfl
  have c3_2 := b3.cell 2 rfl
  clear b3
  have b4 := E3.out.bx 0 rfl
  have c4_4 := b4.cell 4 rfl
  clear b4
  go_wp2_with fail
  refine (awake_c (D := (DF D w.heap.size [(w.heap.size + 1, 24, [.int .i64 M.fr, .int .i64 M.to_, .int .i64 M.kd, .int .i64 M.nm, .slice ma (M).body.length mk]), (w.heap.size, 64, [.int .i64 l.nw, .slice xa l.L.length xj, .slice xb l.ats.length xk, .slice xc l.ft.length xm])]))).mono ?_
  rintro e w3 ⟨rfl, hb⟩
  have E4 := Lib.hid (E3.out.below hb)
  clear c2_1 c3_2 c4_4 E3 hb
  have hfin := Lib.hid E4.out.bel
  go_wp2
  go_ret
  exact ⟨rfl, hfin.out⟩
set_option maxRecDepth 100000 in
set_option maxHeartbeats 1000000 in
theorem sends_s5f {D : Nat → Prop} (l : Lin) (M : Msg) (pt : Int) {xa xb xc : Option Addr} {xj xk xm : Nat} {ma : Option Addr} {mk : Nat} {w : World} (h1 : Fct.at w D (.ms (.slice xa l.L.length xj) l.L)) (h2 : Fct.at w D (.rw (.slice xb l.ats.length xk) l.ats.length 1 (icl l.ats))) (h3 : Fct.at w D (.rw (.slice xc l.ft.length xm) l.ft.length 2 (fcl l.ft))) (hm : Fct.at w D (.bs (.slice ma (M).body.length mk) (M).body)) (hF0 : ¬ Few l) (hh : 998 ≤ l.L.length ∧ l.L.length ≤ 1010 ∧ l.ats.length ≤ 1010 ∧ 17000 < M.body.length) :
    Calls Try.prog 11 #[.agg #[.int .i64 l.nw, .slice xa l.L.length xj, .slice xb l.ats.length xk, .slice xc l.ft.length xm], .agg #[.int .i64 M.fr, .int .i64 M.to_, .int .i64 M.kd, .int .i64 M.nm, .slice ma (M).body.length mk], .int .i64 pt] w fun e w' => e = .returned (.bool true) ∧ Below w.heap.size w w' := by
  have E0 := Lib.hid (((((Env.start D w).arg (.ms (.slice xa l.L.length xj) l.L) h1).arg (.rw (.slice xb l.ats.length xk) l.ats.length 1 (icl l.ats)) h2).arg (.rw (.slice xc l.ft.length xm) l.ft.length 2 (fcl l.ft)) h3).arg (.bs (.slice ma (M).body.length mk) (M).body) hm)
  clear h1 h2 h3 hm
  go_enter Try.func11, Try.ntmps11
  have hF := Lib.hid hF0
  clear hF0
  have d1 : decide ((l.L.length : Int) < 998) = false := decide_eq_false (by omega)
  have d2 : decide ((1010 : Int) < (l.L.length : Int)) = false := decide_eq_false (by omega)
  have d3 : decide ((1010 : Int) < (l.ats.length : Int)) = false := decide_eq_false (by omega)
  have d4 : decide ((100 : Int) < (M.body.length : Int)) = true := decide_eq_true (by omega)
  have d5 : decide ((M.body.length : Int) ≤ 16384) = false := decide_eq_false (by omega)
  have d6 : decide ((17000 : Int) < (M.body.length : Int)) = true := decide_eq_true (by omega)
  go_wp2_with fail
  have E1 := Lib.hid (((E0.out.push 64 [.int .i64 l.nw, .slice xa l.L.length xj, .slice xb l.ats.length xk, .slice xc l.ft.length xm] (w.heap.size) (by simp)).push 24 [.int .i64 M.fr, .int .i64 M.to_, .int .i64 M.kd, .int .i64 M.nm, .slice ma (M).body.length mk] (w.heap.size + 1) (by simp)))
  refine (awake_c (D := (DF D w.heap.size [(w.heap.size + 1, 24, [.int .i64 M.fr, .int .i64 M.to_, .int .i64 M.kd, .int .i64 M.nm, .slice ma (M).body.length mk]), (w.heap.size, 64, [.int .i64 l.nw, .slice xa l.L.length xj, .slice xb l.ats.length xk, .slice xc l.ft.length xm])]))).mono ?_
  rintro e w1 ⟨rfl, hb⟩
  have E2 := Lib.hid (E1.out.below hb)
  clear E0 E1 hb
  have b1 := E2.out.bx 1 rfl
  have c1_0 := b1.cell 0 rfl
  have c1_1 := b1.cell 1 rfl
  have c1_2 := b1.cell 2 rfl
  have c1_3 := b1.cell 3 rfl
  clear b1
  go_wp2_with fail
  refine (few_c l (t := false) (E2.out.fc 3 rfl) (E2.out.fc 2 rfl) (E2.out.fc 1 rfl) (by simp [hF.out])).mono ?_
  rintro e w2 ⟨rfl, hb⟩
  have E3 := Lib.hid (E2.out.below hb)
  clear c1_0 c1_1 c1_2 c1_3 E2 hb
  have b2 := E3.out.bx 1 rfl
  have c2_1 := b2.cell 1 rfl
  clear b2
  have b3 := E3.out.bx 1 rfl
  have c3_2 := b3.cell 2 rfl
  clear b3
  have b4 := E3.out.bx 0 rfl
  have c4_4 := b4.cell 4 rfl
  clear b4
  go_wp2_with fail
  refine (awake_c (D := (DF D w.heap.size [(w.heap.size + 1, 24, [.int .i64 M.fr, .int .i64 M.to_, .int .i64 M.kd, .int .i64 M.nm, .slice ma (M).body.length mk]), (w.heap.size, 64, [.int .i64 l.nw, .slice xa l.L.length xj, .slice xb l.ats.length xk, .slice xc l.ft.length xm])]))).mono ?_
  rintro e w3 ⟨rfl, hb⟩
  have E4 := Lib.hid (E3.out.below hb)
  clear c2_1 c3_2 c4_4 E3 hb
  have hfin := Lib.hid E4.out.bel
  go_wp2
  go_ret
  exact ⟨rfl, hfin.out⟩
set_option maxRecDepth 100000 in
set_option maxHeartbeats 4000000 in
theorem sends_main {D : Nat → Prop} (l : Lin) (M : Msg) (pt : Int) {xa xb xc : Option Addr} {xj xk xm : Nat} {ma : Option Addr} {mk : Nat} {w : World} (h1 : Fct.at w D (.ms (.slice xa l.L.length xj) l.L)) (h2 : Fct.at w D (.rw (.slice xb l.ats.length xk) l.ats.length 1 (icl l.ats))) (h3 : Fct.at w D (.rw (.slice xc l.ft.length xm) l.ft.length 2 (fcl l.ft))) (hm : Fct.at w D (.bs (.slice ma (M).body.length mk) (M).body)) (hC0 : Few l ∨ 998 ≤ l.L.length) (hh : l.L.length ≤ 1010 ∧ l.ats.length ≤ 1010 ∧ (M.body.length ≤ 100 ∨ 16384 < M.body.length) ∧ M.body.length ≤ 17000) :
    Calls Try.prog 11 #[.agg #[.int .i64 l.nw, .slice xa l.L.length xj, .slice xb l.ats.length xk, .slice xc l.ft.length xm], .agg #[.int .i64 M.fr, .int .i64 M.to_, .int .i64 M.kd, .int .i64 M.nm, .slice ma (M).body.length mk], .int .i64 pt] w fun e w' => e = .returned (.bool true) ∧ Below w.heap.size w w' := by
  have E0 := Lib.hid (((((Env.start D w).arg (.ms (.slice xa l.L.length xj) l.L) h1).arg (.rw (.slice xb l.ats.length xk) l.ats.length 1 (icl l.ats)) h2).arg (.rw (.slice xc l.ft.length xm) l.ft.length 2 (fcl l.ft)) h3).arg (.bs (.slice ma (M).body.length mk) (M).body) hm)
  clear h1 h2 h3 hm
  go_enter Try.func11, Try.ntmps11
  have hC := Lib.hid hC0
  clear hC0
  obtain ⟨g1, g2, g3, g4⟩ := hh
  go_upto_region 1 with (fail)
  have E1 := Lib.hid (((E0.out.push 64 [.int .i64 l.nw, .slice xa l.L.length xj, .slice xb l.ats.length xk, .slice xc l.ft.length xm] (w.heap.size) (by simp)).push 24 [.int .i64 M.fr, .int .i64 M.to_, .int .i64 M.kd, .int .i64 M.nm, .slice ma (M).body.length mk] (w.heap.size + 1) (by simp)))
  go_cut [59] (fun s59 wx => s59 = .bool false ∧ Hid (Env D w [(w.heap.size + 1, 24, [.int .i64 M.fr, .int .i64 M.to_, .int .i64 M.kd, .int .i64 M.nm, .slice ma (M).body.length mk]), (w.heap.size, 64, [.int .i64 l.nw, .slice xa l.L.length xj, .slice xb l.ats.length xk, .slice xc l.ft.length xm])] [.bs (.slice ma (M).body.length mk) (M).body, .rw (.slice xc l.ft.length xm) l.ft.length 2 (fcl l.ft), .rw (.slice xb l.ats.length xk) l.ats.length 1 (icl l.ats), .ms (.slice xa l.L.length xj) l.L] wx))
  case first =>
    have d2 : decide ((1010 : Int) < (l.L.length : Int)) = false := decide_eq_false (by omega)
    have d3 : decide ((1010 : Int) < (l.ats.length : Int)) = false := decide_eq_false (by omega)
    have d6 : decide ((17000 : Int) < (M.body.length : Int)) = false := decide_eq_false (by omega)
    by_cases hF : Few l
    · have hF := Lib.hid hF
      by_cases hb : 100 < M.body.length
      · have d4 : decide ((100 : Int) < (M.body.length : Int)) = true := decide_eq_true (by omega)
        have d5 : decide ((M.body.length : Int) ≤ 16384) = false := decide_eq_false (by omega)
        clear hC g1 g2 g3 g4 hb
        go_wp2_with fail
        refine (awake_c (D := (DF D w.heap.size [(w.heap.size + 1, 24, [.int .i64 M.fr, .int .i64 M.to_, .int .i64 M.kd, .int .i64 M.nm, .slice ma (M).body.length mk]), (w.heap.size, 64, [.int .i64 l.nw, .slice xa l.L.length xj, .slice xb l.ats.length xk, .slice xc l.ft.length xm])]))).mono ?_
        rintro e w1 ⟨rfl, hb⟩
        have E2 := Lib.hid (E1.out.below hb)
        clear E0 E1 hb
        have b1 := E2.out.bx 1 rfl
        have c1_0 := b1.cell 0 rfl
        have c1_1 := b1.cell 1 rfl
        have c1_2 := b1.cell 2 rfl
        have c1_3 := b1.cell 3 rfl
        clear b1
        go_wp2_with fail
        refine (few_c l (t := true) (E2.out.fc 3 rfl) (E2.out.fc 2 rfl) (E2.out.fc 1 rfl) (by simp [hF.out])).mono ?_
        rintro e w2 ⟨rfl, hb⟩
        have E3 := Lib.hid (E2.out.below hb)
        clear c1_0 c1_1 c1_2 c1_3 E2 hb
        have b2 := E3.out.bx 1 rfl
        have c2_1 := b2.cell 1 rfl
        clear b2
        have b3 := E3.out.bx 1 rfl
        have c3_2 := b3.cell 2 rfl
        clear b3
        have b4 := E3.out.bx 0 rfl
        have c4_4 := b4.cell 4 rfl
        clear b4
        go_wp2_with fail
        go_meet
        exact ⟨rfl, Lib.hid E3.out⟩
      · have d4 : decide ((100 : Int) < (M.body.length : Int)) = false := decide_eq_false (by omega)
        clear hC g1 g2 g3 g4 hb
        go_wp2_with fail
        refine (awake_c (D := (DF D w.heap.size [(w.heap.size + 1, 24, [.int .i64 M.fr, .int .i64 M.to_, .int .i64 M.kd, .int .i64 M.nm, .slice ma (M).body.length mk]), (w.heap.size, 64, [.int .i64 l.nw, .slice xa l.L.length xj, .slice xb l.ats.length xk, .slice xc l.ft.length xm])]))).mono ?_
        rintro e w1 ⟨rfl, hb⟩
        have E2 := Lib.hid (E1.out.below hb)
        clear E0 E1 hb
        have b1 := E2.out.bx 1 rfl
        have c1_0 := b1.cell 0 rfl
        have c1_1 := b1.cell 1 rfl
        have c1_2 := b1.cell 2 rfl
        have c1_3 := b1.cell 3 rfl
        clear b1
        go_wp2_with fail
        refine (few_c l (t := true) (E2.out.fc 3 rfl) (E2.out.fc 2 rfl) (E2.out.fc 1 rfl) (by simp [hF.out])).mono ?_
        rintro e w2 ⟨rfl, hb⟩
        have E3 := Lib.hid (E2.out.below hb)
        clear c1_0 c1_1 c1_2 c1_3 E2 hb
        have b2 := E3.out.bx 1 rfl
        have c2_1 := b2.cell 1 rfl
        clear b2
        have b3 := E3.out.bx 1 rfl
        have c3_2 := b3.cell 2 rfl
        clear b3
        have b4 := E3.out.bx 0 rfl
        have c4_4 := b4.cell 4 rfl
        clear b4
        go_wp2_with fail
        go_meet
        exact ⟨rfl, Lib.hid E3.out⟩
    · have hF := Lib.hid hF
      have hL : 998 ≤ l.L.length := hC.out.resolve_left hF.out
      have d1 : decide ((l.L.length : Int) < 998) = false := decide_eq_false (by omega)
      by_cases hb : 100 < M.body.length
      · have d4 : decide ((100 : Int) < (M.body.length : Int)) = true := decide_eq_true (by omega)
        have d5 : decide ((M.body.length : Int) ≤ 16384) = false := decide_eq_false (by omega)
        clear hC g1 g2 g3 g4 hb
        go_wp2_with fail
        refine (awake_c (D := (DF D w.heap.size [(w.heap.size + 1, 24, [.int .i64 M.fr, .int .i64 M.to_, .int .i64 M.kd, .int .i64 M.nm, .slice ma (M).body.length mk]), (w.heap.size, 64, [.int .i64 l.nw, .slice xa l.L.length xj, .slice xb l.ats.length xk, .slice xc l.ft.length xm])]))).mono ?_
        rintro e w1 ⟨rfl, hb⟩
        have E2 := Lib.hid (E1.out.below hb)
        clear E0 E1 hb
        have b1 := E2.out.bx 1 rfl
        have c1_0 := b1.cell 0 rfl
        have c1_1 := b1.cell 1 rfl
        have c1_2 := b1.cell 2 rfl
        have c1_3 := b1.cell 3 rfl
        clear b1
        go_wp2_with fail
        refine (few_c l (t := false) (E2.out.fc 3 rfl) (E2.out.fc 2 rfl) (E2.out.fc 1 rfl) (by simp [hF.out])).mono ?_
        rintro e w2 ⟨rfl, hb⟩
        have E3 := Lib.hid (E2.out.below hb)
        clear c1_0 c1_1 c1_2 c1_3 E2 hb
        have b2 := E3.out.bx 1 rfl
        have c2_1 := b2.cell 1 rfl
        clear b2
        have b3 := E3.out.bx 1 rfl
        have c3_2 := b3.cell 2 rfl
        clear b3
        have b4 := E3.out.bx 0 rfl
        have c4_4 := b4.cell 4 rfl
        clear b4
        go_wp2_with fail
        go_meet
        exact ⟨rfl, Lib.hid E3.out⟩
      · have d4 : decide ((100 : Int) < (M.body.length : Int)) = false := decide_eq_false (by omega)
        clear hC g1 g2 g3 g4 hb
        go_wp2_with fail
        refine (awake_c (D := (DF D w.heap.size [(w.heap.size + 1, 24, [.int .i64 M.fr, .int .i64 M.to_, .int .i64 M.kd, .int .i64 M.nm, .slice ma (M).body.length mk]), (w.heap.size, 64, [.int .i64 l.nw, .slice xa l.L.length xj, .slice xb l.ats.length xk, .slice xc l.ft.length xm])]))).mono ?_
        rintro e w1 ⟨rfl, hb⟩
        have E2 := Lib.hid (E1.out.below hb)
        clear E0 E1 hb
        have b1 := E2.out.bx 1 rfl
        have c1_0 := b1.cell 0 rfl
        have c1_1 := b1.cell 1 rfl
        have c1_2 := b1.cell 2 rfl
        have c1_3 := b1.cell 3 rfl
        clear b1
        go_wp2_with fail
        refine (few_c l (t := false) (E2.out.fc 3 rfl) (E2.out.fc 2 rfl) (E2.out.fc 1 rfl) (by simp [hF.out])).mono ?_
        rintro e w2 ⟨rfl, hb⟩
        have E3 := Lib.hid (E2.out.below hb)
        clear c1_0 c1_1 c1_2 c1_3 E2 hb
        have b2 := E3.out.bx 1 rfl
        have c2_1 := b2.cell 1 rfl
        clear b2
        have b3 := E3.out.bx 1 rfl
        have c3_2 := b3.cell 2 rfl
        clear b3
        have b4 := E3.out.bx 0 rfl
        have c4_4 := b4.cell 4 rfl
        clear b4
        go_wp2_with fail
        go_meet
        exact ⟨rfl, Lib.hid E3.out⟩
  case rest =>
    obtain ⟨rfl, EC⟩ := hcut
    clear E1 hC g3
    have hab : l.ats.length ≤ 1000000 := by omega
    have hmb : M.body.length ≤ 1000000 := by omega
    by_cases hv : LinOk l
    rotate_left
    · have HV := Lib.hid hv
      clear hv
      have b1 := EC.out.bx 1 rfl
      have c1_0 := b1.cell 0 rfl
      have c1_1 := b1.cell 1 rfl
      have c1_2 := b1.cell 2 rfl
      have c1_3 := b1.cell 3 rfl
      clear b1
      have b2 := EC.out.bx 0 rfl
      have c2_0 := b2.cell 0 rfl
      have c2_1 := b2.cell 1 rfl
      have c2_2 := b2.cell 2 rfl
      have c2_3 := b2.cell 3 rfl
      have c2_4 := b2.cell 4 rfl
      clear b2
      go_wp2_with fail
      refine (Send_arg l M (EC.out.fc 3 rfl) (EC.out.fc 2 rfl) (EC.out.fc 1 rfl) (EC.out.fc 0 rfl) HV.out hab).mono ?_
      rintro e w1 ⟨⟨sv, rfl, sa, sj, sb, sk, sc, sm, rfl, s1, s2, s3⟩, hb⟩
      have E2 := Lib.hid (EC.out.got (EC.out.got (EC.out.got (EC.out.below hb) (.ms (.slice sa (L0).L.length sj) (L0).L) s1.out) (.rw (.slice sb (L0).ats.length sk) (L0).ats.length 1 (icl (L0).ats)) s2.out) (.rw (.slice sc (L0).ft.length sm) (L0).ft.length 2 (fcl (L0).ft)) s3.out)
      clear c1_0 c1_1 c1_2 c1_3 c2_0 c2_1 c2_2 c2_3 c2_4 EC hb s1 s2 s3
      have E3 := Lib.hid ((E2.out.push 64 [.int .i64 (L0).nw, .slice sa (L0).L.length sj, .slice sb (L0).ats.length sk, .slice sc (L0).ft.length sm] (w1.heap.size) (by simp)))
      have b3 := E3.out.bx 2 rfl
      have c3_0 := b3.cell 0 rfl
      have c3_1 := b3.cell 1 rfl
      have c3_2 := b3.cell 2 rfl
      have c3_3 := b3.cell 3 rfl
      clear b3
      go_wp2_with fail
      refine (Receive_arg l pt (E3.out.fc 6 rfl) (E3.out.fc 5 rfl) (E3.out.fc 4 rfl) HV.out hab).mono ?_
      rintro e w2 ⟨⟨rv, ro, rq, rfl, ⟨ra, rj, rb, rk, rc, rm, rfl, r1, r2, r3⟩, r4⟩, hb⟩
      have E4 := Lib.hid (E3.out.got (E3.out.got (E3.out.got (E3.out.got (E3.out.below hb) (.ms (.slice ra (L0).L.length rj) (L0).L) r1.out) (.rw (.slice rb (L0).ats.length rk) (L0).ats.length 1 (icl (L0).ats)) r2.out) (.rw (.slice rc (L0).ft.length rm) (L0).ft.length 2 (fcl (L0).ft)) r3.out) (.bs (.slice ro (M0).body.length rq) (M0).body) r4.out)
      clear c3_0 c3_1 c3_2 c3_3 E2 E3 hb r1 r2 r3 r4
      have E5 := Lib.hid (((E4.out.push 64 [.int .i64 (L0).nw, .slice ra (L0).L.length rj, .slice rb (L0).ats.length rk, .slice rc (L0).ft.length rm] (w2.heap.size) (by simp)).push 24 [.int .i64 M0.fr, .int .i64 M0.to_, .int .i64 M0.kd, .int .i64 M0.nm, .slice ro (M0).body.length rq] (w2.heap.size + 1) (by simp)))
      have b4 := E5.out.bx 4 rfl
      have c4_0 := b4.cell 0 rfl
      have c4_1 := b4.cell 1 rfl
      have c4_2 := b4.cell 2 rfl
      have c4_3 := b4.cell 3 rfl
      clear b4
      go_wp2_with fail
      refine (lrValid_c l (E5.out.fc 10 rfl) (E5.out.fc 9 rfl) (E5.out.fc 8 rfl) (noOf HV.out) hab).mono ?_
      rintro e w3 ⟨rfl, hb⟩
      have E6 := Lib.hid (E5.out.below hb)
      clear c4_0 c4_1 c4_2 c4_3 E4 E5 hb
      have b5 := E6.out.bx 2 rfl
      have c5_0 := b5.cell 0 rfl
      have c5_1 := b5.cell 1 rfl
      have c5_2 := b5.cell 2 rfl
      have c5_3 := b5.cell 3 rfl
      clear b5
      go_wp2_with fail
      refine (none_c (E6.out.fc 6 rfl) (E6.out.fc 5 rfl) (E6.out.fc 4 rfl)).mono ?_
      rintro e w4 ⟨rfl, hb⟩
      have E7 := Lib.hid (E6.out.below hb)
      clear c5_0 c5_1 c5_2 c5_3 E6 hb
      have b6 := E7.out.bx 1 rfl
      have c6_0 := b6.cell 0 rfl
      have c6_1 := b6.cell 1 rfl
      have c6_2 := b6.cell 2 rfl
      have c6_3 := b6.cell 3 rfl
      clear b6
      go_wp2_with fail
      refine (none_c (E7.out.fc 3 rfl) (E7.out.fc 2 rfl) (E7.out.fc 1 rfl)).mono ?_
      rintro e w5 ⟨rfl, hb⟩
      have E8 := Lib.hid (E7.out.below hb)
      clear c6_0 c6_1 c6_2 c6_3 E7 hb
      have b7 := E8.out.bx 0 rfl
      have c7_0 := b7.cell 0 rfl
      have c7_1 := b7.cell 1 rfl
      have c7_2 := b7.cell 2 rfl
      have c7_3 := b7.cell 3 rfl
      have c7_4 := b7.cell 4 rfl
      clear b7
      go_wp2_with fail
      refine (rSameM M0 (E8.out.fc 0 rfl) (ya := none) (yk := 0) (Bs.nil _ _)).mono ?_
      rintro e w6 ⟨rfl, hb⟩
      have E9 := Lib.hid (E8.out.below hb)
      clear c7_0 c7_1 c7_2 c7_3 c7_4 E8 hb
      have hfin := Lib.hid E9.out.bel
      go_wp2
      go_ret
      exact ⟨rfl, hfin.out⟩
    have HV := Lib.hid hv
    have hbig := Lib.hid (big_ok hv)
    clear hv
    obtain ⟨f0, hf1, hf2⟩ := first_ex l pt
    have HF1 := Lib.hid hf1
    have HF2 := Lib.hid hf2
    clear hf1 hf2
    obtain ⟨c, d, hf⟩ := fate_nat HV.out
    have HF := Lib.hid hf
    clear hf
    obtain ⟨p0, hp⟩ := place_ex HV.out.2.1 (l.nw + d)
    have HP := Lib.hid hp
    clear hp
    have H2 := Lib.hid HV.out.1.2.1
    cases hm : msgOk M
    · have HM := Lib.hid hm
      clear hm
      by_cases hfn : f0 < l.L.length
      · skip
        have b1 := EC.out.bx 1 rfl
        have c1_0 := b1.cell 0 rfl
        have c1_1 := b1.cell 1 rfl
        have c1_2 := b1.cell 2 rfl
        have c1_3 := b1.cell 3 rfl
        clear b1
        have b2 := EC.out.bx 0 rfl
        have c2_0 := b2.cell 0 rfl
        have c2_1 := b2.cell 1 rfl
        have c2_2 := b2.cell 2 rfl
        have c2_3 := b2.cell 3 rfl
        have c2_4 := b2.cell 4 rfl
        clear b2
        go_wp2_with fail
        refine (Send_arg2 l M (EC.out.fc 3 rfl) (EC.out.fc 2 rfl) (EC.out.fc 1 rfl) (EC.out.fc 0 rfl) HV.out HM.out hab).mono ?_
        rintro e w1 ⟨⟨sv, rfl, sa, sj, sb, sk, sc, sm, rfl, s1, s2, s3⟩, hb⟩
        have E2 := Lib.hid (EC.out.got (EC.out.got (EC.out.got (EC.out.below hb) (.ms (.slice sa (L0).L.length sj) (L0).L) s1.out) (.rw (.slice sb (L0).ats.length sk) (L0).ats.length 1 (icl (L0).ats)) s2.out) (.rw (.slice sc (L0).ft.length sm) (L0).ft.length 2 (fcl (L0).ft)) s3.out)
        clear c1_0 c1_1 c1_2 c1_3 c2_0 c2_1 c2_2 c2_3 c2_4 EC hb s1 s2 s3
        have E3 := Lib.hid ((E2.out.push 64 [.int .i64 (L0).nw, .slice sa (L0).L.length sj, .slice sb (L0).ats.length sk, .slice sc (L0).ft.length sm] (w1.heap.size) (by simp)))
        have b3 := E3.out.bx 2 rfl
        have c3_0 := b3.cell 0 rfl
        have c3_1 := b3.cell 1 rfl
        have c3_2 := b3.cell 2 rfl
        have c3_3 := b3.cell 3 rfl
        clear b3
        go_wp2_with fail
        refine (Receive_ok l pt f0 l.L[f0] (E3.out.fc 6 rfl) (E3.out.fc 5 rfl) (E3.out.fc 4 rfl) HV.out (.inl ⟨f0, rfl, HF2.out hfn, HF1.out⟩) hbig.out hab hfn rfl).mono ?_
        rintro e w2 ⟨⟨rv, ro, rq, rfl, ⟨ra, rj, rb, rk, rc, rm, rfl, r1, r2, r3⟩, r4⟩, hb⟩
        have E4 := Lib.hid (E3.out.got (E3.out.got (E3.out.got (E3.out.got (E3.out.below hb) (.ms (.slice ra (recvL l f0).L.length rj) (recvL l f0).L) r1.out) (.rw (.slice rb (recvL l f0).ats.length rk) (recvL l f0).ats.length 1 (icl (recvL l f0).ats)) r2.out) (.rw (.slice rc (recvL l f0).ft.length rm) (recvL l f0).ft.length 2 (fcl (recvL l f0).ft)) r3.out) (.bs (.slice ro (l.L[f0]).body.length rq) (l.L[f0]).body) r4.out)
        clear c3_0 c3_1 c3_2 c3_3 E2 E3 hb r1 r2 r3 r4
        have E5 := Lib.hid (((E4.out.push 64 [.int .i64 (recvL l f0).nw, .slice ra (recvL l f0).L.length rj, .slice rb (recvL l f0).ats.length rk, .slice rc (recvL l f0).ft.length rm] (w2.heap.size) (by simp)).push 24 [.int .i64 l.L[f0].fr, .int .i64 l.L[f0].to_, .int .i64 l.L[f0].kd, .int .i64 l.L[f0].nm, .slice ro (l.L[f0]).body.length rq] (w2.heap.size + 1) (by simp)))
        have b4 := E5.out.bx 4 rfl
        have c4_0 := b4.cell 0 rfl
        have c4_1 := b4.cell 1 rfl
        have c4_2 := b4.cell 2 rfl
        have c4_3 := b4.cell 3 rfl
        clear b4
        go_wp2_with fail
        refine (lrValid_c l (E5.out.fc 10 rfl) (E5.out.fc 9 rfl) (E5.out.fc 8 rfl) (okOf HV.out) hab).mono ?_
        rintro e w3 ⟨rfl, hb⟩
        have E6 := Lib.hid (E5.out.below hb)
        clear c4_0 c4_1 c4_2 c4_3 E4 E5 hb
        have b5 := E6.out.bx 3 rfl
        have c5_0 := b5.cell 0 rfl
        have c5_1 := b5.cell 1 rfl
        have c5_2 := b5.cell 2 rfl
        have c5_3 := b5.cell 3 rfl
        have c5_4 := b5.cell 4 rfl
        clear b5
        go_wp2_with fail
        refine (lrMessage_v M HM.out _ _ _).mono ?_
        rintro e w4 ⟨rfl, hb⟩
        have E7 := Lib.hid (E6.out.below hb)
        clear c5_0 c5_1 c5_2 c5_3 c5_4 E6 hb
        have b6 := E7.out.bx 2 rfl
        have c6_0 := b6.cell 0 rfl
        have c6_1 := b6.cell 1 rfl
        have c6_2 := b6.cell 2 rfl
        have c6_3 := b6.cell 3 rfl
        clear b6
        go_wp2_with fail
        refine (none_c (E7.out.fc 6 rfl) (E7.out.fc 5 rfl) (E7.out.fc 4 rfl)).mono ?_
        rintro e w5 ⟨rfl, hb⟩
        have E8 := Lib.hid (E7.out.below hb)
        clear c6_0 c6_1 c6_2 c6_3 E7 hb
        have b7 := E8.out.bx 4 rfl
        have c7_0 := b7.cell 0 rfl
        have c7_1 := b7.cell 1 rfl
        have c7_2 := b7.cell 2 rfl
        have c7_3 := b7.cell 3 rfl
        clear b7
        go_wp2_with fail
        refine (rReceive_ok l pt f0 (E8.out.fc 10 rfl) (E8.out.fc 9 rfl) (E8.out.fc 8 rfl) hbig.out H2.out hfn HF1.out (HF2.out hfn)).mono ?_
        rintro e w6 ⟨⟨uv, uo, uq, rfl, ⟨ua, uj, ub, uk, uc, um, rfl, u1, u2, u3⟩, u4⟩, hb⟩
        have E9 := Lib.hid (E8.out.got (E8.out.got (E8.out.got (E8.out.got (E8.out.below hb) (.ms (.slice ua (recvL l f0).L.length uj) (recvL l f0).L) u1.out) (.rw (.slice ub (recvL l f0).ats.length uk) (recvL l f0).ats.length 1 (icl (recvL l f0).ats)) u2.out) (.rw (.slice uc (recvL l f0).ft.length um) (recvL l f0).ft.length 2 (fcl (recvL l f0).ft)) u3.out) (.bs (.slice uo (l.L[f0]).body.length uq) (l.L[f0]).body) u4.out)
        clear c7_0 c7_1 c7_2 c7_3 E8 hb u1 u2 u3 u4
        have E10 := Lib.hid (((E9.out.push 64 [.int .i64 (recvL l f0).nw, .slice ua (recvL l f0).L.length uj, .slice ub (recvL l f0).ats.length uk, .slice uc (recvL l f0).ft.length um] (w6.heap.size) (by simp)).push 24 [.int .i64 l.L[f0].fr, .int .i64 l.L[f0].to_, .int .i64 l.L[f0].kd, .int .i64 l.L[f0].nm, .slice uo (l.L[f0]).body.length uq] (w6.heap.size + 1) (by simp)))
        have b8 := E10.out.bx 3 rfl
        have c8_0 := b8.cell 0 rfl
        have c8_1 := b8.cell 1 rfl
        have c8_2 := b8.cell 2 rfl
        have c8_3 := b8.cell 3 rfl
        clear b8
        have b9 := E10.out.bx 1 rfl
        have c9_0 := b9.cell 0 rfl
        have c9_1 := b9.cell 1 rfl
        have c9_2 := b9.cell 2 rfl
        have c9_3 := b9.cell 3 rfl
        clear b9
        go_wp2_with fail
        refine (rSame_c (recvL l f0) (E10.out.fc 7 rfl) (E10.out.fc 6 rfl) (E10.out.fc 5 rfl) (E10.out.fc 3 rfl) (E10.out.fc 2 rfl) (E10.out.fc 1 rfl) (rl_bound hbig.out)).mono ?_
        rintro e w7 ⟨rfl, hb⟩
        have E11 := Lib.hid (E10.out.below hb)
        clear c8_0 c8_1 c8_2 c8_3 c9_0 c9_1 c9_2 c9_3 E9 E10 hb
        have b10 := E11.out.bx 2 rfl
        have c10_0 := b10.cell 0 rfl
        have c10_1 := b10.cell 1 rfl
        have c10_2 := b10.cell 2 rfl
        have c10_3 := b10.cell 3 rfl
        have c10_4 := b10.cell 4 rfl
        clear b10
        have b11 := E11.out.bx 0 rfl
        have c11_0 := b11.cell 0 rfl
        have c11_1 := b11.cell 1 rfl
        have c11_2 := b11.cell 2 rfl
        have c11_3 := b11.cell 3 rfl
        have c11_4 := b11.cell 4 rfl
        clear b11
        go_wp2_with fail
        refine (rSameM l.L[f0] (E11.out.fc 4 rfl) (E11.out.fc 0 rfl)).mono ?_
        rintro e w8 ⟨rfl, hb⟩
        have E12 := Lib.hid (E11.out.below hb)
        clear c10_0 c10_1 c10_2 c10_3 c10_4 c11_0 c11_1 c11_2 c11_3 c11_4 E11 hb
        have hfin := Lib.hid E12.out.bel
        go_wp2
        go_ret
        exact ⟨rfl, hfin.out⟩
      · skip
        have b1 := EC.out.bx 1 rfl
        have c1_0 := b1.cell 0 rfl
        have c1_1 := b1.cell 1 rfl
        have c1_2 := b1.cell 2 rfl
        have c1_3 := b1.cell 3 rfl
        clear b1
        have b2 := EC.out.bx 0 rfl
        have c2_0 := b2.cell 0 rfl
        have c2_1 := b2.cell 1 rfl
        have c2_2 := b2.cell 2 rfl
        have c2_3 := b2.cell 3 rfl
        have c2_4 := b2.cell 4 rfl
        clear b2
        go_wp2_with fail
        refine (Send_arg2 l M (EC.out.fc 3 rfl) (EC.out.fc 2 rfl) (EC.out.fc 1 rfl) (EC.out.fc 0 rfl) HV.out HM.out hab).mono ?_
        rintro e w1 ⟨⟨sv, rfl, sa, sj, sb, sk, sc, sm, rfl, s1, s2, s3⟩, hb⟩
        have E2 := Lib.hid (EC.out.got (EC.out.got (EC.out.got (EC.out.below hb) (.ms (.slice sa (L0).L.length sj) (L0).L) s1.out) (.rw (.slice sb (L0).ats.length sk) (L0).ats.length 1 (icl (L0).ats)) s2.out) (.rw (.slice sc (L0).ft.length sm) (L0).ft.length 2 (fcl (L0).ft)) s3.out)
        clear c1_0 c1_1 c1_2 c1_3 c2_0 c2_1 c2_2 c2_3 c2_4 EC hb s1 s2 s3
        have E3 := Lib.hid ((E2.out.push 64 [.int .i64 (L0).nw, .slice sa (L0).L.length sj, .slice sb (L0).ats.length sk, .slice sc (L0).ft.length sm] (w1.heap.size) (by simp)))
        have b3 := E3.out.bx 2 rfl
        have c3_0 := b3.cell 0 rfl
        have c3_1 := b3.cell 1 rfl
        have c3_2 := b3.cell 2 rfl
        have c3_3 := b3.cell 3 rfl
        clear b3
        go_wp2_with fail
        refine (Receive_none l pt (E3.out.fc 6 rfl) (E3.out.fc 5 rfl) (E3.out.fc 4 rfl) HV.out (first_none HF1.out hfn) hab).mono ?_
        rintro e w2 ⟨⟨rv, ro, rq, rfl, ⟨ra, rj, rb, rk, rc, rm, rfl, r1, r2, r3⟩, r4⟩, hb⟩
        have E4 := Lib.hid (E3.out.got (E3.out.got (E3.out.got (E3.out.got (E3.out.below hb) (.ms (.slice ra (L0).L.length rj) (L0).L) r1.out) (.rw (.slice rb (L0).ats.length rk) (L0).ats.length 1 (icl (L0).ats)) r2.out) (.rw (.slice rc (L0).ft.length rm) (L0).ft.length 2 (fcl (L0).ft)) r3.out) (.bs (.slice ro (M0).body.length rq) (M0).body) r4.out)
        clear c3_0 c3_1 c3_2 c3_3 E2 E3 hb r1 r2 r3 r4
        have E5 := Lib.hid (((E4.out.push 64 [.int .i64 (L0).nw, .slice ra (L0).L.length rj, .slice rb (L0).ats.length rk, .slice rc (L0).ft.length rm] (w2.heap.size) (by simp)).push 24 [.int .i64 M0.fr, .int .i64 M0.to_, .int .i64 M0.kd, .int .i64 M0.nm, .slice ro (M0).body.length rq] (w2.heap.size + 1) (by simp)))
        have b4 := E5.out.bx 4 rfl
        have c4_0 := b4.cell 0 rfl
        have c4_1 := b4.cell 1 rfl
        have c4_2 := b4.cell 2 rfl
        have c4_3 := b4.cell 3 rfl
        clear b4
        go_wp2_with fail
        refine (lrValid_c l (E5.out.fc 10 rfl) (E5.out.fc 9 rfl) (E5.out.fc 8 rfl) (okOf HV.out) hab).mono ?_
        rintro e w3 ⟨rfl, hb⟩
        have E6 := Lib.hid (E5.out.below hb)
        clear c4_0 c4_1 c4_2 c4_3 E4 E5 hb
        have b5 := E6.out.bx 3 rfl
        have c5_0 := b5.cell 0 rfl
        have c5_1 := b5.cell 1 rfl
        have c5_2 := b5.cell 2 rfl
        have c5_3 := b5.cell 3 rfl
        have c5_4 := b5.cell 4 rfl
        clear b5
        go_wp2_with fail
        refine (lrMessage_v M HM.out _ _ _).mono ?_
        rintro e w4 ⟨rfl, hb⟩
        have E7 := Lib.hid (E6.out.below hb)
        clear c5_0 c5_1 c5_2 c5_3 c5_4 E6 hb
        have b6 := E7.out.bx 2 rfl
        have c6_0 := b6.cell 0 rfl
        have c6_1 := b6.cell 1 rfl
        have c6_2 := b6.cell 2 rfl
        have c6_3 := b6.cell 3 rfl
        clear b6
        go_wp2_with fail
        refine (none_c (E7.out.fc 6 rfl) (E7.out.fc 5 rfl) (E7.out.fc 4 rfl)).mono ?_
        rintro e w5 ⟨rfl, hb⟩
        have E8 := Lib.hid (E7.out.below hb)
        clear c6_0 c6_1 c6_2 c6_3 E7 hb
        have b7 := E8.out.bx 4 rfl
        have c7_0 := b7.cell 0 rfl
        have c7_1 := b7.cell 1 rfl
        have c7_2 := b7.cell 2 rfl
        have c7_3 := b7.cell 3 rfl
        clear b7
        go_wp2_with fail
        refine (rReceive_none l pt f0 (E8.out.fc 10 rfl) (E8.out.fc 9 rfl) (E8.out.fc 8 rfl) hbig.out H2.out hfn HF1.out).mono ?_
        rintro e w6 ⟨⟨uv, uo, uq, rfl, ⟨ua, uj, ub, uk, uc, um, rfl, u1, u2, u3⟩, u4⟩, hb⟩
        have E9 := Lib.hid (E8.out.got (E8.out.got (E8.out.got (E8.out.got (E8.out.below hb) (.ms (.slice ua (L0).L.length uj) (L0).L) u1.out) (.rw (.slice ub (L0).ats.length uk) (L0).ats.length 1 (icl (L0).ats)) u2.out) (.rw (.slice uc (L0).ft.length um) (L0).ft.length 2 (fcl (L0).ft)) u3.out) (.bs (.slice uo (M0).body.length uq) (M0).body) u4.out)
        clear c7_0 c7_1 c7_2 c7_3 E8 hb u1 u2 u3 u4
        have E10 := Lib.hid (((E9.out.push 64 [.int .i64 (L0).nw, .slice ua (L0).L.length uj, .slice ub (L0).ats.length uk, .slice uc (L0).ft.length um] (w6.heap.size) (by simp)).push 24 [.int .i64 M0.fr, .int .i64 M0.to_, .int .i64 M0.kd, .int .i64 M0.nm, .slice uo (M0).body.length uq] (w6.heap.size + 1) (by simp)))
        have b8 := E10.out.bx 3 rfl
        have c8_0 := b8.cell 0 rfl
        have c8_1 := b8.cell 1 rfl
        have c8_2 := b8.cell 2 rfl
        have c8_3 := b8.cell 3 rfl
        clear b8
        go_wp2_with fail
        refine (none_c (E10.out.fc 7 rfl) (E10.out.fc 6 rfl) (E10.out.fc 5 rfl)).mono ?_
        rintro e w7 ⟨rfl, hb⟩
        have E11 := Lib.hid (E10.out.below hb)
        clear c8_0 c8_1 c8_2 c8_3 E9 E10 hb
        have b9 := E11.out.bx 2 rfl
        have c9_0 := b9.cell 0 rfl
        have c9_1 := b9.cell 1 rfl
        have c9_2 := b9.cell 2 rfl
        have c9_3 := b9.cell 3 rfl
        have c9_4 := b9.cell 4 rfl
        clear b9
        go_wp2_with fail
        refine (rSameM M0 (E11.out.fc 4 rfl) (ya := none) (yk := 0) (Bs.nil _ _)).mono ?_
        rintro e w8 ⟨rfl, hb⟩
        have E12 := Lib.hid (E11.out.below hb)
        clear c9_0 c9_1 c9_2 c9_3 c9_4 E11 hb
        have hfin := Lib.hid E12.out.bel
        go_wp2
        go_ret
        exact ⟨rfl, hfin.out⟩
    · have HM := Lib.hid hm
      clear hm
      by_cases hfl : 1000 < l.L.length + c
      · skip
        by_cases hfn : f0 < l.L.length
        · skip
          have b1 := EC.out.bx 1 rfl
          have c1_0 := b1.cell 0 rfl
          have c1_1 := b1.cell 1 rfl
          have c1_2 := b1.cell 2 rfl
          have c1_3 := b1.cell 3 rfl
          clear b1
          have b2 := EC.out.bx 0 rfl
          have c2_0 := b2.cell 0 rfl
          have c2_1 := b2.cell 1 rfl
          have c2_2 := b2.cell 2 rfl
          have c2_3 := b2.cell 3 rfl
          have c2_4 := b2.cell 4 rfl
          clear b2
          go_wp2_with fail
          refine (Send_full (EC.out.fc 3 rfl) (EC.out.fc 2 rfl) (EC.out.fc 1 rfl) (EC.out.fc 0 rfl) HV.out HM.out HF.out hfl).mono ?_
          rintro e w1 ⟨⟨sv, rfl, sa, sj, sb, sk, sc, sm, rfl, s1, s2, s3⟩, hb⟩
          have E2 := Lib.hid (EC.out.got (EC.out.got (EC.out.got (EC.out.below hb) (.ms (.slice sa (L0).L.length sj) (L0).L) s1.out) (.rw (.slice sb (L0).ats.length sk) (L0).ats.length 1 (icl (L0).ats)) s2.out) (.rw (.slice sc (L0).ft.length sm) (L0).ft.length 2 (fcl (L0).ft)) s3.out)
          clear c1_0 c1_1 c1_2 c1_3 c2_0 c2_1 c2_2 c2_3 c2_4 EC hb s1 s2 s3
          have E3 := Lib.hid ((E2.out.push 64 [.int .i64 (L0).nw, .slice sa (L0).L.length sj, .slice sb (L0).ats.length sk, .slice sc (L0).ft.length sm] (w1.heap.size) (by simp)))
          have b3 := E3.out.bx 2 rfl
          have c3_0 := b3.cell 0 rfl
          have c3_1 := b3.cell 1 rfl
          have c3_2 := b3.cell 2 rfl
          have c3_3 := b3.cell 3 rfl
          clear b3
          go_wp2_with fail
          refine (Receive_ok l pt f0 l.L[f0] (E3.out.fc 6 rfl) (E3.out.fc 5 rfl) (E3.out.fc 4 rfl) HV.out (.inl ⟨f0, rfl, HF2.out hfn, HF1.out⟩) hbig.out hab hfn rfl).mono ?_
          rintro e w2 ⟨⟨rv, ro, rq, rfl, ⟨ra, rj, rb, rk, rc, rm, rfl, r1, r2, r3⟩, r4⟩, hb⟩
          have E4 := Lib.hid (E3.out.got (E3.out.got (E3.out.got (E3.out.got (E3.out.below hb) (.ms (.slice ra (recvL l f0).L.length rj) (recvL l f0).L) r1.out) (.rw (.slice rb (recvL l f0).ats.length rk) (recvL l f0).ats.length 1 (icl (recvL l f0).ats)) r2.out) (.rw (.slice rc (recvL l f0).ft.length rm) (recvL l f0).ft.length 2 (fcl (recvL l f0).ft)) r3.out) (.bs (.slice ro (l.L[f0]).body.length rq) (l.L[f0]).body) r4.out)
          clear c3_0 c3_1 c3_2 c3_3 E2 E3 hb r1 r2 r3 r4
          have E5 := Lib.hid (((E4.out.push 64 [.int .i64 (recvL l f0).nw, .slice ra (recvL l f0).L.length rj, .slice rb (recvL l f0).ats.length rk, .slice rc (recvL l f0).ft.length rm] (w2.heap.size) (by simp)).push 24 [.int .i64 l.L[f0].fr, .int .i64 l.L[f0].to_, .int .i64 l.L[f0].kd, .int .i64 l.L[f0].nm, .slice ro (l.L[f0]).body.length rq] (w2.heap.size + 1) (by simp)))
          have b4 := E5.out.bx 4 rfl
          have c4_0 := b4.cell 0 rfl
          have c4_1 := b4.cell 1 rfl
          have c4_2 := b4.cell 2 rfl
          have c4_3 := b4.cell 3 rfl
          clear b4
          go_wp2_with fail
          refine (lrValid_c l (E5.out.fc 10 rfl) (E5.out.fc 9 rfl) (E5.out.fc 8 rfl) (okOf HV.out) hab).mono ?_
          rintro e w3 ⟨rfl, hb⟩
          have E6 := Lib.hid (E5.out.below hb)
          clear c4_0 c4_1 c4_2 c4_3 E4 E5 hb
          have b5 := E6.out.bx 3 rfl
          have c5_0 := b5.cell 0 rfl
          have c5_1 := b5.cell 1 rfl
          have c5_2 := b5.cell 2 rfl
          have c5_3 := b5.cell 3 rfl
          have c5_4 := b5.cell 4 rfl
          clear b5
          go_wp2_with fail
          refine (lrMessage_v M HM.out _ _ _).mono ?_
          rintro e w4 ⟨rfl, hb⟩
          have E7 := Lib.hid (E6.out.below hb)
          clear c5_0 c5_1 c5_2 c5_3 c5_4 E6 hb
          have b6 := E7.out.bx 4 rfl
          have c6_0 := b6.cell 0 rfl
          have c6_1 := b6.cell 1 rfl
          have c6_2 := b6.cell 2 rfl
          have c6_3 := b6.cell 3 rfl
          clear b6
          have b7 := E7.out.bx 3 rfl
          have c7_0 := b7.cell 0 rfl
          have c7_1 := b7.cell 1 rfl
          have c7_2 := b7.cell 2 rfl
          have c7_3 := b7.cell 3 rfl
          have c7_4 := b7.cell 4 rfl
          clear b7
          go_wp2_with fail
          refine (rSend_full (E7.out.fc 10 rfl) (E7.out.fc 9 rfl) (E7.out.fc 8 rfl) (E7.out.fc 7 rfl) HV.out HF.out hbig.out hmb hfl).mono ?_
          rintro e w5 ⟨⟨tv, rfl, ta, tj, tb, tk, tc, tm, rfl, t1, t2, t3⟩, hb⟩
          have E8 := Lib.hid (E7.out.got (E7.out.got (E7.out.got (E7.out.below hb) (.ms (.slice ta (L0).L.length tj) (L0).L) t1.out) (.rw (.slice tb (L0).ats.length tk) (L0).ats.length 1 (icl (L0).ats)) t2.out) (.rw (.slice tc (L0).ft.length tm) (L0).ft.length 2 (fcl (L0).ft)) t3.out)
          clear c6_0 c6_1 c6_2 c6_3 c7_0 c7_1 c7_2 c7_3 c7_4 E7 hb t1 t2 t3
          have E9 := Lib.hid ((E8.out.push 64 [.int .i64 (L0).nw, .slice ta (L0).L.length tj, .slice tb (L0).ats.length tk, .slice tc (L0).ft.length tm] (w5.heap.size) (by simp)))
          have b8 := E9.out.bx 3 rfl
          have c8_0 := b8.cell 0 rfl
          have c8_1 := b8.cell 1 rfl
          have c8_2 := b8.cell 2 rfl
          have c8_3 := b8.cell 3 rfl
          clear b8
          go_wp2_with fail
          refine (none_c (E9.out.fc 9 rfl) (E9.out.fc 8 rfl) (E9.out.fc 7 rfl)).mono ?_
          rintro e w6 ⟨rfl, hb⟩
          have E10 := Lib.hid (E9.out.below hb)
          clear c8_0 c8_1 c8_2 c8_3 E8 E9 hb
          have b9 := E10.out.bx 5 rfl
          have c9_0 := b9.cell 0 rfl
          have c9_1 := b9.cell 1 rfl
          have c9_2 := b9.cell 2 rfl
          have c9_3 := b9.cell 3 rfl
          clear b9
          go_wp2_with fail
          refine (rReceive_ok l pt f0 (E10.out.fc 13 rfl) (E10.out.fc 12 rfl) (E10.out.fc 11 rfl) hbig.out H2.out hfn HF1.out (HF2.out hfn)).mono ?_
          rintro e w7 ⟨⟨uv, uo, uq, rfl, ⟨ua, uj, ub, uk, uc, um, rfl, u1, u2, u3⟩, u4⟩, hb⟩
          have E11 := Lib.hid (E10.out.got (E10.out.got (E10.out.got (E10.out.got (E10.out.below hb) (.ms (.slice ua (recvL l f0).L.length uj) (recvL l f0).L) u1.out) (.rw (.slice ub (recvL l f0).ats.length uk) (recvL l f0).ats.length 1 (icl (recvL l f0).ats)) u2.out) (.rw (.slice uc (recvL l f0).ft.length um) (recvL l f0).ft.length 2 (fcl (recvL l f0).ft)) u3.out) (.bs (.slice uo (l.L[f0]).body.length uq) (l.L[f0]).body) u4.out)
          clear c9_0 c9_1 c9_2 c9_3 E10 hb u1 u2 u3 u4
          have E12 := Lib.hid (((E11.out.push 64 [.int .i64 (recvL l f0).nw, .slice ua (recvL l f0).L.length uj, .slice ub (recvL l f0).ats.length uk, .slice uc (recvL l f0).ft.length um] (w7.heap.size) (by simp)).push 24 [.int .i64 l.L[f0].fr, .int .i64 l.L[f0].to_, .int .i64 l.L[f0].kd, .int .i64 l.L[f0].nm, .slice uo (l.L[f0]).body.length uq] (w7.heap.size + 1) (by simp)))
          have b10 := E12.out.bx 4 rfl
          have c10_0 := b10.cell 0 rfl
          have c10_1 := b10.cell 1 rfl
          have c10_2 := b10.cell 2 rfl
          have c10_3 := b10.cell 3 rfl
          clear b10
          have b11 := E12.out.bx 1 rfl
          have c11_0 := b11.cell 0 rfl
          have c11_1 := b11.cell 1 rfl
          have c11_2 := b11.cell 2 rfl
          have c11_3 := b11.cell 3 rfl
          clear b11
          go_wp2_with fail
          refine (rSame_c (recvL l f0) (E12.out.fc 10 rfl) (E12.out.fc 9 rfl) (E12.out.fc 8 rfl) (E12.out.fc 3 rfl) (E12.out.fc 2 rfl) (E12.out.fc 1 rfl) (rl_bound hbig.out)).mono ?_
          rintro e w8 ⟨rfl, hb⟩
          have E13 := Lib.hid (E12.out.below hb)
          clear c10_0 c10_1 c10_2 c10_3 c11_0 c11_1 c11_2 c11_3 E11 E12 hb
          have b12 := E13.out.bx 3 rfl
          have c12_0 := b12.cell 0 rfl
          have c12_1 := b12.cell 1 rfl
          have c12_2 := b12.cell 2 rfl
          have c12_3 := b12.cell 3 rfl
          have c12_4 := b12.cell 4 rfl
          clear b12
          have b13 := E13.out.bx 0 rfl
          have c13_0 := b13.cell 0 rfl
          have c13_1 := b13.cell 1 rfl
          have c13_2 := b13.cell 2 rfl
          have c13_3 := b13.cell 3 rfl
          have c13_4 := b13.cell 4 rfl
          clear b13
          go_wp2_with fail
          refine (rSameM l.L[f0] (E13.out.fc 7 rfl) (E13.out.fc 0 rfl)).mono ?_
          rintro e w9 ⟨rfl, hb⟩
          have E14 := Lib.hid (E13.out.below hb)
          clear c12_0 c12_1 c12_2 c12_3 c12_4 c13_0 c13_1 c13_2 c13_3 c13_4 E13 hb
          have hfin := Lib.hid E14.out.bel
          go_wp2
          go_ret
          exact ⟨rfl, hfin.out⟩
        · skip
          have b1 := EC.out.bx 1 rfl
          have c1_0 := b1.cell 0 rfl
          have c1_1 := b1.cell 1 rfl
          have c1_2 := b1.cell 2 rfl
          have c1_3 := b1.cell 3 rfl
          clear b1
          have b2 := EC.out.bx 0 rfl
          have c2_0 := b2.cell 0 rfl
          have c2_1 := b2.cell 1 rfl
          have c2_2 := b2.cell 2 rfl
          have c2_3 := b2.cell 3 rfl
          have c2_4 := b2.cell 4 rfl
          clear b2
          go_wp2_with fail
          refine (Send_full (EC.out.fc 3 rfl) (EC.out.fc 2 rfl) (EC.out.fc 1 rfl) (EC.out.fc 0 rfl) HV.out HM.out HF.out hfl).mono ?_
          rintro e w1 ⟨⟨sv, rfl, sa, sj, sb, sk, sc, sm, rfl, s1, s2, s3⟩, hb⟩
          have E2 := Lib.hid (EC.out.got (EC.out.got (EC.out.got (EC.out.below hb) (.ms (.slice sa (L0).L.length sj) (L0).L) s1.out) (.rw (.slice sb (L0).ats.length sk) (L0).ats.length 1 (icl (L0).ats)) s2.out) (.rw (.slice sc (L0).ft.length sm) (L0).ft.length 2 (fcl (L0).ft)) s3.out)
          clear c1_0 c1_1 c1_2 c1_3 c2_0 c2_1 c2_2 c2_3 c2_4 EC hb s1 s2 s3
          have E3 := Lib.hid ((E2.out.push 64 [.int .i64 (L0).nw, .slice sa (L0).L.length sj, .slice sb (L0).ats.length sk, .slice sc (L0).ft.length sm] (w1.heap.size) (by simp)))
          have b3 := E3.out.bx 2 rfl
          have c3_0 := b3.cell 0 rfl
          have c3_1 := b3.cell 1 rfl
          have c3_2 := b3.cell 2 rfl
          have c3_3 := b3.cell 3 rfl
          clear b3
          go_wp2_with fail
          refine (Receive_none l pt (E3.out.fc 6 rfl) (E3.out.fc 5 rfl) (E3.out.fc 4 rfl) HV.out (first_none HF1.out hfn) hab).mono ?_
          rintro e w2 ⟨⟨rv, ro, rq, rfl, ⟨ra, rj, rb, rk, rc, rm, rfl, r1, r2, r3⟩, r4⟩, hb⟩
          have E4 := Lib.hid (E3.out.got (E3.out.got (E3.out.got (E3.out.got (E3.out.below hb) (.ms (.slice ra (L0).L.length rj) (L0).L) r1.out) (.rw (.slice rb (L0).ats.length rk) (L0).ats.length 1 (icl (L0).ats)) r2.out) (.rw (.slice rc (L0).ft.length rm) (L0).ft.length 2 (fcl (L0).ft)) r3.out) (.bs (.slice ro (M0).body.length rq) (M0).body) r4.out)
          clear c3_0 c3_1 c3_2 c3_3 E2 E3 hb r1 r2 r3 r4
          have E5 := Lib.hid (((E4.out.push 64 [.int .i64 (L0).nw, .slice ra (L0).L.length rj, .slice rb (L0).ats.length rk, .slice rc (L0).ft.length rm] (w2.heap.size) (by simp)).push 24 [.int .i64 M0.fr, .int .i64 M0.to_, .int .i64 M0.kd, .int .i64 M0.nm, .slice ro (M0).body.length rq] (w2.heap.size + 1) (by simp)))
          have b4 := E5.out.bx 4 rfl
          have c4_0 := b4.cell 0 rfl
          have c4_1 := b4.cell 1 rfl
          have c4_2 := b4.cell 2 rfl
          have c4_3 := b4.cell 3 rfl
          clear b4
          go_wp2_with fail
          refine (lrValid_c l (E5.out.fc 10 rfl) (E5.out.fc 9 rfl) (E5.out.fc 8 rfl) (okOf HV.out) hab).mono ?_
          rintro e w3 ⟨rfl, hb⟩
          have E6 := Lib.hid (E5.out.below hb)
          clear c4_0 c4_1 c4_2 c4_3 E4 E5 hb
          have b5 := E6.out.bx 3 rfl
          have c5_0 := b5.cell 0 rfl
          have c5_1 := b5.cell 1 rfl
          have c5_2 := b5.cell 2 rfl
          have c5_3 := b5.cell 3 rfl
          have c5_4 := b5.cell 4 rfl
          clear b5
          go_wp2_with fail
          refine (lrMessage_v M HM.out _ _ _).mono ?_
          rintro e w4 ⟨rfl, hb⟩
          have E7 := Lib.hid (E6.out.below hb)
          clear c5_0 c5_1 c5_2 c5_3 c5_4 E6 hb
          have b6 := E7.out.bx 4 rfl
          have c6_0 := b6.cell 0 rfl
          have c6_1 := b6.cell 1 rfl
          have c6_2 := b6.cell 2 rfl
          have c6_3 := b6.cell 3 rfl
          clear b6
          have b7 := E7.out.bx 3 rfl
          have c7_0 := b7.cell 0 rfl
          have c7_1 := b7.cell 1 rfl
          have c7_2 := b7.cell 2 rfl
          have c7_3 := b7.cell 3 rfl
          have c7_4 := b7.cell 4 rfl
          clear b7
          go_wp2_with fail
          refine (rSend_full (E7.out.fc 10 rfl) (E7.out.fc 9 rfl) (E7.out.fc 8 rfl) (E7.out.fc 7 rfl) HV.out HF.out hbig.out hmb hfl).mono ?_
          rintro e w5 ⟨⟨tv, rfl, ta, tj, tb, tk, tc, tm, rfl, t1, t2, t3⟩, hb⟩
          have E8 := Lib.hid (E7.out.got (E7.out.got (E7.out.got (E7.out.below hb) (.ms (.slice ta (L0).L.length tj) (L0).L) t1.out) (.rw (.slice tb (L0).ats.length tk) (L0).ats.length 1 (icl (L0).ats)) t2.out) (.rw (.slice tc (L0).ft.length tm) (L0).ft.length 2 (fcl (L0).ft)) t3.out)
          clear c6_0 c6_1 c6_2 c6_3 c7_0 c7_1 c7_2 c7_3 c7_4 E7 hb t1 t2 t3
          have E9 := Lib.hid ((E8.out.push 64 [.int .i64 (L0).nw, .slice ta (L0).L.length tj, .slice tb (L0).ats.length tk, .slice tc (L0).ft.length tm] (w5.heap.size) (by simp)))
          have b8 := E9.out.bx 3 rfl
          have c8_0 := b8.cell 0 rfl
          have c8_1 := b8.cell 1 rfl
          have c8_2 := b8.cell 2 rfl
          have c8_3 := b8.cell 3 rfl
          clear b8
          go_wp2_with fail
          refine (none_c (E9.out.fc 9 rfl) (E9.out.fc 8 rfl) (E9.out.fc 7 rfl)).mono ?_
          rintro e w6 ⟨rfl, hb⟩
          have E10 := Lib.hid (E9.out.below hb)
          clear c8_0 c8_1 c8_2 c8_3 E8 E9 hb
          have b9 := E10.out.bx 5 rfl
          have c9_0 := b9.cell 0 rfl
          have c9_1 := b9.cell 1 rfl
          have c9_2 := b9.cell 2 rfl
          have c9_3 := b9.cell 3 rfl
          clear b9
          go_wp2_with fail
          refine (rReceive_none l pt f0 (E10.out.fc 13 rfl) (E10.out.fc 12 rfl) (E10.out.fc 11 rfl) hbig.out H2.out hfn HF1.out).mono ?_
          rintro e w7 ⟨⟨uv, uo, uq, rfl, ⟨ua, uj, ub, uk, uc, um, rfl, u1, u2, u3⟩, u4⟩, hb⟩
          have E11 := Lib.hid (E10.out.got (E10.out.got (E10.out.got (E10.out.got (E10.out.below hb) (.ms (.slice ua (L0).L.length uj) (L0).L) u1.out) (.rw (.slice ub (L0).ats.length uk) (L0).ats.length 1 (icl (L0).ats)) u2.out) (.rw (.slice uc (L0).ft.length um) (L0).ft.length 2 (fcl (L0).ft)) u3.out) (.bs (.slice uo (M0).body.length uq) (M0).body) u4.out)
          clear c9_0 c9_1 c9_2 c9_3 E10 hb u1 u2 u3 u4
          have E12 := Lib.hid (((E11.out.push 64 [.int .i64 (L0).nw, .slice ua (L0).L.length uj, .slice ub (L0).ats.length uk, .slice uc (L0).ft.length um] (w7.heap.size) (by simp)).push 24 [.int .i64 M0.fr, .int .i64 M0.to_, .int .i64 M0.kd, .int .i64 M0.nm, .slice uo (M0).body.length uq] (w7.heap.size + 1) (by simp)))
          have b10 := E12.out.bx 4 rfl
          have c10_0 := b10.cell 0 rfl
          have c10_1 := b10.cell 1 rfl
          have c10_2 := b10.cell 2 rfl
          have c10_3 := b10.cell 3 rfl
          clear b10
          go_wp2_with fail
          refine (none_c (E12.out.fc 10 rfl) (E12.out.fc 9 rfl) (E12.out.fc 8 rfl)).mono ?_
          rintro e w8 ⟨rfl, hb⟩
          have E13 := Lib.hid (E12.out.below hb)
          clear c10_0 c10_1 c10_2 c10_3 E11 E12 hb
          have b11 := E13.out.bx 3 rfl
          have c11_0 := b11.cell 0 rfl
          have c11_1 := b11.cell 1 rfl
          have c11_2 := b11.cell 2 rfl
          have c11_3 := b11.cell 3 rfl
          have c11_4 := b11.cell 4 rfl
          clear b11
          go_wp2_with fail
          refine (rSameM M0 (E13.out.fc 7 rfl) (ya := none) (yk := 0) (Bs.nil _ _)).mono ?_
          rintro e w9 ⟨rfl, hb⟩
          have E14 := Lib.hid (E13.out.below hb)
          clear c11_0 c11_1 c11_2 c11_3 c11_4 E13 hb
          have hfin := Lib.hid E14.out.bel
          go_wp2
          go_ret
          exact ⟨rfl, hfin.out⟩
      · skip
        by_cases hfn : f0 < l.L.length
        · skip
          have b1 := EC.out.bx 1 rfl
          have c1_0 := b1.cell 0 rfl
          have c1_1 := b1.cell 1 rfl
          have c1_2 := b1.cell 2 rfl
          have c1_3 := b1.cell 3 rfl
          clear b1
          have b2 := EC.out.bx 0 rfl
          have c2_0 := b2.cell 0 rfl
          have c2_1 := b2.cell 1 rfl
          have c2_2 := b2.cell 2 rfl
          have c2_3 := b2.cell 3 rfl
          have c2_4 := b2.cell 4 rfl
          clear b2
          go_wp2_with fail
          refine (Send_ok (EC.out.fc 3 rfl) (EC.out.fc 2 rfl) (EC.out.fc 1 rfl) (EC.out.fc 0 rfl) HV.out HM.out HF.out HP.out hbig.out hmb hfl).mono ?_
          rintro e w1 ⟨⟨sv, rfl, sa, sj, sb, sk, sc, sm, rfl, s1, s2, s3⟩, hb⟩
          have E2 := Lib.hid (EC.out.got (EC.out.got (EC.out.got (EC.out.below hb) (.ms (.slice sa (sendL l M p0 c d).L.length sj) (sendL l M p0 c d).L) s1.out) (.rw (.slice sb (sendL l M p0 c d).ats.length sk) (sendL l M p0 c d).ats.length 1 (icl (sendL l M p0 c d).ats)) s2.out) (.rw (.slice sc (sendL l M p0 c d).ft.length sm) (sendL l M p0 c d).ft.length 2 (fcl (sendL l M p0 c d).ft)) s3.out)
          clear c1_0 c1_1 c1_2 c1_3 c2_0 c2_1 c2_2 c2_3 c2_4 EC hb s1 s2 s3
          have E3 := Lib.hid ((E2.out.push 64 [.int .i64 (sendL l M p0 c d).nw, .slice sa (sendL l M p0 c d).L.length sj, .slice sb (sendL l M p0 c d).ats.length sk, .slice sc (sendL l M p0 c d).ft.length sm] (w1.heap.size) (by simp)))
          have b3 := E3.out.bx 2 rfl
          have c3_0 := b3.cell 0 rfl
          have c3_1 := b3.cell 1 rfl
          have c3_2 := b3.cell 2 rfl
          have c3_3 := b3.cell 3 rfl
          clear b3
          go_wp2_with fail
          refine (Receive_ok l pt f0 l.L[f0] (E3.out.fc 6 rfl) (E3.out.fc 5 rfl) (E3.out.fc 4 rfl) HV.out (.inl ⟨f0, rfl, HF2.out hfn, HF1.out⟩) hbig.out hab hfn rfl).mono ?_
          rintro e w2 ⟨⟨rv, ro, rq, rfl, ⟨ra, rj, rb, rk, rc, rm, rfl, r1, r2, r3⟩, r4⟩, hb⟩
          have E4 := Lib.hid (E3.out.got (E3.out.got (E3.out.got (E3.out.got (E3.out.below hb) (.ms (.slice ra (recvL l f0).L.length rj) (recvL l f0).L) r1.out) (.rw (.slice rb (recvL l f0).ats.length rk) (recvL l f0).ats.length 1 (icl (recvL l f0).ats)) r2.out) (.rw (.slice rc (recvL l f0).ft.length rm) (recvL l f0).ft.length 2 (fcl (recvL l f0).ft)) r3.out) (.bs (.slice ro (l.L[f0]).body.length rq) (l.L[f0]).body) r4.out)
          clear c3_0 c3_1 c3_2 c3_3 E2 E3 hb r1 r2 r3 r4
          have E5 := Lib.hid (((E4.out.push 64 [.int .i64 (recvL l f0).nw, .slice ra (recvL l f0).L.length rj, .slice rb (recvL l f0).ats.length rk, .slice rc (recvL l f0).ft.length rm] (w2.heap.size) (by simp)).push 24 [.int .i64 l.L[f0].fr, .int .i64 l.L[f0].to_, .int .i64 l.L[f0].kd, .int .i64 l.L[f0].nm, .slice ro (l.L[f0]).body.length rq] (w2.heap.size + 1) (by simp)))
          have b4 := E5.out.bx 4 rfl
          have c4_0 := b4.cell 0 rfl
          have c4_1 := b4.cell 1 rfl
          have c4_2 := b4.cell 2 rfl
          have c4_3 := b4.cell 3 rfl
          clear b4
          go_wp2_with fail
          refine (lrValid_c l (E5.out.fc 10 rfl) (E5.out.fc 9 rfl) (E5.out.fc 8 rfl) (okOf HV.out) hab).mono ?_
          rintro e w3 ⟨rfl, hb⟩
          have E6 := Lib.hid (E5.out.below hb)
          clear c4_0 c4_1 c4_2 c4_3 E4 E5 hb
          have b5 := E6.out.bx 3 rfl
          have c5_0 := b5.cell 0 rfl
          have c5_1 := b5.cell 1 rfl
          have c5_2 := b5.cell 2 rfl
          have c5_3 := b5.cell 3 rfl
          have c5_4 := b5.cell 4 rfl
          clear b5
          go_wp2_with fail
          refine (lrMessage_v M HM.out _ _ _).mono ?_
          rintro e w4 ⟨rfl, hb⟩
          have E7 := Lib.hid (E6.out.below hb)
          clear c5_0 c5_1 c5_2 c5_3 c5_4 E6 hb
          have b6 := E7.out.bx 4 rfl
          have c6_0 := b6.cell 0 rfl
          have c6_1 := b6.cell 1 rfl
          have c6_2 := b6.cell 2 rfl
          have c6_3 := b6.cell 3 rfl
          clear b6
          have b7 := E7.out.bx 3 rfl
          have c7_0 := b7.cell 0 rfl
          have c7_1 := b7.cell 1 rfl
          have c7_2 := b7.cell 2 rfl
          have c7_3 := b7.cell 3 rfl
          have c7_4 := b7.cell 4 rfl
          clear b7
          go_wp2_with fail
          refine (rSend_ok (E7.out.fc 10 rfl) (E7.out.fc 9 rfl) (E7.out.fc 8 rfl) (E7.out.fc 7 rfl) HV.out HF.out HP.out hbig.out hmb hfl).mono ?_
          rintro e w5 ⟨⟨tv, rfl, ta, tj, tb, tk, tc, tm, rfl, t1, t2, t3⟩, hb⟩
          have E8 := Lib.hid (E7.out.got (E7.out.got (E7.out.got (E7.out.below hb) (.ms (.slice ta (sendL l M p0 c d).L.length tj) (sendL l M p0 c d).L) t1.out) (.rw (.slice tb (sendL l M p0 c d).ats.length tk) (sendL l M p0 c d).ats.length 1 (icl (sendL l M p0 c d).ats)) t2.out) (.rw (.slice tc (sendL l M p0 c d).ft.length tm) (sendL l M p0 c d).ft.length 2 (fcl (sendL l M p0 c d).ft)) t3.out)
          clear c6_0 c6_1 c6_2 c6_3 c7_0 c7_1 c7_2 c7_3 c7_4 E7 hb t1 t2 t3
          have E9 := Lib.hid ((E8.out.push 64 [.int .i64 (sendL l M p0 c d).nw, .slice ta (sendL l M p0 c d).L.length tj, .slice tb (sendL l M p0 c d).ats.length tk, .slice tc (sendL l M p0 c d).ft.length tm] (w5.heap.size) (by simp)))
          have b8 := E9.out.bx 3 rfl
          have c8_0 := b8.cell 0 rfl
          have c8_1 := b8.cell 1 rfl
          have c8_2 := b8.cell 2 rfl
          have c8_3 := b8.cell 3 rfl
          clear b8
          have b9 := E9.out.bx 0 rfl
          have c9_0 := b9.cell 0 rfl
          have c9_1 := b9.cell 1 rfl
          have c9_2 := b9.cell 2 rfl
          have c9_3 := b9.cell 3 rfl
          clear b9
          go_wp2_with fail
          refine (rSame_c (sendL l M p0 c d) (E9.out.fc 9 rfl) (E9.out.fc 8 rfl) (E9.out.fc 7 rfl) (E9.out.fc 2 rfl) (E9.out.fc 1 rfl) (E9.out.fc 0 rfl) (sl_bound hbig.out HP.out H2.out hfl)).mono ?_
          rintro e w6 ⟨rfl, hb⟩
          have E10 := Lib.hid (E9.out.below hb)
          clear c8_0 c8_1 c8_2 c8_3 c9_0 c9_1 c9_2 c9_3 E8 E9 hb
          have b10 := E10.out.bx 5 rfl
          have c10_0 := b10.cell 0 rfl
          have c10_1 := b10.cell 1 rfl
          have c10_2 := b10.cell 2 rfl
          have c10_3 := b10.cell 3 rfl
          clear b10
          go_wp2_with fail
          refine (rReceive_ok l pt f0 (E10.out.fc 13 rfl) (E10.out.fc 12 rfl) (E10.out.fc 11 rfl) hbig.out H2.out hfn HF1.out (HF2.out hfn)).mono ?_
          rintro e w7 ⟨⟨uv, uo, uq, rfl, ⟨ua, uj, ub, uk, uc, um, rfl, u1, u2, u3⟩, u4⟩, hb⟩
          have E11 := Lib.hid (E10.out.got (E10.out.got (E10.out.got (E10.out.got (E10.out.below hb) (.ms (.slice ua (recvL l f0).L.length uj) (recvL l f0).L) u1.out) (.rw (.slice ub (recvL l f0).ats.length uk) (recvL l f0).ats.length 1 (icl (recvL l f0).ats)) u2.out) (.rw (.slice uc (recvL l f0).ft.length um) (recvL l f0).ft.length 2 (fcl (recvL l f0).ft)) u3.out) (.bs (.slice uo (l.L[f0]).body.length uq) (l.L[f0]).body) u4.out)
          clear c10_0 c10_1 c10_2 c10_3 E10 hb u1 u2 u3 u4
          have E12 := Lib.hid (((E11.out.push 64 [.int .i64 (recvL l f0).nw, .slice ua (recvL l f0).L.length uj, .slice ub (recvL l f0).ats.length uk, .slice uc (recvL l f0).ft.length um] (w7.heap.size) (by simp)).push 24 [.int .i64 l.L[f0].fr, .int .i64 l.L[f0].to_, .int .i64 l.L[f0].kd, .int .i64 l.L[f0].nm, .slice uo (l.L[f0]).body.length uq] (w7.heap.size + 1) (by simp)))
          have b11 := E12.out.bx 4 rfl
          have c11_0 := b11.cell 0 rfl
          have c11_1 := b11.cell 1 rfl
          have c11_2 := b11.cell 2 rfl
          have c11_3 := b11.cell 3 rfl
          clear b11
          have b12 := E12.out.bx 1 rfl
          have c12_0 := b12.cell 0 rfl
          have c12_1 := b12.cell 1 rfl
          have c12_2 := b12.cell 2 rfl
          have c12_3 := b12.cell 3 rfl
          clear b12
          go_wp2_with fail
          refine (rSame_c (recvL l f0) (E12.out.fc 10 rfl) (E12.out.fc 9 rfl) (E12.out.fc 8 rfl) (E12.out.fc 3 rfl) (E12.out.fc 2 rfl) (E12.out.fc 1 rfl) (rl_bound hbig.out)).mono ?_
          rintro e w8 ⟨rfl, hb⟩
          have E13 := Lib.hid (E12.out.below hb)
          clear c11_0 c11_1 c11_2 c11_3 c12_0 c12_1 c12_2 c12_3 E11 E12 hb
          have b13 := E13.out.bx 3 rfl
          have c13_0 := b13.cell 0 rfl
          have c13_1 := b13.cell 1 rfl
          have c13_2 := b13.cell 2 rfl
          have c13_3 := b13.cell 3 rfl
          have c13_4 := b13.cell 4 rfl
          clear b13
          have b14 := E13.out.bx 0 rfl
          have c14_0 := b14.cell 0 rfl
          have c14_1 := b14.cell 1 rfl
          have c14_2 := b14.cell 2 rfl
          have c14_3 := b14.cell 3 rfl
          have c14_4 := b14.cell 4 rfl
          clear b14
          go_wp2_with fail
          refine (rSameM l.L[f0] (E13.out.fc 7 rfl) (E13.out.fc 0 rfl)).mono ?_
          rintro e w9 ⟨rfl, hb⟩
          have E14 := Lib.hid (E13.out.below hb)
          clear c13_0 c13_1 c13_2 c13_3 c13_4 c14_0 c14_1 c14_2 c14_3 c14_4 E13 hb
          have hfin := Lib.hid E14.out.bel
          go_wp2
          go_ret
          exact ⟨rfl, hfin.out⟩
        · skip
          have b1 := EC.out.bx 1 rfl
          have c1_0 := b1.cell 0 rfl
          have c1_1 := b1.cell 1 rfl
          have c1_2 := b1.cell 2 rfl
          have c1_3 := b1.cell 3 rfl
          clear b1
          have b2 := EC.out.bx 0 rfl
          have c2_0 := b2.cell 0 rfl
          have c2_1 := b2.cell 1 rfl
          have c2_2 := b2.cell 2 rfl
          have c2_3 := b2.cell 3 rfl
          have c2_4 := b2.cell 4 rfl
          clear b2
          go_wp2_with fail
          refine (Send_ok (EC.out.fc 3 rfl) (EC.out.fc 2 rfl) (EC.out.fc 1 rfl) (EC.out.fc 0 rfl) HV.out HM.out HF.out HP.out hbig.out hmb hfl).mono ?_
          rintro e w1 ⟨⟨sv, rfl, sa, sj, sb, sk, sc, sm, rfl, s1, s2, s3⟩, hb⟩
          have E2 := Lib.hid (EC.out.got (EC.out.got (EC.out.got (EC.out.below hb) (.ms (.slice sa (sendL l M p0 c d).L.length sj) (sendL l M p0 c d).L) s1.out) (.rw (.slice sb (sendL l M p0 c d).ats.length sk) (sendL l M p0 c d).ats.length 1 (icl (sendL l M p0 c d).ats)) s2.out) (.rw (.slice sc (sendL l M p0 c d).ft.length sm) (sendL l M p0 c d).ft.length 2 (fcl (sendL l M p0 c d).ft)) s3.out)
          clear c1_0 c1_1 c1_2 c1_3 c2_0 c2_1 c2_2 c2_3 c2_4 EC hb s1 s2 s3
          have E3 := Lib.hid ((E2.out.push 64 [.int .i64 (sendL l M p0 c d).nw, .slice sa (sendL l M p0 c d).L.length sj, .slice sb (sendL l M p0 c d).ats.length sk, .slice sc (sendL l M p0 c d).ft.length sm] (w1.heap.size) (by simp)))
          have b3 := E3.out.bx 2 rfl
          have c3_0 := b3.cell 0 rfl
          have c3_1 := b3.cell 1 rfl
          have c3_2 := b3.cell 2 rfl
          have c3_3 := b3.cell 3 rfl
          clear b3
          go_wp2_with fail
          refine (Receive_none l pt (E3.out.fc 6 rfl) (E3.out.fc 5 rfl) (E3.out.fc 4 rfl) HV.out (first_none HF1.out hfn) hab).mono ?_
          rintro e w2 ⟨⟨rv, ro, rq, rfl, ⟨ra, rj, rb, rk, rc, rm, rfl, r1, r2, r3⟩, r4⟩, hb⟩
          have E4 := Lib.hid (E3.out.got (E3.out.got (E3.out.got (E3.out.got (E3.out.below hb) (.ms (.slice ra (L0).L.length rj) (L0).L) r1.out) (.rw (.slice rb (L0).ats.length rk) (L0).ats.length 1 (icl (L0).ats)) r2.out) (.rw (.slice rc (L0).ft.length rm) (L0).ft.length 2 (fcl (L0).ft)) r3.out) (.bs (.slice ro (M0).body.length rq) (M0).body) r4.out)
          clear c3_0 c3_1 c3_2 c3_3 E2 E3 hb r1 r2 r3 r4
          have E5 := Lib.hid (((E4.out.push 64 [.int .i64 (L0).nw, .slice ra (L0).L.length rj, .slice rb (L0).ats.length rk, .slice rc (L0).ft.length rm] (w2.heap.size) (by simp)).push 24 [.int .i64 M0.fr, .int .i64 M0.to_, .int .i64 M0.kd, .int .i64 M0.nm, .slice ro (M0).body.length rq] (w2.heap.size + 1) (by simp)))
          have b4 := E5.out.bx 4 rfl
          have c4_0 := b4.cell 0 rfl
          have c4_1 := b4.cell 1 rfl
          have c4_2 := b4.cell 2 rfl
          have c4_3 := b4.cell 3 rfl
          clear b4
          go_wp2_with fail
          refine (lrValid_c l (E5.out.fc 10 rfl) (E5.out.fc 9 rfl) (E5.out.fc 8 rfl) (okOf HV.out) hab).mono ?_
          rintro e w3 ⟨rfl, hb⟩
          have E6 := Lib.hid (E5.out.below hb)
          clear c4_0 c4_1 c4_2 c4_3 E4 E5 hb
          have b5 := E6.out.bx 3 rfl
          have c5_0 := b5.cell 0 rfl
          have c5_1 := b5.cell 1 rfl
          have c5_2 := b5.cell 2 rfl
          have c5_3 := b5.cell 3 rfl
          have c5_4 := b5.cell 4 rfl
          clear b5
          go_wp2_with fail
          refine (lrMessage_v M HM.out _ _ _).mono ?_
          rintro e w4 ⟨rfl, hb⟩
          have E7 := Lib.hid (E6.out.below hb)
          clear c5_0 c5_1 c5_2 c5_3 c5_4 E6 hb
          have b6 := E7.out.bx 4 rfl
          have c6_0 := b6.cell 0 rfl
          have c6_1 := b6.cell 1 rfl
          have c6_2 := b6.cell 2 rfl
          have c6_3 := b6.cell 3 rfl
          clear b6
          have b7 := E7.out.bx 3 rfl
          have c7_0 := b7.cell 0 rfl
          have c7_1 := b7.cell 1 rfl
          have c7_2 := b7.cell 2 rfl
          have c7_3 := b7.cell 3 rfl
          have c7_4 := b7.cell 4 rfl
          clear b7
          go_wp2_with fail
          refine (rSend_ok (E7.out.fc 10 rfl) (E7.out.fc 9 rfl) (E7.out.fc 8 rfl) (E7.out.fc 7 rfl) HV.out HF.out HP.out hbig.out hmb hfl).mono ?_
          rintro e w5 ⟨⟨tv, rfl, ta, tj, tb, tk, tc, tm, rfl, t1, t2, t3⟩, hb⟩
          have E8 := Lib.hid (E7.out.got (E7.out.got (E7.out.got (E7.out.below hb) (.ms (.slice ta (sendL l M p0 c d).L.length tj) (sendL l M p0 c d).L) t1.out) (.rw (.slice tb (sendL l M p0 c d).ats.length tk) (sendL l M p0 c d).ats.length 1 (icl (sendL l M p0 c d).ats)) t2.out) (.rw (.slice tc (sendL l M p0 c d).ft.length tm) (sendL l M p0 c d).ft.length 2 (fcl (sendL l M p0 c d).ft)) t3.out)
          clear c6_0 c6_1 c6_2 c6_3 c7_0 c7_1 c7_2 c7_3 c7_4 E7 hb t1 t2 t3
          have E9 := Lib.hid ((E8.out.push 64 [.int .i64 (sendL l M p0 c d).nw, .slice ta (sendL l M p0 c d).L.length tj, .slice tb (sendL l M p0 c d).ats.length tk, .slice tc (sendL l M p0 c d).ft.length tm] (w5.heap.size) (by simp)))
          have b8 := E9.out.bx 3 rfl
          have c8_0 := b8.cell 0 rfl
          have c8_1 := b8.cell 1 rfl
          have c8_2 := b8.cell 2 rfl
          have c8_3 := b8.cell 3 rfl
          clear b8
          have b9 := E9.out.bx 0 rfl
          have c9_0 := b9.cell 0 rfl
          have c9_1 := b9.cell 1 rfl
          have c9_2 := b9.cell 2 rfl
          have c9_3 := b9.cell 3 rfl
          clear b9
          go_wp2_with fail
          refine (rSame_c (sendL l M p0 c d) (E9.out.fc 9 rfl) (E9.out.fc 8 rfl) (E9.out.fc 7 rfl) (E9.out.fc 2 rfl) (E9.out.fc 1 rfl) (E9.out.fc 0 rfl) (sl_bound hbig.out HP.out H2.out hfl)).mono ?_
          rintro e w6 ⟨rfl, hb⟩
          have E10 := Lib.hid (E9.out.below hb)
          clear c8_0 c8_1 c8_2 c8_3 c9_0 c9_1 c9_2 c9_3 E8 E9 hb
          have b10 := E10.out.bx 5 rfl
          have c10_0 := b10.cell 0 rfl
          have c10_1 := b10.cell 1 rfl
          have c10_2 := b10.cell 2 rfl
          have c10_3 := b10.cell 3 rfl
          clear b10
          go_wp2_with fail
          refine (rReceive_none l pt f0 (E10.out.fc 13 rfl) (E10.out.fc 12 rfl) (E10.out.fc 11 rfl) hbig.out H2.out hfn HF1.out).mono ?_
          rintro e w7 ⟨⟨uv, uo, uq, rfl, ⟨ua, uj, ub, uk, uc, um, rfl, u1, u2, u3⟩, u4⟩, hb⟩
          have E11 := Lib.hid (E10.out.got (E10.out.got (E10.out.got (E10.out.got (E10.out.below hb) (.ms (.slice ua (L0).L.length uj) (L0).L) u1.out) (.rw (.slice ub (L0).ats.length uk) (L0).ats.length 1 (icl (L0).ats)) u2.out) (.rw (.slice uc (L0).ft.length um) (L0).ft.length 2 (fcl (L0).ft)) u3.out) (.bs (.slice uo (M0).body.length uq) (M0).body) u4.out)
          clear c10_0 c10_1 c10_2 c10_3 E10 hb u1 u2 u3 u4
          have E12 := Lib.hid (((E11.out.push 64 [.int .i64 (L0).nw, .slice ua (L0).L.length uj, .slice ub (L0).ats.length uk, .slice uc (L0).ft.length um] (w7.heap.size) (by simp)).push 24 [.int .i64 M0.fr, .int .i64 M0.to_, .int .i64 M0.kd, .int .i64 M0.nm, .slice uo (M0).body.length uq] (w7.heap.size + 1) (by simp)))
          have b11 := E12.out.bx 4 rfl
          have c11_0 := b11.cell 0 rfl
          have c11_1 := b11.cell 1 rfl
          have c11_2 := b11.cell 2 rfl
          have c11_3 := b11.cell 3 rfl
          clear b11
          go_wp2_with fail
          refine (none_c (E12.out.fc 10 rfl) (E12.out.fc 9 rfl) (E12.out.fc 8 rfl)).mono ?_
          rintro e w8 ⟨rfl, hb⟩
          have E13 := Lib.hid (E12.out.below hb)
          clear c11_0 c11_1 c11_2 c11_3 E11 E12 hb
          have b12 := E13.out.bx 3 rfl
          have c12_0 := b12.cell 0 rfl
          have c12_1 := b12.cell 1 rfl
          have c12_2 := b12.cell 2 rfl
          have c12_3 := b12.cell 3 rfl
          have c12_4 := b12.cell 4 rfl
          clear b12
          go_wp2_with fail
          refine (rSameM M0 (E13.out.fc 7 rfl) (ya := none) (yk := 0) (Bs.nil _ _)).mono ?_
          rintro e w9 ⟨rfl, hb⟩
          have E14 := Lib.hid (E13.out.below hb)
          clear c12_0 c12_1 c12_2 c12_3 c12_4 E13 hb
          have hfin := Lib.hid E14.out.bel
          go_wp2
          go_ret
          exact ⟨rfl, hfin.out⟩
theorem LineSends_walk (l : Lin) (M : Msg) (pt : Int) {xa xb xc : Option Addr} {xj xk xm : Nat} {ma : Option Addr} {mk : Nat} {D : Nat → Prop} {w : World} (h1 : Fct.at w D (.ms (.slice xa l.L.length xj) l.L)) (h2 : Fct.at w D (.rw (.slice xb l.ats.length xk) l.ats.length 1 (icl l.ats))) (h3 : Fct.at w D (.rw (.slice xc l.ft.length xm) l.ft.length 2 (fcl l.ft))) (hm : Fct.at w D (.bs (.slice ma M.body.length mk) M.body)) (_ : (Lit.int IntKind.i64 pt).wf = true) :
    Calls Try.prog 11 #[.agg #[.int .i64 l.nw, .slice xa l.L.length xj, .slice xb l.ats.length xk, .slice xc l.ft.length xm], .agg #[.int .i64 M.fr, .int .i64 M.to_, .int .i64 M.kd, .int .i64 M.nm, .slice ma M.body.length mk], .int .i64 pt] w fun e w' => e = .returned (.bool true) ∧ Below w.heap.size w w' := by
  by_cases hF : Few l
  · have h60 : l.L.length ≤ 60 ∧ l.ats.length ≤ 60 := ⟨hF.1, hF.2.1⟩
    by_cases c1 : 100 < M.body.length ∧ M.body.length ≤ 16384
    · exact sends_s4t l M pt h1 h2 h3 hm hF (by omega)
    by_cases c2 : 17000 < M.body.length
    · exact sends_s5t l M pt h1 h2 h3 hm hF (by omega)
    exact sends_main l M pt h1 h2 h3 hm (.inl hF) (by omega)
  · by_cases c0 : l.L.length < 998
    · exact sends_s1 l M pt h1 h2 h3 hm hF c0
    by_cases c1 : 1010 < l.L.length
    · exact sends_s2f l M pt h1 h2 h3 hm hF c1
    by_cases c2 : 1010 < l.ats.length
    · exact sends_s3f l M pt h1 h2 h3 hm hF (by omega)
    by_cases c3 : 100 < M.body.length ∧ M.body.length ≤ 16384
    · exact sends_s4f l M pt h1 h2 h3 hm hF (by omega)
    by_cases c4 : 17000 < M.body.length
    · exact sends_s5f l M pt h1 h2 h3 hm hF (by omega)
    exact sends_main l M pt h1 h2 h3 hm (.inr (by omega)) (by omega)
end Go.Proofs.Ytbcfcdcomboljaa

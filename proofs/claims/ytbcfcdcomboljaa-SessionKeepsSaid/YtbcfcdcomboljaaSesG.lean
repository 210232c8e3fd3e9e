/- SessionAsks and its kin: long, great. -/
import Derived.Test.YtbcfcdcomboljaaSesD
namespace Go.Proofs.Ytbcfcdcomboljaa
open Go.RowKit
set_option linter.unusedVariables false
theorem long_c (l : List Nat) (f0 f1 f2 f3 : Int) (ao : Option Addr) (k : Nat) (w : World) : Calls Try.prog 14 #[.agg #[.int .i64 f0, .int .i64 f1, .int .i64 f2, .int .i64 f3, .slice ao l.length k]] w fun e w' => e = .returned (.bool (decide (20000 < l.length))) ∧ Below w.heap.size w w' := by
  generalize l.length = n
  go_enter Try.func14, Try.ntmps14
  go_wp2
  go_ret
  refine ⟨?_, (Below.refl _ _).alloc (Nat.le_refl _) _⟩
  simp; omega
theorem long_v (l : List Nat) {t : Bool} (ht : decide (20000 < l.length) = t) (f0 f1 f2 f3 : Int) (ao : Option Addr) (k : Nat) (w : World) : Calls Try.prog 14 #[.agg #[.int .i64 f0, .int .i64 f1, .int .i64 f2, .int .i64 f3, .slice ao l.length k]] w fun e w' => e = .returned (.bool t) ∧ Below w.heap.size w w' := by
  subst ht; exact long_c l f0 f1 f2 f3 ao k w
/-- no message before the k-th is long -/
def ShTo (L : List Msg) (k : Nat) : Prop := ∀ i (h : i < L.length), i < k → L[i].body.length ≤ 20000
theorem first_long {L : List Msg} : ∀ n, ¬ ShTo L n → ∃ k, ∃ h : k < L.length, ShTo L k ∧ 20000 < L[k].body.length := by
  intro n
  induction n with
  | zero => intro h; exact absurd (fun i _ hi => by omega) h
  | succ n ih =>
    intro h
    by_cases hn : ShTo L n
    · by_cases hl : n < L.length
      · refine ⟨n, hl, hn, ?_⟩
        apply Classical.byContradiction
        intro hc
        apply h
        intro i hi hin
        by_cases e : i = n
        · subst e; omega
        · exact hn i hi (by omega)
      · exact absurd (fun i hi _ => hn i hi (by omega)) h
    · exact ih hn
/-- a session is not great -/
def Small (S : Ses) : Prop := (S.dn.length ≤ 40 ∨ 1000 < S.dn.length) ∧ S.dn.length ≤ 1100 ∧ S.rq.body.length ≤ 20000 ∧ ShTo S.dn S.dn.length

set_option maxRecDepth 100000 in
set_option maxHeartbeats 1000000 in
theorem great_h {D : Nat → Prop} (nx fr to_ kd nm tr : Int) (wt : Bool) (body : List Nat) (dn : List Msg) {xa : Option Addr} {xk : Nat} {da : Option Addr} {dj : Nat} {w : World}  (hh0 : (40 < dn.length ∧ dn.length ≤ 1000) ∨ 1100 < dn.length) :
    Calls Try.prog 13 #[.agg #[.int .i64 nx, .bool wt, .int .i64 fr, .int .i64 to_, .int .i64 kd, .int .i64 nm, .slice xa body.length xk, .slice da dn.length dj, .int .i64 tr]] w fun e w' => e = .returned (.bool true) ∧ Below w.heap.size w w' := by
  have E0 := Lib.hid (Env.start D w)
  go_enter Try.func13, Try.ntmps13
  have hh := Lib.hid hh0
  clear hh0
  have E1 := Lib.hid ((E0.out.push 27 [.int .i64 nx, .bool wt, .int .i64 fr, .int .i64 to_, .int .i64 kd, .int .i64 nm, .slice xa body.length xk, .slice da dn.length dj, .int .i64 tr] (w.heap.size) (by simp)))
  have hfin := Lib.hid E1.out.bel
  go_wp2
  all_goals (try (exfalso; have := hh.out; omega))
  all_goals (go_ret; exact ⟨rfl, hfin.out⟩)
set_option maxRecDepth 100000 in
set_option maxHeartbeats 1000000 in
theorem great_rA {D : Nat → Prop} (nx fr to_ kd nm tr : Int) (wt : Bool) (body : List Nat) (dn : List Msg) {xa : Option Addr} {xk : Nat} {da : Option Addr} {dj : Nat} {w : World}  (hh0 : dn.length ≤ 40) (hl0 : decide (20000 < body.length) = true) :
    Calls Try.prog 13 #[.agg #[.int .i64 nx, .bool wt, .int .i64 fr, .int .i64 to_, .int .i64 kd, .int .i64 nm, .slice xa body.length xk, .slice da dn.length dj, .int .i64 tr]] w fun e w' => e = .returned (.bool true) ∧ Below w.heap.size w w' := by
  have E0 := Lib.hid (Env.start D w)
  go_enter Try.func13, Try.ntmps13
  have hh := Lib.hid hh0
  clear hh0
  have hl := Lib.hid hl0
  clear hl0
  have gg0 : decide ((40 : Int) < (dn.length : Int)) = false := by first | exact decide_eq_true (by have := hh.out; omega) | exact decide_eq_false (by have := hh.out; omega)
  have gg1 : decide ((1100 : Int) < (dn.length : Int)) = false := by first | exact decide_eq_true (by have := hh.out; omega) | exact decide_eq_false (by have := hh.out; omega)
  go_wp2_with fail
  have E1 := Lib.hid ((E0.out.push 27 [.int .i64 nx, .bool wt, .int .i64 fr, .int .i64 to_, .int .i64 kd, .int .i64 nm, .slice xa body.length xk, .slice da dn.length dj, .int .i64 tr] (w.heap.size) (by simp)))
  refine (long_v body hl.out _ _ _ _ _ _ _).mono ?_
  rintro e w1 ⟨rfl, hb⟩
  have E2 := Lib.hid (E1.out.below hb)
  clear E0 E1 hb
  have hfin := Lib.hid E2.out.bel
  go_wp2
  go_ret
  exact ⟨rfl, hfin.out⟩
set_option maxRecDepth 100000 in
set_option maxHeartbeats 1000000 in
theorem great_rB {D : Nat → Prop} (nx fr to_ kd nm tr : Int) (wt : Bool) (body : List Nat) (dn : List Msg) {xa : Option Addr} {xk : Nat} {da : Option Addr} {dj : Nat} {w : World}  (hh0 : 1000 < dn.length ∧ dn.length ≤ 1100) (hl0 : decide (20000 < body.length) = true) :
    Calls Try.prog 13 #[.agg #[.int .i64 nx, .bool wt, .int .i64 fr, .int .i64 to_, .int .i64 kd, .int .i64 nm, .slice xa body.length xk, .slice da dn.length dj, .int .i64 tr]] w fun e w' => e = .returned (.bool true) ∧ Below w.heap.size w w' := by
  have E0 := Lib.hid (Env.start D w)
  go_enter Try.func13, Try.ntmps13
  have hh := Lib.hid hh0
  clear hh0
  have hl := Lib.hid hl0
  clear hl0
  have gg0 : decide ((40 : Int) < (dn.length : Int)) = true := by first | exact decide_eq_true (by have := hh.out; omega) | exact decide_eq_false (by have := hh.out; omega)
  have gg1 : decide ((dn.length : Int) ≤ 1000) = false := by first | exact decide_eq_true (by have := hh.out; omega) | exact decide_eq_false (by have := hh.out; omega)
  have gg2 : decide ((1100 : Int) < (dn.length : Int)) = false := by first | exact decide_eq_true (by have := hh.out; omega) | exact decide_eq_false (by have := hh.out; omega)
  go_wp2_with fail
  have E1 := Lib.hid ((E0.out.push 27 [.int .i64 nx, .bool wt, .int .i64 fr, .int .i64 to_, .int .i64 kd, .int .i64 nm, .slice xa body.length xk, .slice da dn.length dj, .int .i64 tr] (w.heap.size) (by simp)))
  refine (long_v body hl.out _ _ _ _ _ _ _).mono ?_
  rintro e w1 ⟨rfl, hb⟩
  have E2 := Lib.hid (E1.out.below hb)
  clear E0 E1 hb
  have hfin := Lib.hid E2.out.bel
  go_wp2
  go_ret
  exact ⟨rfl, hfin.out⟩
set_option maxRecDepth 100000 in
set_option maxHeartbeats 1000000 in
theorem great_n {D : Nat → Prop} (nx fr to_ kd nm tr : Int) (wt : Bool) (body : List Nat) (dn : List Msg) {xa : Option Addr} {xk : Nat} {da : Option Addr} {dj : Nat} {w : World}  (hl0 : decide (20000 < body.length) = false) :
    Calls Try.prog 13 #[.agg #[.int .i64 nx, .bool wt, .int .i64 fr, .int .i64 to_, .int .i64 kd, .int .i64 nm, .slice xa body.length xk, .slice da 0 dj, .int .i64 tr]] w fun e w' => e = .returned (.bool false) ∧ Below w.heap.size w w' := by
  have E0 := Lib.hid (Env.start D w)
  go_enter Try.func13, Try.ntmps13
  have hl := Lib.hid hl0
  clear hl0
  go_wp2_with fail
  have E1 := Lib.hid ((E0.out.push 27 [.int .i64 nx, .bool wt, .int .i64 fr, .int .i64 to_, .int .i64 kd, .int .i64 nm, .slice xa body.length xk, .slice da 0 dj, .int .i64 tr] (w.heap.size) (by simp)))
  refine (long_v body hl.out _ _ _ _ _ _ _).mono ?_
  rintro e w1 ⟨rfl, hb⟩
  have E2 := Lib.hid (E1.out.below hb)
  clear E0 E1 hb
  have b1 := E2.out.bx 0 rfl
  have c1_7 := b1.cell 7 rfl
  clear b1
  go_wp2_with fail
  refine wp_loop_rounds 1 ?_
  rw [rounds_succ]
  have hfin := Lib.hid E2.out.bel
  go_wp2
  go_ret
  exact ⟨rfl, hfin.out⟩
set_option maxRecDepth 100000 in
set_option maxHeartbeats 1000000 in
theorem great_s0A {D : Nat → Prop} (nx fr to_ kd nm tr : Int) (wt : Bool) (body : List Nat) (dn : List Msg) {xa : Option Addr} {xk : Nat} {db df dj : Nat} {w : World} (hy : Fct.at w D (.ms (.slice (some ⟨db, df, none⟩) dn.length dj) dn)) (hh0 : dn.length ≤ 40) (hl0 : decide (20000 < body.length) = false) (hu0 : ShTo dn dn.length) :
    Calls Try.prog 13 #[.agg #[.int .i64 nx, .bool wt, .int .i64 fr, .int .i64 to_, .int .i64 kd, .int .i64 nm, .slice xa body.length xk, .slice (some ⟨db, df, none⟩) dn.length dj, .int .i64 tr]] w fun e w' => e = .returned (.bool false) ∧ Below w.heap.size w w' := by
  have E0 := Lib.hid ((Env.start D w).arg (.ms (.slice (some ⟨db, df, none⟩) dn.length dj) dn) hy)
  clear hy
  go_enter Try.func13, Try.ntmps13
  have hh := Lib.hid hh0
  clear hh0
  have hl := Lib.hid hl0
  clear hl0
  have hu := Lib.hid hu0
  clear hu0
  have gg0 : decide ((40 : Int) < (dn.length : Int)) = false := by first | exact decide_eq_true (by have := hh.out; omega) | exact decide_eq_false (by have := hh.out; omega)
  have gg1 : decide ((1100 : Int) < (dn.length : Int)) = false := by first | exact decide_eq_true (by have := hh.out; omega) | exact decide_eq_false (by have := hh.out; omega)
  go_wp2_with fail
  have E1 := Lib.hid ((E0.out.push 27 [.int .i64 nx, .bool wt, .int .i64 fr, .int .i64 to_, .int .i64 kd, .int .i64 nm, .slice xa body.length xk, .slice (some ⟨db, df, none⟩) dn.length dj, .int .i64 tr] (w.heap.size) (by simp)))
  refine (long_v body hl.out _ _ _ _ _ _ _).mono ?_
  rintro e w1 ⟨rfl, hb⟩
  have E2 := Lib.hid (E1.out.below hb)
  clear E0 E1 hb
  have b1 := E2.out.bx 0 rfl
  have c1_7 := b1.cell 7 rfl
  clear b1
  go_wp2_with fail
  go_loopg [29] (dn.length) (fun gk s29 wr => ∃ (k : Nat), s29 = .int .i64 (k : Int) ∧ Hid (Env D w [(w.heap.size, 27, [.int .i64 nx, .bool wt, .int .i64 fr, .int .i64 to_, .int .i64 kd, .int .i64 nm, .slice xa body.length xk, .slice (some ⟨db, df, none⟩) dn.length dj, .int .i64 tr])] [.ms (.slice (some ⟨db, df, none⟩) dn.length dj) dn] wr) ∧ Hid (k ≤ dn.length ∧ gk = dn.length - k))
  case atStart => exact ⟨0, rfl, Lib.hid E2.out, Lib.hid ⟨Nat.zero_le _, rfl⟩⟩
  case round =>
    clear c1_7 E2
    obtain ⟨k, rfl, EL, HA⟩ := hrel
    obtain ⟨a1, a2⟩ := HA.out
    clear HA
    have a3 : dn.length ≤ 1100 := by have := hh.out; omega
    by_cases hy : k = dn.length
    · have t1 : decide ((k : Int) < (dn.length : Int)) = false := decide_eq_false (by omega)
      have hfin := Lib.hid EL.out.bel
      go_wp2
      go_ret
      exact ⟨rfl, hfin.out⟩
    · have hk : k < dn.length := by omega
      have hlk : Hid (decide (20000 < dn[k].body.length) = false) := Lib.hid (decide_eq_false (by have := hu.out k hk hk; omega))
      have t1 : decide ((k : Int) < (dn.length : Int)) = true := decide_eq_true (by omega)
      obtain ⟨ua, uk, E30⟩ := EL.out.els 0 rfl (k) hk
      have E3 : Hid (Env D w [(w.heap.size, 27, [.int .i64 nx, .bool wt, .int .i64 fr, .int .i64 to_, .int .i64 kd, .int .i64 nm, .slice xa body.length xk, .slice (some ⟨db, df, none⟩) dn.length dj, .int .i64 tr])] [.ce db (df + k * 5) (.int .i64 dn[k].fr), .ce db (df + k * 5 + 1) (.int .i64 dn[k].to_), .ce db (df + k * 5 + 2) (.int .i64 dn[k].kd), .ce db (df + k * 5 + 3) (.int .i64 dn[k].nm), .ce db (df + k * 5 + 4) (.slice ua dn[k].body.length uk), .bs (.slice ua dn[k].body.length uk) dn[k].body, .ms (.slice (some ⟨db, df, none⟩) dn.length dj) dn] _) := Lib.hid E30
      clear E30 EL
      have u0 := (E3.out.fc 0 rfl).2
      have u1 := (E3.out.fc 1 rfl).2
      have u2 := (E3.out.fc 2 rfl).2
      have u3 := (E3.out.fc 3 rfl).2
      have u4 := (E3.out.fc 4 rfl).2
      go_wp2_with fail
      have E4 := Lib.hid ((E3.out.push 24 [.int .i64 dn[k].fr, .int .i64 dn[k].to_, .int .i64 dn[k].kd, .int .i64 dn[k].nm, .slice ua dn[k].body.length uk] (wr.heap.size) (by simp)))
      refine (long_v dn[k].body hlk.out _ _ _ _ _ _ _).mono ?_
      rintro e w2 ⟨rfl, hb⟩
      have E5 := Lib.hid (E4.out.below hb)
      clear u0 u1 u2 u3 u4 E3 E4 hb
      have EZ := Lib.hid (((((((E5.out.drop).forget).forget).forget).forget).forget).forget)
      go_wp2
      go_roundg (dn.length - (k + 1))
      case rel => exact ⟨k + 1, rfl, EZ, Lib.hid ⟨by omega, rfl⟩⟩
      case measure => exact by omega
set_option maxRecDepth 100000 in
set_option maxHeartbeats 1000000 in
theorem great_s0B {D : Nat → Prop} (nx fr to_ kd nm tr : Int) (wt : Bool) (body : List Nat) (dn : List Msg) {xa : Option Addr} {xk : Nat} {db df dj : Nat} {w : World} (hy : Fct.at w D (.ms (.slice (some ⟨db, df, none⟩) dn.length dj) dn)) (hh0 : 1000 < dn.length ∧ dn.length ≤ 1100) (hl0 : decide (20000 < body.length) = false) (hu0 : ShTo dn dn.length) :
    Calls Try.prog 13 #[.agg #[.int .i64 nx, .bool wt, .int .i64 fr, .int .i64 to_, .int .i64 kd, .int .i64 nm, .slice xa body.length xk, .slice (some ⟨db, df, none⟩) dn.length dj, .int .i64 tr]] w fun e w' => e = .returned (.bool false) ∧ Below w.heap.size w w' := by
  have E0 := Lib.hid ((Env.start D w).arg (.ms (.slice (some ⟨db, df, none⟩) dn.length dj) dn) hy)
  clear hy
  go_enter Try.func13, Try.ntmps13
  have hh := Lib.hid hh0
  clear hh0
  have hl := Lib.hid hl0
  clear hl0
  have hu := Lib.hid hu0
  clear hu0
  have gg0 : decide ((40 : Int) < (dn.length : Int)) = true := by first | exact decide_eq_true (by have := hh.out; omega) | exact decide_eq_false (by have := hh.out; omega)
  have gg1 : decide ((dn.length : Int) ≤ 1000) = false := by first | exact decide_eq_true (by have := hh.out; omega) | exact decide_eq_false (by have := hh.out; omega)
  have gg2 : decide ((1100 : Int) < (dn.length : Int)) = false := by first | exact decide_eq_true (by have := hh.out; omega) | exact decide_eq_false (by have := hh.out; omega)
  go_wp2_with fail
  have E1 := Lib.hid ((E0.out.push 27 [.int .i64 nx, .bool wt, .int .i64 fr, .int .i64 to_, .int .i64 kd, .int .i64 nm, .slice xa body.length xk, .slice (some ⟨db, df, none⟩) dn.length dj, .int .i64 tr] (w.heap.size) (by simp)))
  refine (long_v body hl.out _ _ _ _ _ _ _).mono ?_
  rintro e w1 ⟨rfl, hb⟩
  have E2 := Lib.hid (E1.out.below hb)
  clear E0 E1 hb
  have b1 := E2.out.bx 0 rfl
  have c1_7 := b1.cell 7 rfl
  clear b1
  go_wp2_with fail
  go_loopg [29] (dn.length) (fun gk s29 wr => ∃ (k : Nat), s29 = .int .i64 (k : Int) ∧ Hid (Env D w [(w.heap.size, 27, [.int .i64 nx, .bool wt, .int .i64 fr, .int .i64 to_, .int .i64 kd, .int .i64 nm, .slice xa body.length xk, .slice (some ⟨db, df, none⟩) dn.length dj, .int .i64 tr])] [.ms (.slice (some ⟨db, df, none⟩) dn.length dj) dn] wr) ∧ Hid (k ≤ dn.length ∧ gk = dn.length - k))
  case atStart => exact ⟨0, rfl, Lib.hid E2.out, Lib.hid ⟨Nat.zero_le _, rfl⟩⟩
  case round =>
    clear c1_7 E2
    obtain ⟨k, rfl, EL, HA⟩ := hrel
    obtain ⟨a1, a2⟩ := HA.out
    clear HA
    have a3 : dn.length ≤ 1100 := by have := hh.out; omega
    by_cases hy : k = dn.length
    · have t1 : decide ((k : Int) < (dn.length : Int)) = false := decide_eq_false (by omega)
      have hfin := Lib.hid EL.out.bel
      go_wp2
      go_ret
      exact ⟨rfl, hfin.out⟩
    · have hk : k < dn.length := by omega
      have hlk : Hid (decide (20000 < dn[k].body.length) = false) := Lib.hid (decide_eq_false (by have := hu.out k hk hk; omega))
      have t1 : decide ((k : Int) < (dn.length : Int)) = true := decide_eq_true (by omega)
      obtain ⟨ua, uk, E30⟩ := EL.out.els 0 rfl (k) hk
      have E3 : Hid (Env D w [(w.heap.size, 27, [.int .i64 nx, .bool wt, .int .i64 fr, .int .i64 to_, .int .i64 kd, .int .i64 nm, .slice xa body.length xk, .slice (some ⟨db, df, none⟩) dn.length dj, .int .i64 tr])] [.ce db (df + k * 5) (.int .i64 dn[k].fr), .ce db (df + k * 5 + 1) (.int .i64 dn[k].to_), .ce db (df + k * 5 + 2) (.int .i64 dn[k].kd), .ce db (df + k * 5 + 3) (.int .i64 dn[k].nm), .ce db (df + k * 5 + 4) (.slice ua dn[k].body.length uk), .bs (.slice ua dn[k].body.length uk) dn[k].body, .ms (.slice (some ⟨db, df, none⟩) dn.length dj) dn] _) := Lib.hid E30
      clear E30 EL
      have u0 := (E3.out.fc 0 rfl).2
      have u1 := (E3.out.fc 1 rfl).2
      have u2 := (E3.out.fc 2 rfl).2
      have u3 := (E3.out.fc 3 rfl).2
      have u4 := (E3.out.fc 4 rfl).2
      go_wp2_with fail
      have E4 := Lib.hid ((E3.out.push 24 [.int .i64 dn[k].fr, .int .i64 dn[k].to_, .int .i64 dn[k].kd, .int .i64 dn[k].nm, .slice ua dn[k].body.length uk] (wr.heap.size) (by simp)))
      refine (long_v dn[k].body hlk.out _ _ _ _ _ _ _).mono ?_
      rintro e w2 ⟨rfl, hb⟩
      have E5 := Lib.hid (E4.out.below hb)
      clear u0 u1 u2 u3 u4 E3 E4 hb
      have EZ := Lib.hid (((((((E5.out.drop).forget).forget).forget).forget).forget).forget)
      go_wp2
      go_roundg (dn.length - (k + 1))
      case rel => exact ⟨k + 1, rfl, EZ, Lib.hid ⟨by omega, rfl⟩⟩
      case measure => exact by omega
set_option maxRecDepth 100000 in
set_option maxHeartbeats 1000000 in
theorem great_s1A {D : Nat → Prop} (nx fr to_ kd nm tr : Int) (wt : Bool) (body : List Nat) (dn : List Msg) {xa : Option Addr} {xk : Nat} {db df dj : Nat} {kb : Nat} {w : World} (hy : Fct.at w D (.ms (.slice (some ⟨db, df, none⟩) dn.length dj) dn)) (hh0 : dn.length ≤ 40) (hl0 : decide (20000 < body.length) = false) (hu0 : ∃ h : kb < dn.length, ShTo dn kb ∧ 20000 < dn[kb].body.length) :
    Calls Try.prog 13 #[.agg #[.int .i64 nx, .bool wt, .int .i64 fr, .int .i64 to_, .int .i64 kd, .int .i64 nm, .slice xa body.length xk, .slice (some ⟨db, df, none⟩) dn.length dj, .int .i64 tr]] w fun e w' => e = .returned (.bool true) ∧ Below w.heap.size w w' := by
  have E0 := Lib.hid ((Env.start D w).arg (.ms (.slice (some ⟨db, df, none⟩) dn.length dj) dn) hy)
  clear hy
  go_enter Try.func13, Try.ntmps13
  have hh := Lib.hid hh0
  clear hh0
  have hl := Lib.hid hl0
  clear hl0
  have hu := Lib.hid hu0
  clear hu0
  have gg0 : decide ((40 : Int) < (dn.length : Int)) = false := by first | exact decide_eq_true (by have := hh.out; omega) | exact decide_eq_false (by have := hh.out; omega)
  have gg1 : decide ((1100 : Int) < (dn.length : Int)) = false := by first | exact decide_eq_true (by have := hh.out; omega) | exact decide_eq_false (by have := hh.out; omega)
  go_wp2_with fail
  have E1 := Lib.hid ((E0.out.push 27 [.int .i64 nx, .bool wt, .int .i64 fr, .int .i64 to_, .int .i64 kd, .int .i64 nm, .slice xa body.length xk, .slice (some ⟨db, df, none⟩) dn.length dj, .int .i64 tr] (w.heap.size) (by simp)))
  refine (long_v body hl.out _ _ _ _ _ _ _).mono ?_
  rintro e w1 ⟨rfl, hb⟩
  have E2 := Lib.hid (E1.out.below hb)
  clear E0 E1 hb
  have b1 := E2.out.bx 0 rfl
  have c1_7 := b1.cell 7 rfl
  clear b1
  go_wp2_with fail
  go_loopg [29] (dn.length) (fun gk s29 wr => ∃ (k : Nat), s29 = .int .i64 (k : Int) ∧ Hid (Env D w [(w.heap.size, 27, [.int .i64 nx, .bool wt, .int .i64 fr, .int .i64 to_, .int .i64 kd, .int .i64 nm, .slice xa body.length xk, .slice (some ⟨db, df, none⟩) dn.length dj, .int .i64 tr])] [.ms (.slice (some ⟨db, df, none⟩) dn.length dj) dn] wr) ∧ Hid (k ≤ kb ∧ gk = dn.length - k))
  case atStart => exact ⟨0, rfl, Lib.hid E2.out, Lib.hid ⟨Nat.zero_le _, rfl⟩⟩
  case round =>
    clear c1_7 E2
    obtain ⟨k, rfl, EL, HA⟩ := hrel
    obtain ⟨a1, a2⟩ := HA.out
    clear HA
    have a3 : dn.length ≤ 1100 := by have := hh.out; omega
    obtain ⟨hkb, hup, hbad⟩ := hu.out
    have hup := Lib.hid hup
    have hbad := Lib.hid hbad
    by_cases hy : k = kb
    · have hk : k < dn.length := by omega
      have hlk : Hid (decide (20000 < dn[k].body.length) = true) := Lib.hid (decide_eq_true (by simp only [hy]; exact hbad.out))
      clear hy
      have t1 : decide ((k : Int) < (dn.length : Int)) = true := decide_eq_true (by omega)
      obtain ⟨ua, uk, E30⟩ := EL.out.els 0 rfl (k) hk
      have E3 : Hid (Env D w [(w.heap.size, 27, [.int .i64 nx, .bool wt, .int .i64 fr, .int .i64 to_, .int .i64 kd, .int .i64 nm, .slice xa body.length xk, .slice (some ⟨db, df, none⟩) dn.length dj, .int .i64 tr])] [.ce db (df + k * 5) (.int .i64 dn[k].fr), .ce db (df + k * 5 + 1) (.int .i64 dn[k].to_), .ce db (df + k * 5 + 2) (.int .i64 dn[k].kd), .ce db (df + k * 5 + 3) (.int .i64 dn[k].nm), .ce db (df + k * 5 + 4) (.slice ua dn[k].body.length uk), .bs (.slice ua dn[k].body.length uk) dn[k].body, .ms (.slice (some ⟨db, df, none⟩) dn.length dj) dn] _) := Lib.hid E30
      clear E30 EL
      have u0 := (E3.out.fc 0 rfl).2
      have u1 := (E3.out.fc 1 rfl).2
      have u2 := (E3.out.fc 2 rfl).2
      have u3 := (E3.out.fc 3 rfl).2
      have u4 := (E3.out.fc 4 rfl).2
      go_wp2_with fail
      have E4 := Lib.hid ((E3.out.push 24 [.int .i64 dn[k].fr, .int .i64 dn[k].to_, .int .i64 dn[k].kd, .int .i64 dn[k].nm, .slice ua dn[k].body.length uk] (wr.heap.size) (by simp)))
      refine (long_v dn[k].body hlk.out _ _ _ _ _ _ _).mono ?_
      rintro e w2 ⟨rfl, hb⟩
      have E5 := Lib.hid (E4.out.below hb)
      clear u0 u1 u2 u3 u4 E3 E4 hb
      have hfin := Lib.hid E5.out.bel
      go_wp2
      go_ret
      exact ⟨rfl, hfin.out⟩
    · have hk : k < dn.length := by omega
      have hlk : Hid (decide (20000 < dn[k].body.length) = false) := Lib.hid (decide_eq_false (by have := hup.out k hk (by omega); omega))
      have t1 : decide ((k : Int) < (dn.length : Int)) = true := decide_eq_true (by omega)
      obtain ⟨ua, uk, E30⟩ := EL.out.els 0 rfl (k) hk
      have E3 : Hid (Env D w [(w.heap.size, 27, [.int .i64 nx, .bool wt, .int .i64 fr, .int .i64 to_, .int .i64 kd, .int .i64 nm, .slice xa body.length xk, .slice (some ⟨db, df, none⟩) dn.length dj, .int .i64 tr])] [.ce db (df + k * 5) (.int .i64 dn[k].fr), .ce db (df + k * 5 + 1) (.int .i64 dn[k].to_), .ce db (df + k * 5 + 2) (.int .i64 dn[k].kd), .ce db (df + k * 5 + 3) (.int .i64 dn[k].nm), .ce db (df + k * 5 + 4) (.slice ua dn[k].body.length uk), .bs (.slice ua dn[k].body.length uk) dn[k].body, .ms (.slice (some ⟨db, df, none⟩) dn.length dj) dn] _) := Lib.hid E30
      clear E30 EL
      have u0 := (E3.out.fc 0 rfl).2
      have u1 := (E3.out.fc 1 rfl).2
      have u2 := (E3.out.fc 2 rfl).2
      have u3 := (E3.out.fc 3 rfl).2
      have u4 := (E3.out.fc 4 rfl).2
      go_wp2_with fail
      have E4 := Lib.hid ((E3.out.push 24 [.int .i64 dn[k].fr, .int .i64 dn[k].to_, .int .i64 dn[k].kd, .int .i64 dn[k].nm, .slice ua dn[k].body.length uk] (wr.heap.size) (by simp)))
      refine (long_v dn[k].body hlk.out _ _ _ _ _ _ _).mono ?_
      rintro e w2 ⟨rfl, hb⟩
      have E5 := Lib.hid (E4.out.below hb)
      clear u0 u1 u2 u3 u4 E3 E4 hb
      have EZ := Lib.hid (((((((E5.out.drop).forget).forget).forget).forget).forget).forget)
      go_wp2
      go_roundg (dn.length - (k + 1))
      case rel => exact ⟨k + 1, rfl, EZ, Lib.hid ⟨by omega, rfl⟩⟩
      case measure => exact by omega
set_option maxRecDepth 100000 in
set_option maxHeartbeats 1000000 in
theorem great_s1B {D : Nat → Prop} (nx fr to_ kd nm tr : Int) (wt : Bool) (body : List Nat) (dn : List Msg) {xa : Option Addr} {xk : Nat} {db df dj : Nat} {kb : Nat} {w : World} (hy : Fct.at w D (.ms (.slice (some ⟨db, df, none⟩) dn.length dj) dn)) (hh0 : 1000 < dn.length ∧ dn.length ≤ 1100) (hl0 : decide (20000 < body.length) = false) (hu0 : ∃ h : kb < dn.length, ShTo dn kb ∧ 20000 < dn[kb].body.length) :
    Calls Try.prog 13 #[.agg #[.int .i64 nx, .bool wt, .int .i64 fr, .int .i64 to_, .int .i64 kd, .int .i64 nm, .slice xa body.length xk, .slice (some ⟨db, df, none⟩) dn.length dj, .int .i64 tr]] w fun e w' => e = .returned (.bool true) ∧ Below w.heap.size w w' := by
  have E0 := Lib.hid ((Env.start D w).arg (.ms (.slice (some ⟨db, df, none⟩) dn.length dj) dn) hy)
  clear hy
  go_enter Try.func13, Try.ntmps13
  have hh := Lib.hid hh0
  clear hh0
  have hl := Lib.hid hl0
  clear hl0
  have hu := Lib.hid hu0
  clear hu0
  have gg0 : decide ((40 : Int) < (dn.length : Int)) = true := by first | exact decide_eq_true (by have := hh.out; omega) | exact decide_eq_false (by have := hh.out; omega)
  have gg1 : decide ((dn.length : Int) ≤ 1000) = false := by first | exact decide_eq_true (by have := hh.out; omega) | exact decide_eq_false (by have := hh.out; omega)
  have gg2 : decide ((1100 : Int) < (dn.length : Int)) = false := by first | exact decide_eq_true (by have := hh.out; omega) | exact decide_eq_false (by have := hh.out; omega)
  go_wp2_with fail
  have E1 := Lib.hid ((E0.out.push 27 [.int .i64 nx, .bool wt, .int .i64 fr, .int .i64 to_, .int .i64 kd, .int .i64 nm, .slice xa body.length xk, .slice (some ⟨db, df, none⟩) dn.length dj, .int .i64 tr] (w.heap.size) (by simp)))
  refine (long_v body hl.out _ _ _ _ _ _ _).mono ?_
  rintro e w1 ⟨rfl, hb⟩
  have E2 := Lib.hid (E1.out.below hb)
  clear E0 E1 hb
  have b1 := E2.out.bx 0 rfl
  have c1_7 := b1.cell 7 rfl
  clear b1
  go_wp2_with fail
  go_loopg [29] (dn.length) (fun gk s29 wr => ∃ (k : Nat), s29 = .int .i64 (k : Int) ∧ Hid (Env D w [(w.heap.size, 27, [.int .i64 nx, .bool wt, .int .i64 fr, .int .i64 to_, .int .i64 kd, .int .i64 nm, .slice xa body.length xk, .slice (some ⟨db, df, none⟩) dn.length dj, .int .i64 tr])] [.ms (.slice (some ⟨db, df, none⟩) dn.length dj) dn] wr) ∧ Hid (k ≤ kb ∧ gk = dn.length - k))
  case atStart => exact ⟨0, rfl, Lib.hid E2.out, Lib.hid ⟨Nat.zero_le _, rfl⟩⟩
  case round =>
    clear c1_7 E2
    obtain ⟨k, rfl, EL, HA⟩ := hrel
    obtain ⟨a1, a2⟩ := HA.out
    clear HA
    have a3 : dn.length ≤ 1100 := by have := hh.out; omega
    obtain ⟨hkb, hup, hbad⟩ := hu.out
    have hup := Lib.hid hup
    have hbad := Lib.hid hbad
    by_cases hy : k = kb
    · have hk : k < dn.length := by omega
      have hlk : Hid (decide (20000 < dn[k].body.length) = true) := Lib.hid (decide_eq_true (by simp only [hy]; exact hbad.out))
      clear hy
      have t1 : decide ((k : Int) < (dn.length : Int)) = true := decide_eq_true (by omega)
      obtain ⟨ua, uk, E30⟩ := EL.out.els 0 rfl (k) hk
      have E3 : Hid (Env D w [(w.heap.size, 27, [.int .i64 nx, .bool wt, .int .i64 fr, .int .i64 to_, .int .i64 kd, .int .i64 nm, .slice xa body.length xk, .slice (some ⟨db, df, none⟩) dn.length dj, .int .i64 tr])] [.ce db (df + k * 5) (.int .i64 dn[k].fr), .ce db (df + k * 5 + 1) (.int .i64 dn[k].to_), .ce db (df + k * 5 + 2) (.int .i64 dn[k].kd), .ce db (df + k * 5 + 3) (.int .i64 dn[k].nm), .ce db (df + k * 5 + 4) (.slice ua dn[k].body.length uk), .bs (.slice ua dn[k].body.length uk) dn[k].body, .ms (.slice (some ⟨db, df, none⟩) dn.length dj) dn] _) := Lib.hid E30
      clear E30 EL
      have u0 := (E3.out.fc 0 rfl).2
      have u1 := (E3.out.fc 1 rfl).2
      have u2 := (E3.out.fc 2 rfl).2
      have u3 := (E3.out.fc 3 rfl).2
      have u4 := (E3.out.fc 4 rfl).2
      go_wp2_with fail
      have E4 := Lib.hid ((E3.out.push 24 [.int .i64 dn[k].fr, .int .i64 dn[k].to_, .int .i64 dn[k].kd, .int .i64 dn[k].nm, .slice ua dn[k].body.length uk] (wr.heap.size) (by simp)))
      refine (long_v dn[k].body hlk.out _ _ _ _ _ _ _).mono ?_
      rintro e w2 ⟨rfl, hb⟩
      have E5 := Lib.hid (E4.out.below hb)
      clear u0 u1 u2 u3 u4 E3 E4 hb
      have hfin := Lib.hid E5.out.bel
      go_wp2
      go_ret
      exact ⟨rfl, hfin.out⟩
    · have hk : k < dn.length := by omega
      have hlk : Hid (decide (20000 < dn[k].body.length) = false) := Lib.hid (decide_eq_false (by have := hup.out k hk (by omega); omega))
      have t1 : decide ((k : Int) < (dn.length : Int)) = true := decide_eq_true (by omega)
      obtain ⟨ua, uk, E30⟩ := EL.out.els 0 rfl (k) hk
      have E3 : Hid (Env D w [(w.heap.size, 27, [.int .i64 nx, .bool wt, .int .i64 fr, .int .i64 to_, .int .i64 kd, .int .i64 nm, .slice xa body.length xk, .slice (some ⟨db, df, none⟩) dn.length dj, .int .i64 tr])] [.ce db (df + k * 5) (.int .i64 dn[k].fr), .ce db (df + k * 5 + 1) (.int .i64 dn[k].to_), .ce db (df + k * 5 + 2) (.int .i64 dn[k].kd), .ce db (df + k * 5 + 3) (.int .i64 dn[k].nm), .ce db (df + k * 5 + 4) (.slice ua dn[k].body.length uk), .bs (.slice ua dn[k].body.length uk) dn[k].body, .ms (.slice (some ⟨db, df, none⟩) dn.length dj) dn] _) := Lib.hid E30
      clear E30 EL
      have u0 := (E3.out.fc 0 rfl).2
      have u1 := (E3.out.fc 1 rfl).2
      have u2 := (E3.out.fc 2 rfl).2
      have u3 := (E3.out.fc 3 rfl).2
      have u4 := (E3.out.fc 4 rfl).2
      go_wp2_with fail
      have E4 := Lib.hid ((E3.out.push 24 [.int .i64 dn[k].fr, .int .i64 dn[k].to_, .int .i64 dn[k].kd, .int .i64 dn[k].nm, .slice ua dn[k].body.length uk] (wr.heap.size) (by simp)))
      refine (long_v dn[k].body hlk.out _ _ _ _ _ _ _).mono ?_
      rintro e w2 ⟨rfl, hb⟩
      have E5 := Lib.hid (E4.out.below hb)
      clear u0 u1 u2 u3 u4 E3 E4 hb
      have EZ := Lib.hid (((((((E5.out.drop).forget).forget).forget).forget).forget).forget)
      go_wp2
      go_roundg (dn.length - (k + 1))
      case rel => exact ⟨k + 1, rfl, EZ, Lib.hid ⟨by omega, rfl⟩⟩
      case measure => exact by omega
theorem great_t {S : Ses} {D : Nat → Prop} {xa da : Option Addr} {xk dj : Nat} {w : World} (hS : ¬ Small S) (hy : Fct.at w D (.ms (.slice da S.dn.length dj) S.dn)) :
    Calls Try.prog 13 #[.agg #[.int .i64 S.nx, .bool S.wt, .int .i64 S.rq.fr, .int .i64 S.rq.to_, .int .i64 S.rq.kd, .int .i64 S.rq.nm, .slice xa S.rq.body.length xk, .slice da S.dn.length dj, .int .i64 S.tr]] w fun e w' => e = .returned (.bool true) ∧ Below w.heap.size w w' := by
  obtain ⟨nx, wt, ⟨fr, to_, kd, nm, body⟩, dn, tr⟩ := S
  dsimp only [Small] at *
  by_cases h1 : (40 < dn.length ∧ dn.length ≤ 1000) ∨ 1100 < dn.length
  · exact great_h (D := D) nx fr to_ kd nm tr wt body dn h1
  · by_cases h2 : 20000 < body.length
    · by_cases h3 : dn.length ≤ 40
      · exact great_rA (D := D) nx fr to_ kd nm tr wt body dn h3 (decide_eq_true h2)
      · exact great_rB (D := D) nx fr to_ kd nm tr wt body dn (by omega) (decide_eq_true h2)
    · obtain ⟨k, hk, hu, hb⟩ := first_long dn.length (fun h => hS ⟨by omega, by omega, by omega, h⟩)
      obtain ⟨b, off, j, e⟩ := Ms.open hy (by rintro rfl; simp at hk)
      rw [e] at hy ⊢
      by_cases h3 : dn.length ≤ 40
      · exact great_s1A nx fr to_ kd nm tr wt body dn hy h3 (decide_eq_false h2) ⟨hk, hu, hb⟩
      · exact great_s1B nx fr to_ kd nm tr wt body dn hy (by omega) (decide_eq_false h2) ⟨hk, hu, hb⟩
theorem great_f {S : Ses} {D : Nat → Prop} {xa da : Option Addr} {xk dj : Nat} {w : World} (hS : Small S) (hy : Fct.at w D (.ms (.slice da S.dn.length dj) S.dn)) :
    Calls Try.prog 13 #[.agg #[.int .i64 S.nx, .bool S.wt, .int .i64 S.rq.fr, .int .i64 S.rq.to_, .int .i64 S.rq.kd, .int .i64 S.rq.nm, .slice xa S.rq.body.length xk, .slice da S.dn.length dj, .int .i64 S.tr]] w fun e w' => e = .returned (.bool false) ∧ Below w.heap.size w w' := by
  obtain ⟨nx, wt, ⟨fr, to_, kd, nm, body⟩, dn, tr⟩ := S
  dsimp only [Small] at *
  obtain ⟨h1, h2, h3, h4⟩ := hS
  cases dn with
  | nil => exact great_n (D := D) nx fr to_ kd nm tr wt body [] (decide_eq_false (by omega))
  | cons d dn =>
    obtain ⟨b, off, j, e⟩ := Ms.open hy (by simp)
    rw [e] at hy ⊢
    rcases h1 with h1 | h1
    · exact great_s0A nx fr to_ kd nm tr wt body _ hy h1 (decide_eq_false (by omega)) h4
    · exact great_s0B nx fr to_ kd nm tr wt body _ hy ⟨h1, h2⟩ (decide_eq_false (by omega)) h4
end Go.Proofs.Ytbcfcdcomboljaa

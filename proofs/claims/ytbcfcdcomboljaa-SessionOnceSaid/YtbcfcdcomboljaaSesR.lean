/- Known, and the reference's find and Known. -/
import Derived.Test.YtbcfcdcomboljaaSesK
import Derived.Test.YtbcfcdcomboljaaSesQz
namespace Go.Proofs.Ytbcfcdcomboljaa
open Go.RowKit
set_option linter.unusedVariables false
theorem found_no {L : List Msg} {c : Int} {i : Nat} {t : Bool} (h : Found L c i t) (hn : ∀ k (h : k < L.length), L[k].to_ ≠ c) : t = false := by
  cases t
  · rfl
  · obtain ⟨h1, h2⟩ := h.2.2.2.1 rfl; exact absurd h2 (hn i h1)
set_option maxRecDepth 100000 in
set_option maxHeartbeats 1000000 in
theorem rfind_nil {D : Nat → Prop} (nx fr to_ kd nm tr : Int) (wt : Bool) (bv : Value) {da : Option Addr} {dj : Nat} (c : Int) {w : World}   :
    Calls Try.prog 53 #[.agg #[.int .i64 nx, .bool wt, .int .i64 fr, .int .i64 to_, .int .i64 kd, .int .i64 nm, bv, .slice da 0 dj, .int .i64 tr], .int .i64 c] w fun e w' => e = .returned (.int .i64 (-1)) ∧ Below w.heap.size w w' := by
  have E0 := Lib.hid (Env.start D w)
  go_enter Try.func53, Try.ntmps53
  go_wp2_with fail
  have E1 := Lib.hid ((E0.out.push 27 [.int .i64 nx, .bool wt, .int .i64 fr, .int .i64 to_, .int .i64 kd, .int .i64 nm, bv, .slice da 0 dj, .int .i64 tr] (w.heap.size) (by simp)))
  refine wp_loop_rounds 1 ?_
  rw [rounds_succ]
  have b1 := E1.out.bx 0 rfl
  have c1_7 := b1.cell 7 rfl
  clear b1
  have hfin := Lib.hid E1.out.bel
  go_wp2
  go_ret
  exact ⟨rfl, hfin.out⟩
set_option maxRecDepth 100000 in
set_option maxHeartbeats 1000000 in
theorem rfind_at {D : Nat → Prop} (nx fr to_ kd nm tr : Int) (wt : Bool) (bv : Value) (dn : List Msg) {db df dj : Nat} (c : Int) (kk : Nat) {w : World} (hy : Fct.at w D (.ms (.slice (some ⟨db, df, none⟩) dn.length dj) dn)) (hl0 : dn.length ≤ 1000) (hk0 : ∃ h : kk < dn.length, dn[kk].to_ = c ∧ ∀ k (h : k < dn.length), k < kk → dn[k].to_ ≠ c) :
    Calls Try.prog 53 #[.agg #[.int .i64 nx, .bool wt, .int .i64 fr, .int .i64 to_, .int .i64 kd, .int .i64 nm, bv, .slice (some ⟨db, df, none⟩) dn.length dj, .int .i64 tr], .int .i64 c] w fun e w' => e = .returned (.int .i64 (kk : Int)) ∧ Below w.heap.size w w' := by
  have E0 := Lib.hid ((Env.start D w).arg (.ms (.slice (some ⟨db, df, none⟩) dn.length dj) dn) hy)
  clear hy
  go_enter Try.func53, Try.ntmps53
  have hl := Lib.hid hl0
  clear hl0
  have hk := Lib.hid hk0
  clear hk0
  go_wp2_with fail
  have E1 := Lib.hid ((E0.out.push 27 [.int .i64 nx, .bool wt, .int .i64 fr, .int .i64 to_, .int .i64 kd, .int .i64 nm, bv, .slice (some ⟨db, df, none⟩) dn.length dj, .int .i64 tr] (w.heap.size) (by simp)))
  go_loopg [5] (dn.length) (fun gk s5 wr => ∃ (k : Nat), s5 = .int .i64 (k : Int) ∧ Hid (Env D w [(w.heap.size, 27, [.int .i64 nx, .bool wt, .int .i64 fr, .int .i64 to_, .int .i64 kd, .int .i64 nm, bv, .slice (some ⟨db, df, none⟩) dn.length dj, .int .i64 tr])] [.ms (.slice (some ⟨db, df, none⟩) dn.length dj) dn] wr) ∧ Hid (k ≤ kk ∧ gk = dn.length - k))
  case atStart => exact ⟨0, rfl, Lib.hid E1.out, Lib.hid ⟨Nat.zero_le _, rfl⟩⟩
  case round =>
    clear E0 E1
    obtain ⟨k, rfl, EL, HA⟩ := hrel
    obtain ⟨a1, a2⟩ := HA.out
    clear HA
    have a3 := hl.out
    obtain ⟨hkk, hto, hbe⟩ := hk.out
    have hto := Lib.hid hto
    have hbe := Lib.hid hbe
    by_cases hy : k = kk
    · have hkd : k < dn.length := by omega
      have t2 : (dn[k].to_ == c) = true := by simp only [hy]; simpa using hto.out
      have HE := Lib.hid hy
      clear hy
      have t1 : decide ((k : Int) < (dn.length : Int)) = true := decide_eq_true (by omega)
      obtain ⟨ua, uk, E20⟩ := EL.out.els 0 rfl (k) hkd
      have E2 : Hid (Env D w [(w.heap.size, 27, [.int .i64 nx, .bool wt, .int .i64 fr, .int .i64 to_, .int .i64 kd, .int .i64 nm, bv, .slice (some ⟨db, df, none⟩) dn.length dj, .int .i64 tr])] [.ce db (df + k * 5) (.int .i64 dn[k].fr), .ce db (df + k * 5 + 1) (.int .i64 dn[k].to_), .ce db (df + k * 5 + 2) (.int .i64 dn[k].kd), .ce db (df + k * 5 + 3) (.int .i64 dn[k].nm), .ce db (df + k * 5 + 4) (.slice ua dn[k].body.length uk), .bs (.slice ua dn[k].body.length uk) dn[k].body, .ms (.slice (some ⟨db, df, none⟩) dn.length dj) dn] _) := Lib.hid E20
      clear E20 EL
      have u0 := (E2.out.fc 0 rfl).2
      have u1 := (E2.out.fc 1 rfl).2
      have u2 := (E2.out.fc 2 rfl).2
      have u3 := (E2.out.fc 3 rfl).2
      have u4 := (E2.out.fc 4 rfl).2
      have b1 := E2.out.bx 0 rfl
      have c1_7 := b1.cell 7 rfl
      clear b1
      have HE2 : Hid ((k : Int) = (kk : Int)) := Lib.hid (by have := HE.out; omega)
      have hfin := Lib.hid E2.out.bel
      go_wp2
      rw [HE2.out]
      go_ret
      exact ⟨rfl, hfin.out⟩
    · have hkd : k < dn.length := by omega
      have t2 : (dn[k].to_ == c) = false := by have := hbe.out k hkd (by omega); simpa using this
      have t1 : decide ((k : Int) < (dn.length : Int)) = true := decide_eq_true (by omega)
      obtain ⟨ua, uk, E20⟩ := EL.out.els 0 rfl (k) hkd
      have E2 : Hid (Env D w [(w.heap.size, 27, [.int .i64 nx, .bool wt, .int .i64 fr, .int .i64 to_, .int .i64 kd, .int .i64 nm, bv, .slice (some ⟨db, df, none⟩) dn.length dj, .int .i64 tr])] [.ce db (df + k * 5) (.int .i64 dn[k].fr), .ce db (df + k * 5 + 1) (.int .i64 dn[k].to_), .ce db (df + k * 5 + 2) (.int .i64 dn[k].kd), .ce db (df + k * 5 + 3) (.int .i64 dn[k].nm), .ce db (df + k * 5 + 4) (.slice ua dn[k].body.length uk), .bs (.slice ua dn[k].body.length uk) dn[k].body, .ms (.slice (some ⟨db, df, none⟩) dn.length dj) dn] _) := Lib.hid E20
      clear E20 EL
      have u0 := (E2.out.fc 0 rfl).2
      have u1 := (E2.out.fc 1 rfl).2
      have u2 := (E2.out.fc 2 rfl).2
      have u3 := (E2.out.fc 3 rfl).2
      have u4 := (E2.out.fc 4 rfl).2
      have b1 := E2.out.bx 0 rfl
      have c1_7 := b1.cell 7 rfl
      clear b1
      have EZ := Lib.hid ((((((E2.out.forget).forget).forget).forget).forget).forget)
      go_wp2
      go_roundg (dn.length - (k + 1))
      case rel => exact ⟨k + 1, rfl, EZ, Lib.hid ⟨by omega, rfl⟩⟩
      case measure => exact by omega
set_option maxRecDepth 100000 in
set_option maxHeartbeats 1000000 in
theorem rfind_no {D : Nat → Prop} (nx fr to_ kd nm tr : Int) (wt : Bool) (bv : Value) (dn : List Msg) {db df dj : Nat} (c : Int) {w : World} (hy : Fct.at w D (.ms (.slice (some ⟨db, df, none⟩) dn.length dj) dn)) (hl0 : dn.length ≤ 1000) (hk0 : ∀ k (h : k < dn.length), dn[k].to_ ≠ c) :
    Calls Try.prog 53 #[.agg #[.int .i64 nx, .bool wt, .int .i64 fr, .int .i64 to_, .int .i64 kd, .int .i64 nm, bv, .slice (some ⟨db, df, none⟩) dn.length dj, .int .i64 tr], .int .i64 c] w fun e w' => e = .returned (.int .i64 (-1)) ∧ Below w.heap.size w w' := by
  have E0 := Lib.hid ((Env.start D w).arg (.ms (.slice (some ⟨db, df, none⟩) dn.length dj) dn) hy)
  clear hy
  go_enter Try.func53, Try.ntmps53
  have hl := Lib.hid hl0
  clear hl0
  have hk := Lib.hid hk0
  clear hk0
  go_wp2_with fail
  have E1 := Lib.hid ((E0.out.push 27 [.int .i64 nx, .bool wt, .int .i64 fr, .int .i64 to_, .int .i64 kd, .int .i64 nm, bv, .slice (some ⟨db, df, none⟩) dn.length dj, .int .i64 tr] (w.heap.size) (by simp)))
  go_loopg [5] (dn.length) (fun gk s5 wr => ∃ (k : Nat), s5 = .int .i64 (k : Int) ∧ Hid (Env D w [(w.heap.size, 27, [.int .i64 nx, .bool wt, .int .i64 fr, .int .i64 to_, .int .i64 kd, .int .i64 nm, bv, .slice (some ⟨db, df, none⟩) dn.length dj, .int .i64 tr])] [.ms (.slice (some ⟨db, df, none⟩) dn.length dj) dn] wr) ∧ Hid (k ≤ dn.length ∧ gk = dn.length - k))
  case atStart => exact ⟨0, rfl, Lib.hid E1.out, Lib.hid ⟨Nat.zero_le _, rfl⟩⟩
  case round =>
    clear E0 E1
    obtain ⟨k, rfl, EL, HA⟩ := hrel
    obtain ⟨a1, a2⟩ := HA.out
    clear HA
    have a3 := hl.out
    by_cases hy : k = dn.length
    · have t1 : decide ((k : Int) < (dn.length : Int)) = false := decide_eq_false (by omega)
      have b1 := EL.out.bx 0 rfl
      have c1_7 := b1.cell 7 rfl
      clear b1
      have hfin := Lib.hid EL.out.bel
      go_wp2
      go_ret
      exact ⟨rfl, hfin.out⟩
    · have hkd : k < dn.length := by omega
      have t2 : (dn[k].to_ == c) = false := by have := hk.out k hkd; simpa using this
      have t1 : decide ((k : Int) < (dn.length : Int)) = true := decide_eq_true (by omega)
      obtain ⟨ua, uk, E20⟩ := EL.out.els 0 rfl (k) hkd
      have E2 : Hid (Env D w [(w.heap.size, 27, [.int .i64 nx, .bool wt, .int .i64 fr, .int .i64 to_, .int .i64 kd, .int .i64 nm, bv, .slice (some ⟨db, df, none⟩) dn.length dj, .int .i64 tr])] [.ce db (df + k * 5) (.int .i64 dn[k].fr), .ce db (df + k * 5 + 1) (.int .i64 dn[k].to_), .ce db (df + k * 5 + 2) (.int .i64 dn[k].kd), .ce db (df + k * 5 + 3) (.int .i64 dn[k].nm), .ce db (df + k * 5 + 4) (.slice ua dn[k].body.length uk), .bs (.slice ua dn[k].body.length uk) dn[k].body, .ms (.slice (some ⟨db, df, none⟩) dn.length dj) dn] _) := Lib.hid E20
      clear E20 EL
      have u0 := (E2.out.fc 0 rfl).2
      have u1 := (E2.out.fc 1 rfl).2
      have u2 := (E2.out.fc 2 rfl).2
      have u3 := (E2.out.fc 3 rfl).2
      have u4 := (E2.out.fc 4 rfl).2
      have b1 := E2.out.bx 0 rfl
      have c1_7 := b1.cell 7 rfl
      clear b1
      have EZ := Lib.hid ((((((E2.out.forget).forget).forget).forget).forget).forget)
      go_wp2
      go_roundg (dn.length - (k + 1))
      case rel => exact ⟨k + 1, rfl, EZ, Lib.hid ⟨by omega, rfl⟩⟩
      case measure => exact by omega
theorem rfind_a {S : Ses} {c : Int} {kk : Nat} {D : Nat → Prop} {bv : Value} {da : Option Addr} {dj : Nat} {w : World} (hS : SesOk S) (hk : ∃ h : kk < S.dn.length, S.dn[kk].to_ = c) (hy : Fct.at w D (.ms (.slice da S.dn.length dj) S.dn)) :
    Calls Try.prog 53 #[.agg #[.int .i64 S.nx, .bool S.wt, .int .i64 S.rq.fr, .int .i64 S.rq.to_, .int .i64 S.rq.kd, .int .i64 S.rq.nm, bv, .slice da S.dn.length dj, .int .i64 S.tr], .int .i64 c] w fun e w' => e = .returned (.int .i64 (kk : Int)) ∧ Below w.heap.size w w' := by
  obtain ⟨nx, wt, ⟨fr, to_, kd, nm, body⟩, dn, tr⟩ := S
  have hA := asc_of hS.2.2.2
  have hl := hS.1.2.2
  dsimp only at *
  obtain ⟨h1, h2⟩ := hk
  obtain ⟨b, off, j, e⟩ := Ms.open hy (by rintro rfl; simp at h1)
  rw [e] at hy ⊢
  exact rfind_at nx fr to_ kd nm tr wt bv dn c kk hy hl ⟨h1, h2, fun k h hkk => by have := hA k kk h h1 hkk; omega⟩
theorem rfind_n {S : Ses} {c : Int} {D : Nat → Prop} {bv : Value} {da : Option Addr} {dj : Nat} {w : World} (hS : SesOk S) (hk : ∀ k (h : k < S.dn.length), S.dn[k].to_ ≠ c) (hy : Fct.at w D (.ms (.slice da S.dn.length dj) S.dn)) :
    Calls Try.prog 53 #[.agg #[.int .i64 S.nx, .bool S.wt, .int .i64 S.rq.fr, .int .i64 S.rq.to_, .int .i64 S.rq.kd, .int .i64 S.rq.nm, bv, .slice da S.dn.length dj, .int .i64 S.tr], .int .i64 c] w fun e w' => e = .returned (.int .i64 (-1)) ∧ Below w.heap.size w w' := by
  obtain ⟨nx, wt, ⟨fr, to_, kd, nm, body⟩, dn, tr⟩ := S
  have hl := hS.1.2.2
  dsimp only at *
  cases dn with
  | nil => exact rfind_nil (D := D) nx fr to_ kd nm tr wt bv c
  | cons d dn =>
    obtain ⟨b, off, j, e⟩ := Ms.open hy (by simp)
    rw [e] at hy ⊢
    exact rfind_no nx fr to_ kd nm tr wt bv _ c hy hl hk
set_option maxRecDepth 100000 in
set_option maxHeartbeats 1000000 in
theorem Known_1a {D : Nat → Prop} (nx fr to_ kd nm tr : Int) (wt : Bool) (body : List Nat) (dn : List Msg) {xa : Option Addr} {xk : Nat} {da : Option Addr} {dj : Nat} (fr2 to2 kd2 nm2 : Int) (body2 : List Nat) {ya : Option Addr} {yk : Nat} {w : World} (hx : Fct.at w D (.bs (.slice xa body.length xk) body)) (hy : Fct.at w D (.ms (.slice da dn.length dj) dn)) (hz : Fct.at w D (.bs (.slice ya body2.length yk) body2)) (hS0 : ¬ SesOk ⟨nx, wt, ⟨fr, to_, kd, nm, body⟩, dn, tr⟩) :
    Calls Try.prog 15 #[.agg #[.int .i64 nx, .bool wt, .int .i64 fr, .int .i64 to_, .int .i64 kd, .int .i64 nm, .slice xa body.length xk, .slice da dn.length dj, .int .i64 tr], .agg #[.int .i64 fr2, .int .i64 to2, .int .i64 kd2, .int .i64 nm2, .slice ya body2.length yk]] w fun e w' => RetME (fun b => D b ∨ w.heap.size ≤ b) M0 1 e w' ∧ Below w.heap.size w w' := by
  have E0 := Lib.hid ((((Env.start D w).arg (.bs (.slice xa body.length xk) body) hx).arg (.ms (.slice da dn.length dj) dn) hy).arg (.bs (.slice ya body2.length yk) body2) hz)
  clear hx hy hz
  go_enter Try.func15, Try.ntmps15
  have hS := Lib.hid hS0
  clear hS0
  go_wp2_with fail
  have E1 := Lib.hid ((((E0.out.push 27 [.int .i64 nx, .bool wt, .int .i64 fr, .int .i64 to_, .int .i64 kd, .int .i64 nm, .slice xa body.length xk, .slice da dn.length dj, .int .i64 tr] (w.heap.size) (by simp)).push 24 [.int .i64 fr2, .int .i64 to2, .int .i64 kd2, .int .i64 nm2, .slice ya body2.length yk] (w.heap.size + 1) (by simp)).push 24 [.int .i64 0, .int .i64 0, .int .i64 0, .int .i64 0, .slice none 0 0] (w.heap.size + 1 + 1) (by simp)))
  refine (Valid_f (S := ⟨nx, wt, ⟨fr, to_, kd, nm, body⟩, dn, tr⟩) hS.out (E1.out.fc 2 rfl) (E1.out.fc 1 rfl)).mono ?_
  rintro e w1 ⟨rfl, hb⟩
  have E2 := Lib.hid (E1.out.below hb)
  clear E0 E1 hb
  have b1 := E2.out.bx 0 rfl
  have c1_0 := b1.cell 0 rfl
  have c1_1 := b1.cell 1 rfl
  have c1_2 := b1.cell 2 rfl
  have c1_3 := b1.cell 3 rfl
  have c1_4 := b1.cell 4 rfl
  have f1_0 := b1.frozen 0
  have f1_1 := b1.frozen 1
  have f1_2 := b1.frozen 2
  have f1_3 := b1.frozen 3
  have f1_4 := b1.frozen 4
  clear b1
  go_wp2
  have E3 : Hid (Env D w [(w.heap.size + 1 + 1, 24, [.int .i64 0, .int .i64 0, .int .i64 0, .int .i64 0, .slice none 0 0]), (w.heap.size + 1, 24, [.int .i64 fr2, .int .i64 to2, .int .i64 kd2, .int .i64 nm2, .slice ya body2.length yk]), (w.heap.size, 27, [.int .i64 nx, .bool wt, .int .i64 fr, .int .i64 to_, .int .i64 kd, .int .i64 nm, .slice xa body.length xk, .slice da dn.length dj, .int .i64 tr])] [.bs (.slice ya body2.length yk) body2, .ms (.slice da dn.length dj) dn, .bs (.slice xa body.length xk) body] _) := Lib.hid ((((((E2.out.set 0 0 (.int .i64 0) rfl).set 0 1 (.int .i64 0) rfl).set 0 2 (.int .i64 0) rfl).set 0 3 (.int .i64 0) rfl).set 0 4 (.slice none 0 0) rfl))
  have hfin := E3.out
  have q2 := (hfin.bx 0 rfl).cell 0 rfl
  have q3 := (hfin.bx 0 rfl).cell 1 rfl
  have q4 := (hfin.bx 0 rfl).cell 2 rfl
  have q5 := (hfin.bx 0 rfl).cell 3 rfl
  have q6 := (hfin.bx 0 rfl).cell 4 rfl
  exact bodyPost_ret (v := .tuple #[.agg #[.int .i64 0, .int .i64 0, .int .i64 0, .int .i64 0, .slice none 0 0], .int .i64 1]) (by simp [results, Try.results15, go_sem, q2, q3, q4, q5, q6]) rfl ⟨⟨none, 0, rfl, Lib.hid (Bs.nil _ _)⟩, hfin.bel⟩
set_option maxRecDepth 100000 in
set_option maxHeartbeats 1000000 in
theorem Known_1b {D : Nat → Prop} (nx fr to_ kd nm tr : Int) (wt : Bool) (body : List Nat) (dn : List Msg) {xa : Option Addr} {xk : Nat} {da : Option Addr} {dj : Nat} (fr2 to2 kd2 nm2 : Int) (body2 : List Nat) {ya : Option Addr} {yk : Nat} {w : World} (hx : Fct.at w D (.bs (.slice xa body.length xk) body)) (hy : Fct.at w D (.ms (.slice da dn.length dj) dn)) (hz : Fct.at w D (.bs (.slice ya body2.length yk) body2)) (hS0 : SesOk ⟨nx, wt, ⟨fr, to_, kd, nm, body⟩, dn, tr⟩) (hm0 : msgOk ⟨fr2, to2, kd2, nm2, body2⟩ = false) :
    Calls Try.prog 15 #[.agg #[.int .i64 nx, .bool wt, .int .i64 fr, .int .i64 to_, .int .i64 kd, .int .i64 nm, .slice xa body.length xk, .slice da dn.length dj, .int .i64 tr], .agg #[.int .i64 fr2, .int .i64 to2, .int .i64 kd2, .int .i64 nm2, .slice ya body2.length yk]] w fun e w' => RetME (fun b => D b ∨ w.heap.size ≤ b) M0 1 e w' ∧ Below w.heap.size w w' := by
  have E0 := Lib.hid ((((Env.start D w).arg (.bs (.slice xa body.length xk) body) hx).arg (.ms (.slice da dn.length dj) dn) hy).arg (.bs (.slice ya body2.length yk) body2) hz)
  clear hx hy hz
  go_enter Try.func15, Try.ntmps15
  have hS := Lib.hid hS0
  clear hS0
  have hm := Lib.hid hm0
  clear hm0
  go_wp2_with fail
  have E1 := Lib.hid ((((E0.out.push 27 [.int .i64 nx, .bool wt, .int .i64 fr, .int .i64 to_, .int .i64 kd, .int .i64 nm, .slice xa body.length xk, .slice da dn.length dj, .int .i64 tr] (w.heap.size) (by simp)).push 24 [.int .i64 fr2, .int .i64 to2, .int .i64 kd2, .int .i64 nm2, .slice ya body2.length yk] (w.heap.size + 1) (by simp)).push 24 [.int .i64 0, .int .i64 0, .int .i64 0, .int .i64 0, .slice none 0 0] (w.heap.size + 1 + 1) (by simp)))
  refine (Valid_t (S := ⟨nx, wt, ⟨fr, to_, kd, nm, body⟩, dn, tr⟩) hS.out (E1.out.fc 2 rfl) (E1.out.fc 1 rfl)).mono ?_
  rintro e w1 ⟨rfl, hb⟩
  have E2 := Lib.hid (E1.out.below hb)
  clear E0 E1 hb
  have b1 := E2.out.bx 1 rfl
  have c1_0 := b1.cell 0 rfl
  have c1_1 := b1.cell 1 rfl
  have c1_2 := b1.cell 2 rfl
  have c1_3 := b1.cell 3 rfl
  have c1_4 := b1.cell 4 rfl
  clear b1
  go_wp2_with fail
  refine (message_v ⟨fr2, to2, kd2, nm2, body2⟩ hm.out _ _ _).mono ?_
  rintro e w2 ⟨rfl, hb⟩
  have E3 := Lib.hid (E2.out.below hb)
  clear c1_0 c1_1 c1_2 c1_3 c1_4 E2 hb
  have b2 := E3.out.bx 0 rfl
  have c2_0 := b2.cell 0 rfl
  have c2_1 := b2.cell 1 rfl
  have c2_2 := b2.cell 2 rfl
  have c2_3 := b2.cell 3 rfl
  have c2_4 := b2.cell 4 rfl
  have f2_0 := b2.frozen 0
  have f2_1 := b2.frozen 1
  have f2_2 := b2.frozen 2
  have f2_3 := b2.frozen 3
  have f2_4 := b2.frozen 4
  clear b2
  go_wp2
  have E4 : Hid (Env D w [(w.heap.size + 1 + 1, 24, [.int .i64 0, .int .i64 0, .int .i64 0, .int .i64 0, .slice none 0 0]), (w.heap.size + 1, 24, [.int .i64 fr2, .int .i64 to2, .int .i64 kd2, .int .i64 nm2, .slice ya body2.length yk]), (w.heap.size, 27, [.int .i64 nx, .bool wt, .int .i64 fr, .int .i64 to_, .int .i64 kd, .int .i64 nm, .slice xa body.length xk, .slice da dn.length dj, .int .i64 tr])] [.bs (.slice ya body2.length yk) body2, .ms (.slice da dn.length dj) dn, .bs (.slice xa body.length xk) body] _) := Lib.hid ((((((E3.out.set 0 0 (.int .i64 0) rfl).set 0 1 (.int .i64 0) rfl).set 0 2 (.int .i64 0) rfl).set 0 3 (.int .i64 0) rfl).set 0 4 (.slice none 0 0) rfl))
  have hfin := E4.out
  have q3 := (hfin.bx 0 rfl).cell 0 rfl
  have q4 := (hfin.bx 0 rfl).cell 1 rfl
  have q5 := (hfin.bx 0 rfl).cell 2 rfl
  have q6 := (hfin.bx 0 rfl).cell 3 rfl
  have q7 := (hfin.bx 0 rfl).cell 4 rfl
  exact bodyPost_ret (v := .tuple #[.agg #[.int .i64 0, .int .i64 0, .int .i64 0, .int .i64 0, .slice none 0 0], .int .i64 1]) (by simp [results, Try.results15, go_sem, q3, q4, q5, q6, q7]) rfl ⟨⟨none, 0, rfl, Lib.hid (Bs.nil _ _)⟩, hfin.bel⟩
set_option maxRecDepth 100000 in
set_option maxHeartbeats 1000000 in
theorem Known_7n {D : Nat → Prop} (nx fr to_ kd nm tr : Int) (wt : Bool) (body : List Nat) (dn : List Msg) {xa : Option Addr} {xk : Nat} {da : Option Addr} {dj : Nat} (fr2 to2 kd2 nm2 : Int) (body2 : List Nat) {ya : Option Addr} {yk : Nat} {w : World} (hx : Fct.at w D (.bs (.slice xa body.length xk) body)) (hy : Fct.at w D (.ms (.slice da dn.length dj) dn)) (hz : Fct.at w D (.bs (.slice ya body2.length yk) body2)) (hS0 : SesOk ⟨nx, wt, ⟨fr, to_, kd, nm, body⟩, dn, tr⟩) (hm0 : msgOk ⟨fr2, to2, kd2, nm2, body2⟩ = true) (hn0 : ∀ k (h : k < dn.length), dn[k].to_ ≠ fr2) :
    Calls Try.prog 15 #[.agg #[.int .i64 nx, .bool wt, .int .i64 fr, .int .i64 to_, .int .i64 kd, .int .i64 nm, .slice xa body.length xk, .slice da dn.length dj, .int .i64 tr], .agg #[.int .i64 fr2, .int .i64 to2, .int .i64 kd2, .int .i64 nm2, .slice ya body2.length yk]] w fun e w' => RetME (fun b => D b ∨ w.heap.size ≤ b) M0 7 e w' ∧ Below w.heap.size w w' := by
  have E0 := Lib.hid ((((Env.start D w).arg (.bs (.slice xa body.length xk) body) hx).arg (.ms (.slice da dn.length dj) dn) hy).arg (.bs (.slice ya body2.length yk) body2) hz)
  clear hx hy hz
  go_enter Try.func15, Try.ntmps15
  have hS := Lib.hid hS0
  clear hS0
  have hm := Lib.hid hm0
  clear hm0
  have hn := Lib.hid hn0
  clear hn0
  go_wp2_with fail
  have E1 := Lib.hid ((((E0.out.push 27 [.int .i64 nx, .bool wt, .int .i64 fr, .int .i64 to_, .int .i64 kd, .int .i64 nm, .slice xa body.length xk, .slice da dn.length dj, .int .i64 tr] (w.heap.size) (by simp)).push 24 [.int .i64 fr2, .int .i64 to2, .int .i64 kd2, .int .i64 nm2, .slice ya body2.length yk] (w.heap.size + 1) (by simp)).push 24 [.int .i64 0, .int .i64 0, .int .i64 0, .int .i64 0, .slice none 0 0] (w.heap.size + 1 + 1) (by simp)))
  refine (Valid_t (S := ⟨nx, wt, ⟨fr, to_, kd, nm, body⟩, dn, tr⟩) hS.out (E1.out.fc 2 rfl) (E1.out.fc 1 rfl)).mono ?_
  rintro e w1 ⟨rfl, hb⟩
  have E2 := Lib.hid (E1.out.below hb)
  clear E0 E1 hb
  have b1 := E2.out.bx 1 rfl
  have c1_0 := b1.cell 0 rfl
  have c1_1 := b1.cell 1 rfl
  have c1_2 := b1.cell 2 rfl
  have c1_3 := b1.cell 3 rfl
  have c1_4 := b1.cell 4 rfl
  clear b1
  go_wp2_with fail
  refine (message_v ⟨fr2, to2, kd2, nm2, body2⟩ hm.out _ _ _).mono ?_
  rintro e w2 ⟨rfl, hb⟩
  have E3 := Lib.hid (E2.out.below hb)
  clear c1_0 c1_1 c1_2 c1_3 c1_4 E2 hb
  have b2 := E3.out.bx 2 rfl
  have c2_0 := b2.cell 0 rfl
  have c2_1 := b2.cell 1 rfl
  have c2_2 := b2.cell 2 rfl
  have c2_3 := b2.cell 3 rfl
  have c2_4 := b2.cell 4 rfl
  have c2_5 := b2.cell 5 rfl
  have c2_6 := b2.cell 6 rfl
  have c2_7 := b2.cell 7 rfl
  have c2_8 := b2.cell 8 rfl
  clear b2
  have b3 := E3.out.bx 1 rfl
  have c3_0 := b3.cell 0 rfl
  clear b3
  go_wp2_with fail
  refine (find_c (S := ⟨nx, wt, ⟨fr, to_, kd, nm, body⟩, dn, tr⟩) fr2 hS.out (E3.out.fc 1 rfl)).mono ?_
  rintro e w3 ⟨⟨fi, ft, hfo, rfl⟩, hb⟩
  have E4 := Lib.hid (E3.out.below hb)
  clear c2_0 c2_1 c2_2 c2_3 c2_4 c2_5 c2_6 c2_7 c2_8 c3_0 E3 hb
  obtain rfl := found_no hfo.out hn.out; clear hfo
  go_wp2_with fail
  have E5 := Lib.hid E4.out.drew
  clear E4
  refine wp_region_held_drew (S := fun w' => True) (by kernel_rfl) (trivial) (fun hHeld => ?_)
  generalize w3.drew = w4 at *
  refine takeW (i := 0) (some 25) (v := ?_) rfl rfl (by kernel_rfl) (by kernel_rfl) (by kernel_rfl) (fun _ _ _ h => h) (by rfl) (by assumption) ?_ ?_
  rotate_left
  · (intro wS hSw; (try dsimp only at hSw); go_simp; try with_reducible rfl)
  try simp only [Act.put, List.setIfInBounds_toArray, List.set_cons_zero, List.set_cons_succ]
  refine takeW (i := 1) (some 26) (v := ?_) rfl rfl (by kernel_rfl) (by kernel_rfl) (by kernel_rfl) (fun _ _ _ h => h) (by rfl) (by assumption) ?_ ?_
  rotate_left
  · (intro wS hSw; (try dsimp only at hSw); go_simp; try with_reducible rfl)
  try simp only [Act.put, List.setIfInBounds_toArray, List.set_cons_zero, List.set_cons_succ]
  refine takeW (i := 2) (some 27) (v := ?_) rfl rfl (by kernel_rfl) (by kernel_rfl) (by kernel_rfl) (fun _ _ _ h => h) (by rfl) (by assumption) ?_ ?_
  rotate_left
  · (intro wS hSw; (try dsimp only at hSw); go_simp; try with_reducible rfl)
  try simp only [Act.put, List.setIfInBounds_toArray, List.set_cons_zero, List.set_cons_succ]
  refine takeU (i := 3) (some 28) rfl rfl (by kernel_rfl) (by kernel_rfl) (by kernel_rfl) (fun _ _ _ h => h) (by rfl) (by assumption) ?_
  try simp only [Act.put, List.setIfInBounds_toArray, List.set_cons_zero, List.set_cons_succ]
  refine takeU (i := 4) (some 29) rfl rfl (by kernel_rfl) (by kernel_rfl) (by kernel_rfl) (fun _ _ _ h => h) (by rfl) (by assumption) ?_
  try simp only [Act.put, List.setIfInBounds_toArray, List.set_cons_zero, List.set_cons_succ]
  refine takeU (i := 5) (some 30) rfl rfl (by kernel_rfl) (by kernel_rfl) (by kernel_rfl) (fun _ _ _ h => h) (by rfl) (by assumption) ?_
  try simp only [Act.put, List.setIfInBounds_toArray, List.set_cons_zero, List.set_cons_succ]
  refine takeU (i := 6) (some 31) rfl rfl (by kernel_rfl) (by kernel_rfl) (by kernel_rfl) (fun _ _ _ h => h) (by rfl) (by assumption) ?_
  try simp only [Act.put, List.setIfInBounds_toArray, List.set_cons_zero, List.set_cons_succ]
  refine takeU (i := 7) (some 32) rfl rfl (by kernel_rfl) (by kernel_rfl) (by kernel_rfl) (fun _ _ _ h => h) (by rfl) (by assumption) ?_
  try simp only [Act.put, List.setIfInBounds_toArray, List.set_cons_zero, List.set_cons_succ]
  refine takeU (i := 8) (some 33) rfl rfl (by kernel_rfl) (by kernel_rfl) (by kernel_rfl) (fun _ _ _ h => h) (by rfl) (by assumption) ?_
  try simp only [Act.put, List.setIfInBounds_toArray, List.set_cons_zero, List.set_cons_succ]
  refine takeU (i := 9) (some 34) rfl rfl (by kernel_rfl) (by kernel_rfl) (by kernel_rfl) (fun _ _ _ h => h) (by rfl) (by assumption) ?_
  try simp only [Act.put, List.setIfInBounds_toArray, List.set_cons_zero, List.set_cons_succ]
  refine takeU (i := 10) (some 35) rfl rfl (by kernel_rfl) (by kernel_rfl) (by kernel_rfl) (fun _ _ _ h => h) (by rfl) (by assumption) ?_
  try simp only [Act.put, List.setIfInBounds_toArray, List.set_cons_zero, List.set_cons_succ]
  refine takeU (i := 11) (some 36) rfl rfl (by kernel_rfl) (by kernel_rfl) (by kernel_rfl) (fun _ _ _ h => h) (by rfl) (by assumption) ?_
  try simp only [Act.put, List.setIfInBounds_toArray, List.set_cons_zero, List.set_cons_succ]
  refine takeW (i := 12) (some 37) (v := ?_) rfl rfl (by kernel_rfl) (by kernel_rfl) (by kernel_rfl) (fun _ _ _ h => h) (by rfl) (by assumption) ?_ ?_
  rotate_left
  · (intro wS hSw; (try dsimp only at hSw); go_simp; try with_reducible rfl)
  try simp only [Act.put, List.setIfInBounds_toArray, List.set_cons_zero, List.set_cons_succ]
  refine takeW (i := 13) (some 24) (v := ?_) rfl rfl (by kernel_rfl) (by kernel_rfl) (by kernel_rfl) (fun _ _ _ h => h) (by rfl) (by assumption) ?_ ?_
  rotate_left
  · (intro wS hSw; (try dsimp only at hSw); go_simp; try with_reducible rfl)
  try simp only [Act.put, List.setIfInBounds_toArray, List.set_cons_zero, List.set_cons_succ]
  refine wpAnyH_done (by kernel_rfl) ?_ _
  have b4 := E5.out.bx 0 rfl
  have c4_0 := b4.cell 0 rfl
  have c4_1 := b4.cell 1 rfl
  have c4_2 := b4.cell 2 rfl
  have c4_3 := b4.cell 3 rfl
  have c4_4 := b4.cell 4 rfl
  have f4_0 := b4.frozen 0
  have f4_1 := b4.frozen 1
  have f4_2 := b4.frozen 2
  have f4_3 := b4.frozen 3
  have f4_4 := b4.frozen 4
  clear b4
  go_wp2
  have E6 : Hid (Env D w [(w.heap.size + 1 + 1, 24, [.int .i64 0, .int .i64 0, .int .i64 0, .int .i64 0, .slice none 0 0]), (w.heap.size + 1, 24, [.int .i64 fr2, .int .i64 to2, .int .i64 kd2, .int .i64 nm2, .slice ya body2.length yk]), (w.heap.size, 27, [.int .i64 nx, .bool wt, .int .i64 fr, .int .i64 to_, .int .i64 kd, .int .i64 nm, .slice xa body.length xk, .slice da dn.length dj, .int .i64 tr])] [.bs (.slice ya body2.length yk) body2, .ms (.slice da dn.length dj) dn, .bs (.slice xa body.length xk) body] _) := Lib.hid ((((((E5.out.set 0 0 (.int .i64 0) rfl).set 0 1 (.int .i64 0) rfl).set 0 2 (.int .i64 0) rfl).set 0 3 (.int .i64 0) rfl).set 0 4 (.slice none 0 0) rfl))
  have hfin := E6.out
  have q5 := (hfin.bx 0 rfl).cell 0 rfl
  have q6 := (hfin.bx 0 rfl).cell 1 rfl
  have q7 := (hfin.bx 0 rfl).cell 2 rfl
  have q8 := (hfin.bx 0 rfl).cell 3 rfl
  have q9 := (hfin.bx 0 rfl).cell 4 rfl
  exact bodyPost_ret (v := .tuple #[.agg #[.int .i64 0, .int .i64 0, .int .i64 0, .int .i64 0, .slice none 0 0], .int .i64 7]) (by simp [results, Try.results15, go_sem, q5, q6, q7, q8, q9]) rfl ⟨⟨none, 0, rfl, Lib.hid (Bs.nil _ _)⟩, hfin.bel⟩
set_option maxRecDepth 100000 in
set_option maxHeartbeats 1000000 in
theorem Known_7l {D : Nat → Prop} (nx fr to_ kd nm tr : Int) (wt : Bool) (body : List Nat) (dn : List Msg) {xa : Option Addr} {xk : Nat} {db df dj : Nat} (fr2 to2 kd2 nm2 : Int) (body2 : List Nat) {ya : Option Addr} {yk : Nat} (kk : Nat) {w : World} (hx : Fct.at w D (.bs (.slice xa body.length xk) body)) (hy : Fct.at w D (.ms (.slice (some ⟨db, df, none⟩) dn.length dj) dn)) (hz : Fct.at w D (.bs (.slice ya body2.length yk) body2)) (hS0 : SesOk ⟨nx, wt, ⟨fr, to_, kd, nm, body⟩, dn, tr⟩) (hm0 : msgOk ⟨fr2, to2, kd2, nm2, body2⟩ = true) (hf0 : ∃ h : kk < dn.length, dn[kk].to_ = fr2 ∧ dn[kk].nm < nm2) :
    Calls Try.prog 15 #[.agg #[.int .i64 nx, .bool wt, .int .i64 fr, .int .i64 to_, .int .i64 kd, .int .i64 nm, .slice xa body.length xk, .slice (some ⟨db, df, none⟩) dn.length dj, .int .i64 tr], .agg #[.int .i64 fr2, .int .i64 to2, .int .i64 kd2, .int .i64 nm2, .slice ya body2.length yk]] w fun e w' => RetME (fun b => D b ∨ w.heap.size ≤ b) M0 7 e w' ∧ Below w.heap.size w w' := by
  have E0 := Lib.hid ((((Env.start D w).arg (.bs (.slice xa body.length xk) body) hx).arg (.ms (.slice (some ⟨db, df, none⟩) dn.length dj) dn) hy).arg (.bs (.slice ya body2.length yk) body2) hz)
  clear hx hy hz
  go_enter Try.func15, Try.ntmps15
  have hS := Lib.hid hS0
  clear hS0
  have hm := Lib.hid hm0
  clear hm0
  have hf := Lib.hid hf0
  clear hf0
  obtain ⟨hk, hto9, hcd9⟩ := hf.out
  have hto := Lib.hid hto9
  have hcd := Lib.hid hcd9
  clear hto9 hcd9
  have hA := Lib.hid (asc_of hS.out.2.2.2)
  have a3 : dn.length ≤ 1000 := hS.out.1.2.2
  go_wp2_with fail
  have E1 := Lib.hid ((((E0.out.push 27 [.int .i64 nx, .bool wt, .int .i64 fr, .int .i64 to_, .int .i64 kd, .int .i64 nm, .slice xa body.length xk, .slice (some ⟨db, df, none⟩) dn.length dj, .int .i64 tr] (w.heap.size) (by simp)).push 24 [.int .i64 fr2, .int .i64 to2, .int .i64 kd2, .int .i64 nm2, .slice ya body2.length yk] (w.heap.size + 1) (by simp)).push 24 [.int .i64 0, .int .i64 0, .int .i64 0, .int .i64 0, .slice none 0 0] (w.heap.size + 1 + 1) (by simp)))
  refine (Valid_t (S := ⟨nx, wt, ⟨fr, to_, kd, nm, body⟩, dn, tr⟩) hS.out (E1.out.fc 2 rfl) (E1.out.fc 1 rfl)).mono ?_
  rintro e w1 ⟨rfl, hb⟩
  have E2 := Lib.hid (E1.out.below hb)
  clear E0 E1 hb
  have b1 := E2.out.bx 1 rfl
  have c1_0 := b1.cell 0 rfl
  have c1_1 := b1.cell 1 rfl
  have c1_2 := b1.cell 2 rfl
  have c1_3 := b1.cell 3 rfl
  have c1_4 := b1.cell 4 rfl
  clear b1
  go_wp2_with fail
  refine (message_v ⟨fr2, to2, kd2, nm2, body2⟩ hm.out _ _ _).mono ?_
  rintro e w2 ⟨rfl, hb⟩
  have E3 := Lib.hid (E2.out.below hb)
  clear c1_0 c1_1 c1_2 c1_3 c1_4 E2 hb
  have b2 := E3.out.bx 2 rfl
  have c2_0 := b2.cell 0 rfl
  have c2_1 := b2.cell 1 rfl
  have c2_2 := b2.cell 2 rfl
  have c2_3 := b2.cell 3 rfl
  have c2_4 := b2.cell 4 rfl
  have c2_5 := b2.cell 5 rfl
  have c2_6 := b2.cell 6 rfl
  have c2_7 := b2.cell 7 rfl
  have c2_8 := b2.cell 8 rfl
  clear b2
  have b3 := E3.out.bx 1 rfl
  have c3_0 := b3.cell 0 rfl
  clear b3
  go_wp2_with fail
  refine (find_c (S := ⟨nx, wt, ⟨fr, to_, kd, nm, body⟩, dn, tr⟩) fr2 hS.out (E3.out.fc 1 rfl)).mono ?_
  rintro e w3 ⟨⟨fi, ft, hfo, rfl⟩, hb⟩
  have E4 := Lib.hid (E3.out.below hb)
  clear c2_0 c2_1 c2_2 c2_3 c2_4 c2_5 c2_6 c2_7 c2_8 c3_0 E3 hb
  obtain ⟨e1, e2⟩ := found_at hfo.out hA.out hk hto.out; clear hfo; subst e1 e2
  have t1 : decide (dn[kk].nm < nm2) = true := decide_eq_true (by have := hcd.out; omega)
  have t2 : decide (nm2 < dn[kk].nm) = false := decide_eq_false (by have := hcd.out; omega)
  have t0 : decide ((kk : Int) < 0) = false := decide_eq_false (by omega)
  obtain ⟨ua, uk, E50⟩ := E4.out.els 1 rfl (kk) hk
  have E5 : Hid (Env D w [(w.heap.size + 1 + 1, 24, [.int .i64 0, .int .i64 0, .int .i64 0, .int .i64 0, .slice none 0 0]), (w.heap.size + 1, 24, [.int .i64 fr2, .int .i64 to2, .int .i64 kd2, .int .i64 nm2, .slice ya body2.length yk]), (w.heap.size, 27, [.int .i64 nx, .bool wt, .int .i64 fr, .int .i64 to_, .int .i64 kd, .int .i64 nm, .slice xa body.length xk, .slice (some ⟨db, df, none⟩) dn.length dj, .int .i64 tr])] [.ce db (df + kk * 5) (.int .i64 dn[kk].fr), .ce db (df + kk * 5 + 1) (.int .i64 dn[kk].to_), .ce db (df + kk * 5 + 2) (.int .i64 dn[kk].kd), .ce db (df + kk * 5 + 3) (.int .i64 dn[kk].nm), .ce db (df + kk * 5 + 4) (.slice ua dn[kk].body.length uk), .bs (.slice ua dn[kk].body.length uk) dn[kk].body, .bs (.slice ya body2.length yk) body2, .ms (.slice (some ⟨db, df, none⟩) dn.length dj) dn, .bs (.slice xa body.length xk) body] _) := Lib.hid E50
  clear E50 E4
  go_wp2_with fail
  have E6 := Lib.hid E5.out.drew
  clear E5
  refine wp_region_held_drew (S := fun w' => w'.cell? ⟨w.heap.size, 7, none⟩ = some (.slice (some ⟨db, df, none⟩) dn.length dj) ∧ w'.cell? ⟨w.heap.size + 1, 3, none⟩ = some (.int .i64 nm2) ∧ w'.cell? ⟨db, df + kk * 5 + 3, none⟩ = some (.int .i64 dn[kk].nm)) (by kernel_rfl) (⟨((E6.out.bx 2 rfl).cell 7 rfl), ((E6.out.bx 1 rfl).cell 3 rfl), (E6.out.fc 3 rfl).2⟩) (fun hHeld => ?_)
  generalize w3.drew = w4 at *
  refine takeW (i := 0) (some 25) (v := ?_) rfl rfl (by kernel_rfl) (by kernel_rfl) (by kernel_rfl) (fun _ _ _ h => h) (by rfl) (by assumption) ?_ ?_
  rotate_left
  · (intro wS hSw; (try dsimp only at hSw); go_simp; try with_reducible rfl)
  try simp only [Act.put, List.setIfInBounds_toArray, List.set_cons_zero, List.set_cons_succ]
  refine takeW (i := 1) (some 26) (v := ?_) rfl rfl (by kernel_rfl) (by kernel_rfl) (by kernel_rfl) (fun _ _ _ h => h) (by rfl) (by assumption) ?_ ?_
  rotate_left
  · (intro wS hSw; (try dsimp only at hSw); go_simp; try with_reducible rfl)
  try simp only [Act.put, List.setIfInBounds_toArray, List.set_cons_zero, List.set_cons_succ]
  refine takeW (i := 2) (some 27) (v := ?_) rfl rfl (by kernel_rfl) (by kernel_rfl) (by kernel_rfl) (fun _ _ _ h => h) (by rfl) (by assumption) ?_ ?_
  rotate_left
  · (intro wS hSw; (try dsimp only at hSw); go_simp; try with_reducible rfl)
  try simp only [Act.put, List.setIfInBounds_toArray, List.set_cons_zero, List.set_cons_succ]
  refine takeW (i := 3) (some 28) (v := ?_) rfl rfl (by kernel_rfl) (by kernel_rfl) (by kernel_rfl) (fun _ _ _ h => h) (by rfl) (by assumption) ?_ ?_
  rotate_left
  · (intro wS hSw; (try dsimp only at hSw); go_simp; try with_reducible rfl)
  try simp only [Act.put, List.setIfInBounds_toArray, List.set_cons_zero, List.set_cons_succ]
  refine takeW (i := 4) (some 29) (v := ?_) rfl rfl (by kernel_rfl) (by kernel_rfl) (by kernel_rfl) (fun _ _ _ h => h) (by rfl) (by assumption) ?_ ?_
  rotate_left
  · (intro wS hSw; (try dsimp only at hSw); go_simp; try with_reducible rfl)
  try simp only [Act.put, List.setIfInBounds_toArray, List.set_cons_zero, List.set_cons_succ]
  refine takeW (i := 5) (some 30) (v := ?_) rfl rfl (by kernel_rfl) (by kernel_rfl) (by kernel_rfl) (fun _ _ _ h => h) (by rfl) (by assumption) ?_ ?_
  rotate_left
  · (intro wS hSw; (try dsimp only at hSw); go_simp; try with_reducible rfl)
  try simp only [Act.put, List.setIfInBounds_toArray, List.set_cons_zero, List.set_cons_succ]
  refine takeW (i := 6) (some 31) (v := ?_) rfl rfl (by kernel_rfl) (by kernel_rfl) (by kernel_rfl) (fun _ _ _ h => h) (by rfl) (by assumption) ?_ ?_
  rotate_left
  · (intro wS hSw; (try dsimp only at hSw); go_simp; try with_reducible rfl)
  try simp only [Act.put, List.setIfInBounds_toArray, List.set_cons_zero, List.set_cons_succ]
  refine takeW (i := 7) (some 32) (v := ?_) rfl rfl (by kernel_rfl) (by kernel_rfl) (by kernel_rfl) (fun _ _ _ h => h) (by rfl) (by assumption) ?_ ?_
  rotate_left
  · (intro wS hSw; (try dsimp only at hSw); go_simp; try with_reducible rfl)
  try simp only [Act.put, List.setIfInBounds_toArray, List.set_cons_zero, List.set_cons_succ]
  refine takeW (i := 8) (some 33) (v := ?_) rfl rfl (by kernel_rfl) (by kernel_rfl) (by kernel_rfl) (fun _ _ _ h => h) (by rfl) (by assumption) ?_ ?_
  rotate_left
  · (intro wS hSw; (try dsimp only at hSw); go_simp; try with_reducible rfl)
  try simp only [Act.put, List.setIfInBounds_toArray, List.set_cons_zero, List.set_cons_succ]
  refine takeW (i := 9) (some 34) (v := ?_) rfl rfl (by kernel_rfl) (by kernel_rfl) (by kernel_rfl) (fun _ _ _ h => h) (by rfl) (by assumption) ?_ ?_
  rotate_left
  · (intro wS hSw; (try dsimp only at hSw); go_simp; try with_reducible rfl)
  try simp only [Act.put, List.setIfInBounds_toArray, List.set_cons_zero, List.set_cons_succ]
  refine takeW (i := 10) (some 35) (v := ?_) rfl rfl (by kernel_rfl) (by kernel_rfl) (by kernel_rfl) (fun _ _ _ h => h) (by rfl) (by assumption) ?_ ?_
  rotate_left
  · (intro wS hSw; (try dsimp only at hSw); go_simp; try with_reducible rfl)
  try simp only [Act.put, List.setIfInBounds_toArray, List.set_cons_zero, List.set_cons_succ]
  refine takeW (i := 11) (some 36) (v := ?_) rfl rfl (by kernel_rfl) (by kernel_rfl) (by kernel_rfl) (fun _ _ _ h => h) (by rfl) (by assumption) ?_ ?_
  rotate_left
  · (intro wS hSw; (try dsimp only at hSw); go_simp; try with_reducible rfl)
  try simp only [Act.put, List.setIfInBounds_toArray, List.set_cons_zero, List.set_cons_succ]
  refine takeW (i := 12) (some 37) (v := ?_) rfl rfl (by kernel_rfl) (by kernel_rfl) (by kernel_rfl) (fun _ _ _ h => h) (by rfl) (by assumption) ?_ ?_
  rotate_left
  · (intro wS hSw; (try dsimp only at hSw); go_simp; try with_reducible rfl)
  try simp only [Act.put, List.setIfInBounds_toArray, List.set_cons_zero, List.set_cons_succ]
  refine takeW (i := 13) (some 24) (v := ?_) rfl rfl (by kernel_rfl) (by kernel_rfl) (by kernel_rfl) (fun _ _ _ h => h) (by rfl) (by assumption) ?_ ?_
  rotate_left
  · (intro wS hSw; (try dsimp only at hSw); go_simp; try with_reducible rfl)
  try simp only [Act.put, List.setIfInBounds_toArray, List.set_cons_zero, List.set_cons_succ]
  refine wpAnyH_done (by kernel_rfl) ?_ _
  have b4 := E6.out.bx 0 rfl
  have c4_0 := b4.cell 0 rfl
  have c4_1 := b4.cell 1 rfl
  have c4_2 := b4.cell 2 rfl
  have c4_3 := b4.cell 3 rfl
  have c4_4 := b4.cell 4 rfl
  have f4_0 := b4.frozen 0
  have f4_1 := b4.frozen 1
  have f4_2 := b4.frozen 2
  have f4_3 := b4.frozen 3
  have f4_4 := b4.frozen 4
  clear b4
  go_wp2
  have E7 : Hid (Env D w [(w.heap.size + 1 + 1, 24, [.int .i64 0, .int .i64 0, .int .i64 0, .int .i64 0, .slice none 0 0]), (w.heap.size + 1, 24, [.int .i64 fr2, .int .i64 to2, .int .i64 kd2, .int .i64 nm2, .slice ya body2.length yk]), (w.heap.size, 27, [.int .i64 nx, .bool wt, .int .i64 fr, .int .i64 to_, .int .i64 kd, .int .i64 nm, .slice xa body.length xk, .slice (some ⟨db, df, none⟩) dn.length dj, .int .i64 tr])] [.ce db (df + kk * 5) (.int .i64 dn[kk].fr), .ce db (df + kk * 5 + 1) (.int .i64 dn[kk].to_), .ce db (df + kk * 5 + 2) (.int .i64 dn[kk].kd), .ce db (df + kk * 5 + 3) (.int .i64 dn[kk].nm), .ce db (df + kk * 5 + 4) (.slice ua dn[kk].body.length uk), .bs (.slice ua dn[kk].body.length uk) dn[kk].body, .bs (.slice ya body2.length yk) body2, .ms (.slice (some ⟨db, df, none⟩) dn.length dj) dn, .bs (.slice xa body.length xk) body] _) := Lib.hid ((((((E6.out.set 0 0 (.int .i64 0) rfl).set 0 1 (.int .i64 0) rfl).set 0 2 (.int .i64 0) rfl).set 0 3 (.int .i64 0) rfl).set 0 4 (.slice none 0 0) rfl))
  have hfin := E7.out
  have q5 := (hfin.bx 0 rfl).cell 0 rfl
  have q6 := (hfin.bx 0 rfl).cell 1 rfl
  have q7 := (hfin.bx 0 rfl).cell 2 rfl
  have q8 := (hfin.bx 0 rfl).cell 3 rfl
  have q9 := (hfin.bx 0 rfl).cell 4 rfl
  exact bodyPost_ret (v := .tuple #[.agg #[.int .i64 0, .int .i64 0, .int .i64 0, .int .i64 0, .slice none 0 0], .int .i64 7]) (by simp [results, Try.results15, go_sem, q5, q6, q7, q8, q9]) rfl ⟨⟨none, 0, rfl, Lib.hid (Bs.nil _ _)⟩, hfin.bel⟩
set_option maxRecDepth 100000 in
set_option maxHeartbeats 1000000 in
theorem Known_14 {D : Nat → Prop} (nx fr to_ kd nm tr : Int) (wt : Bool) (body : List Nat) (dn : List Msg) {xa : Option Addr} {xk : Nat} {db df dj : Nat} (fr2 to2 kd2 nm2 : Int) (body2 : List Nat) {ya : Option Addr} {yk : Nat} (kk : Nat) {w : World} (hx : Fct.at w D (.bs (.slice xa body.length xk) body)) (hy : Fct.at w D (.ms (.slice (some ⟨db, df, none⟩) dn.length dj) dn)) (hz : Fct.at w D (.bs (.slice ya body2.length yk) body2)) (hS0 : SesOk ⟨nx, wt, ⟨fr, to_, kd, nm, body⟩, dn, tr⟩) (hm0 : msgOk ⟨fr2, to2, kd2, nm2, body2⟩ = true) (hf0 : ∃ h : kk < dn.length, dn[kk].to_ = fr2 ∧ nm2 < dn[kk].nm) :
    Calls Try.prog 15 #[.agg #[.int .i64 nx, .bool wt, .int .i64 fr, .int .i64 to_, .int .i64 kd, .int .i64 nm, .slice xa body.length xk, .slice (some ⟨db, df, none⟩) dn.length dj, .int .i64 tr], .agg #[.int .i64 fr2, .int .i64 to2, .int .i64 kd2, .int .i64 nm2, .slice ya body2.length yk]] w fun e w' => RetME (fun b => D b ∨ w.heap.size ≤ b) M0 14 e w' ∧ Below w.heap.size w w' := by
  have E0 := Lib.hid ((((Env.start D w).arg (.bs (.slice xa body.length xk) body) hx).arg (.ms (.slice (some ⟨db, df, none⟩) dn.length dj) dn) hy).arg (.bs (.slice ya body2.length yk) body2) hz)
  clear hx hy hz
  go_enter Try.func15, Try.ntmps15
  have hS := Lib.hid hS0
  clear hS0
  have hm := Lib.hid hm0
  clear hm0
  have hf := Lib.hid hf0
  clear hf0
  obtain ⟨hk, hto9, hcd9⟩ := hf.out
  have hto := Lib.hid hto9
  have hcd := Lib.hid hcd9
  clear hto9 hcd9
  have hA := Lib.hid (asc_of hS.out.2.2.2)
  have a3 : dn.length ≤ 1000 := hS.out.1.2.2
  go_wp2_with fail
  have E1 := Lib.hid ((((E0.out.push 27 [.int .i64 nx, .bool wt, .int .i64 fr, .int .i64 to_, .int .i64 kd, .int .i64 nm, .slice xa body.length xk, .slice (some ⟨db, df, none⟩) dn.length dj, .int .i64 tr] (w.heap.size) (by simp)).push 24 [.int .i64 fr2, .int .i64 to2, .int .i64 kd2, .int .i64 nm2, .slice ya body2.length yk] (w.heap.size + 1) (by simp)).push 24 [.int .i64 0, .int .i64 0, .int .i64 0, .int .i64 0, .slice none 0 0] (w.heap.size + 1 + 1) (by simp)))
  refine (Valid_t (S := ⟨nx, wt, ⟨fr, to_, kd, nm, body⟩, dn, tr⟩) hS.out (E1.out.fc 2 rfl) (E1.out.fc 1 rfl)).mono ?_
  rintro e w1 ⟨rfl, hb⟩
  have E2 := Lib.hid (E1.out.below hb)
  clear E0 E1 hb
  have b1 := E2.out.bx 1 rfl
  have c1_0 := b1.cell 0 rfl
  have c1_1 := b1.cell 1 rfl
  have c1_2 := b1.cell 2 rfl
  have c1_3 := b1.cell 3 rfl
  have c1_4 := b1.cell 4 rfl
  clear b1
  go_wp2_with fail
  refine (message_v ⟨fr2, to2, kd2, nm2, body2⟩ hm.out _ _ _).mono ?_
  rintro e w2 ⟨rfl, hb⟩
  have E3 := Lib.hid (E2.out.below hb)
  clear c1_0 c1_1 c1_2 c1_3 c1_4 E2 hb
  have b2 := E3.out.bx 2 rfl
  have c2_0 := b2.cell 0 rfl
  have c2_1 := b2.cell 1 rfl
  have c2_2 := b2.cell 2 rfl
  have c2_3 := b2.cell 3 rfl
  have c2_4 := b2.cell 4 rfl
  have c2_5 := b2.cell 5 rfl
  have c2_6 := b2.cell 6 rfl
  have c2_7 := b2.cell 7 rfl
  have c2_8 := b2.cell 8 rfl
  clear b2
  have b3 := E3.out.bx 1 rfl
  have c3_0 := b3.cell 0 rfl
  clear b3
  go_wp2_with fail
  refine (find_c (S := ⟨nx, wt, ⟨fr, to_, kd, nm, body⟩, dn, tr⟩) fr2 hS.out (E3.out.fc 1 rfl)).mono ?_
  rintro e w3 ⟨⟨fi, ft, hfo, rfl⟩, hb⟩
  have E4 := Lib.hid (E3.out.below hb)
  clear c2_0 c2_1 c2_2 c2_3 c2_4 c2_5 c2_6 c2_7 c2_8 c3_0 E3 hb
  obtain ⟨e1, e2⟩ := found_at hfo.out hA.out hk hto.out; clear hfo; subst e1 e2
  have t1 : decide (dn[kk].nm < nm2) = false := decide_eq_false (by have := hcd.out; omega)
  have t2 : decide (nm2 < dn[kk].nm) = true := decide_eq_true (by have := hcd.out; omega)
  have t0 : decide ((kk : Int) < 0) = false := decide_eq_false (by omega)
  obtain ⟨ua, uk, E50⟩ := E4.out.els 1 rfl (kk) hk
  have E5 : Hid (Env D w [(w.heap.size + 1 + 1, 24, [.int .i64 0, .int .i64 0, .int .i64 0, .int .i64 0, .slice none 0 0]), (w.heap.size + 1, 24, [.int .i64 fr2, .int .i64 to2, .int .i64 kd2, .int .i64 nm2, .slice ya body2.length yk]), (w.heap.size, 27, [.int .i64 nx, .bool wt, .int .i64 fr, .int .i64 to_, .int .i64 kd, .int .i64 nm, .slice xa body.length xk, .slice (some ⟨db, df, none⟩) dn.length dj, .int .i64 tr])] [.ce db (df + kk * 5) (.int .i64 dn[kk].fr), .ce db (df + kk * 5 + 1) (.int .i64 dn[kk].to_), .ce db (df + kk * 5 + 2) (.int .i64 dn[kk].kd), .ce db (df + kk * 5 + 3) (.int .i64 dn[kk].nm), .ce db (df + kk * 5 + 4) (.slice ua dn[kk].body.length uk), .bs (.slice ua dn[kk].body.length uk) dn[kk].body, .bs (.slice ya body2.length yk) body2, .ms (.slice (some ⟨db, df, none⟩) dn.length dj) dn, .bs (.slice xa body.length xk) body] _) := Lib.hid E50
  clear E50 E4
  go_wp2_with fail
  have E6 := Lib.hid E5.out.drew
  clear E5
  refine wp_region_held_drew (S := fun w' => w'.cell? ⟨w.heap.size, 7, none⟩ = some (.slice (some ⟨db, df, none⟩) dn.length dj) ∧ w'.cell? ⟨w.heap.size + 1, 3, none⟩ = some (.int .i64 nm2) ∧ w'.cell? ⟨db, df + kk * 5 + 3, none⟩ = some (.int .i64 dn[kk].nm)) (by kernel_rfl) (⟨((E6.out.bx 2 rfl).cell 7 rfl), ((E6.out.bx 1 rfl).cell 3 rfl), (E6.out.fc 3 rfl).2⟩) (fun hHeld => ?_)
  generalize w3.drew = w4 at *
  refine takeW (i := 0) (some 25) (v := ?_) rfl rfl (by kernel_rfl) (by kernel_rfl) (by kernel_rfl) (fun _ _ _ h => h) (by rfl) (by assumption) ?_ ?_
  rotate_left
  · (intro wS hSw; (try dsimp only at hSw); go_simp; try with_reducible rfl)
  try simp only [Act.put, List.setIfInBounds_toArray, List.set_cons_zero, List.set_cons_succ]
  refine takeW (i := 1) (some 26) (v := ?_) rfl rfl (by kernel_rfl) (by kernel_rfl) (by kernel_rfl) (fun _ _ _ h => h) (by rfl) (by assumption) ?_ ?_
  rotate_left
  · (intro wS hSw; (try dsimp only at hSw); go_simp; try with_reducible rfl)
  try simp only [Act.put, List.setIfInBounds_toArray, List.set_cons_zero, List.set_cons_succ]
  refine takeW (i := 2) (some 27) (v := ?_) rfl rfl (by kernel_rfl) (by kernel_rfl) (by kernel_rfl) (fun _ _ _ h => h) (by rfl) (by assumption) ?_ ?_
  rotate_left
  · (intro wS hSw; (try dsimp only at hSw); go_simp; try with_reducible rfl)
  try simp only [Act.put, List.setIfInBounds_toArray, List.set_cons_zero, List.set_cons_succ]
  refine takeW (i := 3) (some 28) (v := ?_) rfl rfl (by kernel_rfl) (by kernel_rfl) (by kernel_rfl) (fun _ _ _ h => h) (by rfl) (by assumption) ?_ ?_
  rotate_left
  · (intro wS hSw; (try dsimp only at hSw); go_simp; try with_reducible rfl)
  try simp only [Act.put, List.setIfInBounds_toArray, List.set_cons_zero, List.set_cons_succ]
  refine takeW (i := 4) (some 29) (v := ?_) rfl rfl (by kernel_rfl) (by kernel_rfl) (by kernel_rfl) (fun _ _ _ h => h) (by rfl) (by assumption) ?_ ?_
  rotate_left
  · (intro wS hSw; (try dsimp only at hSw); go_simp; try with_reducible rfl)
  try simp only [Act.put, List.setIfInBounds_toArray, List.set_cons_zero, List.set_cons_succ]
  refine takeW (i := 5) (some 30) (v := ?_) rfl rfl (by kernel_rfl) (by kernel_rfl) (by kernel_rfl) (fun _ _ _ h => h) (by rfl) (by assumption) ?_ ?_
  rotate_left
  · (intro wS hSw; (try dsimp only at hSw); go_simp; try with_reducible rfl)
  try simp only [Act.put, List.setIfInBounds_toArray, List.set_cons_zero, List.set_cons_succ]
  refine takeW (i := 6) (some 31) (v := ?_) rfl rfl (by kernel_rfl) (by kernel_rfl) (by kernel_rfl) (fun _ _ _ h => h) (by rfl) (by assumption) ?_ ?_
  rotate_left
  · (intro wS hSw; (try dsimp only at hSw); go_simp; try with_reducible rfl)
  try simp only [Act.put, List.setIfInBounds_toArray, List.set_cons_zero, List.set_cons_succ]
  refine takeW (i := 7) (some 32) (v := ?_) rfl rfl (by kernel_rfl) (by kernel_rfl) (by kernel_rfl) (fun _ _ _ h => h) (by rfl) (by assumption) ?_ ?_
  rotate_left
  · (intro wS hSw; (try dsimp only at hSw); go_simp; try with_reducible rfl)
  try simp only [Act.put, List.setIfInBounds_toArray, List.set_cons_zero, List.set_cons_succ]
  refine takeW (i := 8) (some 33) (v := ?_) rfl rfl (by kernel_rfl) (by kernel_rfl) (by kernel_rfl) (fun _ _ _ h => h) (by rfl) (by assumption) ?_ ?_
  rotate_left
  · (intro wS hSw; (try dsimp only at hSw); go_simp; try with_reducible rfl)
  try simp only [Act.put, List.setIfInBounds_toArray, List.set_cons_zero, List.set_cons_succ]
  refine takeW (i := 9) (some 34) (v := ?_) rfl rfl (by kernel_rfl) (by kernel_rfl) (by kernel_rfl) (fun _ _ _ h => h) (by rfl) (by assumption) ?_ ?_
  rotate_left
  · (intro wS hSw; (try dsimp only at hSw); go_simp; try with_reducible rfl)
  try simp only [Act.put, List.setIfInBounds_toArray, List.set_cons_zero, List.set_cons_succ]
  refine takeW (i := 10) (some 35) (v := ?_) rfl rfl (by kernel_rfl) (by kernel_rfl) (by kernel_rfl) (fun _ _ _ h => h) (by rfl) (by assumption) ?_ ?_
  rotate_left
  · (intro wS hSw; (try dsimp only at hSw); go_simp; try with_reducible rfl)
  try simp only [Act.put, List.setIfInBounds_toArray, List.set_cons_zero, List.set_cons_succ]
  refine takeW (i := 11) (some 36) (v := ?_) rfl rfl (by kernel_rfl) (by kernel_rfl) (by kernel_rfl) (fun _ _ _ h => h) (by rfl) (by assumption) ?_ ?_
  rotate_left
  · (intro wS hSw; (try dsimp only at hSw); go_simp; try with_reducible rfl)
  try simp only [Act.put, List.setIfInBounds_toArray, List.set_cons_zero, List.set_cons_succ]
  refine takeW (i := 12) (some 37) (v := ?_) rfl rfl (by kernel_rfl) (by kernel_rfl) (by kernel_rfl) (fun _ _ _ h => h) (by rfl) (by assumption) ?_ ?_
  rotate_left
  · (intro wS hSw; (try dsimp only at hSw); go_simp; try with_reducible rfl)
  try simp only [Act.put, List.setIfInBounds_toArray, List.set_cons_zero, List.set_cons_succ]
  refine takeW (i := 13) (some 24) (v := ?_) rfl rfl (by kernel_rfl) (by kernel_rfl) (by kernel_rfl) (fun _ _ _ h => h) (by rfl) (by assumption) ?_ ?_
  rotate_left
  · (intro wS hSw; (try dsimp only at hSw); go_simp; try with_reducible rfl)
  try simp only [Act.put, List.setIfInBounds_toArray, List.set_cons_zero, List.set_cons_succ]
  refine wpAnyH_done (by kernel_rfl) ?_ _
  go_wp2_with fail
  have E7 := Lib.hid E6.out.drew
  clear E6
  refine wp_region_held_drew (S := fun w' => w'.cell? ⟨w.heap.size, 7, none⟩ = some (.slice (some ⟨db, df, none⟩) dn.length dj) ∧ w'.cell? ⟨w.heap.size + 1, 3, none⟩ = some (.int .i64 nm2) ∧ w'.cell? ⟨db, df + kk * 5 + 3, none⟩ = some (.int .i64 dn[kk].nm)) (by kernel_rfl) (⟨((E7.out.bx 2 rfl).cell 7 rfl), ((E7.out.bx 1 rfl).cell 3 rfl), (E7.out.fc 3 rfl).2⟩) (fun hHeld => ?_)
  generalize w4.drew = w5 at *
  refine takeW (i := 0) (some 40) (v := ?_) rfl rfl (by kernel_rfl) (by kernel_rfl) (by kernel_rfl) (fun _ _ _ h => h) (by rfl) (by assumption) ?_ ?_
  rotate_left
  · (intro wS hSw; (try dsimp only at hSw); go_simp; try with_reducible rfl)
  try simp only [Act.put, List.setIfInBounds_toArray, List.set_cons_zero, List.set_cons_succ]
  refine takeW (i := 1) (some 41) (v := ?_) rfl rfl (by kernel_rfl) (by kernel_rfl) (by kernel_rfl) (fun _ _ _ h => h) (by rfl) (by assumption) ?_ ?_
  rotate_left
  · (intro wS hSw; (try dsimp only at hSw); go_simp; try with_reducible rfl)
  try simp only [Act.put, List.setIfInBounds_toArray, List.set_cons_zero, List.set_cons_succ]
  refine takeW (i := 2) (some 42) (v := ?_) rfl rfl (by kernel_rfl) (by kernel_rfl) (by kernel_rfl) (fun _ _ _ h => h) (by rfl) (by assumption) ?_ ?_
  rotate_left
  · (intro wS hSw; (try dsimp only at hSw); go_simp; try with_reducible rfl)
  try simp only [Act.put, List.setIfInBounds_toArray, List.set_cons_zero, List.set_cons_succ]
  refine takeW (i := 3) (some 43) (v := ?_) rfl rfl (by kernel_rfl) (by kernel_rfl) (by kernel_rfl) (fun _ _ _ h => h) (by rfl) (by assumption) ?_ ?_
  rotate_left
  · (intro wS hSw; (try dsimp only at hSw); go_simp; try with_reducible rfl)
  try simp only [Act.put, List.setIfInBounds_toArray, List.set_cons_zero, List.set_cons_succ]
  refine takeW (i := 4) (some 44) (v := ?_) rfl rfl (by kernel_rfl) (by kernel_rfl) (by kernel_rfl) (fun _ _ _ h => h) (by rfl) (by assumption) ?_ ?_
  rotate_left
  · (intro wS hSw; (try dsimp only at hSw); go_simp; try with_reducible rfl)
  try simp only [Act.put, List.setIfInBounds_toArray, List.set_cons_zero, List.set_cons_succ]
  refine takeW (i := 5) (some 45) (v := ?_) rfl rfl (by kernel_rfl) (by kernel_rfl) (by kernel_rfl) (fun _ _ _ h => h) (by rfl) (by assumption) ?_ ?_
  rotate_left
  · (intro wS hSw; (try dsimp only at hSw); go_simp; try with_reducible rfl)
  try simp only [Act.put, List.setIfInBounds_toArray, List.set_cons_zero, List.set_cons_succ]
  refine takeW (i := 6) (some 46) (v := ?_) rfl rfl (by kernel_rfl) (by kernel_rfl) (by kernel_rfl) (fun _ _ _ h => h) (by rfl) (by assumption) ?_ ?_
  rotate_left
  · (intro wS hSw; (try dsimp only at hSw); go_simp; try with_reducible rfl)
  try simp only [Act.put, List.setIfInBounds_toArray, List.set_cons_zero, List.set_cons_succ]
  refine takeW (i := 7) (some 47) (v := ?_) rfl rfl (by kernel_rfl) (by kernel_rfl) (by kernel_rfl) (fun _ _ _ h => h) (by rfl) (by assumption) ?_ ?_
  rotate_left
  · (intro wS hSw; (try dsimp only at hSw); go_simp; try with_reducible rfl)
  try simp only [Act.put, List.setIfInBounds_toArray, List.set_cons_zero, List.set_cons_succ]
  refine takeW (i := 8) (some 48) (v := ?_) rfl rfl (by kernel_rfl) (by kernel_rfl) (by kernel_rfl) (fun _ _ _ h => h) (by rfl) (by assumption) ?_ ?_
  rotate_left
  · (intro wS hSw; (try dsimp only at hSw); go_simp; try with_reducible rfl)
  try simp only [Act.put, List.setIfInBounds_toArray, List.set_cons_zero, List.set_cons_succ]
  refine takeW (i := 9) (some 39) (v := ?_) rfl rfl (by kernel_rfl) (by kernel_rfl) (by kernel_rfl) (fun _ _ _ h => h) (by rfl) (by assumption) ?_ ?_
  rotate_left
  · (intro wS hSw; (try dsimp only at hSw); go_simp; try with_reducible rfl)
  try simp only [Act.put, List.setIfInBounds_toArray, List.set_cons_zero, List.set_cons_succ]
  refine wpAnyH_done (by kernel_rfl) ?_ _
  have b4 := E7.out.bx 0 rfl
  have c4_0 := b4.cell 0 rfl
  have c4_1 := b4.cell 1 rfl
  have c4_2 := b4.cell 2 rfl
  have c4_3 := b4.cell 3 rfl
  have c4_4 := b4.cell 4 rfl
  have f4_0 := b4.frozen 0
  have f4_1 := b4.frozen 1
  have f4_2 := b4.frozen 2
  have f4_3 := b4.frozen 3
  have f4_4 := b4.frozen 4
  clear b4
  go_wp2
  have E8 : Hid (Env D w [(w.heap.size + 1 + 1, 24, [.int .i64 0, .int .i64 0, .int .i64 0, .int .i64 0, .slice none 0 0]), (w.heap.size + 1, 24, [.int .i64 fr2, .int .i64 to2, .int .i64 kd2, .int .i64 nm2, .slice ya body2.length yk]), (w.heap.size, 27, [.int .i64 nx, .bool wt, .int .i64 fr, .int .i64 to_, .int .i64 kd, .int .i64 nm, .slice xa body.length xk, .slice (some ⟨db, df, none⟩) dn.length dj, .int .i64 tr])] [.ce db (df + kk * 5) (.int .i64 dn[kk].fr), .ce db (df + kk * 5 + 1) (.int .i64 dn[kk].to_), .ce db (df + kk * 5 + 2) (.int .i64 dn[kk].kd), .ce db (df + kk * 5 + 3) (.int .i64 dn[kk].nm), .ce db (df + kk * 5 + 4) (.slice ua dn[kk].body.length uk), .bs (.slice ua dn[kk].body.length uk) dn[kk].body, .bs (.slice ya body2.length yk) body2, .ms (.slice (some ⟨db, df, none⟩) dn.length dj) dn, .bs (.slice xa body.length xk) body] _) := Lib.hid ((((((E7.out.set 0 0 (.int .i64 0) rfl).set 0 1 (.int .i64 0) rfl).set 0 2 (.int .i64 0) rfl).set 0 3 (.int .i64 0) rfl).set 0 4 (.slice none 0 0) rfl))
  have hfin := E8.out
  have q5 := (hfin.bx 0 rfl).cell 0 rfl
  have q6 := (hfin.bx 0 rfl).cell 1 rfl
  have q7 := (hfin.bx 0 rfl).cell 2 rfl
  have q8 := (hfin.bx 0 rfl).cell 3 rfl
  have q9 := (hfin.bx 0 rfl).cell 4 rfl
  exact bodyPost_ret (v := .tuple #[.agg #[.int .i64 0, .int .i64 0, .int .i64 0, .int .i64 0, .slice none 0 0], .int .i64 14]) (by simp [results, Try.results15, go_sem, q5, q6, q7, q8, q9]) rfl ⟨⟨none, 0, rfl, Lib.hid (Bs.nil _ _)⟩, hfin.bel⟩
set_option maxRecDepth 100000 in
set_option maxHeartbeats 1000000 in
theorem rKnown_1a {D : Nat → Prop} (nx fr to_ kd nm tr : Int) (wt : Bool) (body : List Nat) (dn : List Msg) {xa : Option Addr} {xk : Nat} {da : Option Addr} {dj : Nat} (fr2 to2 kd2 nm2 : Int) (body2 : List Nat) {ya : Option Addr} {yk : Nat} {w : World} (hx : Fct.at w D (.bs (.slice xa body.length xk) body)) (hy : Fct.at w D (.ms (.slice da dn.length dj) dn)) (hz : Fct.at w D (.bs (.slice ya body2.length yk) body2)) (hS0 : ¬ SesOk ⟨nx, wt, ⟨fr, to_, kd, nm, body⟩, dn, tr⟩) :
    Calls Try.prog 16 #[.agg #[.int .i64 nx, .bool wt, .int .i64 fr, .int .i64 to_, .int .i64 kd, .int .i64 nm, .slice xa body.length xk, .slice da dn.length dj, .int .i64 tr], .agg #[.int .i64 fr2, .int .i64 to2, .int .i64 kd2, .int .i64 nm2, .slice ya body2.length yk]] w fun e w' => RetME (fun b => D b ∨ w.heap.size ≤ b) M0 1 e w' ∧ Below w.heap.size w w' := by
  have E0 := Lib.hid ((((Env.start D w).arg (.bs (.slice xa body.length xk) body) hx).arg (.ms (.slice da dn.length dj) dn) hy).arg (.bs (.slice ya body2.length yk) body2) hz)
  clear hx hy hz
  go_enter Try.func16, Try.ntmps16
  have hS := Lib.hid hS0
  clear hS0
  go_wp2_with fail
  have E1 := Lib.hid ((((E0.out.push 27 [.int .i64 nx, .bool wt, .int .i64 fr, .int .i64 to_, .int .i64 kd, .int .i64 nm, .slice xa body.length xk, .slice da dn.length dj, .int .i64 tr] (w.heap.size) (by simp)).push 24 [.int .i64 fr2, .int .i64 to2, .int .i64 kd2, .int .i64 nm2, .slice ya body2.length yk] (w.heap.size + 1) (by simp)).push 24 [.int .i64 0, .int .i64 0, .int .i64 0, .int .i64 0, .slice none 0 0] (w.heap.size + 1 + 1) (by simp)))
  refine (rValid_f (S := ⟨nx, wt, ⟨fr, to_, kd, nm, body⟩, dn, tr⟩) hS.out (E1.out.fc 2 rfl) (E1.out.fc 1 rfl)).mono ?_
  rintro e w1 ⟨rfl, hb⟩
  have E2 := Lib.hid (E1.out.below hb)
  clear E0 E1 hb
  have b1 := E2.out.bx 0 rfl
  have c1_0 := b1.cell 0 rfl
  have c1_1 := b1.cell 1 rfl
  have c1_2 := b1.cell 2 rfl
  have c1_3 := b1.cell 3 rfl
  have c1_4 := b1.cell 4 rfl
  have f1_0 := b1.frozen 0
  have f1_1 := b1.frozen 1
  have f1_2 := b1.frozen 2
  have f1_3 := b1.frozen 3
  have f1_4 := b1.frozen 4
  clear b1
  go_wp2
  have E3 : Hid (Env D w [(w.heap.size + 1 + 1, 24, [.int .i64 0, .int .i64 0, .int .i64 0, .int .i64 0, .slice none 0 0]), (w.heap.size + 1, 24, [.int .i64 fr2, .int .i64 to2, .int .i64 kd2, .int .i64 nm2, .slice ya body2.length yk]), (w.heap.size, 27, [.int .i64 nx, .bool wt, .int .i64 fr, .int .i64 to_, .int .i64 kd, .int .i64 nm, .slice xa body.length xk, .slice da dn.length dj, .int .i64 tr])] [.bs (.slice ya body2.length yk) body2, .ms (.slice da dn.length dj) dn, .bs (.slice xa body.length xk) body] _) := Lib.hid ((((((E2.out.set 0 0 (.int .i64 0) rfl).set 0 1 (.int .i64 0) rfl).set 0 2 (.int .i64 0) rfl).set 0 3 (.int .i64 0) rfl).set 0 4 (.slice none 0 0) rfl))
  have hfin := E3.out
  have q2 := (hfin.bx 0 rfl).cell 0 rfl
  have q3 := (hfin.bx 0 rfl).cell 1 rfl
  have q4 := (hfin.bx 0 rfl).cell 2 rfl
  have q5 := (hfin.bx 0 rfl).cell 3 rfl
  have q6 := (hfin.bx 0 rfl).cell 4 rfl
  exact bodyPost_ret (v := .tuple #[.agg #[.int .i64 0, .int .i64 0, .int .i64 0, .int .i64 0, .slice none 0 0], .int .i64 1]) (by simp [results, Try.results16, go_sem, q2, q3, q4, q5, q6]) rfl ⟨⟨none, 0, rfl, Lib.hid (Bs.nil _ _)⟩, hfin.bel⟩
set_option maxRecDepth 100000 in
set_option maxHeartbeats 1000000 in
theorem rKnown_1b {D : Nat → Prop} (nx fr to_ kd nm tr : Int) (wt : Bool) (body : List Nat) (dn : List Msg) {xa : Option Addr} {xk : Nat} {da : Option Addr} {dj : Nat} (fr2 to2 kd2 nm2 : Int) (body2 : List Nat) {ya : Option Addr} {yk : Nat} {w : World} (hx : Fct.at w D (.bs (.slice xa body.length xk) body)) (hy : Fct.at w D (.ms (.slice da dn.length dj) dn)) (hz : Fct.at w D (.bs (.slice ya body2.length yk) body2)) (hS0 : SesOk ⟨nx, wt, ⟨fr, to_, kd, nm, body⟩, dn, tr⟩) (hm0 : msgOk ⟨fr2, to2, kd2, nm2, body2⟩ = false) :
    Calls Try.prog 16 #[.agg #[.int .i64 nx, .bool wt, .int .i64 fr, .int .i64 to_, .int .i64 kd, .int .i64 nm, .slice xa body.length xk, .slice da dn.length dj, .int .i64 tr], .agg #[.int .i64 fr2, .int .i64 to2, .int .i64 kd2, .int .i64 nm2, .slice ya body2.length yk]] w fun e w' => RetME (fun b => D b ∨ w.heap.size ≤ b) M0 1 e w' ∧ Below w.heap.size w w' := by
  have E0 := Lib.hid ((((Env.start D w).arg (.bs (.slice xa body.length xk) body) hx).arg (.ms (.slice da dn.length dj) dn) hy).arg (.bs (.slice ya body2.length yk) body2) hz)
  clear hx hy hz
  go_enter Try.func16, Try.ntmps16
  have hS := Lib.hid hS0
  clear hS0
  have hm := Lib.hid hm0
  clear hm0
  go_wp2_with fail
  have E1 := Lib.hid ((((E0.out.push 27 [.int .i64 nx, .bool wt, .int .i64 fr, .int .i64 to_, .int .i64 kd, .int .i64 nm, .slice xa body.length xk, .slice da dn.length dj, .int .i64 tr] (w.heap.size) (by simp)).push 24 [.int .i64 fr2, .int .i64 to2, .int .i64 kd2, .int .i64 nm2, .slice ya body2.length yk] (w.heap.size + 1) (by simp)).push 24 [.int .i64 0, .int .i64 0, .int .i64 0, .int .i64 0, .slice none 0 0] (w.heap.size + 1 + 1) (by simp)))
  refine (rValid_t (S := ⟨nx, wt, ⟨fr, to_, kd, nm, body⟩, dn, tr⟩) hS.out (E1.out.fc 2 rfl) (E1.out.fc 1 rfl)).mono ?_
  rintro e w1 ⟨rfl, hb⟩
  have E2 := Lib.hid (E1.out.below hb)
  clear E0 E1 hb
  have b1 := E2.out.bx 1 rfl
  have c1_0 := b1.cell 0 rfl
  have c1_1 := b1.cell 1 rfl
  have c1_2 := b1.cell 2 rfl
  have c1_3 := b1.cell 3 rfl
  have c1_4 := b1.cell 4 rfl
  clear b1
  go_wp2_with fail
  refine (rMessage_v ⟨fr2, to2, kd2, nm2, body2⟩ hm.out _ _ _).mono ?_
  rintro e w2 ⟨rfl, hb⟩
  have E3 := Lib.hid (E2.out.below hb)
  clear c1_0 c1_1 c1_2 c1_3 c1_4 E2 hb
  have b2 := E3.out.bx 0 rfl
  have c2_0 := b2.cell 0 rfl
  have c2_1 := b2.cell 1 rfl
  have c2_2 := b2.cell 2 rfl
  have c2_3 := b2.cell 3 rfl
  have c2_4 := b2.cell 4 rfl
  have f2_0 := b2.frozen 0
  have f2_1 := b2.frozen 1
  have f2_2 := b2.frozen 2
  have f2_3 := b2.frozen 3
  have f2_4 := b2.frozen 4
  clear b2
  go_wp2
  have E4 : Hid (Env D w [(w.heap.size + 1 + 1, 24, [.int .i64 0, .int .i64 0, .int .i64 0, .int .i64 0, .slice none 0 0]), (w.heap.size + 1, 24, [.int .i64 fr2, .int .i64 to2, .int .i64 kd2, .int .i64 nm2, .slice ya body2.length yk]), (w.heap.size, 27, [.int .i64 nx, .bool wt, .int .i64 fr, .int .i64 to_, .int .i64 kd, .int .i64 nm, .slice xa body.length xk, .slice da dn.length dj, .int .i64 tr])] [.bs (.slice ya body2.length yk) body2, .ms (.slice da dn.length dj) dn, .bs (.slice xa body.length xk) body] _) := Lib.hid ((((((E3.out.set 0 0 (.int .i64 0) rfl).set 0 1 (.int .i64 0) rfl).set 0 2 (.int .i64 0) rfl).set 0 3 (.int .i64 0) rfl).set 0 4 (.slice none 0 0) rfl))
  have hfin := E4.out
  have q3 := (hfin.bx 0 rfl).cell 0 rfl
  have q4 := (hfin.bx 0 rfl).cell 1 rfl
  have q5 := (hfin.bx 0 rfl).cell 2 rfl
  have q6 := (hfin.bx 0 rfl).cell 3 rfl
  have q7 := (hfin.bx 0 rfl).cell 4 rfl
  exact bodyPost_ret (v := .tuple #[.agg #[.int .i64 0, .int .i64 0, .int .i64 0, .int .i64 0, .slice none 0 0], .int .i64 1]) (by simp [results, Try.results16, go_sem, q3, q4, q5, q6, q7]) rfl ⟨⟨none, 0, rfl, Lib.hid (Bs.nil _ _)⟩, hfin.bel⟩
set_option maxRecDepth 100000 in
set_option maxHeartbeats 1000000 in
theorem rKnown_7n {D : Nat → Prop} (nx fr to_ kd nm tr : Int) (wt : Bool) (body : List Nat) (dn : List Msg) {xa : Option Addr} {xk : Nat} {da : Option Addr} {dj : Nat} (fr2 to2 kd2 nm2 : Int) (body2 : List Nat) {ya : Option Addr} {yk : Nat} {w : World} (hx : Fct.at w D (.bs (.slice xa body.length xk) body)) (hy : Fct.at w D (.ms (.slice da dn.length dj) dn)) (hz : Fct.at w D (.bs (.slice ya body2.length yk) body2)) (hS0 : SesOk ⟨nx, wt, ⟨fr, to_, kd, nm, body⟩, dn, tr⟩) (hm0 : msgOk ⟨fr2, to2, kd2, nm2, body2⟩ = true) (hn0 : ∀ k (h : k < dn.length), dn[k].to_ ≠ fr2) :
    Calls Try.prog 16 #[.agg #[.int .i64 nx, .bool wt, .int .i64 fr, .int .i64 to_, .int .i64 kd, .int .i64 nm, .slice xa body.length xk, .slice da dn.length dj, .int .i64 tr], .agg #[.int .i64 fr2, .int .i64 to2, .int .i64 kd2, .int .i64 nm2, .slice ya body2.length yk]] w fun e w' => RetME (fun b => D b ∨ w.heap.size ≤ b) M0 7 e w' ∧ Below w.heap.size w w' := by
  have E0 := Lib.hid ((((Env.start D w).arg (.bs (.slice xa body.length xk) body) hx).arg (.ms (.slice da dn.length dj) dn) hy).arg (.bs (.slice ya body2.length yk) body2) hz)
  clear hx hy hz
  go_enter Try.func16, Try.ntmps16
  have hS := Lib.hid hS0
  clear hS0
  have hm := Lib.hid hm0
  clear hm0
  have hn := Lib.hid hn0
  clear hn0
  go_wp2_with fail
  have E1 := Lib.hid ((((E0.out.push 27 [.int .i64 nx, .bool wt, .int .i64 fr, .int .i64 to_, .int .i64 kd, .int .i64 nm, .slice xa body.length xk, .slice da dn.length dj, .int .i64 tr] (w.heap.size) (by simp)).push 24 [.int .i64 fr2, .int .i64 to2, .int .i64 kd2, .int .i64 nm2, .slice ya body2.length yk] (w.heap.size + 1) (by simp)).push 24 [.int .i64 0, .int .i64 0, .int .i64 0, .int .i64 0, .slice none 0 0] (w.heap.size + 1 + 1) (by simp)))
  refine (rValid_t (S := ⟨nx, wt, ⟨fr, to_, kd, nm, body⟩, dn, tr⟩) hS.out (E1.out.fc 2 rfl) (E1.out.fc 1 rfl)).mono ?_
  rintro e w1 ⟨rfl, hb⟩
  have E2 := Lib.hid (E1.out.below hb)
  clear E0 E1 hb
  have b1 := E2.out.bx 1 rfl
  have c1_0 := b1.cell 0 rfl
  have c1_1 := b1.cell 1 rfl
  have c1_2 := b1.cell 2 rfl
  have c1_3 := b1.cell 3 rfl
  have c1_4 := b1.cell 4 rfl
  clear b1
  go_wp2_with fail
  refine (rMessage_v ⟨fr2, to2, kd2, nm2, body2⟩ hm.out _ _ _).mono ?_
  rintro e w2 ⟨rfl, hb⟩
  have E3 := Lib.hid (E2.out.below hb)
  clear c1_0 c1_1 c1_2 c1_3 c1_4 E2 hb
  have b2 := E3.out.bx 2 rfl
  have c2_0 := b2.cell 0 rfl
  have c2_1 := b2.cell 1 rfl
  have c2_2 := b2.cell 2 rfl
  have c2_3 := b2.cell 3 rfl
  have c2_4 := b2.cell 4 rfl
  have c2_5 := b2.cell 5 rfl
  have c2_6 := b2.cell 6 rfl
  have c2_7 := b2.cell 7 rfl
  have c2_8 := b2.cell 8 rfl
  clear b2
  have b3 := E3.out.bx 1 rfl
  have c3_0 := b3.cell 0 rfl
  clear b3
  go_wp2_with fail
  refine (rfind_n (S := ⟨nx, wt, ⟨fr, to_, kd, nm, body⟩, dn, tr⟩) hS.out hn.out (E3.out.fc 1 rfl)).mono ?_
  rintro e w3 ⟨rfl, hb⟩
  have E4 := Lib.hid (E3.out.below hb)
  clear c2_0 c2_1 c2_2 c2_3 c2_4 c2_5 c2_6 c2_7 c2_8 c3_0 E3 hb
  go_wp2_with fail
  have E5 := Lib.hid E4.out.drew
  clear E4
  refine wp_region_held_drew (S := fun w' => True) (by kernel_rfl) (trivial) (fun hHeld => ?_)
  generalize w3.drew = w4 at *
  refine takeW (i := 0) (some 20) (v := ?_) rfl rfl (by kernel_rfl) (by kernel_rfl) (by kernel_rfl) (fun _ _ _ h => h) (by rfl) (by assumption) ?_ ?_
  rotate_left
  · (intro wS hSw; (try dsimp only at hSw); go_simp; try with_reducible rfl)
  try simp only [Act.put, List.setIfInBounds_toArray, List.set_cons_zero, List.set_cons_succ]
  refine takeW (i := 1) (some 21) (v := ?_) rfl rfl (by kernel_rfl) (by kernel_rfl) (by kernel_rfl) (fun _ _ _ h => h) (by rfl) (by assumption) ?_ ?_
  rotate_left
  · (intro wS hSw; (try dsimp only at hSw); go_simp; try with_reducible rfl)
  try simp only [Act.put, List.setIfInBounds_toArray, List.set_cons_zero, List.set_cons_succ]
  refine takeW (i := 2) (some 22) (v := ?_) rfl rfl (by kernel_rfl) (by kernel_rfl) (by kernel_rfl) (fun _ _ _ h => h) (by rfl) (by assumption) ?_ ?_
  rotate_left
  · (intro wS hSw; (try dsimp only at hSw); go_simp; try with_reducible rfl)
  try simp only [Act.put, List.setIfInBounds_toArray, List.set_cons_zero, List.set_cons_succ]
  refine takeU (i := 3) (some 23) rfl rfl (by kernel_rfl) (by kernel_rfl) (by kernel_rfl) (fun _ _ _ h => h) (by rfl) (by assumption) ?_
  try simp only [Act.put, List.setIfInBounds_toArray, List.set_cons_zero, List.set_cons_succ]
  refine takeU (i := 4) (some 24) rfl rfl (by kernel_rfl) (by kernel_rfl) (by kernel_rfl) (fun _ _ _ h => h) (by rfl) (by assumption) ?_
  try simp only [Act.put, List.setIfInBounds_toArray, List.set_cons_zero, List.set_cons_succ]
  refine takeU (i := 5) (some 25) rfl rfl (by kernel_rfl) (by kernel_rfl) (by kernel_rfl) (fun _ _ _ h => h) (by rfl) (by assumption) ?_
  try simp only [Act.put, List.setIfInBounds_toArray, List.set_cons_zero, List.set_cons_succ]
  refine takeU (i := 6) (some 26) rfl rfl (by kernel_rfl) (by kernel_rfl) (by kernel_rfl) (fun _ _ _ h => h) (by rfl) (by assumption) ?_
  try simp only [Act.put, List.setIfInBounds_toArray, List.set_cons_zero, List.set_cons_succ]
  refine takeU (i := 7) (some 27) rfl rfl (by kernel_rfl) (by kernel_rfl) (by kernel_rfl) (fun _ _ _ h => h) (by rfl) (by assumption) ?_
  try simp only [Act.put, List.setIfInBounds_toArray, List.set_cons_zero, List.set_cons_succ]
  refine takeU (i := 8) (some 28) rfl rfl (by kernel_rfl) (by kernel_rfl) (by kernel_rfl) (fun _ _ _ h => h) (by rfl) (by assumption) ?_
  try simp only [Act.put, List.setIfInBounds_toArray, List.set_cons_zero, List.set_cons_succ]
  refine takeU (i := 9) (some 29) rfl rfl (by kernel_rfl) (by kernel_rfl) (by kernel_rfl) (fun _ _ _ h => h) (by rfl) (by assumption) ?_
  try simp only [Act.put, List.setIfInBounds_toArray, List.set_cons_zero, List.set_cons_succ]
  refine takeU (i := 10) (some 30) rfl rfl (by kernel_rfl) (by kernel_rfl) (by kernel_rfl) (fun _ _ _ h => h) (by rfl) (by assumption) ?_
  try simp only [Act.put, List.setIfInBounds_toArray, List.set_cons_zero, List.set_cons_succ]
  refine takeU (i := 11) (some 31) rfl rfl (by kernel_rfl) (by kernel_rfl) (by kernel_rfl) (fun _ _ _ h => h) (by rfl) (by assumption) ?_
  try simp only [Act.put, List.setIfInBounds_toArray, List.set_cons_zero, List.set_cons_succ]
  refine takeW (i := 12) (some 32) (v := ?_) rfl rfl (by kernel_rfl) (by kernel_rfl) (by kernel_rfl) (fun _ _ _ h => h) (by rfl) (by assumption) ?_ ?_
  rotate_left
  · (intro wS hSw; (try dsimp only at hSw); go_simp; try with_reducible rfl)
  try simp only [Act.put, List.setIfInBounds_toArray, List.set_cons_zero, List.set_cons_succ]
  refine wpAnyH_done (by kernel_rfl) ?_ _
  have b4 := E5.out.bx 0 rfl
  have c4_0 := b4.cell 0 rfl
  have c4_1 := b4.cell 1 rfl
  have c4_2 := b4.cell 2 rfl
  have c4_3 := b4.cell 3 rfl
  have c4_4 := b4.cell 4 rfl
  have f4_0 := b4.frozen 0
  have f4_1 := b4.frozen 1
  have f4_2 := b4.frozen 2
  have f4_3 := b4.frozen 3
  have f4_4 := b4.frozen 4
  clear b4
  go_wp2
  have E6 : Hid (Env D w [(w.heap.size + 1 + 1, 24, [.int .i64 0, .int .i64 0, .int .i64 0, .int .i64 0, .slice none 0 0]), (w.heap.size + 1, 24, [.int .i64 fr2, .int .i64 to2, .int .i64 kd2, .int .i64 nm2, .slice ya body2.length yk]), (w.heap.size, 27, [.int .i64 nx, .bool wt, .int .i64 fr, .int .i64 to_, .int .i64 kd, .int .i64 nm, .slice xa body.length xk, .slice da dn.length dj, .int .i64 tr])] [.bs (.slice ya body2.length yk) body2, .ms (.slice da dn.length dj) dn, .bs (.slice xa body.length xk) body] _) := Lib.hid ((((((E5.out.set 0 0 (.int .i64 0) rfl).set 0 1 (.int .i64 0) rfl).set 0 2 (.int .i64 0) rfl).set 0 3 (.int .i64 0) rfl).set 0 4 (.slice none 0 0) rfl))
  have hfin := E6.out
  have q5 := (hfin.bx 0 rfl).cell 0 rfl
  have q6 := (hfin.bx 0 rfl).cell 1 rfl
  have q7 := (hfin.bx 0 rfl).cell 2 rfl
  have q8 := (hfin.bx 0 rfl).cell 3 rfl
  have q9 := (hfin.bx 0 rfl).cell 4 rfl
  exact bodyPost_ret (v := .tuple #[.agg #[.int .i64 0, .int .i64 0, .int .i64 0, .int .i64 0, .slice none 0 0], .int .i64 7]) (by simp [results, Try.results16, go_sem, q5, q6, q7, q8, q9]) rfl ⟨⟨none, 0, rfl, Lib.hid (Bs.nil _ _)⟩, hfin.bel⟩
set_option maxRecDepth 100000 in
set_option maxHeartbeats 1000000 in
theorem rKnown_7l {D : Nat → Prop} (nx fr to_ kd nm tr : Int) (wt : Bool) (body : List Nat) (dn : List Msg) {xa : Option Addr} {xk : Nat} {db df dj : Nat} (fr2 to2 kd2 nm2 : Int) (body2 : List Nat) {ya : Option Addr} {yk : Nat} (kk : Nat) {w : World} (hx : Fct.at w D (.bs (.slice xa body.length xk) body)) (hy : Fct.at w D (.ms (.slice (some ⟨db, df, none⟩) dn.length dj) dn)) (hz : Fct.at w D (.bs (.slice ya body2.length yk) body2)) (hS0 : SesOk ⟨nx, wt, ⟨fr, to_, kd, nm, body⟩, dn, tr⟩) (hm0 : msgOk ⟨fr2, to2, kd2, nm2, body2⟩ = true) (hf0 : ∃ h : kk < dn.length, dn[kk].to_ = fr2 ∧ dn[kk].nm < nm2) :
    Calls Try.prog 16 #[.agg #[.int .i64 nx, .bool wt, .int .i64 fr, .int .i64 to_, .int .i64 kd, .int .i64 nm, .slice xa body.length xk, .slice (some ⟨db, df, none⟩) dn.length dj, .int .i64 tr], .agg #[.int .i64 fr2, .int .i64 to2, .int .i64 kd2, .int .i64 nm2, .slice ya body2.length yk]] w fun e w' => RetME (fun b => D b ∨ w.heap.size ≤ b) M0 7 e w' ∧ Below w.heap.size w w' := by
  have E0 := Lib.hid ((((Env.start D w).arg (.bs (.slice xa body.length xk) body) hx).arg (.ms (.slice (some ⟨db, df, none⟩) dn.length dj) dn) hy).arg (.bs (.slice ya body2.length yk) body2) hz)
  clear hx hy hz
  go_enter Try.func16, Try.ntmps16
  have hS := Lib.hid hS0
  clear hS0
  have hm := Lib.hid hm0
  clear hm0
  have hf := Lib.hid hf0
  clear hf0
  obtain ⟨hk, hto9, hcd9⟩ := hf.out
  have hto := Lib.hid hto9
  have hcd := Lib.hid hcd9
  clear hto9 hcd9
  have hA := Lib.hid (asc_of hS.out.2.2.2)
  have a3 : dn.length ≤ 1000 := hS.out.1.2.2
  go_wp2_with fail
  have E1 := Lib.hid ((((E0.out.push 27 [.int .i64 nx, .bool wt, .int .i64 fr, .int .i64 to_, .int .i64 kd, .int .i64 nm, .slice xa body.length xk, .slice (some ⟨db, df, none⟩) dn.length dj, .int .i64 tr] (w.heap.size) (by simp)).push 24 [.int .i64 fr2, .int .i64 to2, .int .i64 kd2, .int .i64 nm2, .slice ya body2.length yk] (w.heap.size + 1) (by simp)).push 24 [.int .i64 0, .int .i64 0, .int .i64 0, .int .i64 0, .slice none 0 0] (w.heap.size + 1 + 1) (by simp)))
  refine (rValid_t (S := ⟨nx, wt, ⟨fr, to_, kd, nm, body⟩, dn, tr⟩) hS.out (E1.out.fc 2 rfl) (E1.out.fc 1 rfl)).mono ?_
  rintro e w1 ⟨rfl, hb⟩
  have E2 := Lib.hid (E1.out.below hb)
  clear E0 E1 hb
  have b1 := E2.out.bx 1 rfl
  have c1_0 := b1.cell 0 rfl
  have c1_1 := b1.cell 1 rfl
  have c1_2 := b1.cell 2 rfl
  have c1_3 := b1.cell 3 rfl
  have c1_4 := b1.cell 4 rfl
  clear b1
  go_wp2_with fail
  refine (rMessage_v ⟨fr2, to2, kd2, nm2, body2⟩ hm.out _ _ _).mono ?_
  rintro e w2 ⟨rfl, hb⟩
  have E3 := Lib.hid (E2.out.below hb)
  clear c1_0 c1_1 c1_2 c1_3 c1_4 E2 hb
  have b2 := E3.out.bx 2 rfl
  have c2_0 := b2.cell 0 rfl
  have c2_1 := b2.cell 1 rfl
  have c2_2 := b2.cell 2 rfl
  have c2_3 := b2.cell 3 rfl
  have c2_4 := b2.cell 4 rfl
  have c2_5 := b2.cell 5 rfl
  have c2_6 := b2.cell 6 rfl
  have c2_7 := b2.cell 7 rfl
  have c2_8 := b2.cell 8 rfl
  clear b2
  have b3 := E3.out.bx 1 rfl
  have c3_0 := b3.cell 0 rfl
  clear b3
  go_wp2_with fail
  refine (rfind_a (S := ⟨nx, wt, ⟨fr, to_, kd, nm, body⟩, dn, tr⟩) hS.out ⟨hk, hto.out⟩ (E3.out.fc 1 rfl)).mono ?_
  rintro e w3 ⟨rfl, hb⟩
  have E4 := Lib.hid (E3.out.below hb)
  clear c2_0 c2_1 c2_2 c2_3 c2_4 c2_5 c2_6 c2_7 c2_8 c3_0 E3 hb
  have t1 : decide (dn[kk].nm < nm2) = true := decide_eq_true (by have := hcd.out; omega)
  have t2 : decide (nm2 < dn[kk].nm) = false := decide_eq_false (by have := hcd.out; omega)
  have t0 : decide ((kk : Int) < 0) = false := decide_eq_false (by omega)
  obtain ⟨ua, uk, E50⟩ := E4.out.els 1 rfl (kk) hk
  have E5 : Hid (Env D w [(w.heap.size + 1 + 1, 24, [.int .i64 0, .int .i64 0, .int .i64 0, .int .i64 0, .slice none 0 0]), (w.heap.size + 1, 24, [.int .i64 fr2, .int .i64 to2, .int .i64 kd2, .int .i64 nm2, .slice ya body2.length yk]), (w.heap.size, 27, [.int .i64 nx, .bool wt, .int .i64 fr, .int .i64 to_, .int .i64 kd, .int .i64 nm, .slice xa body.length xk, .slice (some ⟨db, df, none⟩) dn.length dj, .int .i64 tr])] [.ce db (df + kk * 5) (.int .i64 dn[kk].fr), .ce db (df + kk * 5 + 1) (.int .i64 dn[kk].to_), .ce db (df + kk * 5 + 2) (.int .i64 dn[kk].kd), .ce db (df + kk * 5 + 3) (.int .i64 dn[kk].nm), .ce db (df + kk * 5 + 4) (.slice ua dn[kk].body.length uk), .bs (.slice ua dn[kk].body.length uk) dn[kk].body, .bs (.slice ya body2.length yk) body2, .ms (.slice (some ⟨db, df, none⟩) dn.length dj) dn, .bs (.slice xa body.length xk) body] _) := Lib.hid E50
  clear E50 E4
  go_wp2_with fail
  have E6 := Lib.hid E5.out.drew
  clear E5
  refine wp_region_held_drew (S := fun w' => w'.cell? ⟨w.heap.size, 7, none⟩ = some (.slice (some ⟨db, df, none⟩) dn.length dj) ∧ w'.cell? ⟨w.heap.size + 1, 3, none⟩ = some (.int .i64 nm2) ∧ w'.cell? ⟨db, df + kk * 5 + 3, none⟩ = some (.int .i64 dn[kk].nm)) (by kernel_rfl) (⟨((E6.out.bx 2 rfl).cell 7 rfl), ((E6.out.bx 1 rfl).cell 3 rfl), (E6.out.fc 3 rfl).2⟩) (fun hHeld => ?_)
  generalize w3.drew = w4 at *
  refine takeW (i := 0) (some 20) (v := ?_) rfl rfl (by kernel_rfl) (by kernel_rfl) (by kernel_rfl) (fun _ _ _ h => h) (by rfl) (by assumption) ?_ ?_
  rotate_left
  · (intro wS hSw; (try dsimp only at hSw); go_simp; try with_reducible rfl)
  try simp only [Act.put, List.setIfInBounds_toArray, List.set_cons_zero, List.set_cons_succ]
  refine takeW (i := 1) (some 21) (v := .bool false) rfl rfl (by kernel_rfl) (by kernel_rfl) (by kernel_rfl) (fun _ _ _ h => h) (by rfl) (by assumption) ?_ ?_
  · (intro wS hSw; (try dsimp only at hSw); go_simp; (try simp))
  try simp only [Act.put, List.setIfInBounds_toArray, List.set_cons_zero, List.set_cons_succ]
  refine takeW (i := 2) (some 22) (v := ?_) rfl rfl (by kernel_rfl) (by kernel_rfl) (by kernel_rfl) (fun _ _ _ h => h) (by rfl) (by assumption) ?_ ?_
  rotate_left
  · (intro wS hSw; (try dsimp only at hSw); go_simp; try with_reducible rfl)
  try simp only [Act.put, List.setIfInBounds_toArray, List.set_cons_zero, List.set_cons_succ]
  refine takeW (i := 3) (some 23) (v := ?_) rfl rfl (by kernel_rfl) (by kernel_rfl) (by kernel_rfl) (fun _ _ _ h => h) (by rfl) (by assumption) ?_ ?_
  rotate_left
  · (intro wS hSw; (try dsimp only at hSw); go_simp; try with_reducible rfl)
  try simp only [Act.put, List.setIfInBounds_toArray, List.set_cons_zero, List.set_cons_succ]
  refine takeW (i := 4) (some 24) (v := ?_) rfl rfl (by kernel_rfl) (by kernel_rfl) (by kernel_rfl) (fun _ _ _ h => h) (by rfl) (by assumption) ?_ ?_
  rotate_left
  · (intro wS hSw; (try dsimp only at hSw); go_simp; try with_reducible rfl)
  try simp only [Act.put, List.setIfInBounds_toArray, List.set_cons_zero, List.set_cons_succ]
  refine takeW (i := 5) (some 25) (v := ?_) rfl rfl (by kernel_rfl) (by kernel_rfl) (by kernel_rfl) (fun _ _ _ h => h) (by rfl) (by assumption) ?_ ?_
  rotate_left
  · (intro wS hSw; (try dsimp only at hSw); go_simp; try with_reducible rfl)
  try simp only [Act.put, List.setIfInBounds_toArray, List.set_cons_zero, List.set_cons_succ]
  refine takeW (i := 6) (some 26) (v := ?_) rfl rfl (by kernel_rfl) (by kernel_rfl) (by kernel_rfl) (fun _ _ _ h => h) (by rfl) (by assumption) ?_ ?_
  rotate_left
  · (intro wS hSw; (try dsimp only at hSw); go_simp; try with_reducible rfl)
  try simp only [Act.put, List.setIfInBounds_toArray, List.set_cons_zero, List.set_cons_succ]
  refine takeW (i := 7) (some 27) (v := ?_) rfl rfl (by kernel_rfl) (by kernel_rfl) (by kernel_rfl) (fun _ _ _ h => h) (by rfl) (by assumption) ?_ ?_
  rotate_left
  · (intro wS hSw; (try dsimp only at hSw); go_simp; try with_reducible rfl)
  try simp only [Act.put, List.setIfInBounds_toArray, List.set_cons_zero, List.set_cons_succ]
  refine takeW (i := 8) (some 28) (v := ?_) rfl rfl (by kernel_rfl) (by kernel_rfl) (by kernel_rfl) (fun _ _ _ h => h) (by rfl) (by assumption) ?_ ?_
  rotate_left
  · (intro wS hSw; (try dsimp only at hSw); go_simp; try with_reducible rfl)
  try simp only [Act.put, List.setIfInBounds_toArray, List.set_cons_zero, List.set_cons_succ]
  refine takeW (i := 9) (some 29) (v := ?_) rfl rfl (by kernel_rfl) (by kernel_rfl) (by kernel_rfl) (fun _ _ _ h => h) (by rfl) (by assumption) ?_ ?_
  rotate_left
  · (intro wS hSw; (try dsimp only at hSw); go_simp; try with_reducible rfl)
  try simp only [Act.put, List.setIfInBounds_toArray, List.set_cons_zero, List.set_cons_succ]
  refine takeW (i := 10) (some 30) (v := ?_) rfl rfl (by kernel_rfl) (by kernel_rfl) (by kernel_rfl) (fun _ _ _ h => h) (by rfl) (by assumption) ?_ ?_
  rotate_left
  · (intro wS hSw; (try dsimp only at hSw); go_simp; try with_reducible rfl)
  try simp only [Act.put, List.setIfInBounds_toArray, List.set_cons_zero, List.set_cons_succ]
  refine takeW (i := 11) (some 31) (v := ?_) rfl rfl (by kernel_rfl) (by kernel_rfl) (by kernel_rfl) (fun _ _ _ h => h) (by rfl) (by assumption) ?_ ?_
  rotate_left
  · (intro wS hSw; (try dsimp only at hSw); go_simp; try with_reducible rfl)
  try simp only [Act.put, List.setIfInBounds_toArray, List.set_cons_zero, List.set_cons_succ]
  refine takeW (i := 12) (some 32) (v := ?_) rfl rfl (by kernel_rfl) (by kernel_rfl) (by kernel_rfl) (fun _ _ _ h => h) (by rfl) (by assumption) ?_ ?_
  rotate_left
  · (intro wS hSw; (try dsimp only at hSw); go_simp; try with_reducible rfl)
  try simp only [Act.put, List.setIfInBounds_toArray, List.set_cons_zero, List.set_cons_succ]
  refine wpAnyH_done (by kernel_rfl) ?_ _
  have b4 := E6.out.bx 0 rfl
  have c4_0 := b4.cell 0 rfl
  have c4_1 := b4.cell 1 rfl
  have c4_2 := b4.cell 2 rfl
  have c4_3 := b4.cell 3 rfl
  have c4_4 := b4.cell 4 rfl
  have f4_0 := b4.frozen 0
  have f4_1 := b4.frozen 1
  have f4_2 := b4.frozen 2
  have f4_3 := b4.frozen 3
  have f4_4 := b4.frozen 4
  clear b4
  go_wp2
  have E7 : Hid (Env D w [(w.heap.size + 1 + 1, 24, [.int .i64 0, .int .i64 0, .int .i64 0, .int .i64 0, .slice none 0 0]), (w.heap.size + 1, 24, [.int .i64 fr2, .int .i64 to2, .int .i64 kd2, .int .i64 nm2, .slice ya body2.length yk]), (w.heap.size, 27, [.int .i64 nx, .bool wt, .int .i64 fr, .int .i64 to_, .int .i64 kd, .int .i64 nm, .slice xa body.length xk, .slice (some ⟨db, df, none⟩) dn.length dj, .int .i64 tr])] [.ce db (df + kk * 5) (.int .i64 dn[kk].fr), .ce db (df + kk * 5 + 1) (.int .i64 dn[kk].to_), .ce db (df + kk * 5 + 2) (.int .i64 dn[kk].kd), .ce db (df + kk * 5 + 3) (.int .i64 dn[kk].nm), .ce db (df + kk * 5 + 4) (.slice ua dn[kk].body.length uk), .bs (.slice ua dn[kk].body.length uk) dn[kk].body, .bs (.slice ya body2.length yk) body2, .ms (.slice (some ⟨db, df, none⟩) dn.length dj) dn, .bs (.slice xa body.length xk) body] _) := Lib.hid ((((((E6.out.set 0 0 (.int .i64 0) rfl).set 0 1 (.int .i64 0) rfl).set 0 2 (.int .i64 0) rfl).set 0 3 (.int .i64 0) rfl).set 0 4 (.slice none 0 0) rfl))
  have hfin := E7.out
  have q5 := (hfin.bx 0 rfl).cell 0 rfl
  have q6 := (hfin.bx 0 rfl).cell 1 rfl
  have q7 := (hfin.bx 0 rfl).cell 2 rfl
  have q8 := (hfin.bx 0 rfl).cell 3 rfl
  have q9 := (hfin.bx 0 rfl).cell 4 rfl
  exact bodyPost_ret (v := .tuple #[.agg #[.int .i64 0, .int .i64 0, .int .i64 0, .int .i64 0, .slice none 0 0], .int .i64 7]) (by simp [results, Try.results16, go_sem, q5, q6, q7, q8, q9]) rfl ⟨⟨none, 0, rfl, Lib.hid (Bs.nil _ _)⟩, hfin.bel⟩
set_option maxRecDepth 100000 in
set_option maxHeartbeats 1000000 in
theorem rKnown_14 {D : Nat → Prop} (nx fr to_ kd nm tr : Int) (wt : Bool) (body : List Nat) (dn : List Msg) {xa : Option Addr} {xk : Nat} {db df dj : Nat} (fr2 to2 kd2 nm2 : Int) (body2 : List Nat) {ya : Option Addr} {yk : Nat} (kk : Nat) {w : World} (hx : Fct.at w D (.bs (.slice xa body.length xk) body)) (hy : Fct.at w D (.ms (.slice (some ⟨db, df, none⟩) dn.length dj) dn)) (hz : Fct.at w D (.bs (.slice ya body2.length yk) body2)) (hS0 : SesOk ⟨nx, wt, ⟨fr, to_, kd, nm, body⟩, dn, tr⟩) (hm0 : msgOk ⟨fr2, to2, kd2, nm2, body2⟩ = true) (hf0 : ∃ h : kk < dn.length, dn[kk].to_ = fr2 ∧ nm2 < dn[kk].nm) :
    Calls Try.prog 16 #[.agg #[.int .i64 nx, .bool wt, .int .i64 fr, .int .i64 to_, .int .i64 kd, .int .i64 nm, .slice xa body.length xk, .slice (some ⟨db, df, none⟩) dn.length dj, .int .i64 tr], .agg #[.int .i64 fr2, .int .i64 to2, .int .i64 kd2, .int .i64 nm2, .slice ya body2.length yk]] w fun e w' => RetME (fun b => D b ∨ w.heap.size ≤ b) M0 14 e w' ∧ Below w.heap.size w w' := by
  have E0 := Lib.hid ((((Env.start D w).arg (.bs (.slice xa body.length xk) body) hx).arg (.ms (.slice (some ⟨db, df, none⟩) dn.length dj) dn) hy).arg (.bs (.slice ya body2.length yk) body2) hz)
  clear hx hy hz
  go_enter Try.func16, Try.ntmps16
  have hS := Lib.hid hS0
  clear hS0
  have hm := Lib.hid hm0
  clear hm0
  have hf := Lib.hid hf0
  clear hf0
  obtain ⟨hk, hto9, hcd9⟩ := hf.out
  have hto := Lib.hid hto9
  have hcd := Lib.hid hcd9
  clear hto9 hcd9
  have hA := Lib.hid (asc_of hS.out.2.2.2)
  have a3 : dn.length ≤ 1000 := hS.out.1.2.2
  go_wp2_with fail
  have E1 := Lib.hid ((((E0.out.push 27 [.int .i64 nx, .bool wt, .int .i64 fr, .int .i64 to_, .int .i64 kd, .int .i64 nm, .slice xa body.length xk, .slice (some ⟨db, df, none⟩) dn.length dj, .int .i64 tr] (w.heap.size) (by simp)).push 24 [.int .i64 fr2, .int .i64 to2, .int .i64 kd2, .int .i64 nm2, .slice ya body2.length yk] (w.heap.size + 1) (by simp)).push 24 [.int .i64 0, .int .i64 0, .int .i64 0, .int .i64 0, .slice none 0 0] (w.heap.size + 1 + 1) (by simp)))
  refine (rValid_t (S := ⟨nx, wt, ⟨fr, to_, kd, nm, body⟩, dn, tr⟩) hS.out (E1.out.fc 2 rfl) (E1.out.fc 1 rfl)).mono ?_
  rintro e w1 ⟨rfl, hb⟩
  have E2 := Lib.hid (E1.out.below hb)
  clear E0 E1 hb
  have b1 := E2.out.bx 1 rfl
  have c1_0 := b1.cell 0 rfl
  have c1_1 := b1.cell 1 rfl
  have c1_2 := b1.cell 2 rfl
  have c1_3 := b1.cell 3 rfl
  have c1_4 := b1.cell 4 rfl
  clear b1
  go_wp2_with fail
  refine (rMessage_v ⟨fr2, to2, kd2, nm2, body2⟩ hm.out _ _ _).mono ?_
  rintro e w2 ⟨rfl, hb⟩
  have E3 := Lib.hid (E2.out.below hb)
  clear c1_0 c1_1 c1_2 c1_3 c1_4 E2 hb
  have b2 := E3.out.bx 2 rfl
  have c2_0 := b2.cell 0 rfl
  have c2_1 := b2.cell 1 rfl
  have c2_2 := b2.cell 2 rfl
  have c2_3 := b2.cell 3 rfl
  have c2_4 := b2.cell 4 rfl
  have c2_5 := b2.cell 5 rfl
  have c2_6 := b2.cell 6 rfl
  have c2_7 := b2.cell 7 rfl
  have c2_8 := b2.cell 8 rfl
  clear b2
  have b3 := E3.out.bx 1 rfl
  have c3_0 := b3.cell 0 rfl
  clear b3
  go_wp2_with fail
  refine (rfind_a (S := ⟨nx, wt, ⟨fr, to_, kd, nm, body⟩, dn, tr⟩) hS.out ⟨hk, hto.out⟩ (E3.out.fc 1 rfl)).mono ?_
  rintro e w3 ⟨rfl, hb⟩
  have E4 := Lib.hid (E3.out.below hb)
  clear c2_0 c2_1 c2_2 c2_3 c2_4 c2_5 c2_6 c2_7 c2_8 c3_0 E3 hb
  have t1 : decide (dn[kk].nm < nm2) = false := decide_eq_false (by have := hcd.out; omega)
  have t2 : decide (nm2 < dn[kk].nm) = true := decide_eq_true (by have := hcd.out; omega)
  have t0 : decide ((kk : Int) < 0) = false := decide_eq_false (by omega)
  obtain ⟨ua, uk, E50⟩ := E4.out.els 1 rfl (kk) hk
  have E5 : Hid (Env D w [(w.heap.size + 1 + 1, 24, [.int .i64 0, .int .i64 0, .int .i64 0, .int .i64 0, .slice none 0 0]), (w.heap.size + 1, 24, [.int .i64 fr2, .int .i64 to2, .int .i64 kd2, .int .i64 nm2, .slice ya body2.length yk]), (w.heap.size, 27, [.int .i64 nx, .bool wt, .int .i64 fr, .int .i64 to_, .int .i64 kd, .int .i64 nm, .slice xa body.length xk, .slice (some ⟨db, df, none⟩) dn.length dj, .int .i64 tr])] [.ce db (df + kk * 5) (.int .i64 dn[kk].fr), .ce db (df + kk * 5 + 1) (.int .i64 dn[kk].to_), .ce db (df + kk * 5 + 2) (.int .i64 dn[kk].kd), .ce db (df + kk * 5 + 3) (.int .i64 dn[kk].nm), .ce db (df + kk * 5 + 4) (.slice ua dn[kk].body.length uk), .bs (.slice ua dn[kk].body.length uk) dn[kk].body, .bs (.slice ya body2.length yk) body2, .ms (.slice (some ⟨db, df, none⟩) dn.length dj) dn, .bs (.slice xa body.length xk) body] _) := Lib.hid E50
  clear E50 E4
  go_wp2_with fail
  have E6 := Lib.hid E5.out.drew
  clear E5
  refine wp_region_held_drew (S := fun w' => w'.cell? ⟨w.heap.size, 7, none⟩ = some (.slice (some ⟨db, df, none⟩) dn.length dj) ∧ w'.cell? ⟨w.heap.size + 1, 3, none⟩ = some (.int .i64 nm2) ∧ w'.cell? ⟨db, df + kk * 5 + 3, none⟩ = some (.int .i64 dn[kk].nm)) (by kernel_rfl) (⟨((E6.out.bx 2 rfl).cell 7 rfl), ((E6.out.bx 1 rfl).cell 3 rfl), (E6.out.fc 3 rfl).2⟩) (fun hHeld => ?_)
  generalize w3.drew = w4 at *
  refine takeW (i := 0) (some 20) (v := ?_) rfl rfl (by kernel_rfl) (by kernel_rfl) (by kernel_rfl) (fun _ _ _ h => h) (by rfl) (by assumption) ?_ ?_
  rotate_left
  · (intro wS hSw; (try dsimp only at hSw); go_simp; try with_reducible rfl)
  try simp only [Act.put, List.setIfInBounds_toArray, List.set_cons_zero, List.set_cons_succ]
  refine takeW (i := 1) (some 21) (v := .bool false) rfl rfl (by kernel_rfl) (by kernel_rfl) (by kernel_rfl) (fun _ _ _ h => h) (by rfl) (by assumption) ?_ ?_
  · (intro wS hSw; (try dsimp only at hSw); go_simp; (try simp))
  try simp only [Act.put, List.setIfInBounds_toArray, List.set_cons_zero, List.set_cons_succ]
  refine takeW (i := 2) (some 22) (v := ?_) rfl rfl (by kernel_rfl) (by kernel_rfl) (by kernel_rfl) (fun _ _ _ h => h) (by rfl) (by assumption) ?_ ?_
  rotate_left
  · (intro wS hSw; (try dsimp only at hSw); go_simp; try with_reducible rfl)
  try simp only [Act.put, List.setIfInBounds_toArray, List.set_cons_zero, List.set_cons_succ]
  refine takeW (i := 3) (some 23) (v := ?_) rfl rfl (by kernel_rfl) (by kernel_rfl) (by kernel_rfl) (fun _ _ _ h => h) (by rfl) (by assumption) ?_ ?_
  rotate_left
  · (intro wS hSw; (try dsimp only at hSw); go_simp; try with_reducible rfl)
  try simp only [Act.put, List.setIfInBounds_toArray, List.set_cons_zero, List.set_cons_succ]
  refine takeW (i := 4) (some 24) (v := ?_) rfl rfl (by kernel_rfl) (by kernel_rfl) (by kernel_rfl) (fun _ _ _ h => h) (by rfl) (by assumption) ?_ ?_
  rotate_left
  · (intro wS hSw; (try dsimp only at hSw); go_simp; try with_reducible rfl)
  try simp only [Act.put, List.setIfInBounds_toArray, List.set_cons_zero, List.set_cons_succ]
  refine takeW (i := 5) (some 25) (v := ?_) rfl rfl (by kernel_rfl) (by kernel_rfl) (by kernel_rfl) (fun _ _ _ h => h) (by rfl) (by assumption) ?_ ?_
  rotate_left
  · (intro wS hSw; (try dsimp only at hSw); go_simp; try with_reducible rfl)
  try simp only [Act.put, List.setIfInBounds_toArray, List.set_cons_zero, List.set_cons_succ]
  refine takeW (i := 6) (some 26) (v := ?_) rfl rfl (by kernel_rfl) (by kernel_rfl) (by kernel_rfl) (fun _ _ _ h => h) (by rfl) (by assumption) ?_ ?_
  rotate_left
  · (intro wS hSw; (try dsimp only at hSw); go_simp; try with_reducible rfl)
  try simp only [Act.put, List.setIfInBounds_toArray, List.set_cons_zero, List.set_cons_succ]
  refine takeW (i := 7) (some 27) (v := ?_) rfl rfl (by kernel_rfl) (by kernel_rfl) (by kernel_rfl) (fun _ _ _ h => h) (by rfl) (by assumption) ?_ ?_
  rotate_left
  · (intro wS hSw; (try dsimp only at hSw); go_simp; try with_reducible rfl)
  try simp only [Act.put, List.setIfInBounds_toArray, List.set_cons_zero, List.set_cons_succ]
  refine takeW (i := 8) (some 28) (v := ?_) rfl rfl (by kernel_rfl) (by kernel_rfl) (by kernel_rfl) (fun _ _ _ h => h) (by rfl) (by assumption) ?_ ?_
  rotate_left
  · (intro wS hSw; (try dsimp only at hSw); go_simp; try with_reducible rfl)
  try simp only [Act.put, List.setIfInBounds_toArray, List.set_cons_zero, List.set_cons_succ]
  refine takeW (i := 9) (some 29) (v := ?_) rfl rfl (by kernel_rfl) (by kernel_rfl) (by kernel_rfl) (fun _ _ _ h => h) (by rfl) (by assumption) ?_ ?_
  rotate_left
  · (intro wS hSw; (try dsimp only at hSw); go_simp; try with_reducible rfl)
  try simp only [Act.put, List.setIfInBounds_toArray, List.set_cons_zero, List.set_cons_succ]
  refine takeW (i := 10) (some 30) (v := ?_) rfl rfl (by kernel_rfl) (by kernel_rfl) (by kernel_rfl) (fun _ _ _ h => h) (by rfl) (by assumption) ?_ ?_
  rotate_left
  · (intro wS hSw; (try dsimp only at hSw); go_simp; try with_reducible rfl)
  try simp only [Act.put, List.setIfInBounds_toArray, List.set_cons_zero, List.set_cons_succ]
  refine takeW (i := 11) (some 31) (v := ?_) rfl rfl (by kernel_rfl) (by kernel_rfl) (by kernel_rfl) (fun _ _ _ h => h) (by rfl) (by assumption) ?_ ?_
  rotate_left
  · (intro wS hSw; (try dsimp only at hSw); go_simp; try with_reducible rfl)
  try simp only [Act.put, List.setIfInBounds_toArray, List.set_cons_zero, List.set_cons_succ]
  refine takeW (i := 12) (some 32) (v := ?_) rfl rfl (by kernel_rfl) (by kernel_rfl) (by kernel_rfl) (fun _ _ _ h => h) (by rfl) (by assumption) ?_ ?_
  rotate_left
  · (intro wS hSw; (try dsimp only at hSw); go_simp; try with_reducible rfl)
  try simp only [Act.put, List.setIfInBounds_toArray, List.set_cons_zero, List.set_cons_succ]
  refine wpAnyH_done (by kernel_rfl) ?_ _
  go_wp2_with fail
  have E7 := Lib.hid E6.out.drew
  clear E6
  refine wp_region_held_drew (S := fun w' => w'.cell? ⟨w.heap.size, 7, none⟩ = some (.slice (some ⟨db, df, none⟩) dn.length dj) ∧ w'.cell? ⟨w.heap.size + 1, 3, none⟩ = some (.int .i64 nm2) ∧ w'.cell? ⟨db, df + kk * 5 + 3, none⟩ = some (.int .i64 dn[kk].nm)) (by kernel_rfl) (⟨((E7.out.bx 2 rfl).cell 7 rfl), ((E7.out.bx 1 rfl).cell 3 rfl), (E7.out.fc 3 rfl).2⟩) (fun hHeld => ?_)
  generalize w4.drew = w5 at *
  refine takeW (i := 0) (some 34) (v := ?_) rfl rfl (by kernel_rfl) (by kernel_rfl) (by kernel_rfl) (fun _ _ _ h => h) (by rfl) (by assumption) ?_ ?_
  rotate_left
  · (intro wS hSw; (try dsimp only at hSw); go_simp; try with_reducible rfl)
  try simp only [Act.put, List.setIfInBounds_toArray, List.set_cons_zero, List.set_cons_succ]
  refine takeW (i := 1) (some 35) (v := ?_) rfl rfl (by kernel_rfl) (by kernel_rfl) (by kernel_rfl) (fun _ _ _ h => h) (by rfl) (by assumption) ?_ ?_
  rotate_left
  · (intro wS hSw; (try dsimp only at hSw); go_simp; try with_reducible rfl)
  try simp only [Act.put, List.setIfInBounds_toArray, List.set_cons_zero, List.set_cons_succ]
  refine takeW (i := 2) (some 36) (v := ?_) rfl rfl (by kernel_rfl) (by kernel_rfl) (by kernel_rfl) (fun _ _ _ h => h) (by rfl) (by assumption) ?_ ?_
  rotate_left
  · (intro wS hSw; (try dsimp only at hSw); go_simp; try with_reducible rfl)
  try simp only [Act.put, List.setIfInBounds_toArray, List.set_cons_zero, List.set_cons_succ]
  refine takeW (i := 3) (some 37) (v := ?_) rfl rfl (by kernel_rfl) (by kernel_rfl) (by kernel_rfl) (fun _ _ _ h => h) (by rfl) (by assumption) ?_ ?_
  rotate_left
  · (intro wS hSw; (try dsimp only at hSw); go_simp; try with_reducible rfl)
  try simp only [Act.put, List.setIfInBounds_toArray, List.set_cons_zero, List.set_cons_succ]
  refine takeW (i := 4) (some 38) (v := ?_) rfl rfl (by kernel_rfl) (by kernel_rfl) (by kernel_rfl) (fun _ _ _ h => h) (by rfl) (by assumption) ?_ ?_
  rotate_left
  · (intro wS hSw; (try dsimp only at hSw); go_simp; try with_reducible rfl)
  try simp only [Act.put, List.setIfInBounds_toArray, List.set_cons_zero, List.set_cons_succ]
  refine takeW (i := 5) (some 39) (v := ?_) rfl rfl (by kernel_rfl) (by kernel_rfl) (by kernel_rfl) (fun _ _ _ h => h) (by rfl) (by assumption) ?_ ?_
  rotate_left
  · (intro wS hSw; (try dsimp only at hSw); go_simp; try with_reducible rfl)
  try simp only [Act.put, List.setIfInBounds_toArray, List.set_cons_zero, List.set_cons_succ]
  refine takeW (i := 6) (some 40) (v := ?_) rfl rfl (by kernel_rfl) (by kernel_rfl) (by kernel_rfl) (fun _ _ _ h => h) (by rfl) (by assumption) ?_ ?_
  rotate_left
  · (intro wS hSw; (try dsimp only at hSw); go_simp; try with_reducible rfl)
  try simp only [Act.put, List.setIfInBounds_toArray, List.set_cons_zero, List.set_cons_succ]
  refine takeW (i := 7) (some 41) (v := ?_) rfl rfl (by kernel_rfl) (by kernel_rfl) (by kernel_rfl) (fun _ _ _ h => h) (by rfl) (by assumption) ?_ ?_
  rotate_left
  · (intro wS hSw; (try dsimp only at hSw); go_simp; try with_reducible rfl)
  try simp only [Act.put, List.setIfInBounds_toArray, List.set_cons_zero, List.set_cons_succ]
  refine takeW (i := 8) (some 42) (v := ?_) rfl rfl (by kernel_rfl) (by kernel_rfl) (by kernel_rfl) (fun _ _ _ h => h) (by rfl) (by assumption) ?_ ?_
  rotate_left
  · (intro wS hSw; (try dsimp only at hSw); go_simp; try with_reducible rfl)
  try simp only [Act.put, List.setIfInBounds_toArray, List.set_cons_zero, List.set_cons_succ]
  refine wpAnyH_done (by kernel_rfl) ?_ _
  have b4 := E7.out.bx 0 rfl
  have c4_0 := b4.cell 0 rfl
  have c4_1 := b4.cell 1 rfl
  have c4_2 := b4.cell 2 rfl
  have c4_3 := b4.cell 3 rfl
  have c4_4 := b4.cell 4 rfl
  have f4_0 := b4.frozen 0
  have f4_1 := b4.frozen 1
  have f4_2 := b4.frozen 2
  have f4_3 := b4.frozen 3
  have f4_4 := b4.frozen 4
  clear b4
  go_wp2
  have E8 : Hid (Env D w [(w.heap.size + 1 + 1, 24, [.int .i64 0, .int .i64 0, .int .i64 0, .int .i64 0, .slice none 0 0]), (w.heap.size + 1, 24, [.int .i64 fr2, .int .i64 to2, .int .i64 kd2, .int .i64 nm2, .slice ya body2.length yk]), (w.heap.size, 27, [.int .i64 nx, .bool wt, .int .i64 fr, .int .i64 to_, .int .i64 kd, .int .i64 nm, .slice xa body.length xk, .slice (some ⟨db, df, none⟩) dn.length dj, .int .i64 tr])] [.ce db (df + kk * 5) (.int .i64 dn[kk].fr), .ce db (df + kk * 5 + 1) (.int .i64 dn[kk].to_), .ce db (df + kk * 5 + 2) (.int .i64 dn[kk].kd), .ce db (df + kk * 5 + 3) (.int .i64 dn[kk].nm), .ce db (df + kk * 5 + 4) (.slice ua dn[kk].body.length uk), .bs (.slice ua dn[kk].body.length uk) dn[kk].body, .bs (.slice ya body2.length yk) body2, .ms (.slice (some ⟨db, df, none⟩) dn.length dj) dn, .bs (.slice xa body.length xk) body] _) := Lib.hid ((((((E7.out.set 0 0 (.int .i64 0) rfl).set 0 1 (.int .i64 0) rfl).set 0 2 (.int .i64 0) rfl).set 0 3 (.int .i64 0) rfl).set 0 4 (.slice none 0 0) rfl))
  have hfin := E8.out
  have q5 := (hfin.bx 0 rfl).cell 0 rfl
  have q6 := (hfin.bx 0 rfl).cell 1 rfl
  have q7 := (hfin.bx 0 rfl).cell 2 rfl
  have q8 := (hfin.bx 0 rfl).cell 3 rfl
  have q9 := (hfin.bx 0 rfl).cell 4 rfl
  exact bodyPost_ret (v := .tuple #[.agg #[.int .i64 0, .int .i64 0, .int .i64 0, .int .i64 0, .slice none 0 0], .int .i64 14]) (by simp [results, Try.results16, go_sem, q5, q6, q7, q8, q9]) rfl ⟨⟨none, 0, rfl, Lib.hid (Bs.nil _ _)⟩, hfin.bel⟩
set_option maxRecDepth 100000 in
set_option maxHeartbeats 1000000 in
theorem rKnown_ok {D : Nat → Prop} (nx fr to_ kd nm tr : Int) (wt : Bool) (body : List Nat) (dn : List Msg) {xa : Option Addr} {xk : Nat} {db df dj : Nat} (fr2 to2 kd2 nm2 : Int) (body2 : List Nat) {ya : Option Addr} {yk : Nat} (kk : Nat) {w : World} (hx : Fct.at w D (.bs (.slice xa body.length xk) body)) (hy : Fct.at w D (.ms (.slice (some ⟨db, df, none⟩) dn.length dj) dn)) (hz : Fct.at w D (.bs (.slice ya body2.length yk) body2)) (hS0 : SesOk ⟨nx, wt, ⟨fr, to_, kd, nm, body⟩, dn, tr⟩) (hm0 : msgOk ⟨fr2, to2, kd2, nm2, body2⟩ = true) (hf0 : ∃ h : kk < dn.length, dn[kk].to_ = fr2 ∧ dn[kk].nm = nm2) :
    Calls Try.prog 16 #[.agg #[.int .i64 nx, .bool wt, .int .i64 fr, .int .i64 to_, .int .i64 kd, .int .i64 nm, .slice xa body.length xk, .slice (some ⟨db, df, none⟩) dn.length dj, .int .i64 tr], .agg #[.int .i64 fr2, .int .i64 to2, .int .i64 kd2, .int .i64 nm2, .slice ya body2.length yk]] w fun e w' => RetME (fun b => D b ∨ w.heap.size ≤ b) (dn.getD kk M0) 0 e w' ∧ Below w.heap.size w w' := by
  have E0 := Lib.hid ((((Env.start D w).arg (.bs (.slice xa body.length xk) body) hx).arg (.ms (.slice (some ⟨db, df, none⟩) dn.length dj) dn) hy).arg (.bs (.slice ya body2.length yk) body2) hz)
  clear hx hy hz
  go_enter Try.func16, Try.ntmps16
  have hS := Lib.hid hS0
  clear hS0
  have hm := Lib.hid hm0
  clear hm0
  have hf := Lib.hid hf0
  clear hf0
  obtain ⟨hk, hto9, hcd9⟩ := hf.out
  have hto := Lib.hid hto9
  have hcd := Lib.hid hcd9
  clear hto9 hcd9
  have hA := Lib.hid (asc_of hS.out.2.2.2)
  have a3 : dn.length ≤ 1000 := hS.out.1.2.2
  go_wp2_with fail
  have E1 := Lib.hid ((((E0.out.push 27 [.int .i64 nx, .bool wt, .int .i64 fr, .int .i64 to_, .int .i64 kd, .int .i64 nm, .slice xa body.length xk, .slice (some ⟨db, df, none⟩) dn.length dj, .int .i64 tr] (w.heap.size) (by simp)).push 24 [.int .i64 fr2, .int .i64 to2, .int .i64 kd2, .int .i64 nm2, .slice ya body2.length yk] (w.heap.size + 1) (by simp)).push 24 [.int .i64 0, .int .i64 0, .int .i64 0, .int .i64 0, .slice none 0 0] (w.heap.size + 1 + 1) (by simp)))
  refine (rValid_t (S := ⟨nx, wt, ⟨fr, to_, kd, nm, body⟩, dn, tr⟩) hS.out (E1.out.fc 2 rfl) (E1.out.fc 1 rfl)).mono ?_
  rintro e w1 ⟨rfl, hb⟩
  have E2 := Lib.hid (E1.out.below hb)
  clear E0 E1 hb
  have b1 := E2.out.bx 1 rfl
  have c1_0 := b1.cell 0 rfl
  have c1_1 := b1.cell 1 rfl
  have c1_2 := b1.cell 2 rfl
  have c1_3 := b1.cell 3 rfl
  have c1_4 := b1.cell 4 rfl
  clear b1
  go_wp2_with fail
  refine (rMessage_v ⟨fr2, to2, kd2, nm2, body2⟩ hm.out _ _ _).mono ?_
  rintro e w2 ⟨rfl, hb⟩
  have E3 := Lib.hid (E2.out.below hb)
  clear c1_0 c1_1 c1_2 c1_3 c1_4 E2 hb
  have b2 := E3.out.bx 2 rfl
  have c2_0 := b2.cell 0 rfl
  have c2_1 := b2.cell 1 rfl
  have c2_2 := b2.cell 2 rfl
  have c2_3 := b2.cell 3 rfl
  have c2_4 := b2.cell 4 rfl
  have c2_5 := b2.cell 5 rfl
  have c2_6 := b2.cell 6 rfl
  have c2_7 := b2.cell 7 rfl
  have c2_8 := b2.cell 8 rfl
  clear b2
  have b3 := E3.out.bx 1 rfl
  have c3_0 := b3.cell 0 rfl
  clear b3
  go_wp2_with fail
  refine (rfind_a (S := ⟨nx, wt, ⟨fr, to_, kd, nm, body⟩, dn, tr⟩) hS.out ⟨hk, hto.out⟩ (E3.out.fc 1 rfl)).mono ?_
  rintro e w3 ⟨rfl, hb⟩
  have E4 := Lib.hid (E3.out.below hb)
  clear c2_0 c2_1 c2_2 c2_3 c2_4 c2_5 c2_6 c2_7 c2_8 c3_0 E3 hb
  have t1 : decide (dn[kk].nm < nm2) = false := decide_eq_false (by have := hcd.out; omega)
  have t2 : decide (nm2 < dn[kk].nm) = false := decide_eq_false (by have := hcd.out; omega)
  have t0 : decide ((kk : Int) < 0) = false := decide_eq_false (by omega)
  obtain ⟨ua, uk, E50⟩ := E4.out.els 1 rfl (kk) hk
  have E5 : Hid (Env D w [(w.heap.size + 1 + 1, 24, [.int .i64 0, .int .i64 0, .int .i64 0, .int .i64 0, .slice none 0 0]), (w.heap.size + 1, 24, [.int .i64 fr2, .int .i64 to2, .int .i64 kd2, .int .i64 nm2, .slice ya body2.length yk]), (w.heap.size, 27, [.int .i64 nx, .bool wt, .int .i64 fr, .int .i64 to_, .int .i64 kd, .int .i64 nm, .slice xa body.length xk, .slice (some ⟨db, df, none⟩) dn.length dj, .int .i64 tr])] [.ce db (df + kk * 5) (.int .i64 dn[kk].fr), .ce db (df + kk * 5 + 1) (.int .i64 dn[kk].to_), .ce db (df + kk * 5 + 2) (.int .i64 dn[kk].kd), .ce db (df + kk * 5 + 3) (.int .i64 dn[kk].nm), .ce db (df + kk * 5 + 4) (.slice ua dn[kk].body.length uk), .bs (.slice ua dn[kk].body.length uk) dn[kk].body, .bs (.slice ya body2.length yk) body2, .ms (.slice (some ⟨db, df, none⟩) dn.length dj) dn, .bs (.slice xa body.length xk) body] _) := Lib.hid E50
  clear E50 E4
  go_wp2_with fail
  have E6 := Lib.hid E5.out.drew
  clear E5
  refine wp_region_held_drew (S := fun w' => w'.cell? ⟨w.heap.size, 7, none⟩ = some (.slice (some ⟨db, df, none⟩) dn.length dj) ∧ w'.cell? ⟨w.heap.size + 1, 3, none⟩ = some (.int .i64 nm2) ∧ w'.cell? ⟨db, df + kk * 5 + 3, none⟩ = some (.int .i64 dn[kk].nm)) (by kernel_rfl) (⟨((E6.out.bx 2 rfl).cell 7 rfl), ((E6.out.bx 1 rfl).cell 3 rfl), (E6.out.fc 3 rfl).2⟩) (fun hHeld => ?_)
  generalize w3.drew = w4 at *
  refine takeW (i := 0) (some 20) (v := ?_) rfl rfl (by kernel_rfl) (by kernel_rfl) (by kernel_rfl) (fun _ _ _ h => h) (by rfl) (by assumption) ?_ ?_
  rotate_left
  · (intro wS hSw; (try dsimp only at hSw); go_simp; try with_reducible rfl)
  try simp only [Act.put, List.setIfInBounds_toArray, List.set_cons_zero, List.set_cons_succ]
  refine takeW (i := 1) (some 21) (v := .bool false) rfl rfl (by kernel_rfl) (by kernel_rfl) (by kernel_rfl) (fun _ _ _ h => h) (by rfl) (by assumption) ?_ ?_
  · (intro wS hSw; (try dsimp only at hSw); go_simp; (try simp))
  try simp only [Act.put, List.setIfInBounds_toArray, List.set_cons_zero, List.set_cons_succ]
  refine takeW (i := 2) (some 22) (v := ?_) rfl rfl (by kernel_rfl) (by kernel_rfl) (by kernel_rfl) (fun _ _ _ h => h) (by rfl) (by assumption) ?_ ?_
  rotate_left
  · (intro wS hSw; (try dsimp only at hSw); go_simp; try with_reducible rfl)
  try simp only [Act.put, List.setIfInBounds_toArray, List.set_cons_zero, List.set_cons_succ]
  refine takeW (i := 3) (some 23) (v := ?_) rfl rfl (by kernel_rfl) (by kernel_rfl) (by kernel_rfl) (fun _ _ _ h => h) (by rfl) (by assumption) ?_ ?_
  rotate_left
  · (intro wS hSw; (try dsimp only at hSw); go_simp; try with_reducible rfl)
  try simp only [Act.put, List.setIfInBounds_toArray, List.set_cons_zero, List.set_cons_succ]
  refine takeW (i := 4) (some 24) (v := ?_) rfl rfl (by kernel_rfl) (by kernel_rfl) (by kernel_rfl) (fun _ _ _ h => h) (by rfl) (by assumption) ?_ ?_
  rotate_left
  · (intro wS hSw; (try dsimp only at hSw); go_simp; try with_reducible rfl)
  try simp only [Act.put, List.setIfInBounds_toArray, List.set_cons_zero, List.set_cons_succ]
  refine takeW (i := 5) (some 25) (v := ?_) rfl rfl (by kernel_rfl) (by kernel_rfl) (by kernel_rfl) (fun _ _ _ h => h) (by rfl) (by assumption) ?_ ?_
  rotate_left
  · (intro wS hSw; (try dsimp only at hSw); go_simp; try with_reducible rfl)
  try simp only [Act.put, List.setIfInBounds_toArray, List.set_cons_zero, List.set_cons_succ]
  refine takeW (i := 6) (some 26) (v := ?_) rfl rfl (by kernel_rfl) (by kernel_rfl) (by kernel_rfl) (fun _ _ _ h => h) (by rfl) (by assumption) ?_ ?_
  rotate_left
  · (intro wS hSw; (try dsimp only at hSw); go_simp; try with_reducible rfl)
  try simp only [Act.put, List.setIfInBounds_toArray, List.set_cons_zero, List.set_cons_succ]
  refine takeW (i := 7) (some 27) (v := ?_) rfl rfl (by kernel_rfl) (by kernel_rfl) (by kernel_rfl) (fun _ _ _ h => h) (by rfl) (by assumption) ?_ ?_
  rotate_left
  · (intro wS hSw; (try dsimp only at hSw); go_simp; try with_reducible rfl)
  try simp only [Act.put, List.setIfInBounds_toArray, List.set_cons_zero, List.set_cons_succ]
  refine takeW (i := 8) (some 28) (v := ?_) rfl rfl (by kernel_rfl) (by kernel_rfl) (by kernel_rfl) (fun _ _ _ h => h) (by rfl) (by assumption) ?_ ?_
  rotate_left
  · (intro wS hSw; (try dsimp only at hSw); go_simp; try with_reducible rfl)
  try simp only [Act.put, List.setIfInBounds_toArray, List.set_cons_zero, List.set_cons_succ]
  refine takeW (i := 9) (some 29) (v := ?_) rfl rfl (by kernel_rfl) (by kernel_rfl) (by kernel_rfl) (fun _ _ _ h => h) (by rfl) (by assumption) ?_ ?_
  rotate_left
  · (intro wS hSw; (try dsimp only at hSw); go_simp; try with_reducible rfl)
  try simp only [Act.put, List.setIfInBounds_toArray, List.set_cons_zero, List.set_cons_succ]
  refine takeW (i := 10) (some 30) (v := ?_) rfl rfl (by kernel_rfl) (by kernel_rfl) (by kernel_rfl) (fun _ _ _ h => h) (by rfl) (by assumption) ?_ ?_
  rotate_left
  · (intro wS hSw; (try dsimp only at hSw); go_simp; try with_reducible rfl)
  try simp only [Act.put, List.setIfInBounds_toArray, List.set_cons_zero, List.set_cons_succ]
  refine takeW (i := 11) (some 31) (v := ?_) rfl rfl (by kernel_rfl) (by kernel_rfl) (by kernel_rfl) (fun _ _ _ h => h) (by rfl) (by assumption) ?_ ?_
  rotate_left
  · (intro wS hSw; (try dsimp only at hSw); go_simp; try with_reducible rfl)
  try simp only [Act.put, List.setIfInBounds_toArray, List.set_cons_zero, List.set_cons_succ]
  refine takeW (i := 12) (some 32) (v := ?_) rfl rfl (by kernel_rfl) (by kernel_rfl) (by kernel_rfl) (fun _ _ _ h => h) (by rfl) (by assumption) ?_ ?_
  rotate_left
  · (intro wS hSw; (try dsimp only at hSw); go_simp; try with_reducible rfl)
  try simp only [Act.put, List.setIfInBounds_toArray, List.set_cons_zero, List.set_cons_succ]
  refine wpAnyH_done (by kernel_rfl) ?_ _
  go_wp2_with fail
  have E7 := Lib.hid E6.out.drew
  clear E6
  refine wp_region_held_drew (S := fun w' => w'.cell? ⟨w.heap.size, 7, none⟩ = some (.slice (some ⟨db, df, none⟩) dn.length dj) ∧ w'.cell? ⟨w.heap.size + 1, 3, none⟩ = some (.int .i64 nm2) ∧ w'.cell? ⟨db, df + kk * 5 + 3, none⟩ = some (.int .i64 dn[kk].nm)) (by kernel_rfl) (⟨((E7.out.bx 2 rfl).cell 7 rfl), ((E7.out.bx 1 rfl).cell 3 rfl), (E7.out.fc 3 rfl).2⟩) (fun hHeld => ?_)
  generalize w4.drew = w5 at *
  refine takeW (i := 0) (some 34) (v := ?_) rfl rfl (by kernel_rfl) (by kernel_rfl) (by kernel_rfl) (fun _ _ _ h => h) (by rfl) (by assumption) ?_ ?_
  rotate_left
  · (intro wS hSw; (try dsimp only at hSw); go_simp; try with_reducible rfl)
  try simp only [Act.put, List.setIfInBounds_toArray, List.set_cons_zero, List.set_cons_succ]
  refine takeW (i := 1) (some 35) (v := ?_) rfl rfl (by kernel_rfl) (by kernel_rfl) (by kernel_rfl) (fun _ _ _ h => h) (by rfl) (by assumption) ?_ ?_
  rotate_left
  · (intro wS hSw; (try dsimp only at hSw); go_simp; try with_reducible rfl)
  try simp only [Act.put, List.setIfInBounds_toArray, List.set_cons_zero, List.set_cons_succ]
  refine takeW (i := 2) (some 36) (v := ?_) rfl rfl (by kernel_rfl) (by kernel_rfl) (by kernel_rfl) (fun _ _ _ h => h) (by rfl) (by assumption) ?_ ?_
  rotate_left
  · (intro wS hSw; (try dsimp only at hSw); go_simp; try with_reducible rfl)
  try simp only [Act.put, List.setIfInBounds_toArray, List.set_cons_zero, List.set_cons_succ]
  refine takeW (i := 3) (some 37) (v := ?_) rfl rfl (by kernel_rfl) (by kernel_rfl) (by kernel_rfl) (fun _ _ _ h => h) (by rfl) (by assumption) ?_ ?_
  rotate_left
  · (intro wS hSw; (try dsimp only at hSw); go_simp; try with_reducible rfl)
  try simp only [Act.put, List.setIfInBounds_toArray, List.set_cons_zero, List.set_cons_succ]
  refine takeW (i := 4) (some 38) (v := ?_) rfl rfl (by kernel_rfl) (by kernel_rfl) (by kernel_rfl) (fun _ _ _ h => h) (by rfl) (by assumption) ?_ ?_
  rotate_left
  · (intro wS hSw; (try dsimp only at hSw); go_simp; try with_reducible rfl)
  try simp only [Act.put, List.setIfInBounds_toArray, List.set_cons_zero, List.set_cons_succ]
  refine takeW (i := 5) (some 39) (v := ?_) rfl rfl (by kernel_rfl) (by kernel_rfl) (by kernel_rfl) (fun _ _ _ h => h) (by rfl) (by assumption) ?_ ?_
  rotate_left
  · (intro wS hSw; (try dsimp only at hSw); go_simp; try with_reducible rfl)
  try simp only [Act.put, List.setIfInBounds_toArray, List.set_cons_zero, List.set_cons_succ]
  refine takeW (i := 6) (some 40) (v := ?_) rfl rfl (by kernel_rfl) (by kernel_rfl) (by kernel_rfl) (fun _ _ _ h => h) (by rfl) (by assumption) ?_ ?_
  rotate_left
  · (intro wS hSw; (try dsimp only at hSw); go_simp; try with_reducible rfl)
  try simp only [Act.put, List.setIfInBounds_toArray, List.set_cons_zero, List.set_cons_succ]
  refine takeW (i := 7) (some 41) (v := ?_) rfl rfl (by kernel_rfl) (by kernel_rfl) (by kernel_rfl) (fun _ _ _ h => h) (by rfl) (by assumption) ?_ ?_
  rotate_left
  · (intro wS hSw; (try dsimp only at hSw); go_simp; try with_reducible rfl)
  try simp only [Act.put, List.setIfInBounds_toArray, List.set_cons_zero, List.set_cons_succ]
  refine takeW (i := 8) (some 42) (v := ?_) rfl rfl (by kernel_rfl) (by kernel_rfl) (by kernel_rfl) (fun _ _ _ h => h) (by rfl) (by assumption) ?_ ?_
  rotate_left
  · (intro wS hSw; (try dsimp only at hSw); go_simp; try with_reducible rfl)
  try simp only [Act.put, List.setIfInBounds_toArray, List.set_cons_zero, List.set_cons_succ]
  refine wpAnyH_done (by kernel_rfl) ?_ _
  have u0 := (E7.out.fc 0 rfl).2
  have u1 := (E7.out.fc 1 rfl).2
  have u2 := (E7.out.fc 2 rfl).2
  have u3 := (E7.out.fc 3 rfl).2
  have u4 := (E7.out.fc 4 rfl).2
  have b4 := E7.out.bx 2 rfl
  have c4_7 := b4.cell 7 rfl
  clear b4
  have b5 := E7.out.bx 0 rfl
  have c5_0 := b5.cell 0 rfl
  have c5_1 := b5.cell 1 rfl
  have c5_2 := b5.cell 2 rfl
  have c5_3 := b5.cell 3 rfl
  have c5_4 := b5.cell 4 rfl
  have f5_0 := b5.frozen 0
  have f5_1 := b5.frozen 1
  have f5_2 := b5.frozen 2
  have f5_3 := b5.frozen 3
  have f5_4 := b5.frozen 4
  clear b5
  have hgd : dn.getD kk M0 = dn[kk] := by simp [hk]
  go_wp2
  have E8 : Hid (Env D w [(w.heap.size + 1 + 1, 24, [.int .i64 dn[kk].fr, .int .i64 dn[kk].to_, .int .i64 dn[kk].kd, .int .i64 dn[kk].nm, .slice ua dn[kk].body.length uk]), (w.heap.size + 1, 24, [.int .i64 fr2, .int .i64 to2, .int .i64 kd2, .int .i64 nm2, .slice ya body2.length yk]), (w.heap.size, 27, [.int .i64 nx, .bool wt, .int .i64 fr, .int .i64 to_, .int .i64 kd, .int .i64 nm, .slice xa body.length xk, .slice (some ⟨db, df, none⟩) dn.length dj, .int .i64 tr])] [.ce db (df + kk * 5) (.int .i64 dn[kk].fr), .ce db (df + kk * 5 + 1) (.int .i64 dn[kk].to_), .ce db (df + kk * 5 + 2) (.int .i64 dn[kk].kd), .ce db (df + kk * 5 + 3) (.int .i64 dn[kk].nm), .ce db (df + kk * 5 + 4) (.slice ua dn[kk].body.length uk), .bs (.slice ua dn[kk].body.length uk) dn[kk].body, .bs (.slice ya body2.length yk) body2, .ms (.slice (some ⟨db, df, none⟩) dn.length dj) dn, .bs (.slice xa body.length xk) body] _) := Lib.hid ((((((E7.out.set 0 0 (.int .i64 dn[kk].fr) rfl).set 0 1 (.int .i64 dn[kk].to_) rfl).set 0 2 (.int .i64 dn[kk].kd) rfl).set 0 3 (.int .i64 dn[kk].nm) rfl).set 0 4 (.slice ua dn[kk].body.length uk) rfl))
  have hfin := E8.out
  have q6 := (hfin.bx 0 rfl).cell 0 rfl
  have q7 := (hfin.bx 0 rfl).cell 1 rfl
  have q8 := (hfin.bx 0 rfl).cell 2 rfl
  have q9 := (hfin.bx 0 rfl).cell 3 rfl
  have q10 := (hfin.bx 0 rfl).cell 4 rfl
  exact bodyPost_ret (v := .tuple #[.agg #[.int .i64 dn[kk].fr, .int .i64 dn[kk].to_, .int .i64 dn[kk].kd, .int .i64 dn[kk].nm, .slice ua dn[kk].body.length uk], .int .i64 0]) (by simp [results, Try.results16, go_sem, q6, q7, q8, q9, q10]) rfl ⟨by rw [hgd]; exact ⟨_, _, rfl, (Lib.hid (hfin.out 5 rfl))⟩, hfin.bel⟩
end Go.Proofs.Ytbcfcdcomboljaa

/- session: Ask, Again, Accept. -/
import Derived.Test.YtbcfcdcomboljaaSesY
import Derived.Test.YtbcfcdcomboljaaSesVz
import Derived.Test.YtbcfcdcomboljaaSesW
namespace Go.Proofs.Ytbcfcdcomboljaa
open Go.RowKit
set_option linter.unusedVariables false
theorem SesOk.fair {S : Ses} (h : SesOk S) : Fair S := by
  obtain ⟨⟨h1, h2, h3⟩, hT, hE, hU⟩ := h
  have ml : ∀ {M : Msg}, msgOk M = true → M.body.length ≤ 1000000 := by
    intro M hM; unfold msgOk at hM; simp only [Bool.and_eq_true, decide_eq_true_eq] at hM; omega
  refine ⟨?_, by omega, fun k hk => ml (hU k hk hk).1⟩
  cases hw : S.wt
  · have := (hE hw).1
    unfold msgZ at this; simp only [Bool.and_eq_true, decide_eq_true_eq] at this; omega
  · exact ml (hT hw).1
theorem msgOk.len {M : Msg} (hM : msgOk M = true) : M.body.length ≤ 1000000 := by
  unfold msgOk at hM; simp only [Bool.and_eq_true, decide_eq_true_eq] at hM; omega
/-- what Ask returns -/
def askS (S : Ses) (M : Msg) : Ses := ⟨S.nx + 1, true, { M with nm := S.nx }, S.dn, 1⟩
def askM (S : Ses) (M : Msg) : Msg := { M with nm := S.nx }
/-- what Again returns -/
def agS (S : Ses) : Ses := { S with tr := S.tr + 1 }
/-- what Accept returns -/
def accS (S : Ses) : Ses := ⟨S.nx, false, M0, S.dn, 0⟩
set_option maxRecDepth 100000 in
set_option maxHeartbeats 1000000 in
theorem Ask_1a {D : Nat → Prop} (nx fr to_ kd nm tr : Int) (wt : Bool) (body : List Nat) (dn : List Msg) {xa da : Option Addr} {xk dj : Nat} (fr2 to2 kd2 nm2 : Int) (body2 : List Nat) {ya : Option Addr} {yk : Nat} {w : World} (hx : Fct.at w D (.bs (.slice xa body.length xk) body)) (hy : Fct.at w D (.ms (.slice da dn.length dj) dn)) (hz : Fct.at w D (.bs (.slice ya body2.length yk) body2)) (hS0 : ¬ SesOk ⟨nx, wt, ⟨fr, to_, kd, nm, body⟩, dn, tr⟩) :
    Calls Try.prog 24 #[.agg #[.int .i64 nx, .bool wt, .int .i64 fr, .int .i64 to_, .int .i64 kd, .int .i64 nm, .slice xa body.length xk, .slice da dn.length dj, .int .i64 tr], .agg #[.int .i64 fr2, .int .i64 to2, .int .i64 kd2, .int .i64 nm2, .slice ya body2.length yk]] w fun e w' => RetSM (fun b => D b ∨ w.heap.size ≤ b) S0 M0 1 e w' ∧ Below w.heap.size w w' := by
  have E0 := Lib.hid ((((Env.start D w).arg (.bs (.slice xa body.length xk) body) hx).arg (.ms (.slice da dn.length dj) dn) hy).arg (.bs (.slice ya body2.length yk) body2) hz)
  clear hx hy hz
  go_enter Try.func24, Try.ntmps24
  have hS := Lib.hid hS0
  clear hS0
  go_wp2_with fail
  have E1 := Lib.hid (((((E0.out.push 27 [.int .i64 nx, .bool wt, .int .i64 fr, .int .i64 to_, .int .i64 kd, .int .i64 nm, .slice xa body.length xk, .slice da dn.length dj, .int .i64 tr] (w.heap.size) (by simp)).push 24 [.int .i64 fr2, .int .i64 to2, .int .i64 kd2, .int .i64 nm2, .slice ya body2.length yk] (w.heap.size + 1) (by simp)).push 27 [.int .i64 0, .bool false, .int .i64 0, .int .i64 0, .int .i64 0, .int .i64 0, .slice none 0 0, .slice none 0 0, .int .i64 0] (w.heap.size + 1 + 1) (by simp)).push 24 [.int .i64 0, .int .i64 0, .int .i64 0, .int .i64 0, .slice none 0 0] (w.heap.size + 1 + 1 + 1) (by simp)))
  refine (Valid_f (S := ⟨nx, wt, ⟨fr, to_, kd, nm, body⟩, dn, tr⟩) hS.out (E1.out.fc 2 rfl) (E1.out.fc 1 rfl)).mono ?_
  rintro e w1 ⟨rfl, hb⟩
  have E2 := Lib.hid (E1.out.below hb)
  clear E0 E1 hb
  have b1 := E2.out.bx 1 rfl
  have c1_0 := b1.cell 0 rfl
  have c1_1 := b1.cell 1 rfl
  have c1_2 := b1.cell 2 rfl
  have c1_3 := b1.cell 3 rfl
  have c1_4 := b1.cell 4 rfl
  have c1_5 := b1.cell 5 rfl
  have c1_6 := b1.cell 6 rfl
  have c1_7 := b1.cell 7 rfl
  have c1_8 := b1.cell 8 rfl
  have f1_0 := b1.frozen 0
  have f1_1 := b1.frozen 1
  have f1_2 := b1.frozen 2
  have f1_3 := b1.frozen 3
  have f1_4 := b1.frozen 4
  have f1_5 := b1.frozen 5
  have f1_6 := b1.frozen 6
  have f1_7 := b1.frozen 7
  have f1_8 := b1.frozen 8
  clear b1
  have E3 : Hid (Env D w [(w.heap.size + 1 + 1 + 1, 24, [.int .i64 0, .int .i64 0, .int .i64 0, .int .i64 0, .slice none 0 0]), (w.heap.size + 1 + 1, 27, [.int .i64 0, .bool false, .int .i64 0, .int .i64 0, .int .i64 0, .int .i64 0, .slice none 0 0, .slice none 0 0, .int .i64 0]), (w.heap.size + 1, 24, [.int .i64 fr2, .int .i64 to2, .int .i64 kd2, .int .i64 nm2, .slice ya body2.length yk]), (w.heap.size, 27, [.int .i64 nx, .bool wt, .int .i64 fr, .int .i64 to_, .int .i64 kd, .int .i64 nm, .slice xa body.length xk, .slice da dn.length dj, .int .i64 tr])] [.bs (.slice ya body2.length yk) body2, .ms (.slice da dn.length dj) dn, .bs (.slice xa body.length xk) body] _) := Lib.hid ((((((((((E2.out.set 1 0 (.int .i64 0) rfl).set 1 1 (.bool false) rfl).set 1 2 (.int .i64 0) rfl).set 1 3 (.int .i64 0) rfl).set 1 4 (.int .i64 0) rfl).set 1 5 (.int .i64 0) rfl).set 1 6 (.slice none 0 0) rfl).set 1 7 (.slice none 0 0) rfl).set 1 8 (.int .i64 0) rfl))
  have b2 := E3.out.bx 0 rfl
  have c2_0 := b2.cell 0 rfl
  have c2_1 := b2.cell 1 rfl
  have c2_2 := b2.cell 2 rfl
  have c2_3 := b2.cell 3 rfl
  have c2_4 := b2.cell 4 rfl
  have f2_0 := b2.frozen 0
  have f2_1 := b2.frozen 1
  have f2_2 := b2.frozen 2
  have f2_3 := b2.frozen 3
  have f2_4 := b2.frozen 4
  clear b2
  have E4 : Hid (Env D w [(w.heap.size + 1 + 1 + 1, 24, [.int .i64 0, .int .i64 0, .int .i64 0, .int .i64 0, .slice none 0 0]), (w.heap.size + 1 + 1, 27, [.int .i64 0, .bool false, .int .i64 0, .int .i64 0, .int .i64 0, .int .i64 0, .slice none 0 0, .slice none 0 0, .int .i64 0]), (w.heap.size + 1, 24, [.int .i64 fr2, .int .i64 to2, .int .i64 kd2, .int .i64 nm2, .slice ya body2.length yk]), (w.heap.size, 27, [.int .i64 nx, .bool wt, .int .i64 fr, .int .i64 to_, .int .i64 kd, .int .i64 nm, .slice xa body.length xk, .slice da dn.length dj, .int .i64 tr])] [.bs (.slice ya body2.length yk) body2, .ms (.slice da dn.length dj) dn, .bs (.slice xa body.length xk) body] _) := Lib.hid ((((((E3.out.set 0 0 (.int .i64 0) rfl).set 0 1 (.int .i64 0) rfl).set 0 2 (.int .i64 0) rfl).set 0 3 (.int .i64 0) rfl).set 0 4 (.slice none 0 0) rfl))
  have b3 := E4.out.bx 1 rfl
  have c3_0 := b3.cell 0 rfl
  have c3_1 := b3.cell 1 rfl
  have c3_2 := b3.cell 2 rfl
  have c3_3 := b3.cell 3 rfl
  have c3_4 := b3.cell 4 rfl
  have c3_5 := b3.cell 5 rfl
  have c3_6 := b3.cell 6 rfl
  have c3_7 := b3.cell 7 rfl
  have c3_8 := b3.cell 8 rfl
  clear b3
  have b4 := E4.out.bx 0 rfl
  have c4_0 := b4.cell 0 rfl
  have c4_1 := b4.cell 1 rfl
  have c4_2 := b4.cell 2 rfl
  have c4_3 := b4.cell 3 rfl
  have c4_4 := b4.cell 4 rfl
  clear b4
  go_wp2
  have hfin := E4.out
  have q5 := (hfin.bx 1 rfl).cell 0 rfl
  have q6 := (hfin.bx 1 rfl).cell 1 rfl
  have q7 := (hfin.bx 1 rfl).cell 2 rfl
  have q8 := (hfin.bx 1 rfl).cell 3 rfl
  have q9 := (hfin.bx 1 rfl).cell 4 rfl
  have q10 := (hfin.bx 1 rfl).cell 5 rfl
  have q11 := (hfin.bx 1 rfl).cell 6 rfl
  have q12 := (hfin.bx 1 rfl).cell 7 rfl
  have q13 := (hfin.bx 1 rfl).cell 8 rfl
  have q14 := (hfin.bx 0 rfl).cell 0 rfl
  have q15 := (hfin.bx 0 rfl).cell 1 rfl
  have q16 := (hfin.bx 0 rfl).cell 2 rfl
  have q17 := (hfin.bx 0 rfl).cell 3 rfl
  have q18 := (hfin.bx 0 rfl).cell 4 rfl
  exact bodyPost_ret (v := .tuple #[.agg #[.int .i64 0, .bool false, .int .i64 0, .int .i64 0, .int .i64 0, .int .i64 0, .slice none 0 0, .slice none 0 0, .int .i64 0], .agg #[.int .i64 0, .int .i64 0, .int .i64 0, .int .i64 0, .slice none 0 0], .int .i64 1]) (by simp [results, Try.results24, go_sem, q5, q6, q7, q8, q9, q10, q11, q12, q13, q14, q15, q16, q17, q18]) rfl ⟨⟨none, 0, none, 0, none, 0, rfl, Lib.hid (Bs.nil _ _), Lib.hid (Ms.nil _ _), Lib.hid (Bs.nil _ _)⟩, hfin.bel⟩
set_option maxRecDepth 100000 in
set_option maxHeartbeats 1000000 in
theorem Ask_1b {D : Nat → Prop} (nx fr to_ kd nm tr : Int) (wt : Bool) (body : List Nat) (dn : List Msg) {xa da : Option Addr} {xk dj : Nat} (fr2 to2 kd2 nm2 : Int) (body2 : List Nat) {ya : Option Addr} {yk : Nat} {w : World} (hx : Fct.at w D (.bs (.slice xa body.length xk) body)) (hy : Fct.at w D (.ms (.slice da dn.length dj) dn)) (hz : Fct.at w D (.bs (.slice ya body2.length yk) body2)) (hS0 : SesOk ⟨nx, wt, ⟨fr, to_, kd, nm, body⟩, dn, tr⟩) (hm0 : msgOk ⟨fr2, to2, kd2, nm2, body2⟩ = false) :
    Calls Try.prog 24 #[.agg #[.int .i64 nx, .bool wt, .int .i64 fr, .int .i64 to_, .int .i64 kd, .int .i64 nm, .slice xa body.length xk, .slice da dn.length dj, .int .i64 tr], .agg #[.int .i64 fr2, .int .i64 to2, .int .i64 kd2, .int .i64 nm2, .slice ya body2.length yk]] w fun e w' => RetSM (fun b => D b ∨ w.heap.size ≤ b) S0 M0 1 e w' ∧ Below w.heap.size w w' := by
  have E0 := Lib.hid ((((Env.start D w).arg (.bs (.slice xa body.length xk) body) hx).arg (.ms (.slice da dn.length dj) dn) hy).arg (.bs (.slice ya body2.length yk) body2) hz)
  clear hx hy hz
  go_enter Try.func24, Try.ntmps24
  have hS := Lib.hid hS0
  clear hS0
  have hm := Lib.hid hm0
  clear hm0
  go_wp2_with fail
  have E1 := Lib.hid (((((E0.out.push 27 [.int .i64 nx, .bool wt, .int .i64 fr, .int .i64 to_, .int .i64 kd, .int .i64 nm, .slice xa body.length xk, .slice da dn.length dj, .int .i64 tr] (w.heap.size) (by simp)).push 24 [.int .i64 fr2, .int .i64 to2, .int .i64 kd2, .int .i64 nm2, .slice ya body2.length yk] (w.heap.size + 1) (by simp)).push 27 [.int .i64 0, .bool false, .int .i64 0, .int .i64 0, .int .i64 0, .int .i64 0, .slice none 0 0, .slice none 0 0, .int .i64 0] (w.heap.size + 1 + 1) (by simp)).push 24 [.int .i64 0, .int .i64 0, .int .i64 0, .int .i64 0, .slice none 0 0] (w.heap.size + 1 + 1 + 1) (by simp)))
  refine (Valid_t (S := ⟨nx, wt, ⟨fr, to_, kd, nm, body⟩, dn, tr⟩) hS.out (E1.out.fc 2 rfl) (E1.out.fc 1 rfl)).mono ?_
  rintro e w1 ⟨rfl, hb⟩
  have E2 := Lib.hid (E1.out.below hb)
  clear E0 E1 hb
  have b1 := E2.out.bx 2 rfl
  have c1_0 := b1.cell 0 rfl
  have c1_1 := b1.cell 1 rfl
  have c1_2 := b1.cell 2 rfl
  have c1_3 := b1.cell 3 rfl
  have c1_4 := b1.cell 4 rfl
  clear b1
  go_wp2_with fail
  refine (message_v ⟨fr2, to2, kd2, nm2, body2⟩ hm.out _ _ _).mono ?_
  rintro e w2 ⟨rfl, hb⟩
  have E3 := Lib.hid (E2.out.below hb)
  clear c1_0 c1_1 c1_2 c1_3 c1_4 E2 hb
  have b2 := E3.out.bx 1 rfl
  have c2_0 := b2.cell 0 rfl
  have c2_1 := b2.cell 1 rfl
  have c2_2 := b2.cell 2 rfl
  have c2_3 := b2.cell 3 rfl
  have c2_4 := b2.cell 4 rfl
  have c2_5 := b2.cell 5 rfl
  have c2_6 := b2.cell 6 rfl
  have c2_7 := b2.cell 7 rfl
  have c2_8 := b2.cell 8 rfl
  have f2_0 := b2.frozen 0
  have f2_1 := b2.frozen 1
  have f2_2 := b2.frozen 2
  have f2_3 := b2.frozen 3
  have f2_4 := b2.frozen 4
  have f2_5 := b2.frozen 5
  have f2_6 := b2.frozen 6
  have f2_7 := b2.frozen 7
  have f2_8 := b2.frozen 8
  clear b2
  have E4 : Hid (Env D w [(w.heap.size + 1 + 1 + 1, 24, [.int .i64 0, .int .i64 0, .int .i64 0, .int .i64 0, .slice none 0 0]), (w.heap.size + 1 + 1, 27, [.int .i64 0, .bool false, .int .i64 0, .int .i64 0, .int .i64 0, .int .i64 0, .slice none 0 0, .slice none 0 0, .int .i64 0]), (w.heap.size + 1, 24, [.int .i64 fr2, .int .i64 to2, .int .i64 kd2, .int .i64 nm2, .slice ya body2.length yk]), (w.heap.size, 27, [.int .i64 nx, .bool wt, .int .i64 fr, .int .i64 to_, .int .i64 kd, .int .i64 nm, .slice xa body.length xk, .slice da dn.length dj, .int .i64 tr])] [.bs (.slice ya body2.length yk) body2, .ms (.slice da dn.length dj) dn, .bs (.slice xa body.length xk) body] _) := Lib.hid ((((((((((E3.out.set 1 0 (.int .i64 0) rfl).set 1 1 (.bool false) rfl).set 1 2 (.int .i64 0) rfl).set 1 3 (.int .i64 0) rfl).set 1 4 (.int .i64 0) rfl).set 1 5 (.int .i64 0) rfl).set 1 6 (.slice none 0 0) rfl).set 1 7 (.slice none 0 0) rfl).set 1 8 (.int .i64 0) rfl))
  have b3 := E4.out.bx 0 rfl
  have c3_0 := b3.cell 0 rfl
  have c3_1 := b3.cell 1 rfl
  have c3_2 := b3.cell 2 rfl
  have c3_3 := b3.cell 3 rfl
  have c3_4 := b3.cell 4 rfl
  have f3_0 := b3.frozen 0
  have f3_1 := b3.frozen 1
  have f3_2 := b3.frozen 2
  have f3_3 := b3.frozen 3
  have f3_4 := b3.frozen 4
  clear b3
  have E5 : Hid (Env D w [(w.heap.size + 1 + 1 + 1, 24, [.int .i64 0, .int .i64 0, .int .i64 0, .int .i64 0, .slice none 0 0]), (w.heap.size + 1 + 1, 27, [.int .i64 0, .bool false, .int .i64 0, .int .i64 0, .int .i64 0, .int .i64 0, .slice none 0 0, .slice none 0 0, .int .i64 0]), (w.heap.size + 1, 24, [.int .i64 fr2, .int .i64 to2, .int .i64 kd2, .int .i64 nm2, .slice ya body2.length yk]), (w.heap.size, 27, [.int .i64 nx, .bool wt, .int .i64 fr, .int .i64 to_, .int .i64 kd, .int .i64 nm, .slice xa body.length xk, .slice da dn.length dj, .int .i64 tr])] [.bs (.slice ya body2.length yk) body2, .ms (.slice da dn.length dj) dn, .bs (.slice xa body.length xk) body] _) := Lib.hid ((((((E4.out.set 0 0 (.int .i64 0) rfl).set 0 1 (.int .i64 0) rfl).set 0 2 (.int .i64 0) rfl).set 0 3 (.int .i64 0) rfl).set 0 4 (.slice none 0 0) rfl))
  have b4 := E5.out.bx 1 rfl
  have c4_0 := b4.cell 0 rfl
  have c4_1 := b4.cell 1 rfl
  have c4_2 := b4.cell 2 rfl
  have c4_3 := b4.cell 3 rfl
  have c4_4 := b4.cell 4 rfl
  have c4_5 := b4.cell 5 rfl
  have c4_6 := b4.cell 6 rfl
  have c4_7 := b4.cell 7 rfl
  have c4_8 := b4.cell 8 rfl
  clear b4
  have b5 := E5.out.bx 0 rfl
  have c5_0 := b5.cell 0 rfl
  have c5_1 := b5.cell 1 rfl
  have c5_2 := b5.cell 2 rfl
  have c5_3 := b5.cell 3 rfl
  have c5_4 := b5.cell 4 rfl
  clear b5
  go_wp2
  have hfin := E5.out
  have q6 := (hfin.bx 1 rfl).cell 0 rfl
  have q7 := (hfin.bx 1 rfl).cell 1 rfl
  have q8 := (hfin.bx 1 rfl).cell 2 rfl
  have q9 := (hfin.bx 1 rfl).cell 3 rfl
  have q10 := (hfin.bx 1 rfl).cell 4 rfl
  have q11 := (hfin.bx 1 rfl).cell 5 rfl
  have q12 := (hfin.bx 1 rfl).cell 6 rfl
  have q13 := (hfin.bx 1 rfl).cell 7 rfl
  have q14 := (hfin.bx 1 rfl).cell 8 rfl
  have q15 := (hfin.bx 0 rfl).cell 0 rfl
  have q16 := (hfin.bx 0 rfl).cell 1 rfl
  have q17 := (hfin.bx 0 rfl).cell 2 rfl
  have q18 := (hfin.bx 0 rfl).cell 3 rfl
  have q19 := (hfin.bx 0 rfl).cell 4 rfl
  exact bodyPost_ret (v := .tuple #[.agg #[.int .i64 0, .bool false, .int .i64 0, .int .i64 0, .int .i64 0, .int .i64 0, .slice none 0 0, .slice none 0 0, .int .i64 0], .agg #[.int .i64 0, .int .i64 0, .int .i64 0, .int .i64 0, .slice none 0 0], .int .i64 1]) (by simp [results, Try.results24, go_sem, q6, q7, q8, q9, q10, q11, q12, q13, q14, q15, q16, q17, q18, q19]) rfl ⟨⟨none, 0, none, 0, none, 0, rfl, Lib.hid (Bs.nil _ _), Lib.hid (Ms.nil _ _), Lib.hid (Bs.nil _ _)⟩, hfin.bel⟩
set_option maxRecDepth 100000 in
set_option maxHeartbeats 1000000 in
theorem Ask_6 {D : Nat → Prop} (nx fr to_ kd nm tr : Int) (body : List Nat) (dn : List Msg) {xa da : Option Addr} {xk dj : Nat} (fr2 to2 kd2 nm2 : Int) (body2 : List Nat) {ya : Option Addr} {yk : Nat} {w : World} (hx : Fct.at w D (.bs (.slice xa body.length xk) body)) (hy : Fct.at w D (.ms (.slice da dn.length dj) dn)) (hz : Fct.at w D (.bs (.slice ya body2.length yk) body2)) (hS0 : SesOk ⟨nx, true, ⟨fr, to_, kd, nm, body⟩, dn, tr⟩) (hm0 : msgOk ⟨fr2, to2, kd2, nm2, body2⟩ = true) :
    Calls Try.prog 24 #[.agg #[.int .i64 nx, .bool true, .int .i64 fr, .int .i64 to_, .int .i64 kd, .int .i64 nm, .slice xa body.length xk, .slice da dn.length dj, .int .i64 tr], .agg #[.int .i64 fr2, .int .i64 to2, .int .i64 kd2, .int .i64 nm2, .slice ya body2.length yk]] w fun e w' => RetSM (fun b => D b ∨ w.heap.size ≤ b) S0 M0 6 e w' ∧ Below w.heap.size w w' := by
  have E0 := Lib.hid ((((Env.start D w).arg (.bs (.slice xa body.length xk) body) hx).arg (.ms (.slice da dn.length dj) dn) hy).arg (.bs (.slice ya body2.length yk) body2) hz)
  clear hx hy hz
  go_enter Try.func24, Try.ntmps24
  have hS := Lib.hid hS0
  clear hS0
  have hm := Lib.hid hm0
  clear hm0
  go_wp2_with fail
  have E1 := Lib.hid (((((E0.out.push 27 [.int .i64 nx, .bool true, .int .i64 fr, .int .i64 to_, .int .i64 kd, .int .i64 nm, .slice xa body.length xk, .slice da dn.length dj, .int .i64 tr] (w.heap.size) (by simp)).push 24 [.int .i64 fr2, .int .i64 to2, .int .i64 kd2, .int .i64 nm2, .slice ya body2.length yk] (w.heap.size + 1) (by simp)).push 27 [.int .i64 0, .bool false, .int .i64 0, .int .i64 0, .int .i64 0, .int .i64 0, .slice none 0 0, .slice none 0 0, .int .i64 0] (w.heap.size + 1 + 1) (by simp)).push 24 [.int .i64 0, .int .i64 0, .int .i64 0, .int .i64 0, .slice none 0 0] (w.heap.size + 1 + 1 + 1) (by simp)))
  refine (Valid_t (S := ⟨nx, true, ⟨fr, to_, kd, nm, body⟩, dn, tr⟩) hS.out (E1.out.fc 2 rfl) (E1.out.fc 1 rfl)).mono ?_
  rintro e w1 ⟨rfl, hb⟩
  have E2 := Lib.hid (E1.out.below hb)
  clear E0 E1 hb
  have b1 := E2.out.bx 2 rfl
  have c1_0 := b1.cell 0 rfl
  have c1_1 := b1.cell 1 rfl
  have c1_2 := b1.cell 2 rfl
  have c1_3 := b1.cell 3 rfl
  have c1_4 := b1.cell 4 rfl
  clear b1
  go_wp2_with fail
  refine (message_v ⟨fr2, to2, kd2, nm2, body2⟩ hm.out _ _ _).mono ?_
  rintro e w2 ⟨rfl, hb⟩
  have E3 := Lib.hid (E2.out.below hb)
  clear c1_0 c1_1 c1_2 c1_3 c1_4 E2 hb
  have b2 := E3.out.bx 3 rfl
  have c2_1 := b2.cell 1 rfl
  clear b2
  have b3 := E3.out.bx 1 rfl
  have c3_0 := b3.cell 0 rfl
  have c3_1 := b3.cell 1 rfl
  have c3_2 := b3.cell 2 rfl
  have c3_3 := b3.cell 3 rfl
  have c3_4 := b3.cell 4 rfl
  have c3_5 := b3.cell 5 rfl
  have c3_6 := b3.cell 6 rfl
  have c3_7 := b3.cell 7 rfl
  have c3_8 := b3.cell 8 rfl
  have f3_0 := b3.frozen 0
  have f3_1 := b3.frozen 1
  have f3_2 := b3.frozen 2
  have f3_3 := b3.frozen 3
  have f3_4 := b3.frozen 4
  have f3_5 := b3.frozen 5
  have f3_6 := b3.frozen 6
  have f3_7 := b3.frozen 7
  have f3_8 := b3.frozen 8
  clear b3
  have E4 : Hid (Env D w [(w.heap.size + 1 + 1 + 1, 24, [.int .i64 0, .int .i64 0, .int .i64 0, .int .i64 0, .slice none 0 0]), (w.heap.size + 1 + 1, 27, [.int .i64 0, .bool false, .int .i64 0, .int .i64 0, .int .i64 0, .int .i64 0, .slice none 0 0, .slice none 0 0, .int .i64 0]), (w.heap.size + 1, 24, [.int .i64 fr2, .int .i64 to2, .int .i64 kd2, .int .i64 nm2, .slice ya body2.length yk]), (w.heap.size, 27, [.int .i64 nx, .bool true, .int .i64 fr, .int .i64 to_, .int .i64 kd, .int .i64 nm, .slice xa body.length xk, .slice da dn.length dj, .int .i64 tr])] [.bs (.slice ya body2.length yk) body2, .ms (.slice da dn.length dj) dn, .bs (.slice xa body.length xk) body] _) := Lib.hid ((((((((((E3.out.set 1 0 (.int .i64 0) rfl).set 1 1 (.bool false) rfl).set 1 2 (.int .i64 0) rfl).set 1 3 (.int .i64 0) rfl).set 1 4 (.int .i64 0) rfl).set 1 5 (.int .i64 0) rfl).set 1 6 (.slice none 0 0) rfl).set 1 7 (.slice none 0 0) rfl).set 1 8 (.int .i64 0) rfl))
  have b4 := E4.out.bx 0 rfl
  have c4_0 := b4.cell 0 rfl
  have c4_1 := b4.cell 1 rfl
  have c4_2 := b4.cell 2 rfl
  have c4_3 := b4.cell 3 rfl
  have c4_4 := b4.cell 4 rfl
  have f4_0 := b4.frozen 0
  have f4_1 := b4.frozen 1
  have f4_2 := b4.frozen 2
  have f4_3 := b4.frozen 3
  have f4_4 := b4.frozen 4
  clear b4
  have E5 : Hid (Env D w [(w.heap.size + 1 + 1 + 1, 24, [.int .i64 0, .int .i64 0, .int .i64 0, .int .i64 0, .slice none 0 0]), (w.heap.size + 1 + 1, 27, [.int .i64 0, .bool false, .int .i64 0, .int .i64 0, .int .i64 0, .int .i64 0, .slice none 0 0, .slice none 0 0, .int .i64 0]), (w.heap.size + 1, 24, [.int .i64 fr2, .int .i64 to2, .int .i64 kd2, .int .i64 nm2, .slice ya body2.length yk]), (w.heap.size, 27, [.int .i64 nx, .bool true, .int .i64 fr, .int .i64 to_, .int .i64 kd, .int .i64 nm, .slice xa body.length xk, .slice da dn.length dj, .int .i64 tr])] [.bs (.slice ya body2.length yk) body2, .ms (.slice da dn.length dj) dn, .bs (.slice xa body.length xk) body] _) := Lib.hid ((((((E4.out.set 0 0 (.int .i64 0) rfl).set 0 1 (.int .i64 0) rfl).set 0 2 (.int .i64 0) rfl).set 0 3 (.int .i64 0) rfl).set 0 4 (.slice none 0 0) rfl))
  have b5 := E5.out.bx 1 rfl
  have c5_0 := b5.cell 0 rfl
  have c5_1 := b5.cell 1 rfl
  have c5_2 := b5.cell 2 rfl
  have c5_3 := b5.cell 3 rfl
  have c5_4 := b5.cell 4 rfl
  have c5_5 := b5.cell 5 rfl
  have c5_6 := b5.cell 6 rfl
  have c5_7 := b5.cell 7 rfl
  have c5_8 := b5.cell 8 rfl
  clear b5
  have b6 := E5.out.bx 0 rfl
  have c6_0 := b6.cell 0 rfl
  have c6_1 := b6.cell 1 rfl
  have c6_2 := b6.cell 2 rfl
  have c6_3 := b6.cell 3 rfl
  have c6_4 := b6.cell 4 rfl
  clear b6
  go_wp2
  have hfin := E5.out
  have q7 := (hfin.bx 1 rfl).cell 0 rfl
  have q8 := (hfin.bx 1 rfl).cell 1 rfl
  have q9 := (hfin.bx 1 rfl).cell 2 rfl
  have q10 := (hfin.bx 1 rfl).cell 3 rfl
  have q11 := (hfin.bx 1 rfl).cell 4 rfl
  have q12 := (hfin.bx 1 rfl).cell 5 rfl
  have q13 := (hfin.bx 1 rfl).cell 6 rfl
  have q14 := (hfin.bx 1 rfl).cell 7 rfl
  have q15 := (hfin.bx 1 rfl).cell 8 rfl
  have q16 := (hfin.bx 0 rfl).cell 0 rfl
  have q17 := (hfin.bx 0 rfl).cell 1 rfl
  have q18 := (hfin.bx 0 rfl).cell 2 rfl
  have q19 := (hfin.bx 0 rfl).cell 3 rfl
  have q20 := (hfin.bx 0 rfl).cell 4 rfl
  exact bodyPost_ret (v := .tuple #[.agg #[.int .i64 0, .bool false, .int .i64 0, .int .i64 0, .int .i64 0, .int .i64 0, .slice none 0 0, .slice none 0 0, .int .i64 0], .agg #[.int .i64 0, .int .i64 0, .int .i64 0, .int .i64 0, .slice none 0 0], .int .i64 6]) (by simp [results, Try.results24, go_sem, q7, q8, q9, q10, q11, q12, q13, q14, q15, q16, q17, q18, q19, q20]) rfl ⟨⟨none, 0, none, 0, none, 0, rfl, Lib.hid (Bs.nil _ _), Lib.hid (Ms.nil _ _), Lib.hid (Bs.nil _ _)⟩, hfin.bel⟩
set_option maxRecDepth 100000 in
set_option maxHeartbeats 1000000 in
theorem Ask_5 {D : Nat → Prop} (fr to_ kd nm tr : Int) (body : List Nat) (dn : List Msg) {xa da : Option Addr} {xk dj : Nat} (fr2 to2 kd2 nm2 : Int) (body2 : List Nat) {ya : Option Addr} {yk : Nat} {w : World} (hx : Fct.at w D (.bs (.slice xa body.length xk) body)) (hy : Fct.at w D (.ms (.slice da dn.length dj) dn)) (hz : Fct.at w D (.bs (.slice ya body2.length yk) body2)) (hS0 : SesOk ⟨1073741824, false, ⟨fr, to_, kd, nm, body⟩, dn, tr⟩) (hm0 : msgOk ⟨fr2, to2, kd2, nm2, body2⟩ = true) :
    Calls Try.prog 24 #[.agg #[.int .i64 1073741824, .bool false, .int .i64 fr, .int .i64 to_, .int .i64 kd, .int .i64 nm, .slice xa body.length xk, .slice da dn.length dj, .int .i64 tr], .agg #[.int .i64 fr2, .int .i64 to2, .int .i64 kd2, .int .i64 nm2, .slice ya body2.length yk]] w fun e w' => RetSM (fun b => D b ∨ w.heap.size ≤ b) S0 M0 5 e w' ∧ Below w.heap.size w w' := by
  have E0 := Lib.hid ((((Env.start D w).arg (.bs (.slice xa body.length xk) body) hx).arg (.ms (.slice da dn.length dj) dn) hy).arg (.bs (.slice ya body2.length yk) body2) hz)
  clear hx hy hz
  go_enter Try.func24, Try.ntmps24
  have hS := Lib.hid hS0
  clear hS0
  have hm := Lib.hid hm0
  clear hm0
  go_wp2_with fail
  have E1 := Lib.hid (((((E0.out.push 27 [.int .i64 1073741824, .bool false, .int .i64 fr, .int .i64 to_, .int .i64 kd, .int .i64 nm, .slice xa body.length xk, .slice da dn.length dj, .int .i64 tr] (w.heap.size) (by simp)).push 24 [.int .i64 fr2, .int .i64 to2, .int .i64 kd2, .int .i64 nm2, .slice ya body2.length yk] (w.heap.size + 1) (by simp)).push 27 [.int .i64 0, .bool false, .int .i64 0, .int .i64 0, .int .i64 0, .int .i64 0, .slice none 0 0, .slice none 0 0, .int .i64 0] (w.heap.size + 1 + 1) (by simp)).push 24 [.int .i64 0, .int .i64 0, .int .i64 0, .int .i64 0, .slice none 0 0] (w.heap.size + 1 + 1 + 1) (by simp)))
  refine (Valid_t (S := ⟨1073741824, false, ⟨fr, to_, kd, nm, body⟩, dn, tr⟩) hS.out (E1.out.fc 2 rfl) (E1.out.fc 1 rfl)).mono ?_
  rintro e w1 ⟨rfl, hb⟩
  have E2 := Lib.hid (E1.out.below hb)
  clear E0 E1 hb
  have b1 := E2.out.bx 2 rfl
  have c1_0 := b1.cell 0 rfl
  have c1_1 := b1.cell 1 rfl
  have c1_2 := b1.cell 2 rfl
  have c1_3 := b1.cell 3 rfl
  have c1_4 := b1.cell 4 rfl
  clear b1
  go_wp2_with fail
  refine (message_v ⟨fr2, to2, kd2, nm2, body2⟩ hm.out _ _ _).mono ?_
  rintro e w2 ⟨rfl, hb⟩
  have E3 := Lib.hid (E2.out.below hb)
  clear c1_0 c1_1 c1_2 c1_3 c1_4 E2 hb
  have b2 := E3.out.bx 3 rfl
  have c2_1 := b2.cell 1 rfl
  clear b2
  have b3 := E3.out.bx 3 rfl
  have c3_0 := b3.cell 0 rfl
  clear b3
  have b4 := E3.out.bx 1 rfl
  have c4_0 := b4.cell 0 rfl
  have c4_1 := b4.cell 1 rfl
  have c4_2 := b4.cell 2 rfl
  have c4_3 := b4.cell 3 rfl
  have c4_4 := b4.cell 4 rfl
  have c4_5 := b4.cell 5 rfl
  have c4_6 := b4.cell 6 rfl
  have c4_7 := b4.cell 7 rfl
  have c4_8 := b4.cell 8 rfl
  have f4_0 := b4.frozen 0
  have f4_1 := b4.frozen 1
  have f4_2 := b4.frozen 2
  have f4_3 := b4.frozen 3
  have f4_4 := b4.frozen 4
  have f4_5 := b4.frozen 5
  have f4_6 := b4.frozen 6
  have f4_7 := b4.frozen 7
  have f4_8 := b4.frozen 8
  clear b4
  have E4 : Hid (Env D w [(w.heap.size + 1 + 1 + 1, 24, [.int .i64 0, .int .i64 0, .int .i64 0, .int .i64 0, .slice none 0 0]), (w.heap.size + 1 + 1, 27, [.int .i64 0, .bool false, .int .i64 0, .int .i64 0, .int .i64 0, .int .i64 0, .slice none 0 0, .slice none 0 0, .int .i64 0]), (w.heap.size + 1, 24, [.int .i64 fr2, .int .i64 to2, .int .i64 kd2, .int .i64 nm2, .slice ya body2.length yk]), (w.heap.size, 27, [.int .i64 1073741824, .bool false, .int .i64 fr, .int .i64 to_, .int .i64 kd, .int .i64 nm, .slice xa body.length xk, .slice da dn.length dj, .int .i64 tr])] [.bs (.slice ya body2.length yk) body2, .ms (.slice da dn.length dj) dn, .bs (.slice xa body.length xk) body] _) := Lib.hid ((((((((((E3.out.set 1 0 (.int .i64 0) rfl).set 1 1 (.bool false) rfl).set 1 2 (.int .i64 0) rfl).set 1 3 (.int .i64 0) rfl).set 1 4 (.int .i64 0) rfl).set 1 5 (.int .i64 0) rfl).set 1 6 (.slice none 0 0) rfl).set 1 7 (.slice none 0 0) rfl).set 1 8 (.int .i64 0) rfl))
  have b5 := E4.out.bx 0 rfl
  have c5_0 := b5.cell 0 rfl
  have c5_1 := b5.cell 1 rfl
  have c5_2 := b5.cell 2 rfl
  have c5_3 := b5.cell 3 rfl
  have c5_4 := b5.cell 4 rfl
  have f5_0 := b5.frozen 0
  have f5_1 := b5.frozen 1
  have f5_2 := b5.frozen 2
  have f5_3 := b5.frozen 3
  have f5_4 := b5.frozen 4
  clear b5
  have E5 : Hid (Env D w [(w.heap.size + 1 + 1 + 1, 24, [.int .i64 0, .int .i64 0, .int .i64 0, .int .i64 0, .slice none 0 0]), (w.heap.size + 1 + 1, 27, [.int .i64 0, .bool false, .int .i64 0, .int .i64 0, .int .i64 0, .int .i64 0, .slice none 0 0, .slice none 0 0, .int .i64 0]), (w.heap.size + 1, 24, [.int .i64 fr2, .int .i64 to2, .int .i64 kd2, .int .i64 nm2, .slice ya body2.length yk]), (w.heap.size, 27, [.int .i64 1073741824, .bool false, .int .i64 fr, .int .i64 to_, .int .i64 kd, .int .i64 nm, .slice xa body.length xk, .slice da dn.length dj, .int .i64 tr])] [.bs (.slice ya body2.length yk) body2, .ms (.slice da dn.length dj) dn, .bs (.slice xa body.length xk) body] _) := Lib.hid ((((((E4.out.set 0 0 (.int .i64 0) rfl).set 0 1 (.int .i64 0) rfl).set 0 2 (.int .i64 0) rfl).set 0 3 (.int .i64 0) rfl).set 0 4 (.slice none 0 0) rfl))
  have b6 := E5.out.bx 1 rfl
  have c6_0 := b6.cell 0 rfl
  have c6_1 := b6.cell 1 rfl
  have c6_2 := b6.cell 2 rfl
  have c6_3 := b6.cell 3 rfl
  have c6_4 := b6.cell 4 rfl
  have c6_5 := b6.cell 5 rfl
  have c6_6 := b6.cell 6 rfl
  have c6_7 := b6.cell 7 rfl
  have c6_8 := b6.cell 8 rfl
  clear b6
  have b7 := E5.out.bx 0 rfl
  have c7_0 := b7.cell 0 rfl
  have c7_1 := b7.cell 1 rfl
  have c7_2 := b7.cell 2 rfl
  have c7_3 := b7.cell 3 rfl
  have c7_4 := b7.cell 4 rfl
  clear b7
  go_wp2
  have hfin := E5.out
  have q8 := (hfin.bx 1 rfl).cell 0 rfl
  have q9 := (hfin.bx 1 rfl).cell 1 rfl
  have q10 := (hfin.bx 1 rfl).cell 2 rfl
  have q11 := (hfin.bx 1 rfl).cell 3 rfl
  have q12 := (hfin.bx 1 rfl).cell 4 rfl
  have q13 := (hfin.bx 1 rfl).cell 5 rfl
  have q14 := (hfin.bx 1 rfl).cell 6 rfl
  have q15 := (hfin.bx 1 rfl).cell 7 rfl
  have q16 := (hfin.bx 1 rfl).cell 8 rfl
  have q17 := (hfin.bx 0 rfl).cell 0 rfl
  have q18 := (hfin.bx 0 rfl).cell 1 rfl
  have q19 := (hfin.bx 0 rfl).cell 2 rfl
  have q20 := (hfin.bx 0 rfl).cell 3 rfl
  have q21 := (hfin.bx 0 rfl).cell 4 rfl
  exact bodyPost_ret (v := .tuple #[.agg #[.int .i64 0, .bool false, .int .i64 0, .int .i64 0, .int .i64 0, .int .i64 0, .slice none 0 0, .slice none 0 0, .int .i64 0], .agg #[.int .i64 0, .int .i64 0, .int .i64 0, .int .i64 0, .slice none 0 0], .int .i64 5]) (by simp [results, Try.results24, go_sem, q8, q9, q10, q11, q12, q13, q14, q15, q16, q17, q18, q19, q20, q21]) rfl ⟨⟨none, 0, none, 0, none, 0, rfl, Lib.hid (Bs.nil _ _), Lib.hid (Ms.nil _ _), Lib.hid (Bs.nil _ _)⟩, hfin.bel⟩
set_option maxRecDepth 100000 in
set_option maxHeartbeats 1000000 in
theorem Ask_0 {D : Nat → Prop} (nx fr to_ kd nm tr : Int) (body : List Nat) (dn : List Msg) {xa da : Option Addr} {xk dj : Nat} (fr2 to2 kd2 nm2 : Int) (body2 : List Nat) {ya : Option Addr} {yk : Nat} {w : World} (hx : Fct.at w D (.bs (.slice xa body.length xk) body)) (hy : Fct.at w D (.ms (.slice da dn.length dj) dn)) (hz : Fct.at w D (.bs (.slice ya body2.length yk) body2)) (hS0 : SesOk ⟨nx, false, ⟨fr, to_, kd, nm, body⟩, dn, tr⟩) (hm0 : msgOk ⟨fr2, to2, kd2, nm2, body2⟩ = true) (hn0 : ¬ nx = 1073741824) :
    Calls Try.prog 24 #[.agg #[.int .i64 nx, .bool false, .int .i64 fr, .int .i64 to_, .int .i64 kd, .int .i64 nm, .slice xa body.length xk, .slice da dn.length dj, .int .i64 tr], .agg #[.int .i64 fr2, .int .i64 to2, .int .i64 kd2, .int .i64 nm2, .slice ya body2.length yk]] w fun e w' => RetSM (fun b => D b ∨ w.heap.size ≤ b) ⟨nx + 1, true, ⟨fr2, to2, kd2, nx, body2⟩, dn, 1⟩ ⟨fr2, to2, kd2, nx, body2⟩ 0 e w' ∧ Below w.heap.size w w' := by
  have E0 := Lib.hid ((((Env.start D w).arg (.bs (.slice xa body.length xk) body) hx).arg (.ms (.slice da dn.length dj) dn) hy).arg (.bs (.slice ya body2.length yk) body2) hz)
  clear hx hy hz
  go_enter Try.func24, Try.ntmps24
  have hS := Lib.hid hS0
  clear hS0
  have hm := Lib.hid hm0
  clear hm0
  have hn := Lib.hid hn0
  clear hn0
  have hF := Lib.hid (SesOk.fair hS.out)
  have hl2 := Lib.hid (msgOk.len hm.out)
  go_wp2_with fail
  have E1 := Lib.hid (((((E0.out.push 27 [.int .i64 nx, .bool false, .int .i64 fr, .int .i64 to_, .int .i64 kd, .int .i64 nm, .slice xa body.length xk, .slice da dn.length dj, .int .i64 tr] (w.heap.size) (by simp)).push 24 [.int .i64 fr2, .int .i64 to2, .int .i64 kd2, .int .i64 nm2, .slice ya body2.length yk] (w.heap.size + 1) (by simp)).push 27 [.int .i64 0, .bool false, .int .i64 0, .int .i64 0, .int .i64 0, .int .i64 0, .slice none 0 0, .slice none 0 0, .int .i64 0] (w.heap.size + 1 + 1) (by simp)).push 24 [.int .i64 0, .int .i64 0, .int .i64 0, .int .i64 0, .slice none 0 0] (w.heap.size + 1 + 1 + 1) (by simp)))
  refine (Valid_t (S := ⟨nx, false, ⟨fr, to_, kd, nm, body⟩, dn, tr⟩) hS.out (E1.out.fc 2 rfl) (E1.out.fc 1 rfl)).mono ?_
  rintro e w1 ⟨rfl, hb⟩
  have E2 := Lib.hid (E1.out.below hb)
  clear E0 E1 hb
  have b1 := E2.out.bx 2 rfl
  have c1_0 := b1.cell 0 rfl
  have c1_1 := b1.cell 1 rfl
  have c1_2 := b1.cell 2 rfl
  have c1_3 := b1.cell 3 rfl
  have c1_4 := b1.cell 4 rfl
  clear b1
  go_wp2_with fail
  refine (message_v ⟨fr2, to2, kd2, nm2, body2⟩ hm.out _ _ _).mono ?_
  rintro e w2 ⟨rfl, hb⟩
  have E3 := Lib.hid (E2.out.below hb)
  clear c1_0 c1_1 c1_2 c1_3 c1_4 E2 hb
  have g1 : (nx == 1073741824) = false := by simpa using hn.out
  have ew : IntKind.i64.wrap (nx + 1) = nx + 1 := by rw [IntKind.wrap_i64]; have := hS.out.1; unfold HeadOk at this; dsimp only at this; omega
  have b2 := E3.out.bx 3 rfl
  have c2_1 := b2.cell 1 rfl
  clear b2
  have b3 := E3.out.bx 3 rfl
  have c3_0 := b3.cell 0 rfl
  clear b3
  have b4 := E3.out.bx 3 rfl
  have c4_2 := b4.cell 2 rfl
  have c4_3 := b4.cell 3 rfl
  have c4_4 := b4.cell 4 rfl
  have c4_5 := b4.cell 5 rfl
  have c4_6 := b4.cell 6 rfl
  have c4_7 := b4.cell 7 rfl
  have c4_8 := b4.cell 8 rfl
  clear b4
  go_wp2_with fail
  refine (copyAll_c (S := ⟨nx, false, ⟨fr, to_, kd, nm, body⟩, dn, tr⟩) hF.out.1 hF.out.2 (E3.out.fc 2 rfl) (E3.out.fc 1 rfl)).mono ?_
  rintro e w3 ⟨⟨lsa, lsk, lsb, lsj, rfl, hls, gls⟩, hb⟩
  have E4 := Lib.hid (E3.out.got (E3.out.got (E3.out.below hb) (.bs (.slice lsa body.length lsk) body) hls.out) (.ms (.slice lsb dn.length lsj) dn) gls.out)
  clear c2_1 c3_0 c4_2 c4_3 c4_4 c4_5 c4_6 c4_7 c4_8 E3 hb hls gls
  have E5 := Lib.hid ((E4.out.push 27 [.int .i64 nx, .bool false, .int .i64 fr, .int .i64 to_, .int .i64 kd, .int .i64 nm, .slice lsa body.length lsk, .slice lsb dn.length lsj, .int .i64 tr] (w3.heap.size) (by simp)))
  have b5 := E5.out.bx 4 rfl
  have c5_0 := b5.cell 0 rfl
  clear b5
  have b6 := E5.out.bx 3 rfl
  have c6_3 := b6.cell 3 rfl
  have f6_3 := b6.frozen 3
  clear b6
  have E6 : Hid (Env D w [(w3.heap.size, 27, [.int .i64 nx, .bool false, .int .i64 fr, .int .i64 to_, .int .i64 kd, .int .i64 nm, .slice lsa body.length lsk, .slice lsb dn.length lsj, .int .i64 tr]), (w.heap.size + 1 + 1 + 1, 24, [.int .i64 0, .int .i64 0, .int .i64 0, .int .i64 0, .slice none 0 0]), (w.heap.size + 1 + 1, 27, [.int .i64 0, .bool false, .int .i64 0, .int .i64 0, .int .i64 0, .int .i64 0, .slice none 0 0, .slice none 0 0, .int .i64 0]), (w.heap.size + 1, 24, [.int .i64 fr2, .int .i64 to2, .int .i64 kd2, .int .i64 nx, .slice ya body2.length yk]), (w.heap.size, 27, [.int .i64 nx, .bool false, .int .i64 fr, .int .i64 to_, .int .i64 kd, .int .i64 nm, .slice xa body.length xk, .slice da dn.length dj, .int .i64 tr])] [.ms (.slice lsb dn.length lsj) dn, .bs (.slice lsa body.length lsk) body, .bs (.slice ya body2.length yk) body2, .ms (.slice da dn.length dj) dn, .bs (.slice xa body.length xk) body] _) := Lib.hid ((E5.out.set 3 3 (.int .i64 nx) rfl))
  have b7 := E6.out.bx 0 rfl
  have c7_0 := b7.cell 0 rfl
  clear b7
  have b8 := E6.out.bx 0 rfl
  have f8_0 := b8.frozen 0
  clear b8
  have E7 : Hid (Env D w [(w3.heap.size, 27, [.int .i64 (nx + 1), .bool false, .int .i64 fr, .int .i64 to_, .int .i64 kd, .int .i64 nm, .slice lsa body.length lsk, .slice lsb dn.length lsj, .int .i64 tr]), (w.heap.size + 1 + 1 + 1, 24, [.int .i64 0, .int .i64 0, .int .i64 0, .int .i64 0, .slice none 0 0]), (w.heap.size + 1 + 1, 27, [.int .i64 0, .bool false, .int .i64 0, .int .i64 0, .int .i64 0, .int .i64 0, .slice none 0 0, .slice none 0 0, .int .i64 0]), (w.heap.size + 1, 24, [.int .i64 fr2, .int .i64 to2, .int .i64 kd2, .int .i64 nx, .slice ya body2.length yk]), (w.heap.size, 27, [.int .i64 nx, .bool false, .int .i64 fr, .int .i64 to_, .int .i64 kd, .int .i64 nm, .slice xa body.length xk, .slice da dn.length dj, .int .i64 tr])] [.ms (.slice lsb dn.length lsj) dn, .bs (.slice lsa body.length lsk) body, .bs (.slice ya body2.length yk) body2, .ms (.slice da dn.length dj) dn, .bs (.slice xa body.length xk) body] _) := Lib.hid ((E6.out.set 0 0 (.int .i64 (nx + 1)) rfl))
  have b9 := E7.out.bx 3 rfl
  have c9_0 := b9.cell 0 rfl
  have c9_1 := b9.cell 1 rfl
  have c9_2 := b9.cell 2 rfl
  have c9_3 := b9.cell 3 rfl
  have c9_4 := b9.cell 4 rfl
  clear b9
  go_wp2_with fail
  refine (copyOf_c ⟨fr2, to2, kd2, nx, body2⟩ (E7.out.fc 2 rfl) hl2.out).mono ?_
  rintro e w4 ⟨⟨r1a, r1k, rfl, hr1⟩, hb⟩
  have E8 := Lib.hid (E7.out.got (E7.out.below hb) (.bs (.slice r1a body2.length r1k) body2) hr1.out)
  clear c5_0 c6_3 f6_3 c7_0 f8_0 c9_0 c9_1 c9_2 c9_3 c9_4 E4 E5 E6 E7 hb hr1
  have b10 := E8.out.bx 0 rfl
  have c10_1 := b10.cell 1 rfl
  have f10_1 := b10.frozen 1
  clear b10
  have E9 : Hid (Env D w [(w3.heap.size, 27, [.int .i64 (nx + 1), .bool true, .int .i64 fr, .int .i64 to_, .int .i64 kd, .int .i64 nm, .slice lsa body.length lsk, .slice lsb dn.length lsj, .int .i64 tr]), (w.heap.size + 1 + 1 + 1, 24, [.int .i64 0, .int .i64 0, .int .i64 0, .int .i64 0, .slice none 0 0]), (w.heap.size + 1 + 1, 27, [.int .i64 0, .bool false, .int .i64 0, .int .i64 0, .int .i64 0, .int .i64 0, .slice none 0 0, .slice none 0 0, .int .i64 0]), (w.heap.size + 1, 24, [.int .i64 fr2, .int .i64 to2, .int .i64 kd2, .int .i64 nx, .slice ya body2.length yk]), (w.heap.size, 27, [.int .i64 nx, .bool false, .int .i64 fr, .int .i64 to_, .int .i64 kd, .int .i64 nm, .slice xa body.length xk, .slice da dn.length dj, .int .i64 tr])] [.bs (.slice r1a body2.length r1k) body2, .ms (.slice lsb dn.length lsj) dn, .bs (.slice lsa body.length lsk) body, .bs (.slice ya body2.length yk) body2, .ms (.slice da dn.length dj) dn, .bs (.slice xa body.length xk) body] _) := Lib.hid ((E8.out.set 0 1 (.bool true) rfl))
  have b11 := E9.out.bx 0 rfl
  have c11_2 := b11.cell 2 rfl
  have c11_3 := b11.cell 3 rfl
  have c11_4 := b11.cell 4 rfl
  have c11_5 := b11.cell 5 rfl
  have c11_6 := b11.cell 6 rfl
  have f11_2 := b11.frozen 2
  have f11_3 := b11.frozen 3
  have f11_4 := b11.frozen 4
  have f11_5 := b11.frozen 5
  have f11_6 := b11.frozen 6
  clear b11
  have E10 : Hid (Env D w [(w3.heap.size, 27, [.int .i64 (nx + 1), .bool true, .int .i64 fr2, .int .i64 to2, .int .i64 kd2, .int .i64 nx, .slice r1a body2.length r1k, .slice lsb dn.length lsj, .int .i64 tr]), (w.heap.size + 1 + 1 + 1, 24, [.int .i64 0, .int .i64 0, .int .i64 0, .int .i64 0, .slice none 0 0]), (w.heap.size + 1 + 1, 27, [.int .i64 0, .bool false, .int .i64 0, .int .i64 0, .int .i64 0, .int .i64 0, .slice none 0 0, .slice none 0 0, .int .i64 0]), (w.heap.size + 1, 24, [.int .i64 fr2, .int .i64 to2, .int .i64 kd2, .int .i64 nx, .slice ya body2.length yk]), (w.heap.size, 27, [.int .i64 nx, .bool false, .int .i64 fr, .int .i64 to_, .int .i64 kd, .int .i64 nm, .slice xa body.length xk, .slice da dn.length dj, .int .i64 tr])] [.bs (.slice r1a body2.length r1k) body2, .ms (.slice lsb dn.length lsj) dn, .bs (.slice lsa body.length lsk) body, .bs (.slice ya body2.length yk) body2, .ms (.slice da dn.length dj) dn, .bs (.slice xa body.length xk) body] _) := Lib.hid ((((((E9.out.set 0 2 (.int .i64 fr2) rfl).set 0 3 (.int .i64 to2) rfl).set 0 4 (.int .i64 kd2) rfl).set 0 5 (.int .i64 nx) rfl).set 0 6 (.slice r1a body2.length r1k) rfl))
  have b12 := E10.out.bx 0 rfl
  have c12_8 := b12.cell 8 rfl
  have f12_8 := b12.frozen 8
  clear b12
  go_wp2_with fail
  have E11 : Hid (Env D w [(w3.heap.size, 27, [.int .i64 (nx + 1), .bool true, .int .i64 fr2, .int .i64 to2, .int .i64 kd2, .int .i64 nx, .slice r1a body2.length r1k, .slice lsb dn.length lsj, .int .i64 1]), (w.heap.size + 1 + 1 + 1, 24, [.int .i64 0, .int .i64 0, .int .i64 0, .int .i64 0, .slice none 0 0]), (w.heap.size + 1 + 1, 27, [.int .i64 0, .bool false, .int .i64 0, .int .i64 0, .int .i64 0, .int .i64 0, .slice none 0 0, .slice none 0 0, .int .i64 0]), (w.heap.size + 1, 24, [.int .i64 fr2, .int .i64 to2, .int .i64 kd2, .int .i64 nx, .slice ya body2.length yk]), (w.heap.size, 27, [.int .i64 nx, .bool false, .int .i64 fr, .int .i64 to_, .int .i64 kd, .int .i64 nm, .slice xa body.length xk, .slice da dn.length dj, .int .i64 tr])] [.bs (.slice r1a body2.length r1k) body2, .ms (.slice lsb dn.length lsj) dn, .bs (.slice lsa body.length lsk) body, .bs (.slice ya body2.length yk) body2, .ms (.slice da dn.length dj) dn, .bs (.slice xa body.length xk) body] _) := Lib.hid ((E10.out.set 0 8 (.int .i64 1) rfl))
  clear c10_1 f10_1 c11_2 c11_3 c11_4 c11_5 c11_6 f11_2 f11_3 f11_4 f11_5 f11_6 c12_8 f12_8 E8 E9 E10
  generalize ((((((w4.setCell ⟨w3.heap.size, 1, none⟩ (.bool true)).setCell ⟨w3.heap.size, 2, none⟩ (.int .i64 fr2)).setCell ⟨w3.heap.size, 3, none⟩ (.int .i64 to2)).setCell ⟨w3.heap.size, 4, none⟩ (.int .i64 kd2)).setCell ⟨w3.heap.size, 5, none⟩ (.int .i64 nx)).setCell ⟨w3.heap.size, 6, none⟩ (.slice r1a body2.length r1k)).setCell ⟨w3.heap.size, 8, none⟩ (.int .i64 1) = w5 at *
  have E12 := Lib.hid E11.out.drew
  clear E11
  refine wp_region_held_drew (S := fun w' => w'.cell? ⟨w3.heap.size, 0, none⟩ = some (.int .i64 (nx + 1)) ∧ w'.cell? ⟨w3.heap.size, 1, none⟩ = some (.bool true) ∧ w'.cell? ⟨w3.heap.size, 2, none⟩ = some (.int .i64 fr2) ∧ w'.cell? ⟨w3.heap.size, 3, none⟩ = some (.int .i64 to2) ∧ w'.cell? ⟨w3.heap.size, 4, none⟩ = some (.int .i64 kd2) ∧ w'.cell? ⟨w3.heap.size, 5, none⟩ = some (.int .i64 nx) ∧ w'.cell? ⟨w3.heap.size, 6, none⟩ = some (.slice r1a body2.length r1k) ∧ w'.cell? ⟨w3.heap.size, 7, none⟩ = some (.slice lsb dn.length lsj) ∧ w'.cell? ⟨w3.heap.size, 8, none⟩ = some (.int .i64 1) ∧ w'.cell? ⟨w.heap.size + 1, 0, none⟩ = some (.int .i64 fr2) ∧ w'.cell? ⟨w.heap.size + 1, 1, none⟩ = some (.int .i64 to2) ∧ w'.cell? ⟨w.heap.size + 1, 2, none⟩ = some (.int .i64 kd2) ∧ w'.cell? ⟨w.heap.size + 1, 3, none⟩ = some (.int .i64 nx) ∧ w'.cell? ⟨w.heap.size + 1, 4, none⟩ = some (.slice ya body2.length yk)) (by kernel_rfl) (⟨((E12.out.bx 0 rfl).cell 0 rfl), ((E12.out.bx 0 rfl).cell 1 rfl), ((E12.out.bx 0 rfl).cell 2 rfl), ((E12.out.bx 0 rfl).cell 3 rfl), ((E12.out.bx 0 rfl).cell 4 rfl), ((E12.out.bx 0 rfl).cell 5 rfl), ((E12.out.bx 0 rfl).cell 6 rfl), ((E12.out.bx 0 rfl).cell 7 rfl), ((E12.out.bx 0 rfl).cell 8 rfl), ((E12.out.bx 3 rfl).cell 0 rfl), ((E12.out.bx 3 rfl).cell 1 rfl), ((E12.out.bx 3 rfl).cell 2 rfl), ((E12.out.bx 3 rfl).cell 3 rfl), ((E12.out.bx 3 rfl).cell 4 rfl)⟩) (fun hHeld => ?_)
  refine takeW (i := 0) (some 44) (v := ?_) rfl rfl (by kernel_rfl) (by kernel_rfl) (by kernel_rfl) (fun _ _ _ h => h) (by rfl) (by assumption) ?_ ?_
  rotate_left
  · (intro wS hSw; (try dsimp only at hSw); go_simp; try with_reducible rfl)
  try simp only [Act.put, List.setIfInBounds_toArray, List.set_cons_zero, List.set_cons_succ]
  refine takeW (i := 1) (some 45) (v := ?_) rfl rfl (by kernel_rfl) (by kernel_rfl) (by kernel_rfl) (fun _ _ _ h => h) (by rfl) (by assumption) ?_ ?_
  rotate_left
  · (intro wS hSw; (try dsimp only at hSw); go_simp; try with_reducible rfl)
  try simp only [Act.put, List.setIfInBounds_toArray, List.set_cons_zero, List.set_cons_succ]
  refine wpAnyH_ready (rs := [2]) (by kernel_rfl) (by simp) ?_
  refine AllReadyH.cons rfl (fun KK hKK => ?_) AllReadyH.nil
  go_simp
  refine (copyOf_c ⟨fr2, to2, kd2, nx, body2⟩ (E12.out.fc 3 rfl) hl2.out).mono ?_
  rintro e w6 ⟨⟨r2a, r2k, rfl, hr2⟩, hbr⟩
  have E13 := Lib.hid (E12.out.got (E12.out.below hbr) (.bs (.slice r2a body2.length r2k) body2) hr2.out)
  clear E12 hbr hr2
  (try dsimp only)
  clear hHeld
  refine hKK.out _ _ (⟨((E13.out.bx 0 rfl).cell 0 rfl), ((E13.out.bx 0 rfl).cell 1 rfl), ((E13.out.bx 0 rfl).cell 2 rfl), ((E13.out.bx 0 rfl).cell 3 rfl), ((E13.out.bx 0 rfl).cell 4 rfl), ((E13.out.bx 0 rfl).cell 5 rfl), ((E13.out.bx 0 rfl).cell 6 rfl), ((E13.out.bx 0 rfl).cell 7 rfl), ((E13.out.bx 0 rfl).cell 8 rfl), ((E13.out.bx 3 rfl).cell 0 rfl), ((E13.out.bx 3 rfl).cell 1 rfl), ((E13.out.bx 3 rfl).cell 2 rfl), ((E13.out.bx 3 rfl).cell 3 rfl), ((E13.out.bx 3 rfl).cell 4 rfl)⟩) (fun hHeld => ?_)
  clear hKK KK
  try simp only [Act.put, List.setIfInBounds_toArray, List.set_cons_zero, List.set_cons_succ]
  have b13 := E13.out.bx 2 rfl
  have c13_0 := b13.cell 0 rfl
  have c13_1 := b13.cell 1 rfl
  have c13_2 := b13.cell 2 rfl
  have c13_3 := b13.cell 3 rfl
  have c13_4 := b13.cell 4 rfl
  have c13_5 := b13.cell 5 rfl
  have c13_6 := b13.cell 6 rfl
  have c13_7 := b13.cell 7 rfl
  have c13_8 := b13.cell 8 rfl
  have f13_0 := b13.frozen 0
  have f13_1 := b13.frozen 1
  have f13_2 := b13.frozen 2
  have f13_3 := b13.frozen 3
  have f13_4 := b13.frozen 4
  have f13_5 := b13.frozen 5
  have f13_6 := b13.frozen 6
  have f13_7 := b13.frozen 7
  have f13_8 := b13.frozen 8
  clear b13
  refine wpAnyH_next (i := 3) (by kernel_rfl) rfl (fun KK hKK => ?_)
  go_simp
  have E14 : Hid (Env D w [(w3.heap.size, 27, [.int .i64 (nx + 1), .bool true, .int .i64 fr2, .int .i64 to2, .int .i64 kd2, .int .i64 nx, .slice r1a body2.length r1k, .slice lsb dn.length lsj, .int .i64 1]), (w.heap.size + 1 + 1 + 1, 24, [.int .i64 0, .int .i64 0, .int .i64 0, .int .i64 0, .slice none 0 0]), (w.heap.size + 1 + 1, 27, [.int .i64 (nx + 1), .bool true, .int .i64 fr2, .int .i64 to2, .int .i64 kd2, .int .i64 nx, .slice r1a body2.length r1k, .slice lsb dn.length lsj, .int .i64 1]), (w.heap.size + 1, 24, [.int .i64 fr2, .int .i64 to2, .int .i64 kd2, .int .i64 nx, .slice ya body2.length yk]), (w.heap.size, 27, [.int .i64 nx, .bool false, .int .i64 fr, .int .i64 to_, .int .i64 kd, .int .i64 nm, .slice xa body.length xk, .slice da dn.length dj, .int .i64 tr])] [.bs (.slice r2a body2.length r2k) body2, .bs (.slice r1a body2.length r1k) body2, .ms (.slice lsb dn.length lsj) dn, .bs (.slice lsa body.length lsk) body, .bs (.slice ya body2.length yk) body2, .ms (.slice da dn.length dj) dn, .bs (.slice xa body.length xk) body] _) := Lib.hid ((((((((((E13.out.set 2 0 (.int .i64 (nx + 1)) rfl).set 2 1 (.bool true) rfl).set 2 2 (.int .i64 fr2) rfl).set 2 3 (.int .i64 to2) rfl).set 2 4 (.int .i64 kd2) rfl).set 2 5 (.int .i64 nx) rfl).set 2 6 (.slice r1a body2.length r1k) rfl).set 2 7 (.slice lsb dn.length lsj) rfl).set 2 8 (.int .i64 1) rfl))
  refine hKK.out _ _ (⟨((E14.out.bx 0 rfl).cell 0 rfl), ((E14.out.bx 0 rfl).cell 1 rfl), ((E14.out.bx 0 rfl).cell 2 rfl), ((E14.out.bx 0 rfl).cell 3 rfl), ((E14.out.bx 0 rfl).cell 4 rfl), ((E14.out.bx 0 rfl).cell 5 rfl), ((E14.out.bx 0 rfl).cell 6 rfl), ((E14.out.bx 0 rfl).cell 7 rfl), ((E14.out.bx 0 rfl).cell 8 rfl), ((E14.out.bx 3 rfl).cell 0 rfl), ((E14.out.bx 3 rfl).cell 1 rfl), ((E14.out.bx 3 rfl).cell 2 rfl), ((E14.out.bx 3 rfl).cell 3 rfl), ((E14.out.bx 3 rfl).cell 4 rfl)⟩) ?_
  clear hKK KK
  have b14 := E14.out.bx 1 rfl
  have c14_0 := b14.cell 0 rfl
  have c14_1 := b14.cell 1 rfl
  have c14_2 := b14.cell 2 rfl
  have c14_3 := b14.cell 3 rfl
  have c14_4 := b14.cell 4 rfl
  have f14_0 := b14.frozen 0
  have f14_1 := b14.frozen 1
  have f14_2 := b14.frozen 2
  have f14_3 := b14.frozen 3
  have f14_4 := b14.frozen 4
  clear b14
  refine wpAnyH_next (i := 4) (by kernel_rfl) rfl (fun KK hKK => ?_)
  go_simp
  have E15 : Hid (Env D w [(w3.heap.size, 27, [.int .i64 (nx + 1), .bool true, .int .i64 fr2, .int .i64 to2, .int .i64 kd2, .int .i64 nx, .slice r1a body2.length r1k, .slice lsb dn.length lsj, .int .i64 1]), (w.heap.size + 1 + 1 + 1, 24, [.int .i64 fr2, .int .i64 to2, .int .i64 kd2, .int .i64 nx, .slice r2a body2.length r2k]), (w.heap.size + 1 + 1, 27, [.int .i64 (nx + 1), .bool true, .int .i64 fr2, .int .i64 to2, .int .i64 kd2, .int .i64 nx, .slice r1a body2.length r1k, .slice lsb dn.length lsj, .int .i64 1]), (w.heap.size + 1, 24, [.int .i64 fr2, .int .i64 to2, .int .i64 kd2, .int .i64 nx, .slice ya body2.length yk]), (w.heap.size, 27, [.int .i64 nx, .bool false, .int .i64 fr, .int .i64 to_, .int .i64 kd, .int .i64 nm, .slice xa body.length xk, .slice da dn.length dj, .int .i64 tr])] [.bs (.slice r2a body2.length r2k) body2, .bs (.slice r1a body2.length r1k) body2, .ms (.slice lsb dn.length lsj) dn, .bs (.slice lsa body.length lsk) body, .bs (.slice ya body2.length yk) body2, .ms (.slice da dn.length dj) dn, .bs (.slice xa body.length xk) body] _) := Lib.hid ((((((E14.out.set 1 0 (.int .i64 fr2) rfl).set 1 1 (.int .i64 to2) rfl).set 1 2 (.int .i64 kd2) rfl).set 1 3 (.int .i64 nx) rfl).set 1 4 (.slice r2a body2.length r2k) rfl))
  refine hKK.out _ _ (⟨((E15.out.bx 0 rfl).cell 0 rfl), ((E15.out.bx 0 rfl).cell 1 rfl), ((E15.out.bx 0 rfl).cell 2 rfl), ((E15.out.bx 0 rfl).cell 3 rfl), ((E15.out.bx 0 rfl).cell 4 rfl), ((E15.out.bx 0 rfl).cell 5 rfl), ((E15.out.bx 0 rfl).cell 6 rfl), ((E15.out.bx 0 rfl).cell 7 rfl), ((E15.out.bx 0 rfl).cell 8 rfl), ((E15.out.bx 3 rfl).cell 0 rfl), ((E15.out.bx 3 rfl).cell 1 rfl), ((E15.out.bx 3 rfl).cell 2 rfl), ((E15.out.bx 3 rfl).cell 3 rfl), ((E15.out.bx 3 rfl).cell 4 rfl)⟩) ?_
  clear hKK KK
  refine wpAnyH_next (i := 5) (by kernel_rfl) rfl (fun KK hKK => ?_)
  go_simp
  refine hKK.out _ _ (⟨((E15.out.bx 0 rfl).cell 0 rfl), ((E15.out.bx 0 rfl).cell 1 rfl), ((E15.out.bx 0 rfl).cell 2 rfl), ((E15.out.bx 0 rfl).cell 3 rfl), ((E15.out.bx 0 rfl).cell 4 rfl), ((E15.out.bx 0 rfl).cell 5 rfl), ((E15.out.bx 0 rfl).cell 6 rfl), ((E15.out.bx 0 rfl).cell 7 rfl), ((E15.out.bx 0 rfl).cell 8 rfl), ((E15.out.bx 3 rfl).cell 0 rfl), ((E15.out.bx 3 rfl).cell 1 rfl), ((E15.out.bx 3 rfl).cell 2 rfl), ((E15.out.bx 3 rfl).cell 3 rfl), ((E15.out.bx 3 rfl).cell 4 rfl)⟩) ?_
  clear hKK KK
  refine wpAnyH_done (by kernel_rfl) ?_ _
  have b15 := E15.out.bx 2 rfl
  have c15_0 := b15.cell 0 rfl
  have c15_1 := b15.cell 1 rfl
  have c15_2 := b15.cell 2 rfl
  have c15_3 := b15.cell 3 rfl
  have c15_4 := b15.cell 4 rfl
  have c15_5 := b15.cell 5 rfl
  have c15_6 := b15.cell 6 rfl
  have c15_7 := b15.cell 7 rfl
  have c15_8 := b15.cell 8 rfl
  clear b15
  have b16 := E15.out.bx 1 rfl
  have c16_0 := b16.cell 0 rfl
  have c16_1 := b16.cell 1 rfl
  have c16_2 := b16.cell 2 rfl
  have c16_3 := b16.cell 3 rfl
  have c16_4 := b16.cell 4 rfl
  clear b16
  go_wp2
  have hfin := E15.out
  have q17 := (hfin.bx 2 rfl).cell 0 rfl
  have q18 := (hfin.bx 2 rfl).cell 1 rfl
  have q19 := (hfin.bx 2 rfl).cell 2 rfl
  have q20 := (hfin.bx 2 rfl).cell 3 rfl
  have q21 := (hfin.bx 2 rfl).cell 4 rfl
  have q22 := (hfin.bx 2 rfl).cell 5 rfl
  have q23 := (hfin.bx 2 rfl).cell 6 rfl
  have q24 := (hfin.bx 2 rfl).cell 7 rfl
  have q25 := (hfin.bx 2 rfl).cell 8 rfl
  have q26 := (hfin.bx 1 rfl).cell 0 rfl
  have q27 := (hfin.bx 1 rfl).cell 1 rfl
  have q28 := (hfin.bx 1 rfl).cell 2 rfl
  have q29 := (hfin.bx 1 rfl).cell 3 rfl
  have q30 := (hfin.bx 1 rfl).cell 4 rfl
  exact bodyPost_ret (v := .tuple #[.agg #[.int .i64 (nx + 1), .bool true, .int .i64 fr2, .int .i64 to2, .int .i64 kd2, .int .i64 nx, .slice r1a body2.length r1k, .slice lsb dn.length lsj, .int .i64 1], .agg #[.int .i64 fr2, .int .i64 to2, .int .i64 kd2, .int .i64 nx, .slice r2a body2.length r2k], .int .i64 0]) (by simp [results, Try.results24, go_sem, q17, q18, q19, q20, q21, q22, q23, q24, q25, q26, q27, q28, q29, q30]) rfl ⟨⟨_, _, _, _, _, _, rfl, (Lib.hid (hfin.out 1 rfl)), (Lib.hid (hfin.out 2 rfl)), (Lib.hid (hfin.out 0 rfl))⟩, hfin.bel⟩
set_option maxRecDepth 100000 in
set_option maxHeartbeats 1000000 in
theorem Again_1 {D : Nat → Prop} (nx fr to_ kd nm tr : Int) (wt : Bool) (body : List Nat) (dn : List Msg) {xa da : Option Addr} {xk dj : Nat} {w : World} (hx : Fct.at w D (.bs (.slice xa body.length xk) body)) (hy : Fct.at w D (.ms (.slice da dn.length dj) dn)) (hS0 : ¬ SesOk ⟨nx, wt, ⟨fr, to_, kd, nm, body⟩, dn, tr⟩) :
    Calls Try.prog 26 #[.agg #[.int .i64 nx, .bool wt, .int .i64 fr, .int .i64 to_, .int .i64 kd, .int .i64 nm, .slice xa body.length xk, .slice da dn.length dj, .int .i64 tr]] w fun e w' => RetSM (fun b => D b ∨ w.heap.size ≤ b) S0 M0 1 e w' ∧ Below w.heap.size w w' := by
  have E0 := Lib.hid (((Env.start D w).arg (.bs (.slice xa body.length xk) body) hx).arg (.ms (.slice da dn.length dj) dn) hy)
  clear hx hy
  go_enter Try.func26, Try.ntmps26
  have hS := Lib.hid hS0
  clear hS0
  go_wp2_with fail
  have E1 := Lib.hid ((((E0.out.push 27 [.int .i64 nx, .bool wt, .int .i64 fr, .int .i64 to_, .int .i64 kd, .int .i64 nm, .slice xa body.length xk, .slice da dn.length dj, .int .i64 tr] (w.heap.size) (by simp)).push 27 [.int .i64 0, .bool false, .int .i64 0, .int .i64 0, .int .i64 0, .int .i64 0, .slice none 0 0, .slice none 0 0, .int .i64 0] (w.heap.size + 1) (by simp)).push 24 [.int .i64 0, .int .i64 0, .int .i64 0, .int .i64 0, .slice none 0 0] (w.heap.size + 1 + 1) (by simp)))
  refine (Valid_f (S := ⟨nx, wt, ⟨fr, to_, kd, nm, body⟩, dn, tr⟩) hS.out (E1.out.fc 1 rfl) (E1.out.fc 0 rfl)).mono ?_
  rintro e w1 ⟨rfl, hb⟩
  have E2 := Lib.hid (E1.out.below hb)
  clear E0 E1 hb
  have b1 := E2.out.bx 1 rfl
  have c1_0 := b1.cell 0 rfl
  have c1_1 := b1.cell 1 rfl
  have c1_2 := b1.cell 2 rfl
  have c1_3 := b1.cell 3 rfl
  have c1_4 := b1.cell 4 rfl
  have c1_5 := b1.cell 5 rfl
  have c1_6 := b1.cell 6 rfl
  have c1_7 := b1.cell 7 rfl
  have c1_8 := b1.cell 8 rfl
  have f1_0 := b1.frozen 0
  have f1_1 := b1.frozen 1
  have f1_2 := b1.frozen 2
  have f1_3 := b1.frozen 3
  have f1_4 := b1.frozen 4
  have f1_5 := b1.frozen 5
  have f1_6 := b1.frozen 6
  have f1_7 := b1.frozen 7
  have f1_8 := b1.frozen 8
  clear b1
  have E3 : Hid (Env D w [(w.heap.size + 1 + 1, 24, [.int .i64 0, .int .i64 0, .int .i64 0, .int .i64 0, .slice none 0 0]), (w.heap.size + 1, 27, [.int .i64 0, .bool false, .int .i64 0, .int .i64 0, .int .i64 0, .int .i64 0, .slice none 0 0, .slice none 0 0, .int .i64 0]), (w.heap.size, 27, [.int .i64 nx, .bool wt, .int .i64 fr, .int .i64 to_, .int .i64 kd, .int .i64 nm, .slice xa body.length xk, .slice da dn.length dj, .int .i64 tr])] [.ms (.slice da dn.length dj) dn, .bs (.slice xa body.length xk) body] _) := Lib.hid ((((((((((E2.out.set 1 0 (.int .i64 0) rfl).set 1 1 (.bool false) rfl).set 1 2 (.int .i64 0) rfl).set 1 3 (.int .i64 0) rfl).set 1 4 (.int .i64 0) rfl).set 1 5 (.int .i64 0) rfl).set 1 6 (.slice none 0 0) rfl).set 1 7 (.slice none 0 0) rfl).set 1 8 (.int .i64 0) rfl))
  have b2 := E3.out.bx 0 rfl
  have c2_0 := b2.cell 0 rfl
  have c2_1 := b2.cell 1 rfl
  have c2_2 := b2.cell 2 rfl
  have c2_3 := b2.cell 3 rfl
  have c2_4 := b2.cell 4 rfl
  have f2_0 := b2.frozen 0
  have f2_1 := b2.frozen 1
  have f2_2 := b2.frozen 2
  have f2_3 := b2.frozen 3
  have f2_4 := b2.frozen 4
  clear b2
  have E4 : Hid (Env D w [(w.heap.size + 1 + 1, 24, [.int .i64 0, .int .i64 0, .int .i64 0, .int .i64 0, .slice none 0 0]), (w.heap.size + 1, 27, [.int .i64 0, .bool false, .int .i64 0, .int .i64 0, .int .i64 0, .int .i64 0, .slice none 0 0, .slice none 0 0, .int .i64 0]), (w.heap.size, 27, [.int .i64 nx, .bool wt, .int .i64 fr, .int .i64 to_, .int .i64 kd, .int .i64 nm, .slice xa body.length xk, .slice da dn.length dj, .int .i64 tr])] [.ms (.slice da dn.length dj) dn, .bs (.slice xa body.length xk) body] _) := Lib.hid ((((((E3.out.set 0 0 (.int .i64 0) rfl).set 0 1 (.int .i64 0) rfl).set 0 2 (.int .i64 0) rfl).set 0 3 (.int .i64 0) rfl).set 0 4 (.slice none 0 0) rfl))
  have b3 := E4.out.bx 1 rfl
  have c3_0 := b3.cell 0 rfl
  have c3_1 := b3.cell 1 rfl
  have c3_2 := b3.cell 2 rfl
  have c3_3 := b3.cell 3 rfl
  have c3_4 := b3.cell 4 rfl
  have c3_5 := b3.cell 5 rfl
  have c3_6 := b3.cell 6 rfl
  have c3_7 := b3.cell 7 rfl
  have c3_8 := b3.cell 8 rfl
  clear b3
  have b4 := E4.out.bx 0 rfl
  have c4_0 := b4.cell 0 rfl
  have c4_1 := b4.cell 1 rfl
  have c4_2 := b4.cell 2 rfl
  have c4_3 := b4.cell 3 rfl
  have c4_4 := b4.cell 4 rfl
  clear b4
  go_wp2
  have hfin := E4.out
  have q5 := (hfin.bx 1 rfl).cell 0 rfl
  have q6 := (hfin.bx 1 rfl).cell 1 rfl
  have q7 := (hfin.bx 1 rfl).cell 2 rfl
  have q8 := (hfin.bx 1 rfl).cell 3 rfl
  have q9 := (hfin.bx 1 rfl).cell 4 rfl
  have q10 := (hfin.bx 1 rfl).cell 5 rfl
  have q11 := (hfin.bx 1 rfl).cell 6 rfl
  have q12 := (hfin.bx 1 rfl).cell 7 rfl
  have q13 := (hfin.bx 1 rfl).cell 8 rfl
  have q14 := (hfin.bx 0 rfl).cell 0 rfl
  have q15 := (hfin.bx 0 rfl).cell 1 rfl
  have q16 := (hfin.bx 0 rfl).cell 2 rfl
  have q17 := (hfin.bx 0 rfl).cell 3 rfl
  have q18 := (hfin.bx 0 rfl).cell 4 rfl
  exact bodyPost_ret (v := .tuple #[.agg #[.int .i64 0, .bool false, .int .i64 0, .int .i64 0, .int .i64 0, .int .i64 0, .slice none 0 0, .slice none 0 0, .int .i64 0], .agg #[.int .i64 0, .int .i64 0, .int .i64 0, .int .i64 0, .slice none 0 0], .int .i64 1]) (by simp [results, Try.results26, go_sem, q5, q6, q7, q8, q9, q10, q11, q12, q13, q14, q15, q16, q17, q18]) rfl ⟨⟨none, 0, none, 0, none, 0, rfl, Lib.hid (Bs.nil _ _), Lib.hid (Ms.nil _ _), Lib.hid (Bs.nil _ _)⟩, hfin.bel⟩
set_option maxRecDepth 100000 in
set_option maxHeartbeats 1000000 in
theorem Again_6 {D : Nat → Prop} (nx fr to_ kd nm tr : Int) (body : List Nat) (dn : List Msg) {xa da : Option Addr} {xk dj : Nat} {w : World} (hx : Fct.at w D (.bs (.slice xa body.length xk) body)) (hy : Fct.at w D (.ms (.slice da dn.length dj) dn)) (hS0 : SesOk ⟨nx, false, ⟨fr, to_, kd, nm, body⟩, dn, tr⟩) :
    Calls Try.prog 26 #[.agg #[.int .i64 nx, .bool false, .int .i64 fr, .int .i64 to_, .int .i64 kd, .int .i64 nm, .slice xa body.length xk, .slice da dn.length dj, .int .i64 tr]] w fun e w' => RetSM (fun b => D b ∨ w.heap.size ≤ b) S0 M0 6 e w' ∧ Below w.heap.size w w' := by
  have E0 := Lib.hid (((Env.start D w).arg (.bs (.slice xa body.length xk) body) hx).arg (.ms (.slice da dn.length dj) dn) hy)
  clear hx hy
  go_enter Try.func26, Try.ntmps26
  have hS := Lib.hid hS0
  clear hS0
  go_wp2_with fail
  have E1 := Lib.hid ((((E0.out.push 27 [.int .i64 nx, .bool false, .int .i64 fr, .int .i64 to_, .int .i64 kd, .int .i64 nm, .slice xa body.length xk, .slice da dn.length dj, .int .i64 tr] (w.heap.size) (by simp)).push 27 [.int .i64 0, .bool false, .int .i64 0, .int .i64 0, .int .i64 0, .int .i64 0, .slice none 0 0, .slice none 0 0, .int .i64 0] (w.heap.size + 1) (by simp)).push 24 [.int .i64 0, .int .i64 0, .int .i64 0, .int .i64 0, .slice none 0 0] (w.heap.size + 1 + 1) (by simp)))
  refine (Valid_t (S := ⟨nx, false, ⟨fr, to_, kd, nm, body⟩, dn, tr⟩) hS.out (E1.out.fc 1 rfl) (E1.out.fc 0 rfl)).mono ?_
  rintro e w1 ⟨rfl, hb⟩
  have E2 := Lib.hid (E1.out.below hb)
  clear E0 E1 hb
  have b1 := E2.out.bx 2 rfl
  have c1_1 := b1.cell 1 rfl
  clear b1
  have b2 := E2.out.bx 1 rfl
  have c2_0 := b2.cell 0 rfl
  have c2_1 := b2.cell 1 rfl
  have c2_2 := b2.cell 2 rfl
  have c2_3 := b2.cell 3 rfl
  have c2_4 := b2.cell 4 rfl
  have c2_5 := b2.cell 5 rfl
  have c2_6 := b2.cell 6 rfl
  have c2_7 := b2.cell 7 rfl
  have c2_8 := b2.cell 8 rfl
  have f2_0 := b2.frozen 0
  have f2_1 := b2.frozen 1
  have f2_2 := b2.frozen 2
  have f2_3 := b2.frozen 3
  have f2_4 := b2.frozen 4
  have f2_5 := b2.frozen 5
  have f2_6 := b2.frozen 6
  have f2_7 := b2.frozen 7
  have f2_8 := b2.frozen 8
  clear b2
  have E3 : Hid (Env D w [(w.heap.size + 1 + 1, 24, [.int .i64 0, .int .i64 0, .int .i64 0, .int .i64 0, .slice none 0 0]), (w.heap.size + 1, 27, [.int .i64 0, .bool false, .int .i64 0, .int .i64 0, .int .i64 0, .int .i64 0, .slice none 0 0, .slice none 0 0, .int .i64 0]), (w.heap.size, 27, [.int .i64 nx, .bool false, .int .i64 fr, .int .i64 to_, .int .i64 kd, .int .i64 nm, .slice xa body.length xk, .slice da dn.length dj, .int .i64 tr])] [.ms (.slice da dn.length dj) dn, .bs (.slice xa body.length xk) body] _) := Lib.hid ((((((((((E2.out.set 1 0 (.int .i64 0) rfl).set 1 1 (.bool false) rfl).set 1 2 (.int .i64 0) rfl).set 1 3 (.int .i64 0) rfl).set 1 4 (.int .i64 0) rfl).set 1 5 (.int .i64 0) rfl).set 1 6 (.slice none 0 0) rfl).set 1 7 (.slice none 0 0) rfl).set 1 8 (.int .i64 0) rfl))
  have b3 := E3.out.bx 0 rfl
  have c3_0 := b3.cell 0 rfl
  have c3_1 := b3.cell 1 rfl
  have c3_2 := b3.cell 2 rfl
  have c3_3 := b3.cell 3 rfl
  have c3_4 := b3.cell 4 rfl
  have f3_0 := b3.frozen 0
  have f3_1 := b3.frozen 1
  have f3_2 := b3.frozen 2
  have f3_3 := b3.frozen 3
  have f3_4 := b3.frozen 4
  clear b3
  have E4 : Hid (Env D w [(w.heap.size + 1 + 1, 24, [.int .i64 0, .int .i64 0, .int .i64 0, .int .i64 0, .slice none 0 0]), (w.heap.size + 1, 27, [.int .i64 0, .bool false, .int .i64 0, .int .i64 0, .int .i64 0, .int .i64 0, .slice none 0 0, .slice none 0 0, .int .i64 0]), (w.heap.size, 27, [.int .i64 nx, .bool false, .int .i64 fr, .int .i64 to_, .int .i64 kd, .int .i64 nm, .slice xa body.length xk, .slice da dn.length dj, .int .i64 tr])] [.ms (.slice da dn.length dj) dn, .bs (.slice xa body.length xk) body] _) := Lib.hid ((((((E3.out.set 0 0 (.int .i64 0) rfl).set 0 1 (.int .i64 0) rfl).set 0 2 (.int .i64 0) rfl).set 0 3 (.int .i64 0) rfl).set 0 4 (.slice none 0 0) rfl))
  have b4 := E4.out.bx 1 rfl
  have c4_0 := b4.cell 0 rfl
  have c4_1 := b4.cell 1 rfl
  have c4_2 := b4.cell 2 rfl
  have c4_3 := b4.cell 3 rfl
  have c4_4 := b4.cell 4 rfl
  have c4_5 := b4.cell 5 rfl
  have c4_6 := b4.cell 6 rfl
  have c4_7 := b4.cell 7 rfl
  have c4_8 := b4.cell 8 rfl
  clear b4
  have b5 := E4.out.bx 0 rfl
  have c5_0 := b5.cell 0 rfl
  have c5_1 := b5.cell 1 rfl
  have c5_2 := b5.cell 2 rfl
  have c5_3 := b5.cell 3 rfl
  have c5_4 := b5.cell 4 rfl
  clear b5
  go_wp2
  have hfin := E4.out
  have q6 := (hfin.bx 1 rfl).cell 0 rfl
  have q7 := (hfin.bx 1 rfl).cell 1 rfl
  have q8 := (hfin.bx 1 rfl).cell 2 rfl
  have q9 := (hfin.bx 1 rfl).cell 3 rfl
  have q10 := (hfin.bx 1 rfl).cell 4 rfl
  have q11 := (hfin.bx 1 rfl).cell 5 rfl
  have q12 := (hfin.bx 1 rfl).cell 6 rfl
  have q13 := (hfin.bx 1 rfl).cell 7 rfl
  have q14 := (hfin.bx 1 rfl).cell 8 rfl
  have q15 := (hfin.bx 0 rfl).cell 0 rfl
  have q16 := (hfin.bx 0 rfl).cell 1 rfl
  have q17 := (hfin.bx 0 rfl).cell 2 rfl
  have q18 := (hfin.bx 0 rfl).cell 3 rfl
  have q19 := (hfin.bx 0 rfl).cell 4 rfl
  exact bodyPost_ret (v := .tuple #[.agg #[.int .i64 0, .bool false, .int .i64 0, .int .i64 0, .int .i64 0, .int .i64 0, .slice none 0 0, .slice none 0 0, .int .i64 0], .agg #[.int .i64 0, .int .i64 0, .int .i64 0, .int .i64 0, .slice none 0 0], .int .i64 6]) (by simp [results, Try.results26, go_sem, q6, q7, q8, q9, q10, q11, q12, q13, q14, q15, q16, q17, q18, q19]) rfl ⟨⟨none, 0, none, 0, none, 0, rfl, Lib.hid (Bs.nil _ _), Lib.hid (Ms.nil _ _), Lib.hid (Bs.nil _ _)⟩, hfin.bel⟩
set_option maxRecDepth 100000 in
set_option maxHeartbeats 1000000 in
theorem Again_5 {D : Nat → Prop} (nx fr to_ kd nm : Int) (body : List Nat) (dn : List Msg) {xa da : Option Addr} {xk dj : Nat} {w : World} (hx : Fct.at w D (.bs (.slice xa body.length xk) body)) (hy : Fct.at w D (.ms (.slice da dn.length dj) dn)) (hS0 : SesOk ⟨nx, true, ⟨fr, to_, kd, nm, body⟩, dn, 100⟩) :
    Calls Try.prog 26 #[.agg #[.int .i64 nx, .bool true, .int .i64 fr, .int .i64 to_, .int .i64 kd, .int .i64 nm, .slice xa body.length xk, .slice da dn.length dj, .int .i64 100]] w fun e w' => RetSM (fun b => D b ∨ w.heap.size ≤ b) S0 M0 5 e w' ∧ Below w.heap.size w w' := by
  have E0 := Lib.hid (((Env.start D w).arg (.bs (.slice xa body.length xk) body) hx).arg (.ms (.slice da dn.length dj) dn) hy)
  clear hx hy
  go_enter Try.func26, Try.ntmps26
  have hS := Lib.hid hS0
  clear hS0
  go_wp2_with fail
  have E1 := Lib.hid ((((E0.out.push 27 [.int .i64 nx, .bool true, .int .i64 fr, .int .i64 to_, .int .i64 kd, .int .i64 nm, .slice xa body.length xk, .slice da dn.length dj, .int .i64 100] (w.heap.size) (by simp)).push 27 [.int .i64 0, .bool false, .int .i64 0, .int .i64 0, .int .i64 0, .int .i64 0, .slice none 0 0, .slice none 0 0, .int .i64 0] (w.heap.size + 1) (by simp)).push 24 [.int .i64 0, .int .i64 0, .int .i64 0, .int .i64 0, .slice none 0 0] (w.heap.size + 1 + 1) (by simp)))
  refine (Valid_t (S := ⟨nx, true, ⟨fr, to_, kd, nm, body⟩, dn, 100⟩) hS.out (E1.out.fc 1 rfl) (E1.out.fc 0 rfl)).mono ?_
  rintro e w1 ⟨rfl, hb⟩
  have E2 := Lib.hid (E1.out.below hb)
  clear E0 E1 hb
  have b1 := E2.out.bx 2 rfl
  have c1_1 := b1.cell 1 rfl
  clear b1
  have b2 := E2.out.bx 2 rfl
  have c2_8 := b2.cell 8 rfl
  clear b2
  have b3 := E2.out.bx 1 rfl
  have c3_0 := b3.cell 0 rfl
  have c3_1 := b3.cell 1 rfl
  have c3_2 := b3.cell 2 rfl
  have c3_3 := b3.cell 3 rfl
  have c3_4 := b3.cell 4 rfl
  have c3_5 := b3.cell 5 rfl
  have c3_6 := b3.cell 6 rfl
  have c3_7 := b3.cell 7 rfl
  have c3_8 := b3.cell 8 rfl
  have f3_0 := b3.frozen 0
  have f3_1 := b3.frozen 1
  have f3_2 := b3.frozen 2
  have f3_3 := b3.frozen 3
  have f3_4 := b3.frozen 4
  have f3_5 := b3.frozen 5
  have f3_6 := b3.frozen 6
  have f3_7 := b3.frozen 7
  have f3_8 := b3.frozen 8
  clear b3
  have E3 : Hid (Env D w [(w.heap.size + 1 + 1, 24, [.int .i64 0, .int .i64 0, .int .i64 0, .int .i64 0, .slice none 0 0]), (w.heap.size + 1, 27, [.int .i64 0, .bool false, .int .i64 0, .int .i64 0, .int .i64 0, .int .i64 0, .slice none 0 0, .slice none 0 0, .int .i64 0]), (w.heap.size, 27, [.int .i64 nx, .bool true, .int .i64 fr, .int .i64 to_, .int .i64 kd, .int .i64 nm, .slice xa body.length xk, .slice da dn.length dj, .int .i64 100])] [.ms (.slice da dn.length dj) dn, .bs (.slice xa body.length xk) body] _) := Lib.hid ((((((((((E2.out.set 1 0 (.int .i64 0) rfl).set 1 1 (.bool false) rfl).set 1 2 (.int .i64 0) rfl).set 1 3 (.int .i64 0) rfl).set 1 4 (.int .i64 0) rfl).set 1 5 (.int .i64 0) rfl).set 1 6 (.slice none 0 0) rfl).set 1 7 (.slice none 0 0) rfl).set 1 8 (.int .i64 0) rfl))
  have b4 := E3.out.bx 0 rfl
  have c4_0 := b4.cell 0 rfl
  have c4_1 := b4.cell 1 rfl
  have c4_2 := b4.cell 2 rfl
  have c4_3 := b4.cell 3 rfl
  have c4_4 := b4.cell 4 rfl
  have f4_0 := b4.frozen 0
  have f4_1 := b4.frozen 1
  have f4_2 := b4.frozen 2
  have f4_3 := b4.frozen 3
  have f4_4 := b4.frozen 4
  clear b4
  have E4 : Hid (Env D w [(w.heap.size + 1 + 1, 24, [.int .i64 0, .int .i64 0, .int .i64 0, .int .i64 0, .slice none 0 0]), (w.heap.size + 1, 27, [.int .i64 0, .bool false, .int .i64 0, .int .i64 0, .int .i64 0, .int .i64 0, .slice none 0 0, .slice none 0 0, .int .i64 0]), (w.heap.size, 27, [.int .i64 nx, .bool true, .int .i64 fr, .int .i64 to_, .int .i64 kd, .int .i64 nm, .slice xa body.length xk, .slice da dn.length dj, .int .i64 100])] [.ms (.slice da dn.length dj) dn, .bs (.slice xa body.length xk) body] _) := Lib.hid ((((((E3.out.set 0 0 (.int .i64 0) rfl).set 0 1 (.int .i64 0) rfl).set 0 2 (.int .i64 0) rfl).set 0 3 (.int .i64 0) rfl).set 0 4 (.slice none 0 0) rfl))
  have b5 := E4.out.bx 1 rfl
  have c5_0 := b5.cell 0 rfl
  have c5_1 := b5.cell 1 rfl
  have c5_2 := b5.cell 2 rfl
  have c5_3 := b5.cell 3 rfl
  have c5_4 := b5.cell 4 rfl
  have c5_5 := b5.cell 5 rfl
  have c5_6 := b5.cell 6 rfl
  have c5_7 := b5.cell 7 rfl
  have c5_8 := b5.cell 8 rfl
  clear b5
  have b6 := E4.out.bx 0 rfl
  have c6_0 := b6.cell 0 rfl
  have c6_1 := b6.cell 1 rfl
  have c6_2 := b6.cell 2 rfl
  have c6_3 := b6.cell 3 rfl
  have c6_4 := b6.cell 4 rfl
  clear b6
  go_wp2
  have hfin := E4.out
  have q7 := (hfin.bx 1 rfl).cell 0 rfl
  have q8 := (hfin.bx 1 rfl).cell 1 rfl
  have q9 := (hfin.bx 1 rfl).cell 2 rfl
  have q10 := (hfin.bx 1 rfl).cell 3 rfl
  have q11 := (hfin.bx 1 rfl).cell 4 rfl
  have q12 := (hfin.bx 1 rfl).cell 5 rfl
  have q13 := (hfin.bx 1 rfl).cell 6 rfl
  have q14 := (hfin.bx 1 rfl).cell 7 rfl
  have q15 := (hfin.bx 1 rfl).cell 8 rfl
  have q16 := (hfin.bx 0 rfl).cell 0 rfl
  have q17 := (hfin.bx 0 rfl).cell 1 rfl
  have q18 := (hfin.bx 0 rfl).cell 2 rfl
  have q19 := (hfin.bx 0 rfl).cell 3 rfl
  have q20 := (hfin.bx 0 rfl).cell 4 rfl
  exact bodyPost_ret (v := .tuple #[.agg #[.int .i64 0, .bool false, .int .i64 0, .int .i64 0, .int .i64 0, .int .i64 0, .slice none 0 0, .slice none 0 0, .int .i64 0], .agg #[.int .i64 0, .int .i64 0, .int .i64 0, .int .i64 0, .slice none 0 0], .int .i64 5]) (by simp [results, Try.results26, go_sem, q7, q8, q9, q10, q11, q12, q13, q14, q15, q16, q17, q18, q19, q20]) rfl ⟨⟨none, 0, none, 0, none, 0, rfl, Lib.hid (Bs.nil _ _), Lib.hid (Ms.nil _ _), Lib.hid (Bs.nil _ _)⟩, hfin.bel⟩
set_option maxRecDepth 100000 in
set_option maxHeartbeats 1000000 in
theorem Again_0 {D : Nat → Prop} (nx fr to_ kd nm tr : Int) (body : List Nat) (dn : List Msg) {xa da : Option Addr} {xk dj : Nat} {w : World} (hx : Fct.at w D (.bs (.slice xa body.length xk) body)) (hy : Fct.at w D (.ms (.slice da dn.length dj) dn)) (hS0 : SesOk ⟨nx, true, ⟨fr, to_, kd, nm, body⟩, dn, tr⟩) (hn0 : ¬ tr = 100) :
    Calls Try.prog 26 #[.agg #[.int .i64 nx, .bool true, .int .i64 fr, .int .i64 to_, .int .i64 kd, .int .i64 nm, .slice xa body.length xk, .slice da dn.length dj, .int .i64 tr]] w fun e w' => RetSM (fun b => D b ∨ w.heap.size ≤ b) ⟨nx, true, ⟨fr, to_, kd, nm, body⟩, dn, tr + 1⟩ ⟨fr, to_, kd, nm, body⟩ 0 e w' ∧ Below w.heap.size w w' := by
  have E0 := Lib.hid (((Env.start D w).arg (.bs (.slice xa body.length xk) body) hx).arg (.ms (.slice da dn.length dj) dn) hy)
  clear hx hy
  go_enter Try.func26, Try.ntmps26
  have hS := Lib.hid hS0
  clear hS0
  have hn := Lib.hid hn0
  clear hn0
  have hF := Lib.hid (SesOk.fair hS.out)
  go_wp2_with fail
  have E1 := Lib.hid ((((E0.out.push 27 [.int .i64 nx, .bool true, .int .i64 fr, .int .i64 to_, .int .i64 kd, .int .i64 nm, .slice xa body.length xk, .slice da dn.length dj, .int .i64 tr] (w.heap.size) (by simp)).push 27 [.int .i64 0, .bool false, .int .i64 0, .int .i64 0, .int .i64 0, .int .i64 0, .slice none 0 0, .slice none 0 0, .int .i64 0] (w.heap.size + 1) (by simp)).push 24 [.int .i64 0, .int .i64 0, .int .i64 0, .int .i64 0, .slice none 0 0] (w.heap.size + 1 + 1) (by simp)))
  refine (Valid_t (S := ⟨nx, true, ⟨fr, to_, kd, nm, body⟩, dn, tr⟩) hS.out (E1.out.fc 1 rfl) (E1.out.fc 0 rfl)).mono ?_
  rintro e w1 ⟨rfl, hb⟩
  have E2 := Lib.hid (E1.out.below hb)
  clear E0 E1 hb
  have g1 : (tr == 100) = false := by simpa using hn.out
  have ew : IntKind.i64.wrap (tr + 1) = tr + 1 := by rw [IntKind.wrap_i64]; have := hS.out.2.1 rfl; dsimp only at this; omega
  have b1 := E2.out.bx 2 rfl
  have c1_1 := b1.cell 1 rfl
  clear b1
  have b2 := E2.out.bx 2 rfl
  have c2_8 := b2.cell 8 rfl
  clear b2
  have b3 := E2.out.bx 2 rfl
  have c3_0 := b3.cell 0 rfl
  have c3_2 := b3.cell 2 rfl
  have c3_3 := b3.cell 3 rfl
  have c3_4 := b3.cell 4 rfl
  have c3_5 := b3.cell 5 rfl
  have c3_6 := b3.cell 6 rfl
  have c3_7 := b3.cell 7 rfl
  clear b3
  go_wp2_with fail
  refine (copyAll_c (S := ⟨nx, true, ⟨fr, to_, kd, nm, body⟩, dn, tr⟩) hF.out.1 hF.out.2 (E2.out.fc 1 rfl) (E2.out.fc 0 rfl)).mono ?_
  rintro e w2 ⟨⟨lsa, lsk, lsb, lsj, rfl, hls, gls⟩, hb⟩
  have E3 := Lib.hid (E2.out.got (E2.out.got (E2.out.below hb) (.bs (.slice lsa body.length lsk) body) hls.out) (.ms (.slice lsb dn.length lsj) dn) gls.out)
  clear c1_1 c2_8 c3_0 c3_2 c3_3 c3_4 c3_5 c3_6 c3_7 E2 hb hls gls
  go_wp2_with fail
  have E4 := Lib.hid ((E3.out.push 27 [.int .i64 nx, .bool true, .int .i64 fr, .int .i64 to_, .int .i64 kd, .int .i64 nm, .slice lsa body.length lsk, .slice lsb dn.length lsj, .int .i64 (tr + 1)] (w2.heap.size) (by simp)))
  clear E3
  generalize w2.alloc (.cells #[.int .i64 nx, .bool true, .int .i64 fr, .int .i64 to_, .int .i64 kd, .int .i64 nm, .slice lsa body.length lsk, .slice lsb dn.length lsj, .int .i64 (tr + 1)] 27) = w3 at *
  have E5 := Lib.hid E4.out.drew
  clear E4
  refine wp_region_held_drew (S := fun w' => w'.cell? ⟨w2.heap.size, 0, none⟩ = some (.int .i64 nx) ∧ w'.cell? ⟨w2.heap.size, 1, none⟩ = some (.bool true) ∧ w'.cell? ⟨w2.heap.size, 2, none⟩ = some (.int .i64 fr) ∧ w'.cell? ⟨w2.heap.size, 3, none⟩ = some (.int .i64 to_) ∧ w'.cell? ⟨w2.heap.size, 4, none⟩ = some (.int .i64 kd) ∧ w'.cell? ⟨w2.heap.size, 5, none⟩ = some (.int .i64 nm) ∧ w'.cell? ⟨w2.heap.size, 6, none⟩ = some (.slice lsa body.length lsk) ∧ w'.cell? ⟨w2.heap.size, 7, none⟩ = some (.slice lsb dn.length lsj) ∧ w'.cell? ⟨w2.heap.size, 8, none⟩ = some (.int .i64 (tr + 1)) ∧ w'.cell? ⟨w.heap.size, 2, none⟩ = some (.int .i64 fr) ∧ w'.cell? ⟨w.heap.size, 3, none⟩ = some (.int .i64 to_) ∧ w'.cell? ⟨w.heap.size, 4, none⟩ = some (.int .i64 kd) ∧ w'.cell? ⟨w.heap.size, 5, none⟩ = some (.int .i64 nm) ∧ w'.cell? ⟨w.heap.size, 6, none⟩ = some (.slice xa body.length xk)) (by kernel_rfl) (⟨((E5.out.bx 0 rfl).cell 0 rfl), ((E5.out.bx 0 rfl).cell 1 rfl), ((E5.out.bx 0 rfl).cell 2 rfl), ((E5.out.bx 0 rfl).cell 3 rfl), ((E5.out.bx 0 rfl).cell 4 rfl), ((E5.out.bx 0 rfl).cell 5 rfl), ((E5.out.bx 0 rfl).cell 6 rfl), ((E5.out.bx 0 rfl).cell 7 rfl), ((E5.out.bx 0 rfl).cell 8 rfl), ((E5.out.bx 3 rfl).cell 2 rfl), ((E5.out.bx 3 rfl).cell 3 rfl), ((E5.out.bx 3 rfl).cell 4 rfl), ((E5.out.bx 3 rfl).cell 5 rfl), ((E5.out.bx 3 rfl).cell 6 rfl)⟩) (fun hHeld => ?_)
  refine takeW (i := 0) (some 30) (v := ?_) rfl rfl (by kernel_rfl) (by kernel_rfl) (by kernel_rfl) (fun _ _ _ h => h) (by rfl) (by assumption) ?_ ?_
  rotate_left
  · (intro wS hSw; (try dsimp only at hSw); go_simp; try with_reducible rfl)
  try simp only [Act.put, List.setIfInBounds_toArray, List.set_cons_zero, List.set_cons_succ]
  refine takeW (i := 1) (some 31) (v := ?_) rfl rfl (by kernel_rfl) (by kernel_rfl) (by kernel_rfl) (fun _ _ _ h => h) (by rfl) (by assumption) ?_ ?_
  rotate_left
  · (intro wS hSw; (try dsimp only at hSw); go_simp; try with_reducible rfl)
  try simp only [Act.put, List.setIfInBounds_toArray, List.set_cons_zero, List.set_cons_succ]
  refine takeW (i := 2) (some 32) (v := ?_) rfl rfl (by kernel_rfl) (by kernel_rfl) (by kernel_rfl) (fun _ _ _ h => h) (by rfl) (by assumption) ?_ ?_
  rotate_left
  · (intro wS hSw; (try dsimp only at hSw); go_simp; try with_reducible rfl)
  try simp only [Act.put, List.setIfInBounds_toArray, List.set_cons_zero, List.set_cons_succ]
  refine wpAnyH_ready (rs := [3]) (by kernel_rfl) (by simp) ?_
  refine AllReadyH.cons rfl (fun KK hKK => ?_) AllReadyH.nil
  go_simp
  refine (copyOf_c ⟨fr, to_, kd, nm, body⟩ (E5.out.fc 3 rfl) hF.out.1).mono ?_
  rintro e w4 ⟨⟨r2a, r2k, rfl, hr2⟩, hbr⟩
  have E6 := Lib.hid (E5.out.got (E5.out.below hbr) (.bs (.slice r2a body.length r2k) body) hr2.out)
  clear E5 hbr hr2
  (try dsimp only)
  clear hHeld
  refine hKK.out _ _ (⟨((E6.out.bx 0 rfl).cell 0 rfl), ((E6.out.bx 0 rfl).cell 1 rfl), ((E6.out.bx 0 rfl).cell 2 rfl), ((E6.out.bx 0 rfl).cell 3 rfl), ((E6.out.bx 0 rfl).cell 4 rfl), ((E6.out.bx 0 rfl).cell 5 rfl), ((E6.out.bx 0 rfl).cell 6 rfl), ((E6.out.bx 0 rfl).cell 7 rfl), ((E6.out.bx 0 rfl).cell 8 rfl), ((E6.out.bx 3 rfl).cell 2 rfl), ((E6.out.bx 3 rfl).cell 3 rfl), ((E6.out.bx 3 rfl).cell 4 rfl), ((E6.out.bx 3 rfl).cell 5 rfl), ((E6.out.bx 3 rfl).cell 6 rfl)⟩) (fun hHeld => ?_)
  clear hKK KK
  try simp only [Act.put, List.setIfInBounds_toArray, List.set_cons_zero, List.set_cons_succ]
  have b4 := E6.out.bx 2 rfl
  have c4_0 := b4.cell 0 rfl
  have c4_1 := b4.cell 1 rfl
  have c4_2 := b4.cell 2 rfl
  have c4_3 := b4.cell 3 rfl
  have c4_4 := b4.cell 4 rfl
  have c4_5 := b4.cell 5 rfl
  have c4_6 := b4.cell 6 rfl
  have c4_7 := b4.cell 7 rfl
  have c4_8 := b4.cell 8 rfl
  have f4_0 := b4.frozen 0
  have f4_1 := b4.frozen 1
  have f4_2 := b4.frozen 2
  have f4_3 := b4.frozen 3
  have f4_4 := b4.frozen 4
  have f4_5 := b4.frozen 5
  have f4_6 := b4.frozen 6
  have f4_7 := b4.frozen 7
  have f4_8 := b4.frozen 8
  clear b4
  refine wpAnyH_next (i := 4) (by kernel_rfl) rfl (fun KK hKK => ?_)
  go_simp
  have E7 : Hid (Env D w [(w2.heap.size, 27, [.int .i64 nx, .bool true, .int .i64 fr, .int .i64 to_, .int .i64 kd, .int .i64 nm, .slice lsa body.length lsk, .slice lsb dn.length lsj, .int .i64 (tr + 1)]), (w.heap.size + 1 + 1, 24, [.int .i64 0, .int .i64 0, .int .i64 0, .int .i64 0, .slice none 0 0]), (w.heap.size + 1, 27, [.int .i64 nx, .bool true, .int .i64 fr, .int .i64 to_, .int .i64 kd, .int .i64 nm, .slice lsa body.length lsk, .slice lsb dn.length lsj, .int .i64 (tr + 1)]), (w.heap.size, 27, [.int .i64 nx, .bool true, .int .i64 fr, .int .i64 to_, .int .i64 kd, .int .i64 nm, .slice xa body.length xk, .slice da dn.length dj, .int .i64 tr])] [.bs (.slice r2a body.length r2k) body, .ms (.slice lsb dn.length lsj) dn, .bs (.slice lsa body.length lsk) body, .ms (.slice da dn.length dj) dn, .bs (.slice xa body.length xk) body] _) := Lib.hid ((((((((((E6.out.set 2 0 (.int .i64 nx) rfl).set 2 1 (.bool true) rfl).set 2 2 (.int .i64 fr) rfl).set 2 3 (.int .i64 to_) rfl).set 2 4 (.int .i64 kd) rfl).set 2 5 (.int .i64 nm) rfl).set 2 6 (.slice lsa body.length lsk) rfl).set 2 7 (.slice lsb dn.length lsj) rfl).set 2 8 (.int .i64 (tr + 1)) rfl))
  refine hKK.out _ _ (⟨((E7.out.bx 0 rfl).cell 0 rfl), ((E7.out.bx 0 rfl).cell 1 rfl), ((E7.out.bx 0 rfl).cell 2 rfl), ((E7.out.bx 0 rfl).cell 3 rfl), ((E7.out.bx 0 rfl).cell 4 rfl), ((E7.out.bx 0 rfl).cell 5 rfl), ((E7.out.bx 0 rfl).cell 6 rfl), ((E7.out.bx 0 rfl).cell 7 rfl), ((E7.out.bx 0 rfl).cell 8 rfl), ((E7.out.bx 3 rfl).cell 2 rfl), ((E7.out.bx 3 rfl).cell 3 rfl), ((E7.out.bx 3 rfl).cell 4 rfl), ((E7.out.bx 3 rfl).cell 5 rfl), ((E7.out.bx 3 rfl).cell 6 rfl)⟩) ?_
  clear hKK KK
  have b5 := E7.out.bx 1 rfl
  have c5_0 := b5.cell 0 rfl
  have c5_1 := b5.cell 1 rfl
  have c5_2 := b5.cell 2 rfl
  have c5_3 := b5.cell 3 rfl
  have c5_4 := b5.cell 4 rfl
  have f5_0 := b5.frozen 0
  have f5_1 := b5.frozen 1
  have f5_2 := b5.frozen 2
  have f5_3 := b5.frozen 3
  have f5_4 := b5.frozen 4
  clear b5
  refine wpAnyH_next (i := 5) (by kernel_rfl) rfl (fun KK hKK => ?_)
  go_simp
  have E8 : Hid (Env D w [(w2.heap.size, 27, [.int .i64 nx, .bool true, .int .i64 fr, .int .i64 to_, .int .i64 kd, .int .i64 nm, .slice lsa body.length lsk, .slice lsb dn.length lsj, .int .i64 (tr + 1)]), (w.heap.size + 1 + 1, 24, [.int .i64 fr, .int .i64 to_, .int .i64 kd, .int .i64 nm, .slice r2a body.length r2k]), (w.heap.size + 1, 27, [.int .i64 nx, .bool true, .int .i64 fr, .int .i64 to_, .int .i64 kd, .int .i64 nm, .slice lsa body.length lsk, .slice lsb dn.length lsj, .int .i64 (tr + 1)]), (w.heap.size, 27, [.int .i64 nx, .bool true, .int .i64 fr, .int .i64 to_, .int .i64 kd, .int .i64 nm, .slice xa body.length xk, .slice da dn.length dj, .int .i64 tr])] [.bs (.slice r2a body.length r2k) body, .ms (.slice lsb dn.length lsj) dn, .bs (.slice lsa body.length lsk) body, .ms (.slice da dn.length dj) dn, .bs (.slice xa body.length xk) body] _) := Lib.hid ((((((E7.out.set 1 0 (.int .i64 fr) rfl).set 1 1 (.int .i64 to_) rfl).set 1 2 (.int .i64 kd) rfl).set 1 3 (.int .i64 nm) rfl).set 1 4 (.slice r2a body.length r2k) rfl))
  refine hKK.out _ _ (⟨((E8.out.bx 0 rfl).cell 0 rfl), ((E8.out.bx 0 rfl).cell 1 rfl), ((E8.out.bx 0 rfl).cell 2 rfl), ((E8.out.bx 0 rfl).cell 3 rfl), ((E8.out.bx 0 rfl).cell 4 rfl), ((E8.out.bx 0 rfl).cell 5 rfl), ((E8.out.bx 0 rfl).cell 6 rfl), ((E8.out.bx 0 rfl).cell 7 rfl), ((E8.out.bx 0 rfl).cell 8 rfl), ((E8.out.bx 3 rfl).cell 2 rfl), ((E8.out.bx 3 rfl).cell 3 rfl), ((E8.out.bx 3 rfl).cell 4 rfl), ((E8.out.bx 3 rfl).cell 5 rfl), ((E8.out.bx 3 rfl).cell 6 rfl)⟩) ?_
  clear hKK KK
  refine wpAnyH_next (i := 6) (by kernel_rfl) rfl (fun KK hKK => ?_)
  go_simp
  refine hKK.out _ _ (⟨((E8.out.bx 0 rfl).cell 0 rfl), ((E8.out.bx 0 rfl).cell 1 rfl), ((E8.out.bx 0 rfl).cell 2 rfl), ((E8.out.bx 0 rfl).cell 3 rfl), ((E8.out.bx 0 rfl).cell 4 rfl), ((E8.out.bx 0 rfl).cell 5 rfl), ((E8.out.bx 0 rfl).cell 6 rfl), ((E8.out.bx 0 rfl).cell 7 rfl), ((E8.out.bx 0 rfl).cell 8 rfl), ((E8.out.bx 3 rfl).cell 2 rfl), ((E8.out.bx 3 rfl).cell 3 rfl), ((E8.out.bx 3 rfl).cell 4 rfl), ((E8.out.bx 3 rfl).cell 5 rfl), ((E8.out.bx 3 rfl).cell 6 rfl)⟩) ?_
  clear hKK KK
  refine wpAnyH_done (by kernel_rfl) ?_ _
  have b6 := E8.out.bx 2 rfl
  have c6_0 := b6.cell 0 rfl
  have c6_1 := b6.cell 1 rfl
  have c6_2 := b6.cell 2 rfl
  have c6_3 := b6.cell 3 rfl
  have c6_4 := b6.cell 4 rfl
  have c6_5 := b6.cell 5 rfl
  have c6_6 := b6.cell 6 rfl
  have c6_7 := b6.cell 7 rfl
  have c6_8 := b6.cell 8 rfl
  clear b6
  have b7 := E8.out.bx 1 rfl
  have c7_0 := b7.cell 0 rfl
  have c7_1 := b7.cell 1 rfl
  have c7_2 := b7.cell 2 rfl
  have c7_3 := b7.cell 3 rfl
  have c7_4 := b7.cell 4 rfl
  clear b7
  go_wp2
  have hfin := E8.out
  have q8 := (hfin.bx 2 rfl).cell 0 rfl
  have q9 := (hfin.bx 2 rfl).cell 1 rfl
  have q10 := (hfin.bx 2 rfl).cell 2 rfl
  have q11 := (hfin.bx 2 rfl).cell 3 rfl
  have q12 := (hfin.bx 2 rfl).cell 4 rfl
  have q13 := (hfin.bx 2 rfl).cell 5 rfl
  have q14 := (hfin.bx 2 rfl).cell 6 rfl
  have q15 := (hfin.bx 2 rfl).cell 7 rfl
  have q16 := (hfin.bx 2 rfl).cell 8 rfl
  have q17 := (hfin.bx 1 rfl).cell 0 rfl
  have q18 := (hfin.bx 1 rfl).cell 1 rfl
  have q19 := (hfin.bx 1 rfl).cell 2 rfl
  have q20 := (hfin.bx 1 rfl).cell 3 rfl
  have q21 := (hfin.bx 1 rfl).cell 4 rfl
  exact bodyPost_ret (v := .tuple #[.agg #[.int .i64 nx, .bool true, .int .i64 fr, .int .i64 to_, .int .i64 kd, .int .i64 nm, .slice lsa body.length lsk, .slice lsb dn.length lsj, .int .i64 (tr + 1)], .agg #[.int .i64 fr, .int .i64 to_, .int .i64 kd, .int .i64 nm, .slice r2a body.length r2k], .int .i64 0]) (by simp [results, Try.results26, go_sem, q8, q9, q10, q11, q12, q13, q14, q15, q16, q17, q18, q19, q20, q21]) rfl ⟨⟨_, _, _, _, _, _, rfl, (Lib.hid (hfin.out 2 rfl)), (Lib.hid (hfin.out 1 rfl)), (Lib.hid (hfin.out 0 rfl))⟩, hfin.bel⟩
set_option maxRecDepth 100000 in
set_option maxHeartbeats 1000000 in
theorem Accept_1a {D : Nat → Prop} (nx fr to_ kd nm tr : Int) (wt : Bool) (body : List Nat) (dn : List Msg) {xa da : Option Addr} {xk dj : Nat} (fr2 to2 kd2 nm2 : Int) (body2 : List Nat) {ya : Option Addr} {yk : Nat} {w : World} (hx : Fct.at w D (.bs (.slice xa body.length xk) body)) (hy : Fct.at w D (.ms (.slice da dn.length dj) dn)) (hz : Fct.at w D (.bs (.slice ya body2.length yk) body2)) (hS0 : ¬ SesOk ⟨nx, wt, ⟨fr, to_, kd, nm, body⟩, dn, tr⟩) :
    Calls Try.prog 28 #[.agg #[.int .i64 nx, .bool wt, .int .i64 fr, .int .i64 to_, .int .i64 kd, .int .i64 nm, .slice xa body.length xk, .slice da dn.length dj, .int .i64 tr], .agg #[.int .i64 fr2, .int .i64 to2, .int .i64 kd2, .int .i64 nm2, .slice ya body2.length yk]] w fun e w' => RetSB (fun b => D b ∨ w.heap.size ≤ b) S0 false 1 e w' ∧ Below w.heap.size w w' := by
  have E0 := Lib.hid ((((Env.start D w).arg (.bs (.slice xa body.length xk) body) hx).arg (.ms (.slice da dn.length dj) dn) hy).arg (.bs (.slice ya body2.length yk) body2) hz)
  clear hx hy hz
  go_enter Try.func28, Try.ntmps28
  have hS := Lib.hid hS0
  clear hS0
  go_wp2_with fail
  have E1 := Lib.hid ((((E0.out.push 27 [.int .i64 nx, .bool wt, .int .i64 fr, .int .i64 to_, .int .i64 kd, .int .i64 nm, .slice xa body.length xk, .slice da dn.length dj, .int .i64 tr] (w.heap.size) (by simp)).push 24 [.int .i64 fr2, .int .i64 to2, .int .i64 kd2, .int .i64 nm2, .slice ya body2.length yk] (w.heap.size + 1) (by simp)).push 27 [.int .i64 0, .bool false, .int .i64 0, .int .i64 0, .int .i64 0, .int .i64 0, .slice none 0 0, .slice none 0 0, .int .i64 0] (w.heap.size + 1 + 1) (by simp)))
  refine (Valid_f (S := ⟨nx, wt, ⟨fr, to_, kd, nm, body⟩, dn, tr⟩) hS.out (E1.out.fc 2 rfl) (E1.out.fc 1 rfl)).mono ?_
  rintro e w1 ⟨rfl, hb⟩
  have E2 := Lib.hid (E1.out.below hb)
  clear E0 E1 hb
  have b1 := E2.out.bx 0 rfl
  have c1_0 := b1.cell 0 rfl
  have c1_1 := b1.cell 1 rfl
  have c1_2 := b1.cell 2 rfl
  have c1_3 := b1.cell 3 rfl
  have c1_4 := b1.cell 4 rfl
  have c1_5 := b1.cell 5 rfl
  have c1_6 := b1.cell 6 rfl
  have c1_7 := b1.cell 7 rfl
  have c1_8 := b1.cell 8 rfl
  have f1_0 := b1.frozen 0
  have f1_1 := b1.frozen 1
  have f1_2 := b1.frozen 2
  have f1_3 := b1.frozen 3
  have f1_4 := b1.frozen 4
  have f1_5 := b1.frozen 5
  have f1_6 := b1.frozen 6
  have f1_7 := b1.frozen 7
  have f1_8 := b1.frozen 8
  clear b1
  go_wp2
  have E3 : Hid (Env D w [(w.heap.size + 1 + 1, 27, [.int .i64 0, .bool false, .int .i64 0, .int .i64 0, .int .i64 0, .int .i64 0, .slice none 0 0, .slice none 0 0, .int .i64 0]), (w.heap.size + 1, 24, [.int .i64 fr2, .int .i64 to2, .int .i64 kd2, .int .i64 nm2, .slice ya body2.length yk]), (w.heap.size, 27, [.int .i64 nx, .bool wt, .int .i64 fr, .int .i64 to_, .int .i64 kd, .int .i64 nm, .slice xa body.length xk, .slice da dn.length dj, .int .i64 tr])] [.bs (.slice ya body2.length yk) body2, .ms (.slice da dn.length dj) dn, .bs (.slice xa body.length xk) body] _) := Lib.hid ((((((((((E2.out.set 0 0 (.int .i64 0) rfl).set 0 1 (.bool false) rfl).set 0 2 (.int .i64 0) rfl).set 0 3 (.int .i64 0) rfl).set 0 4 (.int .i64 0) rfl).set 0 5 (.int .i64 0) rfl).set 0 6 (.slice none 0 0) rfl).set 0 7 (.slice none 0 0) rfl).set 0 8 (.int .i64 0) rfl))
  have hfin := E3.out
  have q2 := (hfin.bx 0 rfl).cell 0 rfl
  have q3 := (hfin.bx 0 rfl).cell 1 rfl
  have q4 := (hfin.bx 0 rfl).cell 2 rfl
  have q5 := (hfin.bx 0 rfl).cell 3 rfl
  have q6 := (hfin.bx 0 rfl).cell 4 rfl
  have q7 := (hfin.bx 0 rfl).cell 5 rfl
  have q8 := (hfin.bx 0 rfl).cell 6 rfl
  have q9 := (hfin.bx 0 rfl).cell 7 rfl
  have q10 := (hfin.bx 0 rfl).cell 8 rfl
  exact bodyPost_ret (v := .tuple #[.agg #[.int .i64 0, .bool false, .int .i64 0, .int .i64 0, .int .i64 0, .int .i64 0, .slice none 0 0, .slice none 0 0, .int .i64 0], .bool false, .int .i64 1]) (by simp [results, Try.results28, go_sem, q2, q3, q4, q5, q6, q7, q8, q9, q10]) rfl ⟨⟨none, 0, none, 0, rfl, Lib.hid (Bs.nil _ _), Lib.hid (Ms.nil _ _)⟩, hfin.bel⟩
set_option maxRecDepth 100000 in
set_option maxHeartbeats 1000000 in
theorem Accept_1b {D : Nat → Prop} (nx fr to_ kd nm tr : Int) (wt : Bool) (body : List Nat) (dn : List Msg) {xa da : Option Addr} {xk dj : Nat} (fr2 to2 kd2 nm2 : Int) (body2 : List Nat) {ya : Option Addr} {yk : Nat} {w : World} (hx : Fct.at w D (.bs (.slice xa body.length xk) body)) (hy : Fct.at w D (.ms (.slice da dn.length dj) dn)) (hz : Fct.at w D (.bs (.slice ya body2.length yk) body2)) (hS0 : SesOk ⟨nx, wt, ⟨fr, to_, kd, nm, body⟩, dn, tr⟩) (hm0 : msgOk ⟨fr2, to2, kd2, nm2, body2⟩ = false) :
    Calls Try.prog 28 #[.agg #[.int .i64 nx, .bool wt, .int .i64 fr, .int .i64 to_, .int .i64 kd, .int .i64 nm, .slice xa body.length xk, .slice da dn.length dj, .int .i64 tr], .agg #[.int .i64 fr2, .int .i64 to2, .int .i64 kd2, .int .i64 nm2, .slice ya body2.length yk]] w fun e w' => RetSB (fun b => D b ∨ w.heap.size ≤ b) S0 false 1 e w' ∧ Below w.heap.size w w' := by
  have E0 := Lib.hid ((((Env.start D w).arg (.bs (.slice xa body.length xk) body) hx).arg (.ms (.slice da dn.length dj) dn) hy).arg (.bs (.slice ya body2.length yk) body2) hz)
  clear hx hy hz
  go_enter Try.func28, Try.ntmps28
  have hS := Lib.hid hS0
  clear hS0
  have hm := Lib.hid hm0
  clear hm0
  go_wp2_with fail
  have E1 := Lib.hid ((((E0.out.push 27 [.int .i64 nx, .bool wt, .int .i64 fr, .int .i64 to_, .int .i64 kd, .int .i64 nm, .slice xa body.length xk, .slice da dn.length dj, .int .i64 tr] (w.heap.size) (by simp)).push 24 [.int .i64 fr2, .int .i64 to2, .int .i64 kd2, .int .i64 nm2, .slice ya body2.length yk] (w.heap.size + 1) (by simp)).push 27 [.int .i64 0, .bool false, .int .i64 0, .int .i64 0, .int .i64 0, .int .i64 0, .slice none 0 0, .slice none 0 0, .int .i64 0] (w.heap.size + 1 + 1) (by simp)))
  refine (Valid_t (S := ⟨nx, wt, ⟨fr, to_, kd, nm, body⟩, dn, tr⟩) hS.out (E1.out.fc 2 rfl) (E1.out.fc 1 rfl)).mono ?_
  rintro e w1 ⟨rfl, hb⟩
  have E2 := Lib.hid (E1.out.below hb)
  clear E0 E1 hb
  have b1 := E2.out.bx 1 rfl
  have c1_0 := b1.cell 0 rfl
  have c1_1 := b1.cell 1 rfl
  have c1_2 := b1.cell 2 rfl
  have c1_3 := b1.cell 3 rfl
  have c1_4 := b1.cell 4 rfl
  clear b1
  go_wp2_with fail
  refine (message_v ⟨fr2, to2, kd2, nm2, body2⟩ hm.out _ _ _).mono ?_
  rintro e w2 ⟨rfl, hb⟩
  have E3 := Lib.hid (E2.out.below hb)
  clear c1_0 c1_1 c1_2 c1_3 c1_4 E2 hb
  have b2 := E3.out.bx 0 rfl
  have c2_0 := b2.cell 0 rfl
  have c2_1 := b2.cell 1 rfl
  have c2_2 := b2.cell 2 rfl
  have c2_3 := b2.cell 3 rfl
  have c2_4 := b2.cell 4 rfl
  have c2_5 := b2.cell 5 rfl
  have c2_6 := b2.cell 6 rfl
  have c2_7 := b2.cell 7 rfl
  have c2_8 := b2.cell 8 rfl
  have f2_0 := b2.frozen 0
  have f2_1 := b2.frozen 1
  have f2_2 := b2.frozen 2
  have f2_3 := b2.frozen 3
  have f2_4 := b2.frozen 4
  have f2_5 := b2.frozen 5
  have f2_6 := b2.frozen 6
  have f2_7 := b2.frozen 7
  have f2_8 := b2.frozen 8
  clear b2
  go_wp2
  have E4 : Hid (Env D w [(w.heap.size + 1 + 1, 27, [.int .i64 0, .bool false, .int .i64 0, .int .i64 0, .int .i64 0, .int .i64 0, .slice none 0 0, .slice none 0 0, .int .i64 0]), (w.heap.size + 1, 24, [.int .i64 fr2, .int .i64 to2, .int .i64 kd2, .int .i64 nm2, .slice ya body2.length yk]), (w.heap.size, 27, [.int .i64 nx, .bool wt, .int .i64 fr, .int .i64 to_, .int .i64 kd, .int .i64 nm, .slice xa body.length xk, .slice da dn.length dj, .int .i64 tr])] [.bs (.slice ya body2.length yk) body2, .ms (.slice da dn.length dj) dn, .bs (.slice xa body.length xk) body] _) := Lib.hid ((((((((((E3.out.set 0 0 (.int .i64 0) rfl).set 0 1 (.bool false) rfl).set 0 2 (.int .i64 0) rfl).set 0 3 (.int .i64 0) rfl).set 0 4 (.int .i64 0) rfl).set 0 5 (.int .i64 0) rfl).set 0 6 (.slice none 0 0) rfl).set 0 7 (.slice none 0 0) rfl).set 0 8 (.int .i64 0) rfl))
  have hfin := E4.out
  have q3 := (hfin.bx 0 rfl).cell 0 rfl
  have q4 := (hfin.bx 0 rfl).cell 1 rfl
  have q5 := (hfin.bx 0 rfl).cell 2 rfl
  have q6 := (hfin.bx 0 rfl).cell 3 rfl
  have q7 := (hfin.bx 0 rfl).cell 4 rfl
  have q8 := (hfin.bx 0 rfl).cell 5 rfl
  have q9 := (hfin.bx 0 rfl).cell 6 rfl
  have q10 := (hfin.bx 0 rfl).cell 7 rfl
  have q11 := (hfin.bx 0 rfl).cell 8 rfl
  exact bodyPost_ret (v := .tuple #[.agg #[.int .i64 0, .bool false, .int .i64 0, .int .i64 0, .int .i64 0, .int .i64 0, .slice none 0 0, .slice none 0 0, .int .i64 0], .bool false, .int .i64 1]) (by simp [results, Try.results28, go_sem, q3, q4, q5, q6, q7, q8, q9, q10, q11]) rfl ⟨⟨none, 0, none, 0, rfl, Lib.hid (Bs.nil _ _), Lib.hid (Ms.nil _ _)⟩, hfin.bel⟩
set_option maxRecDepth 100000 in
set_option maxHeartbeats 1000000 in
theorem Accept_n {D : Nat → Prop} (nx fr to_ kd nm tr : Int) (body : List Nat) (dn : List Msg) {xa da : Option Addr} {xk dj : Nat} (fr2 to2 kd2 nm2 : Int) (body2 : List Nat) {ya : Option Addr} {yk : Nat} {w : World} (hx : Fct.at w D (.bs (.slice xa body.length xk) body)) (hy : Fct.at w D (.ms (.slice da dn.length dj) dn)) (hz : Fct.at w D (.bs (.slice ya body2.length yk) body2)) (hS0 : SesOk ⟨nx, false, ⟨fr, to_, kd, nm, body⟩, dn, tr⟩) (hm0 : msgOk ⟨fr2, to2, kd2, nm2, body2⟩ = true) :
    Calls Try.prog 28 #[.agg #[.int .i64 nx, .bool false, .int .i64 fr, .int .i64 to_, .int .i64 kd, .int .i64 nm, .slice xa body.length xk, .slice da dn.length dj, .int .i64 tr], .agg #[.int .i64 fr2, .int .i64 to2, .int .i64 kd2, .int .i64 nm2, .slice ya body2.length yk]] w fun e w' => RetSB (fun b => D b ∨ w.heap.size ≤ b) ⟨nx, false, ⟨fr, to_, kd, nm, body⟩, dn, tr⟩ false 0 e w' ∧ Below w.heap.size w w' := by
  have E0 := Lib.hid ((((Env.start D w).arg (.bs (.slice xa body.length xk) body) hx).arg (.ms (.slice da dn.length dj) dn) hy).arg (.bs (.slice ya body2.length yk) body2) hz)
  clear hx hy hz
  go_enter Try.func28, Try.ntmps28
  have hS := Lib.hid hS0
  clear hS0
  have hm := Lib.hid hm0
  clear hm0
  have hF := Lib.hid (SesOk.fair hS.out)
  go_wp2_with fail
  have E1 := Lib.hid ((((E0.out.push 27 [.int .i64 nx, .bool false, .int .i64 fr, .int .i64 to_, .int .i64 kd, .int .i64 nm, .slice xa body.length xk, .slice da dn.length dj, .int .i64 tr] (w.heap.size) (by simp)).push 24 [.int .i64 fr2, .int .i64 to2, .int .i64 kd2, .int .i64 nm2, .slice ya body2.length yk] (w.heap.size + 1) (by simp)).push 27 [.int .i64 0, .bool false, .int .i64 0, .int .i64 0, .int .i64 0, .int .i64 0, .slice none 0 0, .slice none 0 0, .int .i64 0] (w.heap.size + 1 + 1) (by simp)))
  refine (Valid_t (S := ⟨nx, false, ⟨fr, to_, kd, nm, body⟩, dn, tr⟩) hS.out (E1.out.fc 2 rfl) (E1.out.fc 1 rfl)).mono ?_
  rintro e w1 ⟨rfl, hb⟩
  have E2 := Lib.hid (E1.out.below hb)
  clear E0 E1 hb
  have b1 := E2.out.bx 1 rfl
  have c1_0 := b1.cell 0 rfl
  have c1_1 := b1.cell 1 rfl
  have c1_2 := b1.cell 2 rfl
  have c1_3 := b1.cell 3 rfl
  have c1_4 := b1.cell 4 rfl
  clear b1
  go_wp2_with fail
  refine (message_v ⟨fr2, to2, kd2, nm2, body2⟩ hm.out _ _ _).mono ?_
  rintro e w2 ⟨rfl, hb⟩
  have E3 := Lib.hid (E2.out.below hb)
  clear c1_0 c1_1 c1_2 c1_3 c1_4 E2 hb
  have b2 := E3.out.bx 2 rfl
  have c2_0 := b2.cell 0 rfl
  have c2_1 := b2.cell 1 rfl
  have c2_2 := b2.cell 2 rfl
  have c2_3 := b2.cell 3 rfl
  have c2_4 := b2.cell 4 rfl
  have c2_5 := b2.cell 5 rfl
  have c2_6 := b2.cell 6 rfl
  have c2_7 := b2.cell 7 rfl
  have c2_8 := b2.cell 8 rfl
  clear b2
  go_wp2_with fail
  refine (copyAll_c (S := ⟨nx, false, ⟨fr, to_, kd, nm, body⟩, dn, tr⟩) hF.out.1 hF.out.2 (E3.out.fc 2 rfl) (E3.out.fc 1 rfl)).mono ?_
  rintro e w3 ⟨⟨lsa, lsk, lsb, lsj, rfl, hls, gls⟩, hb⟩
  have E4 := Lib.hid (E3.out.got (E3.out.got (E3.out.below hb) (.bs (.slice lsa body.length lsk) body) hls.out) (.ms (.slice lsb dn.length lsj) dn) gls.out)
  clear c2_0 c2_1 c2_2 c2_3 c2_4 c2_5 c2_6 c2_7 c2_8 E3 hb hls gls
  have E5 := Lib.hid ((E4.out.push 27 [.int .i64 nx, .bool false, .int .i64 fr, .int .i64 to_, .int .i64 kd, .int .i64 nm, .slice lsa body.length lsk, .slice lsb dn.length lsj, .int .i64 tr] (w3.heap.size) (by simp)))
  have b3 := E5.out.bx 3 rfl
  have c3_1 := b3.cell 1 rfl
  clear b3
  have b4 := E5.out.bx 0 rfl
  have c4_0 := b4.cell 0 rfl
  have c4_1 := b4.cell 1 rfl
  have c4_2 := b4.cell 2 rfl
  have c4_3 := b4.cell 3 rfl
  have c4_4 := b4.cell 4 rfl
  have c4_5 := b4.cell 5 rfl
  have c4_6 := b4.cell 6 rfl
  have c4_7 := b4.cell 7 rfl
  have c4_8 := b4.cell 8 rfl
  clear b4
  have b5 := E5.out.bx 1 rfl
  have c5_0 := b5.cell 0 rfl
  have c5_1 := b5.cell 1 rfl
  have c5_2 := b5.cell 2 rfl
  have c5_3 := b5.cell 3 rfl
  have c5_4 := b5.cell 4 rfl
  have c5_5 := b5.cell 5 rfl
  have c5_6 := b5.cell 6 rfl
  have c5_7 := b5.cell 7 rfl
  have c5_8 := b5.cell 8 rfl
  have f5_0 := b5.frozen 0
  have f5_1 := b5.frozen 1
  have f5_2 := b5.frozen 2
  have f5_3 := b5.frozen 3
  have f5_4 := b5.frozen 4
  have f5_5 := b5.frozen 5
  have f5_6 := b5.frozen 6
  have f5_7 := b5.frozen 7
  have f5_8 := b5.frozen 8
  clear b5
  go_wp2
  have E6 : Hid (Env D w [(w3.heap.size, 27, [.int .i64 nx, .bool false, .int .i64 fr, .int .i64 to_, .int .i64 kd, .int .i64 nm, .slice lsa body.length lsk, .slice lsb dn.length lsj, .int .i64 tr]), (w.heap.size + 1 + 1, 27, [.int .i64 nx, .bool false, .int .i64 fr, .int .i64 to_, .int .i64 kd, .int .i64 nm, .slice lsa body.length lsk, .slice lsb dn.length lsj, .int .i64 tr]), (w.heap.size + 1, 24, [.int .i64 fr2, .int .i64 to2, .int .i64 kd2, .int .i64 nm2, .slice ya body2.length yk]), (w.heap.size, 27, [.int .i64 nx, .bool false, .int .i64 fr, .int .i64 to_, .int .i64 kd, .int .i64 nm, .slice xa body.length xk, .slice da dn.length dj, .int .i64 tr])] [.ms (.slice lsb dn.length lsj) dn, .bs (.slice lsa body.length lsk) body, .bs (.slice ya body2.length yk) body2, .ms (.slice da dn.length dj) dn, .bs (.slice xa body.length xk) body] _) := Lib.hid ((((((((((E5.out.set 1 0 (.int .i64 nx) rfl).set 1 1 (.bool false) rfl).set 1 2 (.int .i64 fr) rfl).set 1 3 (.int .i64 to_) rfl).set 1 4 (.int .i64 kd) rfl).set 1 5 (.int .i64 nm) rfl).set 1 6 (.slice lsa body.length lsk) rfl).set 1 7 (.slice lsb dn.length lsj) rfl).set 1 8 (.int .i64 tr) rfl))
  have hfin := E6.out
  have q6 := (hfin.bx 1 rfl).cell 0 rfl
  have q7 := (hfin.bx 1 rfl).cell 1 rfl
  have q8 := (hfin.bx 1 rfl).cell 2 rfl
  have q9 := (hfin.bx 1 rfl).cell 3 rfl
  have q10 := (hfin.bx 1 rfl).cell 4 rfl
  have q11 := (hfin.bx 1 rfl).cell 5 rfl
  have q12 := (hfin.bx 1 rfl).cell 6 rfl
  have q13 := (hfin.bx 1 rfl).cell 7 rfl
  have q14 := (hfin.bx 1 rfl).cell 8 rfl
  exact bodyPost_ret (v := .tuple #[.agg #[.int .i64 nx, .bool false, .int .i64 fr, .int .i64 to_, .int .i64 kd, .int .i64 nm, .slice lsa body.length lsk, .slice lsb dn.length lsj, .int .i64 tr], .bool false, .int .i64 0]) (by simp [results, Try.results28, go_sem, q6, q7, q8, q9, q10, q11, q12, q13, q14]) rfl ⟨⟨_, _, _, _, rfl, (Lib.hid (hfin.out 1 rfl)), (Lib.hid (hfin.out 0 rfl))⟩, hfin.bel⟩
set_option maxRecDepth 100000 in
set_option maxHeartbeats 1000000 in
theorem Accept_f {D : Nat → Prop} (nx fr to_ kd nm tr : Int) (body : List Nat) (dn : List Msg) {xa da : Option Addr} {xk dj : Nat} (fr2 to2 kd2 nm2 : Int) (body2 : List Nat) {ya : Option Addr} {yk : Nat} {w : World} (hx : Fct.at w D (.bs (.slice xa body.length xk) body)) (hy : Fct.at w D (.ms (.slice da dn.length dj) dn)) (hz : Fct.at w D (.bs (.slice ya body2.length yk) body2)) (hS0 : SesOk ⟨nx, true, ⟨fr, to_, kd, nm, body⟩, dn, tr⟩) (hm0 : msgOk ⟨fr2, to2, kd2, nm2, body2⟩ = true) (hb90 : blg ⟨fr2, to2, kd2, nm2, body2⟩ ⟨fr, to_, kd, nm, body⟩ = false) :
    Calls Try.prog 28 #[.agg #[.int .i64 nx, .bool true, .int .i64 fr, .int .i64 to_, .int .i64 kd, .int .i64 nm, .slice xa body.length xk, .slice da dn.length dj, .int .i64 tr], .agg #[.int .i64 fr2, .int .i64 to2, .int .i64 kd2, .int .i64 nm2, .slice ya body2.length yk]] w fun e w' => RetSB (fun b => D b ∨ w.heap.size ≤ b) ⟨nx, true, ⟨fr, to_, kd, nm, body⟩, dn, tr⟩ false 0 e w' ∧ Below w.heap.size w w' := by
  have E0 := Lib.hid ((((Env.start D w).arg (.bs (.slice xa body.length xk) body) hx).arg (.ms (.slice da dn.length dj) dn) hy).arg (.bs (.slice ya body2.length yk) body2) hz)
  clear hx hy hz
  go_enter Try.func28, Try.ntmps28
  have hS := Lib.hid hS0
  clear hS0
  have hm := Lib.hid hm0
  clear hm0
  have hb9 := Lib.hid hb90
  clear hb90
  have hF := Lib.hid (SesOk.fair hS.out)
  go_wp2_with fail
  have E1 := Lib.hid ((((E0.out.push 27 [.int .i64 nx, .bool true, .int .i64 fr, .int .i64 to_, .int .i64 kd, .int .i64 nm, .slice xa body.length xk, .slice da dn.length dj, .int .i64 tr] (w.heap.size) (by simp)).push 24 [.int .i64 fr2, .int .i64 to2, .int .i64 kd2, .int .i64 nm2, .slice ya body2.length yk] (w.heap.size + 1) (by simp)).push 27 [.int .i64 0, .bool false, .int .i64 0, .int .i64 0, .int .i64 0, .int .i64 0, .slice none 0 0, .slice none 0 0, .int .i64 0] (w.heap.size + 1 + 1) (by simp)))
  refine (Valid_t (S := ⟨nx, true, ⟨fr, to_, kd, nm, body⟩, dn, tr⟩) hS.out (E1.out.fc 2 rfl) (E1.out.fc 1 rfl)).mono ?_
  rintro e w1 ⟨rfl, hb⟩
  have E2 := Lib.hid (E1.out.below hb)
  clear E0 E1 hb
  have b1 := E2.out.bx 1 rfl
  have c1_0 := b1.cell 0 rfl
  have c1_1 := b1.cell 1 rfl
  have c1_2 := b1.cell 2 rfl
  have c1_3 := b1.cell 3 rfl
  have c1_4 := b1.cell 4 rfl
  clear b1
  go_wp2_with fail
  refine (message_v ⟨fr2, to2, kd2, nm2, body2⟩ hm.out _ _ _).mono ?_
  rintro e w2 ⟨rfl, hb⟩
  have E3 := Lib.hid (E2.out.below hb)
  clear c1_0 c1_1 c1_2 c1_3 c1_4 E2 hb
  have b2 := E3.out.bx 2 rfl
  have c2_0 := b2.cell 0 rfl
  have c2_1 := b2.cell 1 rfl
  have c2_2 := b2.cell 2 rfl
  have c2_3 := b2.cell 3 rfl
  have c2_4 := b2.cell 4 rfl
  have c2_5 := b2.cell 5 rfl
  have c2_6 := b2.cell 6 rfl
  have c2_7 := b2.cell 7 rfl
  have c2_8 := b2.cell 8 rfl
  clear b2
  go_wp2_with fail
  refine (copyAll_c (S := ⟨nx, true, ⟨fr, to_, kd, nm, body⟩, dn, tr⟩) hF.out.1 hF.out.2 (E3.out.fc 2 rfl) (E3.out.fc 1 rfl)).mono ?_
  rintro e w3 ⟨⟨lsa, lsk, lsb, lsj, rfl, hls, gls⟩, hb⟩
  have E4 := Lib.hid (E3.out.got (E3.out.got (E3.out.below hb) (.bs (.slice lsa body.length lsk) body) hls.out) (.ms (.slice lsb dn.length lsj) dn) gls.out)
  clear c2_0 c2_1 c2_2 c2_3 c2_4 c2_5 c2_6 c2_7 c2_8 E3 hb hls gls
  have E5 := Lib.hid ((E4.out.push 27 [.int .i64 nx, .bool true, .int .i64 fr, .int .i64 to_, .int .i64 kd, .int .i64 nm, .slice lsa body.length lsk, .slice lsb dn.length lsj, .int .i64 tr] (w3.heap.size) (by simp)))
  have b3 := E5.out.bx 3 rfl
  have c3_1 := b3.cell 1 rfl
  clear b3
  have b4 := E5.out.bx 2 rfl
  have c4_0 := b4.cell 0 rfl
  have c4_1 := b4.cell 1 rfl
  have c4_2 := b4.cell 2 rfl
  have c4_3 := b4.cell 3 rfl
  have c4_4 := b4.cell 4 rfl
  clear b4
  have b5 := E5.out.bx 3 rfl
  have c5_2 := b5.cell 2 rfl
  have c5_3 := b5.cell 3 rfl
  have c5_4 := b5.cell 4 rfl
  have c5_5 := b5.cell 5 rfl
  have c5_6 := b5.cell 6 rfl
  clear b5
  go_wp2_with fail
  refine (belongs_v ⟨fr2, to2, kd2, nm2, body2⟩ ⟨fr, to_, kd, nm, body⟩ hb9.out _ _ _).mono ?_
  rintro e w4 ⟨rfl, hb⟩
  have E6 := Lib.hid (E5.out.below hb)
  clear c3_1 c4_0 c4_1 c4_2 c4_3 c4_4 c5_2 c5_3 c5_4 c5_5 c5_6 E4 E5 hb
  have b6 := E6.out.bx 0 rfl
  have c6_0 := b6.cell 0 rfl
  have c6_1 := b6.cell 1 rfl
  have c6_2 := b6.cell 2 rfl
  have c6_3 := b6.cell 3 rfl
  have c6_4 := b6.cell 4 rfl
  have c6_5 := b6.cell 5 rfl
  have c6_6 := b6.cell 6 rfl
  have c6_7 := b6.cell 7 rfl
  have c6_8 := b6.cell 8 rfl
  clear b6
  have b7 := E6.out.bx 1 rfl
  have c7_0 := b7.cell 0 rfl
  have c7_1 := b7.cell 1 rfl
  have c7_2 := b7.cell 2 rfl
  have c7_3 := b7.cell 3 rfl
  have c7_4 := b7.cell 4 rfl
  have c7_5 := b7.cell 5 rfl
  have c7_6 := b7.cell 6 rfl
  have c7_7 := b7.cell 7 rfl
  have c7_8 := b7.cell 8 rfl
  have f7_0 := b7.frozen 0
  have f7_1 := b7.frozen 1
  have f7_2 := b7.frozen 2
  have f7_3 := b7.frozen 3
  have f7_4 := b7.frozen 4
  have f7_5 := b7.frozen 5
  have f7_6 := b7.frozen 6
  have f7_7 := b7.frozen 7
  have f7_8 := b7.frozen 8
  clear b7
  go_wp2
  have E7 : Hid (Env D w [(w3.heap.size, 27, [.int .i64 nx, .bool true, .int .i64 fr, .int .i64 to_, .int .i64 kd, .int .i64 nm, .slice lsa body.length lsk, .slice lsb dn.length lsj, .int .i64 tr]), (w.heap.size + 1 + 1, 27, [.int .i64 nx, .bool true, .int .i64 fr, .int .i64 to_, .int .i64 kd, .int .i64 nm, .slice lsa body.length lsk, .slice lsb dn.length lsj, .int .i64 tr]), (w.heap.size + 1, 24, [.int .i64 fr2, .int .i64 to2, .int .i64 kd2, .int .i64 nm2, .slice ya body2.length yk]), (w.heap.size, 27, [.int .i64 nx, .bool true, .int .i64 fr, .int .i64 to_, .int .i64 kd, .int .i64 nm, .slice xa body.length xk, .slice da dn.length dj, .int .i64 tr])] [.ms (.slice lsb dn.length lsj) dn, .bs (.slice lsa body.length lsk) body, .bs (.slice ya body2.length yk) body2, .ms (.slice da dn.length dj) dn, .bs (.slice xa body.length xk) body] _) := Lib.hid ((((((((((E6.out.set 1 0 (.int .i64 nx) rfl).set 1 1 (.bool true) rfl).set 1 2 (.int .i64 fr) rfl).set 1 3 (.int .i64 to_) rfl).set 1 4 (.int .i64 kd) rfl).set 1 5 (.int .i64 nm) rfl).set 1 6 (.slice lsa body.length lsk) rfl).set 1 7 (.slice lsb dn.length lsj) rfl).set 1 8 (.int .i64 tr) rfl))
  have hfin := E7.out
  have q8 := (hfin.bx 1 rfl).cell 0 rfl
  have q9 := (hfin.bx 1 rfl).cell 1 rfl
  have q10 := (hfin.bx 1 rfl).cell 2 rfl
  have q11 := (hfin.bx 1 rfl).cell 3 rfl
  have q12 := (hfin.bx 1 rfl).cell 4 rfl
  have q13 := (hfin.bx 1 rfl).cell 5 rfl
  have q14 := (hfin.bx 1 rfl).cell 6 rfl
  have q15 := (hfin.bx 1 rfl).cell 7 rfl
  have q16 := (hfin.bx 1 rfl).cell 8 rfl
  exact bodyPost_ret (v := .tuple #[.agg #[.int .i64 nx, .bool true, .int .i64 fr, .int .i64 to_, .int .i64 kd, .int .i64 nm, .slice lsa body.length lsk, .slice lsb dn.length lsj, .int .i64 tr], .bool false, .int .i64 0]) (by simp [results, Try.results28, go_sem, q8, q9, q10, q11, q12, q13, q14, q15, q16]) rfl ⟨⟨_, _, _, _, rfl, (Lib.hid (hfin.out 1 rfl)), (Lib.hid (hfin.out 0 rfl))⟩, hfin.bel⟩
set_option maxRecDepth 100000 in
set_option maxHeartbeats 1000000 in
theorem Accept_t {D : Nat → Prop} (nx fr to_ kd nm tr : Int) (body : List Nat) (dn : List Msg) {xa da : Option Addr} {xk dj : Nat} (fr2 to2 kd2 nm2 : Int) (body2 : List Nat) {ya : Option Addr} {yk : Nat} {w : World} (hx : Fct.at w D (.bs (.slice xa body.length xk) body)) (hy : Fct.at w D (.ms (.slice da dn.length dj) dn)) (hz : Fct.at w D (.bs (.slice ya body2.length yk) body2)) (hS0 : SesOk ⟨nx, true, ⟨fr, to_, kd, nm, body⟩, dn, tr⟩) (hm0 : msgOk ⟨fr2, to2, kd2, nm2, body2⟩ = true) (hb90 : blg ⟨fr2, to2, kd2, nm2, body2⟩ ⟨fr, to_, kd, nm, body⟩ = true) :
    Calls Try.prog 28 #[.agg #[.int .i64 nx, .bool true, .int .i64 fr, .int .i64 to_, .int .i64 kd, .int .i64 nm, .slice xa body.length xk, .slice da dn.length dj, .int .i64 tr], .agg #[.int .i64 fr2, .int .i64 to2, .int .i64 kd2, .int .i64 nm2, .slice ya body2.length yk]] w fun e w' => RetSB (fun b => D b ∨ w.heap.size ≤ b) ⟨nx, false, M0, dn, 0⟩ true 0 e w' ∧ Below w.heap.size w w' := by
  have E0 := Lib.hid ((((Env.start D w).arg (.bs (.slice xa body.length xk) body) hx).arg (.ms (.slice da dn.length dj) dn) hy).arg (.bs (.slice ya body2.length yk) body2) hz)
  clear hx hy hz
  go_enter Try.func28, Try.ntmps28
  have hS := Lib.hid hS0
  clear hS0
  have hm := Lib.hid hm0
  clear hm0
  have hb9 := Lib.hid hb90
  clear hb90
  have hF := Lib.hid (SesOk.fair hS.out)
  go_wp2_with fail
  have E1 := Lib.hid ((((E0.out.push 27 [.int .i64 nx, .bool true, .int .i64 fr, .int .i64 to_, .int .i64 kd, .int .i64 nm, .slice xa body.length xk, .slice da dn.length dj, .int .i64 tr] (w.heap.size) (by simp)).push 24 [.int .i64 fr2, .int .i64 to2, .int .i64 kd2, .int .i64 nm2, .slice ya body2.length yk] (w.heap.size + 1) (by simp)).push 27 [.int .i64 0, .bool false, .int .i64 0, .int .i64 0, .int .i64 0, .int .i64 0, .slice none 0 0, .slice none 0 0, .int .i64 0] (w.heap.size + 1 + 1) (by simp)))
  refine (Valid_t (S := ⟨nx, true, ⟨fr, to_, kd, nm, body⟩, dn, tr⟩) hS.out (E1.out.fc 2 rfl) (E1.out.fc 1 rfl)).mono ?_
  rintro e w1 ⟨rfl, hb⟩
  have E2 := Lib.hid (E1.out.below hb)
  clear E0 E1 hb
  have b1 := E2.out.bx 1 rfl
  have c1_0 := b1.cell 0 rfl
  have c1_1 := b1.cell 1 rfl
  have c1_2 := b1.cell 2 rfl
  have c1_3 := b1.cell 3 rfl
  have c1_4 := b1.cell 4 rfl
  clear b1
  go_wp2_with fail
  refine (message_v ⟨fr2, to2, kd2, nm2, body2⟩ hm.out _ _ _).mono ?_
  rintro e w2 ⟨rfl, hb⟩
  have E3 := Lib.hid (E2.out.below hb)
  clear c1_0 c1_1 c1_2 c1_3 c1_4 E2 hb
  have b2 := E3.out.bx 2 rfl
  have c2_0 := b2.cell 0 rfl
  have c2_1 := b2.cell 1 rfl
  have c2_2 := b2.cell 2 rfl
  have c2_3 := b2.cell 3 rfl
  have c2_4 := b2.cell 4 rfl
  have c2_5 := b2.cell 5 rfl
  have c2_6 := b2.cell 6 rfl
  have c2_7 := b2.cell 7 rfl
  have c2_8 := b2.cell 8 rfl
  clear b2
  go_wp2_with fail
  refine (copyAll_c (S := ⟨nx, true, ⟨fr, to_, kd, nm, body⟩, dn, tr⟩) hF.out.1 hF.out.2 (E3.out.fc 2 rfl) (E3.out.fc 1 rfl)).mono ?_
  rintro e w3 ⟨⟨lsa, lsk, lsb, lsj, rfl, hls, gls⟩, hb⟩
  have E4 := Lib.hid (E3.out.got (E3.out.got (E3.out.below hb) (.bs (.slice lsa body.length lsk) body) hls.out) (.ms (.slice lsb dn.length lsj) dn) gls.out)
  clear c2_0 c2_1 c2_2 c2_3 c2_4 c2_5 c2_6 c2_7 c2_8 E3 hb hls gls
  have E5 := Lib.hid ((E4.out.push 27 [.int .i64 nx, .bool true, .int .i64 fr, .int .i64 to_, .int .i64 kd, .int .i64 nm, .slice lsa body.length lsk, .slice lsb dn.length lsj, .int .i64 tr] (w3.heap.size) (by simp)))
  have b3 := E5.out.bx 3 rfl
  have c3_1 := b3.cell 1 rfl
  clear b3
  have b4 := E5.out.bx 2 rfl
  have c4_0 := b4.cell 0 rfl
  have c4_1 := b4.cell 1 rfl
  have c4_2 := b4.cell 2 rfl
  have c4_3 := b4.cell 3 rfl
  have c4_4 := b4.cell 4 rfl
  clear b4
  have b5 := E5.out.bx 3 rfl
  have c5_2 := b5.cell 2 rfl
  have c5_3 := b5.cell 3 rfl
  have c5_4 := b5.cell 4 rfl
  have c5_5 := b5.cell 5 rfl
  have c5_6 := b5.cell 6 rfl
  clear b5
  go_wp2_with fail
  refine (belongs_v ⟨fr2, to2, kd2, nm2, body2⟩ ⟨fr, to_, kd, nm, body⟩ hb9.out _ _ _).mono ?_
  rintro e w4 ⟨rfl, hb⟩
  have E6 := Lib.hid (E5.out.below hb)
  clear c3_1 c4_0 c4_1 c4_2 c4_3 c4_4 c5_2 c5_3 c5_4 c5_5 c5_6 E4 E5 hb
  have b6 := E6.out.bx 0 rfl
  have c6_1 := b6.cell 1 rfl
  have f6_1 := b6.frozen 1
  clear b6
  have E7 : Hid (Env D w [(w3.heap.size, 27, [.int .i64 nx, .bool false, .int .i64 fr, .int .i64 to_, .int .i64 kd, .int .i64 nm, .slice lsa body.length lsk, .slice lsb dn.length lsj, .int .i64 tr]), (w.heap.size + 1 + 1, 27, [.int .i64 0, .bool false, .int .i64 0, .int .i64 0, .int .i64 0, .int .i64 0, .slice none 0 0, .slice none 0 0, .int .i64 0]), (w.heap.size + 1, 24, [.int .i64 fr2, .int .i64 to2, .int .i64 kd2, .int .i64 nm2, .slice ya body2.length yk]), (w.heap.size, 27, [.int .i64 nx, .bool true, .int .i64 fr, .int .i64 to_, .int .i64 kd, .int .i64 nm, .slice xa body.length xk, .slice da dn.length dj, .int .i64 tr])] [.ms (.slice lsb dn.length lsj) dn, .bs (.slice lsa body.length lsk) body, .bs (.slice ya body2.length yk) body2, .ms (.slice da dn.length dj) dn, .bs (.slice xa body.length xk) body] _) := Lib.hid ((E6.out.set 0 1 (.bool false) rfl))
  have b7 := E7.out.bx 0 rfl
  have c7_2 := b7.cell 2 rfl
  have c7_3 := b7.cell 3 rfl
  have c7_4 := b7.cell 4 rfl
  have c7_5 := b7.cell 5 rfl
  have c7_6 := b7.cell 6 rfl
  have f7_2 := b7.frozen 2
  have f7_3 := b7.frozen 3
  have f7_4 := b7.frozen 4
  have f7_5 := b7.frozen 5
  have f7_6 := b7.frozen 6
  clear b7
  have E8 : Hid (Env D w [(w3.heap.size, 27, [.int .i64 nx, .bool false, .int .i64 0, .int .i64 0, .int .i64 0, .int .i64 0, .slice none 0 0, .slice lsb dn.length lsj, .int .i64 tr]), (w.heap.size + 1 + 1, 27, [.int .i64 0, .bool false, .int .i64 0, .int .i64 0, .int .i64 0, .int .i64 0, .slice none 0 0, .slice none 0 0, .int .i64 0]), (w.heap.size + 1, 24, [.int .i64 fr2, .int .i64 to2, .int .i64 kd2, .int .i64 nm2, .slice ya body2.length yk]), (w.heap.size, 27, [.int .i64 nx, .bool true, .int .i64 fr, .int .i64 to_, .int .i64 kd, .int .i64 nm, .slice xa body.length xk, .slice da dn.length dj, .int .i64 tr])] [.ms (.slice lsb dn.length lsj) dn, .bs (.slice lsa body.length lsk) body, .bs (.slice ya body2.length yk) body2, .ms (.slice da dn.length dj) dn, .bs (.slice xa body.length xk) body] _) := Lib.hid ((((((E7.out.set 0 2 (.int .i64 0) rfl).set 0 3 (.int .i64 0) rfl).set 0 4 (.int .i64 0) rfl).set 0 5 (.int .i64 0) rfl).set 0 6 (.slice none 0 0) rfl))
  have b8 := E8.out.bx 0 rfl
  have c8_8 := b8.cell 8 rfl
  have f8_8 := b8.frozen 8
  clear b8
  have E9 : Hid (Env D w [(w3.heap.size, 27, [.int .i64 nx, .bool false, .int .i64 0, .int .i64 0, .int .i64 0, .int .i64 0, .slice none 0 0, .slice lsb dn.length lsj, .int .i64 0]), (w.heap.size + 1 + 1, 27, [.int .i64 0, .bool false, .int .i64 0, .int .i64 0, .int .i64 0, .int .i64 0, .slice none 0 0, .slice none 0 0, .int .i64 0]), (w.heap.size + 1, 24, [.int .i64 fr2, .int .i64 to2, .int .i64 kd2, .int .i64 nm2, .slice ya body2.length yk]), (w.heap.size, 27, [.int .i64 nx, .bool true, .int .i64 fr, .int .i64 to_, .int .i64 kd, .int .i64 nm, .slice xa body.length xk, .slice da dn.length dj, .int .i64 tr])] [.ms (.slice lsb dn.length lsj) dn, .bs (.slice lsa body.length lsk) body, .bs (.slice ya body2.length yk) body2, .ms (.slice da dn.length dj) dn, .bs (.slice xa body.length xk) body] _) := Lib.hid ((E8.out.set 0 8 (.int .i64 0) rfl))
  have b9 := E9.out.bx 0 rfl
  have c9_0 := b9.cell 0 rfl
  have c9_1 := b9.cell 1 rfl
  have c9_2 := b9.cell 2 rfl
  have c9_3 := b9.cell 3 rfl
  have c9_4 := b9.cell 4 rfl
  have c9_5 := b9.cell 5 rfl
  have c9_6 := b9.cell 6 rfl
  have c9_7 := b9.cell 7 rfl
  have c9_8 := b9.cell 8 rfl
  clear b9
  have b10 := E9.out.bx 1 rfl
  have c10_0 := b10.cell 0 rfl
  have c10_1 := b10.cell 1 rfl
  have c10_2 := b10.cell 2 rfl
  have c10_3 := b10.cell 3 rfl
  have c10_4 := b10.cell 4 rfl
  have c10_5 := b10.cell 5 rfl
  have c10_6 := b10.cell 6 rfl
  have c10_7 := b10.cell 7 rfl
  have c10_8 := b10.cell 8 rfl
  have f10_0 := b10.frozen 0
  have f10_1 := b10.frozen 1
  have f10_2 := b10.frozen 2
  have f10_3 := b10.frozen 3
  have f10_4 := b10.frozen 4
  have f10_5 := b10.frozen 5
  have f10_6 := b10.frozen 6
  have f10_7 := b10.frozen 7
  have f10_8 := b10.frozen 8
  clear b10
  go_wp2
  have E10 : Hid (Env D w [(w3.heap.size, 27, [.int .i64 nx, .bool false, .int .i64 0, .int .i64 0, .int .i64 0, .int .i64 0, .slice none 0 0, .slice lsb dn.length lsj, .int .i64 0]), (w.heap.size + 1 + 1, 27, [.int .i64 nx, .bool false, .int .i64 0, .int .i64 0, .int .i64 0, .int .i64 0, .slice none 0 0, .slice lsb dn.length lsj, .int .i64 0]), (w.heap.size + 1, 24, [.int .i64 fr2, .int .i64 to2, .int .i64 kd2, .int .i64 nm2, .slice ya body2.length yk]), (w.heap.size, 27, [.int .i64 nx, .bool true, .int .i64 fr, .int .i64 to_, .int .i64 kd, .int .i64 nm, .slice xa body.length xk, .slice da dn.length dj, .int .i64 tr])] [.ms (.slice lsb dn.length lsj) dn, .bs (.slice lsa body.length lsk) body, .bs (.slice ya body2.length yk) body2, .ms (.slice da dn.length dj) dn, .bs (.slice xa body.length xk) body] _) := Lib.hid ((((((((((E9.out.set 1 0 (.int .i64 nx) rfl).set 1 1 (.bool false) rfl).set 1 2 (.int .i64 0) rfl).set 1 3 (.int .i64 0) rfl).set 1 4 (.int .i64 0) rfl).set 1 5 (.int .i64 0) rfl).set 1 6 (.slice none 0 0) rfl).set 1 7 (.slice lsb dn.length lsj) rfl).set 1 8 (.int .i64 0) rfl))
  have hfin := E10.out
  have q11 := (hfin.bx 1 rfl).cell 0 rfl
  have q12 := (hfin.bx 1 rfl).cell 1 rfl
  have q13 := (hfin.bx 1 rfl).cell 2 rfl
  have q14 := (hfin.bx 1 rfl).cell 3 rfl
  have q15 := (hfin.bx 1 rfl).cell 4 rfl
  have q16 := (hfin.bx 1 rfl).cell 5 rfl
  have q17 := (hfin.bx 1 rfl).cell 6 rfl
  have q18 := (hfin.bx 1 rfl).cell 7 rfl
  have q19 := (hfin.bx 1 rfl).cell 8 rfl
  exact bodyPost_ret (v := .tuple #[.agg #[.int .i64 nx, .bool false, .int .i64 0, .int .i64 0, .int .i64 0, .int .i64 0, .slice none 0 0, .slice lsb dn.length lsj, .int .i64 0], .bool true, .int .i64 0]) (by simp [results, Try.results28, go_sem, q11, q12, q13, q14, q15, q16, q17, q18, q19]) rfl ⟨⟨none, 0, _, _, rfl, Lib.hid (Bs.nil _ _), (Lib.hid (hfin.out 0 rfl))⟩, hfin.bel⟩
end Go.Proofs.Ytbcfcdcomboljaa

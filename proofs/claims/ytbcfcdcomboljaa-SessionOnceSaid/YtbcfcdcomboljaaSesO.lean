/- session.Done. -/
import Derived.Test.YtbcfcdcomboljaaSesN
import Derived.Test.YtbcfcdcomboljaaSesR
namespace Go.Proofs.Ytbcfcdcomboljaa
open Go.RowKit
set_option linter.unusedVariables false
set_option maxRecDepth 100000 in
set_option maxHeartbeats 2000000 in
theorem Done_1a {D : Nat → Prop} (nx fr to_ kd nm tr : Int) (wt : Bool) (body : List Nat) (dn : List Msg) {xa : Option Addr} {xk : Nat} {da : Option Addr} {dj : Nat} (fr2 to2 kd2 nm2 : Int) (body2 : List Nat) {ya : Option Addr} {yk : Nat} (fr3 to3 kd3 nm3 : Int) (body3 : List Nat) {za : Option Addr} {zk : Nat} {w : World} (hx : Fct.at w D (.bs (.slice xa body.length xk) body)) (hy : Fct.at w D (.ms (.slice da dn.length dj) dn)) (hz : Fct.at w D (.bs (.slice ya body2.length yk) body2)) (hv : Fct.at w D (.bs (.slice za body3.length zk) body3)) (hS0 : ¬ SesOk ⟨nx, wt, ⟨fr, to_, kd, nm, body⟩, dn, tr⟩) :
    Calls Try.prog 17 #[.agg #[.int .i64 nx, .bool wt, .int .i64 fr, .int .i64 to_, .int .i64 kd, .int .i64 nm, .slice xa body.length xk, .slice da dn.length dj, .int .i64 tr], .agg #[.int .i64 fr2, .int .i64 to2, .int .i64 kd2, .int .i64 nm2, .slice ya body2.length yk], .agg #[.int .i64 fr3, .int .i64 to3, .int .i64 kd3, .int .i64 nm3, .slice za body3.length zk]] w fun e w' => RetSE (fun b => D b ∨ w.heap.size ≤ b) S0 1 e w' ∧ Below w.heap.size w w' := by
  have E0 := Lib.hid (((((Env.start D w).arg (.bs (.slice xa body.length xk) body) hx).arg (.ms (.slice da dn.length dj) dn) hy).arg (.bs (.slice ya body2.length yk) body2) hz).arg (.bs (.slice za body3.length zk) body3) hv)
  clear hx hy hz hv
  go_enter Try.func17, Try.ntmps17
  have hS := Lib.hid hS0
  clear hS0
  go_wp2_with fail
  have E1 := Lib.hid (((((E0.out.push 27 [.int .i64 nx, .bool wt, .int .i64 fr, .int .i64 to_, .int .i64 kd, .int .i64 nm, .slice xa body.length xk, .slice da dn.length dj, .int .i64 tr] (w.heap.size) (by simp)).push 24 [.int .i64 fr2, .int .i64 to2, .int .i64 kd2, .int .i64 nm2, .slice ya body2.length yk] (w.heap.size + 1) (by simp)).push 24 [.int .i64 fr3, .int .i64 to3, .int .i64 kd3, .int .i64 nm3, .slice za body3.length zk] (w.heap.size + 1 + 1) (by simp)).push 27 [.int .i64 0, .bool false, .int .i64 0, .int .i64 0, .int .i64 0, .int .i64 0, .slice none 0 0, .slice none 0 0, .int .i64 0] (w.heap.size + 1 + 1 + 1) (by simp)))
  refine (Valid_f (S := ⟨nx, wt, ⟨fr, to_, kd, nm, body⟩, dn, tr⟩) hS.out (E1.out.fc 3 rfl) (E1.out.fc 2 rfl)).mono ?_
  rintro e w1 ⟨rfl, hb⟩
  have E2 := Lib.hid (E1.out.below hb)
  clear E0 E1 hb
  have b1 := E2.out.bx 0 rfl
  have c1_0 := b1.cell 0 rfl
  have c1_1 := b1.cell 1 rfl
  have c1_2 := b1.cell 2 rfl
  have c1_3 := b1.cell 3 rfl
  have c1_4 := b1.cell 4 rfl
  have c1_5 := b1.cell 5 rfl
  have c1_6 := b1.cell 6 rfl
  have c1_7 := b1.cell 7 rfl
  have c1_8 := b1.cell 8 rfl
  have f1_0 := b1.frozen 0
  have f1_1 := b1.frozen 1
  have f1_2 := b1.frozen 2
  have f1_3 := b1.frozen 3
  have f1_4 := b1.frozen 4
  have f1_5 := b1.frozen 5
  have f1_6 := b1.frozen 6
  have f1_7 := b1.frozen 7
  have f1_8 := b1.frozen 8
  clear b1
  go_wp2
  have E3 : Hid (Env D w [(w.heap.size + 1 + 1 + 1, 27, [.int .i64 0, .bool false, .int .i64 0, .int .i64 0, .int .i64 0, .int .i64 0, .slice none 0 0, .slice none 0 0, .int .i64 0]), (w.heap.size + 1 + 1, 24, [.int .i64 fr3, .int .i64 to3, .int .i64 kd3, .int .i64 nm3, .slice za body3.length zk]), (w.heap.size + 1, 24, [.int .i64 fr2, .int .i64 to2, .int .i64 kd2, .int .i64 nm2, .slice ya body2.length yk]), (w.heap.size, 27, [.int .i64 nx, .bool wt, .int .i64 fr, .int .i64 to_, .int .i64 kd, .int .i64 nm, .slice xa body.length xk, .slice da dn.length dj, .int .i64 tr])] [.bs (.slice za body3.length zk) body3, .bs (.slice ya body2.length yk) body2, .ms (.slice da dn.length dj) dn, .bs (.slice xa body.length xk) body] _) := Lib.hid ((((((((((E2.out.set 0 0 (.int .i64 0) rfl).set 0 1 (.bool false) rfl).set 0 2 (.int .i64 0) rfl).set 0 3 (.int .i64 0) rfl).set 0 4 (.int .i64 0) rfl).set 0 5 (.int .i64 0) rfl).set 0 6 (.slice none 0 0) rfl).set 0 7 (.slice none 0 0) rfl).set 0 8 (.int .i64 0) rfl))
  have hfin := E3.out
  have q2 := (hfin.bx 0 rfl).cell 0 rfl
  have q3 := (hfin.bx 0 rfl).cell 1 rfl
  have q4 := (hfin.bx 0 rfl).cell 2 rfl
  have q5 := (hfin.bx 0 rfl).cell 3 rfl
  have q6 := (hfin.bx 0 rfl).cell 4 rfl
  have q7 := (hfin.bx 0 rfl).cell 5 rfl
  have q8 := (hfin.bx 0 rfl).cell 6 rfl
  have q9 := (hfin.bx 0 rfl).cell 7 rfl
  have q10 := (hfin.bx 0 rfl).cell 8 rfl
  exact bodyPost_ret (v := .tuple #[.agg #[.int .i64 0, .bool false, .int .i64 0, .int .i64 0, .int .i64 0, .int .i64 0, .slice none 0 0, .slice none 0 0, .int .i64 0], .int .i64 1]) (by simp [results, Try.results17, go_sem, q2, q3, q4, q5, q6, q7, q8, q9, q10]) rfl ⟨⟨none, 0, none, 0, rfl, Lib.hid (Bs.nil _ _), Lib.hid (Ms.nil _ _)⟩, hfin.bel⟩
set_option maxRecDepth 100000 in
set_option maxHeartbeats 2000000 in
theorem Done_1b {D : Nat → Prop} (nx fr to_ kd nm tr : Int) (wt : Bool) (body : List Nat) (dn : List Msg) {xa : Option Addr} {xk : Nat} {da : Option Addr} {dj : Nat} (fr2 to2 kd2 nm2 : Int) (body2 : List Nat) {ya : Option Addr} {yk : Nat} (fr3 to3 kd3 nm3 : Int) (body3 : List Nat) {za : Option Addr} {zk : Nat} {w : World} (hx : Fct.at w D (.bs (.slice xa body.length xk) body)) (hy : Fct.at w D (.ms (.slice da dn.length dj) dn)) (hz : Fct.at w D (.bs (.slice ya body2.length yk) body2)) (hv : Fct.at w D (.bs (.slice za body3.length zk) body3)) (hS0 : SesOk ⟨nx, wt, ⟨fr, to_, kd, nm, body⟩, dn, tr⟩) (hq0 : msgOk ⟨fr2, to2, kd2, nm2, body2⟩ = false) :
    Calls Try.prog 17 #[.agg #[.int .i64 nx, .bool wt, .int .i64 fr, .int .i64 to_, .int .i64 kd, .int .i64 nm, .slice xa body.length xk, .slice da dn.length dj, .int .i64 tr], .agg #[.int .i64 fr2, .int .i64 to2, .int .i64 kd2, .int .i64 nm2, .slice ya body2.length yk], .agg #[.int .i64 fr3, .int .i64 to3, .int .i64 kd3, .int .i64 nm3, .slice za body3.length zk]] w fun e w' => RetSE (fun b => D b ∨ w.heap.size ≤ b) S0 1 e w' ∧ Below w.heap.size w w' := by
  have E0 := Lib.hid (((((Env.start D w).arg (.bs (.slice xa body.length xk) body) hx).arg (.ms (.slice da dn.length dj) dn) hy).arg (.bs (.slice ya body2.length yk) body2) hz).arg (.bs (.slice za body3.length zk) body3) hv)
  clear hx hy hz hv
  go_enter Try.func17, Try.ntmps17
  have hS := Lib.hid hS0
  clear hS0
  have hq := Lib.hid hq0
  clear hq0
  go_wp2_with fail
  have E1 := Lib.hid (((((E0.out.push 27 [.int .i64 nx, .bool wt, .int .i64 fr, .int .i64 to_, .int .i64 kd, .int .i64 nm, .slice xa body.length xk, .slice da dn.length dj, .int .i64 tr] (w.heap.size) (by simp)).push 24 [.int .i64 fr2, .int .i64 to2, .int .i64 kd2, .int .i64 nm2, .slice ya body2.length yk] (w.heap.size + 1) (by simp)).push 24 [.int .i64 fr3, .int .i64 to3, .int .i64 kd3, .int .i64 nm3, .slice za body3.length zk] (w.heap.size + 1 + 1) (by simp)).push 27 [.int .i64 0, .bool false, .int .i64 0, .int .i64 0, .int .i64 0, .int .i64 0, .slice none 0 0, .slice none 0 0, .int .i64 0] (w.heap.size + 1 + 1 + 1) (by simp)))
  refine (Valid_t (S := ⟨nx, wt, ⟨fr, to_, kd, nm, body⟩, dn, tr⟩) hS.out (E1.out.fc 3 rfl) (E1.out.fc 2 rfl)).mono ?_
  rintro e w1 ⟨rfl, hb⟩
  have E2 := Lib.hid (E1.out.below hb)
  clear E0 E1 hb
  have b1 := E2.out.bx 2 rfl
  have c1_0 := b1.cell 0 rfl
  have c1_1 := b1.cell 1 rfl
  have c1_2 := b1.cell 2 rfl
  have c1_3 := b1.cell 3 rfl
  have c1_4 := b1.cell 4 rfl
  clear b1
  go_wp2_with fail
  refine (message_v ⟨fr2, to2, kd2, nm2, body2⟩ hq.out _ _ _).mono ?_
  rintro e w2 ⟨rfl, hb⟩
  have E3 := Lib.hid (E2.out.below hb)
  clear c1_0 c1_1 c1_2 c1_3 c1_4 E2 hb
  have b2 := E3.out.bx 0 rfl
  have c2_0 := b2.cell 0 rfl
  have c2_1 := b2.cell 1 rfl
  have c2_2 := b2.cell 2 rfl
  have c2_3 := b2.cell 3 rfl
  have c2_4 := b2.cell 4 rfl
  have c2_5 := b2.cell 5 rfl
  have c2_6 := b2.cell 6 rfl
  have c2_7 := b2.cell 7 rfl
  have c2_8 := b2.cell 8 rfl
  have f2_0 := b2.frozen 0
  have f2_1 := b2.frozen 1
  have f2_2 := b2.frozen 2
  have f2_3 := b2.frozen 3
  have f2_4 := b2.frozen 4
  have f2_5 := b2.frozen 5
  have f2_6 := b2.frozen 6
  have f2_7 := b2.frozen 7
  have f2_8 := b2.frozen 8
  clear b2
  go_wp2
  have E4 : Hid (Env D w [(w.heap.size + 1 + 1 + 1, 27, [.int .i64 0, .bool false, .int .i64 0, .int .i64 0, .int .i64 0, .int .i64 0, .slice none 0 0, .slice none 0 0, .int .i64 0]), (w.heap.size + 1 + 1, 24, [.int .i64 fr3, .int .i64 to3, .int .i64 kd3, .int .i64 nm3, .slice za body3.length zk]), (w.heap.size + 1, 24, [.int .i64 fr2, .int .i64 to2, .int .i64 kd2, .int .i64 nm2, .slice ya body2.length yk]), (w.heap.size, 27, [.int .i64 nx, .bool wt, .int .i64 fr, .int .i64 to_, .int .i64 kd, .int .i64 nm, .slice xa body.length xk, .slice da dn.length dj, .int .i64 tr])] [.bs (.slice za body3.length zk) body3, .bs (.slice ya body2.length yk) body2, .ms (.slice da dn.length dj) dn, .bs (.slice xa body.length xk) body] _) := Lib.hid ((((((((((E3.out.set 0 0 (.int .i64 0) rfl).set 0 1 (.bool false) rfl).set 0 2 (.int .i64 0) rfl).set 0 3 (.int .i64 0) rfl).set 0 4 (.int .i64 0) rfl).set 0 5 (.int .i64 0) rfl).set 0 6 (.slice none 0 0) rfl).set 0 7 (.slice none 0 0) rfl).set 0 8 (.int .i64 0) rfl))
  have hfin := E4.out
  have q3 := (hfin.bx 0 rfl).cell 0 rfl
  have q4 := (hfin.bx 0 rfl).cell 1 rfl
  have q5 := (hfin.bx 0 rfl).cell 2 rfl
  have q6 := (hfin.bx 0 rfl).cell 3 rfl
  have q7 := (hfin.bx 0 rfl).cell 4 rfl
  have q8 := (hfin.bx 0 rfl).cell 5 rfl
  have q9 := (hfin.bx 0 rfl).cell 6 rfl
  have q10 := (hfin.bx 0 rfl).cell 7 rfl
  have q11 := (hfin.bx 0 rfl).cell 8 rfl
  exact bodyPost_ret (v := .tuple #[.agg #[.int .i64 0, .bool false, .int .i64 0, .int .i64 0, .int .i64 0, .int .i64 0, .slice none 0 0, .slice none 0 0, .int .i64 0], .int .i64 1]) (by simp [results, Try.results17, go_sem, q3, q4, q5, q6, q7, q8, q9, q10, q11]) rfl ⟨⟨none, 0, none, 0, rfl, Lib.hid (Bs.nil _ _), Lib.hid (Ms.nil _ _)⟩, hfin.bel⟩
set_option maxRecDepth 100000 in
set_option maxHeartbeats 2000000 in
theorem Done_1c {D : Nat → Prop} (nx fr to_ kd nm tr : Int) (wt : Bool) (body : List Nat) (dn : List Msg) {xa : Option Addr} {xk : Nat} {da : Option Addr} {dj : Nat} (fr2 to2 kd2 nm2 : Int) (body2 : List Nat) {ya : Option Addr} {yk : Nat} (fr3 to3 kd3 nm3 : Int) (body3 : List Nat) {za : Option Addr} {zk : Nat} {w : World} (hx : Fct.at w D (.bs (.slice xa body.length xk) body)) (hy : Fct.at w D (.ms (.slice da dn.length dj) dn)) (hz : Fct.at w D (.bs (.slice ya body2.length yk) body2)) (hv : Fct.at w D (.bs (.slice za body3.length zk) body3)) (hS0 : SesOk ⟨nx, wt, ⟨fr, to_, kd, nm, body⟩, dn, tr⟩) (hq0 : msgOk ⟨fr2, to2, kd2, nm2, body2⟩ = true) (ha0 : msgOk ⟨fr3, to3, kd3, nm3, body3⟩ = false) :
    Calls Try.prog 17 #[.agg #[.int .i64 nx, .bool wt, .int .i64 fr, .int .i64 to_, .int .i64 kd, .int .i64 nm, .slice xa body.length xk, .slice da dn.length dj, .int .i64 tr], .agg #[.int .i64 fr2, .int .i64 to2, .int .i64 kd2, .int .i64 nm2, .slice ya body2.length yk], .agg #[.int .i64 fr3, .int .i64 to3, .int .i64 kd3, .int .i64 nm3, .slice za body3.length zk]] w fun e w' => RetSE (fun b => D b ∨ w.heap.size ≤ b) S0 1 e w' ∧ Below w.heap.size w w' := by
  have E0 := Lib.hid (((((Env.start D w).arg (.bs (.slice xa body.length xk) body) hx).arg (.ms (.slice da dn.length dj) dn) hy).arg (.bs (.slice ya body2.length yk) body2) hz).arg (.bs (.slice za body3.length zk) body3) hv)
  clear hx hy hz hv
  go_enter Try.func17, Try.ntmps17
  have hS := Lib.hid hS0
  clear hS0
  have hq := Lib.hid hq0
  clear hq0
  have ha := Lib.hid ha0
  clear ha0
  go_wp2_with fail
  have E1 := Lib.hid (((((E0.out.push 27 [.int .i64 nx, .bool wt, .int .i64 fr, .int .i64 to_, .int .i64 kd, .int .i64 nm, .slice xa body.length xk, .slice da dn.length dj, .int .i64 tr] (w.heap.size) (by simp)).push 24 [.int .i64 fr2, .int .i64 to2, .int .i64 kd2, .int .i64 nm2, .slice ya body2.length yk] (w.heap.size + 1) (by simp)).push 24 [.int .i64 fr3, .int .i64 to3, .int .i64 kd3, .int .i64 nm3, .slice za body3.length zk] (w.heap.size + 1 + 1) (by simp)).push 27 [.int .i64 0, .bool false, .int .i64 0, .int .i64 0, .int .i64 0, .int .i64 0, .slice none 0 0, .slice none 0 0, .int .i64 0] (w.heap.size + 1 + 1 + 1) (by simp)))
  refine (Valid_t (S := ⟨nx, wt, ⟨fr, to_, kd, nm, body⟩, dn, tr⟩) hS.out (E1.out.fc 3 rfl) (E1.out.fc 2 rfl)).mono ?_
  rintro e w1 ⟨rfl, hb⟩
  have E2 := Lib.hid (E1.out.below hb)
  clear E0 E1 hb
  have b1 := E2.out.bx 2 rfl
  have c1_0 := b1.cell 0 rfl
  have c1_1 := b1.cell 1 rfl
  have c1_2 := b1.cell 2 rfl
  have c1_3 := b1.cell 3 rfl
  have c1_4 := b1.cell 4 rfl
  clear b1
  go_wp2_with fail
  refine (message_v ⟨fr2, to2, kd2, nm2, body2⟩ hq.out _ _ _).mono ?_
  rintro e w2 ⟨rfl, hb⟩
  have E3 := Lib.hid (E2.out.below hb)
  clear c1_0 c1_1 c1_2 c1_3 c1_4 E2 hb
  have b2 := E3.out.bx 1 rfl
  have c2_0 := b2.cell 0 rfl
  have c2_1 := b2.cell 1 rfl
  have c2_2 := b2.cell 2 rfl
  have c2_3 := b2.cell 3 rfl
  have c2_4 := b2.cell 4 rfl
  clear b2
  go_wp2_with fail
  refine (message_v ⟨fr3, to3, kd3, nm3, body3⟩ ha.out _ _ _).mono ?_
  rintro e w3 ⟨rfl, hb⟩
  have E4 := Lib.hid (E3.out.below hb)
  clear c2_0 c2_1 c2_2 c2_3 c2_4 E3 hb
  have b3 := E4.out.bx 0 rfl
  have c3_0 := b3.cell 0 rfl
  have c3_1 := b3.cell 1 rfl
  have c3_2 := b3.cell 2 rfl
  have c3_3 := b3.cell 3 rfl
  have c3_4 := b3.cell 4 rfl
  have c3_5 := b3.cell 5 rfl
  have c3_6 := b3.cell 6 rfl
  have c3_7 := b3.cell 7 rfl
  have c3_8 := b3.cell 8 rfl
  have f3_0 := b3.frozen 0
  have f3_1 := b3.frozen 1
  have f3_2 := b3.frozen 2
  have f3_3 := b3.frozen 3
  have f3_4 := b3.frozen 4
  have f3_5 := b3.frozen 5
  have f3_6 := b3.frozen 6
  have f3_7 := b3.frozen 7
  have f3_8 := b3.frozen 8
  clear b3
  go_wp2
  have E5 : Hid (Env D w [(w.heap.size + 1 + 1 + 1, 27, [.int .i64 0, .bool false, .int .i64 0, .int .i64 0, .int .i64 0, .int .i64 0, .slice none 0 0, .slice none 0 0, .int .i64 0]), (w.heap.size + 1 + 1, 24, [.int .i64 fr3, .int .i64 to3, .int .i64 kd3, .int .i64 nm3, .slice za body3.length zk]), (w.heap.size + 1, 24, [.int .i64 fr2, .int .i64 to2, .int .i64 kd2, .int .i64 nm2, .slice ya body2.length yk]), (w.heap.size, 27, [.int .i64 nx, .bool wt, .int .i64 fr, .int .i64 to_, .int .i64 kd, .int .i64 nm, .slice xa body.length xk, .slice da dn.length dj, .int .i64 tr])] [.bs (.slice za body3.length zk) body3, .bs (.slice ya body2.length yk) body2, .ms (.slice da dn.length dj) dn, .bs (.slice xa body.length xk) body] _) := Lib.hid ((((((((((E4.out.set 0 0 (.int .i64 0) rfl).set 0 1 (.bool false) rfl).set 0 2 (.int .i64 0) rfl).set 0 3 (.int .i64 0) rfl).set 0 4 (.int .i64 0) rfl).set 0 5 (.int .i64 0) rfl).set 0 6 (.slice none 0 0) rfl).set 0 7 (.slice none 0 0) rfl).set 0 8 (.int .i64 0) rfl))
  have hfin := E5.out
  have q4 := (hfin.bx 0 rfl).cell 0 rfl
  have q5 := (hfin.bx 0 rfl).cell 1 rfl
  have q6 := (hfin.bx 0 rfl).cell 2 rfl
  have q7 := (hfin.bx 0 rfl).cell 3 rfl
  have q8 := (hfin.bx 0 rfl).cell 4 rfl
  have q9 := (hfin.bx 0 rfl).cell 5 rfl
  have q10 := (hfin.bx 0 rfl).cell 6 rfl
  have q11 := (hfin.bx 0 rfl).cell 7 rfl
  have q12 := (hfin.bx 0 rfl).cell 8 rfl
  exact bodyPost_ret (v := .tuple #[.agg #[.int .i64 0, .bool false, .int .i64 0, .int .i64 0, .int .i64 0, .int .i64 0, .slice none 0 0, .slice none 0 0, .int .i64 0], .int .i64 1]) (by simp [results, Try.results17, go_sem, q4, q5, q6, q7, q8, q9, q10, q11, q12]) rfl ⟨⟨none, 0, none, 0, rfl, Lib.hid (Bs.nil _ _), Lib.hid (Ms.nil _ _)⟩, hfin.bel⟩
set_option maxRecDepth 100000 in
set_option maxHeartbeats 2000000 in
theorem Done_8 {D : Nat → Prop} (nx fr to_ kd nm tr : Int) (wt : Bool) (body : List Nat) (dn : List Msg) {xa : Option Addr} {xk : Nat} {db df dj : Nat} (fr2 to2 kd2 nm2 : Int) (body2 : List Nat) {ya : Option Addr} {yk : Nat} (fr3 to3 kd3 nm3 : Int) (body3 : List Nat) {za : Option Addr} {zk : Nat} (kk : Nat) {w : World} (hx : Fct.at w D (.bs (.slice xa body.length xk) body)) (hy : Fct.at w D (.ms (.slice (some ⟨db, df, none⟩) dn.length dj) dn)) (hz : Fct.at w D (.bs (.slice ya body2.length yk) body2)) (hv : Fct.at w D (.bs (.slice za body3.length zk) body3)) (hS0 : SesOk ⟨nx, wt, ⟨fr, to_, kd, nm, body⟩, dn, tr⟩) (hq0 : msgOk ⟨fr2, to2, kd2, nm2, body2⟩ = true) (ha0 : msgOk ⟨fr3, to3, kd3, nm3, body3⟩ = true) (hf0 : ∃ h : kk < dn.length, dn[kk].to_ = fr2 ∧ dn[kk].nm = nm2) :
    Calls Try.prog 17 #[.agg #[.int .i64 nx, .bool wt, .int .i64 fr, .int .i64 to_, .int .i64 kd, .int .i64 nm, .slice xa body.length xk, .slice (some ⟨db, df, none⟩) dn.length dj, .int .i64 tr], .agg #[.int .i64 fr2, .int .i64 to2, .int .i64 kd2, .int .i64 nm2, .slice ya body2.length yk], .agg #[.int .i64 fr3, .int .i64 to3, .int .i64 kd3, .int .i64 nm3, .slice za body3.length zk]] w fun e w' => RetSE (fun b => D b ∨ w.heap.size ≤ b) S0 8 e w' ∧ Below w.heap.size w w' := by
  have E0 := Lib.hid (((((Env.start D w).arg (.bs (.slice xa body.length xk) body) hx).arg (.ms (.slice (some ⟨db, df, none⟩) dn.length dj) dn) hy).arg (.bs (.slice ya body2.length yk) body2) hz).arg (.bs (.slice za body3.length zk) body3) hv)
  clear hx hy hz hv
  go_enter Try.func17, Try.ntmps17
  have hS := Lib.hid hS0
  clear hS0
  have hq := Lib.hid hq0
  clear hq0
  have ha := Lib.hid ha0
  clear ha0
  have hf := Lib.hid hf0
  clear hf0
  obtain ⟨hk, hto9, hcd9⟩ := hf.out
  have hto := Lib.hid hto9
  have hcd := Lib.hid hcd9
  clear hto9 hcd9
  have hF := Lib.hid (SesOk.fair hS.out)
  have hA := Lib.hid (asc_of hS.out.2.2.2)
  have a3 : dn.length ≤ 1000 := hS.out.1.2.2
  have hl3 := Lib.hid (msgOk.len ha.out)
  go_wp2_with fail
  have E1 := Lib.hid (((((E0.out.push 27 [.int .i64 nx, .bool wt, .int .i64 fr, .int .i64 to_, .int .i64 kd, .int .i64 nm, .slice xa body.length xk, .slice (some ⟨db, df, none⟩) dn.length dj, .int .i64 tr] (w.heap.size) (by simp)).push 24 [.int .i64 fr2, .int .i64 to2, .int .i64 kd2, .int .i64 nm2, .slice ya body2.length yk] (w.heap.size + 1) (by simp)).push 24 [.int .i64 fr3, .int .i64 to3, .int .i64 kd3, .int .i64 nm3, .slice za body3.length zk] (w.heap.size + 1 + 1) (by simp)).push 27 [.int .i64 0, .bool false, .int .i64 0, .int .i64 0, .int .i64 0, .int .i64 0, .slice none 0 0, .slice none 0 0, .int .i64 0] (w.heap.size + 1 + 1 + 1) (by simp)))
  refine (Valid_t (S := ⟨nx, wt, ⟨fr, to_, kd, nm, body⟩, dn, tr⟩) hS.out (E1.out.fc 3 rfl) (E1.out.fc 2 rfl)).mono ?_
  rintro e w1 ⟨rfl, hb⟩
  have E2 := Lib.hid (E1.out.below hb)
  clear E0 E1 hb
  have b1 := E2.out.bx 2 rfl
  have c1_0 := b1.cell 0 rfl
  have c1_1 := b1.cell 1 rfl
  have c1_2 := b1.cell 2 rfl
  have c1_3 := b1.cell 3 rfl
  have c1_4 := b1.cell 4 rfl
  clear b1
  go_wp2_with fail
  refine (message_v ⟨fr2, to2, kd2, nm2, body2⟩ hq.out _ _ _).mono ?_
  rintro e w2 ⟨rfl, hb⟩
  have E3 := Lib.hid (E2.out.below hb)
  clear c1_0 c1_1 c1_2 c1_3 c1_4 E2 hb
  have b2 := E3.out.bx 1 rfl
  have c2_0 := b2.cell 0 rfl
  have c2_1 := b2.cell 1 rfl
  have c2_2 := b2.cell 2 rfl
  have c2_3 := b2.cell 3 rfl
  have c2_4 := b2.cell 4 rfl
  clear b2
  go_wp2_with fail
  refine (message_v ⟨fr3, to3, kd3, nm3, body3⟩ ha.out _ _ _).mono ?_
  rintro e w3 ⟨rfl, hb⟩
  have E4 := Lib.hid (E3.out.below hb)
  clear c2_0 c2_1 c2_2 c2_3 c2_4 E3 hb
  have b3 := E4.out.bx 3 rfl
  have c3_0 := b3.cell 0 rfl
  have c3_1 := b3.cell 1 rfl
  have c3_2 := b3.cell 2 rfl
  have c3_3 := b3.cell 3 rfl
  have c3_4 := b3.cell 4 rfl
  have c3_5 := b3.cell 5 rfl
  have c3_6 := b3.cell 6 rfl
  have c3_7 := b3.cell 7 rfl
  have c3_8 := b3.cell 8 rfl
  clear b3
  have b4 := E4.out.bx 2 rfl
  have c4_0 := b4.cell 0 rfl
  clear b4
  go_wp2_with fail
  refine (find_c (S := ⟨nx, wt, ⟨fr, to_, kd, nm, body⟩, dn, tr⟩) fr2 hS.out (E4.out.fc 2 rfl)).mono ?_
  rintro e w4 ⟨⟨fi, ft, hfo, rfl⟩, hb⟩
  have E5 := Lib.hid (E4.out.below hb)
  clear c3_0 c3_1 c3_2 c3_3 c3_4 c3_5 c3_6 c3_7 c3_8 c4_0 E4 hb
  obtain ⟨e1, e2⟩ := found_at hfo.out hA.out hk hto.out; clear hfo; subst e1 e2
  have t1 : (dn[kk].nm == nm2) = true := by have := hcd.out; simp; omega
  have t2 : decide (nm2 < dn[kk].nm) = false := decide_eq_false (by have := hcd.out; omega)
  obtain ⟨ua, uk, E60⟩ := E5.out.els 2 rfl (kk) hk
  have E6 : Hid (Env D w [(w.heap.size + 1 + 1 + 1, 27, [.int .i64 0, .bool false, .int .i64 0, .int .i64 0, .int .i64 0, .int .i64 0, .slice none 0 0, .slice none 0 0, .int .i64 0]), (w.heap.size + 1 + 1, 24, [.int .i64 fr3, .int .i64 to3, .int .i64 kd3, .int .i64 nm3, .slice za body3.length zk]), (w.heap.size + 1, 24, [.int .i64 fr2, .int .i64 to2, .int .i64 kd2, .int .i64 nm2, .slice ya body2.length yk]), (w.heap.size, 27, [.int .i64 nx, .bool wt, .int .i64 fr, .int .i64 to_, .int .i64 kd, .int .i64 nm, .slice xa body.length xk, .slice (some ⟨db, df, none⟩) dn.length dj, .int .i64 tr])] [.ce db (df + kk * 5) (.int .i64 dn[kk].fr), .ce db (df + kk * 5 + 1) (.int .i64 dn[kk].to_), .ce db (df + kk * 5 + 2) (.int .i64 dn[kk].kd), .ce db (df + kk * 5 + 3) (.int .i64 dn[kk].nm), .ce db (df + kk * 5 + 4) (.slice ua dn[kk].body.length uk), .bs (.slice ua dn[kk].body.length uk) dn[kk].body, .bs (.slice za body3.length zk) body3, .bs (.slice ya body2.length yk) body2, .ms (.slice (some ⟨db, df, none⟩) dn.length dj) dn, .bs (.slice xa body.length xk) body] _) := Lib.hid E60
  clear E60 E5
  go_wp2_with fail
  have E7 := Lib.hid E6.out.drew
  clear E6
  refine wp_region_held_drew (S := fun w' => w'.cell? ⟨w.heap.size, 7, none⟩ = some (.slice (some ⟨db, df, none⟩) dn.length dj) ∧ w'.cell? ⟨w.heap.size + 1, 3, none⟩ = some (.int .i64 nm2) ∧ w'.cell? ⟨db, df + kk * 5 + 3, none⟩ = some (.int .i64 dn[kk].nm)) (by kernel_rfl) (⟨((E7.out.bx 3 rfl).cell 7 rfl), ((E7.out.bx 2 rfl).cell 3 rfl), (E7.out.fc 3 rfl).2⟩) (fun hHeld => ?_)
  generalize w4.drew = w5 at *
  refine takeW (i := 0) (some 34) (v := ?_) rfl rfl (by kernel_rfl) (by kernel_rfl) (by kernel_rfl) (fun _ _ _ h => h) (by rfl) (by assumption) ?_ ?_
  rotate_left
  · (intro wS hSw; (try dsimp only at hSw); go_simp; try with_reducible rfl)
  try simp only [Act.put, List.setIfInBounds_toArray, List.set_cons_zero, List.set_cons_succ]
  refine takeW (i := 1) (some 35) (v := ?_) rfl rfl (by kernel_rfl) (by kernel_rfl) (by kernel_rfl) (fun _ _ _ h => h) (by rfl) (by assumption) ?_ ?_
  rotate_left
  · (intro wS hSw; (try dsimp only at hSw); go_simp; try with_reducible rfl)
  try simp only [Act.put, List.setIfInBounds_toArray, List.set_cons_zero, List.set_cons_succ]
  refine takeW (i := 2) (some 36) (v := ?_) rfl rfl (by kernel_rfl) (by kernel_rfl) (by kernel_rfl) (fun _ _ _ h => h) (by rfl) (by assumption) ?_ ?_
  rotate_left
  · (intro wS hSw; (try dsimp only at hSw); go_simp; try with_reducible rfl)
  try simp only [Act.put, List.setIfInBounds_toArray, List.set_cons_zero, List.set_cons_succ]
  refine takeW (i := 3) (some 37) (v := ?_) rfl rfl (by kernel_rfl) (by kernel_rfl) (by kernel_rfl) (fun _ _ _ h => h) (by rfl) (by assumption) ?_ ?_
  rotate_left
  · (intro wS hSw; (try dsimp only at hSw); go_simp; try with_reducible rfl)
  try simp only [Act.put, List.setIfInBounds_toArray, List.set_cons_zero, List.set_cons_succ]
  refine takeW (i := 4) (some 38) (v := ?_) rfl rfl (by kernel_rfl) (by kernel_rfl) (by kernel_rfl) (fun _ _ _ h => h) (by rfl) (by assumption) ?_ ?_
  rotate_left
  · (intro wS hSw; (try dsimp only at hSw); go_simp; try with_reducible rfl)
  try simp only [Act.put, List.setIfInBounds_toArray, List.set_cons_zero, List.set_cons_succ]
  refine takeW (i := 5) (some 39) (v := ?_) rfl rfl (by kernel_rfl) (by kernel_rfl) (by kernel_rfl) (fun _ _ _ h => h) (by rfl) (by assumption) ?_ ?_
  rotate_left
  · (intro wS hSw; (try dsimp only at hSw); go_simp; try with_reducible rfl)
  try simp only [Act.put, List.setIfInBounds_toArray, List.set_cons_zero, List.set_cons_succ]
  refine takeW (i := 6) (some 40) (v := ?_) rfl rfl (by kernel_rfl) (by kernel_rfl) (by kernel_rfl) (fun _ _ _ h => h) (by rfl) (by assumption) ?_ ?_
  rotate_left
  · (intro wS hSw; (try dsimp only at hSw); go_simp; try with_reducible rfl)
  try simp only [Act.put, List.setIfInBounds_toArray, List.set_cons_zero, List.set_cons_succ]
  refine takeW (i := 7) (some 41) (v := ?_) rfl rfl (by kernel_rfl) (by kernel_rfl) (by kernel_rfl) (fun _ _ _ h => h) (by rfl) (by assumption) ?_ ?_
  rotate_left
  · (intro wS hSw; (try dsimp only at hSw); go_simp; try with_reducible rfl)
  try simp only [Act.put, List.setIfInBounds_toArray, List.set_cons_zero, List.set_cons_succ]
  refine takeW (i := 8) (some 42) (v := ?_) rfl rfl (by kernel_rfl) (by kernel_rfl) (by kernel_rfl) (fun _ _ _ h => h) (by rfl) (by assumption) ?_ ?_
  rotate_left
  · (intro wS hSw; (try dsimp only at hSw); go_simp; try with_reducible rfl)
  try simp only [Act.put, List.setIfInBounds_toArray, List.set_cons_zero, List.set_cons_succ]
  refine takeW (i := 9) (some 43) (v := ?_) rfl rfl (by kernel_rfl) (by kernel_rfl) (by kernel_rfl) (fun _ _ _ h => h) (by rfl) (by assumption) ?_ ?_
  rotate_left
  · (intro wS hSw; (try dsimp only at hSw); go_simp; try with_reducible rfl)
  try simp only [Act.put, List.setIfInBounds_toArray, List.set_cons_zero, List.set_cons_succ]
  refine takeW (i := 10) (some 44) (v := ?_) rfl rfl (by kernel_rfl) (by kernel_rfl) (by kernel_rfl) (fun _ _ _ h => h) (by rfl) (by assumption) ?_ ?_
  rotate_left
  · (intro wS hSw; (try dsimp only at hSw); go_simp; try with_reducible rfl)
  try simp only [Act.put, List.setIfInBounds_toArray, List.set_cons_zero, List.set_cons_succ]
  refine takeW (i := 11) (some 45) (v := ?_) rfl rfl (by kernel_rfl) (by kernel_rfl) (by kernel_rfl) (fun _ _ _ h => h) (by rfl) (by assumption) ?_ ?_
  rotate_left
  · (intro wS hSw; (try dsimp only at hSw); go_simp; try with_reducible rfl)
  try simp only [Act.put, List.setIfInBounds_toArray, List.set_cons_zero, List.set_cons_succ]
  refine takeW (i := 12) (some 33) (v := ?_) rfl rfl (by kernel_rfl) (by kernel_rfl) (by kernel_rfl) (fun _ _ _ h => h) (by rfl) (by assumption) ?_ ?_
  rotate_left
  · (intro wS hSw; (try dsimp only at hSw); go_simp; try with_reducible rfl)
  try simp only [Act.put, List.setIfInBounds_toArray, List.set_cons_zero, List.set_cons_succ]
  refine wpAnyH_done (by kernel_rfl) ?_ _
  have b5 := E7.out.bx 0 rfl
  have c5_0 := b5.cell 0 rfl
  have c5_1 := b5.cell 1 rfl
  have c5_2 := b5.cell 2 rfl
  have c5_3 := b5.cell 3 rfl
  have c5_4 := b5.cell 4 rfl
  have c5_5 := b5.cell 5 rfl
  have c5_6 := b5.cell 6 rfl
  have c5_7 := b5.cell 7 rfl
  have c5_8 := b5.cell 8 rfl
  have f5_0 := b5.frozen 0
  have f5_1 := b5.frozen 1
  have f5_2 := b5.frozen 2
  have f5_3 := b5.frozen 3
  have f5_4 := b5.frozen 4
  have f5_5 := b5.frozen 5
  have f5_6 := b5.frozen 6
  have f5_7 := b5.frozen 7
  have f5_8 := b5.frozen 8
  clear b5
  go_wp2
  have E8 : Hid (Env D w [(w.heap.size + 1 + 1 + 1, 27, [.int .i64 0, .bool false, .int .i64 0, .int .i64 0, .int .i64 0, .int .i64 0, .slice none 0 0, .slice none 0 0, .int .i64 0]), (w.heap.size + 1 + 1, 24, [.int .i64 fr3, .int .i64 to3, .int .i64 kd3, .int .i64 nm3, .slice za body3.length zk]), (w.heap.size + 1, 24, [.int .i64 fr2, .int .i64 to2, .int .i64 kd2, .int .i64 nm2, .slice ya body2.length yk]), (w.heap.size, 27, [.int .i64 nx, .bool wt, .int .i64 fr, .int .i64 to_, .int .i64 kd, .int .i64 nm, .slice xa body.length xk, .slice (some ⟨db, df, none⟩) dn.length dj, .int .i64 tr])] [.ce db (df + kk * 5) (.int .i64 dn[kk].fr), .ce db (df + kk * 5 + 1) (.int .i64 dn[kk].to_), .ce db (df + kk * 5 + 2) (.int .i64 dn[kk].kd), .ce db (df + kk * 5 + 3) (.int .i64 dn[kk].nm), .ce db (df + kk * 5 + 4) (.slice ua dn[kk].body.length uk), .bs (.slice ua dn[kk].body.length uk) dn[kk].body, .bs (.slice za body3.length zk) body3, .bs (.slice ya body2.length yk) body2, .ms (.slice (some ⟨db, df, none⟩) dn.length dj) dn, .bs (.slice xa body.length xk) body] _) := Lib.hid ((((((((((E7.out.set 0 0 (.int .i64 0) rfl).set 0 1 (.bool false) rfl).set 0 2 (.int .i64 0) rfl).set 0 3 (.int .i64 0) rfl).set 0 4 (.int .i64 0) rfl).set 0 5 (.int .i64 0) rfl).set 0 6 (.slice none 0 0) rfl).set 0 7 (.slice none 0 0) rfl).set 0 8 (.int .i64 0) rfl))
  have hfin := E8.out
  have q6 := (hfin.bx 0 rfl).cell 0 rfl
  have q7 := (hfin.bx 0 rfl).cell 1 rfl
  have q8 := (hfin.bx 0 rfl).cell 2 rfl
  have q9 := (hfin.bx 0 rfl).cell 3 rfl
  have q10 := (hfin.bx 0 rfl).cell 4 rfl
  have q11 := (hfin.bx 0 rfl).cell 5 rfl
  have q12 := (hfin.bx 0 rfl).cell 6 rfl
  have q13 := (hfin.bx 0 rfl).cell 7 rfl
  have q14 := (hfin.bx 0 rfl).cell 8 rfl
  exact bodyPost_ret (v := .tuple #[.agg #[.int .i64 0, .bool false, .int .i64 0, .int .i64 0, .int .i64 0, .int .i64 0, .slice none 0 0, .slice none 0 0, .int .i64 0], .int .i64 8]) (by simp [results, Try.results17, go_sem, q6, q7, q8, q9, q10, q11, q12, q13, q14]) rfl ⟨⟨none, 0, none, 0, rfl, Lib.hid (Bs.nil _ _), Lib.hid (Ms.nil _ _)⟩, hfin.bel⟩
set_option maxRecDepth 100000 in
set_option maxHeartbeats 2000000 in
theorem Done_14 {D : Nat → Prop} (nx fr to_ kd nm tr : Int) (wt : Bool) (body : List Nat) (dn : List Msg) {xa : Option Addr} {xk : Nat} {db df dj : Nat} (fr2 to2 kd2 nm2 : Int) (body2 : List Nat) {ya : Option Addr} {yk : Nat} (fr3 to3 kd3 nm3 : Int) (body3 : List Nat) {za : Option Addr} {zk : Nat} (kk : Nat) {w : World} (hx : Fct.at w D (.bs (.slice xa body.length xk) body)) (hy : Fct.at w D (.ms (.slice (some ⟨db, df, none⟩) dn.length dj) dn)) (hz : Fct.at w D (.bs (.slice ya body2.length yk) body2)) (hv : Fct.at w D (.bs (.slice za body3.length zk) body3)) (hS0 : SesOk ⟨nx, wt, ⟨fr, to_, kd, nm, body⟩, dn, tr⟩) (hq0 : msgOk ⟨fr2, to2, kd2, nm2, body2⟩ = true) (ha0 : msgOk ⟨fr3, to3, kd3, nm3, body3⟩ = true) (hf0 : ∃ h : kk < dn.length, dn[kk].to_ = fr2 ∧ nm2 < dn[kk].nm) :
    Calls Try.prog 17 #[.agg #[.int .i64 nx, .bool wt, .int .i64 fr, .int .i64 to_, .int .i64 kd, .int .i64 nm, .slice xa body.length xk, .slice (some ⟨db, df, none⟩) dn.length dj, .int .i64 tr], .agg #[.int .i64 fr2, .int .i64 to2, .int .i64 kd2, .int .i64 nm2, .slice ya body2.length yk], .agg #[.int .i64 fr3, .int .i64 to3, .int .i64 kd3, .int .i64 nm3, .slice za body3.length zk]] w fun e w' => RetSE (fun b => D b ∨ w.heap.size ≤ b) S0 14 e w' ∧ Below w.heap.size w w' := by
  have E0 := Lib.hid (((((Env.start D w).arg (.bs (.slice xa body.length xk) body) hx).arg (.ms (.slice (some ⟨db, df, none⟩) dn.length dj) dn) hy).arg (.bs (.slice ya body2.length yk) body2) hz).arg (.bs (.slice za body3.length zk) body3) hv)
  clear hx hy hz hv
  go_enter Try.func17, Try.ntmps17
  have hS := Lib.hid hS0
  clear hS0
  have hq := Lib.hid hq0
  clear hq0
  have ha := Lib.hid ha0
  clear ha0
  have hf := Lib.hid hf0
  clear hf0
  obtain ⟨hk, hto9, hcd9⟩ := hf.out
  have hto := Lib.hid hto9
  have hcd := Lib.hid hcd9
  clear hto9 hcd9
  have hF := Lib.hid (SesOk.fair hS.out)
  have hA := Lib.hid (asc_of hS.out.2.2.2)
  have a3 : dn.length ≤ 1000 := hS.out.1.2.2
  have hl3 := Lib.hid (msgOk.len ha.out)
  go_wp2_with fail
  have E1 := Lib.hid (((((E0.out.push 27 [.int .i64 nx, .bool wt, .int .i64 fr, .int .i64 to_, .int .i64 kd, .int .i64 nm, .slice xa body.length xk, .slice (some ⟨db, df, none⟩) dn.length dj, .int .i64 tr] (w.heap.size) (by simp)).push 24 [.int .i64 fr2, .int .i64 to2, .int .i64 kd2, .int .i64 nm2, .slice ya body2.length yk] (w.heap.size + 1) (by simp)).push 24 [.int .i64 fr3, .int .i64 to3, .int .i64 kd3, .int .i64 nm3, .slice za body3.length zk] (w.heap.size + 1 + 1) (by simp)).push 27 [.int .i64 0, .bool false, .int .i64 0, .int .i64 0, .int .i64 0, .int .i64 0, .slice none 0 0, .slice none 0 0, .int .i64 0] (w.heap.size + 1 + 1 + 1) (by simp)))
  refine (Valid_t (S := ⟨nx, wt, ⟨fr, to_, kd, nm, body⟩, dn, tr⟩) hS.out (E1.out.fc 3 rfl) (E1.out.fc 2 rfl)).mono ?_
  rintro e w1 ⟨rfl, hb⟩
  have E2 := Lib.hid (E1.out.below hb)
  clear E0 E1 hb
  have b1 := E2.out.bx 2 rfl
  have c1_0 := b1.cell 0 rfl
  have c1_1 := b1.cell 1 rfl
  have c1_2 := b1.cell 2 rfl
  have c1_3 := b1.cell 3 rfl
  have c1_4 := b1.cell 4 rfl
  clear b1
  go_wp2_with fail
  refine (message_v ⟨fr2, to2, kd2, nm2, body2⟩ hq.out _ _ _).mono ?_
  rintro e w2 ⟨rfl, hb⟩
  have E3 := Lib.hid (E2.out.below hb)
  clear c1_0 c1_1 c1_2 c1_3 c1_4 E2 hb
  have b2 := E3.out.bx 1 rfl
  have c2_0 := b2.cell 0 rfl
  have c2_1 := b2.cell 1 rfl
  have c2_2 := b2.cell 2 rfl
  have c2_3 := b2.cell 3 rfl
  have c2_4 := b2.cell 4 rfl
  clear b2
  go_wp2_with fail
  refine (message_v ⟨fr3, to3, kd3, nm3, body3⟩ ha.out _ _ _).mono ?_
  rintro e w3 ⟨rfl, hb⟩
  have E4 := Lib.hid (E3.out.below hb)
  clear c2_0 c2_1 c2_2 c2_3 c2_4 E3 hb
  have b3 := E4.out.bx 3 rfl
  have c3_0 := b3.cell 0 rfl
  have c3_1 := b3.cell 1 rfl
  have c3_2 := b3.cell 2 rfl
  have c3_3 := b3.cell 3 rfl
  have c3_4 := b3.cell 4 rfl
  have c3_5 := b3.cell 5 rfl
  have c3_6 := b3.cell 6 rfl
  have c3_7 := b3.cell 7 rfl
  have c3_8 := b3.cell 8 rfl
  clear b3
  have b4 := E4.out.bx 2 rfl
  have c4_0 := b4.cell 0 rfl
  clear b4
  go_wp2_with fail
  refine (find_c (S := ⟨nx, wt, ⟨fr, to_, kd, nm, body⟩, dn, tr⟩) fr2 hS.out (E4.out.fc 2 rfl)).mono ?_
  rintro e w4 ⟨⟨fi, ft, hfo, rfl⟩, hb⟩
  have E5 := Lib.hid (E4.out.below hb)
  clear c3_0 c3_1 c3_2 c3_3 c3_4 c3_5 c3_6 c3_7 c3_8 c4_0 E4 hb
  obtain ⟨e1, e2⟩ := found_at hfo.out hA.out hk hto.out; clear hfo; subst e1 e2
  have t1 : (dn[kk].nm == nm2) = false := by have := hcd.out; simp; omega
  have t2 : decide (nm2 < dn[kk].nm) = true := decide_eq_true (by have := hcd.out; omega)
  obtain ⟨ua, uk, E60⟩ := E5.out.els 2 rfl (kk) hk
  have E6 : Hid (Env D w [(w.heap.size + 1 + 1 + 1, 27, [.int .i64 0, .bool false, .int .i64 0, .int .i64 0, .int .i64 0, .int .i64 0, .slice none 0 0, .slice none 0 0, .int .i64 0]), (w.heap.size + 1 + 1, 24, [.int .i64 fr3, .int .i64 to3, .int .i64 kd3, .int .i64 nm3, .slice za body3.length zk]), (w.heap.size + 1, 24, [.int .i64 fr2, .int .i64 to2, .int .i64 kd2, .int .i64 nm2, .slice ya body2.length yk]), (w.heap.size, 27, [.int .i64 nx, .bool wt, .int .i64 fr, .int .i64 to_, .int .i64 kd, .int .i64 nm, .slice xa body.length xk, .slice (some ⟨db, df, none⟩) dn.length dj, .int .i64 tr])] [.ce db (df + kk * 5) (.int .i64 dn[kk].fr), .ce db (df + kk * 5 + 1) (.int .i64 dn[kk].to_), .ce db (df + kk * 5 + 2) (.int .i64 dn[kk].kd), .ce db (df + kk * 5 + 3) (.int .i64 dn[kk].nm), .ce db (df + kk * 5 + 4) (.slice ua dn[kk].body.length uk), .bs (.slice ua dn[kk].body.length uk) dn[kk].body, .bs (.slice za body3.length zk) body3, .bs (.slice ya body2.length yk) body2, .ms (.slice (some ⟨db, df, none⟩) dn.length dj) dn, .bs (.slice xa body.length xk) body] _) := Lib.hid E60
  clear E60 E5
  go_wp2_with fail
  have E7 := Lib.hid E6.out.drew
  clear E6
  refine wp_region_held_drew (S := fun w' => w'.cell? ⟨w.heap.size, 7, none⟩ = some (.slice (some ⟨db, df, none⟩) dn.length dj) ∧ w'.cell? ⟨w.heap.size + 1, 3, none⟩ = some (.int .i64 nm2) ∧ w'.cell? ⟨db, df + kk * 5 + 3, none⟩ = some (.int .i64 dn[kk].nm)) (by kernel_rfl) (⟨((E7.out.bx 3 rfl).cell 7 rfl), ((E7.out.bx 2 rfl).cell 3 rfl), (E7.out.fc 3 rfl).2⟩) (fun hHeld => ?_)
  generalize w4.drew = w5 at *
  refine takeW (i := 0) (some 34) (v := ?_) rfl rfl (by kernel_rfl) (by kernel_rfl) (by kernel_rfl) (fun _ _ _ h => h) (by rfl) (by assumption) ?_ ?_
  rotate_left
  · (intro wS hSw; (try dsimp only at hSw); go_simp; try with_reducible rfl)
  try simp only [Act.put, List.setIfInBounds_toArray, List.set_cons_zero, List.set_cons_succ]
  refine takeW (i := 1) (some 35) (v := ?_) rfl rfl (by kernel_rfl) (by kernel_rfl) (by kernel_rfl) (fun _ _ _ h => h) (by rfl) (by assumption) ?_ ?_
  rotate_left
  · (intro wS hSw; (try dsimp only at hSw); go_simp; try with_reducible rfl)
  try simp only [Act.put, List.setIfInBounds_toArray, List.set_cons_zero, List.set_cons_succ]
  refine takeW (i := 2) (some 36) (v := ?_) rfl rfl (by kernel_rfl) (by kernel_rfl) (by kernel_rfl) (fun _ _ _ h => h) (by rfl) (by assumption) ?_ ?_
  rotate_left
  · (intro wS hSw; (try dsimp only at hSw); go_simp; try with_reducible rfl)
  try simp only [Act.put, List.setIfInBounds_toArray, List.set_cons_zero, List.set_cons_succ]
  refine takeW (i := 3) (some 37) (v := ?_) rfl rfl (by kernel_rfl) (by kernel_rfl) (by kernel_rfl) (fun _ _ _ h => h) (by rfl) (by assumption) ?_ ?_
  rotate_left
  · (intro wS hSw; (try dsimp only at hSw); go_simp; try with_reducible rfl)
  try simp only [Act.put, List.setIfInBounds_toArray, List.set_cons_zero, List.set_cons_succ]
  refine takeW (i := 4) (some 38) (v := ?_) rfl rfl (by kernel_rfl) (by kernel_rfl) (by kernel_rfl) (fun _ _ _ h => h) (by rfl) (by assumption) ?_ ?_
  rotate_left
  · (intro wS hSw; (try dsimp only at hSw); go_simp; try with_reducible rfl)
  try simp only [Act.put, List.setIfInBounds_toArray, List.set_cons_zero, List.set_cons_succ]
  refine takeW (i := 5) (some 39) (v := ?_) rfl rfl (by kernel_rfl) (by kernel_rfl) (by kernel_rfl) (fun _ _ _ h => h) (by rfl) (by assumption) ?_ ?_
  rotate_left
  · (intro wS hSw; (try dsimp only at hSw); go_simp; try with_reducible rfl)
  try simp only [Act.put, List.setIfInBounds_toArray, List.set_cons_zero, List.set_cons_succ]
  refine takeW (i := 6) (some 40) (v := ?_) rfl rfl (by kernel_rfl) (by kernel_rfl) (by kernel_rfl) (fun _ _ _ h => h) (by rfl) (by assumption) ?_ ?_
  rotate_left
  · (intro wS hSw; (try dsimp only at hSw); go_simp; try with_reducible rfl)
  try simp only [Act.put, List.setIfInBounds_toArray, List.set_cons_zero, List.set_cons_succ]
  refine takeW (i := 7) (some 41) (v := ?_) rfl rfl (by kernel_rfl) (by kernel_rfl) (by kernel_rfl) (fun _ _ _ h => h) (by rfl) (by assumption) ?_ ?_
  rotate_left
  · (intro wS hSw; (try dsimp only at hSw); go_simp; try with_reducible rfl)
  try simp only [Act.put, List.setIfInBounds_toArray, List.set_cons_zero, List.set_cons_succ]
  refine takeW (i := 8) (some 42) (v := ?_) rfl rfl (by kernel_rfl) (by kernel_rfl) (by kernel_rfl) (fun _ _ _ h => h) (by rfl) (by assumption) ?_ ?_
  rotate_left
  · (intro wS hSw; (try dsimp only at hSw); go_simp; try with_reducible rfl)
  try simp only [Act.put, List.setIfInBounds_toArray, List.set_cons_zero, List.set_cons_succ]
  refine takeW (i := 9) (some 43) (v := ?_) rfl rfl (by kernel_rfl) (by kernel_rfl) (by kernel_rfl) (fun _ _ _ h => h) (by rfl) (by assumption) ?_ ?_
  rotate_left
  · (intro wS hSw; (try dsimp only at hSw); go_simp; try with_reducible rfl)
  try simp only [Act.put, List.setIfInBounds_toArray, List.set_cons_zero, List.set_cons_succ]
  refine takeW (i := 10) (some 44) (v := ?_) rfl rfl (by kernel_rfl) (by kernel_rfl) (by kernel_rfl) (fun _ _ _ h => h) (by rfl) (by assumption) ?_ ?_
  rotate_left
  · (intro wS hSw; (try dsimp only at hSw); go_simp; try with_reducible rfl)
  try simp only [Act.put, List.setIfInBounds_toArray, List.set_cons_zero, List.set_cons_succ]
  refine takeW (i := 11) (some 45) (v := ?_) rfl rfl (by kernel_rfl) (by kernel_rfl) (by kernel_rfl) (fun _ _ _ h => h) (by rfl) (by assumption) ?_ ?_
  rotate_left
  · (intro wS hSw; (try dsimp only at hSw); go_simp; try with_reducible rfl)
  try simp only [Act.put, List.setIfInBounds_toArray, List.set_cons_zero, List.set_cons_succ]
  refine takeW (i := 12) (some 33) (v := ?_) rfl rfl (by kernel_rfl) (by kernel_rfl) (by kernel_rfl) (fun _ _ _ h => h) (by rfl) (by assumption) ?_ ?_
  rotate_left
  · (intro wS hSw; (try dsimp only at hSw); go_simp; try with_reducible rfl)
  try simp only [Act.put, List.setIfInBounds_toArray, List.set_cons_zero, List.set_cons_succ]
  refine wpAnyH_done (by kernel_rfl) ?_ _
  go_wp2_with fail
  have E8 := Lib.hid E7.out.drew
  clear E7
  refine wp_region_held_drew (S := fun w' => w'.cell? ⟨w.heap.size, 7, none⟩ = some (.slice (some ⟨db, df, none⟩) dn.length dj) ∧ w'.cell? ⟨w.heap.size + 1, 3, none⟩ = some (.int .i64 nm2) ∧ w'.cell? ⟨db, df + kk * 5 + 3, none⟩ = some (.int .i64 dn[kk].nm)) (by kernel_rfl) (⟨((E8.out.bx 3 rfl).cell 7 rfl), ((E8.out.bx 2 rfl).cell 3 rfl), (E8.out.fc 3 rfl).2⟩) (fun hHeld => ?_)
  generalize w5.drew = w6 at *
  refine takeW (i := 0) (some 48) (v := ?_) rfl rfl (by kernel_rfl) (by kernel_rfl) (by kernel_rfl) (fun _ _ _ h => h) (by rfl) (by assumption) ?_ ?_
  rotate_left
  · (intro wS hSw; (try dsimp only at hSw); go_simp; try with_reducible rfl)
  try simp only [Act.put, List.setIfInBounds_toArray, List.set_cons_zero, List.set_cons_succ]
  refine takeW (i := 1) (some 49) (v := ?_) rfl rfl (by kernel_rfl) (by kernel_rfl) (by kernel_rfl) (fun _ _ _ h => h) (by rfl) (by assumption) ?_ ?_
  rotate_left
  · (intro wS hSw; (try dsimp only at hSw); go_simp; try with_reducible rfl)
  try simp only [Act.put, List.setIfInBounds_toArray, List.set_cons_zero, List.set_cons_succ]
  refine takeW (i := 2) (some 50) (v := ?_) rfl rfl (by kernel_rfl) (by kernel_rfl) (by kernel_rfl) (fun _ _ _ h => h) (by rfl) (by assumption) ?_ ?_
  rotate_left
  · (intro wS hSw; (try dsimp only at hSw); go_simp; try with_reducible rfl)
  try simp only [Act.put, List.setIfInBounds_toArray, List.set_cons_zero, List.set_cons_succ]
  refine takeW (i := 3) (some 51) (v := ?_) rfl rfl (by kernel_rfl) (by kernel_rfl) (by kernel_rfl) (fun _ _ _ h => h) (by rfl) (by assumption) ?_ ?_
  rotate_left
  · (intro wS hSw; (try dsimp only at hSw); go_simp; try with_reducible rfl)
  try simp only [Act.put, List.setIfInBounds_toArray, List.set_cons_zero, List.set_cons_succ]
  refine takeW (i := 4) (some 52) (v := ?_) rfl rfl (by kernel_rfl) (by kernel_rfl) (by kernel_rfl) (fun _ _ _ h => h) (by rfl) (by assumption) ?_ ?_
  rotate_left
  · (intro wS hSw; (try dsimp only at hSw); go_simp; try with_reducible rfl)
  try simp only [Act.put, List.setIfInBounds_toArray, List.set_cons_zero, List.set_cons_succ]
  refine takeW (i := 5) (some 53) (v := ?_) rfl rfl (by kernel_rfl) (by kernel_rfl) (by kernel_rfl) (fun _ _ _ h => h) (by rfl) (by assumption) ?_ ?_
  rotate_left
  · (intro wS hSw; (try dsimp only at hSw); go_simp; try with_reducible rfl)
  try simp only [Act.put, List.setIfInBounds_toArray, List.set_cons_zero, List.set_cons_succ]
  refine takeW (i := 6) (some 54) (v := ?_) rfl rfl (by kernel_rfl) (by kernel_rfl) (by kernel_rfl) (fun _ _ _ h => h) (by rfl) (by assumption) ?_ ?_
  rotate_left
  · (intro wS hSw; (try dsimp only at hSw); go_simp; try with_reducible rfl)
  try simp only [Act.put, List.setIfInBounds_toArray, List.set_cons_zero, List.set_cons_succ]
  refine takeW (i := 7) (some 55) (v := ?_) rfl rfl (by kernel_rfl) (by kernel_rfl) (by kernel_rfl) (fun _ _ _ h => h) (by rfl) (by assumption) ?_ ?_
  rotate_left
  · (intro wS hSw; (try dsimp only at hSw); go_simp; try with_reducible rfl)
  try simp only [Act.put, List.setIfInBounds_toArray, List.set_cons_zero, List.set_cons_succ]
  refine takeW (i := 8) (some 56) (v := ?_) rfl rfl (by kernel_rfl) (by kernel_rfl) (by kernel_rfl) (fun _ _ _ h => h) (by rfl) (by assumption) ?_ ?_
  rotate_left
  · (intro wS hSw; (try dsimp only at hSw); go_simp; try with_reducible rfl)
  try simp only [Act.put, List.setIfInBounds_toArray, List.set_cons_zero, List.set_cons_succ]
  refine takeW (i := 9) (some 57) (v := ?_) rfl rfl (by kernel_rfl) (by kernel_rfl) (by kernel_rfl) (fun _ _ _ h => h) (by rfl) (by assumption) ?_ ?_
  rotate_left
  · (intro wS hSw; (try dsimp only at hSw); go_simp; try with_reducible rfl)
  try simp only [Act.put, List.setIfInBounds_toArray, List.set_cons_zero, List.set_cons_succ]
  refine takeW (i := 10) (some 58) (v := ?_) rfl rfl (by kernel_rfl) (by kernel_rfl) (by kernel_rfl) (fun _ _ _ h => h) (by rfl) (by assumption) ?_ ?_
  rotate_left
  · (intro wS hSw; (try dsimp only at hSw); go_simp; try with_reducible rfl)
  try simp only [Act.put, List.setIfInBounds_toArray, List.set_cons_zero, List.set_cons_succ]
  refine takeW (i := 11) (some 59) (v := ?_) rfl rfl (by kernel_rfl) (by kernel_rfl) (by kernel_rfl) (fun _ _ _ h => h) (by rfl) (by assumption) ?_ ?_
  rotate_left
  · (intro wS hSw; (try dsimp only at hSw); go_simp; try with_reducible rfl)
  try simp only [Act.put, List.setIfInBounds_toArray, List.set_cons_zero, List.set_cons_succ]
  refine takeW (i := 12) (some 47) (v := ?_) rfl rfl (by kernel_rfl) (by kernel_rfl) (by kernel_rfl) (fun _ _ _ h => h) (by rfl) (by assumption) ?_ ?_
  rotate_left
  · (intro wS hSw; (try dsimp only at hSw); go_simp; try with_reducible rfl)
  try simp only [Act.put, List.setIfInBounds_toArray, List.set_cons_zero, List.set_cons_succ]
  refine wpAnyH_done (by kernel_rfl) ?_ _
  have b5 := E8.out.bx 0 rfl
  have c5_0 := b5.cell 0 rfl
  have c5_1 := b5.cell 1 rfl
  have c5_2 := b5.cell 2 rfl
  have c5_3 := b5.cell 3 rfl
  have c5_4 := b5.cell 4 rfl
  have c5_5 := b5.cell 5 rfl
  have c5_6 := b5.cell 6 rfl
  have c5_7 := b5.cell 7 rfl
  have c5_8 := b5.cell 8 rfl
  have f5_0 := b5.frozen 0
  have f5_1 := b5.frozen 1
  have f5_2 := b5.frozen 2
  have f5_3 := b5.frozen 3
  have f5_4 := b5.frozen 4
  have f5_5 := b5.frozen 5
  have f5_6 := b5.frozen 6
  have f5_7 := b5.frozen 7
  have f5_8 := b5.frozen 8
  clear b5
  go_wp2
  have E9 : Hid (Env D w [(w.heap.size + 1 + 1 + 1, 27, [.int .i64 0, .bool false, .int .i64 0, .int .i64 0, .int .i64 0, .int .i64 0, .slice none 0 0, .slice none 0 0, .int .i64 0]), (w.heap.size + 1 + 1, 24, [.int .i64 fr3, .int .i64 to3, .int .i64 kd3, .int .i64 nm3, .slice za body3.length zk]), (w.heap.size + 1, 24, [.int .i64 fr2, .int .i64 to2, .int .i64 kd2, .int .i64 nm2, .slice ya body2.length yk]), (w.heap.size, 27, [.int .i64 nx, .bool wt, .int .i64 fr, .int .i64 to_, .int .i64 kd, .int .i64 nm, .slice xa body.length xk, .slice (some ⟨db, df, none⟩) dn.length dj, .int .i64 tr])] [.ce db (df + kk * 5) (.int .i64 dn[kk].fr), .ce db (df + kk * 5 + 1) (.int .i64 dn[kk].to_), .ce db (df + kk * 5 + 2) (.int .i64 dn[kk].kd), .ce db (df + kk * 5 + 3) (.int .i64 dn[kk].nm), .ce db (df + kk * 5 + 4) (.slice ua dn[kk].body.length uk), .bs (.slice ua dn[kk].body.length uk) dn[kk].body, .bs (.slice za body3.length zk) body3, .bs (.slice ya body2.length yk) body2, .ms (.slice (some ⟨db, df, none⟩) dn.length dj) dn, .bs (.slice xa body.length xk) body] _) := Lib.hid ((((((((((E8.out.set 0 0 (.int .i64 0) rfl).set 0 1 (.bool false) rfl).set 0 2 (.int .i64 0) rfl).set 0 3 (.int .i64 0) rfl).set 0 4 (.int .i64 0) rfl).set 0 5 (.int .i64 0) rfl).set 0 6 (.slice none 0 0) rfl).set 0 7 (.slice none 0 0) rfl).set 0 8 (.int .i64 0) rfl))
  have hfin := E9.out
  have q6 := (hfin.bx 0 rfl).cell 0 rfl
  have q7 := (hfin.bx 0 rfl).cell 1 rfl
  have q8 := (hfin.bx 0 rfl).cell 2 rfl
  have q9 := (hfin.bx 0 rfl).cell 3 rfl
  have q10 := (hfin.bx 0 rfl).cell 4 rfl
  have q11 := (hfin.bx 0 rfl).cell 5 rfl
  have q12 := (hfin.bx 0 rfl).cell 6 rfl
  have q13 := (hfin.bx 0 rfl).cell 7 rfl
  have q14 := (hfin.bx 0 rfl).cell 8 rfl
  exact bodyPost_ret (v := .tuple #[.agg #[.int .i64 0, .bool false, .int .i64 0, .int .i64 0, .int .i64 0, .int .i64 0, .slice none 0 0, .slice none 0 0, .int .i64 0], .int .i64 14]) (by simp [results, Try.results17, go_sem, q6, q7, q8, q9, q10, q11, q12, q13, q14]) rfl ⟨⟨none, 0, none, 0, rfl, Lib.hid (Bs.nil _ _), Lib.hid (Ms.nil _ _)⟩, hfin.bel⟩
set_option maxRecDepth 100000 in
set_option maxHeartbeats 2000000 in
theorem Done_rep {D : Nat → Prop} (nx fr to_ kd nm tr : Int) (wt : Bool) (body : List Nat) (dn : List Msg) {xa : Option Addr} {xk : Nat} {db df dj : Nat} (fr2 to2 kd2 nm2 : Int) (body2 : List Nat) {ya : Option Addr} {yk : Nat} (fr3 to3 kd3 nm3 : Int) (body3 : List Nat) {za : Option Addr} {zk : Nat} (kk : Nat) {w : World} (hx : Fct.at w D (.bs (.slice xa body.length xk) body)) (hy : Fct.at w D (.ms (.slice (some ⟨db, df, none⟩) dn.length dj) dn)) (hz : Fct.at w D (.bs (.slice ya body2.length yk) body2)) (hv : Fct.at w D (.bs (.slice za body3.length zk) body3)) (hS0 : SesOk ⟨nx, wt, ⟨fr, to_, kd, nm, body⟩, dn, tr⟩) (hq0 : msgOk ⟨fr2, to2, kd2, nm2, body2⟩ = true) (ha0 : msgOk ⟨fr3, to3, kd3, nm3, body3⟩ = true) (hf0 : ∃ h : kk < dn.length, dn[kk].to_ = fr2 ∧ dn[kk].nm < nm2) :
    Calls Try.prog 17 #[.agg #[.int .i64 nx, .bool wt, .int .i64 fr, .int .i64 to_, .int .i64 kd, .int .i64 nm, .slice xa body.length xk, .slice (some ⟨db, df, none⟩) dn.length dj, .int .i64 tr], .agg #[.int .i64 fr2, .int .i64 to2, .int .i64 kd2, .int .i64 nm2, .slice ya body2.length yk], .agg #[.int .i64 fr3, .int .i64 to3, .int .i64 kd3, .int .i64 nm3, .slice za body3.length zk]] w fun e w' => RetSE (fun b => D b ∨ w.heap.size ≤ b) ⟨nx, wt, ⟨fr, to_, kd, nm, body⟩, dn.set kk ⟨to2, fr2, kd3, nm2, body3⟩, tr⟩ 0 e w' ∧ Below w.heap.size w w' := by
  have E0 := Lib.hid (((((Env.start D w).arg (.bs (.slice xa body.length xk) body) hx).arg (.ms (.slice (some ⟨db, df, none⟩) dn.length dj) dn) hy).arg (.bs (.slice ya body2.length yk) body2) hz).arg (.bs (.slice za body3.length zk) body3) hv)
  clear hx hy hz hv
  go_enter Try.func17, Try.ntmps17
  have hS := Lib.hid hS0
  clear hS0
  have hq := Lib.hid hq0
  clear hq0
  have ha := Lib.hid ha0
  clear ha0
  have hf := Lib.hid hf0
  clear hf0
  obtain ⟨hk, hto9, hcd9⟩ := hf.out
  have hto := Lib.hid hto9
  have hcd := Lib.hid hcd9
  clear hto9 hcd9
  have hF := Lib.hid (SesOk.fair hS.out)
  have hA := Lib.hid (asc_of hS.out.2.2.2)
  have a3 : dn.length ≤ 1000 := hS.out.1.2.2
  have hl3 := Lib.hid (msgOk.len ha.out)
  go_wp2_with fail
  have E1 := Lib.hid (((((E0.out.push 27 [.int .i64 nx, .bool wt, .int .i64 fr, .int .i64 to_, .int .i64 kd, .int .i64 nm, .slice xa body.length xk, .slice (some ⟨db, df, none⟩) dn.length dj, .int .i64 tr] (w.heap.size) (by simp)).push 24 [.int .i64 fr2, .int .i64 to2, .int .i64 kd2, .int .i64 nm2, .slice ya body2.length yk] (w.heap.size + 1) (by simp)).push 24 [.int .i64 fr3, .int .i64 to3, .int .i64 kd3, .int .i64 nm3, .slice za body3.length zk] (w.heap.size + 1 + 1) (by simp)).push 27 [.int .i64 0, .bool false, .int .i64 0, .int .i64 0, .int .i64 0, .int .i64 0, .slice none 0 0, .slice none 0 0, .int .i64 0] (w.heap.size + 1 + 1 + 1) (by simp)))
  refine (Valid_t (S := ⟨nx, wt, ⟨fr, to_, kd, nm, body⟩, dn, tr⟩) hS.out (E1.out.fc 3 rfl) (E1.out.fc 2 rfl)).mono ?_
  rintro e w1 ⟨rfl, hb⟩
  have E2 := Lib.hid (E1.out.below hb)
  clear E0 E1 hb
  have b1 := E2.out.bx 2 rfl
  have c1_0 := b1.cell 0 rfl
  have c1_1 := b1.cell 1 rfl
  have c1_2 := b1.cell 2 rfl
  have c1_3 := b1.cell 3 rfl
  have c1_4 := b1.cell 4 rfl
  clear b1
  go_wp2_with fail
  refine (message_v ⟨fr2, to2, kd2, nm2, body2⟩ hq.out _ _ _).mono ?_
  rintro e w2 ⟨rfl, hb⟩
  have E3 := Lib.hid (E2.out.below hb)
  clear c1_0 c1_1 c1_2 c1_3 c1_4 E2 hb
  have b2 := E3.out.bx 1 rfl
  have c2_0 := b2.cell 0 rfl
  have c2_1 := b2.cell 1 rfl
  have c2_2 := b2.cell 2 rfl
  have c2_3 := b2.cell 3 rfl
  have c2_4 := b2.cell 4 rfl
  clear b2
  go_wp2_with fail
  refine (message_v ⟨fr3, to3, kd3, nm3, body3⟩ ha.out _ _ _).mono ?_
  rintro e w3 ⟨rfl, hb⟩
  have E4 := Lib.hid (E3.out.below hb)
  clear c2_0 c2_1 c2_2 c2_3 c2_4 E3 hb
  have b3 := E4.out.bx 3 rfl
  have c3_0 := b3.cell 0 rfl
  have c3_1 := b3.cell 1 rfl
  have c3_2 := b3.cell 2 rfl
  have c3_3 := b3.cell 3 rfl
  have c3_4 := b3.cell 4 rfl
  have c3_5 := b3.cell 5 rfl
  have c3_6 := b3.cell 6 rfl
  have c3_7 := b3.cell 7 rfl
  have c3_8 := b3.cell 8 rfl
  clear b3
  have b4 := E4.out.bx 2 rfl
  have c4_0 := b4.cell 0 rfl
  clear b4
  go_wp2_with fail
  refine (find_c (S := ⟨nx, wt, ⟨fr, to_, kd, nm, body⟩, dn, tr⟩) fr2 hS.out (E4.out.fc 2 rfl)).mono ?_
  rintro e w4 ⟨⟨fi, ft, hfo, rfl⟩, hb⟩
  have E5 := Lib.hid (E4.out.below hb)
  clear c3_0 c3_1 c3_2 c3_3 c3_4 c3_5 c3_6 c3_7 c3_8 c4_0 E4 hb
  obtain ⟨e1, e2⟩ := found_at hfo.out hA.out hk hto.out; clear hfo; subst e1 e2
  have t1 : (dn[kk].nm == nm2) = false := by have := hcd.out; simp; omega
  have t2 : decide (nm2 < dn[kk].nm) = false := decide_eq_false (by have := hcd.out; omega)
  obtain ⟨ua, uk, E60⟩ := E5.out.els 2 rfl (kk) hk
  have E6 : Hid (Env D w [(w.heap.size + 1 + 1 + 1, 27, [.int .i64 0, .bool false, .int .i64 0, .int .i64 0, .int .i64 0, .int .i64 0, .slice none 0 0, .slice none 0 0, .int .i64 0]), (w.heap.size + 1 + 1, 24, [.int .i64 fr3, .int .i64 to3, .int .i64 kd3, .int .i64 nm3, .slice za body3.length zk]), (w.heap.size + 1, 24, [.int .i64 fr2, .int .i64 to2, .int .i64 kd2, .int .i64 nm2, .slice ya body2.length yk]), (w.heap.size, 27, [.int .i64 nx, .bool wt, .int .i64 fr, .int .i64 to_, .int .i64 kd, .int .i64 nm, .slice xa body.length xk, .slice (some ⟨db, df, none⟩) dn.length dj, .int .i64 tr])] [.ce db (df + kk * 5) (.int .i64 dn[kk].fr), .ce db (df + kk * 5 + 1) (.int .i64 dn[kk].to_), .ce db (df + kk * 5 + 2) (.int .i64 dn[kk].kd), .ce db (df + kk * 5 + 3) (.int .i64 dn[kk].nm), .ce db (df + kk * 5 + 4) (.slice ua dn[kk].body.length uk), .bs (.slice ua dn[kk].body.length uk) dn[kk].body, .bs (.slice za body3.length zk) body3, .bs (.slice ya body2.length yk) body2, .ms (.slice (some ⟨db, df, none⟩) dn.length dj) dn, .bs (.slice xa body.length xk) body] _) := Lib.hid E60
  clear E60 E5
  go_wp2_with fail
  have E7 := Lib.hid E6.out.drew
  clear E6
  refine wp_region_held_drew (S := fun w' => w'.cell? ⟨w.heap.size, 7, none⟩ = some (.slice (some ⟨db, df, none⟩) dn.length dj) ∧ w'.cell? ⟨w.heap.size + 1, 3, none⟩ = some (.int .i64 nm2) ∧ w'.cell? ⟨db, df + kk * 5 + 3, none⟩ = some (.int .i64 dn[kk].nm)) (by kernel_rfl) (⟨((E7.out.bx 3 rfl).cell 7 rfl), ((E7.out.bx 2 rfl).cell 3 rfl), (E7.out.fc 3 rfl).2⟩) (fun hHeld => ?_)
  generalize w4.drew = w5 at *
  refine takeW (i := 0) (some 34) (v := ?_) rfl rfl (by kernel_rfl) (by kernel_rfl) (by kernel_rfl) (fun _ _ _ h => h) (by rfl) (by assumption) ?_ ?_
  rotate_left
  · (intro wS hSw; (try dsimp only at hSw); go_simp; try with_reducible rfl)
  try simp only [Act.put, List.setIfInBounds_toArray, List.set_cons_zero, List.set_cons_succ]
  refine takeW (i := 1) (some 35) (v := ?_) rfl rfl (by kernel_rfl) (by kernel_rfl) (by kernel_rfl) (fun _ _ _ h => h) (by rfl) (by assumption) ?_ ?_
  rotate_left
  · (intro wS hSw; (try dsimp only at hSw); go_simp; try with_reducible rfl)
  try simp only [Act.put, List.setIfInBounds_toArray, List.set_cons_zero, List.set_cons_succ]
  refine takeW (i := 2) (some 36) (v := ?_) rfl rfl (by kernel_rfl) (by kernel_rfl) (by kernel_rfl) (fun _ _ _ h => h) (by rfl) (by assumption) ?_ ?_
  rotate_left
  · (intro wS hSw; (try dsimp only at hSw); go_simp; try with_reducible rfl)
  try simp only [Act.put, List.setIfInBounds_toArray, List.set_cons_zero, List.set_cons_succ]
  refine takeW (i := 3) (some 37) (v := ?_) rfl rfl (by kernel_rfl) (by kernel_rfl) (by kernel_rfl) (fun _ _ _ h => h) (by rfl) (by assumption) ?_ ?_
  rotate_left
  · (intro wS hSw; (try dsimp only at hSw); go_simp; try with_reducible rfl)
  try simp only [Act.put, List.setIfInBounds_toArray, List.set_cons_zero, List.set_cons_succ]
  refine takeW (i := 4) (some 38) (v := ?_) rfl rfl (by kernel_rfl) (by kernel_rfl) (by kernel_rfl) (fun _ _ _ h => h) (by rfl) (by assumption) ?_ ?_
  rotate_left
  · (intro wS hSw; (try dsimp only at hSw); go_simp; try with_reducible rfl)
  try simp only [Act.put, List.setIfInBounds_toArray, List.set_cons_zero, List.set_cons_succ]
  refine takeW (i := 5) (some 39) (v := ?_) rfl rfl (by kernel_rfl) (by kernel_rfl) (by kernel_rfl) (fun _ _ _ h => h) (by rfl) (by assumption) ?_ ?_
  rotate_left
  · (intro wS hSw; (try dsimp only at hSw); go_simp; try with_reducible rfl)
  try simp only [Act.put, List.setIfInBounds_toArray, List.set_cons_zero, List.set_cons_succ]
  refine takeW (i := 6) (some 40) (v := ?_) rfl rfl (by kernel_rfl) (by kernel_rfl) (by kernel_rfl) (fun _ _ _ h => h) (by rfl) (by assumption) ?_ ?_
  rotate_left
  · (intro wS hSw; (try dsimp only at hSw); go_simp; try with_reducible rfl)
  try simp only [Act.put, List.setIfInBounds_toArray, List.set_cons_zero, List.set_cons_succ]
  refine takeW (i := 7) (some 41) (v := ?_) rfl rfl (by kernel_rfl) (by kernel_rfl) (by kernel_rfl) (fun _ _ _ h => h) (by rfl) (by assumption) ?_ ?_
  rotate_left
  · (intro wS hSw; (try dsimp only at hSw); go_simp; try with_reducible rfl)
  try simp only [Act.put, List.setIfInBounds_toArray, List.set_cons_zero, List.set_cons_succ]
  refine takeW (i := 8) (some 42) (v := ?_) rfl rfl (by kernel_rfl) (by kernel_rfl) (by kernel_rfl) (fun _ _ _ h => h) (by rfl) (by assumption) ?_ ?_
  rotate_left
  · (intro wS hSw; (try dsimp only at hSw); go_simp; try with_reducible rfl)
  try simp only [Act.put, List.setIfInBounds_toArray, List.set_cons_zero, List.set_cons_succ]
  refine takeW (i := 9) (some 43) (v := ?_) rfl rfl (by kernel_rfl) (by kernel_rfl) (by kernel_rfl) (fun _ _ _ h => h) (by rfl) (by assumption) ?_ ?_
  rotate_left
  · (intro wS hSw; (try dsimp only at hSw); go_simp; try with_reducible rfl)
  try simp only [Act.put, List.setIfInBounds_toArray, List.set_cons_zero, List.set_cons_succ]
  refine takeW (i := 10) (some 44) (v := ?_) rfl rfl (by kernel_rfl) (by kernel_rfl) (by kernel_rfl) (fun _ _ _ h => h) (by rfl) (by assumption) ?_ ?_
  rotate_left
  · (intro wS hSw; (try dsimp only at hSw); go_simp; try with_reducible rfl)
  try simp only [Act.put, List.setIfInBounds_toArray, List.set_cons_zero, List.set_cons_succ]
  refine takeW (i := 11) (some 45) (v := ?_) rfl rfl (by kernel_rfl) (by kernel_rfl) (by kernel_rfl) (fun _ _ _ h => h) (by rfl) (by assumption) ?_ ?_
  rotate_left
  · (intro wS hSw; (try dsimp only at hSw); go_simp; try with_reducible rfl)
  try simp only [Act.put, List.setIfInBounds_toArray, List.set_cons_zero, List.set_cons_succ]
  refine takeW (i := 12) (some 33) (v := ?_) rfl rfl (by kernel_rfl) (by kernel_rfl) (by kernel_rfl) (fun _ _ _ h => h) (by rfl) (by assumption) ?_ ?_
  rotate_left
  · (intro wS hSw; (try dsimp only at hSw); go_simp; try with_reducible rfl)
  try simp only [Act.put, List.setIfInBounds_toArray, List.set_cons_zero, List.set_cons_succ]
  refine wpAnyH_done (by kernel_rfl) ?_ _
  go_wp2_with fail
  have E8 := Lib.hid E7.out.drew
  clear E7
  refine wp_region_held_drew (S := fun w' => w'.cell? ⟨w.heap.size, 7, none⟩ = some (.slice (some ⟨db, df, none⟩) dn.length dj) ∧ w'.cell? ⟨w.heap.size + 1, 3, none⟩ = some (.int .i64 nm2) ∧ w'.cell? ⟨db, df + kk * 5 + 3, none⟩ = some (.int .i64 dn[kk].nm)) (by kernel_rfl) (⟨((E8.out.bx 3 rfl).cell 7 rfl), ((E8.out.bx 2 rfl).cell 3 rfl), (E8.out.fc 3 rfl).2⟩) (fun hHeld => ?_)
  generalize w5.drew = w6 at *
  refine takeW (i := 0) (some 48) (v := ?_) rfl rfl (by kernel_rfl) (by kernel_rfl) (by kernel_rfl) (fun _ _ _ h => h) (by rfl) (by assumption) ?_ ?_
  rotate_left
  · (intro wS hSw; (try dsimp only at hSw); go_simp; try with_reducible rfl)
  try simp only [Act.put, List.setIfInBounds_toArray, List.set_cons_zero, List.set_cons_succ]
  refine takeW (i := 1) (some 49) (v := ?_) rfl rfl (by kernel_rfl) (by kernel_rfl) (by kernel_rfl) (fun _ _ _ h => h) (by rfl) (by assumption) ?_ ?_
  rotate_left
  · (intro wS hSw; (try dsimp only at hSw); go_simp; try with_reducible rfl)
  try simp only [Act.put, List.setIfInBounds_toArray, List.set_cons_zero, List.set_cons_succ]
  refine takeW (i := 2) (some 50) (v := ?_) rfl rfl (by kernel_rfl) (by kernel_rfl) (by kernel_rfl) (fun _ _ _ h => h) (by rfl) (by assumption) ?_ ?_
  rotate_left
  · (intro wS hSw; (try dsimp only at hSw); go_simp; try with_reducible rfl)
  try simp only [Act.put, List.setIfInBounds_toArray, List.set_cons_zero, List.set_cons_succ]
  refine takeW (i := 3) (some 51) (v := ?_) rfl rfl (by kernel_rfl) (by kernel_rfl) (by kernel_rfl) (fun _ _ _ h => h) (by rfl) (by assumption) ?_ ?_
  rotate_left
  · (intro wS hSw; (try dsimp only at hSw); go_simp; try with_reducible rfl)
  try simp only [Act.put, List.setIfInBounds_toArray, List.set_cons_zero, List.set_cons_succ]
  refine takeW (i := 4) (some 52) (v := ?_) rfl rfl (by kernel_rfl) (by kernel_rfl) (by kernel_rfl) (fun _ _ _ h => h) (by rfl) (by assumption) ?_ ?_
  rotate_left
  · (intro wS hSw; (try dsimp only at hSw); go_simp; try with_reducible rfl)
  try simp only [Act.put, List.setIfInBounds_toArray, List.set_cons_zero, List.set_cons_succ]
  refine takeW (i := 5) (some 53) (v := ?_) rfl rfl (by kernel_rfl) (by kernel_rfl) (by kernel_rfl) (fun _ _ _ h => h) (by rfl) (by assumption) ?_ ?_
  rotate_left
  · (intro wS hSw; (try dsimp only at hSw); go_simp; try with_reducible rfl)
  try simp only [Act.put, List.setIfInBounds_toArray, List.set_cons_zero, List.set_cons_succ]
  refine takeW (i := 6) (some 54) (v := ?_) rfl rfl (by kernel_rfl) (by kernel_rfl) (by kernel_rfl) (fun _ _ _ h => h) (by rfl) (by assumption) ?_ ?_
  rotate_left
  · (intro wS hSw; (try dsimp only at hSw); go_simp; try with_reducible rfl)
  try simp only [Act.put, List.setIfInBounds_toArray, List.set_cons_zero, List.set_cons_succ]
  refine takeW (i := 7) (some 55) (v := ?_) rfl rfl (by kernel_rfl) (by kernel_rfl) (by kernel_rfl) (fun _ _ _ h => h) (by rfl) (by assumption) ?_ ?_
  rotate_left
  · (intro wS hSw; (try dsimp only at hSw); go_simp; try with_reducible rfl)
  try simp only [Act.put, List.setIfInBounds_toArray, List.set_cons_zero, List.set_cons_succ]
  refine takeW (i := 8) (some 56) (v := ?_) rfl rfl (by kernel_rfl) (by kernel_rfl) (by kernel_rfl) (fun _ _ _ h => h) (by rfl) (by assumption) ?_ ?_
  rotate_left
  · (intro wS hSw; (try dsimp only at hSw); go_simp; try with_reducible rfl)
  try simp only [Act.put, List.setIfInBounds_toArray, List.set_cons_zero, List.set_cons_succ]
  refine takeW (i := 9) (some 57) (v := ?_) rfl rfl (by kernel_rfl) (by kernel_rfl) (by kernel_rfl) (fun _ _ _ h => h) (by rfl) (by assumption) ?_ ?_
  rotate_left
  · (intro wS hSw; (try dsimp only at hSw); go_simp; try with_reducible rfl)
  try simp only [Act.put, List.setIfInBounds_toArray, List.set_cons_zero, List.set_cons_succ]
  refine takeW (i := 10) (some 58) (v := ?_) rfl rfl (by kernel_rfl) (by kernel_rfl) (by kernel_rfl) (fun _ _ _ h => h) (by rfl) (by assumption) ?_ ?_
  rotate_left
  · (intro wS hSw; (try dsimp only at hSw); go_simp; try with_reducible rfl)
  try simp only [Act.put, List.setIfInBounds_toArray, List.set_cons_zero, List.set_cons_succ]
  refine takeW (i := 11) (some 59) (v := ?_) rfl rfl (by kernel_rfl) (by kernel_rfl) (by kernel_rfl) (fun _ _ _ h => h) (by rfl) (by assumption) ?_ ?_
  rotate_left
  · (intro wS hSw; (try dsimp only at hSw); go_simp; try with_reducible rfl)
  try simp only [Act.put, List.setIfInBounds_toArray, List.set_cons_zero, List.set_cons_succ]
  refine takeW (i := 12) (some 47) (v := ?_) rfl rfl (by kernel_rfl) (by kernel_rfl) (by kernel_rfl) (fun _ _ _ h => h) (by rfl) (by assumption) ?_ ?_
  rotate_left
  · (intro wS hSw; (try dsimp only at hSw); go_simp; try with_reducible rfl)
  try simp only [Act.put, List.setIfInBounds_toArray, List.set_cons_zero, List.set_cons_succ]
  refine wpAnyH_done (by kernel_rfl) ?_ _
  have b5 := E8.out.bx 3 rfl
  have c5_0 := b5.cell 0 rfl
  have c5_1 := b5.cell 1 rfl
  have c5_2 := b5.cell 2 rfl
  have c5_3 := b5.cell 3 rfl
  have c5_4 := b5.cell 4 rfl
  have c5_5 := b5.cell 5 rfl
  have c5_6 := b5.cell 6 rfl
  have c5_7 := b5.cell 7 rfl
  have c5_8 := b5.cell 8 rfl
  clear b5
  go_wp2_with fail
  refine (copyAll_some nx fr to_ kd nm tr wt body dn (E8.out.fc 9 rfl) (E8.out.fc 8 rfl) hF.out.1 hF.out.2).mono ?_
  rintro e w7 ⟨⟨rqa, rqk, lsg, lsj, lss, rfl, lsh, lsB, lsb, lsm⟩, hb⟩
  have E9 := Lib.hid (E8.out.gotOwn (E8.out.gotOwn (E8.out.gotBox hb lsB) (.bs (.slice rqa body.length rqk) body) lsb) (.mc lss dn) lsm)
  clear c5_0 c5_1 c5_2 c5_3 c5_4 c5_5 c5_6 c5_7 c5_8 E8 hb lsB lsb lsm
  have HC := Lib.hid lsh; clear lsh
  have E10 := Lib.hid ((E9.out.push 27 [.int .i64 nx, .bool wt, .int .i64 fr, .int .i64 to_, .int .i64 kd, .int .i64 nm, .slice rqa body.length rqk, .slice (some ⟨lsg, 0, none⟩) dn.length lsj, .int .i64 tr] (w7.heap.size) (by simp)))
  have b6 := E10.out.bx 3 rfl
  have c6_0 := b6.cell 0 rfl
  have c6_1 := b6.cell 1 rfl
  have c6_2 := b6.cell 2 rfl
  have c6_3 := b6.cell 3 rfl
  have c6_4 := b6.cell 4 rfl
  clear b6
  go_wp2_with fail
  refine (copyOf_c ⟨fr3, to3, kd3, nm3, body3⟩ (E10.out.fc 8 rfl) hl3.out).mono ?_
  rintro e w8 ⟨⟨aa, ak, rfl, haa⟩, hb⟩
  have E11 := Lib.hid (E10.out.got (E10.out.below hb) (.bs (.slice aa body3.length ak) body3) haa.out)
  clear c6_0 c6_1 c6_2 c6_3 c6_4 E9 E10 hb haa
  go_wp2_with fail
  have E12 := Lib.hid ((E11.out.push 24 [.int .i64 fr3, .int .i64 to3, .int .i64 kd3, .int .i64 nm3, .slice aa body3.length ak] (w8.heap.size) (by simp)))
  clear E11
  generalize w8.alloc (.cells #[.int .i64 fr3, .int .i64 to3, .int .i64 kd3, .int .i64 nm3, .slice aa body3.length ak] 24) = w9 at *
  have E13 := Lib.hid E12.out.drew
  clear E12
  refine wp_region_held_drew (S := fun w' => w'.cell? ⟨w.heap.size + 1, 1, none⟩ = some (.int .i64 to2) ∧ w'.cell? ⟨w.heap.size + 1, 0, none⟩ = some (.int .i64 fr2) ∧ w'.cell? ⟨w.heap.size + 1, 3, none⟩ = some (.int .i64 nm2)) (by kernel_rfl) (⟨((E13.out.bx 5 rfl).cell 1 rfl), ((E13.out.bx 5 rfl).cell 0 rfl), ((E13.out.bx 5 rfl).cell 3 rfl)⟩) (fun hHeld => ?_)
  generalize w9.drew = w10 at *
  refine takeW (i := 0) (some 75) (v := ?_) rfl rfl (by kernel_rfl) (by kernel_rfl) (by kernel_rfl) (fun _ _ _ h => h) (by rfl) (by assumption) ?_ ?_
  rotate_left
  · (intro wS hSw; (try dsimp only at hSw); go_simp; try with_reducible rfl)
  try simp only [Act.put, List.setIfInBounds_toArray, List.set_cons_zero, List.set_cons_succ]
  refine takeW (i := 1) (some 76) (v := ?_) rfl rfl (by kernel_rfl) (by kernel_rfl) (by kernel_rfl) (fun _ _ _ h => h) (by rfl) (by assumption) ?_ ?_
  rotate_left
  · (intro wS hSw; (try dsimp only at hSw); go_simp; try with_reducible rfl)
  try simp only [Act.put, List.setIfInBounds_toArray, List.set_cons_zero, List.set_cons_succ]
  refine takeW (i := 2) (some 77) (v := ?_) rfl rfl (by kernel_rfl) (by kernel_rfl) (by kernel_rfl) (fun _ _ _ h => h) (by rfl) (by assumption) ?_ ?_
  rotate_left
  · (intro wS hSw; (try dsimp only at hSw); go_simp; try with_reducible rfl)
  try simp only [Act.put, List.setIfInBounds_toArray, List.set_cons_zero, List.set_cons_succ]
  refine takeW (i := 3) (some 78) (v := ?_) rfl rfl (by kernel_rfl) (by kernel_rfl) (by kernel_rfl) (fun _ _ _ h => h) (by rfl) (by assumption) ?_ ?_
  rotate_left
  · (intro wS hSw; (try dsimp only at hSw); go_simp; try with_reducible rfl)
  try simp only [Act.put, List.setIfInBounds_toArray, List.set_cons_zero, List.set_cons_succ]
  refine takeW (i := 4) (some 79) (v := ?_) rfl rfl (by kernel_rfl) (by kernel_rfl) (by kernel_rfl) (fun _ _ _ h => h) (by rfl) (by assumption) ?_ ?_
  rotate_left
  · (intro wS hSw; (try dsimp only at hSw); go_simp; try with_reducible rfl)
  try simp only [Act.put, List.setIfInBounds_toArray, List.set_cons_zero, List.set_cons_succ]
  refine takeW (i := 5) (some 80) (v := ?_) rfl rfl (by kernel_rfl) (by kernel_rfl) (by kernel_rfl) (fun _ _ _ h => h) (by rfl) (by assumption) ?_ ?_
  rotate_left
  · (intro wS hSw; (try dsimp only at hSw); go_simp; try with_reducible rfl)
  try simp only [Act.put, List.setIfInBounds_toArray, List.set_cons_zero, List.set_cons_succ]
  refine takeW (i := 6) (some 81) (v := ?_) rfl rfl (by kernel_rfl) (by kernel_rfl) (by kernel_rfl) (fun _ _ _ h => h) (by rfl) (by assumption) ?_ ?_
  rotate_left
  · (intro wS hSw; (try dsimp only at hSw); go_simp; try with_reducible rfl)
  try simp only [Act.put, List.setIfInBounds_toArray, List.set_cons_zero, List.set_cons_succ]
  have b7 := E13.out.bx 0 rfl
  have c7_0 := b7.cell 0 rfl
  have f7_0 := b7.frozen 0
  clear b7
  refine wpAnyH_next (i := 7) (by kernel_rfl) rfl (fun KK hKK => ?_)
  go_simp
  have E14 : Hid (Env D w [(w8.heap.size, 24, [.int .i64 to2, .int .i64 to3, .int .i64 kd3, .int .i64 nm3, .slice aa body3.length ak]), (w7.heap.size, 27, [.int .i64 nx, .bool wt, .int .i64 fr, .int .i64 to_, .int .i64 kd, .int .i64 nm, .slice rqa body.length rqk, .slice (some ⟨lsg, 0, none⟩) dn.length lsj, .int .i64 tr]), (lsg, 24, lss), (w.heap.size + 1 + 1 + 1, 27, [.int .i64 0, .bool false, .int .i64 0, .int .i64 0, .int .i64 0, .int .i64 0, .slice none 0 0, .slice none 0 0, .int .i64 0]), (w.heap.size + 1 + 1, 24, [.int .i64 fr3, .int .i64 to3, .int .i64 kd3, .int .i64 nm3, .slice za body3.length zk]), (w.heap.size + 1, 24, [.int .i64 fr2, .int .i64 to2, .int .i64 kd2, .int .i64 nm2, .slice ya body2.length yk]), (w.heap.size, 27, [.int .i64 nx, .bool wt, .int .i64 fr, .int .i64 to_, .int .i64 kd, .int .i64 nm, .slice xa body.length xk, .slice (some ⟨db, df, none⟩) dn.length dj, .int .i64 tr])] [.bs (.slice aa body3.length ak) body3, .mc lss dn, .bs (.slice rqa body.length rqk) body, .ce db (df + kk * 5) (.int .i64 dn[kk].fr), .ce db (df + kk * 5 + 1) (.int .i64 dn[kk].to_), .ce db (df + kk * 5 + 2) (.int .i64 dn[kk].kd), .ce db (df + kk * 5 + 3) (.int .i64 dn[kk].nm), .ce db (df + kk * 5 + 4) (.slice ua dn[kk].body.length uk), .bs (.slice ua dn[kk].body.length uk) dn[kk].body, .bs (.slice za body3.length zk) body3, .bs (.slice ya body2.length yk) body2, .ms (.slice (some ⟨db, df, none⟩) dn.length dj) dn, .bs (.slice xa body.length xk) body] _) := Lib.hid ((E13.out.set 0 0 (.int .i64 to2) rfl))
  refine hKK.out _ _ (⟨((E14.out.bx 5 rfl).cell 1 rfl), ((E14.out.bx 5 rfl).cell 0 rfl), ((E14.out.bx 5 rfl).cell 3 rfl)⟩) ?_
  clear hKK KK hHeld
  have hHeld : (fun w' : World => w'.cell? ⟨w.heap.size + 1, 1, none⟩ = some (.int .i64 to2) ∧ w'.cell? ⟨w.heap.size + 1, 0, none⟩ = some (.int .i64 fr2) ∧ w'.cell? ⟨w.heap.size + 1, 3, none⟩ = some (.int .i64 nm2)) (w10.setCell ⟨w8.heap.size, 0, none⟩ (.int .i64 to2)) := ⟨((E14.out.bx 5 rfl).cell 1 rfl), ((E14.out.bx 5 rfl).cell 0 rfl), ((E14.out.bx 5 rfl).cell 3 rfl)⟩
  refine takeW (i := 8) (some 82) (v := ?_) rfl rfl (by kernel_rfl) (by kernel_rfl) (by kernel_rfl) (fun _ _ _ h => h) (by rfl) (by assumption) ?_ ?_
  rotate_left
  · (intro wS hSw; (try dsimp only at hSw); go_simp; try with_reducible rfl)
  try simp only [Act.put, List.setIfInBounds_toArray, List.set_cons_zero, List.set_cons_succ]
  have b8 := E14.out.bx 0 rfl
  have c8_1 := b8.cell 1 rfl
  have f8_1 := b8.frozen 1
  clear b8
  refine wpAnyH_next (i := 9) (by kernel_rfl) rfl (fun KK hKK => ?_)
  go_simp
  have E15 : Hid (Env D w [(w8.heap.size, 24, [.int .i64 to2, .int .i64 fr2, .int .i64 kd3, .int .i64 nm3, .slice aa body3.length ak]), (w7.heap.size, 27, [.int .i64 nx, .bool wt, .int .i64 fr, .int .i64 to_, .int .i64 kd, .int .i64 nm, .slice rqa body.length rqk, .slice (some ⟨lsg, 0, none⟩) dn.length lsj, .int .i64 tr]), (lsg, 24, lss), (w.heap.size + 1 + 1 + 1, 27, [.int .i64 0, .bool false, .int .i64 0, .int .i64 0, .int .i64 0, .int .i64 0, .slice none 0 0, .slice none 0 0, .int .i64 0]), (w.heap.size + 1 + 1, 24, [.int .i64 fr3, .int .i64 to3, .int .i64 kd3, .int .i64 nm3, .slice za body3.length zk]), (w.heap.size + 1, 24, [.int .i64 fr2, .int .i64 to2, .int .i64 kd2, .int .i64 nm2, .slice ya body2.length yk]), (w.heap.size, 27, [.int .i64 nx, .bool wt, .int .i64 fr, .int .i64 to_, .int .i64 kd, .int .i64 nm, .slice xa body.length xk, .slice (some ⟨db, df, none⟩) dn.length dj, .int .i64 tr])] [.bs (.slice aa body3.length ak) body3, .mc lss dn, .bs (.slice rqa body.length rqk) body, .ce db (df + kk * 5) (.int .i64 dn[kk].fr), .ce db (df + kk * 5 + 1) (.int .i64 dn[kk].to_), .ce db (df + kk * 5 + 2) (.int .i64 dn[kk].kd), .ce db (df + kk * 5 + 3) (.int .i64 dn[kk].nm), .ce db (df + kk * 5 + 4) (.slice ua dn[kk].body.length uk), .bs (.slice ua dn[kk].body.length uk) dn[kk].body, .bs (.slice za body3.length zk) body3, .bs (.slice ya body2.length yk) body2, .ms (.slice (some ⟨db, df, none⟩) dn.length dj) dn, .bs (.slice xa body.length xk) body] _) := Lib.hid ((E14.out.set 0 1 (.int .i64 fr2) rfl))
  refine hKK.out _ _ (⟨((E15.out.bx 5 rfl).cell 1 rfl), ((E15.out.bx 5 rfl).cell 0 rfl), ((E15.out.bx 5 rfl).cell 3 rfl)⟩) ?_
  clear hKK KK hHeld
  have hHeld : (fun w' : World => w'.cell? ⟨w.heap.size + 1, 1, none⟩ = some (.int .i64 to2) ∧ w'.cell? ⟨w.heap.size + 1, 0, none⟩ = some (.int .i64 fr2) ∧ w'.cell? ⟨w.heap.size + 1, 3, none⟩ = some (.int .i64 nm2)) ((w10.setCell ⟨w8.heap.size, 0, none⟩ (.int .i64 to2)).setCell ⟨w8.heap.size, 1, none⟩ (.int .i64 fr2)) := ⟨((E15.out.bx 5 rfl).cell 1 rfl), ((E15.out.bx 5 rfl).cell 0 rfl), ((E15.out.bx 5 rfl).cell 3 rfl)⟩
  refine takeW (i := 10) (some 83) (v := ?_) rfl rfl (by kernel_rfl) (by kernel_rfl) (by kernel_rfl) (fun _ _ _ h => h) (by rfl) (by assumption) ?_ ?_
  rotate_left
  · (intro wS hSw; (try dsimp only at hSw); go_simp; try with_reducible rfl)
  try simp only [Act.put, List.setIfInBounds_toArray, List.set_cons_zero, List.set_cons_succ]
  have b9 := E15.out.bx 0 rfl
  have c9_3 := b9.cell 3 rfl
  have f9_3 := b9.frozen 3
  clear b9
  refine wpAnyH_next (i := 11) (by kernel_rfl) rfl (fun KK hKK => ?_)
  go_simp
  have E16 : Hid (Env D w [(w8.heap.size, 24, [.int .i64 to2, .int .i64 fr2, .int .i64 kd3, .int .i64 nm2, .slice aa body3.length ak]), (w7.heap.size, 27, [.int .i64 nx, .bool wt, .int .i64 fr, .int .i64 to_, .int .i64 kd, .int .i64 nm, .slice rqa body.length rqk, .slice (some ⟨lsg, 0, none⟩) dn.length lsj, .int .i64 tr]), (lsg, 24, lss), (w.heap.size + 1 + 1 + 1, 27, [.int .i64 0, .bool false, .int .i64 0, .int .i64 0, .int .i64 0, .int .i64 0, .slice none 0 0, .slice none 0 0, .int .i64 0]), (w.heap.size + 1 + 1, 24, [.int .i64 fr3, .int .i64 to3, .int .i64 kd3, .int .i64 nm3, .slice za body3.length zk]), (w.heap.size + 1, 24, [.int .i64 fr2, .int .i64 to2, .int .i64 kd2, .int .i64 nm2, .slice ya body2.length yk]), (w.heap.size, 27, [.int .i64 nx, .bool wt, .int .i64 fr, .int .i64 to_, .int .i64 kd, .int .i64 nm, .slice xa body.length xk, .slice (some ⟨db, df, none⟩) dn.length dj, .int .i64 tr])] [.bs (.slice aa body3.length ak) body3, .mc lss dn, .bs (.slice rqa body.length rqk) body, .ce db (df + kk * 5) (.int .i64 dn[kk].fr), .ce db (df + kk * 5 + 1) (.int .i64 dn[kk].to_), .ce db (df + kk * 5 + 2) (.int .i64 dn[kk].kd), .ce db (df + kk * 5 + 3) (.int .i64 dn[kk].nm), .ce db (df + kk * 5 + 4) (.slice ua dn[kk].body.length uk), .bs (.slice ua dn[kk].body.length uk) dn[kk].body, .bs (.slice za body3.length zk) body3, .bs (.slice ya body2.length yk) body2, .ms (.slice (some ⟨db, df, none⟩) dn.length dj) dn, .bs (.slice xa body.length xk) body] _) := Lib.hid ((E15.out.set 0 3 (.int .i64 nm2) rfl))
  refine hKK.out _ _ (⟨((E16.out.bx 5 rfl).cell 1 rfl), ((E16.out.bx 5 rfl).cell 0 rfl), ((E16.out.bx 5 rfl).cell 3 rfl)⟩) ?_
  clear hKK KK hHeld
  have hHeld : (fun w' : World => w'.cell? ⟨w.heap.size + 1, 1, none⟩ = some (.int .i64 to2) ∧ w'.cell? ⟨w.heap.size + 1, 0, none⟩ = some (.int .i64 fr2) ∧ w'.cell? ⟨w.heap.size + 1, 3, none⟩ = some (.int .i64 nm2)) (((w10.setCell ⟨w8.heap.size, 0, none⟩ (.int .i64 to2)).setCell ⟨w8.heap.size, 1, none⟩ (.int .i64 fr2)).setCell ⟨w8.heap.size, 3, none⟩ (.int .i64 nm2)) := ⟨((E16.out.bx 5 rfl).cell 1 rfl), ((E16.out.bx 5 rfl).cell 0 rfl), ((E16.out.bx 5 rfl).cell 3 rfl)⟩
  refine wpAnyH_done (by kernel_rfl) ?_ _
  clear c7_0 f7_0 c8_1 f8_1 c9_3 f9_3 E13 E14 E15
  generalize ((w10.setCell ⟨w8.heap.size, 0, none⟩ (.int .i64 to2)).setCell ⟨w8.heap.size, 1, none⟩ (.int .i64 fr2)).setCell ⟨w8.heap.size, 3, none⟩ (.int .i64 nm2) = w11 at *
  obtain ⟨m0, m1, m2, m3, ea, ek, m4, -⟩ := E16.out.fc 1 rfl kk hk
  have b10 := E16.out.bx 1 rfl
  have c10_7 := b10.cell 7 rfl
  clear b10
  have b11 := E16.out.bx 0 rfl
  have c11_0 := b11.cell 0 rfl
  have c11_1 := b11.cell 1 rfl
  have c11_2 := b11.cell 2 rfl
  have c11_3 := b11.cell 3 rfl
  have c11_4 := b11.cell 4 rfl
  clear b11
  have b12 := E16.out.bx 2 rfl
  have c12_0 := b12.cell (kk * 5) m0
  have f12_0 := b12.frozen (kk * 5)
  have c12_1 := b12.cell (kk * 5 + 1) m1
  have f12_1 := b12.frozen (kk * 5 + 1)
  have c12_2 := b12.cell (kk * 5 + 2) m2
  have f12_2 := b12.frozen (kk * 5 + 2)
  have c12_3 := b12.cell (kk * 5 + 3) m3
  have f12_3 := b12.frozen (kk * 5 + 3)
  have c12_4 := b12.cell (kk * 5 + 4) m4
  have f12_4 := b12.frozen (kk * 5 + 4)
  clear b12
  have E17 : Hid (Env D w [(w8.heap.size, 24, [.int .i64 to2, .int .i64 fr2, .int .i64 kd3, .int .i64 nm2, .slice aa body3.length ak]), (w7.heap.size, 27, [.int .i64 nx, .bool wt, .int .i64 fr, .int .i64 to_, .int .i64 kd, .int .i64 nm, .slice rqa body.length rqk, .slice (some ⟨lsg, 0, none⟩) dn.length lsj, .int .i64 tr]), (lsg, 24, (((((lss.set (kk * 5) (.int .i64 to2)).set (kk * 5 + 1) (.int .i64 fr2)).set (kk * 5 + 2) (.int .i64 kd3)).set (kk * 5 + 3) (.int .i64 nm2)).set (kk * 5 + 4) (.slice aa body3.length ak))), (w.heap.size + 1 + 1 + 1, 27, [.int .i64 0, .bool false, .int .i64 0, .int .i64 0, .int .i64 0, .int .i64 0, .slice none 0 0, .slice none 0 0, .int .i64 0]), (w.heap.size + 1 + 1, 24, [.int .i64 fr3, .int .i64 to3, .int .i64 kd3, .int .i64 nm3, .slice za body3.length zk]), (w.heap.size + 1, 24, [.int .i64 fr2, .int .i64 to2, .int .i64 kd2, .int .i64 nm2, .slice ya body2.length yk]), (w.heap.size, 27, [.int .i64 nx, .bool wt, .int .i64 fr, .int .i64 to_, .int .i64 kd, .int .i64 nm, .slice xa body.length xk, .slice (some ⟨db, df, none⟩) dn.length dj, .int .i64 tr])] [.bs (.slice aa body3.length ak) body3, .mc lss dn, .bs (.slice rqa body.length rqk) body, .ce db (df + kk * 5) (.int .i64 dn[kk].fr), .ce db (df + kk * 5 + 1) (.int .i64 dn[kk].to_), .ce db (df + kk * 5 + 2) (.int .i64 dn[kk].kd), .ce db (df + kk * 5 + 3) (.int .i64 dn[kk].nm), .ce db (df + kk * 5 + 4) (.slice ua dn[kk].body.length uk), .bs (.slice ua dn[kk].body.length uk) dn[kk].body, .bs (.slice za body3.length zk) body3, .bs (.slice ya body2.length yk) body2, .ms (.slice (some ⟨db, df, none⟩) dn.length dj) dn, .bs (.slice xa body.length xk) body] _) := Lib.hid ((((((E16.out.set 2 (kk * 5) (.int .i64 to2) rfl).set 2 (kk * 5 + 1) (.int .i64 fr2) rfl).set 2 (kk * 5 + 2) (.int .i64 kd3) rfl).set 2 (kk * 5 + 3) (.int .i64 nm2) rfl).set 2 (kk * 5 + 4) (.slice aa body3.length ak) rfl))
  have b13 := E17.out.bx 1 rfl
  have c13_0 := b13.cell 0 rfl
  have c13_1 := b13.cell 1 rfl
  have c13_2 := b13.cell 2 rfl
  have c13_3 := b13.cell 3 rfl
  have c13_4 := b13.cell 4 rfl
  have c13_5 := b13.cell 5 rfl
  have c13_6 := b13.cell 6 rfl
  have c13_7 := b13.cell 7 rfl
  have c13_8 := b13.cell 8 rfl
  clear b13
  have b14 := E17.out.bx 3 rfl
  have c14_0 := b14.cell 0 rfl
  have c14_1 := b14.cell 1 rfl
  have c14_2 := b14.cell 2 rfl
  have c14_3 := b14.cell 3 rfl
  have c14_4 := b14.cell 4 rfl
  have c14_5 := b14.cell 5 rfl
  have c14_6 := b14.cell 6 rfl
  have c14_7 := b14.cell 7 rfl
  have c14_8 := b14.cell 8 rfl
  have f14_0 := b14.frozen 0
  have f14_1 := b14.frozen 1
  have f14_2 := b14.frozen 2
  have f14_3 := b14.frozen 3
  have f14_4 := b14.frozen 4
  have f14_5 := b14.frozen 5
  have f14_6 := b14.frozen 6
  have f14_7 := b14.frozen 7
  have f14_8 := b14.frozen 8
  clear b14
  have hln : (dn.set kk ⟨to2, fr2, kd3, nm2, body3⟩).length = dn.length := by simp
  go_wp2
  have E18 : Hid (Env D w [(w8.heap.size, 24, [.int .i64 to2, .int .i64 fr2, .int .i64 kd3, .int .i64 nm2, .slice aa body3.length ak]), (w7.heap.size, 27, [.int .i64 nx, .bool wt, .int .i64 fr, .int .i64 to_, .int .i64 kd, .int .i64 nm, .slice rqa body.length rqk, .slice (some ⟨lsg, 0, none⟩) dn.length lsj, .int .i64 tr]), (lsg, 24, (((((lss.set (kk * 5) (.int .i64 to2)).set (kk * 5 + 1) (.int .i64 fr2)).set (kk * 5 + 2) (.int .i64 kd3)).set (kk * 5 + 3) (.int .i64 nm2)).set (kk * 5 + 4) (.slice aa body3.length ak))), (w.heap.size + 1 + 1 + 1, 27, [.int .i64 nx, .bool wt, .int .i64 fr, .int .i64 to_, .int .i64 kd, .int .i64 nm, .slice rqa body.length rqk, .slice (some ⟨lsg, 0, none⟩) dn.length lsj, .int .i64 tr]), (w.heap.size + 1 + 1, 24, [.int .i64 fr3, .int .i64 to3, .int .i64 kd3, .int .i64 nm3, .slice za body3.length zk]), (w.heap.size + 1, 24, [.int .i64 fr2, .int .i64 to2, .int .i64 kd2, .int .i64 nm2, .slice ya body2.length yk]), (w.heap.size, 27, [.int .i64 nx, .bool wt, .int .i64 fr, .int .i64 to_, .int .i64 kd, .int .i64 nm, .slice xa body.length xk, .slice (some ⟨db, df, none⟩) dn.length dj, .int .i64 tr])] [.bs (.slice aa body3.length ak) body3, .mc lss dn, .bs (.slice rqa body.length rqk) body, .ce db (df + kk * 5) (.int .i64 dn[kk].fr), .ce db (df + kk * 5 + 1) (.int .i64 dn[kk].to_), .ce db (df + kk * 5 + 2) (.int .i64 dn[kk].kd), .ce db (df + kk * 5 + 3) (.int .i64 dn[kk].nm), .ce db (df + kk * 5 + 4) (.slice ua dn[kk].body.length uk), .bs (.slice ua dn[kk].body.length uk) dn[kk].body, .bs (.slice za body3.length zk) body3, .bs (.slice ya body2.length yk) body2, .ms (.slice (some ⟨db, df, none⟩) dn.length dj) dn, .bs (.slice xa body.length xk) body] _) := Lib.hid ((((((((((E17.out.set 3 0 (.int .i64 nx) rfl).set 3 1 (.bool wt) rfl).set 3 2 (.int .i64 fr) rfl).set 3 3 (.int .i64 to_) rfl).set 3 4 (.int .i64 kd) rfl).set 3 5 (.int .i64 nm) rfl).set 3 6 (.slice rqa body.length rqk) rfl).set 3 7 (.slice (some ⟨lsg, 0, none⟩) dn.length lsj) rfl).set 3 8 (.int .i64 tr) rfl))
  have hfin := E18.out
  have q15 := (hfin.bx 3 rfl).cell 0 rfl
  have q16 := (hfin.bx 3 rfl).cell 1 rfl
  have q17 := (hfin.bx 3 rfl).cell 2 rfl
  have q18 := (hfin.bx 3 rfl).cell 3 rfl
  have q19 := (hfin.bx 3 rfl).cell 4 rfl
  have q20 := (hfin.bx 3 rfl).cell 5 rfl
  have q21 := (hfin.bx 3 rfl).cell 6 rfl
  have q22 := (hfin.bx 3 rfl).cell 7 rfl
  have q23 := (hfin.bx 3 rfl).cell 8 rfl
  exact bodyPost_ret (v := .tuple #[.agg #[.int .i64 nx, .bool wt, .int .i64 fr, .int .i64 to_, .int .i64 kd, .int .i64 nm, .slice rqa body.length rqk, .slice (some ⟨lsg, 0, none⟩) dn.length lsj, .int .i64 tr], .int .i64 0]) (by simp [results, Try.results17, go_sem, q15, q16, q17, q18, q19, q20, q21, q22, q23]) rfl ⟨⟨rqa, rqk, some ⟨lsg, 0, none⟩, lsj, by dsimp only; rw [hln], (Lib.hid (hfin.out 2 rfl)), Lib.hid (Ms.ofBox (hfin.bx 2 rfl) (mc_set (hfin.fc 1 rfl) (by have := HC.out; omega) hk ⟨to2, fr2, kd3, nm2, body3⟩ (hfin.fc 0 rfl)) (by rw [hln]; exact HC.out.1) HC.out.2.1 (fun _ hd => hd.2) (.inr (hfin.bx 2 rfl).1))⟩, hfin.bel⟩
end Go.Proofs.Ytbcfcdcomboljaa

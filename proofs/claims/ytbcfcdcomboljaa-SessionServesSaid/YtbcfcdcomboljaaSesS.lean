/- The reference's Done. -/
import Derived.Test.YtbcfcdcomboljaaSesAp
import Derived.Test.YtbcfcdcomboljaaSesR
namespace Go.Proofs.Ytbcfcdcomboljaa
open Go.RowKit
set_option linter.unusedVariables false
set_option maxRecDepth 100000 in
set_option maxHeartbeats 2000000 in
theorem rDone_1a {D : Nat → Prop} (nx fr to_ kd nm tr : Int) (wt : Bool) (body : List Nat) (dn : List Msg) {xa : Option Addr} {xk : Nat} {da : Option Addr} {dj : Nat} (fr2 to2 kd2 nm2 : Int) (body2 : List Nat) {ya : Option Addr} {yk : Nat} (fr3 to3 kd3 nm3 : Int) (body3 : List Nat) {za : Option Addr} {zk : Nat} {w : World} (hx : Fct.at w D (.bs (.slice xa body.length xk) body)) (hy : Fct.at w D (.ms (.slice da dn.length dj) dn)) (hz : Fct.at w D (.bs (.slice ya body2.length yk) body2)) (hv : Fct.at w D (.bs (.slice za body3.length zk) body3)) (hS0 : ¬ SesOk ⟨nx, wt, ⟨fr, to_, kd, nm, body⟩, dn, tr⟩) :
    Calls Try.prog 18 #[.agg #[.int .i64 nx, .bool wt, .int .i64 fr, .int .i64 to_, .int .i64 kd, .int .i64 nm, .slice xa body.length xk, .slice da dn.length dj, .int .i64 tr], .agg #[.int .i64 fr2, .int .i64 to2, .int .i64 kd2, .int .i64 nm2, .slice ya body2.length yk], .agg #[.int .i64 fr3, .int .i64 to3, .int .i64 kd3, .int .i64 nm3, .slice za body3.length zk]] w fun e w' => RetSE (fun b => D b ∨ w.heap.size ≤ b) S0 1 e w' ∧ Below w.heap.size w w' := by
  have E0 := Lib.hid (((((Env.start D w).arg (.bs (.slice xa body.length xk) body) hx).arg (.ms (.slice da dn.length dj) dn) hy).arg (.bs (.slice ya body2.length yk) body2) hz).arg (.bs (.slice za body3.length zk) body3) hv)
  clear hx hy hz hv
  go_enter Try.func18, Try.ntmps18
  have hS := Lib.hid hS0
  clear hS0
  go_wp2_with fail
  have E1 := Lib.hid (((((E0.out.push 27 [.int .i64 nx, .bool wt, .int .i64 fr, .int .i64 to_, .int .i64 kd, .int .i64 nm, .slice xa body.length xk, .slice da dn.length dj, .int .i64 tr] (w.heap.size) (by simp)).push 24 [.int .i64 fr2, .int .i64 to2, .int .i64 kd2, .int .i64 nm2, .slice ya body2.length yk] (w.heap.size + 1) (by simp)).push 24 [.int .i64 fr3, .int .i64 to3, .int .i64 kd3, .int .i64 nm3, .slice za body3.length zk] (w.heap.size + 1 + 1) (by simp)).push 27 [.int .i64 0, .bool false, .int .i64 0, .int .i64 0, .int .i64 0, .int .i64 0, .slice none 0 0, .slice none 0 0, .int .i64 0] (w.heap.size + 1 + 1 + 1) (by simp)))
  refine (rValid_f (S := ⟨nx, wt, ⟨fr, to_, kd, nm, body⟩, dn, tr⟩) hS.out (E1.out.fc 3 rfl) (E1.out.fc 2 rfl)).mono ?_
  rintro e w1 ⟨rfl, hb⟩
  have E2 := Lib.hid (E1.out.below hb)
  clear E0 E1 hb
  have b1 := E2.out.bx 0 rfl
  have c1_0 := b1.cell 0 rfl
  have c1_1 := b1.cell 1 rfl
  have c1_2 := b1.cell 2 rfl
  have c1_3 := b1.cell 3 rfl
  have c1_4 := b1.cell 4 rfl
  have c1_5 := b1.cell 5 rfl
  have c1_6 := b1.cell 6 rfl
  have c1_7 := b1.cell 7 rfl
  have c1_8 := b1.cell 8 rfl
  have f1_0 := b1.frozen 0
  have f1_1 := b1.frozen 1
  have f1_2 := b1.frozen 2
  have f1_3 := b1.frozen 3
  have f1_4 := b1.frozen 4
  have f1_5 := b1.frozen 5
  have f1_6 := b1.frozen 6
  have f1_7 := b1.frozen 7
  have f1_8 := b1.frozen 8
  clear b1
  go_wp2
  have E3 : Hid (Env D w [(w.heap.size + 1 + 1 + 1, 27, [.int .i64 0, .bool false, .int .i64 0, .int .i64 0, .int .i64 0, .int .i64 0, .slice none 0 0, .slice none 0 0, .int .i64 0]), (w.heap.size + 1 + 1, 24, [.int .i64 fr3, .int .i64 to3, .int .i64 kd3, .int .i64 nm3, .slice za body3.length zk]), (w.heap.size + 1, 24, [.int .i64 fr2, .int .i64 to2, .int .i64 kd2, .int .i64 nm2, .slice ya body2.length yk]), (w.heap.size, 27, [.int .i64 nx, .bool wt, .int .i64 fr, .int .i64 to_, .int .i64 kd, .int .i64 nm, .slice xa body.length xk, .slice da dn.length dj, .int .i64 tr])] [.bs (.slice za body3.length zk) body3, .bs (.slice ya body2.length yk) body2, .ms (.slice da dn.length dj) dn, .bs (.slice xa body.length xk) body] _) := Lib.hid ((((((((((E2.out.set 0 0 (.int .i64 0) rfl).set 0 1 (.bool false) rfl).set 0 2 (.int .i64 0) rfl).set 0 3 (.int .i64 0) rfl).set 0 4 (.int .i64 0) rfl).set 0 5 (.int .i64 0) rfl).set 0 6 (.slice none 0 0) rfl).set 0 7 (.slice none 0 0) rfl).set 0 8 (.int .i64 0) rfl))
  have hfin := E3.out
  have q2 := (hfin.bx 0 rfl).cell 0 rfl
  have q3 := (hfin.bx 0 rfl).cell 1 rfl
  have q4 := (hfin.bx 0 rfl).cell 2 rfl
  have q5 := (hfin.bx 0 rfl).cell 3 rfl
  have q6 := (hfin.bx 0 rfl).cell 4 rfl
  have q7 := (hfin.bx 0 rfl).cell 5 rfl
  have q8 := (hfin.bx 0 rfl).cell 6 rfl
  have q9 := (hfin.bx 0 rfl).cell 7 rfl
  have q10 := (hfin.bx 0 rfl).cell 8 rfl
  exact bodyPost_ret (v := .tuple #[.agg #[.int .i64 0, .bool false, .int .i64 0, .int .i64 0, .int .i64 0, .int .i64 0, .slice none 0 0, .slice none 0 0, .int .i64 0], .int .i64 1]) (by simp [results, Try.results18, go_sem, q2, q3, q4, q5, q6, q7, q8, q9, q10]) rfl ⟨⟨none, 0, none, 0, rfl, Lib.hid (Bs.nil _ _), Lib.hid (Ms.nil _ _)⟩, hfin.bel⟩
set_option maxRecDepth 100000 in
set_option maxHeartbeats 2000000 in
theorem rDone_1b {D : Nat → Prop} (nx fr to_ kd nm tr : Int) (wt : Bool) (body : List Nat) (dn : List Msg) {xa : Option Addr} {xk : Nat} {da : Option Addr} {dj : Nat} (fr2 to2 kd2 nm2 : Int) (body2 : List Nat) {ya : Option Addr} {yk : Nat} (fr3 to3 kd3 nm3 : Int) (body3 : List Nat) {za : Option Addr} {zk : Nat} {w : World} (hx : Fct.at w D (.bs (.slice xa body.length xk) body)) (hy : Fct.at w D (.ms (.slice da dn.length dj) dn)) (hz : Fct.at w D (.bs (.slice ya body2.length yk) body2)) (hv : Fct.at w D (.bs (.slice za body3.length zk) body3)) (hS0 : SesOk ⟨nx, wt, ⟨fr, to_, kd, nm, body⟩, dn, tr⟩) (hq0 : msgOk ⟨fr2, to2, kd2, nm2, body2⟩ = false) :
    Calls Try.prog 18 #[.agg #[.int .i64 nx, .bool wt, .int .i64 fr, .int .i64 to_, .int .i64 kd, .int .i64 nm, .slice xa body.length xk, .slice da dn.length dj, .int .i64 tr], .agg #[.int .i64 fr2, .int .i64 to2, .int .i64 kd2, .int .i64 nm2, .slice ya body2.length yk], .agg #[.int .i64 fr3, .int .i64 to3, .int .i64 kd3, .int .i64 nm3, .slice za body3.length zk]] w fun e w' => RetSE (fun b => D b ∨ w.heap.size ≤ b) S0 1 e w' ∧ Below w.heap.size w w' := by
  have E0 := Lib.hid (((((Env.start D w).arg (.bs (.slice xa body.length xk) body) hx).arg (.ms (.slice da dn.length dj) dn) hy).arg (.bs (.slice ya body2.length yk) body2) hz).arg (.bs (.slice za body3.length zk) body3) hv)
  clear hx hy hz hv
  go_enter Try.func18, Try.ntmps18
  have hS := Lib.hid hS0
  clear hS0
  have hq := Lib.hid hq0
  clear hq0
  go_wp2_with fail
  have E1 := Lib.hid (((((E0.out.push 27 [.int .i64 nx, .bool wt, .int .i64 fr, .int .i64 to_, .int .i64 kd, .int .i64 nm, .slice xa body.length xk, .slice da dn.length dj, .int .i64 tr] (w.heap.size) (by simp)).push 24 [.int .i64 fr2, .int .i64 to2, .int .i64 kd2, .int .i64 nm2, .slice ya body2.length yk] (w.heap.size + 1) (by simp)).push 24 [.int .i64 fr3, .int .i64 to3, .int .i64 kd3, .int .i64 nm3, .slice za body3.length zk] (w.heap.size + 1 + 1) (by simp)).push 27 [.int .i64 0, .bool false, .int .i64 0, .int .i64 0, .int .i64 0, .int .i64 0, .slice none 0 0, .slice none 0 0, .int .i64 0] (w.heap.size + 1 + 1 + 1) (by simp)))
  refine (rValid_t (S := ⟨nx, wt, ⟨fr, to_, kd, nm, body⟩, dn, tr⟩) hS.out (E1.out.fc 3 rfl) (E1.out.fc 2 rfl)).mono ?_
  rintro e w1 ⟨rfl, hb⟩
  have E2 := Lib.hid (E1.out.below hb)
  clear E0 E1 hb
  have b1 := E2.out.bx 2 rfl
  have c1_0 := b1.cell 0 rfl
  have c1_1 := b1.cell 1 rfl
  have c1_2 := b1.cell 2 rfl
  have c1_3 := b1.cell 3 rfl
  have c1_4 := b1.cell 4 rfl
  clear b1
  go_wp2_with fail
  refine (rMessage_v ⟨fr2, to2, kd2, nm2, body2⟩ hq.out _ _ _).mono ?_
  rintro e w2 ⟨rfl, hb⟩
  have E3 := Lib.hid (E2.out.below hb)
  clear c1_0 c1_1 c1_2 c1_3 c1_4 E2 hb
  have b2 := E3.out.bx 0 rfl
  have c2_0 := b2.cell 0 rfl
  have c2_1 := b2.cell 1 rfl
  have c2_2 := b2.cell 2 rfl
  have c2_3 := b2.cell 3 rfl
  have c2_4 := b2.cell 4 rfl
  have c2_5 := b2.cell 5 rfl
  have c2_6 := b2.cell 6 rfl
  have c2_7 := b2.cell 7 rfl
  have c2_8 := b2.cell 8 rfl
  have f2_0 := b2.frozen 0
  have f2_1 := b2.frozen 1
  have f2_2 := b2.frozen 2
  have f2_3 := b2.frozen 3
  have f2_4 := b2.frozen 4
  have f2_5 := b2.frozen 5
  have f2_6 := b2.frozen 6
  have f2_7 := b2.frozen 7
  have f2_8 := b2.frozen 8
  clear b2
  go_wp2
  have E4 : Hid (Env D w [(w.heap.size + 1 + 1 + 1, 27, [.int .i64 0, .bool false, .int .i64 0, .int .i64 0, .int .i64 0, .int .i64 0, .slice none 0 0, .slice none 0 0, .int .i64 0]), (w.heap.size + 1 + 1, 24, [.int .i64 fr3, .int .i64 to3, .int .i64 kd3, .int .i64 nm3, .slice za body3.length zk]), (w.heap.size + 1, 24, [.int .i64 fr2, .int .i64 to2, .int .i64 kd2, .int .i64 nm2, .slice ya body2.length yk]), (w.heap.size, 27, [.int .i64 nx, .bool wt, .int .i64 fr, .int .i64 to_, .int .i64 kd, .int .i64 nm, .slice xa body.length xk, .slice da dn.length dj, .int .i64 tr])] [.bs (.slice za body3.length zk) body3, .bs (.slice ya body2.length yk) body2, .ms (.slice da dn.length dj) dn, .bs (.slice xa body.length xk) body] _) := Lib.hid ((((((((((E3.out.set 0 0 (.int .i64 0) rfl).set 0 1 (.bool false) rfl).set 0 2 (.int .i64 0) rfl).set 0 3 (.int .i64 0) rfl).set 0 4 (.int .i64 0) rfl).set 0 5 (.int .i64 0) rfl).set 0 6 (.slice none 0 0) rfl).set 0 7 (.slice none 0 0) rfl).set 0 8 (.int .i64 0) rfl))
  have hfin := E4.out
  have q3 := (hfin.bx 0 rfl).cell 0 rfl
  have q4 := (hfin.bx 0 rfl).cell 1 rfl
  have q5 := (hfin.bx 0 rfl).cell 2 rfl
  have q6 := (hfin.bx 0 rfl).cell 3 rfl
  have q7 := (hfin.bx 0 rfl).cell 4 rfl
  have q8 := (hfin.bx 0 rfl).cell 5 rfl
  have q9 := (hfin.bx 0 rfl).cell 6 rfl
  have q10 := (hfin.bx 0 rfl).cell 7 rfl
  have q11 := (hfin.bx 0 rfl).cell 8 rfl
  exact bodyPost_ret (v := .tuple #[.agg #[.int .i64 0, .bool false, .int .i64 0, .int .i64 0, .int .i64 0, .int .i64 0, .slice none 0 0, .slice none 0 0, .int .i64 0], .int .i64 1]) (by simp [results, Try.results18, go_sem, q3, q4, q5, q6, q7, q8, q9, q10, q11]) rfl ⟨⟨none, 0, none, 0, rfl, Lib.hid (Bs.nil _ _), Lib.hid (Ms.nil _ _)⟩, hfin.bel⟩
set_option maxRecDepth 100000 in
set_option maxHeartbeats 2000000 in
theorem rDone_1c {D : Nat → Prop} (nx fr to_ kd nm tr : Int) (wt : Bool) (body : List Nat) (dn : List Msg) {xa : Option Addr} {xk : Nat} {da : Option Addr} {dj : Nat} (fr2 to2 kd2 nm2 : Int) (body2 : List Nat) {ya : Option Addr} {yk : Nat} (fr3 to3 kd3 nm3 : Int) (body3 : List Nat) {za : Option Addr} {zk : Nat} {w : World} (hx : Fct.at w D (.bs (.slice xa body.length xk) body)) (hy : Fct.at w D (.ms (.slice da dn.length dj) dn)) (hz : Fct.at w D (.bs (.slice ya body2.length yk) body2)) (hv : Fct.at w D (.bs (.slice za body3.length zk) body3)) (hS0 : SesOk ⟨nx, wt, ⟨fr, to_, kd, nm, body⟩, dn, tr⟩) (hq0 : msgOk ⟨fr2, to2, kd2, nm2, body2⟩ = true) (ha0 : msgOk ⟨fr3, to3, kd3, nm3, body3⟩ = false) :
    Calls Try.prog 18 #[.agg #[.int .i64 nx, .bool wt, .int .i64 fr, .int .i64 to_, .int .i64 kd, .int .i64 nm, .slice xa body.length xk, .slice da dn.length dj, .int .i64 tr], .agg #[.int .i64 fr2, .int .i64 to2, .int .i64 kd2, .int .i64 nm2, .slice ya body2.length yk], .agg #[.int .i64 fr3, .int .i64 to3, .int .i64 kd3, .int .i64 nm3, .slice za body3.length zk]] w fun e w' => RetSE (fun b => D b ∨ w.heap.size ≤ b) S0 1 e w' ∧ Below w.heap.size w w' := by
  have E0 := Lib.hid (((((Env.start D w).arg (.bs (.slice xa body.length xk) body) hx).arg (.ms (.slice da dn.length dj) dn) hy).arg (.bs (.slice ya body2.length yk) body2) hz).arg (.bs (.slice za body3.length zk) body3) hv)
  clear hx hy hz hv
  go_enter Try.func18, Try.ntmps18
  have hS := Lib.hid hS0
  clear hS0
  have hq := Lib.hid hq0
  clear hq0
  have ha := Lib.hid ha0
  clear ha0
  go_wp2_with fail
  have E1 := Lib.hid (((((E0.out.push 27 [.int .i64 nx, .bool wt, .int .i64 fr, .int .i64 to_, .int .i64 kd, .int .i64 nm, .slice xa body.length xk, .slice da dn.length dj, .int .i64 tr] (w.heap.size) (by simp)).push 24 [.int .i64 fr2, .int .i64 to2, .int .i64 kd2, .int .i64 nm2, .slice ya body2.length yk] (w.heap.size + 1) (by simp)).push 24 [.int .i64 fr3, .int .i64 to3, .int .i64 kd3, .int .i64 nm3, .slice za body3.length zk] (w.heap.size + 1 + 1) (by simp)).push 27 [.int .i64 0, .bool false, .int .i64 0, .int .i64 0, .int .i64 0, .int .i64 0, .slice none 0 0, .slice none 0 0, .int .i64 0] (w.heap.size + 1 + 1 + 1) (by simp)))
  refine (rValid_t (S := ⟨nx, wt, ⟨fr, to_, kd, nm, body⟩, dn, tr⟩) hS.out (E1.out.fc 3 rfl) (E1.out.fc 2 rfl)).mono ?_
  rintro e w1 ⟨rfl, hb⟩
  have E2 := Lib.hid (E1.out.below hb)
  clear E0 E1 hb
  have b1 := E2.out.bx 2 rfl
  have c1_0 := b1.cell 0 rfl
  have c1_1 := b1.cell 1 rfl
  have c1_2 := b1.cell 2 rfl
  have c1_3 := b1.cell 3 rfl
  have c1_4 := b1.cell 4 rfl
  clear b1
  go_wp2_with fail
  refine (rMessage_v ⟨fr2, to2, kd2, nm2, body2⟩ hq.out _ _ _).mono ?_
  rintro e w2 ⟨rfl, hb⟩
  have E3 := Lib.hid (E2.out.below hb)
  clear c1_0 c1_1 c1_2 c1_3 c1_4 E2 hb
  have b2 := E3.out.bx 1 rfl
  have c2_0 := b2.cell 0 rfl
  have c2_1 := b2.cell 1 rfl
  have c2_2 := b2.cell 2 rfl
  have c2_3 := b2.cell 3 rfl
  have c2_4 := b2.cell 4 rfl
  clear b2
  go_wp2_with fail
  refine (rMessage_v ⟨fr3, to3, kd3, nm3, body3⟩ ha.out _ _ _).mono ?_
  rintro e w3 ⟨rfl, hb⟩
  have E4 := Lib.hid (E3.out.below hb)
  clear c2_0 c2_1 c2_2 c2_3 c2_4 E3 hb
  have b3 := E4.out.bx 0 rfl
  have c3_0 := b3.cell 0 rfl
  have c3_1 := b3.cell 1 rfl
  have c3_2 := b3.cell 2 rfl
  have c3_3 := b3.cell 3 rfl
  have c3_4 := b3.cell 4 rfl
  have c3_5 := b3.cell 5 rfl
  have c3_6 := b3.cell 6 rfl
  have c3_7 := b3.cell 7 rfl
  have c3_8 := b3.cell 8 rfl
  have f3_0 := b3.frozen 0
  have f3_1 := b3.frozen 1
  have f3_2 := b3.frozen 2
  have f3_3 := b3.frozen 3
  have f3_4 := b3.frozen 4
  have f3_5 := b3.frozen 5
  have f3_6 := b3.frozen 6
  have f3_7 := b3.frozen 7
  have f3_8 := b3.frozen 8
  clear b3
  go_wp2
  have E5 : Hid (Env D w [(w.heap.size + 1 + 1 + 1, 27, [.int .i64 0, .bool false, .int .i64 0, .int .i64 0, .int .i64 0, .int .i64 0, .slice none 0 0, .slice none 0 0, .int .i64 0]), (w.heap.size + 1 + 1, 24, [.int .i64 fr3, .int .i64 to3, .int .i64 kd3, .int .i64 nm3, .slice za body3.length zk]), (w.heap.size + 1, 24, [.int .i64 fr2, .int .i64 to2, .int .i64 kd2, .int .i64 nm2, .slice ya body2.length yk]), (w.heap.size, 27, [.int .i64 nx, .bool wt, .int .i64 fr, .int .i64 to_, .int .i64 kd, .int .i64 nm, .slice xa body.length xk, .slice da dn.length dj, .int .i64 tr])] [.bs (.slice za body3.length zk) body3, .bs (.slice ya body2.length yk) body2, .ms (.slice da dn.length dj) dn, .bs (.slice xa body.length xk) body] _) := Lib.hid ((((((((((E4.out.set 0 0 (.int .i64 0) rfl).set 0 1 (.bool false) rfl).set 0 2 (.int .i64 0) rfl).set 0 3 (.int .i64 0) rfl).set 0 4 (.int .i64 0) rfl).set 0 5 (.int .i64 0) rfl).set 0 6 (.slice none 0 0) rfl).set 0 7 (.slice none 0 0) rfl).set 0 8 (.int .i64 0) rfl))
  have hfin := E5.out
  have q4 := (hfin.bx 0 rfl).cell 0 rfl
  have q5 := (hfin.bx 0 rfl).cell 1 rfl
  have q6 := (hfin.bx 0 rfl).cell 2 rfl
  have q7 := (hfin.bx 0 rfl).cell 3 rfl
  have q8 := (hfin.bx 0 rfl).cell 4 rfl
  have q9 := (hfin.bx 0 rfl).cell 5 rfl
  have q10 := (hfin.bx 0 rfl).cell 6 rfl
  have q11 := (hfin.bx 0 rfl).cell 7 rfl
  have q12 := (hfin.bx 0 rfl).cell 8 rfl
  exact bodyPost_ret (v := .tuple #[.agg #[.int .i64 0, .bool false, .int .i64 0, .int .i64 0, .int .i64 0, .int .i64 0, .slice none 0 0, .slice none 0 0, .int .i64 0], .int .i64 1]) (by simp [results, Try.results18, go_sem, q4, q5, q6, q7, q8, q9, q10, q11, q12]) rfl ⟨⟨none, 0, none, 0, rfl, Lib.hid (Bs.nil _ _), Lib.hid (Ms.nil _ _)⟩, hfin.bel⟩
set_option maxRecDepth 100000 in
set_option maxHeartbeats 2000000 in
theorem rDone_8 {D : Nat → Prop} (nx fr to_ kd nm tr : Int) (wt : Bool) (body : List Nat) (dn : List Msg) {xa : Option Addr} {xk : Nat} {da : Option Addr} {dj : Nat} (fr2 to2 kd2 nm2 : Int) (body2 : List Nat) {ya : Option Addr} {yk : Nat} (fr3 to3 kd3 nm3 : Int) (body3 : List Nat) {za : Option Addr} {zk : Nat} (kk : Nat) {w : World} (hx : Fct.at w D (.bs (.slice xa body.length xk) body)) (hy : Fct.at w D (.ms (.slice da dn.length dj) dn)) (hz : Fct.at w D (.bs (.slice ya body2.length yk) body2)) (hv : Fct.at w D (.bs (.slice za body3.length zk) body3)) (hS0 : SesOk ⟨nx, wt, ⟨fr, to_, kd, nm, body⟩, dn, tr⟩) (hq0 : msgOk ⟨fr2, to2, kd2, nm2, body2⟩ = true) (ha0 : msgOk ⟨fr3, to3, kd3, nm3, body3⟩ = true) (hf0 : ∃ h : kk < dn.length, dn[kk].to_ = fr2 ∧ dn[kk].nm = nm2) :
    Calls Try.prog 18 #[.agg #[.int .i64 nx, .bool wt, .int .i64 fr, .int .i64 to_, .int .i64 kd, .int .i64 nm, .slice xa body.length xk, .slice da dn.length dj, .int .i64 tr], .agg #[.int .i64 fr2, .int .i64 to2, .int .i64 kd2, .int .i64 nm2, .slice ya body2.length yk], .agg #[.int .i64 fr3, .int .i64 to3, .int .i64 kd3, .int .i64 nm3, .slice za body3.length zk]] w fun e w' => RetSE (fun b => D b ∨ w.heap.size ≤ b) S0 8 e w' ∧ Below w.heap.size w w' := by
  have E0 := Lib.hid (((((Env.start D w).arg (.bs (.slice xa body.length xk) body) hx).arg (.ms (.slice da dn.length dj) dn) hy).arg (.bs (.slice ya body2.length yk) body2) hz).arg (.bs (.slice za body3.length zk) body3) hv)
  clear hx hy hz hv
  go_enter Try.func18, Try.ntmps18
  have hS := Lib.hid hS0
  clear hS0
  have hq := Lib.hid hq0
  clear hq0
  have ha := Lib.hid ha0
  clear ha0
  have hf := Lib.hid hf0
  clear hf0
  obtain ⟨hk, hto9, hcd9⟩ := hf.out
  have hto := Lib.hid hto9
  have hcd := Lib.hid hcd9
  clear hto9 hcd9
  have hA := Lib.hid (asc_of hS.out.2.2.2)
  have a3 : dn.length ≤ 1000 := hS.out.1.2.2
  go_wp2_with fail
  have E1 := Lib.hid (((((E0.out.push 27 [.int .i64 nx, .bool wt, .int .i64 fr, .int .i64 to_, .int .i64 kd, .int .i64 nm, .slice xa body.length xk, .slice da dn.length dj, .int .i64 tr] (w.heap.size) (by simp)).push 24 [.int .i64 fr2, .int .i64 to2, .int .i64 kd2, .int .i64 nm2, .slice ya body2.length yk] (w.heap.size + 1) (by simp)).push 24 [.int .i64 fr3, .int .i64 to3, .int .i64 kd3, .int .i64 nm3, .slice za body3.length zk] (w.heap.size + 1 + 1) (by simp)).push 27 [.int .i64 0, .bool false, .int .i64 0, .int .i64 0, .int .i64 0, .int .i64 0, .slice none 0 0, .slice none 0 0, .int .i64 0] (w.heap.size + 1 + 1 + 1) (by simp)))
  refine (rValid_t (S := ⟨nx, wt, ⟨fr, to_, kd, nm, body⟩, dn, tr⟩) hS.out (E1.out.fc 3 rfl) (E1.out.fc 2 rfl)).mono ?_
  rintro e w1 ⟨rfl, hb⟩
  have E2 := Lib.hid (E1.out.below hb)
  clear E0 E1 hb
  have b1 := E2.out.bx 2 rfl
  have c1_0 := b1.cell 0 rfl
  have c1_1 := b1.cell 1 rfl
  have c1_2 := b1.cell 2 rfl
  have c1_3 := b1.cell 3 rfl
  have c1_4 := b1.cell 4 rfl
  clear b1
  go_wp2_with fail
  refine (rMessage_v ⟨fr2, to2, kd2, nm2, body2⟩ hq.out _ _ _).mono ?_
  rintro e w2 ⟨rfl, hb⟩
  have E3 := Lib.hid (E2.out.below hb)
  clear c1_0 c1_1 c1_2 c1_3 c1_4 E2 hb
  have b2 := E3.out.bx 1 rfl
  have c2_0 := b2.cell 0 rfl
  have c2_1 := b2.cell 1 rfl
  have c2_2 := b2.cell 2 rfl
  have c2_3 := b2.cell 3 rfl
  have c2_4 := b2.cell 4 rfl
  clear b2
  go_wp2_with fail
  refine (rMessage_v ⟨fr3, to3, kd3, nm3, body3⟩ ha.out _ _ _).mono ?_
  rintro e w3 ⟨rfl, hb⟩
  have E4 := Lib.hid (E3.out.below hb)
  clear c2_0 c2_1 c2_2 c2_3 c2_4 E3 hb
  have b3 := E4.out.bx 2 rfl
  have c3_1 := b3.cell 1 rfl
  clear b3
  have b4 := E4.out.bx 1 rfl
  have c4_0 := b4.cell 0 rfl
  have f4_0 := b4.frozen 0
  clear b4
  have E5 : Hid (Env D w [(w.heap.size + 1 + 1 + 1, 27, [.int .i64 0, .bool false, .int .i64 0, .int .i64 0, .int .i64 0, .int .i64 0, .slice none 0 0, .slice none 0 0, .int .i64 0]), (w.heap.size + 1 + 1, 24, [.int .i64 to2, .int .i64 to3, .int .i64 kd3, .int .i64 nm3, .slice za body3.length zk]), (w.heap.size + 1, 24, [.int .i64 fr2, .int .i64 to2, .int .i64 kd2, .int .i64 nm2, .slice ya body2.length yk]), (w.heap.size, 27, [.int .i64 nx, .bool wt, .int .i64 fr, .int .i64 to_, .int .i64 kd, .int .i64 nm, .slice xa body.length xk, .slice da dn.length dj, .int .i64 tr])] [.bs (.slice za body3.length zk) body3, .bs (.slice ya body2.length yk) body2, .ms (.slice da dn.length dj) dn, .bs (.slice xa body.length xk) body] _) := Lib.hid ((E4.out.set 1 0 (.int .i64 to2) rfl))
  have b5 := E5.out.bx 2 rfl
  have c5_0 := b5.cell 0 rfl
  clear b5
  have b6 := E5.out.bx 1 rfl
  have c6_1 := b6.cell 1 rfl
  have f6_1 := b6.frozen 1
  clear b6
  have E6 : Hid (Env D w [(w.heap.size + 1 + 1 + 1, 27, [.int .i64 0, .bool false, .int .i64 0, .int .i64 0, .int .i64 0, .int .i64 0, .slice none 0 0, .slice none 0 0, .int .i64 0]), (w.heap.size + 1 + 1, 24, [.int .i64 to2, .int .i64 fr2, .int .i64 kd3, .int .i64 nm3, .slice za body3.length zk]), (w.heap.size + 1, 24, [.int .i64 fr2, .int .i64 to2, .int .i64 kd2, .int .i64 nm2, .slice ya body2.length yk]), (w.heap.size, 27, [.int .i64 nx, .bool wt, .int .i64 fr, .int .i64 to_, .int .i64 kd, .int .i64 nm, .slice xa body.length xk, .slice da dn.length dj, .int .i64 tr])] [.bs (.slice za body3.length zk) body3, .bs (.slice ya body2.length yk) body2, .ms (.slice da dn.length dj) dn, .bs (.slice xa body.length xk) body] _) := Lib.hid ((E5.out.set 1 1 (.int .i64 fr2) rfl))
  have b7 := E6.out.bx 2 rfl
  have c7_3 := b7.cell 3 rfl
  clear b7
  have b8 := E6.out.bx 1 rfl
  have c8_3 := b8.cell 3 rfl
  have f8_3 := b8.frozen 3
  clear b8
  have E7 : Hid (Env D w [(w3.heap.size, 24, []), (w.heap.size + 1 + 1 + 1, 27, [.int .i64 0, .bool false, .int .i64 0, .int .i64 0, .int .i64 0, .int .i64 0, .slice none 0 0, .slice none 0 0, .int .i64 0]), (w.heap.size + 1 + 1, 24, [.int .i64 to2, .int .i64 fr2, .int .i64 kd3, .int .i64 nm2, .slice za body3.length zk]), (w.heap.size + 1, 24, [.int .i64 fr2, .int .i64 to2, .int .i64 kd2, .int .i64 nm2, .slice ya body2.length yk]), (w.heap.size, 27, [.int .i64 nx, .bool wt, .int .i64 fr, .int .i64 to_, .int .i64 kd, .int .i64 nm, .slice xa body.length xk, .slice da dn.length dj, .int .i64 tr])] [.bs (.slice za body3.length zk) body3, .bs (.slice ya body2.length yk) body2, .ms (.slice da dn.length dj) dn, .bs (.slice xa body.length xk) body] _) := Lib.hid (((E6.out.set 1 3 (.int .i64 nm2) rfl).push 24 [] (w3.heap.size) (by simp)))
  have b9 := E7.out.bx 4 rfl
  have c9_7 := b9.cell 7 rfl
  clear b9
  obtain ⟨nws, hsr0, hnm0⟩ := ms_news (E7.out.fc 2 rfl)
  have hsr := Lib.hid hsr0
  have E8 := Lib.hid (E7.out.note (.mc nws dn) hnm0)
  clear E7
  clear hsr0 hnm0
  go_wp2_with (at_builtin; refine wpList_appM (N := dn.length) rfl _ _ rfl E8.out 0 rfl ⟨Nat.le_refl _, Nat.zero_le _, rfl⟩ rfl rfl (hsr.out) (Nat.zero_add _) (by omega) ?_)
  intro lg lc ls w4 HL HT E90
  have E9 := Lib.hid (E90.out.note (.mc ls ([] ++ dn)) (mc_app (n := 0) (N := dn.length) (mc_nil _ _) ((E90.out.fc 0 rfl)) (Nat.le_refl _) rfl (Nat.zero_add _) HT.out))
  clear c3_1 c4_0 f4_0 c5_0 c6_1 f6_1 c7_3 c8_3 f8_3 c9_7 E4 E5 E6 E8 E90
  clear hsr HT
  have b10 := E9.out.bx 4 rfl
  have c10_0 := b10.cell 0 rfl
  have c10_1 := b10.cell 1 rfl
  have c10_2 := b10.cell 2 rfl
  have c10_3 := b10.cell 3 rfl
  have c10_4 := b10.cell 4 rfl
  have c10_5 := b10.cell 5 rfl
  have c10_6 := b10.cell 6 rfl
  have c10_7 := b10.cell 7 rfl
  have c10_8 := b10.cell 8 rfl
  clear b10
  have b11 := E9.out.bx 3 rfl
  have c11_0 := b11.cell 0 rfl
  clear b11
  go_wp2_with fail
  refine (rfind_a (S := ⟨nx, wt, ⟨fr, to_, kd, nm, body⟩, dn, tr⟩) hS.out ⟨hk, hto.out⟩ (E9.out.fc 4 rfl)).mono ?_
  rintro e w5 ⟨rfl, hb⟩
  have E10 := Lib.hid (E9.out.below hb)
  clear c10_0 c10_1 c10_2 c10_3 c10_4 c10_5 c10_6 c10_7 c10_8 c11_0 E9 hb
  have t0 : decide ((kk : Int) ≥ 0) = true := decide_eq_true (by omega)
  obtain ⟨m0, m1, m2, m3, ea, ek, m4, -⟩ := E10.out.fc 0 rfl kk hk
  have t1 : (dn[kk].nm == nm2) = true := by have := hcd.out; simp; omega
  have t2 : decide (nm2 < dn[kk].nm) = false := decide_eq_false (by have := hcd.out; omega)
  go_wp2_with fail
  have E11 := Lib.hid E10.out.drew
  clear E10
  refine wp_region_held_drew (S := fun w' => w'.cell? ⟨w.heap.size + 1, 3, none⟩ = some (.int .i64 nm2) ∧ w'.cell? ⟨lg, kk * 5 + 3, none⟩ = some (.int .i64 dn[kk].nm)) (by kernel_rfl) (⟨((E11.out.bx 3 rfl).cell 3 rfl), (E11.out.bx 0 rfl).cell (kk * 5 + 3) m3⟩) (fun hHeld => ?_)
  generalize w5.drew = w6 at *
  refine takeW (i := 0) (some 45) (v := ?_) rfl rfl (by kernel_rfl) (by kernel_rfl) (by kernel_rfl) (fun _ _ _ h => h) (by rfl) (by assumption) ?_ ?_
  rotate_left
  · (intro wS hSw; (try dsimp only at hSw); go_simp; try with_reducible rfl)
  try simp only [Act.put, List.setIfInBounds_toArray, List.set_cons_zero, List.set_cons_succ]
  refine takeW (i := 1) (some 46) (v := ?_) rfl rfl (by kernel_rfl) (by kernel_rfl) (by kernel_rfl) (fun _ _ _ h => h) (by rfl) (by assumption) ?_ ?_
  rotate_left
  · (intro wS hSw; (try dsimp only at hSw); go_simp; try with_reducible rfl)
  try simp only [Act.put, List.setIfInBounds_toArray, List.set_cons_zero, List.set_cons_succ]
  refine takeW (i := 2) (some 47) (v := ?_) rfl rfl (by kernel_rfl) (by kernel_rfl) (by kernel_rfl) (fun _ _ _ h => h) (by rfl) (by assumption) ?_ ?_
  rotate_left
  · (intro wS hSw; (try dsimp only at hSw); go_simp; try with_reducible rfl)
  try simp only [Act.put, List.setIfInBounds_toArray, List.set_cons_zero, List.set_cons_succ]
  refine takeW (i := 3) (some 48) (v := ?_) rfl rfl (by kernel_rfl) (by kernel_rfl) (by kernel_rfl) (fun _ _ _ h => h) (by rfl) (by assumption) ?_ ?_
  rotate_left
  · (intro wS hSw; (try dsimp only at hSw); go_simp; try with_reducible rfl)
  try simp only [Act.put, List.setIfInBounds_toArray, List.set_cons_zero, List.set_cons_succ]
  refine takeW (i := 4) (some 49) (v := ?_) rfl rfl (by kernel_rfl) (by kernel_rfl) (by kernel_rfl) (fun _ _ _ h => h) (by rfl) (by assumption) ?_ ?_
  rotate_left
  · (intro wS hSw; (try dsimp only at hSw); go_simp; try with_reducible rfl)
  try simp only [Act.put, List.setIfInBounds_toArray, List.set_cons_zero, List.set_cons_succ]
  refine takeW (i := 5) (some 50) (v := ?_) rfl rfl (by kernel_rfl) (by kernel_rfl) (by kernel_rfl) (fun _ _ _ h => h) (by rfl) (by assumption) ?_ ?_
  rotate_left
  · (intro wS hSw; (try dsimp only at hSw); go_simp; try with_reducible rfl)
  try simp only [Act.put, List.setIfInBounds_toArray, List.set_cons_zero, List.set_cons_succ]
  refine takeW (i := 6) (some 51) (v := ?_) rfl rfl (by kernel_rfl) (by kernel_rfl) (by kernel_rfl) (fun _ _ _ h => h) (by rfl) (by assumption) ?_ ?_
  rotate_left
  · (intro wS hSw; (try dsimp only at hSw); go_simp; try with_reducible rfl)
  try simp only [Act.put, List.setIfInBounds_toArray, List.set_cons_zero, List.set_cons_succ]
  refine takeW (i := 7) (some 52) (v := ?_) rfl rfl (by kernel_rfl) (by kernel_rfl) (by kernel_rfl) (fun _ _ _ h => h) (by rfl) (by assumption) ?_ ?_
  rotate_left
  · (intro wS hSw; (try dsimp only at hSw); go_simp; try with_reducible rfl)
  try simp only [Act.put, List.setIfInBounds_toArray, List.set_cons_zero, List.set_cons_succ]
  refine wpAnyH_done (by kernel_rfl) ?_ _
  have b12 := E11.out.bx 1 rfl
  have c12_0 := b12.cell 0 rfl
  have c12_1 := b12.cell 1 rfl
  have c12_2 := b12.cell 2 rfl
  have c12_3 := b12.cell 3 rfl
  have c12_4 := b12.cell 4 rfl
  have c12_5 := b12.cell 5 rfl
  have c12_6 := b12.cell 6 rfl
  have c12_7 := b12.cell 7 rfl
  have c12_8 := b12.cell 8 rfl
  have f12_0 := b12.frozen 0
  have f12_1 := b12.frozen 1
  have f12_2 := b12.frozen 2
  have f12_3 := b12.frozen 3
  have f12_4 := b12.frozen 4
  have f12_5 := b12.frozen 5
  have f12_6 := b12.frozen 6
  have f12_7 := b12.frozen 7
  have f12_8 := b12.frozen 8
  clear b12
  go_wp2
  have E12 : Hid (Env D w [(lg, 24, ls), (w.heap.size + 1 + 1 + 1, 27, [.int .i64 0, .bool false, .int .i64 0, .int .i64 0, .int .i64 0, .int .i64 0, .slice none 0 0, .slice none 0 0, .int .i64 0]), (w.heap.size + 1 + 1, 24, [.int .i64 to2, .int .i64 fr2, .int .i64 kd3, .int .i64 nm2, .slice za body3.length zk]), (w.heap.size + 1, 24, [.int .i64 fr2, .int .i64 to2, .int .i64 kd2, .int .i64 nm2, .slice ya body2.length yk]), (w.heap.size, 27, [.int .i64 nx, .bool wt, .int .i64 fr, .int .i64 to_, .int .i64 kd, .int .i64 nm, .slice xa body.length xk, .slice da dn.length dj, .int .i64 tr])] [.mc ls dn, .mc nws dn, .bs (.slice za body3.length zk) body3, .bs (.slice ya body2.length yk) body2, .ms (.slice da dn.length dj) dn, .bs (.slice xa body.length xk) body] _) := Lib.hid ((((((((((E11.out.set 1 0 (.int .i64 0) rfl).set 1 1 (.bool false) rfl).set 1 2 (.int .i64 0) rfl).set 1 3 (.int .i64 0) rfl).set 1 4 (.int .i64 0) rfl).set 1 5 (.int .i64 0) rfl).set 1 6 (.slice none 0 0) rfl).set 1 7 (.slice none 0 0) rfl).set 1 8 (.int .i64 0) rfl))
  have hfin := E12.out
  have q13 := (hfin.bx 1 rfl).cell 0 rfl
  have q14 := (hfin.bx 1 rfl).cell 1 rfl
  have q15 := (hfin.bx 1 rfl).cell 2 rfl
  have q16 := (hfin.bx 1 rfl).cell 3 rfl
  have q17 := (hfin.bx 1 rfl).cell 4 rfl
  have q18 := (hfin.bx 1 rfl).cell 5 rfl
  have q19 := (hfin.bx 1 rfl).cell 6 rfl
  have q20 := (hfin.bx 1 rfl).cell 7 rfl
  have q21 := (hfin.bx 1 rfl).cell 8 rfl
  exact bodyPost_ret (v := .tuple #[.agg #[.int .i64 0, .bool false, .int .i64 0, .int .i64 0, .int .i64 0, .int .i64 0, .slice none 0 0, .slice none 0 0, .int .i64 0], .int .i64 8]) (by simp [results, Try.results18, go_sem, q13, q14, q15, q16, q17, q18, q19, q20, q21]) rfl ⟨⟨none, 0, none, 0, rfl, Lib.hid (Bs.nil _ _), Lib.hid (Ms.nil _ _)⟩, hfin.bel⟩
set_option maxRecDepth 100000 in
set_option maxHeartbeats 2000000 in
theorem rDone_14 {D : Nat → Prop} (nx fr to_ kd nm tr : Int) (wt : Bool) (body : List Nat) (dn : List Msg) {xa : Option Addr} {xk : Nat} {da : Option Addr} {dj : Nat} (fr2 to2 kd2 nm2 : Int) (body2 : List Nat) {ya : Option Addr} {yk : Nat} (fr3 to3 kd3 nm3 : Int) (body3 : List Nat) {za : Option Addr} {zk : Nat} (kk : Nat) {w : World} (hx : Fct.at w D (.bs (.slice xa body.length xk) body)) (hy : Fct.at w D (.ms (.slice da dn.length dj) dn)) (hz : Fct.at w D (.bs (.slice ya body2.length yk) body2)) (hv : Fct.at w D (.bs (.slice za body3.length zk) body3)) (hS0 : SesOk ⟨nx, wt, ⟨fr, to_, kd, nm, body⟩, dn, tr⟩) (hq0 : msgOk ⟨fr2, to2, kd2, nm2, body2⟩ = true) (ha0 : msgOk ⟨fr3, to3, kd3, nm3, body3⟩ = true) (hf0 : ∃ h : kk < dn.length, dn[kk].to_ = fr2 ∧ nm2 < dn[kk].nm) :
    Calls Try.prog 18 #[.agg #[.int .i64 nx, .bool wt, .int .i64 fr, .int .i64 to_, .int .i64 kd, .int .i64 nm, .slice xa body.length xk, .slice da dn.length dj, .int .i64 tr], .agg #[.int .i64 fr2, .int .i64 to2, .int .i64 kd2, .int .i64 nm2, .slice ya body2.length yk], .agg #[.int .i64 fr3, .int .i64 to3, .int .i64 kd3, .int .i64 nm3, .slice za body3.length zk]] w fun e w' => RetSE (fun b => D b ∨ w.heap.size ≤ b) S0 14 e w' ∧ Below w.heap.size w w' := by
  have E0 := Lib.hid (((((Env.start D w).arg (.bs (.slice xa body.length xk) body) hx).arg (.ms (.slice da dn.length dj) dn) hy).arg (.bs (.slice ya body2.length yk) body2) hz).arg (.bs (.slice za body3.length zk) body3) hv)
  clear hx hy hz hv
  go_enter Try.func18, Try.ntmps18
  have hS := Lib.hid hS0
  clear hS0
  have hq := Lib.hid hq0
  clear hq0
  have ha := Lib.hid ha0
  clear ha0
  have hf := Lib.hid hf0
  clear hf0
  obtain ⟨hk, hto9, hcd9⟩ := hf.out
  have hto := Lib.hid hto9
  have hcd := Lib.hid hcd9
  clear hto9 hcd9
  have hA := Lib.hid (asc_of hS.out.2.2.2)
  have a3 : dn.length ≤ 1000 := hS.out.1.2.2
  go_wp2_with fail
  have E1 := Lib.hid (((((E0.out.push 27 [.int .i64 nx, .bool wt, .int .i64 fr, .int .i64 to_, .int .i64 kd, .int .i64 nm, .slice xa body.length xk, .slice da dn.length dj, .int .i64 tr] (w.heap.size) (by simp)).push 24 [.int .i64 fr2, .int .i64 to2, .int .i64 kd2, .int .i64 nm2, .slice ya body2.length yk] (w.heap.size + 1) (by simp)).push 24 [.int .i64 fr3, .int .i64 to3, .int .i64 kd3, .int .i64 nm3, .slice za body3.length zk] (w.heap.size + 1 + 1) (by simp)).push 27 [.int .i64 0, .bool false, .int .i64 0, .int .i64 0, .int .i64 0, .int .i64 0, .slice none 0 0, .slice none 0 0, .int .i64 0] (w.heap.size + 1 + 1 + 1) (by simp)))
  refine (rValid_t (S := ⟨nx, wt, ⟨fr, to_, kd, nm, body⟩, dn, tr⟩) hS.out (E1.out.fc 3 rfl) (E1.out.fc 2 rfl)).mono ?_
  rintro e w1 ⟨rfl, hb⟩
  have E2 := Lib.hid (E1.out.below hb)
  clear E0 E1 hb
  have b1 := E2.out.bx 2 rfl
  have c1_0 := b1.cell 0 rfl
  have c1_1 := b1.cell 1 rfl
  have c1_2 := b1.cell 2 rfl
  have c1_3 := b1.cell 3 rfl
  have c1_4 := b1.cell 4 rfl
  clear b1
  go_wp2_with fail
  refine (rMessage_v ⟨fr2, to2, kd2, nm2, body2⟩ hq.out _ _ _).mono ?_
  rintro e w2 ⟨rfl, hb⟩
  have E3 := Lib.hid (E2.out.below hb)
  clear c1_0 c1_1 c1_2 c1_3 c1_4 E2 hb
  have b2 := E3.out.bx 1 rfl
  have c2_0 := b2.cell 0 rfl
  have c2_1 := b2.cell 1 rfl
  have c2_2 := b2.cell 2 rfl
  have c2_3 := b2.cell 3 rfl
  have c2_4 := b2.cell 4 rfl
  clear b2
  go_wp2_with fail
  refine (rMessage_v ⟨fr3, to3, kd3, nm3, body3⟩ ha.out _ _ _).mono ?_
  rintro e w3 ⟨rfl, hb⟩
  have E4 := Lib.hid (E3.out.below hb)
  clear c2_0 c2_1 c2_2 c2_3 c2_4 E3 hb
  have b3 := E4.out.bx 2 rfl
  have c3_1 := b3.cell 1 rfl
  clear b3
  have b4 := E4.out.bx 1 rfl
  have c4_0 := b4.cell 0 rfl
  have f4_0 := b4.frozen 0
  clear b4
  have E5 : Hid (Env D w [(w.heap.size + 1 + 1 + 1, 27, [.int .i64 0, .bool false, .int .i64 0, .int .i64 0, .int .i64 0, .int .i64 0, .slice none 0 0, .slice none 0 0, .int .i64 0]), (w.heap.size + 1 + 1, 24, [.int .i64 to2, .int .i64 to3, .int .i64 kd3, .int .i64 nm3, .slice za body3.length zk]), (w.heap.size + 1, 24, [.int .i64 fr2, .int .i64 to2, .int .i64 kd2, .int .i64 nm2, .slice ya body2.length yk]), (w.heap.size, 27, [.int .i64 nx, .bool wt, .int .i64 fr, .int .i64 to_, .int .i64 kd, .int .i64 nm, .slice xa body.length xk, .slice da dn.length dj, .int .i64 tr])] [.bs (.slice za body3.length zk) body3, .bs (.slice ya body2.length yk) body2, .ms (.slice da dn.length dj) dn, .bs (.slice xa body.length xk) body] _) := Lib.hid ((E4.out.set 1 0 (.int .i64 to2) rfl))
  have b5 := E5.out.bx 2 rfl
  have c5_0 := b5.cell 0 rfl
  clear b5
  have b6 := E5.out.bx 1 rfl
  have c6_1 := b6.cell 1 rfl
  have f6_1 := b6.frozen 1
  clear b6
  have E6 : Hid (Env D w [(w.heap.size + 1 + 1 + 1, 27, [.int .i64 0, .bool false, .int .i64 0, .int .i64 0, .int .i64 0, .int .i64 0, .slice none 0 0, .slice none 0 0, .int .i64 0]), (w.heap.size + 1 + 1, 24, [.int .i64 to2, .int .i64 fr2, .int .i64 kd3, .int .i64 nm3, .slice za body3.length zk]), (w.heap.size + 1, 24, [.int .i64 fr2, .int .i64 to2, .int .i64 kd2, .int .i64 nm2, .slice ya body2.length yk]), (w.heap.size, 27, [.int .i64 nx, .bool wt, .int .i64 fr, .int .i64 to_, .int .i64 kd, .int .i64 nm, .slice xa body.length xk, .slice da dn.length dj, .int .i64 tr])] [.bs (.slice za body3.length zk) body3, .bs (.slice ya body2.length yk) body2, .ms (.slice da dn.length dj) dn, .bs (.slice xa body.length xk) body] _) := Lib.hid ((E5.out.set 1 1 (.int .i64 fr2) rfl))
  have b7 := E6.out.bx 2 rfl
  have c7_3 := b7.cell 3 rfl
  clear b7
  have b8 := E6.out.bx 1 rfl
  have c8_3 := b8.cell 3 rfl
  have f8_3 := b8.frozen 3
  clear b8
  have E7 : Hid (Env D w [(w3.heap.size, 24, []), (w.heap.size + 1 + 1 + 1, 27, [.int .i64 0, .bool false, .int .i64 0, .int .i64 0, .int .i64 0, .int .i64 0, .slice none 0 0, .slice none 0 0, .int .i64 0]), (w.heap.size + 1 + 1, 24, [.int .i64 to2, .int .i64 fr2, .int .i64 kd3, .int .i64 nm2, .slice za body3.length zk]), (w.heap.size + 1, 24, [.int .i64 fr2, .int .i64 to2, .int .i64 kd2, .int .i64 nm2, .slice ya body2.length yk]), (w.heap.size, 27, [.int .i64 nx, .bool wt, .int .i64 fr, .int .i64 to_, .int .i64 kd, .int .i64 nm, .slice xa body.length xk, .slice da dn.length dj, .int .i64 tr])] [.bs (.slice za body3.length zk) body3, .bs (.slice ya body2.length yk) body2, .ms (.slice da dn.length dj) dn, .bs (.slice xa body.length xk) body] _) := Lib.hid (((E6.out.set 1 3 (.int .i64 nm2) rfl).push 24 [] (w3.heap.size) (by simp)))
  have b9 := E7.out.bx 4 rfl
  have c9_7 := b9.cell 7 rfl
  clear b9
  obtain ⟨nws, hsr0, hnm0⟩ := ms_news (E7.out.fc 2 rfl)
  have hsr := Lib.hid hsr0
  have E8 := Lib.hid (E7.out.note (.mc nws dn) hnm0)
  clear E7
  clear hsr0 hnm0
  go_wp2_with (at_builtin; refine wpList_appM (N := dn.length) rfl _ _ rfl E8.out 0 rfl ⟨Nat.le_refl _, Nat.zero_le _, rfl⟩ rfl rfl (hsr.out) (Nat.zero_add _) (by omega) ?_)
  intro lg lc ls w4 HL HT E90
  have E9 := Lib.hid (E90.out.note (.mc ls ([] ++ dn)) (mc_app (n := 0) (N := dn.length) (mc_nil _ _) ((E90.out.fc 0 rfl)) (Nat.le_refl _) rfl (Nat.zero_add _) HT.out))
  clear c3_1 c4_0 f4_0 c5_0 c6_1 f6_1 c7_3 c8_3 f8_3 c9_7 E4 E5 E6 E8 E90
  clear hsr HT
  have b10 := E9.out.bx 4 rfl
  have c10_0 := b10.cell 0 rfl
  have c10_1 := b10.cell 1 rfl
  have c10_2 := b10.cell 2 rfl
  have c10_3 := b10.cell 3 rfl
  have c10_4 := b10.cell 4 rfl
  have c10_5 := b10.cell 5 rfl
  have c10_6 := b10.cell 6 rfl
  have c10_7 := b10.cell 7 rfl
  have c10_8 := b10.cell 8 rfl
  clear b10
  have b11 := E9.out.bx 3 rfl
  have c11_0 := b11.cell 0 rfl
  clear b11
  go_wp2_with fail
  refine (rfind_a (S := ⟨nx, wt, ⟨fr, to_, kd, nm, body⟩, dn, tr⟩) hS.out ⟨hk, hto.out⟩ (E9.out.fc 4 rfl)).mono ?_
  rintro e w5 ⟨rfl, hb⟩
  have E10 := Lib.hid (E9.out.below hb)
  clear c10_0 c10_1 c10_2 c10_3 c10_4 c10_5 c10_6 c10_7 c10_8 c11_0 E9 hb
  have t0 : decide ((kk : Int) ≥ 0) = true := decide_eq_true (by omega)
  obtain ⟨m0, m1, m2, m3, ea, ek, m4, -⟩ := E10.out.fc 0 rfl kk hk
  have t1 : (dn[kk].nm == nm2) = false := by have := hcd.out; simp; omega
  have t2 : decide (nm2 < dn[kk].nm) = true := decide_eq_true (by have := hcd.out; omega)
  go_wp2_with fail
  have E11 := Lib.hid E10.out.drew
  clear E10
  refine wp_region_held_drew (S := fun w' => w'.cell? ⟨w.heap.size + 1, 3, none⟩ = some (.int .i64 nm2) ∧ w'.cell? ⟨lg, kk * 5 + 3, none⟩ = some (.int .i64 dn[kk].nm)) (by kernel_rfl) (⟨((E11.out.bx 3 rfl).cell 3 rfl), (E11.out.bx 0 rfl).cell (kk * 5 + 3) m3⟩) (fun hHeld => ?_)
  generalize w5.drew = w6 at *
  refine takeW (i := 0) (some 45) (v := ?_) rfl rfl (by kernel_rfl) (by kernel_rfl) (by kernel_rfl) (fun _ _ _ h => h) (by rfl) (by assumption) ?_ ?_
  rotate_left
  · (intro wS hSw; (try dsimp only at hSw); go_simp; try with_reducible rfl)
  try simp only [Act.put, List.setIfInBounds_toArray, List.set_cons_zero, List.set_cons_succ]
  refine takeW (i := 1) (some 46) (v := ?_) rfl rfl (by kernel_rfl) (by kernel_rfl) (by kernel_rfl) (fun _ _ _ h => h) (by rfl) (by assumption) ?_ ?_
  rotate_left
  · (intro wS hSw; (try dsimp only at hSw); go_simp; try with_reducible rfl)
  try simp only [Act.put, List.setIfInBounds_toArray, List.set_cons_zero, List.set_cons_succ]
  refine takeW (i := 2) (some 47) (v := ?_) rfl rfl (by kernel_rfl) (by kernel_rfl) (by kernel_rfl) (fun _ _ _ h => h) (by rfl) (by assumption) ?_ ?_
  rotate_left
  · (intro wS hSw; (try dsimp only at hSw); go_simp; try with_reducible rfl)
  try simp only [Act.put, List.setIfInBounds_toArray, List.set_cons_zero, List.set_cons_succ]
  refine takeW (i := 3) (some 48) (v := ?_) rfl rfl (by kernel_rfl) (by kernel_rfl) (by kernel_rfl) (fun _ _ _ h => h) (by rfl) (by assumption) ?_ ?_
  rotate_left
  · (intro wS hSw; (try dsimp only at hSw); go_simp; try with_reducible rfl)
  try simp only [Act.put, List.setIfInBounds_toArray, List.set_cons_zero, List.set_cons_succ]
  refine takeW (i := 4) (some 49) (v := ?_) rfl rfl (by kernel_rfl) (by kernel_rfl) (by kernel_rfl) (fun _ _ _ h => h) (by rfl) (by assumption) ?_ ?_
  rotate_left
  · (intro wS hSw; (try dsimp only at hSw); go_simp; try with_reducible rfl)
  try simp only [Act.put, List.setIfInBounds_toArray, List.set_cons_zero, List.set_cons_succ]
  refine takeW (i := 5) (some 50) (v := ?_) rfl rfl (by kernel_rfl) (by kernel_rfl) (by kernel_rfl) (fun _ _ _ h => h) (by rfl) (by assumption) ?_ ?_
  rotate_left
  · (intro wS hSw; (try dsimp only at hSw); go_simp; try with_reducible rfl)
  try simp only [Act.put, List.setIfInBounds_toArray, List.set_cons_zero, List.set_cons_succ]
  refine takeW (i := 6) (some 51) (v := ?_) rfl rfl (by kernel_rfl) (by kernel_rfl) (by kernel_rfl) (fun _ _ _ h => h) (by rfl) (by assumption) ?_ ?_
  rotate_left
  · (intro wS hSw; (try dsimp only at hSw); go_simp; try with_reducible rfl)
  try simp only [Act.put, List.setIfInBounds_toArray, List.set_cons_zero, List.set_cons_succ]
  refine takeW (i := 7) (some 52) (v := ?_) rfl rfl (by kernel_rfl) (by kernel_rfl) (by kernel_rfl) (fun _ _ _ h => h) (by rfl) (by assumption) ?_ ?_
  rotate_left
  · (intro wS hSw; (try dsimp only at hSw); go_simp; try with_reducible rfl)
  try simp only [Act.put, List.setIfInBounds_toArray, List.set_cons_zero, List.set_cons_succ]
  refine wpAnyH_done (by kernel_rfl) ?_ _
  go_wp2_with fail
  have E12 := Lib.hid E11.out.drew
  clear E11
  refine wp_region_held_drew (S := fun w' => w'.cell? ⟨w.heap.size + 1, 3, none⟩ = some (.int .i64 nm2) ∧ w'.cell? ⟨lg, kk * 5 + 3, none⟩ = some (.int .i64 dn[kk].nm)) (by kernel_rfl) (⟨((E12.out.bx 3 rfl).cell 3 rfl), (E12.out.bx 0 rfl).cell (kk * 5 + 3) m3⟩) (fun hHeld => ?_)
  generalize w6.drew = w7 at *
  refine takeW (i := 0) (some 54) (v := ?_) rfl rfl (by kernel_rfl) (by kernel_rfl) (by kernel_rfl) (fun _ _ _ h => h) (by rfl) (by assumption) ?_ ?_
  rotate_left
  · (intro wS hSw; (try dsimp only at hSw); go_simp; try with_reducible rfl)
  try simp only [Act.put, List.setIfInBounds_toArray, List.set_cons_zero, List.set_cons_succ]
  refine takeW (i := 1) (some 55) (v := ?_) rfl rfl (by kernel_rfl) (by kernel_rfl) (by kernel_rfl) (fun _ _ _ h => h) (by rfl) (by assumption) ?_ ?_
  rotate_left
  · (intro wS hSw; (try dsimp only at hSw); go_simp; try with_reducible rfl)
  try simp only [Act.put, List.setIfInBounds_toArray, List.set_cons_zero, List.set_cons_succ]
  refine takeW (i := 2) (some 56) (v := ?_) rfl rfl (by kernel_rfl) (by kernel_rfl) (by kernel_rfl) (fun _ _ _ h => h) (by rfl) (by assumption) ?_ ?_
  rotate_left
  · (intro wS hSw; (try dsimp only at hSw); go_simp; try with_reducible rfl)
  try simp only [Act.put, List.setIfInBounds_toArray, List.set_cons_zero, List.set_cons_succ]
  refine takeW (i := 3) (some 57) (v := ?_) rfl rfl (by kernel_rfl) (by kernel_rfl) (by kernel_rfl) (fun _ _ _ h => h) (by rfl) (by assumption) ?_ ?_
  rotate_left
  · (intro wS hSw; (try dsimp only at hSw); go_simp; try with_reducible rfl)
  try simp only [Act.put, List.setIfInBounds_toArray, List.set_cons_zero, List.set_cons_succ]
  refine takeW (i := 4) (some 58) (v := ?_) rfl rfl (by kernel_rfl) (by kernel_rfl) (by kernel_rfl) (fun _ _ _ h => h) (by rfl) (by assumption) ?_ ?_
  rotate_left
  · (intro wS hSw; (try dsimp only at hSw); go_simp; try with_reducible rfl)
  try simp only [Act.put, List.setIfInBounds_toArray, List.set_cons_zero, List.set_cons_succ]
  refine takeW (i := 5) (some 59) (v := ?_) rfl rfl (by kernel_rfl) (by kernel_rfl) (by kernel_rfl) (fun _ _ _ h => h) (by rfl) (by assumption) ?_ ?_
  rotate_left
  · (intro wS hSw; (try dsimp only at hSw); go_simp; try with_reducible rfl)
  try simp only [Act.put, List.setIfInBounds_toArray, List.set_cons_zero, List.set_cons_succ]
  refine takeW (i := 6) (some 60) (v := ?_) rfl rfl (by kernel_rfl) (by kernel_rfl) (by kernel_rfl) (fun _ _ _ h => h) (by rfl) (by assumption) ?_ ?_
  rotate_left
  · (intro wS hSw; (try dsimp only at hSw); go_simp; try with_reducible rfl)
  try simp only [Act.put, List.setIfInBounds_toArray, List.set_cons_zero, List.set_cons_succ]
  refine takeW (i := 7) (some 61) (v := ?_) rfl rfl (by kernel_rfl) (by kernel_rfl) (by kernel_rfl) (fun _ _ _ h => h) (by rfl) (by assumption) ?_ ?_
  rotate_left
  · (intro wS hSw; (try dsimp only at hSw); go_simp; try with_reducible rfl)
  try simp only [Act.put, List.setIfInBounds_toArray, List.set_cons_zero, List.set_cons_succ]
  refine wpAnyH_done (by kernel_rfl) ?_ _
  have b12 := E12.out.bx 1 rfl
  have c12_0 := b12.cell 0 rfl
  have c12_1 := b12.cell 1 rfl
  have c12_2 := b12.cell 2 rfl
  have c12_3 := b12.cell 3 rfl
  have c12_4 := b12.cell 4 rfl
  have c12_5 := b12.cell 5 rfl
  have c12_6 := b12.cell 6 rfl
  have c12_7 := b12.cell 7 rfl
  have c12_8 := b12.cell 8 rfl
  have f12_0 := b12.frozen 0
  have f12_1 := b12.frozen 1
  have f12_2 := b12.frozen 2
  have f12_3 := b12.frozen 3
  have f12_4 := b12.frozen 4
  have f12_5 := b12.frozen 5
  have f12_6 := b12.frozen 6
  have f12_7 := b12.frozen 7
  have f12_8 := b12.frozen 8
  clear b12
  go_wp2
  have E13 : Hid (Env D w [(lg, 24, ls), (w.heap.size + 1 + 1 + 1, 27, [.int .i64 0, .bool false, .int .i64 0, .int .i64 0, .int .i64 0, .int .i64 0, .slice none 0 0, .slice none 0 0, .int .i64 0]), (w.heap.size + 1 + 1, 24, [.int .i64 to2, .int .i64 fr2, .int .i64 kd3, .int .i64 nm2, .slice za body3.length zk]), (w.heap.size + 1, 24, [.int .i64 fr2, .int .i64 to2, .int .i64 kd2, .int .i64 nm2, .slice ya body2.length yk]), (w.heap.size, 27, [.int .i64 nx, .bool wt, .int .i64 fr, .int .i64 to_, .int .i64 kd, .int .i64 nm, .slice xa body.length xk, .slice da dn.length dj, .int .i64 tr])] [.mc ls dn, .mc nws dn, .bs (.slice za body3.length zk) body3, .bs (.slice ya body2.length yk) body2, .ms (.slice da dn.length dj) dn, .bs (.slice xa body.length xk) body] _) := Lib.hid ((((((((((E12.out.set 1 0 (.int .i64 0) rfl).set 1 1 (.bool false) rfl).set 1 2 (.int .i64 0) rfl).set 1 3 (.int .i64 0) rfl).set 1 4 (.int .i64 0) rfl).set 1 5 (.int .i64 0) rfl).set 1 6 (.slice none 0 0) rfl).set 1 7 (.slice none 0 0) rfl).set 1 8 (.int .i64 0) rfl))
  have hfin := E13.out
  have q13 := (hfin.bx 1 rfl).cell 0 rfl
  have q14 := (hfin.bx 1 rfl).cell 1 rfl
  have q15 := (hfin.bx 1 rfl).cell 2 rfl
  have q16 := (hfin.bx 1 rfl).cell 3 rfl
  have q17 := (hfin.bx 1 rfl).cell 4 rfl
  have q18 := (hfin.bx 1 rfl).cell 5 rfl
  have q19 := (hfin.bx 1 rfl).cell 6 rfl
  have q20 := (hfin.bx 1 rfl).cell 7 rfl
  have q21 := (hfin.bx 1 rfl).cell 8 rfl
  exact bodyPost_ret (v := .tuple #[.agg #[.int .i64 0, .bool false, .int .i64 0, .int .i64 0, .int .i64 0, .int .i64 0, .slice none 0 0, .slice none 0 0, .int .i64 0], .int .i64 14]) (by simp [results, Try.results18, go_sem, q13, q14, q15, q16, q17, q18, q19, q20, q21]) rfl ⟨⟨none, 0, none, 0, rfl, Lib.hid (Bs.nil _ _), Lib.hid (Ms.nil _ _)⟩, hfin.bel⟩
set_option maxRecDepth 100000 in
set_option maxHeartbeats 2000000 in
theorem rDone_rep {D : Nat → Prop} (nx fr to_ kd nm tr : Int) (wt : Bool) (body : List Nat) (dn : List Msg) {xa : Option Addr} {xk : Nat} {da : Option Addr} {dj : Nat} (fr2 to2 kd2 nm2 : Int) (body2 : List Nat) {ya : Option Addr} {yk : Nat} (fr3 to3 kd3 nm3 : Int) (body3 : List Nat) {za : Option Addr} {zk : Nat} (kk : Nat) {w : World} (hx : Fct.at w D (.bs (.slice xa body.length xk) body)) (hy : Fct.at w D (.ms (.slice da dn.length dj) dn)) (hz : Fct.at w D (.bs (.slice ya body2.length yk) body2)) (hv : Fct.at w D (.bs (.slice za body3.length zk) body3)) (hS0 : SesOk ⟨nx, wt, ⟨fr, to_, kd, nm, body⟩, dn, tr⟩) (hq0 : msgOk ⟨fr2, to2, kd2, nm2, body2⟩ = true) (ha0 : msgOk ⟨fr3, to3, kd3, nm3, body3⟩ = true) (hf0 : ∃ h : kk < dn.length, dn[kk].to_ = fr2 ∧ dn[kk].nm < nm2) :
    Calls Try.prog 18 #[.agg #[.int .i64 nx, .bool wt, .int .i64 fr, .int .i64 to_, .int .i64 kd, .int .i64 nm, .slice xa body.length xk, .slice da dn.length dj, .int .i64 tr], .agg #[.int .i64 fr2, .int .i64 to2, .int .i64 kd2, .int .i64 nm2, .slice ya body2.length yk], .agg #[.int .i64 fr3, .int .i64 to3, .int .i64 kd3, .int .i64 nm3, .slice za body3.length zk]] w fun e w' => RetSE (fun b => D b ∨ w.heap.size ≤ b) ⟨nx, wt, ⟨fr, to_, kd, nm, body⟩, dn.set kk ⟨to2, fr2, kd3, nm2, body3⟩, tr⟩ 0 e w' ∧ Below w.heap.size w w' := by
  have E0 := Lib.hid (((((Env.start D w).arg (.bs (.slice xa body.length xk) body) hx).arg (.ms (.slice da dn.length dj) dn) hy).arg (.bs (.slice ya body2.length yk) body2) hz).arg (.bs (.slice za body3.length zk) body3) hv)
  clear hx hy hz hv
  go_enter Try.func18, Try.ntmps18
  have hS := Lib.hid hS0
  clear hS0
  have hq := Lib.hid hq0
  clear hq0
  have ha := Lib.hid ha0
  clear ha0
  have hf := Lib.hid hf0
  clear hf0
  obtain ⟨hk, hto9, hcd9⟩ := hf.out
  have hto := Lib.hid hto9
  have hcd := Lib.hid hcd9
  clear hto9 hcd9
  have hA := Lib.hid (asc_of hS.out.2.2.2)
  have a3 : dn.length ≤ 1000 := hS.out.1.2.2
  go_wp2_with fail
  have E1 := Lib.hid (((((E0.out.push 27 [.int .i64 nx, .bool wt, .int .i64 fr, .int .i64 to_, .int .i64 kd, .int .i64 nm, .slice xa body.length xk, .slice da dn.length dj, .int .i64 tr] (w.heap.size) (by simp)).push 24 [.int .i64 fr2, .int .i64 to2, .int .i64 kd2, .int .i64 nm2, .slice ya body2.length yk] (w.heap.size + 1) (by simp)).push 24 [.int .i64 fr3, .int .i64 to3, .int .i64 kd3, .int .i64 nm3, .slice za body3.length zk] (w.heap.size + 1 + 1) (by simp)).push 27 [.int .i64 0, .bool false, .int .i64 0, .int .i64 0, .int .i64 0, .int .i64 0, .slice none 0 0, .slice none 0 0, .int .i64 0] (w.heap.size + 1 + 1 + 1) (by simp)))
  refine (rValid_t (S := ⟨nx, wt, ⟨fr, to_, kd, nm, body⟩, dn, tr⟩) hS.out (E1.out.fc 3 rfl) (E1.out.fc 2 rfl)).mono ?_
  rintro e w1 ⟨rfl, hb⟩
  have E2 := Lib.hid (E1.out.below hb)
  clear E0 E1 hb
  have b1 := E2.out.bx 2 rfl
  have c1_0 := b1.cell 0 rfl
  have c1_1 := b1.cell 1 rfl
  have c1_2 := b1.cell 2 rfl
  have c1_3 := b1.cell 3 rfl
  have c1_4 := b1.cell 4 rfl
  clear b1
  go_wp2_with fail
  refine (rMessage_v ⟨fr2, to2, kd2, nm2, body2⟩ hq.out _ _ _).mono ?_
  rintro e w2 ⟨rfl, hb⟩
  have E3 := Lib.hid (E2.out.below hb)
  clear c1_0 c1_1 c1_2 c1_3 c1_4 E2 hb
  have b2 := E3.out.bx 1 rfl
  have c2_0 := b2.cell 0 rfl
  have c2_1 := b2.cell 1 rfl
  have c2_2 := b2.cell 2 rfl
  have c2_3 := b2.cell 3 rfl
  have c2_4 := b2.cell 4 rfl
  clear b2
  go_wp2_with fail
  refine (rMessage_v ⟨fr3, to3, kd3, nm3, body3⟩ ha.out _ _ _).mono ?_
  rintro e w3 ⟨rfl, hb⟩
  have E4 := Lib.hid (E3.out.below hb)
  clear c2_0 c2_1 c2_2 c2_3 c2_4 E3 hb
  have b3 := E4.out.bx 2 rfl
  have c3_1 := b3.cell 1 rfl
  clear b3
  have b4 := E4.out.bx 1 rfl
  have c4_0 := b4.cell 0 rfl
  have f4_0 := b4.frozen 0
  clear b4
  have E5 : Hid (Env D w [(w.heap.size + 1 + 1 + 1, 27, [.int .i64 0, .bool false, .int .i64 0, .int .i64 0, .int .i64 0, .int .i64 0, .slice none 0 0, .slice none 0 0, .int .i64 0]), (w.heap.size + 1 + 1, 24, [.int .i64 to2, .int .i64 to3, .int .i64 kd3, .int .i64 nm3, .slice za body3.length zk]), (w.heap.size + 1, 24, [.int .i64 fr2, .int .i64 to2, .int .i64 kd2, .int .i64 nm2, .slice ya body2.length yk]), (w.heap.size, 27, [.int .i64 nx, .bool wt, .int .i64 fr, .int .i64 to_, .int .i64 kd, .int .i64 nm, .slice xa body.length xk, .slice da dn.length dj, .int .i64 tr])] [.bs (.slice za body3.length zk) body3, .bs (.slice ya body2.length yk) body2, .ms (.slice da dn.length dj) dn, .bs (.slice xa body.length xk) body] _) := Lib.hid ((E4.out.set 1 0 (.int .i64 to2) rfl))
  have b5 := E5.out.bx 2 rfl
  have c5_0 := b5.cell 0 rfl
  clear b5
  have b6 := E5.out.bx 1 rfl
  have c6_1 := b6.cell 1 rfl
  have f6_1 := b6.frozen 1
  clear b6
  have E6 : Hid (Env D w [(w.heap.size + 1 + 1 + 1, 27, [.int .i64 0, .bool false, .int .i64 0, .int .i64 0, .int .i64 0, .int .i64 0, .slice none 0 0, .slice none 0 0, .int .i64 0]), (w.heap.size + 1 + 1, 24, [.int .i64 to2, .int .i64 fr2, .int .i64 kd3, .int .i64 nm3, .slice za body3.length zk]), (w.heap.size + 1, 24, [.int .i64 fr2, .int .i64 to2, .int .i64 kd2, .int .i64 nm2, .slice ya body2.length yk]), (w.heap.size, 27, [.int .i64 nx, .bool wt, .int .i64 fr, .int .i64 to_, .int .i64 kd, .int .i64 nm, .slice xa body.length xk, .slice da dn.length dj, .int .i64 tr])] [.bs (.slice za body3.length zk) body3, .bs (.slice ya body2.length yk) body2, .ms (.slice da dn.length dj) dn, .bs (.slice xa body.length xk) body] _) := Lib.hid ((E5.out.set 1 1 (.int .i64 fr2) rfl))
  have b7 := E6.out.bx 2 rfl
  have c7_3 := b7.cell 3 rfl
  clear b7
  have b8 := E6.out.bx 1 rfl
  have c8_3 := b8.cell 3 rfl
  have f8_3 := b8.frozen 3
  clear b8
  have E7 : Hid (Env D w [(w3.heap.size, 24, []), (w.heap.size + 1 + 1 + 1, 27, [.int .i64 0, .bool false, .int .i64 0, .int .i64 0, .int .i64 0, .int .i64 0, .slice none 0 0, .slice none 0 0, .int .i64 0]), (w.heap.size + 1 + 1, 24, [.int .i64 to2, .int .i64 fr2, .int .i64 kd3, .int .i64 nm2, .slice za body3.length zk]), (w.heap.size + 1, 24, [.int .i64 fr2, .int .i64 to2, .int .i64 kd2, .int .i64 nm2, .slice ya body2.length yk]), (w.heap.size, 27, [.int .i64 nx, .bool wt, .int .i64 fr, .int .i64 to_, .int .i64 kd, .int .i64 nm, .slice xa body.length xk, .slice da dn.length dj, .int .i64 tr])] [.bs (.slice za body3.length zk) body3, .bs (.slice ya body2.length yk) body2, .ms (.slice da dn.length dj) dn, .bs (.slice xa body.length xk) body] _) := Lib.hid (((E6.out.set 1 3 (.int .i64 nm2) rfl).push 24 [] (w3.heap.size) (by simp)))
  have b9 := E7.out.bx 4 rfl
  have c9_7 := b9.cell 7 rfl
  clear b9
  obtain ⟨nws, hsr0, hnm0⟩ := ms_news (E7.out.fc 2 rfl)
  have hsr := Lib.hid hsr0
  have E8 := Lib.hid (E7.out.note (.mc nws dn) hnm0)
  clear E7
  clear hsr0 hnm0
  go_wp2_with (at_builtin; refine wpList_appM (N := dn.length) rfl _ _ rfl E8.out 0 rfl ⟨Nat.le_refl _, Nat.zero_le _, rfl⟩ rfl rfl (hsr.out) (Nat.zero_add _) (by omega) ?_)
  intro lg lc ls w4 HL HT E90
  have E9 := Lib.hid (E90.out.note (.mc ls ([] ++ dn)) (mc_app (n := 0) (N := dn.length) (mc_nil _ _) ((E90.out.fc 0 rfl)) (Nat.le_refl _) rfl (Nat.zero_add _) HT.out))
  clear c3_1 c4_0 f4_0 c5_0 c6_1 f6_1 c7_3 c8_3 f8_3 c9_7 E4 E5 E6 E8 E90
  clear hsr HT
  have b10 := E9.out.bx 4 rfl
  have c10_0 := b10.cell 0 rfl
  have c10_1 := b10.cell 1 rfl
  have c10_2 := b10.cell 2 rfl
  have c10_3 := b10.cell 3 rfl
  have c10_4 := b10.cell 4 rfl
  have c10_5 := b10.cell 5 rfl
  have c10_6 := b10.cell 6 rfl
  have c10_7 := b10.cell 7 rfl
  have c10_8 := b10.cell 8 rfl
  clear b10
  have b11 := E9.out.bx 3 rfl
  have c11_0 := b11.cell 0 rfl
  clear b11
  go_wp2_with fail
  refine (rfind_a (S := ⟨nx, wt, ⟨fr, to_, kd, nm, body⟩, dn, tr⟩) hS.out ⟨hk, hto.out⟩ (E9.out.fc 4 rfl)).mono ?_
  rintro e w5 ⟨rfl, hb⟩
  have E10 := Lib.hid (E9.out.below hb)
  clear c10_0 c10_1 c10_2 c10_3 c10_4 c10_5 c10_6 c10_7 c10_8 c11_0 E9 hb
  have t0 : decide ((kk : Int) ≥ 0) = true := decide_eq_true (by omega)
  obtain ⟨m0, m1, m2, m3, ea, ek, m4, -⟩ := E10.out.fc 0 rfl kk hk
  have t1 : (dn[kk].nm == nm2) = false := by have := hcd.out; simp; omega
  have t2 : decide (nm2 < dn[kk].nm) = false := decide_eq_false (by have := hcd.out; omega)
  go_wp2_with fail
  have E11 := Lib.hid E10.out.drew
  clear E10
  refine wp_region_held_drew (S := fun w' => w'.cell? ⟨w.heap.size + 1, 3, none⟩ = some (.int .i64 nm2) ∧ w'.cell? ⟨lg, kk * 5 + 3, none⟩ = some (.int .i64 dn[kk].nm)) (by kernel_rfl) (⟨((E11.out.bx 3 rfl).cell 3 rfl), (E11.out.bx 0 rfl).cell (kk * 5 + 3) m3⟩) (fun hHeld => ?_)
  generalize w5.drew = w6 at *
  refine takeW (i := 0) (some 45) (v := ?_) rfl rfl (by kernel_rfl) (by kernel_rfl) (by kernel_rfl) (fun _ _ _ h => h) (by rfl) (by assumption) ?_ ?_
  rotate_left
  · (intro wS hSw; (try dsimp only at hSw); go_simp; try with_reducible rfl)
  try simp only [Act.put, List.setIfInBounds_toArray, List.set_cons_zero, List.set_cons_succ]
  refine takeW (i := 1) (some 46) (v := ?_) rfl rfl (by kernel_rfl) (by kernel_rfl) (by kernel_rfl) (fun _ _ _ h => h) (by rfl) (by assumption) ?_ ?_
  rotate_left
  · (intro wS hSw; (try dsimp only at hSw); go_simp; try with_reducible rfl)
  try simp only [Act.put, List.setIfInBounds_toArray, List.set_cons_zero, List.set_cons_succ]
  refine takeW (i := 2) (some 47) (v := ?_) rfl rfl (by kernel_rfl) (by kernel_rfl) (by kernel_rfl) (fun _ _ _ h => h) (by rfl) (by assumption) ?_ ?_
  rotate_left
  · (intro wS hSw; (try dsimp only at hSw); go_simp; try with_reducible rfl)
  try simp only [Act.put, List.setIfInBounds_toArray, List.set_cons_zero, List.set_cons_succ]
  refine takeW (i := 3) (some 48) (v := ?_) rfl rfl (by kernel_rfl) (by kernel_rfl) (by kernel_rfl) (fun _ _ _ h => h) (by rfl) (by assumption) ?_ ?_
  rotate_left
  · (intro wS hSw; (try dsimp only at hSw); go_simp; try with_reducible rfl)
  try simp only [Act.put, List.setIfInBounds_toArray, List.set_cons_zero, List.set_cons_succ]
  refine takeW (i := 4) (some 49) (v := ?_) rfl rfl (by kernel_rfl) (by kernel_rfl) (by kernel_rfl) (fun _ _ _ h => h) (by rfl) (by assumption) ?_ ?_
  rotate_left
  · (intro wS hSw; (try dsimp only at hSw); go_simp; try with_reducible rfl)
  try simp only [Act.put, List.setIfInBounds_toArray, List.set_cons_zero, List.set_cons_succ]
  refine takeW (i := 5) (some 50) (v := ?_) rfl rfl (by kernel_rfl) (by kernel_rfl) (by kernel_rfl) (fun _ _ _ h => h) (by rfl) (by assumption) ?_ ?_
  rotate_left
  · (intro wS hSw; (try dsimp only at hSw); go_simp; try with_reducible rfl)
  try simp only [Act.put, List.setIfInBounds_toArray, List.set_cons_zero, List.set_cons_succ]
  refine takeW (i := 6) (some 51) (v := ?_) rfl rfl (by kernel_rfl) (by kernel_rfl) (by kernel_rfl) (fun _ _ _ h => h) (by rfl) (by assumption) ?_ ?_
  rotate_left
  · (intro wS hSw; (try dsimp only at hSw); go_simp; try with_reducible rfl)
  try simp only [Act.put, List.setIfInBounds_toArray, List.set_cons_zero, List.set_cons_succ]
  refine takeW (i := 7) (some 52) (v := ?_) rfl rfl (by kernel_rfl) (by kernel_rfl) (by kernel_rfl) (fun _ _ _ h => h) (by rfl) (by assumption) ?_ ?_
  rotate_left
  · (intro wS hSw; (try dsimp only at hSw); go_simp; try with_reducible rfl)
  try simp only [Act.put, List.setIfInBounds_toArray, List.set_cons_zero, List.set_cons_succ]
  refine wpAnyH_done (by kernel_rfl) ?_ _
  go_wp2_with fail
  have E12 := Lib.hid E11.out.drew
  clear E11
  refine wp_region_held_drew (S := fun w' => w'.cell? ⟨w.heap.size + 1, 3, none⟩ = some (.int .i64 nm2) ∧ w'.cell? ⟨lg, kk * 5 + 3, none⟩ = some (.int .i64 dn[kk].nm)) (by kernel_rfl) (⟨((E12.out.bx 3 rfl).cell 3 rfl), (E12.out.bx 0 rfl).cell (kk * 5 + 3) m3⟩) (fun hHeld => ?_)
  generalize w6.drew = w7 at *
  refine takeW (i := 0) (some 54) (v := ?_) rfl rfl (by kernel_rfl) (by kernel_rfl) (by kernel_rfl) (fun _ _ _ h => h) (by rfl) (by assumption) ?_ ?_
  rotate_left
  · (intro wS hSw; (try dsimp only at hSw); go_simp; try with_reducible rfl)
  try simp only [Act.put, List.setIfInBounds_toArray, List.set_cons_zero, List.set_cons_succ]
  refine takeW (i := 1) (some 55) (v := ?_) rfl rfl (by kernel_rfl) (by kernel_rfl) (by kernel_rfl) (fun _ _ _ h => h) (by rfl) (by assumption) ?_ ?_
  rotate_left
  · (intro wS hSw; (try dsimp only at hSw); go_simp; try with_reducible rfl)
  try simp only [Act.put, List.setIfInBounds_toArray, List.set_cons_zero, List.set_cons_succ]
  refine takeW (i := 2) (some 56) (v := ?_) rfl rfl (by kernel_rfl) (by kernel_rfl) (by kernel_rfl) (fun _ _ _ h => h) (by rfl) (by assumption) ?_ ?_
  rotate_left
  · (intro wS hSw; (try dsimp only at hSw); go_simp; try with_reducible rfl)
  try simp only [Act.put, List.setIfInBounds_toArray, List.set_cons_zero, List.set_cons_succ]
  refine takeW (i := 3) (some 57) (v := ?_) rfl rfl (by kernel_rfl) (by kernel_rfl) (by kernel_rfl) (fun _ _ _ h => h) (by rfl) (by assumption) ?_ ?_
  rotate_left
  · (intro wS hSw; (try dsimp only at hSw); go_simp; try with_reducible rfl)
  try simp only [Act.put, List.setIfInBounds_toArray, List.set_cons_zero, List.set_cons_succ]
  refine takeW (i := 4) (some 58) (v := ?_) rfl rfl (by kernel_rfl) (by kernel_rfl) (by kernel_rfl) (fun _ _ _ h => h) (by rfl) (by assumption) ?_ ?_
  rotate_left
  · (intro wS hSw; (try dsimp only at hSw); go_simp; try with_reducible rfl)
  try simp only [Act.put, List.setIfInBounds_toArray, List.set_cons_zero, List.set_cons_succ]
  refine takeW (i := 5) (some 59) (v := ?_) rfl rfl (by kernel_rfl) (by kernel_rfl) (by kernel_rfl) (fun _ _ _ h => h) (by rfl) (by assumption) ?_ ?_
  rotate_left
  · (intro wS hSw; (try dsimp only at hSw); go_simp; try with_reducible rfl)
  try simp only [Act.put, List.setIfInBounds_toArray, List.set_cons_zero, List.set_cons_succ]
  refine takeW (i := 6) (some 60) (v := ?_) rfl rfl (by kernel_rfl) (by kernel_rfl) (by kernel_rfl) (fun _ _ _ h => h) (by rfl) (by assumption) ?_ ?_
  rotate_left
  · (intro wS hSw; (try dsimp only at hSw); go_simp; try with_reducible rfl)
  try simp only [Act.put, List.setIfInBounds_toArray, List.set_cons_zero, List.set_cons_succ]
  refine takeW (i := 7) (some 61) (v := ?_) rfl rfl (by kernel_rfl) (by kernel_rfl) (by kernel_rfl) (fun _ _ _ h => h) (by rfl) (by assumption) ?_ ?_
  rotate_left
  · (intro wS hSw; (try dsimp only at hSw); go_simp; try with_reducible rfl)
  try simp only [Act.put, List.setIfInBounds_toArray, List.set_cons_zero, List.set_cons_succ]
  refine wpAnyH_done (by kernel_rfl) ?_ _
  have b12 := E12.out.bx 2 rfl
  have c12_0 := b12.cell 0 rfl
  have c12_1 := b12.cell 1 rfl
  have c12_2 := b12.cell 2 rfl
  have c12_3 := b12.cell 3 rfl
  have c12_4 := b12.cell 4 rfl
  clear b12
  have b13 := E12.out.bx 0 rfl
  have c13_0 := b13.cell (kk * 5) m0
  have f13_0 := b13.frozen (kk * 5)
  have c13_1 := b13.cell (kk * 5 + 1) m1
  have f13_1 := b13.frozen (kk * 5 + 1)
  have c13_2 := b13.cell (kk * 5 + 2) m2
  have f13_2 := b13.frozen (kk * 5 + 2)
  have c13_3 := b13.cell (kk * 5 + 3) m3
  have f13_3 := b13.frozen (kk * 5 + 3)
  have c13_4 := b13.cell (kk * 5 + 4) m4
  have f13_4 := b13.frozen (kk * 5 + 4)
  clear b13
  have E13 : Hid (Env D w [(lg, 24, (((((ls.set (kk * 5) (.int .i64 to2)).set (kk * 5 + 1) (.int .i64 fr2)).set (kk * 5 + 2) (.int .i64 kd3)).set (kk * 5 + 3) (.int .i64 nm2)).set (kk * 5 + 4) (.slice za body3.length zk))), (w.heap.size + 1 + 1 + 1, 27, [.int .i64 0, .bool false, .int .i64 0, .int .i64 0, .int .i64 0, .int .i64 0, .slice none 0 0, .slice none 0 0, .int .i64 0]), (w.heap.size + 1 + 1, 24, [.int .i64 to2, .int .i64 fr2, .int .i64 kd3, .int .i64 nm2, .slice za body3.length zk]), (w.heap.size + 1, 24, [.int .i64 fr2, .int .i64 to2, .int .i64 kd2, .int .i64 nm2, .slice ya body2.length yk]), (w.heap.size, 27, [.int .i64 nx, .bool wt, .int .i64 fr, .int .i64 to_, .int .i64 kd, .int .i64 nm, .slice xa body.length xk, .slice da dn.length dj, .int .i64 tr])] [.mc ls dn, .mc nws dn, .bs (.slice za body3.length zk) body3, .bs (.slice ya body2.length yk) body2, .ms (.slice da dn.length dj) dn, .bs (.slice xa body.length xk) body] _) := Lib.hid ((((((E12.out.set 0 (kk * 5) (.int .i64 to2) rfl).set 0 (kk * 5 + 1) (.int .i64 fr2) rfl).set 0 (kk * 5 + 2) (.int .i64 kd3) rfl).set 0 (kk * 5 + 3) (.int .i64 nm2) rfl).set 0 (kk * 5 + 4) (.slice za body3.length zk) rfl))
  have b14 := E13.out.bx 4 rfl
  have c14_7 := b14.cell 7 rfl
  have f14_7 := b14.frozen 7
  clear b14
  have E14 : Hid (Env D w [(lg, 24, (((((ls.set (kk * 5) (.int .i64 to2)).set (kk * 5 + 1) (.int .i64 fr2)).set (kk * 5 + 2) (.int .i64 kd3)).set (kk * 5 + 3) (.int .i64 nm2)).set (kk * 5 + 4) (.slice za body3.length zk))), (w.heap.size + 1 + 1 + 1, 27, [.int .i64 0, .bool false, .int .i64 0, .int .i64 0, .int .i64 0, .int .i64 0, .slice none 0 0, .slice none 0 0, .int .i64 0]), (w.heap.size + 1 + 1, 24, [.int .i64 to2, .int .i64 fr2, .int .i64 kd3, .int .i64 nm2, .slice za body3.length zk]), (w.heap.size + 1, 24, [.int .i64 fr2, .int .i64 to2, .int .i64 kd2, .int .i64 nm2, .slice ya body2.length yk]), (w.heap.size, 27, [.int .i64 nx, .bool wt, .int .i64 fr, .int .i64 to_, .int .i64 kd, .int .i64 nm, .slice xa body.length xk, .slice (some ⟨lg, 0, none⟩) (dn.length) lc, .int .i64 tr])] [.mc ls dn, .mc nws dn, .bs (.slice za body3.length zk) body3, .bs (.slice ya body2.length yk) body2, .ms (.slice da dn.length dj) dn, .bs (.slice xa body.length xk) body] _) := Lib.hid ((E13.out.set 4 7 (.slice (some ⟨lg, 0, none⟩) (dn.length) lc) rfl))
  have b15 := E14.out.bx 4 rfl
  have c15_0 := b15.cell 0 rfl
  have c15_1 := b15.cell 1 rfl
  have c15_2 := b15.cell 2 rfl
  have c15_3 := b15.cell 3 rfl
  have c15_4 := b15.cell 4 rfl
  have c15_5 := b15.cell 5 rfl
  have c15_6 := b15.cell 6 rfl
  have c15_7 := b15.cell 7 rfl
  have c15_8 := b15.cell 8 rfl
  clear b15
  have b16 := E14.out.bx 1 rfl
  have c16_0 := b16.cell 0 rfl
  have c16_1 := b16.cell 1 rfl
  have c16_2 := b16.cell 2 rfl
  have c16_3 := b16.cell 3 rfl
  have c16_4 := b16.cell 4 rfl
  have c16_5 := b16.cell 5 rfl
  have c16_6 := b16.cell 6 rfl
  have c16_7 := b16.cell 7 rfl
  have c16_8 := b16.cell 8 rfl
  have f16_0 := b16.frozen 0
  have f16_1 := b16.frozen 1
  have f16_2 := b16.frozen 2
  have f16_3 := b16.frozen 3
  have f16_4 := b16.frozen 4
  have f16_5 := b16.frozen 5
  have f16_6 := b16.frozen 6
  have f16_7 := b16.frozen 7
  have f16_8 := b16.frozen 8
  clear b16
  have hln : (dn.set kk ⟨to2, fr2, kd3, nm2, body3⟩).length = dn.length := by simp
  go_wp2
  have E15 : Hid (Env D w [(lg, 24, (((((ls.set (kk * 5) (.int .i64 to2)).set (kk * 5 + 1) (.int .i64 fr2)).set (kk * 5 + 2) (.int .i64 kd3)).set (kk * 5 + 3) (.int .i64 nm2)).set (kk * 5 + 4) (.slice za body3.length zk))), (w.heap.size + 1 + 1 + 1, 27, [.int .i64 nx, .bool wt, .int .i64 fr, .int .i64 to_, .int .i64 kd, .int .i64 nm, .slice xa body.length xk, .slice (some ⟨lg, 0, none⟩) (dn.length) lc, .int .i64 tr]), (w.heap.size + 1 + 1, 24, [.int .i64 to2, .int .i64 fr2, .int .i64 kd3, .int .i64 nm2, .slice za body3.length zk]), (w.heap.size + 1, 24, [.int .i64 fr2, .int .i64 to2, .int .i64 kd2, .int .i64 nm2, .slice ya body2.length yk]), (w.heap.size, 27, [.int .i64 nx, .bool wt, .int .i64 fr, .int .i64 to_, .int .i64 kd, .int .i64 nm, .slice xa body.length xk, .slice (some ⟨lg, 0, none⟩) (dn.length) lc, .int .i64 tr])] [.mc ls dn, .mc nws dn, .bs (.slice za body3.length zk) body3, .bs (.slice ya body2.length yk) body2, .ms (.slice da dn.length dj) dn, .bs (.slice xa body.length xk) body] _) := Lib.hid ((((((((((E14.out.set 1 0 (.int .i64 nx) rfl).set 1 1 (.bool wt) rfl).set 1 2 (.int .i64 fr) rfl).set 1 3 (.int .i64 to_) rfl).set 1 4 (.int .i64 kd) rfl).set 1 5 (.int .i64 nm) rfl).set 1 6 (.slice xa body.length xk) rfl).set 1 7 (.slice (some ⟨lg, 0, none⟩) (dn.length) lc) rfl).set 1 8 (.int .i64 tr) rfl))
  have hfin := E15.out
  have q17 := (hfin.bx 1 rfl).cell 0 rfl
  have q18 := (hfin.bx 1 rfl).cell 1 rfl
  have q19 := (hfin.bx 1 rfl).cell 2 rfl
  have q20 := (hfin.bx 1 rfl).cell 3 rfl
  have q21 := (hfin.bx 1 rfl).cell 4 rfl
  have q22 := (hfin.bx 1 rfl).cell 5 rfl
  have q23 := (hfin.bx 1 rfl).cell 6 rfl
  have q24 := (hfin.bx 1 rfl).cell 7 rfl
  have q25 := (hfin.bx 1 rfl).cell 8 rfl
  exact bodyPost_ret (v := .tuple #[.agg #[.int .i64 nx, .bool wt, .int .i64 fr, .int .i64 to_, .int .i64 kd, .int .i64 nm, .slice xa body.length xk, .slice (some ⟨lg, 0, none⟩) dn.length lc, .int .i64 tr], .int .i64 0]) (by simp [results, Try.results18, go_sem, q17, q18, q19, q20, q21, q22, q23, q24, q25]) rfl ⟨⟨_, _, some ⟨lg, 0, none⟩, lc, by dsimp only; rw [hln], (Lib.hid (hfin.out 5 rfl)), Lib.hid (Ms.ofBox (hfin.bx 0 rfl) (mc_set (hfin.fc 0 rfl) (by have := HL.out; omega) hk ⟨to2, fr2, kd3, nm2, body3⟩ (hfin.fc 2 rfl)) (by rw [hln]; exact HL.out.1) HL.out.2.1 (fun _ hd => hd.2) (.inr (hfin.bx 0 rfl).1))⟩, hfin.bel⟩
set_option maxRecDepth 100000 in
set_option maxHeartbeats 2000000 in
theorem rDone_5 {D : Nat → Prop} (nx fr to_ kd nm tr : Int) (wt : Bool) (body : List Nat) (dn : List Msg) {xa : Option Addr} {xk : Nat} {da : Option Addr} {dj : Nat} (fr2 to2 kd2 nm2 : Int) (body2 : List Nat) {ya : Option Addr} {yk : Nat} (fr3 to3 kd3 nm3 : Int) (body3 : List Nat) {za : Option Addr} {zk : Nat} {w : World} (hx : Fct.at w D (.bs (.slice xa body.length xk) body)) (hy : Fct.at w D (.ms (.slice da dn.length dj) dn)) (hz : Fct.at w D (.bs (.slice ya body2.length yk) body2)) (hv : Fct.at w D (.bs (.slice za body3.length zk) body3)) (hS0 : SesOk ⟨nx, wt, ⟨fr, to_, kd, nm, body⟩, dn, tr⟩) (hq0 : msgOk ⟨fr2, to2, kd2, nm2, body2⟩ = true) (ha0 : msgOk ⟨fr3, to3, kd3, nm3, body3⟩ = true) (hn0 : ∀ k (h : k < dn.length), dn[k].to_ ≠ fr2) (h90 : dn.length = 1000) :
    Calls Try.prog 18 #[.agg #[.int .i64 nx, .bool wt, .int .i64 fr, .int .i64 to_, .int .i64 kd, .int .i64 nm, .slice xa body.length xk, .slice da dn.length dj, .int .i64 tr], .agg #[.int .i64 fr2, .int .i64 to2, .int .i64 kd2, .int .i64 nm2, .slice ya body2.length yk], .agg #[.int .i64 fr3, .int .i64 to3, .int .i64 kd3, .int .i64 nm3, .slice za body3.length zk]] w fun e w' => RetSE (fun b => D b ∨ w.heap.size ≤ b) S0 5 e w' ∧ Below w.heap.size w w' := by
  have E0 := Lib.hid (((((Env.start D w).arg (.bs (.slice xa body.length xk) body) hx).arg (.ms (.slice da dn.length dj) dn) hy).arg (.bs (.slice ya body2.length yk) body2) hz).arg (.bs (.slice za body3.length zk) body3) hv)
  clear hx hy hz hv
  go_enter Try.func18, Try.ntmps18
  have hS := Lib.hid hS0
  clear hS0
  have hq := Lib.hid hq0
  clear hq0
  have ha := Lib.hid ha0
  clear ha0
  have hn := Lib.hid hn0
  clear hn0
  have h9 := Lib.hid h90
  clear h90
  have hA := Lib.hid (asc_of hS.out.2.2.2)
  have a3 : dn.length ≤ 1000 := hS.out.1.2.2
  go_wp2_with fail
  have E1 := Lib.hid (((((E0.out.push 27 [.int .i64 nx, .bool wt, .int .i64 fr, .int .i64 to_, .int .i64 kd, .int .i64 nm, .slice xa body.length xk, .slice da dn.length dj, .int .i64 tr] (w.heap.size) (by simp)).push 24 [.int .i64 fr2, .int .i64 to2, .int .i64 kd2, .int .i64 nm2, .slice ya body2.length yk] (w.heap.size + 1) (by simp)).push 24 [.int .i64 fr3, .int .i64 to3, .int .i64 kd3, .int .i64 nm3, .slice za body3.length zk] (w.heap.size + 1 + 1) (by simp)).push 27 [.int .i64 0, .bool false, .int .i64 0, .int .i64 0, .int .i64 0, .int .i64 0, .slice none 0 0, .slice none 0 0, .int .i64 0] (w.heap.size + 1 + 1 + 1) (by simp)))
  refine (rValid_t (S := ⟨nx, wt, ⟨fr, to_, kd, nm, body⟩, dn, tr⟩) hS.out (E1.out.fc 3 rfl) (E1.out.fc 2 rfl)).mono ?_
  rintro e w1 ⟨rfl, hb⟩
  have E2 := Lib.hid (E1.out.below hb)
  clear E0 E1 hb
  have b1 := E2.out.bx 2 rfl
  have c1_0 := b1.cell 0 rfl
  have c1_1 := b1.cell 1 rfl
  have c1_2 := b1.cell 2 rfl
  have c1_3 := b1.cell 3 rfl
  have c1_4 := b1.cell 4 rfl
  clear b1
  go_wp2_with fail
  refine (rMessage_v ⟨fr2, to2, kd2, nm2, body2⟩ hq.out _ _ _).mono ?_
  rintro e w2 ⟨rfl, hb⟩
  have E3 := Lib.hid (E2.out.below hb)
  clear c1_0 c1_1 c1_2 c1_3 c1_4 E2 hb
  have b2 := E3.out.bx 1 rfl
  have c2_0 := b2.cell 0 rfl
  have c2_1 := b2.cell 1 rfl
  have c2_2 := b2.cell 2 rfl
  have c2_3 := b2.cell 3 rfl
  have c2_4 := b2.cell 4 rfl
  clear b2
  go_wp2_with fail
  refine (rMessage_v ⟨fr3, to3, kd3, nm3, body3⟩ ha.out _ _ _).mono ?_
  rintro e w3 ⟨rfl, hb⟩
  have E4 := Lib.hid (E3.out.below hb)
  clear c2_0 c2_1 c2_2 c2_3 c2_4 E3 hb
  have b3 := E4.out.bx 2 rfl
  have c3_1 := b3.cell 1 rfl
  clear b3
  have b4 := E4.out.bx 1 rfl
  have c4_0 := b4.cell 0 rfl
  have f4_0 := b4.frozen 0
  clear b4
  have E5 : Hid (Env D w [(w.heap.size + 1 + 1 + 1, 27, [.int .i64 0, .bool false, .int .i64 0, .int .i64 0, .int .i64 0, .int .i64 0, .slice none 0 0, .slice none 0 0, .int .i64 0]), (w.heap.size + 1 + 1, 24, [.int .i64 to2, .int .i64 to3, .int .i64 kd3, .int .i64 nm3, .slice za body3.length zk]), (w.heap.size + 1, 24, [.int .i64 fr2, .int .i64 to2, .int .i64 kd2, .int .i64 nm2, .slice ya body2.length yk]), (w.heap.size, 27, [.int .i64 nx, .bool wt, .int .i64 fr, .int .i64 to_, .int .i64 kd, .int .i64 nm, .slice xa body.length xk, .slice da dn.length dj, .int .i64 tr])] [.bs (.slice za body3.length zk) body3, .bs (.slice ya body2.length yk) body2, .ms (.slice da dn.length dj) dn, .bs (.slice xa body.length xk) body] _) := Lib.hid ((E4.out.set 1 0 (.int .i64 to2) rfl))
  have b5 := E5.out.bx 2 rfl
  have c5_0 := b5.cell 0 rfl
  clear b5
  have b6 := E5.out.bx 1 rfl
  have c6_1 := b6.cell 1 rfl
  have f6_1 := b6.frozen 1
  clear b6
  have E6 : Hid (Env D w [(w.heap.size + 1 + 1 + 1, 27, [.int .i64 0, .bool false, .int .i64 0, .int .i64 0, .int .i64 0, .int .i64 0, .slice none 0 0, .slice none 0 0, .int .i64 0]), (w.heap.size + 1 + 1, 24, [.int .i64 to2, .int .i64 fr2, .int .i64 kd3, .int .i64 nm3, .slice za body3.length zk]), (w.heap.size + 1, 24, [.int .i64 fr2, .int .i64 to2, .int .i64 kd2, .int .i64 nm2, .slice ya body2.length yk]), (w.heap.size, 27, [.int .i64 nx, .bool wt, .int .i64 fr, .int .i64 to_, .int .i64 kd, .int .i64 nm, .slice xa body.length xk, .slice da dn.length dj, .int .i64 tr])] [.bs (.slice za body3.length zk) body3, .bs (.slice ya body2.length yk) body2, .ms (.slice da dn.length dj) dn, .bs (.slice xa body.length xk) body] _) := Lib.hid ((E5.out.set 1 1 (.int .i64 fr2) rfl))
  have b7 := E6.out.bx 2 rfl
  have c7_3 := b7.cell 3 rfl
  clear b7
  have b8 := E6.out.bx 1 rfl
  have c8_3 := b8.cell 3 rfl
  have f8_3 := b8.frozen 3
  clear b8
  have E7 : Hid (Env D w [(w3.heap.size, 24, []), (w.heap.size + 1 + 1 + 1, 27, [.int .i64 0, .bool false, .int .i64 0, .int .i64 0, .int .i64 0, .int .i64 0, .slice none 0 0, .slice none 0 0, .int .i64 0]), (w.heap.size + 1 + 1, 24, [.int .i64 to2, .int .i64 fr2, .int .i64 kd3, .int .i64 nm2, .slice za body3.length zk]), (w.heap.size + 1, 24, [.int .i64 fr2, .int .i64 to2, .int .i64 kd2, .int .i64 nm2, .slice ya body2.length yk]), (w.heap.size, 27, [.int .i64 nx, .bool wt, .int .i64 fr, .int .i64 to_, .int .i64 kd, .int .i64 nm, .slice xa body.length xk, .slice da dn.length dj, .int .i64 tr])] [.bs (.slice za body3.length zk) body3, .bs (.slice ya body2.length yk) body2, .ms (.slice da dn.length dj) dn, .bs (.slice xa body.length xk) body] _) := Lib.hid (((E6.out.set 1 3 (.int .i64 nm2) rfl).push 24 [] (w3.heap.size) (by simp)))
  have b9 := E7.out.bx 4 rfl
  have c9_7 := b9.cell 7 rfl
  clear b9
  obtain ⟨nws, hsr0, hnm0⟩ := ms_news (E7.out.fc 2 rfl)
  have hsr := Lib.hid hsr0
  have E8 := Lib.hid (E7.out.note (.mc nws dn) hnm0)
  clear E7
  clear hsr0 hnm0
  go_wp2_with (at_builtin; refine wpList_appM (N := dn.length) rfl _ _ rfl E8.out 0 rfl ⟨Nat.le_refl _, Nat.zero_le _, rfl⟩ rfl rfl (hsr.out) (Nat.zero_add _) (by omega) ?_)
  intro lg lc ls w4 HL HT E90
  have E9 := Lib.hid (E90.out.note (.mc ls ([] ++ dn)) (mc_app (n := 0) (N := dn.length) (mc_nil _ _) ((E90.out.fc 0 rfl)) (Nat.le_refl _) rfl (Nat.zero_add _) HT.out))
  clear c3_1 c4_0 f4_0 c5_0 c6_1 f6_1 c7_3 c8_3 f8_3 c9_7 E4 E5 E6 E8 E90
  clear hsr HT
  have b10 := E9.out.bx 4 rfl
  have c10_0 := b10.cell 0 rfl
  have c10_1 := b10.cell 1 rfl
  have c10_2 := b10.cell 2 rfl
  have c10_3 := b10.cell 3 rfl
  have c10_4 := b10.cell 4 rfl
  have c10_5 := b10.cell 5 rfl
  have c10_6 := b10.cell 6 rfl
  have c10_7 := b10.cell 7 rfl
  have c10_8 := b10.cell 8 rfl
  clear b10
  have b11 := E9.out.bx 3 rfl
  have c11_0 := b11.cell 0 rfl
  clear b11
  go_wp2_with fail
  refine (rfind_n (S := ⟨nx, wt, ⟨fr, to_, kd, nm, body⟩, dn, tr⟩) hS.out hn.out (E9.out.fc 4 rfl)).mono ?_
  rintro e w5 ⟨rfl, hb⟩
  have E10 := Lib.hid (E9.out.below hb)
  clear c10_0 c10_1 c10_2 c10_3 c10_4 c10_5 c10_6 c10_7 c10_8 c11_0 E9 hb
  have t5 : ((dn.length : Int) == 1000) = true := by have := h9.out; simp; omega
  have b12 := E10.out.bx 1 rfl
  have c12_0 := b12.cell 0 rfl
  have c12_1 := b12.cell 1 rfl
  have c12_2 := b12.cell 2 rfl
  have c12_3 := b12.cell 3 rfl
  have c12_4 := b12.cell 4 rfl
  have c12_5 := b12.cell 5 rfl
  have c12_6 := b12.cell 6 rfl
  have c12_7 := b12.cell 7 rfl
  have c12_8 := b12.cell 8 rfl
  have f12_0 := b12.frozen 0
  have f12_1 := b12.frozen 1
  have f12_2 := b12.frozen 2
  have f12_3 := b12.frozen 3
  have f12_4 := b12.frozen 4
  have f12_5 := b12.frozen 5
  have f12_6 := b12.frozen 6
  have f12_7 := b12.frozen 7
  have f12_8 := b12.frozen 8
  clear b12
  go_wp2
  have E11 : Hid (Env D w [(lg, 24, ls), (w.heap.size + 1 + 1 + 1, 27, [.int .i64 0, .bool false, .int .i64 0, .int .i64 0, .int .i64 0, .int .i64 0, .slice none 0 0, .slice none 0 0, .int .i64 0]), (w.heap.size + 1 + 1, 24, [.int .i64 to2, .int .i64 fr2, .int .i64 kd3, .int .i64 nm2, .slice za body3.length zk]), (w.heap.size + 1, 24, [.int .i64 fr2, .int .i64 to2, .int .i64 kd2, .int .i64 nm2, .slice ya body2.length yk]), (w.heap.size, 27, [.int .i64 nx, .bool wt, .int .i64 fr, .int .i64 to_, .int .i64 kd, .int .i64 nm, .slice xa body.length xk, .slice da dn.length dj, .int .i64 tr])] [.mc ls dn, .mc nws dn, .bs (.slice za body3.length zk) body3, .bs (.slice ya body2.length yk) body2, .ms (.slice da dn.length dj) dn, .bs (.slice xa body.length xk) body] _) := Lib.hid ((((((((((E10.out.set 1 0 (.int .i64 0) rfl).set 1 1 (.bool false) rfl).set 1 2 (.int .i64 0) rfl).set 1 3 (.int .i64 0) rfl).set 1 4 (.int .i64 0) rfl).set 1 5 (.int .i64 0) rfl).set 1 6 (.slice none 0 0) rfl).set 1 7 (.slice none 0 0) rfl).set 1 8 (.int .i64 0) rfl))
  have hfin := E11.out
  have q13 := (hfin.bx 1 rfl).cell 0 rfl
  have q14 := (hfin.bx 1 rfl).cell 1 rfl
  have q15 := (hfin.bx 1 rfl).cell 2 rfl
  have q16 := (hfin.bx 1 rfl).cell 3 rfl
  have q17 := (hfin.bx 1 rfl).cell 4 rfl
  have q18 := (hfin.bx 1 rfl).cell 5 rfl
  have q19 := (hfin.bx 1 rfl).cell 6 rfl
  have q20 := (hfin.bx 1 rfl).cell 7 rfl
  have q21 := (hfin.bx 1 rfl).cell 8 rfl
  exact bodyPost_ret (v := .tuple #[.agg #[.int .i64 0, .bool false, .int .i64 0, .int .i64 0, .int .i64 0, .int .i64 0, .slice none 0 0, .slice none 0 0, .int .i64 0], .int .i64 5]) (by simp [results, Try.results18, go_sem, q13, q14, q15, q16, q17, q18, q19, q20, q21]) rfl ⟨⟨none, 0, none, 0, rfl, Lib.hid (Bs.nil _ _), Lib.hid (Ms.nil _ _)⟩, hfin.bel⟩
set_option maxRecDepth 100000 in
set_option maxHeartbeats 2000000 in
theorem rDone_ins {D : Nat → Prop} (nx fr to_ kd nm tr : Int) (wt : Bool) (body : List Nat) (dn : List Msg) {xa : Option Addr} {xk : Nat} {da : Option Addr} {dj : Nat} (fr2 to2 kd2 nm2 : Int) (body2 : List Nat) {ya : Option Addr} {yk : Nat} (fr3 to3 kd3 nm3 : Int) (body3 : List Nat) {za : Option Addr} {zk : Nat} (fi : Nat) {w : World} (hx : Fct.at w D (.bs (.slice xa body.length xk) body)) (hy : Fct.at w D (.ms (.slice da dn.length dj) dn)) (hz : Fct.at w D (.bs (.slice ya body2.length yk) body2)) (hv : Fct.at w D (.bs (.slice za body3.length zk) body3)) (hS0 : SesOk ⟨nx, wt, ⟨fr, to_, kd, nm, body⟩, dn, tr⟩) (hq0 : msgOk ⟨fr2, to2, kd2, nm2, body2⟩ = true) (ha0 : msgOk ⟨fr3, to3, kd3, nm3, body3⟩ = true) (hn0 : ∀ k (h : k < dn.length), dn[k].to_ ≠ fr2) (h90 : ¬ dn.length = 1000) (hfo0 : Found dn fr2 fi false) :
    Calls Try.prog 18 #[.agg #[.int .i64 nx, .bool wt, .int .i64 fr, .int .i64 to_, .int .i64 kd, .int .i64 nm, .slice xa body.length xk, .slice da dn.length dj, .int .i64 tr], .agg #[.int .i64 fr2, .int .i64 to2, .int .i64 kd2, .int .i64 nm2, .slice ya body2.length yk], .agg #[.int .i64 fr3, .int .i64 to3, .int .i64 kd3, .int .i64 nm3, .slice za body3.length zk]] w fun e w' => RetSE (fun b => D b ∨ w.heap.size ≤ b) ⟨nx, wt, ⟨fr, to_, kd, nm, body⟩, insL dn fi ⟨to2, fr2, kd3, nm2, body3⟩, tr⟩ 0 e w' ∧ Below w.heap.size w w' := by
  have E0 := Lib.hid (((((Env.start D w).arg (.bs (.slice xa body.length xk) body) hx).arg (.ms (.slice da dn.length dj) dn) hy).arg (.bs (.slice ya body2.length yk) body2) hz).arg (.bs (.slice za body3.length zk) body3) hv)
  clear hx hy hz hv
  go_enter Try.func18, Try.ntmps18
  have hS := Lib.hid hS0
  clear hS0
  have hq := Lib.hid hq0
  clear hq0
  have ha := Lib.hid ha0
  clear ha0
  have hn := Lib.hid hn0
  clear hn0
  have h9 := Lib.hid h90
  clear h90
  have hfo := Lib.hid hfo0
  clear hfo0
  have hA := Lib.hid (asc_of hS.out.2.2.2)
  have a3 : dn.length ≤ 1000 := hS.out.1.2.2
  go_wp2_with fail
  have E1 := Lib.hid (((((E0.out.push 27 [.int .i64 nx, .bool wt, .int .i64 fr, .int .i64 to_, .int .i64 kd, .int .i64 nm, .slice xa body.length xk, .slice da dn.length dj, .int .i64 tr] (w.heap.size) (by simp)).push 24 [.int .i64 fr2, .int .i64 to2, .int .i64 kd2, .int .i64 nm2, .slice ya body2.length yk] (w.heap.size + 1) (by simp)).push 24 [.int .i64 fr3, .int .i64 to3, .int .i64 kd3, .int .i64 nm3, .slice za body3.length zk] (w.heap.size + 1 + 1) (by simp)).push 27 [.int .i64 0, .bool false, .int .i64 0, .int .i64 0, .int .i64 0, .int .i64 0, .slice none 0 0, .slice none 0 0, .int .i64 0] (w.heap.size + 1 + 1 + 1) (by simp)))
  refine (rValid_t (S := ⟨nx, wt, ⟨fr, to_, kd, nm, body⟩, dn, tr⟩) hS.out (E1.out.fc 3 rfl) (E1.out.fc 2 rfl)).mono ?_
  rintro e w1 ⟨rfl, hb⟩
  have E2 := Lib.hid (E1.out.below hb)
  clear E0 E1 hb
  have b1 := E2.out.bx 2 rfl
  have c1_0 := b1.cell 0 rfl
  have c1_1 := b1.cell 1 rfl
  have c1_2 := b1.cell 2 rfl
  have c1_3 := b1.cell 3 rfl
  have c1_4 := b1.cell 4 rfl
  clear b1
  go_wp2_with fail
  refine (rMessage_v ⟨fr2, to2, kd2, nm2, body2⟩ hq.out _ _ _).mono ?_
  rintro e w2 ⟨rfl, hb⟩
  have E3 := Lib.hid (E2.out.below hb)
  clear c1_0 c1_1 c1_2 c1_3 c1_4 E2 hb
  have b2 := E3.out.bx 1 rfl
  have c2_0 := b2.cell 0 rfl
  have c2_1 := b2.cell 1 rfl
  have c2_2 := b2.cell 2 rfl
  have c2_3 := b2.cell 3 rfl
  have c2_4 := b2.cell 4 rfl
  clear b2
  go_wp2_with fail
  refine (rMessage_v ⟨fr3, to3, kd3, nm3, body3⟩ ha.out _ _ _).mono ?_
  rintro e w3 ⟨rfl, hb⟩
  have E4 := Lib.hid (E3.out.below hb)
  clear c2_0 c2_1 c2_2 c2_3 c2_4 E3 hb
  have b3 := E4.out.bx 2 rfl
  have c3_1 := b3.cell 1 rfl
  clear b3
  have b4 := E4.out.bx 1 rfl
  have c4_0 := b4.cell 0 rfl
  have f4_0 := b4.frozen 0
  clear b4
  have E5 : Hid (Env D w [(w.heap.size + 1 + 1 + 1, 27, [.int .i64 0, .bool false, .int .i64 0, .int .i64 0, .int .i64 0, .int .i64 0, .slice none 0 0, .slice none 0 0, .int .i64 0]), (w.heap.size + 1 + 1, 24, [.int .i64 to2, .int .i64 to3, .int .i64 kd3, .int .i64 nm3, .slice za body3.length zk]), (w.heap.size + 1, 24, [.int .i64 fr2, .int .i64 to2, .int .i64 kd2, .int .i64 nm2, .slice ya body2.length yk]), (w.heap.size, 27, [.int .i64 nx, .bool wt, .int .i64 fr, .int .i64 to_, .int .i64 kd, .int .i64 nm, .slice xa body.length xk, .slice da dn.length dj, .int .i64 tr])] [.bs (.slice za body3.length zk) body3, .bs (.slice ya body2.length yk) body2, .ms (.slice da dn.length dj) dn, .bs (.slice xa body.length xk) body] _) := Lib.hid ((E4.out.set 1 0 (.int .i64 to2) rfl))
  have b5 := E5.out.bx 2 rfl
  have c5_0 := b5.cell 0 rfl
  clear b5
  have b6 := E5.out.bx 1 rfl
  have c6_1 := b6.cell 1 rfl
  have f6_1 := b6.frozen 1
  clear b6
  have E6 : Hid (Env D w [(w.heap.size + 1 + 1 + 1, 27, [.int .i64 0, .bool false, .int .i64 0, .int .i64 0, .int .i64 0, .int .i64 0, .slice none 0 0, .slice none 0 0, .int .i64 0]), (w.heap.size + 1 + 1, 24, [.int .i64 to2, .int .i64 fr2, .int .i64 kd3, .int .i64 nm3, .slice za body3.length zk]), (w.heap.size + 1, 24, [.int .i64 fr2, .int .i64 to2, .int .i64 kd2, .int .i64 nm2, .slice ya body2.length yk]), (w.heap.size, 27, [.int .i64 nx, .bool wt, .int .i64 fr, .int .i64 to_, .int .i64 kd, .int .i64 nm, .slice xa body.length xk, .slice da dn.length dj, .int .i64 tr])] [.bs (.slice za body3.length zk) body3, .bs (.slice ya body2.length yk) body2, .ms (.slice da dn.length dj) dn, .bs (.slice xa body.length xk) body] _) := Lib.hid ((E5.out.set 1 1 (.int .i64 fr2) rfl))
  have b7 := E6.out.bx 2 rfl
  have c7_3 := b7.cell 3 rfl
  clear b7
  have b8 := E6.out.bx 1 rfl
  have c8_3 := b8.cell 3 rfl
  have f8_3 := b8.frozen 3
  clear b8
  have E7 : Hid (Env D w [(w3.heap.size, 24, []), (w.heap.size + 1 + 1 + 1, 27, [.int .i64 0, .bool false, .int .i64 0, .int .i64 0, .int .i64 0, .int .i64 0, .slice none 0 0, .slice none 0 0, .int .i64 0]), (w.heap.size + 1 + 1, 24, [.int .i64 to2, .int .i64 fr2, .int .i64 kd3, .int .i64 nm2, .slice za body3.length zk]), (w.heap.size + 1, 24, [.int .i64 fr2, .int .i64 to2, .int .i64 kd2, .int .i64 nm2, .slice ya body2.length yk]), (w.heap.size, 27, [.int .i64 nx, .bool wt, .int .i64 fr, .int .i64 to_, .int .i64 kd, .int .i64 nm, .slice xa body.length xk, .slice da dn.length dj, .int .i64 tr])] [.bs (.slice za body3.length zk) body3, .bs (.slice ya body2.length yk) body2, .ms (.slice da dn.length dj) dn, .bs (.slice xa body.length xk) body] _) := Lib.hid (((E6.out.set 1 3 (.int .i64 nm2) rfl).push 24 [] (w3.heap.size) (by simp)))
  have b9 := E7.out.bx 4 rfl
  have c9_7 := b9.cell 7 rfl
  clear b9
  obtain ⟨nws, hsr0, hnm0⟩ := ms_news (E7.out.fc 2 rfl)
  have hsr := Lib.hid hsr0
  have E8 := Lib.hid (E7.out.note (.mc nws dn) hnm0)
  clear E7
  clear hsr0 hnm0
  go_wp2_with (at_builtin; refine wpList_appM (N := dn.length) rfl _ _ rfl E8.out 0 rfl ⟨Nat.le_refl _, Nat.zero_le _, rfl⟩ rfl rfl (hsr.out) (Nat.zero_add _) (by omega) ?_)
  intro lg lc ls w4 HL HT E90
  have E9 := Lib.hid (E90.out.note (.mc ls ([] ++ dn)) (mc_app (n := 0) (N := dn.length) (mc_nil _ _) ((E90.out.fc 0 rfl)) (Nat.le_refl _) rfl (Nat.zero_add _) HT.out))
  clear c3_1 c4_0 f4_0 c5_0 c6_1 f6_1 c7_3 c8_3 f8_3 c9_7 E4 E5 E6 E8 E90
  clear hsr HT
  have b10 := E9.out.bx 4 rfl
  have c10_0 := b10.cell 0 rfl
  have c10_1 := b10.cell 1 rfl
  have c10_2 := b10.cell 2 rfl
  have c10_3 := b10.cell 3 rfl
  have c10_4 := b10.cell 4 rfl
  have c10_5 := b10.cell 5 rfl
  have c10_6 := b10.cell 6 rfl
  have c10_7 := b10.cell 7 rfl
  have c10_8 := b10.cell 8 rfl
  clear b10
  have b11 := E9.out.bx 3 rfl
  have c11_0 := b11.cell 0 rfl
  clear b11
  go_wp2_with fail
  refine (rfind_n (S := ⟨nx, wt, ⟨fr, to_, kd, nm, body⟩, dn, tr⟩) hS.out hn.out (E9.out.fc 4 rfl)).mono ?_
  rintro e w5 ⟨rfl, hb⟩
  have E10 := Lib.hid (E9.out.below hb)
  clear c10_0 c10_1 c10_2 c10_3 c10_4 c10_5 c10_6 c10_7 c10_8 c11_0 E9 hb
  have t5 : ((dn.length : Int) == 1000) = false := by have := h9.out; simp; omega
  go_wp2_with fail
  go_loopg [10] (dn.length) (fun gk s10 wr => ∃ (k : Nat), s10 = .int .i64 (k : Int) ∧ Hid (Env D w [(lg, 24, ls), (w.heap.size + 1 + 1 + 1, 27, [.int .i64 0, .bool false, .int .i64 0, .int .i64 0, .int .i64 0, .int .i64 0, .slice none 0 0, .slice none 0 0, .int .i64 0]), (w.heap.size + 1 + 1, 24, [.int .i64 to2, .int .i64 fr2, .int .i64 kd3, .int .i64 nm2, .slice za body3.length zk]), (w.heap.size + 1, 24, [.int .i64 fr2, .int .i64 to2, .int .i64 kd2, .int .i64 nm2, .slice ya body2.length yk]), (w.heap.size, 27, [.int .i64 nx, .bool wt, .int .i64 fr, .int .i64 to_, .int .i64 kd, .int .i64 nm, .slice xa body.length xk, .slice da dn.length dj, .int .i64 tr])] [.mc ls dn, .mc nws dn, .bs (.slice za body3.length zk) body3, .bs (.slice ya body2.length yk) body2, .ms (.slice da dn.length dj) dn, .bs (.slice xa body.length xk) body] wr) ∧ Hid (k ≤ fi ∧ gk = dn.length - k))
  case atStart => exact ⟨0, rfl, Lib.hid E10.out, Lib.hid ⟨Nat.zero_le _, rfl⟩⟩
  case round =>
    clear E10
    obtain ⟨k, rfl, EL, HA⟩ := hrel
    obtain ⟨a1, a2⟩ := HA.out
    clear HA
    have a4 : fi ≤ dn.length := hfo.out.1
    by_cases hy : k = fi
    · have hy2 : fi = k := hy.symm; clear hy; subst hy2
      by_cases hz : fi = dn.length
      · have t1 : decide ((fi : Int) < (dn.length : Int)) = false := decide_eq_false (by omega)
        have HZ := Lib.hid hz; clear hz
        have hge : dn.length ≤ fi := by have := HZ.out; omega
        have hlc : fi ≤ lc := by have := HL.out; omega
        by_cases hq2 : fi = lc
        · subst hq2
          go_wp2_with fail
          have E11 := Lib.hid EL.out.drew
          clear EL
          refine wp_region_held_drew (S := fun w' => True) (by kernel_rfl) (trivial) (fun hHeld => ?_)
          generalize wr.drew = w6 at *
          refine takeW (i := 0) (some 74) (v := ?_) rfl rfl (by kernel_rfl) (by kernel_rfl) (by kernel_rfl) (fun _ _ _ h => h) (by rfl) (by assumption) ?_ ?_
          rotate_left
          · (intro wS hSw; (try dsimp only at hSw); go_simp; try with_reducible rfl)
          try simp only [Act.put, List.setIfInBounds_toArray, List.set_cons_zero, List.set_cons_succ]
          refine takeW (i := 1) (some 75) (v := ?_) rfl rfl (by kernel_rfl) (by kernel_rfl) (by kernel_rfl) (fun _ _ _ h => h) (by rfl) (by assumption) ?_ ?_
          rotate_left
          · (intro wS hSw; (try dsimp only at hSw); go_simp; try with_reducible rfl)
          try simp only [Act.put, List.setIfInBounds_toArray, List.set_cons_zero, List.set_cons_succ]
          refine takeW (i := 2) (some 76) (v := ?_) rfl rfl (by kernel_rfl) (by kernel_rfl) (by kernel_rfl) (fun _ _ _ h => h) (by rfl) (by assumption) ?_ ?_
          rotate_left
          · (intro wS hSw; (try dsimp only at hSw); go_simp; try with_reducible rfl)
          try simp only [Act.put, List.setIfInBounds_toArray, List.set_cons_zero, List.set_cons_succ]
          refine takeW (i := 3) (some 77) (v := .bool false) rfl rfl (by kernel_rfl) (by kernel_rfl) (by kernel_rfl) (fun _ _ _ h => h) (by rfl) (by assumption) ?_ ?_
          · (intro wS hSw; (try dsimp only at hSw); go_simp; (try simp); (try omega))
          try simp only [Act.put, List.setIfInBounds_toArray, List.set_cons_zero, List.set_cons_succ]
          refine takeW (i := 4) (some 78) (v := ?_) rfl rfl (by kernel_rfl) (by kernel_rfl) (by kernel_rfl) (fun _ _ _ h => h) (by rfl) (by assumption) ?_ ?_
          rotate_left
          · (intro wS hSw; (try dsimp only at hSw); go_simp; try with_reducible rfl)
          try simp only [Act.put, List.setIfInBounds_toArray, List.set_cons_zero, List.set_cons_succ]
          refine takeU (i := 5) (some 79) rfl rfl (by kernel_rfl) (by kernel_rfl) (by kernel_rfl) (fun _ _ _ h => h) (by rfl) (by assumption) ?_
          try simp only [Act.put, List.setIfInBounds_toArray, List.set_cons_zero, List.set_cons_succ]
          refine takeU (i := 6) (some 80) rfl rfl (by kernel_rfl) (by kernel_rfl) (by kernel_rfl) (fun _ _ _ h => h) (by rfl) (by assumption) ?_
          try simp only [Act.put, List.setIfInBounds_toArray, List.set_cons_zero, List.set_cons_succ]
          refine takeU (i := 7) (some 81) rfl rfl (by kernel_rfl) (by kernel_rfl) (by kernel_rfl) (fun _ _ _ h => h) (by rfl) (by assumption) ?_
          try simp only [Act.put, List.setIfInBounds_toArray, List.set_cons_zero, List.set_cons_succ]
          refine takeU (i := 8) (some 82) rfl rfl (by kernel_rfl) (by kernel_rfl) (by kernel_rfl) (fun _ _ _ h => h) (by rfl) (by assumption) ?_
          try simp only [Act.put, List.setIfInBounds_toArray, List.set_cons_zero, List.set_cons_succ]
          refine takeU (i := 9) (some 83) rfl rfl (by kernel_rfl) (by kernel_rfl) (by kernel_rfl) (fun _ _ _ h => h) (by rfl) (by assumption) ?_
          try simp only [Act.put, List.setIfInBounds_toArray, List.set_cons_zero, List.set_cons_succ]
          refine takeU (i := 10) (some 84) rfl rfl (by kernel_rfl) (by kernel_rfl) (by kernel_rfl) (fun _ _ _ h => h) (by rfl) (by assumption) ?_
          try simp only [Act.put, List.setIfInBounds_toArray, List.set_cons_zero, List.set_cons_succ]
          refine takeU (i := 11) (some 85) rfl rfl (by kernel_rfl) (by kernel_rfl) (by kernel_rfl) (fun _ _ _ h => h) (by rfl) (by assumption) ?_
          try simp only [Act.put, List.setIfInBounds_toArray, List.set_cons_zero, List.set_cons_succ]
          refine takeU (i := 12) (some 86) rfl rfl (by kernel_rfl) (by kernel_rfl) (by kernel_rfl) (fun _ _ _ h => h) (by rfl) (by assumption) ?_
          try simp only [Act.put, List.setIfInBounds_toArray, List.set_cons_zero, List.set_cons_succ]
          refine takeW (i := 13) (some 87) (v := ?_) rfl rfl (by kernel_rfl) (by kernel_rfl) (by kernel_rfl) (fun _ _ _ h => h) (by rfl) (by assumption) ?_ ?_
          rotate_left
          · (intro wS hSw; (try dsimp only at hSw); go_simp; try with_reducible rfl)
          try simp only [Act.put, List.setIfInBounds_toArray, List.set_cons_zero, List.set_cons_succ]
          refine wpAnyH_done (by kernel_rfl) ?_ _
          have E12 := Lib.hid ((E11.out.push 24 [] (w6.heap.size) (by simp)))
          go_wp2_with (at_builtin; refine wpList_appM (N := fi) rfl _ _ rfl E12.out 0 rfl ⟨Nat.le_refl _, Nat.zero_le _, rfl⟩ rfl rfl ((E12.out.bx 1 rfl).srcTake (E12.out.fc 0 rfl) (by have := HL.out; omega) a4) (Nat.zero_add _) (by omega) ?_)
          intro ng nc ns w7 NL NT E130
          have E13 := Lib.hid (E130.out.note (.mc ns ([] ++ dn.take fi)) (mc_app (n := 0) (N := fi) (mc_nil _ _) (mc_take (E130.out.fc 0 rfl) fi) (Nat.le_refl _) rfl (by simp; omega) NT.out))
          clear E11 E12 E130
          clear NT
          have b12 := E13.out.bx 3 rfl
          have c12_0 := b12.cell 0 rfl
          have c12_1 := b12.cell 1 rfl
          have c12_2 := b12.cell 2 rfl
          have c12_3 := b12.cell 3 rfl
          have c12_4 := b12.cell 4 rfl
          clear b12
          have E14 := Lib.hid ((E13.out.push 24 [.int .i64 to2, .int .i64 fr2, .int .i64 kd3, .int .i64 nm2, .slice za body3.length zk] (w7.heap.size) (by simp)))
          go_wp2_with (at_builtin; refine wpList_appM (N := fi + 1) rfl _ _ rfl E14.out 1 rfl NL.out rfl rfl ((E14.out.bx 0 rfl).src 0 1 rfl (by intro j u hj; simpa using hj) (by intro u hu; simp at hu; rcases hu with rfl | rfl | rfl | rfl | rfl <;> rfl)) rfl (by omega) ?_)
          intro og oc os w8 OL OT E150
          have E15 := Lib.hid (E150.out.note (.mc os (dn.take fi ++ [⟨to2, fr2, kd3, nm2, body3⟩])) (mc_app (n := fi) (N := fi + 1) ((E150.out.fc 0 rfl)) (mc_one' (M := ⟨to2, fr2, kd3, nm2, body3⟩) (E150.out.fc 3 rfl)) (by have := NL.out; omega) (by simp; omega) rfl OT.out))
          clear c12_0 c12_1 c12_2 c12_3 c12_4 E13 E14 E150
          clear OT NL
          go_wp2_with (at_builtin; refine wpList_appM (N := dn.length + 1) rfl _ _ rfl E15.out 1 rfl OL.out rfl rfl (SrcM.zero _ _) (by have := HZ.out; omega) (by omega) ?_)
          intro pg pc ps w9 PL PT E160
          have E16 := Lib.hid (E160.out.note (.mc ps ((dn.take fi ++ [⟨to2, fr2, kd3, nm2, body3⟩]) ++ dn.drop fi)) (mc_app (n := fi + 1) (N := dn.length + 1) (cs := os) (news := []) ((E160.out.fc 0 rfl)) ((by have := HZ.out; rw [List.drop_eq_nil_of_le (by omega)]; exact mc_nil _ _ : Fct.at _ _ (.mc [] (dn.drop fi)))) (by have := OL.out; omega) (by simp; omega) (by simp; omega) (PT.out.trans (List.append_nil _).symm)))
          clear E15 E160
          have b13 := E16.out.bx 6 rfl
          have c13_7 := b13.cell 7 rfl
          have f13_7 := b13.frozen 7
          clear b13
          clear PT OL
          have E17 : Hid (Env D w [(w7.heap.size, 24, [.int .i64 to2, .int .i64 fr2, .int .i64 kd3, .int .i64 nm2, .slice za body3.length zk]), (pg, 24, ps), (lg, 24, ls), (w.heap.size + 1 + 1 + 1, 27, [.int .i64 0, .bool false, .int .i64 0, .int .i64 0, .int .i64 0, .int .i64 0, .slice none 0 0, .slice none 0 0, .int .i64 0]), (w.heap.size + 1 + 1, 24, [.int .i64 to2, .int .i64 fr2, .int .i64 kd3, .int .i64 nm2, .slice za body3.length zk]), (w.heap.size + 1, 24, [.int .i64 fr2, .int .i64 to2, .int .i64 kd2, .int .i64 nm2, .slice ya body2.length yk]), (w.heap.size, 27, [.int .i64 nx, .bool wt, .int .i64 fr, .int .i64 to_, .int .i64 kd, .int .i64 nm, .slice xa body.length xk, .slice (some ⟨pg, 0, none⟩) (dn.length + 1) pc, .int .i64 tr])] [.mc ps ((dn.take fi ++ [⟨to2, fr2, kd3, nm2, body3⟩]) ++ dn.drop fi), .mc os (dn.take fi ++ [⟨to2, fr2, kd3, nm2, body3⟩]), .mc ns (dn.take fi), .mc ls dn, .mc nws dn, .bs (.slice za body3.length zk) body3, .bs (.slice ya body2.length yk) body2, .ms (.slice da dn.length dj) dn, .bs (.slice xa body.length xk) body] _) := Lib.hid ((E16.out.set 6 7 (.slice (some ⟨pg, 0, none⟩) (dn.length + 1) pc) rfl))
          have b14 := E17.out.bx 6 rfl
          have c14_0 := b14.cell 0 rfl
          have c14_1 := b14.cell 1 rfl
          have c14_2 := b14.cell 2 rfl
          have c14_3 := b14.cell 3 rfl
          have c14_4 := b14.cell 4 rfl
          have c14_5 := b14.cell 5 rfl
          have c14_6 := b14.cell 6 rfl
          have c14_7 := b14.cell 7 rfl
          have c14_8 := b14.cell 8 rfl
          clear b14
          have b15 := E17.out.bx 3 rfl
          have c15_0 := b15.cell 0 rfl
          have c15_1 := b15.cell 1 rfl
          have c15_2 := b15.cell 2 rfl
          have c15_3 := b15.cell 3 rfl
          have c15_4 := b15.cell 4 rfl
          have c15_5 := b15.cell 5 rfl
          have c15_6 := b15.cell 6 rfl
          have c15_7 := b15.cell 7 rfl
          have c15_8 := b15.cell 8 rfl
          have f15_0 := b15.frozen 0
          have f15_1 := b15.frozen 1
          have f15_2 := b15.frozen 2
          have f15_3 := b15.frozen 3
          have f15_4 := b15.frozen 4
          have f15_5 := b15.frozen 5
          have f15_6 := b15.frozen 6
          have f15_7 := b15.frozen 7
          have f15_8 := b15.frozen 8
          clear b15
          have hln : (insL dn fi ⟨to2, fr2, kd3, nm2, body3⟩).length = dn.length + 1 := insL_length _ _ _ a4
          go_wp2
          have E18 : Hid (Env D w [(w7.heap.size, 24, [.int .i64 to2, .int .i64 fr2, .int .i64 kd3, .int .i64 nm2, .slice za body3.length zk]), (pg, 24, ps), (lg, 24, ls), (w.heap.size + 1 + 1 + 1, 27, [.int .i64 nx, .bool wt, .int .i64 fr, .int .i64 to_, .int .i64 kd, .int .i64 nm, .slice xa body.length xk, .slice (some ⟨pg, 0, none⟩) (dn.length + 1) pc, .int .i64 tr]), (w.heap.size + 1 + 1, 24, [.int .i64 to2, .int .i64 fr2, .int .i64 kd3, .int .i64 nm2, .slice za body3.length zk]), (w.heap.size + 1, 24, [.int .i64 fr2, .int .i64 to2, .int .i64 kd2, .int .i64 nm2, .slice ya body2.length yk]), (w.heap.size, 27, [.int .i64 nx, .bool wt, .int .i64 fr, .int .i64 to_, .int .i64 kd, .int .i64 nm, .slice xa body.length xk, .slice (some ⟨pg, 0, none⟩) (dn.length + 1) pc, .int .i64 tr])] [.mc ps ((dn.take fi ++ [⟨to2, fr2, kd3, nm2, body3⟩]) ++ dn.drop fi), .mc os (dn.take fi ++ [⟨to2, fr2, kd3, nm2, body3⟩]), .mc ns (dn.take fi), .mc ls dn, .mc nws dn, .bs (.slice za body3.length zk) body3, .bs (.slice ya body2.length yk) body2, .ms (.slice da dn.length dj) dn, .bs (.slice xa body.length xk) body] _) := Lib.hid ((((((((((E17.out.set 3 0 (.int .i64 nx) rfl).set 3 1 (.bool wt) rfl).set 3 2 (.int .i64 fr) rfl).set 3 3 (.int .i64 to_) rfl).set 3 4 (.int .i64 kd) rfl).set 3 5 (.int .i64 nm) rfl).set 3 6 (.slice xa body.length xk) rfl).set 3 7 (.slice (some ⟨pg, 0, none⟩) (dn.length + 1) pc) rfl).set 3 8 (.int .i64 tr) rfl))
          have hfin := E18.out
          have q16 := (hfin.bx 3 rfl).cell 0 rfl
          have q17 := (hfin.bx 3 rfl).cell 1 rfl
          have q18 := (hfin.bx 3 rfl).cell 2 rfl
          have q19 := (hfin.bx 3 rfl).cell 3 rfl
          have q20 := (hfin.bx 3 rfl).cell 4 rfl
          have q21 := (hfin.bx 3 rfl).cell 5 rfl
          have q22 := (hfin.bx 3 rfl).cell 6 rfl
          have q23 := (hfin.bx 3 rfl).cell 7 rfl
          have q24 := (hfin.bx 3 rfl).cell 8 rfl
          exact bodyPost_ret (v := .tuple #[.agg #[.int .i64 nx, .bool wt, .int .i64 fr, .int .i64 to_, .int .i64 kd, .int .i64 nm, .slice xa body.length xk, .slice (some ⟨pg, 0, none⟩) (dn.length + 1) pc, .int .i64 tr], .int .i64 0]) (by simp [results, Try.results18, go_sem, q16, q17, q18, q19, q20, q21, q22, q23, q24]) rfl ⟨⟨_, _, some ⟨pg, 0, none⟩, pc, by dsimp only; rw [hln], (Lib.hid (hfin.out 8 rfl)), Lib.hid (Ms.ofBox (hfin.bx 1 rfl) (mc_insL (hfin.fc 0 rfl)) (by rw [hln]; exact PL.out.1) PL.out.2.1 (fun _ hd => hd.2) (.inr (hfin.bx 1 rfl).1))⟩, hfin.bel⟩
        · have hlc2 : ¬ (lc = fi) := fun e => hq2 e.symm
          clear hq2
          go_wp2_with fail
          have E11 := Lib.hid EL.out.drew
          clear EL
          refine wp_region_held_drew (S := fun w' => True) (by kernel_rfl) (trivial) (fun hHeld => ?_)
          generalize wr.drew = w6 at *
          refine takeW (i := 0) (some 74) (v := ?_) rfl rfl (by kernel_rfl) (by kernel_rfl) (by kernel_rfl) (fun _ _ _ h => h) (by rfl) (by assumption) ?_ ?_
          rotate_left
          · (intro wS hSw; (try dsimp only at hSw); go_simp; try with_reducible rfl)
          try simp only [Act.put, List.setIfInBounds_toArray, List.set_cons_zero, List.set_cons_succ]
          refine takeW (i := 1) (some 75) (v := ?_) rfl rfl (by kernel_rfl) (by kernel_rfl) (by kernel_rfl) (fun _ _ _ h => h) (by rfl) (by assumption) ?_ ?_
          rotate_left
          · (intro wS hSw; (try dsimp only at hSw); go_simp; try with_reducible rfl)
          try simp only [Act.put, List.setIfInBounds_toArray, List.set_cons_zero, List.set_cons_succ]
          refine takeW (i := 2) (some 76) (v := ?_) rfl rfl (by kernel_rfl) (by kernel_rfl) (by kernel_rfl) (fun _ _ _ h => h) (by rfl) (by assumption) ?_ ?_
          rotate_left
          · (intro wS hSw; (try dsimp only at hSw); go_simp; try with_reducible rfl)
          try simp only [Act.put, List.setIfInBounds_toArray, List.set_cons_zero, List.set_cons_succ]
          refine takeW (i := 3) (some 77) (v := .bool false) rfl rfl (by kernel_rfl) (by kernel_rfl) (by kernel_rfl) (fun _ _ _ h => h) (by rfl) (by assumption) ?_ ?_
          · (intro wS hSw; (try dsimp only at hSw); go_simp; (try simp); (try omega))
          try simp only [Act.put, List.setIfInBounds_toArray, List.set_cons_zero, List.set_cons_succ]
          refine takeW (i := 4) (some 78) (v := ?_) rfl rfl (by kernel_rfl) (by kernel_rfl) (by kernel_rfl) (fun _ _ _ h => h) (by rfl) (by assumption) ?_ ?_
          rotate_left
          · (intro wS hSw; (try dsimp only at hSw); go_simp; try with_reducible rfl)
          try simp only [Act.put, List.setIfInBounds_toArray, List.set_cons_zero, List.set_cons_succ]
          refine takeU (i := 5) (some 79) rfl rfl (by kernel_rfl) (by kernel_rfl) (by kernel_rfl) (fun _ _ _ h => h) (by rfl) (by assumption) ?_
          try simp only [Act.put, List.setIfInBounds_toArray, List.set_cons_zero, List.set_cons_succ]
          refine takeU (i := 6) (some 80) rfl rfl (by kernel_rfl) (by kernel_rfl) (by kernel_rfl) (fun _ _ _ h => h) (by rfl) (by assumption) ?_
          try simp only [Act.put, List.setIfInBounds_toArray, List.set_cons_zero, List.set_cons_succ]
          refine takeU (i := 7) (some 81) rfl rfl (by kernel_rfl) (by kernel_rfl) (by kernel_rfl) (fun _ _ _ h => h) (by rfl) (by assumption) ?_
          try simp only [Act.put, List.setIfInBounds_toArray, List.set_cons_zero, List.set_cons_succ]
          refine takeU (i := 8) (some 82) rfl rfl (by kernel_rfl) (by kernel_rfl) (by kernel_rfl) (fun _ _ _ h => h) (by rfl) (by assumption) ?_
          try simp only [Act.put, List.setIfInBounds_toArray, List.set_cons_zero, List.set_cons_succ]
          refine takeU (i := 9) (some 83) rfl rfl (by kernel_rfl) (by kernel_rfl) (by kernel_rfl) (fun _ _ _ h => h) (by rfl) (by assumption) ?_
          try simp only [Act.put, List.setIfInBounds_toArray, List.set_cons_zero, List.set_cons_succ]
          refine takeU (i := 10) (some 84) rfl rfl (by kernel_rfl) (by kernel_rfl) (by kernel_rfl) (fun _ _ _ h => h) (by rfl) (by assumption) ?_
          try simp only [Act.put, List.setIfInBounds_toArray, List.set_cons_zero, List.set_cons_succ]
          refine takeU (i := 11) (some 85) rfl rfl (by kernel_rfl) (by kernel_rfl) (by kernel_rfl) (fun _ _ _ h => h) (by rfl) (by assumption) ?_
          try simp only [Act.put, List.setIfInBounds_toArray, List.set_cons_zero, List.set_cons_succ]
          refine takeU (i := 12) (some 86) rfl rfl (by kernel_rfl) (by kernel_rfl) (by kernel_rfl) (fun _ _ _ h => h) (by rfl) (by assumption) ?_
          try simp only [Act.put, List.setIfInBounds_toArray, List.set_cons_zero, List.set_cons_succ]
          refine takeW (i := 13) (some 87) (v := ?_) rfl rfl (by kernel_rfl) (by kernel_rfl) (by kernel_rfl) (fun _ _ _ h => h) (by rfl) (by assumption) ?_ ?_
          rotate_left
          · (intro wS hSw; (try dsimp only at hSw); go_simp; try with_reducible rfl)
          try simp only [Act.put, List.setIfInBounds_toArray, List.set_cons_zero, List.set_cons_succ]
          refine wpAnyH_done (by kernel_rfl) ?_ _
          have E12 := Lib.hid ((E11.out.push 24 [] (w6.heap.size) (by simp)))
          go_wp2_with (at_builtin; refine wpList_appM (N := fi) rfl _ _ rfl E12.out 0 rfl ⟨Nat.le_refl _, Nat.zero_le _, rfl⟩ rfl rfl ((E12.out.bx 1 rfl).srcTake (E12.out.fc 0 rfl) (by have := HL.out; omega) a4) (Nat.zero_add _) (by omega) ?_)
          intro ng nc ns w7 NL NT E130
          have E13 := Lib.hid (E130.out.note (.mc ns ([] ++ dn.take fi)) (mc_app (n := 0) (N := fi) (mc_nil _ _) (mc_take (E130.out.fc 0 rfl) fi) (Nat.le_refl _) rfl (by simp; omega) NT.out))
          clear E11 E12 E130
          clear NT
          have b12 := E13.out.bx 3 rfl
          have c12_0 := b12.cell 0 rfl
          have c12_1 := b12.cell 1 rfl
          have c12_2 := b12.cell 2 rfl
          have c12_3 := b12.cell 3 rfl
          have c12_4 := b12.cell 4 rfl
          clear b12
          have E14 := Lib.hid ((E13.out.push 24 [.int .i64 to2, .int .i64 fr2, .int .i64 kd3, .int .i64 nm2, .slice za body3.length zk] (w7.heap.size) (by simp)))
          go_wp2_with (at_builtin; refine wpList_appM (N := fi + 1) rfl _ _ rfl E14.out 1 rfl NL.out rfl rfl ((E14.out.bx 0 rfl).src 0 1 rfl (by intro j u hj; simpa using hj) (by intro u hu; simp at hu; rcases hu with rfl | rfl | rfl | rfl | rfl <;> rfl)) rfl (by omega) ?_)
          intro og oc os w8 OL OT E150
          have E15 := Lib.hid (E150.out.note (.mc os (dn.take fi ++ [⟨to2, fr2, kd3, nm2, body3⟩])) (mc_app (n := fi) (N := fi + 1) ((E150.out.fc 0 rfl)) (mc_one' (M := ⟨to2, fr2, kd3, nm2, body3⟩) (E150.out.fc 3 rfl)) (by have := NL.out; omega) (by simp; omega) rfl OT.out))
          clear c12_0 c12_1 c12_2 c12_3 c12_4 E13 E14 E150
          clear OT NL
          go_wp2_with (at_builtin; refine wpList_appM (N := dn.length + 1) rfl _ _ rfl E15.out 1 rfl OL.out rfl rfl (SrcM.zero _ _) (by have := HZ.out; omega) (by omega) ?_)
          intro pg pc ps w9 PL PT E160
          have E16 := Lib.hid (E160.out.note (.mc ps ((dn.take fi ++ [⟨to2, fr2, kd3, nm2, body3⟩]) ++ dn.drop fi)) (mc_app (n := fi + 1) (N := dn.length + 1) (cs := os) (news := []) ((E160.out.fc 0 rfl)) ((by have := HZ.out; rw [List.drop_eq_nil_of_le (by omega)]; exact mc_nil _ _ : Fct.at _ _ (.mc [] (dn.drop fi)))) (by have := OL.out; omega) (by simp; omega) (by simp; omega) (PT.out.trans (List.append_nil _).symm)))
          clear E15 E160
          have b13 := E16.out.bx 6 rfl
          have c13_7 := b13.cell 7 rfl
          have f13_7 := b13.frozen 7
          clear b13
          clear PT OL
          have E17 : Hid (Env D w [(w7.heap.size, 24, [.int .i64 to2, .int .i64 fr2, .int .i64 kd3, .int .i64 nm2, .slice za body3.length zk]), (pg, 24, ps), (lg, 24, ls), (w.heap.size + 1 + 1 + 1, 27, [.int .i64 0, .bool false, .int .i64 0, .int .i64 0, .int .i64 0, .int .i64 0, .slice none 0 0, .slice none 0 0, .int .i64 0]), (w.heap.size + 1 + 1, 24, [.int .i64 to2, .int .i64 fr2, .int .i64 kd3, .int .i64 nm2, .slice za body3.length zk]), (w.heap.size + 1, 24, [.int .i64 fr2, .int .i64 to2, .int .i64 kd2, .int .i64 nm2, .slice ya body2.length yk]), (w.heap.size, 27, [.int .i64 nx, .bool wt, .int .i64 fr, .int .i64 to_, .int .i64 kd, .int .i64 nm, .slice xa body.length xk, .slice (some ⟨pg, 0, none⟩) (dn.length + 1) pc, .int .i64 tr])] [.mc ps ((dn.take fi ++ [⟨to2, fr2, kd3, nm2, body3⟩]) ++ dn.drop fi), .mc os (dn.take fi ++ [⟨to2, fr2, kd3, nm2, body3⟩]), .mc ns (dn.take fi), .mc ls dn, .mc nws dn, .bs (.slice za body3.length zk) body3, .bs (.slice ya body2.length yk) body2, .ms (.slice da dn.length dj) dn, .bs (.slice xa body.length xk) body] _) := Lib.hid ((E16.out.set 6 7 (.slice (some ⟨pg, 0, none⟩) (dn.length + 1) pc) rfl))
          have b14 := E17.out.bx 6 rfl
          have c14_0 := b14.cell 0 rfl
          have c14_1 := b14.cell 1 rfl
          have c14_2 := b14.cell 2 rfl
          have c14_3 := b14.cell 3 rfl
          have c14_4 := b14.cell 4 rfl
          have c14_5 := b14.cell 5 rfl
          have c14_6 := b14.cell 6 rfl
          have c14_7 := b14.cell 7 rfl
          have c14_8 := b14.cell 8 rfl
          clear b14
          have b15 := E17.out.bx 3 rfl
          have c15_0 := b15.cell 0 rfl
          have c15_1 := b15.cell 1 rfl
          have c15_2 := b15.cell 2 rfl
          have c15_3 := b15.cell 3 rfl
          have c15_4 := b15.cell 4 rfl
          have c15_5 := b15.cell 5 rfl
          have c15_6 := b15.cell 6 rfl
          have c15_7 := b15.cell 7 rfl
          have c15_8 := b15.cell 8 rfl
          have f15_0 := b15.frozen 0
          have f15_1 := b15.frozen 1
          have f15_2 := b15.frozen 2
          have f15_3 := b15.frozen 3
          have f15_4 := b15.frozen 4
          have f15_5 := b15.frozen 5
          have f15_6 := b15.frozen 6
          have f15_7 := b15.frozen 7
          have f15_8 := b15.frozen 8
          clear b15
          have hln : (insL dn fi ⟨to2, fr2, kd3, nm2, body3⟩).length = dn.length + 1 := insL_length _ _ _ a4
          go_wp2
          have E18 : Hid (Env D w [(w7.heap.size, 24, [.int .i64 to2, .int .i64 fr2, .int .i64 kd3, .int .i64 nm2, .slice za body3.length zk]), (pg, 24, ps), (lg, 24, ls), (w.heap.size + 1 + 1 + 1, 27, [.int .i64 nx, .bool wt, .int .i64 fr, .int .i64 to_, .int .i64 kd, .int .i64 nm, .slice xa body.length xk, .slice (some ⟨pg, 0, none⟩) (dn.length + 1) pc, .int .i64 tr]), (w.heap.size + 1 + 1, 24, [.int .i64 to2, .int .i64 fr2, .int .i64 kd3, .int .i64 nm2, .slice za body3.length zk]), (w.heap.size + 1, 24, [.int .i64 fr2, .int .i64 to2, .int .i64 kd2, .int .i64 nm2, .slice ya body2.length yk]), (w.heap.size, 27, [.int .i64 nx, .bool wt, .int .i64 fr, .int .i64 to_, .int .i64 kd, .int .i64 nm, .slice xa body.length xk, .slice (some ⟨pg, 0, none⟩) (dn.length + 1) pc, .int .i64 tr])] [.mc ps ((dn.take fi ++ [⟨to2, fr2, kd3, nm2, body3⟩]) ++ dn.drop fi), .mc os (dn.take fi ++ [⟨to2, fr2, kd3, nm2, body3⟩]), .mc ns (dn.take fi), .mc ls dn, .mc nws dn, .bs (.slice za body3.length zk) body3, .bs (.slice ya body2.length yk) body2, .ms (.slice da dn.length dj) dn, .bs (.slice xa body.length xk) body] _) := Lib.hid ((((((((((E17.out.set 3 0 (.int .i64 nx) rfl).set 3 1 (.bool wt) rfl).set 3 2 (.int .i64 fr) rfl).set 3 3 (.int .i64 to_) rfl).set 3 4 (.int .i64 kd) rfl).set 3 5 (.int .i64 nm) rfl).set 3 6 (.slice xa body.length xk) rfl).set 3 7 (.slice (some ⟨pg, 0, none⟩) (dn.length + 1) pc) rfl).set 3 8 (.int .i64 tr) rfl))
          have hfin := E18.out
          have q16 := (hfin.bx 3 rfl).cell 0 rfl
          have q17 := (hfin.bx 3 rfl).cell 1 rfl
          have q18 := (hfin.bx 3 rfl).cell 2 rfl
          have q19 := (hfin.bx 3 rfl).cell 3 rfl
          have q20 := (hfin.bx 3 rfl).cell 4 rfl
          have q21 := (hfin.bx 3 rfl).cell 5 rfl
          have q22 := (hfin.bx 3 rfl).cell 6 rfl
          have q23 := (hfin.bx 3 rfl).cell 7 rfl
          have q24 := (hfin.bx 3 rfl).cell 8 rfl
          exact bodyPost_ret (v := .tuple #[.agg #[.int .i64 nx, .bool wt, .int .i64 fr, .int .i64 to_, .int .i64 kd, .int .i64 nm, .slice xa body.length xk, .slice (some ⟨pg, 0, none⟩) (dn.length + 1) pc, .int .i64 tr], .int .i64 0]) (by simp [results, Try.results18, go_sem, q16, q17, q18, q19, q20, q21, q22, q23, q24]) rfl ⟨⟨_, _, some ⟨pg, 0, none⟩, pc, by dsimp only; rw [hln], (Lib.hid (hfin.out 8 rfl)), Lib.hid (Ms.ofBox (hfin.bx 1 rfl) (mc_insL (hfin.fc 0 rfl)) (by rw [hln]; exact PL.out.1) PL.out.2.1 (fun _ hd => hd.2) (.inr (hfin.bx 1 rfl).1))⟩, hfin.bel⟩
      · have hkd : fi < dn.length := by omega
        clear hz
        have hlc : fi ≤ lc := by have := HL.out; omega
        have hlc2 : ¬ (lc = fi) := by have := HL.out; omega
        have t1 : decide ((fi : Int) < (dn.length : Int)) = true := decide_eq_true (by omega)
        have t2 : decide (dn[fi].to_ < fr2) = false := decide_eq_false (by have := hfo.out.2.2.1 fi hkd (Nat.le_refl _); omega)
        obtain ⟨m0, m1, m2, m3, ea, ek, m4, -⟩ := EL.out.fc 0 rfl fi hkd
        go_wp2_with fail
        have E11 := Lib.hid EL.out.drew
        clear EL
        refine wp_region_held_drew (S := fun w' => w'.cell? ⟨w.heap.size + 1 + 1, 1, none⟩ = some (.int .i64 fr2) ∧ w'.cell? ⟨lg, fi * 5 + 1, none⟩ = some (.int .i64 dn[fi].to_)) (by kernel_rfl) (⟨((E11.out.bx 2 rfl).cell 1 rfl), (E11.out.bx 0 rfl).cell (fi * 5 + 1) m1⟩) (fun hHeld => ?_)
        generalize wr.drew = w6 at *
        refine takeW (i := 0) (some 74) (v := ?_) rfl rfl (by kernel_rfl) (by kernel_rfl) (by kernel_rfl) (fun _ _ _ h => h) (by rfl) (by assumption) ?_ ?_
        rotate_left
        · (intro wS hSw; (try dsimp only at hSw); go_simp; try with_reducible rfl)
        try simp only [Act.put, List.setIfInBounds_toArray, List.set_cons_zero, List.set_cons_succ]
        refine takeW (i := 1) (some 75) (v := ?_) rfl rfl (by kernel_rfl) (by kernel_rfl) (by kernel_rfl) (fun _ _ _ h => h) (by rfl) (by assumption) ?_ ?_
        rotate_left
        · (intro wS hSw; (try dsimp only at hSw); go_simp; try with_reducible rfl)
        try simp only [Act.put, List.setIfInBounds_toArray, List.set_cons_zero, List.set_cons_succ]
        refine takeW (i := 2) (some 76) (v := ?_) rfl rfl (by kernel_rfl) (by kernel_rfl) (by kernel_rfl) (fun _ _ _ h => h) (by rfl) (by assumption) ?_ ?_
        rotate_left
        · (intro wS hSw; (try dsimp only at hSw); go_simp; try with_reducible rfl)
        try simp only [Act.put, List.setIfInBounds_toArray, List.set_cons_zero, List.set_cons_succ]
        refine takeW (i := 3) (some 77) (v := ?_) rfl rfl (by kernel_rfl) (by kernel_rfl) (by kernel_rfl) (fun _ _ _ h => h) (by rfl) (by assumption) ?_ ?_
        rotate_left
        · (intro wS hSw; (try dsimp only at hSw); go_simp; try with_reducible rfl)
        try simp only [Act.put, List.setIfInBounds_toArray, List.set_cons_zero, List.set_cons_succ]
        refine takeW (i := 4) (some 78) (v := ?_) rfl rfl (by kernel_rfl) (by kernel_rfl) (by kernel_rfl) (fun _ _ _ h => h) (by rfl) (by assumption) ?_ ?_
        rotate_left
        · (intro wS hSw; (try dsimp only at hSw); go_simp; try with_reducible rfl)
        try simp only [Act.put, List.setIfInBounds_toArray, List.set_cons_zero, List.set_cons_succ]
        refine takeW (i := 5) (some 79) (v := ?_) rfl rfl (by kernel_rfl) (by kernel_rfl) (by kernel_rfl) (fun _ _ _ h => h) (by rfl) (by assumption) ?_ ?_
        rotate_left
        · (intro wS hSw; (try dsimp only at hSw); go_simp; try with_reducible rfl)
        try simp only [Act.put, List.setIfInBounds_toArray, List.set_cons_zero, List.set_cons_succ]
        refine takeW (i := 6) (some 80) (v := ?_) rfl rfl (by kernel_rfl) (by kernel_rfl) (by kernel_rfl) (fun _ _ _ h => h) (by rfl) (by assumption) ?_ ?_
        rotate_left
        · (intro wS hSw; (try dsimp only at hSw); go_simp; try with_reducible rfl)
        try simp only [Act.put, List.setIfInBounds_toArray, List.set_cons_zero, List.set_cons_succ]
        refine takeW (i := 7) (some 81) (v := ?_) rfl rfl (by kernel_rfl) (by kernel_rfl) (by kernel_rfl) (fun _ _ _ h => h) (by rfl) (by assumption) ?_ ?_
        rotate_left
        · (intro wS hSw; (try dsimp only at hSw); go_simp; try with_reducible rfl)
        try simp only [Act.put, List.setIfInBounds_toArray, List.set_cons_zero, List.set_cons_succ]
        refine takeW (i := 8) (some 82) (v := ?_) rfl rfl (by kernel_rfl) (by kernel_rfl) (by kernel_rfl) (fun _ _ _ h => h) (by rfl) (by assumption) ?_ ?_
        rotate_left
        · (intro wS hSw; (try dsimp only at hSw); go_simp; try with_reducible rfl)
        try simp only [Act.put, List.setIfInBounds_toArray, List.set_cons_zero, List.set_cons_succ]
        refine takeW (i := 9) (some 83) (v := ?_) rfl rfl (by kernel_rfl) (by kernel_rfl) (by kernel_rfl) (fun _ _ _ h => h) (by rfl) (by assumption) ?_ ?_
        rotate_left
        · (intro wS hSw; (try dsimp only at hSw); go_simp; try with_reducible rfl)
        try simp only [Act.put, List.setIfInBounds_toArray, List.set_cons_zero, List.set_cons_succ]
        refine takeW (i := 10) (some 84) (v := ?_) rfl rfl (by kernel_rfl) (by kernel_rfl) (by kernel_rfl) (fun _ _ _ h => h) (by rfl) (by assumption) ?_ ?_
        rotate_left
        · (intro wS hSw; (try dsimp only at hSw); go_simp; try with_reducible rfl)
        try simp only [Act.put, List.setIfInBounds_toArray, List.set_cons_zero, List.set_cons_succ]
        refine takeW (i := 11) (some 85) (v := ?_) rfl rfl (by kernel_rfl) (by kernel_rfl) (by kernel_rfl) (fun _ _ _ h => h) (by rfl) (by assumption) ?_ ?_
        rotate_left
        · (intro wS hSw; (try dsimp only at hSw); go_simp; try with_reducible rfl)
        try simp only [Act.put, List.setIfInBounds_toArray, List.set_cons_zero, List.set_cons_succ]
        refine takeW (i := 12) (some 86) (v := ?_) rfl rfl (by kernel_rfl) (by kernel_rfl) (by kernel_rfl) (fun _ _ _ h => h) (by rfl) (by assumption) ?_ ?_
        rotate_left
        · (intro wS hSw; (try dsimp only at hSw); go_simp; try with_reducible rfl)
        try simp only [Act.put, List.setIfInBounds_toArray, List.set_cons_zero, List.set_cons_succ]
        refine takeW (i := 13) (some 87) (v := ?_) rfl rfl (by kernel_rfl) (by kernel_rfl) (by kernel_rfl) (fun _ _ _ h => h) (by rfl) (by assumption) ?_ ?_
        rotate_left
        · (intro wS hSw; (try dsimp only at hSw); go_simp; try with_reducible rfl)
        try simp only [Act.put, List.setIfInBounds_toArray, List.set_cons_zero, List.set_cons_succ]
        refine wpAnyH_done (by kernel_rfl) ?_ _
        have E12 := Lib.hid ((E11.out.push 24 [] (w6.heap.size) (by simp)))
        go_wp2_with (at_builtin; refine wpList_appM (N := fi) rfl _ _ rfl E12.out 0 rfl ⟨Nat.le_refl _, Nat.zero_le _, rfl⟩ rfl rfl ((E12.out.bx 1 rfl).srcTake (E12.out.fc 0 rfl) (by have := HL.out; omega) a4) (Nat.zero_add _) (by omega) ?_)
        intro ng nc ns w7 NL NT E130
        have E13 := Lib.hid (E130.out.note (.mc ns ([] ++ dn.take fi)) (mc_app (n := 0) (N := fi) (mc_nil _ _) (mc_take (E130.out.fc 0 rfl) fi) (Nat.le_refl _) rfl (by simp; omega) NT.out))
        clear E11 E12 E130
        clear NT
        have b12 := E13.out.bx 3 rfl
        have c12_0 := b12.cell 0 rfl
        have c12_1 := b12.cell 1 rfl
        have c12_2 := b12.cell 2 rfl
        have c12_3 := b12.cell 3 rfl
        have c12_4 := b12.cell 4 rfl
        clear b12
        have E14 := Lib.hid ((E13.out.push 24 [.int .i64 to2, .int .i64 fr2, .int .i64 kd3, .int .i64 nm2, .slice za body3.length zk] (w7.heap.size) (by simp)))
        go_wp2_with (at_builtin; refine wpList_appM (N := fi + 1) rfl _ _ rfl E14.out 1 rfl NL.out rfl rfl ((E14.out.bx 0 rfl).src 0 1 rfl (by intro j u hj; simpa using hj) (by intro u hu; simp at hu; rcases hu with rfl | rfl | rfl | rfl | rfl <;> rfl)) rfl (by omega) ?_)
        intro og oc os w8 OL OT E150
        have E15 := Lib.hid (E150.out.note (.mc os (dn.take fi ++ [⟨to2, fr2, kd3, nm2, body3⟩])) (mc_app (n := fi) (N := fi + 1) ((E150.out.fc 0 rfl)) (mc_one' (M := ⟨to2, fr2, kd3, nm2, body3⟩) (E150.out.fc 3 rfl)) (by have := NL.out; omega) (by simp; omega) rfl OT.out))
        clear c12_0 c12_1 c12_2 c12_3 c12_4 E13 E14 E150
        clear OT NL
        go_wp2_with (at_builtin; refine wpList_appM (N := dn.length + 1) rfl _ _ rfl E15.out 1 rfl OL.out rfl rfl ((E15.out.bx 2 rfl).srcDrop (E15.out.fc 2 rfl) (by have := HL.out; omega) a4) (by omega) (by omega) ?_)
        intro pg pc ps w9 PL PT E160
        have E16 := Lib.hid (E160.out.note (.mc ps ((dn.take fi ++ [⟨to2, fr2, kd3, nm2, body3⟩]) ++ dn.drop fi)) (mc_app (n := fi + 1) (N := dn.length + 1) ((E160.out.fc 0 rfl)) (mc_drop (E160.out.fc 2 rfl) fi) (by have := OL.out; omega) (by simp; omega) (by simp; omega) PT.out))
        clear E15 E160
        have b13 := E16.out.bx 6 rfl
        have c13_7 := b13.cell 7 rfl
        have f13_7 := b13.frozen 7
        clear b13
        clear PT OL
        have E17 : Hid (Env D w [(w7.heap.size, 24, [.int .i64 to2, .int .i64 fr2, .int .i64 kd3, .int .i64 nm2, .slice za body3.length zk]), (pg, 24, ps), (lg, 24, ls), (w.heap.size + 1 + 1 + 1, 27, [.int .i64 0, .bool false, .int .i64 0, .int .i64 0, .int .i64 0, .int .i64 0, .slice none 0 0, .slice none 0 0, .int .i64 0]), (w.heap.size + 1 + 1, 24, [.int .i64 to2, .int .i64 fr2, .int .i64 kd3, .int .i64 nm2, .slice za body3.length zk]), (w.heap.size + 1, 24, [.int .i64 fr2, .int .i64 to2, .int .i64 kd2, .int .i64 nm2, .slice ya body2.length yk]), (w.heap.size, 27, [.int .i64 nx, .bool wt, .int .i64 fr, .int .i64 to_, .int .i64 kd, .int .i64 nm, .slice xa body.length xk, .slice (some ⟨pg, 0, none⟩) (dn.length + 1) pc, .int .i64 tr])] [.mc ps ((dn.take fi ++ [⟨to2, fr2, kd3, nm2, body3⟩]) ++ dn.drop fi), .mc os (dn.take fi ++ [⟨to2, fr2, kd3, nm2, body3⟩]), .mc ns (dn.take fi), .mc ls dn, .mc nws dn, .bs (.slice za body3.length zk) body3, .bs (.slice ya body2.length yk) body2, .ms (.slice da dn.length dj) dn, .bs (.slice xa body.length xk) body] _) := Lib.hid ((E16.out.set 6 7 (.slice (some ⟨pg, 0, none⟩) (dn.length + 1) pc) rfl))
        have b14 := E17.out.bx 6 rfl
        have c14_0 := b14.cell 0 rfl
        have c14_1 := b14.cell 1 rfl
        have c14_2 := b14.cell 2 rfl
        have c14_3 := b14.cell 3 rfl
        have c14_4 := b14.cell 4 rfl
        have c14_5 := b14.cell 5 rfl
        have c14_6 := b14.cell 6 rfl
        have c14_7 := b14.cell 7 rfl
        have c14_8 := b14.cell 8 rfl
        clear b14
        have b15 := E17.out.bx 3 rfl
        have c15_0 := b15.cell 0 rfl
        have c15_1 := b15.cell 1 rfl
        have c15_2 := b15.cell 2 rfl
        have c15_3 := b15.cell 3 rfl
        have c15_4 := b15.cell 4 rfl
        have c15_5 := b15.cell 5 rfl
        have c15_6 := b15.cell 6 rfl
        have c15_7 := b15.cell 7 rfl
        have c15_8 := b15.cell 8 rfl
        have f15_0 := b15.frozen 0
        have f15_1 := b15.frozen 1
        have f15_2 := b15.frozen 2
        have f15_3 := b15.frozen 3
        have f15_4 := b15.frozen 4
        have f15_5 := b15.frozen 5
        have f15_6 := b15.frozen 6
        have f15_7 := b15.frozen 7
        have f15_8 := b15.frozen 8
        clear b15
        have hln : (insL dn fi ⟨to2, fr2, kd3, nm2, body3⟩).length = dn.length + 1 := insL_length _ _ _ a4
        go_wp2
        have E18 : Hid (Env D w [(w7.heap.size, 24, [.int .i64 to2, .int .i64 fr2, .int .i64 kd3, .int .i64 nm2, .slice za body3.length zk]), (pg, 24, ps), (lg, 24, ls), (w.heap.size + 1 + 1 + 1, 27, [.int .i64 nx, .bool wt, .int .i64 fr, .int .i64 to_, .int .i64 kd, .int .i64 nm, .slice xa body.length xk, .slice (some ⟨pg, 0, none⟩) (dn.length + 1) pc, .int .i64 tr]), (w.heap.size + 1 + 1, 24, [.int .i64 to2, .int .i64 fr2, .int .i64 kd3, .int .i64 nm2, .slice za body3.length zk]), (w.heap.size + 1, 24, [.int .i64 fr2, .int .i64 to2, .int .i64 kd2, .int .i64 nm2, .slice ya body2.length yk]), (w.heap.size, 27, [.int .i64 nx, .bool wt, .int .i64 fr, .int .i64 to_, .int .i64 kd, .int .i64 nm, .slice xa body.length xk, .slice (some ⟨pg, 0, none⟩) (dn.length + 1) pc, .int .i64 tr])] [.mc ps ((dn.take fi ++ [⟨to2, fr2, kd3, nm2, body3⟩]) ++ dn.drop fi), .mc os (dn.take fi ++ [⟨to2, fr2, kd3, nm2, body3⟩]), .mc ns (dn.take fi), .mc ls dn, .mc nws dn, .bs (.slice za body3.length zk) body3, .bs (.slice ya body2.length yk) body2, .ms (.slice da dn.length dj) dn, .bs (.slice xa body.length xk) body] _) := Lib.hid ((((((((((E17.out.set 3 0 (.int .i64 nx) rfl).set 3 1 (.bool wt) rfl).set 3 2 (.int .i64 fr) rfl).set 3 3 (.int .i64 to_) rfl).set 3 4 (.int .i64 kd) rfl).set 3 5 (.int .i64 nm) rfl).set 3 6 (.slice xa body.length xk) rfl).set 3 7 (.slice (some ⟨pg, 0, none⟩) (dn.length + 1) pc) rfl).set 3 8 (.int .i64 tr) rfl))
        have hfin := E18.out
        have q16 := (hfin.bx 3 rfl).cell 0 rfl
        have q17 := (hfin.bx 3 rfl).cell 1 rfl
        have q18 := (hfin.bx 3 rfl).cell 2 rfl
        have q19 := (hfin.bx 3 rfl).cell 3 rfl
        have q20 := (hfin.bx 3 rfl).cell 4 rfl
        have q21 := (hfin.bx 3 rfl).cell 5 rfl
        have q22 := (hfin.bx 3 rfl).cell 6 rfl
        have q23 := (hfin.bx 3 rfl).cell 7 rfl
        have q24 := (hfin.bx 3 rfl).cell 8 rfl
        exact bodyPost_ret (v := .tuple #[.agg #[.int .i64 nx, .bool wt, .int .i64 fr, .int .i64 to_, .int .i64 kd, .int .i64 nm, .slice xa body.length xk, .slice (some ⟨pg, 0, none⟩) (dn.length + 1) pc, .int .i64 tr], .int .i64 0]) (by simp [results, Try.results18, go_sem, q16, q17, q18, q19, q20, q21, q22, q23, q24]) rfl ⟨⟨_, _, some ⟨pg, 0, none⟩, pc, by dsimp only; rw [hln], (Lib.hid (hfin.out 8 rfl)), Lib.hid (Ms.ofBox (hfin.bx 1 rfl) (mc_insL (hfin.fc 0 rfl)) (by rw [hln]; exact PL.out.1) PL.out.2.1 (fun _ hd => hd.2) (.inr (hfin.bx 1 rfl).1))⟩, hfin.bel⟩
    · have hkd : k < dn.length := by omega
      have HY := Lib.hid hy
      clear hy
      have t1 : decide ((k : Int) < (dn.length : Int)) = true := decide_eq_true (by omega)
      have t2 : decide (dn[k].to_ < fr2) = true := decide_eq_true (hfo.out.2.1 k hkd (by have := HY.out; omega))
      obtain ⟨m0, m1, m2, m3, ea, ek, m4, -⟩ := EL.out.fc 0 rfl k hkd
      go_wp2_with fail
      have E11 := Lib.hid EL.out.drew
      clear EL
      refine wp_region_held_drew (S := fun w' => w'.cell? ⟨w.heap.size + 1 + 1, 1, none⟩ = some (.int .i64 fr2) ∧ w'.cell? ⟨lg, k * 5 + 1, none⟩ = some (.int .i64 dn[k].to_)) (by kernel_rfl) (⟨((E11.out.bx 2 rfl).cell 1 rfl), (E11.out.bx 0 rfl).cell (k * 5 + 1) m1⟩) (fun hHeld => ?_)
      generalize wr.drew = w6 at *
      refine takeW (i := 0) (some 74) (v := ?_) rfl rfl (by kernel_rfl) (by kernel_rfl) (by kernel_rfl) (fun _ _ _ h => h) (by rfl) (by assumption) ?_ ?_
      rotate_left
      · (intro wS hSw; (try dsimp only at hSw); go_simp; try with_reducible rfl)
      try simp only [Act.put, List.setIfInBounds_toArray, List.set_cons_zero, List.set_cons_succ]
      refine takeW (i := 1) (some 75) (v := ?_) rfl rfl (by kernel_rfl) (by kernel_rfl) (by kernel_rfl) (fun _ _ _ h => h) (by rfl) (by assumption) ?_ ?_
      rotate_left
      · (intro wS hSw; (try dsimp only at hSw); go_simp; try with_reducible rfl)
      try simp only [Act.put, List.setIfInBounds_toArray, List.set_cons_zero, List.set_cons_succ]
      refine takeW (i := 2) (some 76) (v := ?_) rfl rfl (by kernel_rfl) (by kernel_rfl) (by kernel_rfl) (fun _ _ _ h => h) (by rfl) (by assumption) ?_ ?_
      rotate_left
      · (intro wS hSw; (try dsimp only at hSw); go_simp; try with_reducible rfl)
      try simp only [Act.put, List.setIfInBounds_toArray, List.set_cons_zero, List.set_cons_succ]
      refine takeW (i := 3) (some 77) (v := ?_) rfl rfl (by kernel_rfl) (by kernel_rfl) (by kernel_rfl) (fun _ _ _ h => h) (by rfl) (by assumption) ?_ ?_
      rotate_left
      · (intro wS hSw; (try dsimp only at hSw); go_simp; try with_reducible rfl)
      try simp only [Act.put, List.setIfInBounds_toArray, List.set_cons_zero, List.set_cons_succ]
      refine takeW (i := 4) (some 78) (v := ?_) rfl rfl (by kernel_rfl) (by kernel_rfl) (by kernel_rfl) (fun _ _ _ h => h) (by rfl) (by assumption) ?_ ?_
      rotate_left
      · (intro wS hSw; (try dsimp only at hSw); go_simp; try with_reducible rfl)
      try simp only [Act.put, List.setIfInBounds_toArray, List.set_cons_zero, List.set_cons_succ]
      refine takeW (i := 5) (some 79) (v := ?_) rfl rfl (by kernel_rfl) (by kernel_rfl) (by kernel_rfl) (fun _ _ _ h => h) (by rfl) (by assumption) ?_ ?_
      rotate_left
      · (intro wS hSw; (try dsimp only at hSw); go_simp; try with_reducible rfl)
      try simp only [Act.put, List.setIfInBounds_toArray, List.set_cons_zero, List.set_cons_succ]
      refine takeW (i := 6) (some 80) (v := ?_) rfl rfl (by kernel_rfl) (by kernel_rfl) (by kernel_rfl) (fun _ _ _ h => h) (by rfl) (by assumption) ?_ ?_
      rotate_left
      · (intro wS hSw; (try dsimp only at hSw); go_simp; try with_reducible rfl)
      try simp only [Act.put, List.setIfInBounds_toArray, List.set_cons_zero, List.set_cons_succ]
      refine takeW (i := 7) (some 81) (v := ?_) rfl rfl (by kernel_rfl) (by kernel_rfl) (by kernel_rfl) (fun _ _ _ h => h) (by rfl) (by assumption) ?_ ?_
      rotate_left
      · (intro wS hSw; (try dsimp only at hSw); go_simp; try with_reducible rfl)
      try simp only [Act.put, List.setIfInBounds_toArray, List.set_cons_zero, List.set_cons_succ]
      refine takeW (i := 8) (some 82) (v := ?_) rfl rfl (by kernel_rfl) (by kernel_rfl) (by kernel_rfl) (fun _ _ _ h => h) (by rfl) (by assumption) ?_ ?_
      rotate_left
      · (intro wS hSw; (try dsimp only at hSw); go_simp; try with_reducible rfl)
      try simp only [Act.put, List.setIfInBounds_toArray, List.set_cons_zero, List.set_cons_succ]
      refine takeW (i := 9) (some 83) (v := ?_) rfl rfl (by kernel_rfl) (by kernel_rfl) (by kernel_rfl) (fun _ _ _ h => h) (by rfl) (by assumption) ?_ ?_
      rotate_left
      · (intro wS hSw; (try dsimp only at hSw); go_simp; try with_reducible rfl)
      try simp only [Act.put, List.setIfInBounds_toArray, List.set_cons_zero, List.set_cons_succ]
      refine takeW (i := 10) (some 84) (v := ?_) rfl rfl (by kernel_rfl) (by kernel_rfl) (by kernel_rfl) (fun _ _ _ h => h) (by rfl) (by assumption) ?_ ?_
      rotate_left
      · (intro wS hSw; (try dsimp only at hSw); go_simp; try with_reducible rfl)
      try simp only [Act.put, List.setIfInBounds_toArray, List.set_cons_zero, List.set_cons_succ]
      refine takeW (i := 11) (some 85) (v := ?_) rfl rfl (by kernel_rfl) (by kernel_rfl) (by kernel_rfl) (fun _ _ _ h => h) (by rfl) (by assumption) ?_ ?_
      rotate_left
      · (intro wS hSw; (try dsimp only at hSw); go_simp; try with_reducible rfl)
      try simp only [Act.put, List.setIfInBounds_toArray, List.set_cons_zero, List.set_cons_succ]
      refine takeW (i := 12) (some 86) (v := ?_) rfl rfl (by kernel_rfl) (by kernel_rfl) (by kernel_rfl) (fun _ _ _ h => h) (by rfl) (by assumption) ?_ ?_
      rotate_left
      · (intro wS hSw; (try dsimp only at hSw); go_simp; try with_reducible rfl)
      try simp only [Act.put, List.setIfInBounds_toArray, List.set_cons_zero, List.set_cons_succ]
      refine takeW (i := 13) (some 87) (v := ?_) rfl rfl (by kernel_rfl) (by kernel_rfl) (by kernel_rfl) (fun _ _ _ h => h) (by rfl) (by assumption) ?_ ?_
      rotate_left
      · (intro wS hSw; (try dsimp only at hSw); go_simp; try with_reducible rfl)
      try simp only [Act.put, List.setIfInBounds_toArray, List.set_cons_zero, List.set_cons_succ]
      refine wpAnyH_done (by kernel_rfl) ?_ _
      have EZ := Lib.hid E11.out
      go_wp2
      go_roundg (dn.length - (k + 1))
      case rel => exact ⟨k + 1, rfl, EZ, Lib.hid ⟨by have := HY.out; omega, rfl⟩⟩
      case measure => exact by omega
end Go.Proofs.Ytbcfcdcomboljaa

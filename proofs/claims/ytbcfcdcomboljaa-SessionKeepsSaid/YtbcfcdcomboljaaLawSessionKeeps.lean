/- SessionKeeps: the walk. -/
import Derived.Test.YtbcfcdcomboljaaSesBk
import Derived.Test.YtbcfcdcomboljaaSesG
namespace Go.Proofs.Ytbcfcdcomboljaa
open Go.RowKit
set_option linter.unusedVariables false
theorem S0.fair' : Fair S0 := ⟨by decide, by decide, fun k h => absurd h (by simp [S0])⟩
set_option maxRecDepth 100000 in
set_option maxHeartbeats 4000000 in
theorem keeps_40 {D : Nat → Prop} (S : Ses) (M A O : Msg) {xa da ya za oa : Option Addr} {xk dj yk zk ok : Nat} {w : World} (hx : Fct.at w D (.bs (.slice xa S.rq.body.length xk) S.rq.body)) (hy : Fct.at w D (.ms (.slice da S.dn.length dj) S.dn)) (hz : Fct.at w D (.bs (.slice ya M.body.length yk) M.body)) (hv : Fct.at w D (.bs (.slice za A.body.length zk) A.body)) (hu : Fct.at w D (.bs (.slice oa O.body.length ok) O.body)) (t0 : decide ((40 : Int) < (S.dn.length : Int)) = true)  :
    Calls Try.prog 4 #[.agg #[.int .i64 S.nx, .bool S.wt, .int .i64 S.rq.fr, .int .i64 S.rq.to_, .int .i64 S.rq.kd, .int .i64 S.rq.nm, .slice xa S.rq.body.length xk, .slice da S.dn.length dj, .int .i64 S.tr], .agg #[.int .i64 M.fr, .int .i64 M.to_, .int .i64 M.kd, .int .i64 M.nm, .slice ya M.body.length yk], .agg #[.int .i64 A.fr, .int .i64 A.to_, .int .i64 A.kd, .int .i64 A.nm, .slice za A.body.length zk], .agg #[.int .i64 O.fr, .int .i64 O.to_, .int .i64 O.kd, .int .i64 O.nm, .slice oa O.body.length ok]] w fun e w' => e = .returned (.bool true) ∧ Below w.heap.size w w' := by
  have E0 := Lib.hid ((((((Env.start D w).arg (.bs (.slice xa S.rq.body.length xk) S.rq.body) hx).arg (.ms (.slice da S.dn.length dj) S.dn) hy).arg (.bs (.slice ya M.body.length yk) M.body) hz).arg (.bs (.slice za A.body.length zk) A.body) hv).arg (.bs (.slice oa O.body.length ok) O.body) hu)
  clear hx hy hz hv hu
  go_enter Try.func4, Try.ntmps4
  go_wp2_with fail
  have E1 := Lib.hid (((((E0.out.push 27 [.int .i64 S.nx, .bool S.wt, .int .i64 S.rq.fr, .int .i64 S.rq.to_, .int .i64 S.rq.kd, .int .i64 S.rq.nm, .slice xa S.rq.body.length xk, .slice da S.dn.length dj, .int .i64 S.tr] (w.heap.size) (by simp)).push 24 [.int .i64 M.fr, .int .i64 M.to_, .int .i64 M.kd, .int .i64 M.nm, .slice ya M.body.length yk] (w.heap.size + 1) (by simp)).push 24 [.int .i64 A.fr, .int .i64 A.to_, .int .i64 A.kd, .int .i64 A.nm, .slice za A.body.length zk] (w.heap.size + 1 + 1) (by simp)).push 24 [.int .i64 O.fr, .int .i64 O.to_, .int .i64 O.kd, .int .i64 O.nm, .slice oa O.body.length ok] (w.heap.size + 1 + 1 + 1) (by simp)))
  refine (awake_c (D := (DF D w.heap.size [(w.heap.size + 1 + 1 + 1, 24, [.int .i64 O.fr, .int .i64 O.to_, .int .i64 O.kd, .int .i64 O.nm, .slice oa O.body.length ok]), (w.heap.size + 1 + 1, 24, [.int .i64 A.fr, .int .i64 A.to_, .int .i64 A.kd, .int .i64 A.nm, .slice za A.body.length zk]), (w.heap.size + 1, 24, [.int .i64 M.fr, .int .i64 M.to_, .int .i64 M.kd, .int .i64 M.nm, .slice ya M.body.length yk]), (w.heap.size, 27, [.int .i64 S.nx, .bool S.wt, .int .i64 S.rq.fr, .int .i64 S.rq.to_, .int .i64 S.rq.kd, .int .i64 S.rq.nm, .slice xa S.rq.body.length xk, .slice da S.dn.length dj, .int .i64 S.tr])]))).mono ?_
  rintro e w1 ⟨rfl, hb⟩
  have E2 := Lib.hid (E1.out.below hb)
  clear E0 E1 hb
  have b1 := E2.out.bx 3 rfl
  have c1_7 := b1.cell 7 rfl
  clear b1
  have hfin := Lib.hid E2.out.bel
  go_wp2
  go_ret
  exact ⟨rfl, hfin.out⟩
set_option maxRecDepth 100000 in
set_option maxHeartbeats 4000000 in
theorem keeps_great {D : Nat → Prop} (S : Ses) (M A O : Msg) {xa da ya za oa : Option Addr} {xk dj yk zk ok : Nat} {w : World} (hx : Fct.at w D (.bs (.slice xa S.rq.body.length xk) S.rq.body)) (hy : Fct.at w D (.ms (.slice da S.dn.length dj) S.dn)) (hz : Fct.at w D (.bs (.slice ya M.body.length yk) M.body)) (hv : Fct.at w D (.bs (.slice za A.body.length zk) A.body)) (hu : Fct.at w D (.bs (.slice oa O.body.length ok) O.body)) (t0 : decide ((40 : Int) < (S.dn.length : Int)) = false) (hg0 : ¬ Small S) :
    Calls Try.prog 4 #[.agg #[.int .i64 S.nx, .bool S.wt, .int .i64 S.rq.fr, .int .i64 S.rq.to_, .int .i64 S.rq.kd, .int .i64 S.rq.nm, .slice xa S.rq.body.length xk, .slice da S.dn.length dj, .int .i64 S.tr], .agg #[.int .i64 M.fr, .int .i64 M.to_, .int .i64 M.kd, .int .i64 M.nm, .slice ya M.body.length yk], .agg #[.int .i64 A.fr, .int .i64 A.to_, .int .i64 A.kd, .int .i64 A.nm, .slice za A.body.length zk], .agg #[.int .i64 O.fr, .int .i64 O.to_, .int .i64 O.kd, .int .i64 O.nm, .slice oa O.body.length ok]] w fun e w' => e = .returned (.bool true) ∧ Below w.heap.size w w' := by
  have E0 := Lib.hid ((((((Env.start D w).arg (.bs (.slice xa S.rq.body.length xk) S.rq.body) hx).arg (.ms (.slice da S.dn.length dj) S.dn) hy).arg (.bs (.slice ya M.body.length yk) M.body) hz).arg (.bs (.slice za A.body.length zk) A.body) hv).arg (.bs (.slice oa O.body.length ok) O.body) hu)
  clear hx hy hz hv hu
  go_enter Try.func4, Try.ntmps4
  have hg := Lib.hid hg0
  clear hg0
  go_wp2_with fail
  have E1 := Lib.hid (((((E0.out.push 27 [.int .i64 S.nx, .bool S.wt, .int .i64 S.rq.fr, .int .i64 S.rq.to_, .int .i64 S.rq.kd, .int .i64 S.rq.nm, .slice xa S.rq.body.length xk, .slice da S.dn.length dj, .int .i64 S.tr] (w.heap.size) (by simp)).push 24 [.int .i64 M.fr, .int .i64 M.to_, .int .i64 M.kd, .int .i64 M.nm, .slice ya M.body.length yk] (w.heap.size + 1) (by simp)).push 24 [.int .i64 A.fr, .int .i64 A.to_, .int .i64 A.kd, .int .i64 A.nm, .slice za A.body.length zk] (w.heap.size + 1 + 1) (by simp)).push 24 [.int .i64 O.fr, .int .i64 O.to_, .int .i64 O.kd, .int .i64 O.nm, .slice oa O.body.length ok] (w.heap.size + 1 + 1 + 1) (by simp)))
  refine (awake_c (D := (DF D w.heap.size [(w.heap.size + 1 + 1 + 1, 24, [.int .i64 O.fr, .int .i64 O.to_, .int .i64 O.kd, .int .i64 O.nm, .slice oa O.body.length ok]), (w.heap.size + 1 + 1, 24, [.int .i64 A.fr, .int .i64 A.to_, .int .i64 A.kd, .int .i64 A.nm, .slice za A.body.length zk]), (w.heap.size + 1, 24, [.int .i64 M.fr, .int .i64 M.to_, .int .i64 M.kd, .int .i64 M.nm, .slice ya M.body.length yk]), (w.heap.size, 27, [.int .i64 S.nx, .bool S.wt, .int .i64 S.rq.fr, .int .i64 S.rq.to_, .int .i64 S.rq.kd, .int .i64 S.rq.nm, .slice xa S.rq.body.length xk, .slice da S.dn.length dj, .int .i64 S.tr])]))).mono ?_
  rintro e w1 ⟨rfl, hb⟩
  have E2 := Lib.hid (E1.out.below hb)
  clear E0 E1 hb
  have b1 := E2.out.bx 3 rfl
  have c1_7 := b1.cell 7 rfl
  clear b1
  have b2 := E2.out.bx 3 rfl
  have c2_0 := b2.cell 0 rfl
  have c2_1 := b2.cell 1 rfl
  have c2_2 := b2.cell 2 rfl
  have c2_3 := b2.cell 3 rfl
  have c2_4 := b2.cell 4 rfl
  have c2_5 := b2.cell 5 rfl
  have c2_6 := b2.cell 6 rfl
  have c2_8 := b2.cell 8 rfl
  clear b2
  go_wp2_with fail
  refine (great_t hg.out (E2.out.fc 3 rfl)).mono ?_
  rintro e w2 ⟨rfl, hb⟩
  have E3 := Lib.hid (E2.out.below hb)
  clear c1_7 c2_0 c2_1 c2_2 c2_3 c2_4 c2_5 c2_6 c2_8 E2 hb
  have hfin := Lib.hid E3.out.bel
  go_wp2
  go_ret
  exact ⟨rfl, hfin.out⟩
set_option maxRecDepth 100000 in
set_option maxHeartbeats 4000000 in
theorem keeps_l0 {D : Nat → Prop} (S : Ses) (M A O : Msg) {xa da ya za oa : Option Addr} {xk dj yk zk ok : Nat} {w : World} (hx : Fct.at w D (.bs (.slice xa S.rq.body.length xk) S.rq.body)) (hy : Fct.at w D (.ms (.slice da S.dn.length dj) S.dn)) (hz : Fct.at w D (.bs (.slice ya M.body.length yk) M.body)) (hv : Fct.at w D (.bs (.slice za A.body.length zk) A.body)) (hu : Fct.at w D (.bs (.slice oa O.body.length ok) O.body)) (t0 : decide ((40 : Int) < (S.dn.length : Int)) = false) (hg0 : Small S) (hl00 : decide (20000 < M.body.length) = true) :
    Calls Try.prog 4 #[.agg #[.int .i64 S.nx, .bool S.wt, .int .i64 S.rq.fr, .int .i64 S.rq.to_, .int .i64 S.rq.kd, .int .i64 S.rq.nm, .slice xa S.rq.body.length xk, .slice da S.dn.length dj, .int .i64 S.tr], .agg #[.int .i64 M.fr, .int .i64 M.to_, .int .i64 M.kd, .int .i64 M.nm, .slice ya M.body.length yk], .agg #[.int .i64 A.fr, .int .i64 A.to_, .int .i64 A.kd, .int .i64 A.nm, .slice za A.body.length zk], .agg #[.int .i64 O.fr, .int .i64 O.to_, .int .i64 O.kd, .int .i64 O.nm, .slice oa O.body.length ok]] w fun e w' => e = .returned (.bool true) ∧ Below w.heap.size w w' := by
  have E0 := Lib.hid ((((((Env.start D w).arg (.bs (.slice xa S.rq.body.length xk) S.rq.body) hx).arg (.ms (.slice da S.dn.length dj) S.dn) hy).arg (.bs (.slice ya M.body.length yk) M.body) hz).arg (.bs (.slice za A.body.length zk) A.body) hv).arg (.bs (.slice oa O.body.length ok) O.body) hu)
  clear hx hy hz hv hu
  go_enter Try.func4, Try.ntmps4
  have hg := Lib.hid hg0
  clear hg0
  have hl0 := Lib.hid hl00
  clear hl00
  go_wp2_with fail
  have E1 := Lib.hid (((((E0.out.push 27 [.int .i64 S.nx, .bool S.wt, .int .i64 S.rq.fr, .int .i64 S.rq.to_, .int .i64 S.rq.kd, .int .i64 S.rq.nm, .slice xa S.rq.body.length xk, .slice da S.dn.length dj, .int .i64 S.tr] (w.heap.size) (by simp)).push 24 [.int .i64 M.fr, .int .i64 M.to_, .int .i64 M.kd, .int .i64 M.nm, .slice ya M.body.length yk] (w.heap.size + 1) (by simp)).push 24 [.int .i64 A.fr, .int .i64 A.to_, .int .i64 A.kd, .int .i64 A.nm, .slice za A.body.length zk] (w.heap.size + 1 + 1) (by simp)).push 24 [.int .i64 O.fr, .int .i64 O.to_, .int .i64 O.kd, .int .i64 O.nm, .slice oa O.body.length ok] (w.heap.size + 1 + 1 + 1) (by simp)))
  refine (awake_c (D := (DF D w.heap.size [(w.heap.size + 1 + 1 + 1, 24, [.int .i64 O.fr, .int .i64 O.to_, .int .i64 O.kd, .int .i64 O.nm, .slice oa O.body.length ok]), (w.heap.size + 1 + 1, 24, [.int .i64 A.fr, .int .i64 A.to_, .int .i64 A.kd, .int .i64 A.nm, .slice za A.body.length zk]), (w.heap.size + 1, 24, [.int .i64 M.fr, .int .i64 M.to_, .int .i64 M.kd, .int .i64 M.nm, .slice ya M.body.length yk]), (w.heap.size, 27, [.int .i64 S.nx, .bool S.wt, .int .i64 S.rq.fr, .int .i64 S.rq.to_, .int .i64 S.rq.kd, .int .i64 S.rq.nm, .slice xa S.rq.body.length xk, .slice da S.dn.length dj, .int .i64 S.tr])]))).mono ?_
  rintro e w1 ⟨rfl, hb⟩
  have E2 := Lib.hid (E1.out.below hb)
  clear E0 E1 hb
  have b1 := E2.out.bx 3 rfl
  have c1_7 := b1.cell 7 rfl
  clear b1
  have b2 := E2.out.bx 3 rfl
  have c2_0 := b2.cell 0 rfl
  have c2_1 := b2.cell 1 rfl
  have c2_2 := b2.cell 2 rfl
  have c2_3 := b2.cell 3 rfl
  have c2_4 := b2.cell 4 rfl
  have c2_5 := b2.cell 5 rfl
  have c2_6 := b2.cell 6 rfl
  have c2_8 := b2.cell 8 rfl
  clear b2
  go_wp2_with fail
  refine (great_f hg.out (E2.out.fc 3 rfl)).mono ?_
  rintro e w2 ⟨rfl, hb⟩
  have E3 := Lib.hid (E2.out.below hb)
  clear c1_7 c2_0 c2_1 c2_2 c2_3 c2_4 c2_5 c2_6 c2_8 E2 hb
  have b3 := E3.out.bx 2 rfl
  have c3_0 := b3.cell 0 rfl
  have c3_1 := b3.cell 1 rfl
  have c3_2 := b3.cell 2 rfl
  have c3_3 := b3.cell 3 rfl
  have c3_4 := b3.cell 4 rfl
  clear b3
  go_wp2_with fail
  refine (long_v M.body hl0.out _ _ _ _ _ _ _).mono ?_
  rintro e w3 ⟨rfl, hb⟩
  have E4 := Lib.hid (E3.out.below hb)
  clear c3_0 c3_1 c3_2 c3_3 c3_4 E3 hb
  have hfin := Lib.hid E4.out.bel
  go_wp2
  go_ret
  exact ⟨rfl, hfin.out⟩
set_option maxRecDepth 100000 in
set_option maxHeartbeats 4000000 in
theorem keeps_l1 {D : Nat → Prop} (S : Ses) (M A O : Msg) {xa da ya za oa : Option Addr} {xk dj yk zk ok : Nat} {w : World} (hx : Fct.at w D (.bs (.slice xa S.rq.body.length xk) S.rq.body)) (hy : Fct.at w D (.ms (.slice da S.dn.length dj) S.dn)) (hz : Fct.at w D (.bs (.slice ya M.body.length yk) M.body)) (hv : Fct.at w D (.bs (.slice za A.body.length zk) A.body)) (hu : Fct.at w D (.bs (.slice oa O.body.length ok) O.body)) (t0 : decide ((40 : Int) < (S.dn.length : Int)) = false) (hg0 : Small S) (hl00 : decide (20000 < M.body.length) = false) (hl10 : decide (20000 < A.body.length) = true) :
    Calls Try.prog 4 #[.agg #[.int .i64 S.nx, .bool S.wt, .int .i64 S.rq.fr, .int .i64 S.rq.to_, .int .i64 S.rq.kd, .int .i64 S.rq.nm, .slice xa S.rq.body.length xk, .slice da S.dn.length dj, .int .i64 S.tr], .agg #[.int .i64 M.fr, .int .i64 M.to_, .int .i64 M.kd, .int .i64 M.nm, .slice ya M.body.length yk], .agg #[.int .i64 A.fr, .int .i64 A.to_, .int .i64 A.kd, .int .i64 A.nm, .slice za A.body.length zk], .agg #[.int .i64 O.fr, .int .i64 O.to_, .int .i64 O.kd, .int .i64 O.nm, .slice oa O.body.length ok]] w fun e w' => e = .returned (.bool true) ∧ Below w.heap.size w w' := by
  have E0 := Lib.hid ((((((Env.start D w).arg (.bs (.slice xa S.rq.body.length xk) S.rq.body) hx).arg (.ms (.slice da S.dn.length dj) S.dn) hy).arg (.bs (.slice ya M.body.length yk) M.body) hz).arg (.bs (.slice za A.body.length zk) A.body) hv).arg (.bs (.slice oa O.body.length ok) O.body) hu)
  clear hx hy hz hv hu
  go_enter Try.func4, Try.ntmps4
  have hg := Lib.hid hg0
  clear hg0
  have hl0 := Lib.hid hl00
  clear hl00
  have hl1 := Lib.hid hl10
  clear hl10
  go_wp2_with fail
  have E1 := Lib.hid (((((E0.out.push 27 [.int .i64 S.nx, .bool S.wt, .int .i64 S.rq.fr, .int .i64 S.rq.to_, .int .i64 S.rq.kd, .int .i64 S.rq.nm, .slice xa S.rq.body.length xk, .slice da S.dn.length dj, .int .i64 S.tr] (w.heap.size) (by simp)).push 24 [.int .i64 M.fr, .int .i64 M.to_, .int .i64 M.kd, .int .i64 M.nm, .slice ya M.body.length yk] (w.heap.size + 1) (by simp)).push 24 [.int .i64 A.fr, .int .i64 A.to_, .int .i64 A.kd, .int .i64 A.nm, .slice za A.body.length zk] (w.heap.size + 1 + 1) (by simp)).push 24 [.int .i64 O.fr, .int .i64 O.to_, .int .i64 O.kd, .int .i64 O.nm, .slice oa O.body.length ok] (w.heap.size + 1 + 1 + 1) (by simp)))
  refine (awake_c (D := (DF D w.heap.size [(w.heap.size + 1 + 1 + 1, 24, [.int .i64 O.fr, .int .i64 O.to_, .int .i64 O.kd, .int .i64 O.nm, .slice oa O.body.length ok]), (w.heap.size + 1 + 1, 24, [.int .i64 A.fr, .int .i64 A.to_, .int .i64 A.kd, .int .i64 A.nm, .slice za A.body.length zk]), (w.heap.size + 1, 24, [.int .i64 M.fr, .int .i64 M.to_, .int .i64 M.kd, .int .i64 M.nm, .slice ya M.body.length yk]), (w.heap.size, 27, [.int .i64 S.nx, .bool S.wt, .int .i64 S.rq.fr, .int .i64 S.rq.to_, .int .i64 S.rq.kd, .int .i64 S.rq.nm, .slice xa S.rq.body.length xk, .slice da S.dn.length dj, .int .i64 S.tr])]))).mono ?_
  rintro e w1 ⟨rfl, hb⟩
  have E2 := Lib.hid (E1.out.below hb)
  clear E0 E1 hb
  have b1 := E2.out.bx 3 rfl
  have c1_7 := b1.cell 7 rfl
  clear b1
  have b2 := E2.out.bx 3 rfl
  have c2_0 := b2.cell 0 rfl
  have c2_1 := b2.cell 1 rfl
  have c2_2 := b2.cell 2 rfl
  have c2_3 := b2.cell 3 rfl
  have c2_4 := b2.cell 4 rfl
  have c2_5 := b2.cell 5 rfl
  have c2_6 := b2.cell 6 rfl
  have c2_8 := b2.cell 8 rfl
  clear b2
  go_wp2_with fail
  refine (great_f hg.out (E2.out.fc 3 rfl)).mono ?_
  rintro e w2 ⟨rfl, hb⟩
  have E3 := Lib.hid (E2.out.below hb)
  clear c1_7 c2_0 c2_1 c2_2 c2_3 c2_4 c2_5 c2_6 c2_8 E2 hb
  have b3 := E3.out.bx 2 rfl
  have c3_0 := b3.cell 0 rfl
  have c3_1 := b3.cell 1 rfl
  have c3_2 := b3.cell 2 rfl
  have c3_3 := b3.cell 3 rfl
  have c3_4 := b3.cell 4 rfl
  clear b3
  go_wp2_with fail
  refine (long_v M.body hl0.out _ _ _ _ _ _ _).mono ?_
  rintro e w3 ⟨rfl, hb⟩
  have E4 := Lib.hid (E3.out.below hb)
  clear c3_0 c3_1 c3_2 c3_3 c3_4 E3 hb
  have b4 := E4.out.bx 1 rfl
  have c4_0 := b4.cell 0 rfl
  have c4_1 := b4.cell 1 rfl
  have c4_2 := b4.cell 2 rfl
  have c4_3 := b4.cell 3 rfl
  have c4_4 := b4.cell 4 rfl
  clear b4
  go_wp2_with fail
  refine (long_v A.body hl1.out _ _ _ _ _ _ _).mono ?_
  rintro e w4 ⟨rfl, hb⟩
  have E5 := Lib.hid (E4.out.below hb)
  clear c4_0 c4_1 c4_2 c4_3 c4_4 E4 hb
  have hfin := Lib.hid E5.out.bel
  go_wp2
  go_ret
  exact ⟨rfl, hfin.out⟩
set_option maxRecDepth 100000 in
set_option maxHeartbeats 4000000 in
theorem keeps_l2 {D : Nat → Prop} (S : Ses) (M A O : Msg) {xa da ya za oa : Option Addr} {xk dj yk zk ok : Nat} {w : World} (hx : Fct.at w D (.bs (.slice xa S.rq.body.length xk) S.rq.body)) (hy : Fct.at w D (.ms (.slice da S.dn.length dj) S.dn)) (hz : Fct.at w D (.bs (.slice ya M.body.length yk) M.body)) (hv : Fct.at w D (.bs (.slice za A.body.length zk) A.body)) (hu : Fct.at w D (.bs (.slice oa O.body.length ok) O.body)) (t0 : decide ((40 : Int) < (S.dn.length : Int)) = false) (hg0 : Small S) (hl00 : decide (20000 < M.body.length) = false) (hl10 : decide (20000 < A.body.length) = false) (hl20 : decide (20000 < O.body.length) = true) :
    Calls Try.prog 4 #[.agg #[.int .i64 S.nx, .bool S.wt, .int .i64 S.rq.fr, .int .i64 S.rq.to_, .int .i64 S.rq.kd, .int .i64 S.rq.nm, .slice xa S.rq.body.length xk, .slice da S.dn.length dj, .int .i64 S.tr], .agg #[.int .i64 M.fr, .int .i64 M.to_, .int .i64 M.kd, .int .i64 M.nm, .slice ya M.body.length yk], .agg #[.int .i64 A.fr, .int .i64 A.to_, .int .i64 A.kd, .int .i64 A.nm, .slice za A.body.length zk], .agg #[.int .i64 O.fr, .int .i64 O.to_, .int .i64 O.kd, .int .i64 O.nm, .slice oa O.body.length ok]] w fun e w' => e = .returned (.bool true) ∧ Below w.heap.size w w' := by
  have E0 := Lib.hid ((((((Env.start D w).arg (.bs (.slice xa S.rq.body.length xk) S.rq.body) hx).arg (.ms (.slice da S.dn.length dj) S.dn) hy).arg (.bs (.slice ya M.body.length yk) M.body) hz).arg (.bs (.slice za A.body.length zk) A.body) hv).arg (.bs (.slice oa O.body.length ok) O.body) hu)
  clear hx hy hz hv hu
  go_enter Try.func4, Try.ntmps4
  have hg := Lib.hid hg0
  clear hg0
  have hl0 := Lib.hid hl00
  clear hl00
  have hl1 := Lib.hid hl10
  clear hl10
  have hl2 := Lib.hid hl20
  clear hl20
  go_wp2_with fail
  have E1 := Lib.hid (((((E0.out.push 27 [.int .i64 S.nx, .bool S.wt, .int .i64 S.rq.fr, .int .i64 S.rq.to_, .int .i64 S.rq.kd, .int .i64 S.rq.nm, .slice xa S.rq.body.length xk, .slice da S.dn.length dj, .int .i64 S.tr] (w.heap.size) (by simp)).push 24 [.int .i64 M.fr, .int .i64 M.to_, .int .i64 M.kd, .int .i64 M.nm, .slice ya M.body.length yk] (w.heap.size + 1) (by simp)).push 24 [.int .i64 A.fr, .int .i64 A.to_, .int .i64 A.kd, .int .i64 A.nm, .slice za A.body.length zk] (w.heap.size + 1 + 1) (by simp)).push 24 [.int .i64 O.fr, .int .i64 O.to_, .int .i64 O.kd, .int .i64 O.nm, .slice oa O.body.length ok] (w.heap.size + 1 + 1 + 1) (by simp)))
  refine (awake_c (D := (DF D w.heap.size [(w.heap.size + 1 + 1 + 1, 24, [.int .i64 O.fr, .int .i64 O.to_, .int .i64 O.kd, .int .i64 O.nm, .slice oa O.body.length ok]), (w.heap.size + 1 + 1, 24, [.int .i64 A.fr, .int .i64 A.to_, .int .i64 A.kd, .int .i64 A.nm, .slice za A.body.length zk]), (w.heap.size + 1, 24, [.int .i64 M.fr, .int .i64 M.to_, .int .i64 M.kd, .int .i64 M.nm, .slice ya M.body.length yk]), (w.heap.size, 27, [.int .i64 S.nx, .bool S.wt, .int .i64 S.rq.fr, .int .i64 S.rq.to_, .int .i64 S.rq.kd, .int .i64 S.rq.nm, .slice xa S.rq.body.length xk, .slice da S.dn.length dj, .int .i64 S.tr])]))).mono ?_
  rintro e w1 ⟨rfl, hb⟩
  have E2 := Lib.hid (E1.out.below hb)
  clear E0 E1 hb
  have b1 := E2.out.bx 3 rfl
  have c1_7 := b1.cell 7 rfl
  clear b1
  have b2 := E2.out.bx 3 rfl
  have c2_0 := b2.cell 0 rfl
  have c2_1 := b2.cell 1 rfl
  have c2_2 := b2.cell 2 rfl
  have c2_3 := b2.cell 3 rfl
  have c2_4 := b2.cell 4 rfl
  have c2_5 := b2.cell 5 rfl
  have c2_6 := b2.cell 6 rfl
  have c2_8 := b2.cell 8 rfl
  clear b2
  go_wp2_with fail
  refine (great_f hg.out (E2.out.fc 3 rfl)).mono ?_
  rintro e w2 ⟨rfl, hb⟩
  have E3 := Lib.hid (E2.out.below hb)
  clear c1_7 c2_0 c2_1 c2_2 c2_3 c2_4 c2_5 c2_6 c2_8 E2 hb
  have b3 := E3.out.bx 2 rfl
  have c3_0 := b3.cell 0 rfl
  have c3_1 := b3.cell 1 rfl
  have c3_2 := b3.cell 2 rfl
  have c3_3 := b3.cell 3 rfl
  have c3_4 := b3.cell 4 rfl
  clear b3
  go_wp2_with fail
  refine (long_v M.body hl0.out _ _ _ _ _ _ _).mono ?_
  rintro e w3 ⟨rfl, hb⟩
  have E4 := Lib.hid (E3.out.below hb)
  clear c3_0 c3_1 c3_2 c3_3 c3_4 E3 hb
  have b4 := E4.out.bx 1 rfl
  have c4_0 := b4.cell 0 rfl
  have c4_1 := b4.cell 1 rfl
  have c4_2 := b4.cell 2 rfl
  have c4_3 := b4.cell 3 rfl
  have c4_4 := b4.cell 4 rfl
  clear b4
  go_wp2_with fail
  refine (long_v A.body hl1.out _ _ _ _ _ _ _).mono ?_
  rintro e w4 ⟨rfl, hb⟩
  have E5 := Lib.hid (E4.out.below hb)
  clear c4_0 c4_1 c4_2 c4_3 c4_4 E4 hb
  have b5 := E5.out.bx 0 rfl
  have c5_0 := b5.cell 0 rfl
  have c5_1 := b5.cell 1 rfl
  have c5_2 := b5.cell 2 rfl
  have c5_3 := b5.cell 3 rfl
  have c5_4 := b5.cell 4 rfl
  clear b5
  go_wp2_with fail
  refine (long_v O.body hl2.out _ _ _ _ _ _ _).mono ?_
  rintro e w5 ⟨rfl, hb⟩
  have E6 := Lib.hid (E5.out.below hb)
  clear c5_0 c5_1 c5_2 c5_3 c5_4 E5 hb
  have hfin := Lib.hid E6.out.bel
  go_wp2
  go_ret
  exact ⟨rfl, hfin.out⟩
set_option maxRecDepth 100000 in
set_option maxHeartbeats 4000000 in
theorem keeps_nv {D : Nat → Prop} (S : Ses) (M A O : Msg) {xa da ya za oa : Option Addr} {xk dj yk zk ok : Nat} {w : World} (hx : Fct.at w D (.bs (.slice xa S.rq.body.length xk) S.rq.body)) (hy : Fct.at w D (.ms (.slice da S.dn.length dj) S.dn)) (hz : Fct.at w D (.bs (.slice ya M.body.length yk) M.body)) (hv : Fct.at w D (.bs (.slice za A.body.length zk) A.body)) (hu : Fct.at w D (.bs (.slice oa O.body.length ok) O.body)) (t0 : decide ((40 : Int) < (S.dn.length : Int)) = false) (hg0 : Small S) (hl00 : decide (20000 < M.body.length) = false) (hl10 : decide (20000 < A.body.length) = false) (hl20 : decide (20000 < O.body.length) = false) (hS0 : ¬ SesOk S) :
    Calls Try.prog 4 #[.agg #[.int .i64 S.nx, .bool S.wt, .int .i64 S.rq.fr, .int .i64 S.rq.to_, .int .i64 S.rq.kd, .int .i64 S.rq.nm, .slice xa S.rq.body.length xk, .slice da S.dn.length dj, .int .i64 S.tr], .agg #[.int .i64 M.fr, .int .i64 M.to_, .int .i64 M.kd, .int .i64 M.nm, .slice ya M.body.length yk], .agg #[.int .i64 A.fr, .int .i64 A.to_, .int .i64 A.kd, .int .i64 A.nm, .slice za A.body.length zk], .agg #[.int .i64 O.fr, .int .i64 O.to_, .int .i64 O.kd, .int .i64 O.nm, .slice oa O.body.length ok]] w fun e w' => e = .returned (.bool true) ∧ Below w.heap.size w w' := by
  have E0 := Lib.hid ((((((Env.start D w).arg (.bs (.slice xa S.rq.body.length xk) S.rq.body) hx).arg (.ms (.slice da S.dn.length dj) S.dn) hy).arg (.bs (.slice ya M.body.length yk) M.body) hz).arg (.bs (.slice za A.body.length zk) A.body) hv).arg (.bs (.slice oa O.body.length ok) O.body) hu)
  clear hx hy hz hv hu
  go_enter Try.func4, Try.ntmps4
  have hg := Lib.hid hg0
  clear hg0
  have hl0 := Lib.hid hl00
  clear hl00
  have hl1 := Lib.hid hl10
  clear hl10
  have hl2 := Lib.hid hl20
  clear hl20
  have hS := Lib.hid hS0
  clear hS0
  go_wp2_with fail
  have E1 := Lib.hid (((((E0.out.push 27 [.int .i64 S.nx, .bool S.wt, .int .i64 S.rq.fr, .int .i64 S.rq.to_, .int .i64 S.rq.kd, .int .i64 S.rq.nm, .slice xa S.rq.body.length xk, .slice da S.dn.length dj, .int .i64 S.tr] (w.heap.size) (by simp)).push 24 [.int .i64 M.fr, .int .i64 M.to_, .int .i64 M.kd, .int .i64 M.nm, .slice ya M.body.length yk] (w.heap.size + 1) (by simp)).push 24 [.int .i64 A.fr, .int .i64 A.to_, .int .i64 A.kd, .int .i64 A.nm, .slice za A.body.length zk] (w.heap.size + 1 + 1) (by simp)).push 24 [.int .i64 O.fr, .int .i64 O.to_, .int .i64 O.kd, .int .i64 O.nm, .slice oa O.body.length ok] (w.heap.size + 1 + 1 + 1) (by simp)))
  refine (awake_c (D := (DF D w.heap.size [(w.heap.size + 1 + 1 + 1, 24, [.int .i64 O.fr, .int .i64 O.to_, .int .i64 O.kd, .int .i64 O.nm, .slice oa O.body.length ok]), (w.heap.size + 1 + 1, 24, [.int .i64 A.fr, .int .i64 A.to_, .int .i64 A.kd, .int .i64 A.nm, .slice za A.body.length zk]), (w.heap.size + 1, 24, [.int .i64 M.fr, .int .i64 M.to_, .int .i64 M.kd, .int .i64 M.nm, .slice ya M.body.length yk]), (w.heap.size, 27, [.int .i64 S.nx, .bool S.wt, .int .i64 S.rq.fr, .int .i64 S.rq.to_, .int .i64 S.rq.kd, .int .i64 S.rq.nm, .slice xa S.rq.body.length xk, .slice da S.dn.length dj, .int .i64 S.tr])]))).mono ?_
  rintro e w1 ⟨rfl, hb⟩
  have E2 := Lib.hid (E1.out.below hb)
  clear E0 E1 hb
  have b1 := E2.out.bx 3 rfl
  have c1_7 := b1.cell 7 rfl
  clear b1
  have b2 := E2.out.bx 3 rfl
  have c2_0 := b2.cell 0 rfl
  have c2_1 := b2.cell 1 rfl
  have c2_2 := b2.cell 2 rfl
  have c2_3 := b2.cell 3 rfl
  have c2_4 := b2.cell 4 rfl
  have c2_5 := b2.cell 5 rfl
  have c2_6 := b2.cell 6 rfl
  have c2_8 := b2.cell 8 rfl
  clear b2
  go_wp2_with fail
  refine (great_f hg.out (E2.out.fc 3 rfl)).mono ?_
  rintro e w2 ⟨rfl, hb⟩
  have E3 := Lib.hid (E2.out.below hb)
  clear c1_7 c2_0 c2_1 c2_2 c2_3 c2_4 c2_5 c2_6 c2_8 E2 hb
  have b3 := E3.out.bx 2 rfl
  have c3_0 := b3.cell 0 rfl
  have c3_1 := b3.cell 1 rfl
  have c3_2 := b3.cell 2 rfl
  have c3_3 := b3.cell 3 rfl
  have c3_4 := b3.cell 4 rfl
  clear b3
  go_wp2_with fail
  refine (long_v M.body hl0.out _ _ _ _ _ _ _).mono ?_
  rintro e w3 ⟨rfl, hb⟩
  have E4 := Lib.hid (E3.out.below hb)
  clear c3_0 c3_1 c3_2 c3_3 c3_4 E3 hb
  have b4 := E4.out.bx 1 rfl
  have c4_0 := b4.cell 0 rfl
  have c4_1 := b4.cell 1 rfl
  have c4_2 := b4.cell 2 rfl
  have c4_3 := b4.cell 3 rfl
  have c4_4 := b4.cell 4 rfl
  clear b4
  go_wp2_with fail
  refine (long_v A.body hl1.out _ _ _ _ _ _ _).mono ?_
  rintro e w4 ⟨rfl, hb⟩
  have E5 := Lib.hid (E4.out.below hb)
  clear c4_0 c4_1 c4_2 c4_3 c4_4 E4 hb
  have b5 := E5.out.bx 0 rfl
  have c5_0 := b5.cell 0 rfl
  have c5_1 := b5.cell 1 rfl
  have c5_2 := b5.cell 2 rfl
  have c5_3 := b5.cell 3 rfl
  have c5_4 := b5.cell 4 rfl
  clear b5
  go_wp2_with fail
  refine (long_v O.body hl2.out _ _ _ _ _ _ _).mono ?_
  rintro e w5 ⟨rfl, hb⟩
  have E6 := Lib.hid (E5.out.below hb)
  clear c5_0 c5_1 c5_2 c5_3 c5_4 E5 hb
  have b6 := E6.out.bx 3 rfl
  have c6_0 := b6.cell 0 rfl
  have c6_1 := b6.cell 1 rfl
  have c6_2 := b6.cell 2 rfl
  have c6_3 := b6.cell 3 rfl
  have c6_4 := b6.cell 4 rfl
  have c6_5 := b6.cell 5 rfl
  have c6_6 := b6.cell 6 rfl
  have c6_7 := b6.cell 7 rfl
  have c6_8 := b6.cell 8 rfl
  clear b6
  go_wp2_with fail
  refine (rValid_f (S := S) hS.out (E6.out.fc 4 rfl) (E6.out.fc 3 rfl)).mono ?_
  rintro e w6 ⟨rfl, hb⟩
  have E7 := Lib.hid (E6.out.below hb)
  clear c6_0 c6_1 c6_2 c6_3 c6_4 c6_5 c6_6 c6_7 c6_8 E6 hb
  have hfin := Lib.hid E7.out.bel
  go_wp2
  go_ret
  exact ⟨rfl, hfin.out⟩
set_option maxRecDepth 100000 in
set_option maxHeartbeats 4000000 in
theorem keeps_err {D : Nat → Prop} (S : Ses) (M A O : Msg) {xa da ya za oa : Option Addr} {xk dj yk zk ok : Nat} (k1 : Int) {w : World} (hx : Fct.at w D (.bs (.slice xa S.rq.body.length xk) S.rq.body)) (hy : Fct.at w D (.ms (.slice da S.dn.length dj) S.dn)) (hz : Fct.at w D (.bs (.slice ya M.body.length yk) M.body)) (hv : Fct.at w D (.bs (.slice za A.body.length zk) A.body)) (hu : Fct.at w D (.bs (.slice oa O.body.length ok) O.body)) (t0 : decide ((40 : Int) < (S.dn.length : Int)) = false) (t1 : (k1 == 0) = false) (hg0 : Small S) (hl00 : decide (20000 < M.body.length) = false) (hl10 : decide (20000 < A.body.length) = false) (hl20 : decide (20000 < O.body.length) = false) (hS0 : SesOk S) (c10 : DnLike 17 S M A S0 k1) :
    Calls Try.prog 4 #[.agg #[.int .i64 S.nx, .bool S.wt, .int .i64 S.rq.fr, .int .i64 S.rq.to_, .int .i64 S.rq.kd, .int .i64 S.rq.nm, .slice xa S.rq.body.length xk, .slice da S.dn.length dj, .int .i64 S.tr], .agg #[.int .i64 M.fr, .int .i64 M.to_, .int .i64 M.kd, .int .i64 M.nm, .slice ya M.body.length yk], .agg #[.int .i64 A.fr, .int .i64 A.to_, .int .i64 A.kd, .int .i64 A.nm, .slice za A.body.length zk], .agg #[.int .i64 O.fr, .int .i64 O.to_, .int .i64 O.kd, .int .i64 O.nm, .slice oa O.body.length ok]] w fun e w' => e = .returned (.bool true) ∧ Below w.heap.size w w' := by
  have E0 := Lib.hid ((((((Env.start D w).arg (.bs (.slice xa S.rq.body.length xk) S.rq.body) hx).arg (.ms (.slice da S.dn.length dj) S.dn) hy).arg (.bs (.slice ya M.body.length yk) M.body) hz).arg (.bs (.slice za A.body.length zk) A.body) hv).arg (.bs (.slice oa O.body.length ok) O.body) hu)
  clear hx hy hz hv hu
  go_enter Try.func4, Try.ntmps4
  have hg := Lib.hid hg0
  clear hg0
  have hl0 := Lib.hid hl00
  clear hl00
  have hl1 := Lib.hid hl10
  clear hl10
  have hl2 := Lib.hid hl20
  clear hl20
  have hS := Lib.hid hS0
  clear hS0
  have c1 := Lib.hid c10
  clear c10
  go_wp2_with fail
  have E1 := Lib.hid (((((E0.out.push 27 [.int .i64 S.nx, .bool S.wt, .int .i64 S.rq.fr, .int .i64 S.rq.to_, .int .i64 S.rq.kd, .int .i64 S.rq.nm, .slice xa S.rq.body.length xk, .slice da S.dn.length dj, .int .i64 S.tr] (w.heap.size) (by simp)).push 24 [.int .i64 M.fr, .int .i64 M.to_, .int .i64 M.kd, .int .i64 M.nm, .slice ya M.body.length yk] (w.heap.size + 1) (by simp)).push 24 [.int .i64 A.fr, .int .i64 A.to_, .int .i64 A.kd, .int .i64 A.nm, .slice za A.body.length zk] (w.heap.size + 1 + 1) (by simp)).push 24 [.int .i64 O.fr, .int .i64 O.to_, .int .i64 O.kd, .int .i64 O.nm, .slice oa O.body.length ok] (w.heap.size + 1 + 1 + 1) (by simp)))
  refine (awake_c (D := (DF D w.heap.size [(w.heap.size + 1 + 1 + 1, 24, [.int .i64 O.fr, .int .i64 O.to_, .int .i64 O.kd, .int .i64 O.nm, .slice oa O.body.length ok]), (w.heap.size + 1 + 1, 24, [.int .i64 A.fr, .int .i64 A.to_, .int .i64 A.kd, .int .i64 A.nm, .slice za A.body.length zk]), (w.heap.size + 1, 24, [.int .i64 M.fr, .int .i64 M.to_, .int .i64 M.kd, .int .i64 M.nm, .slice ya M.body.length yk]), (w.heap.size, 27, [.int .i64 S.nx, .bool S.wt, .int .i64 S.rq.fr, .int .i64 S.rq.to_, .int .i64 S.rq.kd, .int .i64 S.rq.nm, .slice xa S.rq.body.length xk, .slice da S.dn.length dj, .int .i64 S.tr])]))).mono ?_
  rintro e w1 ⟨rfl, hb⟩
  have E2 := Lib.hid (E1.out.below hb)
  clear E0 E1 hb
  have b1 := E2.out.bx 3 rfl
  have c1_7 := b1.cell 7 rfl
  clear b1
  have b2 := E2.out.bx 3 rfl
  have c2_0 := b2.cell 0 rfl
  have c2_1 := b2.cell 1 rfl
  have c2_2 := b2.cell 2 rfl
  have c2_3 := b2.cell 3 rfl
  have c2_4 := b2.cell 4 rfl
  have c2_5 := b2.cell 5 rfl
  have c2_6 := b2.cell 6 rfl
  have c2_8 := b2.cell 8 rfl
  clear b2
  go_wp2_with fail
  refine (great_f hg.out (E2.out.fc 3 rfl)).mono ?_
  rintro e w2 ⟨rfl, hb⟩
  have E3 := Lib.hid (E2.out.below hb)
  clear c1_7 c2_0 c2_1 c2_2 c2_3 c2_4 c2_5 c2_6 c2_8 E2 hb
  have b3 := E3.out.bx 2 rfl
  have c3_0 := b3.cell 0 rfl
  have c3_1 := b3.cell 1 rfl
  have c3_2 := b3.cell 2 rfl
  have c3_3 := b3.cell 3 rfl
  have c3_4 := b3.cell 4 rfl
  clear b3
  go_wp2_with fail
  refine (long_v M.body hl0.out _ _ _ _ _ _ _).mono ?_
  rintro e w3 ⟨rfl, hb⟩
  have E4 := Lib.hid (E3.out.below hb)
  clear c3_0 c3_1 c3_2 c3_3 c3_4 E3 hb
  have b4 := E4.out.bx 1 rfl
  have c4_0 := b4.cell 0 rfl
  have c4_1 := b4.cell 1 rfl
  have c4_2 := b4.cell 2 rfl
  have c4_3 := b4.cell 3 rfl
  have c4_4 := b4.cell 4 rfl
  clear b4
  go_wp2_with fail
  refine (long_v A.body hl1.out _ _ _ _ _ _ _).mono ?_
  rintro e w4 ⟨rfl, hb⟩
  have E5 := Lib.hid (E4.out.below hb)
  clear c4_0 c4_1 c4_2 c4_3 c4_4 E4 hb
  have b5 := E5.out.bx 0 rfl
  have c5_0 := b5.cell 0 rfl
  have c5_1 := b5.cell 1 rfl
  have c5_2 := b5.cell 2 rfl
  have c5_3 := b5.cell 3 rfl
  have c5_4 := b5.cell 4 rfl
  clear b5
  go_wp2_with fail
  refine (long_v O.body hl2.out _ _ _ _ _ _ _).mono ?_
  rintro e w5 ⟨rfl, hb⟩
  have E6 := Lib.hid (E5.out.below hb)
  clear c5_0 c5_1 c5_2 c5_3 c5_4 E5 hb
  have b6 := E6.out.bx 3 rfl
  have c6_0 := b6.cell 0 rfl
  have c6_1 := b6.cell 1 rfl
  have c6_2 := b6.cell 2 rfl
  have c6_3 := b6.cell 3 rfl
  have c6_4 := b6.cell 4 rfl
  have c6_5 := b6.cell 5 rfl
  have c6_6 := b6.cell 6 rfl
  have c6_7 := b6.cell 7 rfl
  have c6_8 := b6.cell 8 rfl
  clear b6
  go_wp2_with fail
  refine (rValid_t (S := S) hS.out (E6.out.fc 4 rfl) (E6.out.fc 3 rfl)).mono ?_
  rintro e w6 ⟨rfl, hb⟩
  have E7 := Lib.hid (E6.out.below hb)
  clear c6_0 c6_1 c6_2 c6_3 c6_4 c6_5 c6_6 c6_7 c6_8 E6 hb
  have b7 := E7.out.bx 3 rfl
  have c7_0 := b7.cell 0 rfl
  have c7_1 := b7.cell 1 rfl
  have c7_2 := b7.cell 2 rfl
  have c7_3 := b7.cell 3 rfl
  have c7_4 := b7.cell 4 rfl
  have c7_5 := b7.cell 5 rfl
  have c7_6 := b7.cell 6 rfl
  have c7_7 := b7.cell 7 rfl
  have c7_8 := b7.cell 8 rfl
  clear b7
  have b8 := E7.out.bx 2 rfl
  have c8_0 := b8.cell 0 rfl
  have c8_1 := b8.cell 1 rfl
  have c8_2 := b8.cell 2 rfl
  have c8_3 := b8.cell 3 rfl
  have c8_4 := b8.cell 4 rfl
  clear b8
  have b9 := E7.out.bx 1 rfl
  have c9_0 := b9.cell 0 rfl
  have c9_1 := b9.cell 1 rfl
  have c9_2 := b9.cell 2 rfl
  have c9_3 := b9.cell 3 rfl
  have c9_4 := b9.cell 4 rfl
  clear b9
  go_wp2_with fail
  refine (c1.out _ _ _ _ _ _ _ _ _ _ (E7.out.fc 4 rfl) (E7.out.fc 3 rfl) (E7.out.fc 2 rfl) (E7.out.fc 1 rfl)).mono ?_
  rintro e w7 ⟨⟨paa, pak, pab, paj, rfl, hpa, gpa⟩, hb⟩
  have E8 := Lib.hid (E7.out.got (E7.out.got (E7.out.below hb) (.bs (.slice paa S0.rq.body.length pak) S0.rq.body) hpa.out) (.ms (.slice pab S0.dn.length paj) S0.dn) gpa.out)
  clear c7_0 c7_1 c7_2 c7_3 c7_4 c7_5 c7_6 c7_7 c7_8 c8_0 c8_1 c8_2 c8_3 c8_4 c9_0 c9_1 c9_2 c9_3 c9_4 E7 hb hpa gpa
  go_wp2_with fail
  have E9 := Lib.hid ((E8.out.push 27 [.int .i64 S0.nx, .bool S0.wt, .int .i64 S0.rq.fr, .int .i64 S0.rq.to_, .int .i64 S0.rq.kd, .int .i64 S0.rq.nm, .slice paa S0.rq.body.length pak, .slice pab S0.dn.length paj, .int .i64 S0.tr] (w7.heap.size) (by simp)))
  refine (rSess_t S0 S0.fair' (E9.out.fc 1 rfl) (E9.out.fc 0 rfl) (Bs.nil _ _ : Fct.at _ _ (.bs (.slice none 0 0) [])) (Ms.nil _ _ : Fct.at _ _ (.ms (.slice none 0 0) []))).mono ?_
  rintro e w8 ⟨rfl, hb⟩
  have E10 := Lib.hid (E9.out.below hb)
  clear E8 E9 hb
  have hfin := Lib.hid E10.out.bel
  go_wp2
  go_ret
  exact ⟨rfl, hfin.out⟩
set_option maxRecDepth 100000 in
set_option maxHeartbeats 4000000 in
theorem keeps_ne {D : Nat → Prop} (S : Ses) (M A O : Msg) {xa da ya za oa : Option Addr} {xk dj yk zk ok : Nat} (a1 a3 : Ses) (a2 : Msg) (a4 : Msg) (k4 : Int) {w : World} (hx : Fct.at w D (.bs (.slice xa S.rq.body.length xk) S.rq.body)) (hy : Fct.at w D (.ms (.slice da S.dn.length dj) S.dn)) (hz : Fct.at w D (.bs (.slice ya M.body.length yk) M.body)) (hv : Fct.at w D (.bs (.slice za A.body.length zk) A.body)) (hu : Fct.at w D (.bs (.slice oa O.body.length ok) O.body)) (t0 : decide ((40 : Int) < (S.dn.length : Int)) = false) (t1 : (a2.kd == A.kd) = true) (t1d : decide (a2.kd = A.kd) = true) (t1n : (a2.kd != A.kd) = false) (t2 : (O.fr == M.fr) = false) (t2d : decide (O.fr = M.fr) = false) (t2n : (O.fr != M.fr) = true) (hg0 : Small S) (hl00 : decide (20000 < M.body.length) = false) (hl10 : decide (20000 < A.body.length) = false) (hl20 : decide (20000 < O.body.length) = false) (hS0 : SesOk S) (c10 : DnLike 17 S M A a1 0) (hv10 : SesOk a1) (c20 : KnLike 15 a1 M a2 0) (hb20 : blg a2 M = true) (c30 : DnLike 17 a1 M A a3 8) (c40 : KnLike 15 S O a4 k4) (c50 : KnLike 15 a1 O a4 k4) (f40 : a4.body.length ≤ 1000000) :
    Calls Try.prog 4 #[.agg #[.int .i64 S.nx, .bool S.wt, .int .i64 S.rq.fr, .int .i64 S.rq.to_, .int .i64 S.rq.kd, .int .i64 S.rq.nm, .slice xa S.rq.body.length xk, .slice da S.dn.length dj, .int .i64 S.tr], .agg #[.int .i64 M.fr, .int .i64 M.to_, .int .i64 M.kd, .int .i64 M.nm, .slice ya M.body.length yk], .agg #[.int .i64 A.fr, .int .i64 A.to_, .int .i64 A.kd, .int .i64 A.nm, .slice za A.body.length zk], .agg #[.int .i64 O.fr, .int .i64 O.to_, .int .i64 O.kd, .int .i64 O.nm, .slice oa O.body.length ok]] w fun e w' => e = .returned (.bool true) ∧ Below w.heap.size w w' := by
  have E0 := Lib.hid ((((((Env.start D w).arg (.bs (.slice xa S.rq.body.length xk) S.rq.body) hx).arg (.ms (.slice da S.dn.length dj) S.dn) hy).arg (.bs (.slice ya M.body.length yk) M.body) hz).arg (.bs (.slice za A.body.length zk) A.body) hv).arg (.bs (.slice oa O.body.length ok) O.body) hu)
  clear hx hy hz hv hu
  go_enter Try.func4, Try.ntmps4
  have hg := Lib.hid hg0
  clear hg0
  have hl0 := Lib.hid hl00
  clear hl00
  have hl1 := Lib.hid hl10
  clear hl10
  have hl2 := Lib.hid hl20
  clear hl20
  have hS := Lib.hid hS0
  clear hS0
  have c1 := Lib.hid c10
  clear c10
  have hv1 := Lib.hid hv10
  clear hv10
  have c2 := Lib.hid c20
  clear c20
  have hb2 := Lib.hid hb20
  clear hb20
  have c3 := Lib.hid c30
  clear c30
  have c4 := Lib.hid c40
  clear c40
  have c5 := Lib.hid c50
  clear c50
  have f4 := Lib.hid f40
  clear f40
  go_wp2_with fail
  have E1 := Lib.hid (((((E0.out.push 27 [.int .i64 S.nx, .bool S.wt, .int .i64 S.rq.fr, .int .i64 S.rq.to_, .int .i64 S.rq.kd, .int .i64 S.rq.nm, .slice xa S.rq.body.length xk, .slice da S.dn.length dj, .int .i64 S.tr] (w.heap.size) (by simp)).push 24 [.int .i64 M.fr, .int .i64 M.to_, .int .i64 M.kd, .int .i64 M.nm, .slice ya M.body.length yk] (w.heap.size + 1) (by simp)).push 24 [.int .i64 A.fr, .int .i64 A.to_, .int .i64 A.kd, .int .i64 A.nm, .slice za A.body.length zk] (w.heap.size + 1 + 1) (by simp)).push 24 [.int .i64 O.fr, .int .i64 O.to_, .int .i64 O.kd, .int .i64 O.nm, .slice oa O.body.length ok] (w.heap.size + 1 + 1 + 1) (by simp)))
  refine (awake_c (D := (DF D w.heap.size [(w.heap.size + 1 + 1 + 1, 24, [.int .i64 O.fr, .int .i64 O.to_, .int .i64 O.kd, .int .i64 O.nm, .slice oa O.body.length ok]), (w.heap.size + 1 + 1, 24, [.int .i64 A.fr, .int .i64 A.to_, .int .i64 A.kd, .int .i64 A.nm, .slice za A.body.length zk]), (w.heap.size + 1, 24, [.int .i64 M.fr, .int .i64 M.to_, .int .i64 M.kd, .int .i64 M.nm, .slice ya M.body.length yk]), (w.heap.size, 27, [.int .i64 S.nx, .bool S.wt, .int .i64 S.rq.fr, .int .i64 S.rq.to_, .int .i64 S.rq.kd, .int .i64 S.rq.nm, .slice xa S.rq.body.length xk, .slice da S.dn.length dj, .int .i64 S.tr])]))).mono ?_
  rintro e w1 ⟨rfl, hb⟩
  have E2 := Lib.hid (E1.out.below hb)
  clear E0 E1 hb
  have b1 := E2.out.bx 3 rfl
  have c1_7 := b1.cell 7 rfl
  clear b1
  have b2 := E2.out.bx 3 rfl
  have c2_0 := b2.cell 0 rfl
  have c2_1 := b2.cell 1 rfl
  have c2_2 := b2.cell 2 rfl
  have c2_3 := b2.cell 3 rfl
  have c2_4 := b2.cell 4 rfl
  have c2_5 := b2.cell 5 rfl
  have c2_6 := b2.cell 6 rfl
  have c2_8 := b2.cell 8 rfl
  clear b2
  go_wp2_with fail
  refine (great_f hg.out (E2.out.fc 3 rfl)).mono ?_
  rintro e w2 ⟨rfl, hb⟩
  have E3 := Lib.hid (E2.out.below hb)
  clear c1_7 c2_0 c2_1 c2_2 c2_3 c2_4 c2_5 c2_6 c2_8 E2 hb
  have b3 := E3.out.bx 2 rfl
  have c3_0 := b3.cell 0 rfl
  have c3_1 := b3.cell 1 rfl
  have c3_2 := b3.cell 2 rfl
  have c3_3 := b3.cell 3 rfl
  have c3_4 := b3.cell 4 rfl
  clear b3
  go_wp2_with fail
  refine (long_v M.body hl0.out _ _ _ _ _ _ _).mono ?_
  rintro e w3 ⟨rfl, hb⟩
  have E4 := Lib.hid (E3.out.below hb)
  clear c3_0 c3_1 c3_2 c3_3 c3_4 E3 hb
  have b4 := E4.out.bx 1 rfl
  have c4_0 := b4.cell 0 rfl
  have c4_1 := b4.cell 1 rfl
  have c4_2 := b4.cell 2 rfl
  have c4_3 := b4.cell 3 rfl
  have c4_4 := b4.cell 4 rfl
  clear b4
  go_wp2_with fail
  refine (long_v A.body hl1.out _ _ _ _ _ _ _).mono ?_
  rintro e w4 ⟨rfl, hb⟩
  have E5 := Lib.hid (E4.out.below hb)
  clear c4_0 c4_1 c4_2 c4_3 c4_4 E4 hb
  have b5 := E5.out.bx 0 rfl
  have c5_0 := b5.cell 0 rfl
  have c5_1 := b5.cell 1 rfl
  have c5_2 := b5.cell 2 rfl
  have c5_3 := b5.cell 3 rfl
  have c5_4 := b5.cell 4 rfl
  clear b5
  go_wp2_with fail
  refine (long_v O.body hl2.out _ _ _ _ _ _ _).mono ?_
  rintro e w5 ⟨rfl, hb⟩
  have E6 := Lib.hid (E5.out.below hb)
  clear c5_0 c5_1 c5_2 c5_3 c5_4 E5 hb
  have b6 := E6.out.bx 3 rfl
  have c6_0 := b6.cell 0 rfl
  have c6_1 := b6.cell 1 rfl
  have c6_2 := b6.cell 2 rfl
  have c6_3 := b6.cell 3 rfl
  have c6_4 := b6.cell 4 rfl
  have c6_5 := b6.cell 5 rfl
  have c6_6 := b6.cell 6 rfl
  have c6_7 := b6.cell 7 rfl
  have c6_8 := b6.cell 8 rfl
  clear b6
  go_wp2_with fail
  refine (rValid_t (S := S) hS.out (E6.out.fc 4 rfl) (E6.out.fc 3 rfl)).mono ?_
  rintro e w6 ⟨rfl, hb⟩
  have E7 := Lib.hid (E6.out.below hb)
  clear c6_0 c6_1 c6_2 c6_3 c6_4 c6_5 c6_6 c6_7 c6_8 E6 hb
  have b7 := E7.out.bx 3 rfl
  have c7_0 := b7.cell 0 rfl
  have c7_1 := b7.cell 1 rfl
  have c7_2 := b7.cell 2 rfl
  have c7_3 := b7.cell 3 rfl
  have c7_4 := b7.cell 4 rfl
  have c7_5 := b7.cell 5 rfl
  have c7_6 := b7.cell 6 rfl
  have c7_7 := b7.cell 7 rfl
  have c7_8 := b7.cell 8 rfl
  clear b7
  have b8 := E7.out.bx 2 rfl
  have c8_0 := b8.cell 0 rfl
  have c8_1 := b8.cell 1 rfl
  have c8_2 := b8.cell 2 rfl
  have c8_3 := b8.cell 3 rfl
  have c8_4 := b8.cell 4 rfl
  clear b8
  have b9 := E7.out.bx 1 rfl
  have c9_0 := b9.cell 0 rfl
  have c9_1 := b9.cell 1 rfl
  have c9_2 := b9.cell 2 rfl
  have c9_3 := b9.cell 3 rfl
  have c9_4 := b9.cell 4 rfl
  clear b9
  go_wp2_with fail
  refine (c1.out _ _ _ _ _ _ _ _ _ _ (E7.out.fc 4 rfl) (E7.out.fc 3 rfl) (E7.out.fc 2 rfl) (E7.out.fc 1 rfl)).mono ?_
  rintro e w7 ⟨⟨paa, pak, pab, paj, rfl, hpa, gpa⟩, hb⟩
  have E8 := Lib.hid (E7.out.got (E7.out.got (E7.out.below hb) (.bs (.slice paa a1.rq.body.length pak) a1.rq.body) hpa.out) (.ms (.slice pab a1.dn.length paj) a1.dn) gpa.out)
  clear c7_0 c7_1 c7_2 c7_3 c7_4 c7_5 c7_6 c7_7 c7_8 c8_0 c8_1 c8_2 c8_3 c8_4 c9_0 c9_1 c9_2 c9_3 c9_4 E7 hb hpa gpa
  have E9 := Lib.hid ((E8.out.push 27 [.int .i64 a1.nx, .bool a1.wt, .int .i64 a1.rq.fr, .int .i64 a1.rq.to_, .int .i64 a1.rq.kd, .int .i64 a1.rq.nm, .slice paa a1.rq.body.length pak, .slice pab a1.dn.length paj, .int .i64 a1.tr] (w7.heap.size) (by simp)))
  have b10 := E9.out.bx 3 rfl
  have c10_0 := b10.cell 0 rfl
  have c10_1 := b10.cell 1 rfl
  have c10_2 := b10.cell 2 rfl
  have c10_3 := b10.cell 3 rfl
  have c10_4 := b10.cell 4 rfl
  clear b10
  go_wp2_with fail
  refine (c2.out _ _ _ _ _ _ _ _ (E9.out.fc 1 rfl) (E9.out.fc 0 rfl) (E9.out.fc 4 rfl)).mono ?_
  rintro e w8 ⟨⟨pba, pbk, rfl, hpb⟩, hb⟩
  have E10 := Lib.hid (E9.out.got (E9.out.below hb) (.bs (.slice pba a2.body.length pbk) a2.body) hpb.out)
  clear c10_0 c10_1 c10_2 c10_3 c10_4 E8 E9 hb hpb
  have E11 := Lib.hid ((E10.out.push 24 [.int .i64 a2.fr, .int .i64 a2.to_, .int .i64 a2.kd, .int .i64 a2.nm, .slice pba a2.body.length pbk] (w8.heap.size) (by simp)))
  have b11 := E11.out.bx 4 rfl
  have c11_0 := b11.cell 0 rfl
  have c11_1 := b11.cell 1 rfl
  have c11_2 := b11.cell 2 rfl
  have c11_3 := b11.cell 3 rfl
  have c11_4 := b11.cell 4 rfl
  clear b11
  go_wp2_with fail
  refine (rBelongs_v a2 M hb2.out _ _ _).mono ?_
  rintro e w9 ⟨rfl, hb⟩
  have E12 := Lib.hid (E11.out.below hb)
  clear c11_0 c11_1 c11_2 c11_3 c11_4 E10 E11 hb
  have b12 := E12.out.bx 0 rfl
  have c12_2 := b12.cell 2 rfl
  clear b12
  have b13 := E12.out.bx 3 rfl
  have c13_2 := b13.cell 2 rfl
  clear b13
  have b14 := E12.out.bx 1 rfl
  have c14_0 := b14.cell 0 rfl
  have c14_1 := b14.cell 1 rfl
  have c14_2 := b14.cell 2 rfl
  have c14_3 := b14.cell 3 rfl
  have c14_4 := b14.cell 4 rfl
  have c14_5 := b14.cell 5 rfl
  have c14_6 := b14.cell 6 rfl
  have c14_7 := b14.cell 7 rfl
  have c14_8 := b14.cell 8 rfl
  clear b14
  go_wp2_with fail
  refine (Valid_t (S := a1) hv1.out (E12.out.fc 2 rfl) (E12.out.fc 1 rfl)).mono ?_
  rintro e w10 ⟨rfl, hb⟩
  have E13 := Lib.hid (E12.out.below hb)
  clear c12_2 c13_2 c14_0 c14_1 c14_2 c14_3 c14_4 c14_5 c14_6 c14_7 c14_8 E12 hb
  have b15 := E13.out.bx 1 rfl
  have c15_0 := b15.cell 0 rfl
  have c15_1 := b15.cell 1 rfl
  have c15_2 := b15.cell 2 rfl
  have c15_3 := b15.cell 3 rfl
  have c15_4 := b15.cell 4 rfl
  have c15_5 := b15.cell 5 rfl
  have c15_6 := b15.cell 6 rfl
  have c15_7 := b15.cell 7 rfl
  have c15_8 := b15.cell 8 rfl
  clear b15
  have b16 := E13.out.bx 4 rfl
  have c16_0 := b16.cell 0 rfl
  have c16_1 := b16.cell 1 rfl
  have c16_2 := b16.cell 2 rfl
  have c16_3 := b16.cell 3 rfl
  have c16_4 := b16.cell 4 rfl
  clear b16
  have b17 := E13.out.bx 3 rfl
  have c17_0 := b17.cell 0 rfl
  have c17_1 := b17.cell 1 rfl
  have c17_2 := b17.cell 2 rfl
  have c17_3 := b17.cell 3 rfl
  have c17_4 := b17.cell 4 rfl
  clear b17
  go_wp2_with fail
  refine (c3.out _ _ _ _ _ _ _ _ _ _ (E13.out.fc 2 rfl) (E13.out.fc 1 rfl) (E13.out.fc 5 rfl) (E13.out.fc 4 rfl)).mono ?_
  rintro e w11 ⟨⟨pca, pck, pcb, pcj, rfl, hpc, gpc⟩, hb⟩
  have E14 := Lib.hid (E13.out.got (E13.out.got (E13.out.below hb) (.bs (.slice pca a3.rq.body.length pck) a3.rq.body) hpc.out) (.ms (.slice pcb a3.dn.length pcj) a3.dn) gpc.out)
  clear c15_0 c15_1 c15_2 c15_3 c15_4 c15_5 c15_6 c15_7 c15_8 c16_0 c16_1 c16_2 c16_3 c16_4 c17_0 c17_1 c17_2 c17_3 c17_4 E13 hb hpc gpc
  have E15 := Lib.hid ((E14.out.push 27 [.int .i64 a3.nx, .bool a3.wt, .int .i64 a3.rq.fr, .int .i64 a3.rq.to_, .int .i64 a3.rq.kd, .int .i64 a3.rq.nm, .slice pca a3.rq.body.length pck, .slice pcb a3.dn.length pcj, .int .i64 a3.tr] (w11.heap.size) (by simp)))
  have b18 := E15.out.bx 6 rfl
  have c18_0 := b18.cell 0 rfl
  have c18_1 := b18.cell 1 rfl
  have c18_2 := b18.cell 2 rfl
  have c18_3 := b18.cell 3 rfl
  have c18_4 := b18.cell 4 rfl
  have c18_5 := b18.cell 5 rfl
  have c18_6 := b18.cell 6 rfl
  have c18_7 := b18.cell 7 rfl
  have c18_8 := b18.cell 8 rfl
  clear b18
  have b19 := E15.out.bx 3 rfl
  have c19_0 := b19.cell 0 rfl
  have c19_1 := b19.cell 1 rfl
  have c19_2 := b19.cell 2 rfl
  have c19_3 := b19.cell 3 rfl
  have c19_4 := b19.cell 4 rfl
  clear b19
  go_wp2_with fail
  refine (c4.out _ _ _ _ _ _ _ _ (E15.out.fc 9 rfl) (E15.out.fc 8 rfl) (E15.out.fc 5 rfl)).mono ?_
  rintro e w12 ⟨⟨pda, pdk, rfl, hpd⟩, hb⟩
  have E16 := Lib.hid (E15.out.got (E15.out.below hb) (.bs (.slice pda a4.body.length pdk) a4.body) hpd.out)
  clear c18_0 c18_1 c18_2 c18_3 c18_4 c18_5 c18_6 c18_7 c18_8 c19_0 c19_1 c19_2 c19_3 c19_4 E14 E15 hb hpd
  have E17 := Lib.hid ((E16.out.push 24 [.int .i64 a4.fr, .int .i64 a4.to_, .int .i64 a4.kd, .int .i64 a4.nm, .slice pda a4.body.length pdk] (w12.heap.size) (by simp)))
  have b20 := E17.out.bx 3 rfl
  have c20_0 := b20.cell 0 rfl
  have c20_1 := b20.cell 1 rfl
  have c20_2 := b20.cell 2 rfl
  have c20_3 := b20.cell 3 rfl
  have c20_4 := b20.cell 4 rfl
  have c20_5 := b20.cell 5 rfl
  have c20_6 := b20.cell 6 rfl
  have c20_7 := b20.cell 7 rfl
  have c20_8 := b20.cell 8 rfl
  clear b20
  have b21 := E17.out.bx 4 rfl
  have c21_0 := b21.cell 0 rfl
  have c21_1 := b21.cell 1 rfl
  have c21_2 := b21.cell 2 rfl
  have c21_3 := b21.cell 3 rfl
  have c21_4 := b21.cell 4 rfl
  clear b21
  go_wp2_with fail
  refine (c5.out _ _ _ _ _ _ _ _ (E17.out.fc 5 rfl) (E17.out.fc 4 rfl) (E17.out.fc 6 rfl)).mono ?_
  rintro e w13 ⟨⟨pea, pek, rfl, hpe⟩, hb⟩
  have E18 := Lib.hid (E17.out.got (E17.out.below hb) (.bs (.slice pea a4.body.length pek) a4.body) hpe.out)
  clear c20_0 c20_1 c20_2 c20_3 c20_4 c20_5 c20_6 c20_7 c20_8 c21_0 c21_1 c21_2 c21_3 c21_4 E16 E17 hb hpe
  have E19 := Lib.hid ((E18.out.push 24 [.int .i64 a4.fr, .int .i64 a4.to_, .int .i64 a4.kd, .int .i64 a4.nm, .slice pea a4.body.length pek] (w13.heap.size) (by simp)))
  have b22 := E19.out.bx 5 rfl
  have c22_0 := b22.cell 0 rfl
  clear b22
  have b23 := E19.out.bx 7 rfl
  have c23_0 := b23.cell 0 rfl
  clear b23
  have b24 := E19.out.bx 1 rfl
  have c24_0 := b24.cell 0 rfl
  have c24_1 := b24.cell 1 rfl
  have c24_2 := b24.cell 2 rfl
  have c24_3 := b24.cell 3 rfl
  have c24_4 := b24.cell 4 rfl
  clear b24
  have b25 := E19.out.bx 0 rfl
  have c25_0 := b25.cell 0 rfl
  have c25_1 := b25.cell 1 rfl
  have c25_2 := b25.cell 2 rfl
  have c25_3 := b25.cell 3 rfl
  have c25_4 := b25.cell 4 rfl
  clear b25
  go_wp2_with fail
  refine (rSame_t a4 f4.out (E19.out.fc 1 rfl) (E19.out.fc 0 rfl)).mono ?_
  rintro e w14 ⟨rfl, hb⟩
  have E20 := Lib.hid (E19.out.below hb)
  clear c22_0 c23_0 c24_0 c24_1 c24_2 c24_3 c24_4 c25_0 c25_1 c25_2 c25_3 c25_4 E18 E19 hb
  have hfin := Lib.hid E20.out.bel
  go_wp2
  go_ret
  exact ⟨rfl, hfin.out⟩
set_option maxRecDepth 100000 in
set_option maxHeartbeats 4000000 in
theorem keeps_en {D : Nat → Prop} (S : Ses) (M A O : Msg) {xa da ya za oa : Option Addr} {xk dj yk zk ok : Nat} (a1 a3 : Ses) (a2 : Msg) (a4 a5 : Msg) (k4 k5 : Int) {w : World} (hx : Fct.at w D (.bs (.slice xa S.rq.body.length xk) S.rq.body)) (hy : Fct.at w D (.ms (.slice da S.dn.length dj) S.dn)) (hz : Fct.at w D (.bs (.slice ya M.body.length yk) M.body)) (hv : Fct.at w D (.bs (.slice za A.body.length zk) A.body)) (hu : Fct.at w D (.bs (.slice oa O.body.length ok) O.body)) (t0 : decide ((40 : Int) < (S.dn.length : Int)) = false) (t1 : (a2.kd == A.kd) = true) (t1d : decide (a2.kd = A.kd) = true) (t1n : (a2.kd != A.kd) = false) (t2 : (O.fr == M.fr) = true) (t2d : decide (O.fr = M.fr) = true) (t2n : (O.fr != M.fr) = false) (t3 : (k5 == 7) = false) (t3d : decide (k5 = 7) = false) (t3n : (k5 != 7) = true) (hg0 : Small S) (hl00 : decide (20000 < M.body.length) = false) (hl10 : decide (20000 < A.body.length) = false) (hl20 : decide (20000 < O.body.length) = false) (hS0 : SesOk S) (c10 : DnLike 17 S M A a1 0) (hv10 : SesOk a1) (c20 : KnLike 15 a1 M a2 0) (hb20 : blg a2 M = true) (c30 : DnLike 17 a1 M A a3 8) (c40 : KnLike 15 S O a4 k4) (c50 : KnLike 15 a1 O a5 k5) :
    Calls Try.prog 4 #[.agg #[.int .i64 S.nx, .bool S.wt, .int .i64 S.rq.fr, .int .i64 S.rq.to_, .int .i64 S.rq.kd, .int .i64 S.rq.nm, .slice xa S.rq.body.length xk, .slice da S.dn.length dj, .int .i64 S.tr], .agg #[.int .i64 M.fr, .int .i64 M.to_, .int .i64 M.kd, .int .i64 M.nm, .slice ya M.body.length yk], .agg #[.int .i64 A.fr, .int .i64 A.to_, .int .i64 A.kd, .int .i64 A.nm, .slice za A.body.length zk], .agg #[.int .i64 O.fr, .int .i64 O.to_, .int .i64 O.kd, .int .i64 O.nm, .slice oa O.body.length ok]] w fun e w' => e = .returned (.bool true) ∧ Below w.heap.size w w' := by
  have E0 := Lib.hid ((((((Env.start D w).arg (.bs (.slice xa S.rq.body.length xk) S.rq.body) hx).arg (.ms (.slice da S.dn.length dj) S.dn) hy).arg (.bs (.slice ya M.body.length yk) M.body) hz).arg (.bs (.slice za A.body.length zk) A.body) hv).arg (.bs (.slice oa O.body.length ok) O.body) hu)
  clear hx hy hz hv hu
  go_enter Try.func4, Try.ntmps4
  have hg := Lib.hid hg0
  clear hg0
  have hl0 := Lib.hid hl00
  clear hl00
  have hl1 := Lib.hid hl10
  clear hl10
  have hl2 := Lib.hid hl20
  clear hl20
  have hS := Lib.hid hS0
  clear hS0
  have c1 := Lib.hid c10
  clear c10
  have hv1 := Lib.hid hv10
  clear hv10
  have c2 := Lib.hid c20
  clear c20
  have hb2 := Lib.hid hb20
  clear hb20
  have c3 := Lib.hid c30
  clear c30
  have c4 := Lib.hid c40
  clear c40
  have c5 := Lib.hid c50
  clear c50
  go_wp2_with fail
  have E1 := Lib.hid (((((E0.out.push 27 [.int .i64 S.nx, .bool S.wt, .int .i64 S.rq.fr, .int .i64 S.rq.to_, .int .i64 S.rq.kd, .int .i64 S.rq.nm, .slice xa S.rq.body.length xk, .slice da S.dn.length dj, .int .i64 S.tr] (w.heap.size) (by simp)).push 24 [.int .i64 M.fr, .int .i64 M.to_, .int .i64 M.kd, .int .i64 M.nm, .slice ya M.body.length yk] (w.heap.size + 1) (by simp)).push 24 [.int .i64 A.fr, .int .i64 A.to_, .int .i64 A.kd, .int .i64 A.nm, .slice za A.body.length zk] (w.heap.size + 1 + 1) (by simp)).push 24 [.int .i64 O.fr, .int .i64 O.to_, .int .i64 O.kd, .int .i64 O.nm, .slice oa O.body.length ok] (w.heap.size + 1 + 1 + 1) (by simp)))
  refine (awake_c (D := (DF D w.heap.size [(w.heap.size + 1 + 1 + 1, 24, [.int .i64 O.fr, .int .i64 O.to_, .int .i64 O.kd, .int .i64 O.nm, .slice oa O.body.length ok]), (w.heap.size + 1 + 1, 24, [.int .i64 A.fr, .int .i64 A.to_, .int .i64 A.kd, .int .i64 A.nm, .slice za A.body.length zk]), (w.heap.size + 1, 24, [.int .i64 M.fr, .int .i64 M.to_, .int .i64 M.kd, .int .i64 M.nm, .slice ya M.body.length yk]), (w.heap.size, 27, [.int .i64 S.nx, .bool S.wt, .int .i64 S.rq.fr, .int .i64 S.rq.to_, .int .i64 S.rq.kd, .int .i64 S.rq.nm, .slice xa S.rq.body.length xk, .slice da S.dn.length dj, .int .i64 S.tr])]))).mono ?_
  rintro e w1 ⟨rfl, hb⟩
  have E2 := Lib.hid (E1.out.below hb)
  clear E0 E1 hb
  have b1 := E2.out.bx 3 rfl
  have c1_7 := b1.cell 7 rfl
  clear b1
  have b2 := E2.out.bx 3 rfl
  have c2_0 := b2.cell 0 rfl
  have c2_1 := b2.cell 1 rfl
  have c2_2 := b2.cell 2 rfl
  have c2_3 := b2.cell 3 rfl
  have c2_4 := b2.cell 4 rfl
  have c2_5 := b2.cell 5 rfl
  have c2_6 := b2.cell 6 rfl
  have c2_8 := b2.cell 8 rfl
  clear b2
  go_wp2_with fail
  refine (great_f hg.out (E2.out.fc 3 rfl)).mono ?_
  rintro e w2 ⟨rfl, hb⟩
  have E3 := Lib.hid (E2.out.below hb)
  clear c1_7 c2_0 c2_1 c2_2 c2_3 c2_4 c2_5 c2_6 c2_8 E2 hb
  have b3 := E3.out.bx 2 rfl
  have c3_0 := b3.cell 0 rfl
  have c3_1 := b3.cell 1 rfl
  have c3_2 := b3.cell 2 rfl
  have c3_3 := b3.cell 3 rfl
  have c3_4 := b3.cell 4 rfl
  clear b3
  go_wp2_with fail
  refine (long_v M.body hl0.out _ _ _ _ _ _ _).mono ?_
  rintro e w3 ⟨rfl, hb⟩
  have E4 := Lib.hid (E3.out.below hb)
  clear c3_0 c3_1 c3_2 c3_3 c3_4 E3 hb
  have b4 := E4.out.bx 1 rfl
  have c4_0 := b4.cell 0 rfl
  have c4_1 := b4.cell 1 rfl
  have c4_2 := b4.cell 2 rfl
  have c4_3 := b4.cell 3 rfl
  have c4_4 := b4.cell 4 rfl
  clear b4
  go_wp2_with fail
  refine (long_v A.body hl1.out _ _ _ _ _ _ _).mono ?_
  rintro e w4 ⟨rfl, hb⟩
  have E5 := Lib.hid (E4.out.below hb)
  clear c4_0 c4_1 c4_2 c4_3 c4_4 E4 hb
  have b5 := E5.out.bx 0 rfl
  have c5_0 := b5.cell 0 rfl
  have c5_1 := b5.cell 1 rfl
  have c5_2 := b5.cell 2 rfl
  have c5_3 := b5.cell 3 rfl
  have c5_4 := b5.cell 4 rfl
  clear b5
  go_wp2_with fail
  refine (long_v O.body hl2.out _ _ _ _ _ _ _).mono ?_
  rintro e w5 ⟨rfl, hb⟩
  have E6 := Lib.hid (E5.out.below hb)
  clear c5_0 c5_1 c5_2 c5_3 c5_4 E5 hb
  have b6 := E6.out.bx 3 rfl
  have c6_0 := b6.cell 0 rfl
  have c6_1 := b6.cell 1 rfl
  have c6_2 := b6.cell 2 rfl
  have c6_3 := b6.cell 3 rfl
  have c6_4 := b6.cell 4 rfl
  have c6_5 := b6.cell 5 rfl
  have c6_6 := b6.cell 6 rfl
  have c6_7 := b6.cell 7 rfl
  have c6_8 := b6.cell 8 rfl
  clear b6
  go_wp2_with fail
  refine (rValid_t (S := S) hS.out (E6.out.fc 4 rfl) (E6.out.fc 3 rfl)).mono ?_
  rintro e w6 ⟨rfl, hb⟩
  have E7 := Lib.hid (E6.out.below hb)
  clear c6_0 c6_1 c6_2 c6_3 c6_4 c6_5 c6_6 c6_7 c6_8 E6 hb
  have b7 := E7.out.bx 3 rfl
  have c7_0 := b7.cell 0 rfl
  have c7_1 := b7.cell 1 rfl
  have c7_2 := b7.cell 2 rfl
  have c7_3 := b7.cell 3 rfl
  have c7_4 := b7.cell 4 rfl
  have c7_5 := b7.cell 5 rfl
  have c7_6 := b7.cell 6 rfl
  have c7_7 := b7.cell 7 rfl
  have c7_8 := b7.cell 8 rfl
  clear b7
  have b8 := E7.out.bx 2 rfl
  have c8_0 := b8.cell 0 rfl
  have c8_1 := b8.cell 1 rfl
  have c8_2 := b8.cell 2 rfl
  have c8_3 := b8.cell 3 rfl
  have c8_4 := b8.cell 4 rfl
  clear b8
  have b9 := E7.out.bx 1 rfl
  have c9_0 := b9.cell 0 rfl
  have c9_1 := b9.cell 1 rfl
  have c9_2 := b9.cell 2 rfl
  have c9_3 := b9.cell 3 rfl
  have c9_4 := b9.cell 4 rfl
  clear b9
  go_wp2_with fail
  refine (c1.out _ _ _ _ _ _ _ _ _ _ (E7.out.fc 4 rfl) (E7.out.fc 3 rfl) (E7.out.fc 2 rfl) (E7.out.fc 1 rfl)).mono ?_
  rintro e w7 ⟨⟨paa, pak, pab, paj, rfl, hpa, gpa⟩, hb⟩
  have E8 := Lib.hid (E7.out.got (E7.out.got (E7.out.below hb) (.bs (.slice paa a1.rq.body.length pak) a1.rq.body) hpa.out) (.ms (.slice pab a1.dn.length paj) a1.dn) gpa.out)
  clear c7_0 c7_1 c7_2 c7_3 c7_4 c7_5 c7_6 c7_7 c7_8 c8_0 c8_1 c8_2 c8_3 c8_4 c9_0 c9_1 c9_2 c9_3 c9_4 E7 hb hpa gpa
  have E9 := Lib.hid ((E8.out.push 27 [.int .i64 a1.nx, .bool a1.wt, .int .i64 a1.rq.fr, .int .i64 a1.rq.to_, .int .i64 a1.rq.kd, .int .i64 a1.rq.nm, .slice paa a1.rq.body.length pak, .slice pab a1.dn.length paj, .int .i64 a1.tr] (w7.heap.size) (by simp)))
  have b10 := E9.out.bx 3 rfl
  have c10_0 := b10.cell 0 rfl
  have c10_1 := b10.cell 1 rfl
  have c10_2 := b10.cell 2 rfl
  have c10_3 := b10.cell 3 rfl
  have c10_4 := b10.cell 4 rfl
  clear b10
  go_wp2_with fail
  refine (c2.out _ _ _ _ _ _ _ _ (E9.out.fc 1 rfl) (E9.out.fc 0 rfl) (E9.out.fc 4 rfl)).mono ?_
  rintro e w8 ⟨⟨pba, pbk, rfl, hpb⟩, hb⟩
  have E10 := Lib.hid (E9.out.got (E9.out.below hb) (.bs (.slice pba a2.body.length pbk) a2.body) hpb.out)
  clear c10_0 c10_1 c10_2 c10_3 c10_4 E8 E9 hb hpb
  have E11 := Lib.hid ((E10.out.push 24 [.int .i64 a2.fr, .int .i64 a2.to_, .int .i64 a2.kd, .int .i64 a2.nm, .slice pba a2.body.length pbk] (w8.heap.size) (by simp)))
  have b11 := E11.out.bx 4 rfl
  have c11_0 := b11.cell 0 rfl
  have c11_1 := b11.cell 1 rfl
  have c11_2 := b11.cell 2 rfl
  have c11_3 := b11.cell 3 rfl
  have c11_4 := b11.cell 4 rfl
  clear b11
  go_wp2_with fail
  refine (rBelongs_v a2 M hb2.out _ _ _).mono ?_
  rintro e w9 ⟨rfl, hb⟩
  have E12 := Lib.hid (E11.out.below hb)
  clear c11_0 c11_1 c11_2 c11_3 c11_4 E10 E11 hb
  have b12 := E12.out.bx 0 rfl
  have c12_2 := b12.cell 2 rfl
  clear b12
  have b13 := E12.out.bx 3 rfl
  have c13_2 := b13.cell 2 rfl
  clear b13
  have b14 := E12.out.bx 1 rfl
  have c14_0 := b14.cell 0 rfl
  have c14_1 := b14.cell 1 rfl
  have c14_2 := b14.cell 2 rfl
  have c14_3 := b14.cell 3 rfl
  have c14_4 := b14.cell 4 rfl
  have c14_5 := b14.cell 5 rfl
  have c14_6 := b14.cell 6 rfl
  have c14_7 := b14.cell 7 rfl
  have c14_8 := b14.cell 8 rfl
  clear b14
  go_wp2_with fail
  refine (Valid_t (S := a1) hv1.out (E12.out.fc 2 rfl) (E12.out.fc 1 rfl)).mono ?_
  rintro e w10 ⟨rfl, hb⟩
  have E13 := Lib.hid (E12.out.below hb)
  clear c12_2 c13_2 c14_0 c14_1 c14_2 c14_3 c14_4 c14_5 c14_6 c14_7 c14_8 E12 hb
  have b15 := E13.out.bx 1 rfl
  have c15_0 := b15.cell 0 rfl
  have c15_1 := b15.cell 1 rfl
  have c15_2 := b15.cell 2 rfl
  have c15_3 := b15.cell 3 rfl
  have c15_4 := b15.cell 4 rfl
  have c15_5 := b15.cell 5 rfl
  have c15_6 := b15.cell 6 rfl
  have c15_7 := b15.cell 7 rfl
  have c15_8 := b15.cell 8 rfl
  clear b15
  have b16 := E13.out.bx 4 rfl
  have c16_0 := b16.cell 0 rfl
  have c16_1 := b16.cell 1 rfl
  have c16_2 := b16.cell 2 rfl
  have c16_3 := b16.cell 3 rfl
  have c16_4 := b16.cell 4 rfl
  clear b16
  have b17 := E13.out.bx 3 rfl
  have c17_0 := b17.cell 0 rfl
  have c17_1 := b17.cell 1 rfl
  have c17_2 := b17.cell 2 rfl
  have c17_3 := b17.cell 3 rfl
  have c17_4 := b17.cell 4 rfl
  clear b17
  go_wp2_with fail
  refine (c3.out _ _ _ _ _ _ _ _ _ _ (E13.out.fc 2 rfl) (E13.out.fc 1 rfl) (E13.out.fc 5 rfl) (E13.out.fc 4 rfl)).mono ?_
  rintro e w11 ⟨⟨pca, pck, pcb, pcj, rfl, hpc, gpc⟩, hb⟩
  have E14 := Lib.hid (E13.out.got (E13.out.got (E13.out.below hb) (.bs (.slice pca a3.rq.body.length pck) a3.rq.body) hpc.out) (.ms (.slice pcb a3.dn.length pcj) a3.dn) gpc.out)
  clear c15_0 c15_1 c15_2 c15_3 c15_4 c15_5 c15_6 c15_7 c15_8 c16_0 c16_1 c16_2 c16_3 c16_4 c17_0 c17_1 c17_2 c17_3 c17_4 E13 hb hpc gpc
  have E15 := Lib.hid ((E14.out.push 27 [.int .i64 a3.nx, .bool a3.wt, .int .i64 a3.rq.fr, .int .i64 a3.rq.to_, .int .i64 a3.rq.kd, .int .i64 a3.rq.nm, .slice pca a3.rq.body.length pck, .slice pcb a3.dn.length pcj, .int .i64 a3.tr] (w11.heap.size) (by simp)))
  have b18 := E15.out.bx 6 rfl
  have c18_0 := b18.cell 0 rfl
  have c18_1 := b18.cell 1 rfl
  have c18_2 := b18.cell 2 rfl
  have c18_3 := b18.cell 3 rfl
  have c18_4 := b18.cell 4 rfl
  have c18_5 := b18.cell 5 rfl
  have c18_6 := b18.cell 6 rfl
  have c18_7 := b18.cell 7 rfl
  have c18_8 := b18.cell 8 rfl
  clear b18
  have b19 := E15.out.bx 3 rfl
  have c19_0 := b19.cell 0 rfl
  have c19_1 := b19.cell 1 rfl
  have c19_2 := b19.cell 2 rfl
  have c19_3 := b19.cell 3 rfl
  have c19_4 := b19.cell 4 rfl
  clear b19
  go_wp2_with fail
  refine (c4.out _ _ _ _ _ _ _ _ (E15.out.fc 9 rfl) (E15.out.fc 8 rfl) (E15.out.fc 5 rfl)).mono ?_
  rintro e w12 ⟨⟨pda, pdk, rfl, hpd⟩, hb⟩
  have E16 := Lib.hid (E15.out.got (E15.out.below hb) (.bs (.slice pda a4.body.length pdk) a4.body) hpd.out)
  clear c18_0 c18_1 c18_2 c18_3 c18_4 c18_5 c18_6 c18_7 c18_8 c19_0 c19_1 c19_2 c19_3 c19_4 E14 E15 hb hpd
  have E17 := Lib.hid ((E16.out.push 24 [.int .i64 a4.fr, .int .i64 a4.to_, .int .i64 a4.kd, .int .i64 a4.nm, .slice pda a4.body.length pdk] (w12.heap.size) (by simp)))
  have b20 := E17.out.bx 3 rfl
  have c20_0 := b20.cell 0 rfl
  have c20_1 := b20.cell 1 rfl
  have c20_2 := b20.cell 2 rfl
  have c20_3 := b20.cell 3 rfl
  have c20_4 := b20.cell 4 rfl
  have c20_5 := b20.cell 5 rfl
  have c20_6 := b20.cell 6 rfl
  have c20_7 := b20.cell 7 rfl
  have c20_8 := b20.cell 8 rfl
  clear b20
  have b21 := E17.out.bx 4 rfl
  have c21_0 := b21.cell 0 rfl
  have c21_1 := b21.cell 1 rfl
  have c21_2 := b21.cell 2 rfl
  have c21_3 := b21.cell 3 rfl
  have c21_4 := b21.cell 4 rfl
  clear b21
  go_wp2_with fail
  refine (c5.out _ _ _ _ _ _ _ _ (E17.out.fc 5 rfl) (E17.out.fc 4 rfl) (E17.out.fc 6 rfl)).mono ?_
  rintro e w13 ⟨⟨pea, pek, rfl, hpe⟩, hb⟩
  have E18 := Lib.hid (E17.out.got (E17.out.below hb) (.bs (.slice pea a5.body.length pek) a5.body) hpe.out)
  clear c20_0 c20_1 c20_2 c20_3 c20_4 c20_5 c20_6 c20_7 c20_8 c21_0 c21_1 c21_2 c21_3 c21_4 E16 E17 hb hpe
  have E19 := Lib.hid ((E18.out.push 24 [.int .i64 a5.fr, .int .i64 a5.to_, .int .i64 a5.kd, .int .i64 a5.nm, .slice pea a5.body.length pek] (w13.heap.size) (by simp)))
  have b22 := E19.out.bx 5 rfl
  have c22_0 := b22.cell 0 rfl
  clear b22
  have b23 := E19.out.bx 7 rfl
  have c23_0 := b23.cell 0 rfl
  clear b23
  have hfin := Lib.hid E19.out.bel
  go_wp2
  go_ret
  exact ⟨rfl, hfin.out⟩
set_option maxRecDepth 100000 in
set_option maxHeartbeats 4000000 in
theorem keeps_e7 {D : Nat → Prop} (S : Ses) (M A O : Msg) {xa da ya za oa : Option Addr} {xk dj yk zk ok : Nat} (a1 a3 : Ses) (a2 : Msg) (a4 a5 : Msg) (k4 : Int) {w : World} (hx : Fct.at w D (.bs (.slice xa S.rq.body.length xk) S.rq.body)) (hy : Fct.at w D (.ms (.slice da S.dn.length dj) S.dn)) (hz : Fct.at w D (.bs (.slice ya M.body.length yk) M.body)) (hv : Fct.at w D (.bs (.slice za A.body.length zk) A.body)) (hu : Fct.at w D (.bs (.slice oa O.body.length ok) O.body)) (t0 : decide ((40 : Int) < (S.dn.length : Int)) = false) (t1 : (a2.kd == A.kd) = true) (t1d : decide (a2.kd = A.kd) = true) (t1n : (a2.kd != A.kd) = false) (t2 : (O.fr == M.fr) = true) (t2d : decide (O.fr = M.fr) = true) (t2n : (O.fr != M.fr) = false) (t3 : decide (M.nm < O.nm) = true) (hg0 : Small S) (hl00 : decide (20000 < M.body.length) = false) (hl10 : decide (20000 < A.body.length) = false) (hl20 : decide (20000 < O.body.length) = false) (hS0 : SesOk S) (c10 : DnLike 17 S M A a1 0) (hv10 : SesOk a1) (c20 : KnLike 15 a1 M a2 0) (hb20 : blg a2 M = true) (c30 : DnLike 17 a1 M A a3 8) (c40 : KnLike 15 S O a4 k4) (c50 : KnLike 15 a1 O a5 7) :
    Calls Try.prog 4 #[.agg #[.int .i64 S.nx, .bool S.wt, .int .i64 S.rq.fr, .int .i64 S.rq.to_, .int .i64 S.rq.kd, .int .i64 S.rq.nm, .slice xa S.rq.body.length xk, .slice da S.dn.length dj, .int .i64 S.tr], .agg #[.int .i64 M.fr, .int .i64 M.to_, .int .i64 M.kd, .int .i64 M.nm, .slice ya M.body.length yk], .agg #[.int .i64 A.fr, .int .i64 A.to_, .int .i64 A.kd, .int .i64 A.nm, .slice za A.body.length zk], .agg #[.int .i64 O.fr, .int .i64 O.to_, .int .i64 O.kd, .int .i64 O.nm, .slice oa O.body.length ok]] w fun e w' => e = .returned (.bool true) ∧ Below w.heap.size w w' := by
  have E0 := Lib.hid ((((((Env.start D w).arg (.bs (.slice xa S.rq.body.length xk) S.rq.body) hx).arg (.ms (.slice da S.dn.length dj) S.dn) hy).arg (.bs (.slice ya M.body.length yk) M.body) hz).arg (.bs (.slice za A.body.length zk) A.body) hv).arg (.bs (.slice oa O.body.length ok) O.body) hu)
  clear hx hy hz hv hu
  go_enter Try.func4, Try.ntmps4
  have hg := Lib.hid hg0
  clear hg0
  have hl0 := Lib.hid hl00
  clear hl00
  have hl1 := Lib.hid hl10
  clear hl10
  have hl2 := Lib.hid hl20
  clear hl20
  have hS := Lib.hid hS0
  clear hS0
  have c1 := Lib.hid c10
  clear c10
  have hv1 := Lib.hid hv10
  clear hv10
  have c2 := Lib.hid c20
  clear c20
  have hb2 := Lib.hid hb20
  clear hb20
  have c3 := Lib.hid c30
  clear c30
  have c4 := Lib.hid c40
  clear c40
  have c5 := Lib.hid c50
  clear c50
  go_wp2_with fail
  have E1 := Lib.hid (((((E0.out.push 27 [.int .i64 S.nx, .bool S.wt, .int .i64 S.rq.fr, .int .i64 S.rq.to_, .int .i64 S.rq.kd, .int .i64 S.rq.nm, .slice xa S.rq.body.length xk, .slice da S.dn.length dj, .int .i64 S.tr] (w.heap.size) (by simp)).push 24 [.int .i64 M.fr, .int .i64 M.to_, .int .i64 M.kd, .int .i64 M.nm, .slice ya M.body.length yk] (w.heap.size + 1) (by simp)).push 24 [.int .i64 A.fr, .int .i64 A.to_, .int .i64 A.kd, .int .i64 A.nm, .slice za A.body.length zk] (w.heap.size + 1 + 1) (by simp)).push 24 [.int .i64 O.fr, .int .i64 O.to_, .int .i64 O.kd, .int .i64 O.nm, .slice oa O.body.length ok] (w.heap.size + 1 + 1 + 1) (by simp)))
  refine (awake_c (D := (DF D w.heap.size [(w.heap.size + 1 + 1 + 1, 24, [.int .i64 O.fr, .int .i64 O.to_, .int .i64 O.kd, .int .i64 O.nm, .slice oa O.body.length ok]), (w.heap.size + 1 + 1, 24, [.int .i64 A.fr, .int .i64 A.to_, .int .i64 A.kd, .int .i64 A.nm, .slice za A.body.length zk]), (w.heap.size + 1, 24, [.int .i64 M.fr, .int .i64 M.to_, .int .i64 M.kd, .int .i64 M.nm, .slice ya M.body.length yk]), (w.heap.size, 27, [.int .i64 S.nx, .bool S.wt, .int .i64 S.rq.fr, .int .i64 S.rq.to_, .int .i64 S.rq.kd, .int .i64 S.rq.nm, .slice xa S.rq.body.length xk, .slice da S.dn.length dj, .int .i64 S.tr])]))).mono ?_
  rintro e w1 ⟨rfl, hb⟩
  have E2 := Lib.hid (E1.out.below hb)
  clear E0 E1 hb
  have b1 := E2.out.bx 3 rfl
  have c1_7 := b1.cell 7 rfl
  clear b1
  have b2 := E2.out.bx 3 rfl
  have c2_0 := b2.cell 0 rfl
  have c2_1 := b2.cell 1 rfl
  have c2_2 := b2.cell 2 rfl
  have c2_3 := b2.cell 3 rfl
  have c2_4 := b2.cell 4 rfl
  have c2_5 := b2.cell 5 rfl
  have c2_6 := b2.cell 6 rfl
  have c2_8 := b2.cell 8 rfl
  clear b2
  go_wp2_with fail
  refine (great_f hg.out (E2.out.fc 3 rfl)).mono ?_
  rintro e w2 ⟨rfl, hb⟩
  have E3 := Lib.hid (E2.out.below hb)
  clear c1_7 c2_0 c2_1 c2_2 c2_3 c2_4 c2_5 c2_6 c2_8 E2 hb
  have b3 := E3.out.bx 2 rfl
  have c3_0 := b3.cell 0 rfl
  have c3_1 := b3.cell 1 rfl
  have c3_2 := b3.cell 2 rfl
  have c3_3 := b3.cell 3 rfl
  have c3_4 := b3.cell 4 rfl
  clear b3
  go_wp2_with fail
  refine (long_v M.body hl0.out _ _ _ _ _ _ _).mono ?_
  rintro e w3 ⟨rfl, hb⟩
  have E4 := Lib.hid (E3.out.below hb)
  clear c3_0 c3_1 c3_2 c3_3 c3_4 E3 hb
  have b4 := E4.out.bx 1 rfl
  have c4_0 := b4.cell 0 rfl
  have c4_1 := b4.cell 1 rfl
  have c4_2 := b4.cell 2 rfl
  have c4_3 := b4.cell 3 rfl
  have c4_4 := b4.cell 4 rfl
  clear b4
  go_wp2_with fail
  refine (long_v A.body hl1.out _ _ _ _ _ _ _).mono ?_
  rintro e w4 ⟨rfl, hb⟩
  have E5 := Lib.hid (E4.out.below hb)
  clear c4_0 c4_1 c4_2 c4_3 c4_4 E4 hb
  have b5 := E5.out.bx 0 rfl
  have c5_0 := b5.cell 0 rfl
  have c5_1 := b5.cell 1 rfl
  have c5_2 := b5.cell 2 rfl
  have c5_3 := b5.cell 3 rfl
  have c5_4 := b5.cell 4 rfl
  clear b5
  go_wp2_with fail
  refine (long_v O.body hl2.out _ _ _ _ _ _ _).mono ?_
  rintro e w5 ⟨rfl, hb⟩
  have E6 := Lib.hid (E5.out.below hb)
  clear c5_0 c5_1 c5_2 c5_3 c5_4 E5 hb
  have b6 := E6.out.bx 3 rfl
  have c6_0 := b6.cell 0 rfl
  have c6_1 := b6.cell 1 rfl
  have c6_2 := b6.cell 2 rfl
  have c6_3 := b6.cell 3 rfl
  have c6_4 := b6.cell 4 rfl
  have c6_5 := b6.cell 5 rfl
  have c6_6 := b6.cell 6 rfl
  have c6_7 := b6.cell 7 rfl
  have c6_8 := b6.cell 8 rfl
  clear b6
  go_wp2_with fail
  refine (rValid_t (S := S) hS.out (E6.out.fc 4 rfl) (E6.out.fc 3 rfl)).mono ?_
  rintro e w6 ⟨rfl, hb⟩
  have E7 := Lib.hid (E6.out.below hb)
  clear c6_0 c6_1 c6_2 c6_3 c6_4 c6_5 c6_6 c6_7 c6_8 E6 hb
  have b7 := E7.out.bx 3 rfl
  have c7_0 := b7.cell 0 rfl
  have c7_1 := b7.cell 1 rfl
  have c7_2 := b7.cell 2 rfl
  have c7_3 := b7.cell 3 rfl
  have c7_4 := b7.cell 4 rfl
  have c7_5 := b7.cell 5 rfl
  have c7_6 := b7.cell 6 rfl
  have c7_7 := b7.cell 7 rfl
  have c7_8 := b7.cell 8 rfl
  clear b7
  have b8 := E7.out.bx 2 rfl
  have c8_0 := b8.cell 0 rfl
  have c8_1 := b8.cell 1 rfl
  have c8_2 := b8.cell 2 rfl
  have c8_3 := b8.cell 3 rfl
  have c8_4 := b8.cell 4 rfl
  clear b8
  have b9 := E7.out.bx 1 rfl
  have c9_0 := b9.cell 0 rfl
  have c9_1 := b9.cell 1 rfl
  have c9_2 := b9.cell 2 rfl
  have c9_3 := b9.cell 3 rfl
  have c9_4 := b9.cell 4 rfl
  clear b9
  go_wp2_with fail
  refine (c1.out _ _ _ _ _ _ _ _ _ _ (E7.out.fc 4 rfl) (E7.out.fc 3 rfl) (E7.out.fc 2 rfl) (E7.out.fc 1 rfl)).mono ?_
  rintro e w7 ⟨⟨paa, pak, pab, paj, rfl, hpa, gpa⟩, hb⟩
  have E8 := Lib.hid (E7.out.got (E7.out.got (E7.out.below hb) (.bs (.slice paa a1.rq.body.length pak) a1.rq.body) hpa.out) (.ms (.slice pab a1.dn.length paj) a1.dn) gpa.out)
  clear c7_0 c7_1 c7_2 c7_3 c7_4 c7_5 c7_6 c7_7 c7_8 c8_0 c8_1 c8_2 c8_3 c8_4 c9_0 c9_1 c9_2 c9_3 c9_4 E7 hb hpa gpa
  have E9 := Lib.hid ((E8.out.push 27 [.int .i64 a1.nx, .bool a1.wt, .int .i64 a1.rq.fr, .int .i64 a1.rq.to_, .int .i64 a1.rq.kd, .int .i64 a1.rq.nm, .slice paa a1.rq.body.length pak, .slice pab a1.dn.length paj, .int .i64 a1.tr] (w7.heap.size) (by simp)))
  have b10 := E9.out.bx 3 rfl
  have c10_0 := b10.cell 0 rfl
  have c10_1 := b10.cell 1 rfl
  have c10_2 := b10.cell 2 rfl
  have c10_3 := b10.cell 3 rfl
  have c10_4 := b10.cell 4 rfl
  clear b10
  go_wp2_with fail
  refine (c2.out _ _ _ _ _ _ _ _ (E9.out.fc 1 rfl) (E9.out.fc 0 rfl) (E9.out.fc 4 rfl)).mono ?_
  rintro e w8 ⟨⟨pba, pbk, rfl, hpb⟩, hb⟩
  have E10 := Lib.hid (E9.out.got (E9.out.below hb) (.bs (.slice pba a2.body.length pbk) a2.body) hpb.out)
  clear c10_0 c10_1 c10_2 c10_3 c10_4 E8 E9 hb hpb
  have E11 := Lib.hid ((E10.out.push 24 [.int .i64 a2.fr, .int .i64 a2.to_, .int .i64 a2.kd, .int .i64 a2.nm, .slice pba a2.body.length pbk] (w8.heap.size) (by simp)))
  have b11 := E11.out.bx 4 rfl
  have c11_0 := b11.cell 0 rfl
  have c11_1 := b11.cell 1 rfl
  have c11_2 := b11.cell 2 rfl
  have c11_3 := b11.cell 3 rfl
  have c11_4 := b11.cell 4 rfl
  clear b11
  go_wp2_with fail
  refine (rBelongs_v a2 M hb2.out _ _ _).mono ?_
  rintro e w9 ⟨rfl, hb⟩
  have E12 := Lib.hid (E11.out.below hb)
  clear c11_0 c11_1 c11_2 c11_3 c11_4 E10 E11 hb
  have b12 := E12.out.bx 0 rfl
  have c12_2 := b12.cell 2 rfl
  clear b12
  have b13 := E12.out.bx 3 rfl
  have c13_2 := b13.cell 2 rfl
  clear b13
  have b14 := E12.out.bx 1 rfl
  have c14_0 := b14.cell 0 rfl
  have c14_1 := b14.cell 1 rfl
  have c14_2 := b14.cell 2 rfl
  have c14_3 := b14.cell 3 rfl
  have c14_4 := b14.cell 4 rfl
  have c14_5 := b14.cell 5 rfl
  have c14_6 := b14.cell 6 rfl
  have c14_7 := b14.cell 7 rfl
  have c14_8 := b14.cell 8 rfl
  clear b14
  go_wp2_with fail
  refine (Valid_t (S := a1) hv1.out (E12.out.fc 2 rfl) (E12.out.fc 1 rfl)).mono ?_
  rintro e w10 ⟨rfl, hb⟩
  have E13 := Lib.hid (E12.out.below hb)
  clear c12_2 c13_2 c14_0 c14_1 c14_2 c14_3 c14_4 c14_5 c14_6 c14_7 c14_8 E12 hb
  have b15 := E13.out.bx 1 rfl
  have c15_0 := b15.cell 0 rfl
  have c15_1 := b15.cell 1 rfl
  have c15_2 := b15.cell 2 rfl
  have c15_3 := b15.cell 3 rfl
  have c15_4 := b15.cell 4 rfl
  have c15_5 := b15.cell 5 rfl
  have c15_6 := b15.cell 6 rfl
  have c15_7 := b15.cell 7 rfl
  have c15_8 := b15.cell 8 rfl
  clear b15
  have b16 := E13.out.bx 4 rfl
  have c16_0 := b16.cell 0 rfl
  have c16_1 := b16.cell 1 rfl
  have c16_2 := b16.cell 2 rfl
  have c16_3 := b16.cell 3 rfl
  have c16_4 := b16.cell 4 rfl
  clear b16
  have b17 := E13.out.bx 3 rfl
  have c17_0 := b17.cell 0 rfl
  have c17_1 := b17.cell 1 rfl
  have c17_2 := b17.cell 2 rfl
  have c17_3 := b17.cell 3 rfl
  have c17_4 := b17.cell 4 rfl
  clear b17
  go_wp2_with fail
  refine (c3.out _ _ _ _ _ _ _ _ _ _ (E13.out.fc 2 rfl) (E13.out.fc 1 rfl) (E13.out.fc 5 rfl) (E13.out.fc 4 rfl)).mono ?_
  rintro e w11 ⟨⟨pca, pck, pcb, pcj, rfl, hpc, gpc⟩, hb⟩
  have E14 := Lib.hid (E13.out.got (E13.out.got (E13.out.below hb) (.bs (.slice pca a3.rq.body.length pck) a3.rq.body) hpc.out) (.ms (.slice pcb a3.dn.length pcj) a3.dn) gpc.out)
  clear c15_0 c15_1 c15_2 c15_3 c15_4 c15_5 c15_6 c15_7 c15_8 c16_0 c16_1 c16_2 c16_3 c16_4 c17_0 c17_1 c17_2 c17_3 c17_4 E13 hb hpc gpc
  have E15 := Lib.hid ((E14.out.push 27 [.int .i64 a3.nx, .bool a3.wt, .int .i64 a3.rq.fr, .int .i64 a3.rq.to_, .int .i64 a3.rq.kd, .int .i64 a3.rq.nm, .slice pca a3.rq.body.length pck, .slice pcb a3.dn.length pcj, .int .i64 a3.tr] (w11.heap.size) (by simp)))
  have b18 := E15.out.bx 6 rfl
  have c18_0 := b18.cell 0 rfl
  have c18_1 := b18.cell 1 rfl
  have c18_2 := b18.cell 2 rfl
  have c18_3 := b18.cell 3 rfl
  have c18_4 := b18.cell 4 rfl
  have c18_5 := b18.cell 5 rfl
  have c18_6 := b18.cell 6 rfl
  have c18_7 := b18.cell 7 rfl
  have c18_8 := b18.cell 8 rfl
  clear b18
  have b19 := E15.out.bx 3 rfl
  have c19_0 := b19.cell 0 rfl
  have c19_1 := b19.cell 1 rfl
  have c19_2 := b19.cell 2 rfl
  have c19_3 := b19.cell 3 rfl
  have c19_4 := b19.cell 4 rfl
  clear b19
  go_wp2_with fail
  refine (c4.out _ _ _ _ _ _ _ _ (E15.out.fc 9 rfl) (E15.out.fc 8 rfl) (E15.out.fc 5 rfl)).mono ?_
  rintro e w12 ⟨⟨pda, pdk, rfl, hpd⟩, hb⟩
  have E16 := Lib.hid (E15.out.got (E15.out.below hb) (.bs (.slice pda a4.body.length pdk) a4.body) hpd.out)
  clear c18_0 c18_1 c18_2 c18_3 c18_4 c18_5 c18_6 c18_7 c18_8 c19_0 c19_1 c19_2 c19_3 c19_4 E14 E15 hb hpd
  have E17 := Lib.hid ((E16.out.push 24 [.int .i64 a4.fr, .int .i64 a4.to_, .int .i64 a4.kd, .int .i64 a4.nm, .slice pda a4.body.length pdk] (w12.heap.size) (by simp)))
  have b20 := E17.out.bx 3 rfl
  have c20_0 := b20.cell 0 rfl
  have c20_1 := b20.cell 1 rfl
  have c20_2 := b20.cell 2 rfl
  have c20_3 := b20.cell 3 rfl
  have c20_4 := b20.cell 4 rfl
  have c20_5 := b20.cell 5 rfl
  have c20_6 := b20.cell 6 rfl
  have c20_7 := b20.cell 7 rfl
  have c20_8 := b20.cell 8 rfl
  clear b20
  have b21 := E17.out.bx 4 rfl
  have c21_0 := b21.cell 0 rfl
  have c21_1 := b21.cell 1 rfl
  have c21_2 := b21.cell 2 rfl
  have c21_3 := b21.cell 3 rfl
  have c21_4 := b21.cell 4 rfl
  clear b21
  go_wp2_with fail
  refine (c5.out _ _ _ _ _ _ _ _ (E17.out.fc 5 rfl) (E17.out.fc 4 rfl) (E17.out.fc 6 rfl)).mono ?_
  rintro e w13 ⟨⟨pea, pek, rfl, hpe⟩, hb⟩
  have E18 := Lib.hid (E17.out.got (E17.out.below hb) (.bs (.slice pea a5.body.length pek) a5.body) hpe.out)
  clear c20_0 c20_1 c20_2 c20_3 c20_4 c20_5 c20_6 c20_7 c20_8 c21_0 c21_1 c21_2 c21_3 c21_4 E16 E17 hb hpe
  have E19 := Lib.hid ((E18.out.push 24 [.int .i64 a5.fr, .int .i64 a5.to_, .int .i64 a5.kd, .int .i64 a5.nm, .slice pea a5.body.length pek] (w13.heap.size) (by simp)))
  have b22 := E19.out.bx 5 rfl
  have c22_0 := b22.cell 0 rfl
  clear b22
  have b23 := E19.out.bx 7 rfl
  have c23_0 := b23.cell 0 rfl
  clear b23
  have b24 := E19.out.bx 5 rfl
  have c24_3 := b24.cell 3 rfl
  clear b24
  have b25 := E19.out.bx 7 rfl
  have c25_3 := b25.cell 3 rfl
  clear b25
  have hfin := Lib.hid E19.out.bel
  go_wp2
  go_ret
  exact ⟨rfl, hfin.out⟩
theorem SessionKeeps_walk (S : Ses) (M A O : Msg) {D : Nat → Prop} {xa da ya za oa : Option Addr} {xk dj yk zk ok : Nat} {w : World} (hx : Fct.at w D (.bs (.slice xa S.rq.body.length xk) S.rq.body)) (hy : Fct.at w D (.ms (.slice da S.dn.length dj) S.dn)) (hz : Fct.at w D (.bs (.slice ya M.body.length yk) M.body)) (hv : Fct.at w D (.bs (.slice za A.body.length zk) A.body)) (hu : Fct.at w D (.bs (.slice oa O.body.length ok) O.body)) :
    Calls Try.prog 4 #[.agg #[.int .i64 S.nx, .bool S.wt, .int .i64 S.rq.fr, .int .i64 S.rq.to_, .int .i64 S.rq.kd, .int .i64 S.rq.nm, .slice xa S.rq.body.length xk, .slice da S.dn.length dj, .int .i64 S.tr], .agg #[.int .i64 M.fr, .int .i64 M.to_, .int .i64 M.kd, .int .i64 M.nm, .slice ya M.body.length yk], .agg #[.int .i64 A.fr, .int .i64 A.to_, .int .i64 A.kd, .int .i64 A.nm, .slice za A.body.length zk], .agg #[.int .i64 O.fr, .int .i64 O.to_, .int .i64 O.kd, .int .i64 O.nm, .slice oa O.body.length ok]] w fun e w' => e = .returned (.bool true) ∧ Below w.heap.size w w' := by
  by_cases h4 : S.dn.length ≤ 40
  case neg => exact keeps_40 S M A O hx hy hz hv hu (decide_eq_true (by omega))
  have t0 : decide ((40 : Int) < (S.dn.length : Int)) = false := decide_eq_false (by omega)
  by_cases hg : Small S
  case neg => exact keeps_great S M A O hx hy hz hv hu t0 hg
  cases hl : decide (20000 < M.body.length)
  case true => exact keeps_l0 S M A O hx hy hz hv hu t0 hg hl
  cases hl1 : decide (20000 < A.body.length)
  case true => exact keeps_l1 S M A O hx hy hz hv hu t0 hg hl hl1
  cases hl2 : decide (20000 < O.body.length)
  case true => exact keeps_l2 S M A O hx hy hz hv hu t0 hg hl hl1 hl2
  by_cases hS : SesOk S
  case neg => exact keeps_nv S M A O hx hy hz hv hu t0 hg hl hl1 hl2 hS
  obtain ⟨a1, k1, r1⟩ := dn_ex S M A
  have c1 := done_p r1
  by_cases h0 : k1 = 0
  case neg =>
    obtain rfl := r1.ok.2 h0
    exact keeps_err S M A O k1 hx hy hz hv hu t0 (by simp [h0]) hg hl hl1 hl2 hS c1
  subst h0
  obtain ⟨a2, k2, r2⟩ := kn_ex a1 M
  obtain ⟨e2, rfl⟩ := keeps_known r1 r2
  obtain ⟨a3, k3, r3⟩ := dn_ex a1 M A
  obtain ⟨e3, rfl⟩ := keeps_twice r1 r3
  obtain ⟨a4, k4, r4⟩ := kn_ex S O
  obtain ⟨a5, k5, r5⟩ := kn_ex a1 O
  have hv1 := r1.ok.1 rfl
  have t1 : (a2.kd == A.kd) = true := by rw [e2]; simp [rem]
  have t1d : decide (a2.kd = A.kd) = true := by rw [e2]; simp [rem]
  have t1n : (a2.kd != A.kd) = false := by rw [e2]; simp [rem]
  have hb2 : blg a2 M = true := by rw [e2]; simp [rem, blg]
  by_cases he : O.fr = M.fr
  · have t2 : (O.fr == M.fr) = true := by simp [he]
    have t2d : decide (O.fr = M.fr) = true := by simp [he]
    have t2n : (O.fr != M.fr) = false := by simp [he]
    by_cases h7 : k5 = 7
    · subst h7
      have hlt := (keeps_same r1 r5 he).resolve_left (by simp)
      exact keeps_e7 S M A O a1 a3 a2 a4 a5 k4 hx hy hz hv hu t0 t1 t1d t1n t2 t2d t2n (decide_eq_true hlt) hg hl hl1 hl2 hS (done_p r1) hv1 (known_p r2) hb2 (done_p r3) (known_p r4) (known_p r5)
    · exact keeps_en S M A O a1 a3 a2 a4 a5 k4 k5 hx hy hz hv hu t0 t1 t1d t1n t2 t2d t2n (by simp [h7]) (by simp [h7]) (by simp [h7]) hg hl hl1 hl2 hS (done_p r1) hv1 (known_p r2) hb2 (done_p r3) (known_p r4) (known_p r5)
  · obtain ⟨rfl, rfl⟩ := keeps_other r1 r4 r5 he
    exact keeps_ne S M A O a1 a3 a2 a4 k4 hx hy hz hv hu t0 t1 t1d t1n (by simp [he]) (by simp [he]) (by simp [he]) hg hl hl1 hl2 hS (done_p r1) hv1 (known_p r2) hb2 (done_p r3) (known_p r4) (known_p r5) r4.len
end Go.Proofs.Ytbcfcdcomboljaa

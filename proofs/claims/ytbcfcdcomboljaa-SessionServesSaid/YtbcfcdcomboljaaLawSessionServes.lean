/- SessionServes: the walk. -/
import Derived.Test.YtbcfcdcomboljaaSesBo
import Derived.Test.YtbcfcdcomboljaaSesG
namespace Go.Proofs.Ytbcfcdcomboljaa
open Go.RowKit
set_option linter.unusedVariables false
set_option maxRecDepth 100000 in
set_option maxHeartbeats 4000000 in
theorem serves_great {D : Nat → Prop} (S : Ses) (M A : Msg) {xa da ya za : Option Addr} {xk dj yk zk : Nat} {w : World} (hx : Fct.at w D (.bs (.slice xa S.rq.body.length xk) S.rq.body)) (hy : Fct.at w D (.ms (.slice da S.dn.length dj) S.dn)) (hz : Fct.at w D (.bs (.slice ya M.body.length yk) M.body)) (hv : Fct.at w D (.bs (.slice za A.body.length zk) A.body)) (hg0 : ¬ Small S) :
    Calls Try.prog 3 #[.agg #[.int .i64 S.nx, .bool S.wt, .int .i64 S.rq.fr, .int .i64 S.rq.to_, .int .i64 S.rq.kd, .int .i64 S.rq.nm, .slice xa S.rq.body.length xk, .slice da S.dn.length dj, .int .i64 S.tr], .agg #[.int .i64 M.fr, .int .i64 M.to_, .int .i64 M.kd, .int .i64 M.nm, .slice ya M.body.length yk], .agg #[.int .i64 A.fr, .int .i64 A.to_, .int .i64 A.kd, .int .i64 A.nm, .slice za A.body.length zk]] w fun e w' => e = .returned (.bool true) ∧ Below w.heap.size w w' := by
  have E0 := Lib.hid (((((Env.start D w).arg (.bs (.slice xa S.rq.body.length xk) S.rq.body) hx).arg (.ms (.slice da S.dn.length dj) S.dn) hy).arg (.bs (.slice ya M.body.length yk) M.body) hz).arg (.bs (.slice za A.body.length zk) A.body) hv)
  clear hx hy hz hv
  go_enter Try.func3, Try.ntmps3
  have hg := Lib.hid hg0
  clear hg0
  go_wp2_with fail
  have E1 := Lib.hid ((((E0.out.push 27 [.int .i64 S.nx, .bool S.wt, .int .i64 S.rq.fr, .int .i64 S.rq.to_, .int .i64 S.rq.kd, .int .i64 S.rq.nm, .slice xa S.rq.body.length xk, .slice da S.dn.length dj, .int .i64 S.tr] (w.heap.size) (by simp)).push 24 [.int .i64 M.fr, .int .i64 M.to_, .int .i64 M.kd, .int .i64 M.nm, .slice ya M.body.length yk] (w.heap.size + 1) (by simp)).push 24 [.int .i64 A.fr, .int .i64 A.to_, .int .i64 A.kd, .int .i64 A.nm, .slice za A.body.length zk] (w.heap.size + 1 + 1) (by simp)))
  refine (awake_c (D := (DF D w.heap.size [(w.heap.size + 1 + 1, 24, [.int .i64 A.fr, .int .i64 A.to_, .int .i64 A.kd, .int .i64 A.nm, .slice za A.body.length zk]), (w.heap.size + 1, 24, [.int .i64 M.fr, .int .i64 M.to_, .int .i64 M.kd, .int .i64 M.nm, .slice ya M.body.length yk]), (w.heap.size, 27, [.int .i64 S.nx, .bool S.wt, .int .i64 S.rq.fr, .int .i64 S.rq.to_, .int .i64 S.rq.kd, .int .i64 S.rq.nm, .slice xa S.rq.body.length xk, .slice da S.dn.length dj, .int .i64 S.tr])]))).mono ?_
  rintro e w1 ⟨rfl, hb⟩
  have E2 := Lib.hid (E1.out.below hb)
  clear E0 E1 hb
  have b1 := E2.out.bx 2 rfl
  have c1_0 := b1.cell 0 rfl
  have c1_1 := b1.cell 1 rfl
  have c1_2 := b1.cell 2 rfl
  have c1_3 := b1.cell 3 rfl
  have c1_4 := b1.cell 4 rfl
  have c1_5 := b1.cell 5 rfl
  have c1_6 := b1.cell 6 rfl
  have c1_7 := b1.cell 7 rfl
  have c1_8 := b1.cell 8 rfl
  clear b1
  go_wp2_with fail
  refine (great_t hg.out (E2.out.fc 2 rfl)).mono ?_
  rintro e w2 ⟨rfl, hb⟩
  have E3 := Lib.hid (E2.out.below hb)
  clear c1_0 c1_1 c1_2 c1_3 c1_4 c1_5 c1_6 c1_7 c1_8 E2 hb
  have hfin := Lib.hid E3.out.bel
  go_wp2
  go_ret
  exact ⟨rfl, hfin.out⟩
set_option maxRecDepth 100000 in
set_option maxHeartbeats 4000000 in
theorem serves_long {D : Nat → Prop} (S : Ses) (M A : Msg) {xa da ya za : Option Addr} {xk dj yk zk : Nat} {w : World} (hx : Fct.at w D (.bs (.slice xa S.rq.body.length xk) S.rq.body)) (hy : Fct.at w D (.ms (.slice da S.dn.length dj) S.dn)) (hz : Fct.at w D (.bs (.slice ya M.body.length yk) M.body)) (hv : Fct.at w D (.bs (.slice za A.body.length zk) A.body)) (hg0 : Small S) (hl0 : decide (20000 < M.body.length) = true) :
    Calls Try.prog 3 #[.agg #[.int .i64 S.nx, .bool S.wt, .int .i64 S.rq.fr, .int .i64 S.rq.to_, .int .i64 S.rq.kd, .int .i64 S.rq.nm, .slice xa S.rq.body.length xk, .slice da S.dn.length dj, .int .i64 S.tr], .agg #[.int .i64 M.fr, .int .i64 M.to_, .int .i64 M.kd, .int .i64 M.nm, .slice ya M.body.length yk], .agg #[.int .i64 A.fr, .int .i64 A.to_, .int .i64 A.kd, .int .i64 A.nm, .slice za A.body.length zk]] w fun e w' => e = .returned (.bool true) ∧ Below w.heap.size w w' := by
  have E0 := Lib.hid (((((Env.start D w).arg (.bs (.slice xa S.rq.body.length xk) S.rq.body) hx).arg (.ms (.slice da S.dn.length dj) S.dn) hy).arg (.bs (.slice ya M.body.length yk) M.body) hz).arg (.bs (.slice za A.body.length zk) A.body) hv)
  clear hx hy hz hv
  go_enter Try.func3, Try.ntmps3
  have hg := Lib.hid hg0
  clear hg0
  have hl := Lib.hid hl0
  clear hl0
  go_wp2_with fail
  have E1 := Lib.hid ((((E0.out.push 27 [.int .i64 S.nx, .bool S.wt, .int .i64 S.rq.fr, .int .i64 S.rq.to_, .int .i64 S.rq.kd, .int .i64 S.rq.nm, .slice xa S.rq.body.length xk, .slice da S.dn.length dj, .int .i64 S.tr] (w.heap.size) (by simp)).push 24 [.int .i64 M.fr, .int .i64 M.to_, .int .i64 M.kd, .int .i64 M.nm, .slice ya M.body.length yk] (w.heap.size + 1) (by simp)).push 24 [.int .i64 A.fr, .int .i64 A.to_, .int .i64 A.kd, .int .i64 A.nm, .slice za A.body.length zk] (w.heap.size + 1 + 1) (by simp)))
  refine (awake_c (D := (DF D w.heap.size [(w.heap.size + 1 + 1, 24, [.int .i64 A.fr, .int .i64 A.to_, .int .i64 A.kd, .int .i64 A.nm, .slice za A.body.length zk]), (w.heap.size + 1, 24, [.int .i64 M.fr, .int .i64 M.to_, .int .i64 M.kd, .int .i64 M.nm, .slice ya M.body.length yk]), (w.heap.size, 27, [.int .i64 S.nx, .bool S.wt, .int .i64 S.rq.fr, .int .i64 S.rq.to_, .int .i64 S.rq.kd, .int .i64 S.rq.nm, .slice xa S.rq.body.length xk, .slice da S.dn.length dj, .int .i64 S.tr])]))).mono ?_
  rintro e w1 ⟨rfl, hb⟩
  have E2 := Lib.hid (E1.out.below hb)
  clear E0 E1 hb
  have b1 := E2.out.bx 2 rfl
  have c1_0 := b1.cell 0 rfl
  have c1_1 := b1.cell 1 rfl
  have c1_2 := b1.cell 2 rfl
  have c1_3 := b1.cell 3 rfl
  have c1_4 := b1.cell 4 rfl
  have c1_5 := b1.cell 5 rfl
  have c1_6 := b1.cell 6 rfl
  have c1_7 := b1.cell 7 rfl
  have c1_8 := b1.cell 8 rfl
  clear b1
  go_wp2_with fail
  refine (great_f hg.out (E2.out.fc 2 rfl)).mono ?_
  rintro e w2 ⟨rfl, hb⟩
  have E3 := Lib.hid (E2.out.below hb)
  clear c1_0 c1_1 c1_2 c1_3 c1_4 c1_5 c1_6 c1_7 c1_8 E2 hb
  have b2 := E3.out.bx 1 rfl
  have c2_0 := b2.cell 0 rfl
  have c2_1 := b2.cell 1 rfl
  have c2_2 := b2.cell 2 rfl
  have c2_3 := b2.cell 3 rfl
  have c2_4 := b2.cell 4 rfl
  clear b2
  go_wp2_with fail
  refine (long_v M.body hl.out _ _ _ _ _ _ _).mono ?_
  rintro e w3 ⟨rfl, hb⟩
  have E4 := Lib.hid (E3.out.below hb)
  clear c2_0 c2_1 c2_2 c2_3 c2_4 E3 hb
  have hfin := Lib.hid E4.out.bel
  go_wp2
  go_ret
  exact ⟨rfl, hfin.out⟩
set_option maxRecDepth 100000 in
set_option maxHeartbeats 4000000 in
theorem serves_long2 {D : Nat → Prop} (S : Ses) (M A : Msg) {xa da ya za : Option Addr} {xk dj yk zk : Nat} {w : World} (hx : Fct.at w D (.bs (.slice xa S.rq.body.length xk) S.rq.body)) (hy : Fct.at w D (.ms (.slice da S.dn.length dj) S.dn)) (hz : Fct.at w D (.bs (.slice ya M.body.length yk) M.body)) (hv : Fct.at w D (.bs (.slice za A.body.length zk) A.body)) (hg0 : Small S) (hl0 : decide (20000 < M.body.length) = false) (hl20 : decide (20000 < A.body.length) = true) :
    Calls Try.prog 3 #[.agg #[.int .i64 S.nx, .bool S.wt, .int .i64 S.rq.fr, .int .i64 S.rq.to_, .int .i64 S.rq.kd, .int .i64 S.rq.nm, .slice xa S.rq.body.length xk, .slice da S.dn.length dj, .int .i64 S.tr], .agg #[.int .i64 M.fr, .int .i64 M.to_, .int .i64 M.kd, .int .i64 M.nm, .slice ya M.body.length yk], .agg #[.int .i64 A.fr, .int .i64 A.to_, .int .i64 A.kd, .int .i64 A.nm, .slice za A.body.length zk]] w fun e w' => e = .returned (.bool true) ∧ Below w.heap.size w w' := by
  have E0 := Lib.hid (((((Env.start D w).arg (.bs (.slice xa S.rq.body.length xk) S.rq.body) hx).arg (.ms (.slice da S.dn.length dj) S.dn) hy).arg (.bs (.slice ya M.body.length yk) M.body) hz).arg (.bs (.slice za A.body.length zk) A.body) hv)
  clear hx hy hz hv
  go_enter Try.func3, Try.ntmps3
  have hg := Lib.hid hg0
  clear hg0
  have hl := Lib.hid hl0
  clear hl0
  have hl2 := Lib.hid hl20
  clear hl20
  go_wp2_with fail
  have E1 := Lib.hid ((((E0.out.push 27 [.int .i64 S.nx, .bool S.wt, .int .i64 S.rq.fr, .int .i64 S.rq.to_, .int .i64 S.rq.kd, .int .i64 S.rq.nm, .slice xa S.rq.body.length xk, .slice da S.dn.length dj, .int .i64 S.tr] (w.heap.size) (by simp)).push 24 [.int .i64 M.fr, .int .i64 M.to_, .int .i64 M.kd, .int .i64 M.nm, .slice ya M.body.length yk] (w.heap.size + 1) (by simp)).push 24 [.int .i64 A.fr, .int .i64 A.to_, .int .i64 A.kd, .int .i64 A.nm, .slice za A.body.length zk] (w.heap.size + 1 + 1) (by simp)))
  refine (awake_c (D := (DF D w.heap.size [(w.heap.size + 1 + 1, 24, [.int .i64 A.fr, .int .i64 A.to_, .int .i64 A.kd, .int .i64 A.nm, .slice za A.body.length zk]), (w.heap.size + 1, 24, [.int .i64 M.fr, .int .i64 M.to_, .int .i64 M.kd, .int .i64 M.nm, .slice ya M.body.length yk]), (w.heap.size, 27, [.int .i64 S.nx, .bool S.wt, .int .i64 S.rq.fr, .int .i64 S.rq.to_, .int .i64 S.rq.kd, .int .i64 S.rq.nm, .slice xa S.rq.body.length xk, .slice da S.dn.length dj, .int .i64 S.tr])]))).mono ?_
  rintro e w1 ⟨rfl, hb⟩
  have E2 := Lib.hid (E1.out.below hb)
  clear E0 E1 hb
  have b1 := E2.out.bx 2 rfl
  have c1_0 := b1.cell 0 rfl
  have c1_1 := b1.cell 1 rfl
  have c1_2 := b1.cell 2 rfl
  have c1_3 := b1.cell 3 rfl
  have c1_4 := b1.cell 4 rfl
  have c1_5 := b1.cell 5 rfl
  have c1_6 := b1.cell 6 rfl
  have c1_7 := b1.cell 7 rfl
  have c1_8 := b1.cell 8 rfl
  clear b1
  go_wp2_with fail
  refine (great_f hg.out (E2.out.fc 2 rfl)).mono ?_
  rintro e w2 ⟨rfl, hb⟩
  have E3 := Lib.hid (E2.out.below hb)
  clear c1_0 c1_1 c1_2 c1_3 c1_4 c1_5 c1_6 c1_7 c1_8 E2 hb
  have b2 := E3.out.bx 1 rfl
  have c2_0 := b2.cell 0 rfl
  have c2_1 := b2.cell 1 rfl
  have c2_2 := b2.cell 2 rfl
  have c2_3 := b2.cell 3 rfl
  have c2_4 := b2.cell 4 rfl
  clear b2
  go_wp2_with fail
  refine (long_v M.body hl.out _ _ _ _ _ _ _).mono ?_
  rintro e w3 ⟨rfl, hb⟩
  have E4 := Lib.hid (E3.out.below hb)
  clear c2_0 c2_1 c2_2 c2_3 c2_4 E3 hb
  have b3 := E4.out.bx 0 rfl
  have c3_0 := b3.cell 0 rfl
  have c3_1 := b3.cell 1 rfl
  have c3_2 := b3.cell 2 rfl
  have c3_3 := b3.cell 3 rfl
  have c3_4 := b3.cell 4 rfl
  clear b3
  go_wp2_with fail
  refine (long_v A.body hl2.out _ _ _ _ _ _ _).mono ?_
  rintro e w4 ⟨rfl, hb⟩
  have E5 := Lib.hid (E4.out.below hb)
  clear c3_0 c3_1 c3_2 c3_3 c3_4 E4 hb
  have hfin := Lib.hid E5.out.bel
  go_wp2
  go_ret
  exact ⟨rfl, hfin.out⟩
set_option maxRecDepth 100000 in
set_option maxHeartbeats 4000000 in
theorem serves_ok {D : Nat → Prop} (S : Ses) (M A : Msg) {xa da ya za : Option Addr} {xk dj yk zk : Nat} (a1 : Msg) (a2 : Ses) (k1 : Int) {w : World} (hx : Fct.at w D (.bs (.slice xa S.rq.body.length xk) S.rq.body)) (hy : Fct.at w D (.ms (.slice da S.dn.length dj) S.dn)) (hz : Fct.at w D (.bs (.slice ya M.body.length yk) M.body)) (hv : Fct.at w D (.bs (.slice za A.body.length zk) A.body)) (hg0 : Small S) (hl0 : decide (20000 < M.body.length) = false) (hl20 : decide (20000 < A.body.length) = false) (c10 : KnLike 15 S M a1 k1) (c20 : KnLike 16 S M a1 k1) (f10 : a1.body.length ≤ 1000000) (c30 : DnLike 17 S M A a2 0) (c40 : DnLike 18 S M A a2 0) (f20 : Fair a2) (hk0 : SesOk a2) :
    Calls Try.prog 3 #[.agg #[.int .i64 S.nx, .bool S.wt, .int .i64 S.rq.fr, .int .i64 S.rq.to_, .int .i64 S.rq.kd, .int .i64 S.rq.nm, .slice xa S.rq.body.length xk, .slice da S.dn.length dj, .int .i64 S.tr], .agg #[.int .i64 M.fr, .int .i64 M.to_, .int .i64 M.kd, .int .i64 M.nm, .slice ya M.body.length yk], .agg #[.int .i64 A.fr, .int .i64 A.to_, .int .i64 A.kd, .int .i64 A.nm, .slice za A.body.length zk]] w fun e w' => e = .returned (.bool true) ∧ Below w.heap.size w w' := by
  have E0 := Lib.hid (((((Env.start D w).arg (.bs (.slice xa S.rq.body.length xk) S.rq.body) hx).arg (.ms (.slice da S.dn.length dj) S.dn) hy).arg (.bs (.slice ya M.body.length yk) M.body) hz).arg (.bs (.slice za A.body.length zk) A.body) hv)
  clear hx hy hz hv
  go_enter Try.func3, Try.ntmps3
  have hg := Lib.hid hg0
  clear hg0
  have hl := Lib.hid hl0
  clear hl0
  have hl2 := Lib.hid hl20
  clear hl20
  have c1 := Lib.hid c10
  clear c10
  have c2 := Lib.hid c20
  clear c20
  have f1 := Lib.hid f10
  clear f10
  have c3 := Lib.hid c30
  clear c30
  have c4 := Lib.hid c40
  clear c40
  have f2 := Lib.hid f20
  clear f20
  have hk := Lib.hid hk0
  clear hk0
  go_wp2_with fail
  have E1 := Lib.hid ((((E0.out.push 27 [.int .i64 S.nx, .bool S.wt, .int .i64 S.rq.fr, .int .i64 S.rq.to_, .int .i64 S.rq.kd, .int .i64 S.rq.nm, .slice xa S.rq.body.length xk, .slice da S.dn.length dj, .int .i64 S.tr] (w.heap.size) (by simp)).push 24 [.int .i64 M.fr, .int .i64 M.to_, .int .i64 M.kd, .int .i64 M.nm, .slice ya M.body.length yk] (w.heap.size + 1) (by simp)).push 24 [.int .i64 A.fr, .int .i64 A.to_, .int .i64 A.kd, .int .i64 A.nm, .slice za A.body.length zk] (w.heap.size + 1 + 1) (by simp)))
  refine (awake_c (D := (DF D w.heap.size [(w.heap.size + 1 + 1, 24, [.int .i64 A.fr, .int .i64 A.to_, .int .i64 A.kd, .int .i64 A.nm, .slice za A.body.length zk]), (w.heap.size + 1, 24, [.int .i64 M.fr, .int .i64 M.to_, .int .i64 M.kd, .int .i64 M.nm, .slice ya M.body.length yk]), (w.heap.size, 27, [.int .i64 S.nx, .bool S.wt, .int .i64 S.rq.fr, .int .i64 S.rq.to_, .int .i64 S.rq.kd, .int .i64 S.rq.nm, .slice xa S.rq.body.length xk, .slice da S.dn.length dj, .int .i64 S.tr])]))).mono ?_
  rintro e w1 ⟨rfl, hb⟩
  have E2 := Lib.hid (E1.out.below hb)
  clear E0 E1 hb
  have b1 := E2.out.bx 2 rfl
  have c1_0 := b1.cell 0 rfl
  have c1_1 := b1.cell 1 rfl
  have c1_2 := b1.cell 2 rfl
  have c1_3 := b1.cell 3 rfl
  have c1_4 := b1.cell 4 rfl
  have c1_5 := b1.cell 5 rfl
  have c1_6 := b1.cell 6 rfl
  have c1_7 := b1.cell 7 rfl
  have c1_8 := b1.cell 8 rfl
  clear b1
  go_wp2_with fail
  refine (great_f hg.out (E2.out.fc 2 rfl)).mono ?_
  rintro e w2 ⟨rfl, hb⟩
  have E3 := Lib.hid (E2.out.below hb)
  clear c1_0 c1_1 c1_2 c1_3 c1_4 c1_5 c1_6 c1_7 c1_8 E2 hb
  have b2 := E3.out.bx 1 rfl
  have c2_0 := b2.cell 0 rfl
  have c2_1 := b2.cell 1 rfl
  have c2_2 := b2.cell 2 rfl
  have c2_3 := b2.cell 3 rfl
  have c2_4 := b2.cell 4 rfl
  clear b2
  go_wp2_with fail
  refine (long_v M.body hl.out _ _ _ _ _ _ _).mono ?_
  rintro e w3 ⟨rfl, hb⟩
  have E4 := Lib.hid (E3.out.below hb)
  clear c2_0 c2_1 c2_2 c2_3 c2_4 E3 hb
  have b3 := E4.out.bx 0 rfl
  have c3_0 := b3.cell 0 rfl
  have c3_1 := b3.cell 1 rfl
  have c3_2 := b3.cell 2 rfl
  have c3_3 := b3.cell 3 rfl
  have c3_4 := b3.cell 4 rfl
  clear b3
  go_wp2_with fail
  refine (long_v A.body hl2.out _ _ _ _ _ _ _).mono ?_
  rintro e w4 ⟨rfl, hb⟩
  have E5 := Lib.hid (E4.out.below hb)
  clear c3_0 c3_1 c3_2 c3_3 c3_4 E4 hb
  have b4 := E5.out.bx 2 rfl
  have c4_0 := b4.cell 0 rfl
  have c4_1 := b4.cell 1 rfl
  have c4_2 := b4.cell 2 rfl
  have c4_3 := b4.cell 3 rfl
  have c4_4 := b4.cell 4 rfl
  have c4_5 := b4.cell 5 rfl
  have c4_6 := b4.cell 6 rfl
  have c4_7 := b4.cell 7 rfl
  have c4_8 := b4.cell 8 rfl
  clear b4
  have b5 := E5.out.bx 1 rfl
  have c5_0 := b5.cell 0 rfl
  have c5_1 := b5.cell 1 rfl
  have c5_2 := b5.cell 2 rfl
  have c5_3 := b5.cell 3 rfl
  have c5_4 := b5.cell 4 rfl
  clear b5
  go_wp2_with fail
  refine (c1.out _ _ _ _ _ _ _ _ (E5.out.fc 3 rfl) (E5.out.fc 2 rfl) (E5.out.fc 1 rfl)).mono ?_
  rintro e w5 ⟨⟨paa, pak, rfl, hpa⟩, hb⟩
  have E6 := Lib.hid (E5.out.got (E5.out.below hb) (.bs (.slice paa a1.body.length pak) a1.body) hpa.out)
  clear c4_0 c4_1 c4_2 c4_3 c4_4 c4_5 c4_6 c4_7 c4_8 c5_0 c5_1 c5_2 c5_3 c5_4 E5 hb hpa
  have E7 := Lib.hid ((E6.out.push 24 [.int .i64 a1.fr, .int .i64 a1.to_, .int .i64 a1.kd, .int .i64 a1.nm, .slice paa a1.body.length pak] (w5.heap.size) (by simp)))
  have b6 := E7.out.bx 3 rfl
  have c6_0 := b6.cell 0 rfl
  have c6_1 := b6.cell 1 rfl
  have c6_2 := b6.cell 2 rfl
  have c6_3 := b6.cell 3 rfl
  have c6_4 := b6.cell 4 rfl
  have c6_5 := b6.cell 5 rfl
  have c6_6 := b6.cell 6 rfl
  have c6_7 := b6.cell 7 rfl
  have c6_8 := b6.cell 8 rfl
  clear b6
  have b7 := E7.out.bx 2 rfl
  have c7_0 := b7.cell 0 rfl
  have c7_1 := b7.cell 1 rfl
  have c7_2 := b7.cell 2 rfl
  have c7_3 := b7.cell 3 rfl
  have c7_4 := b7.cell 4 rfl
  clear b7
  go_wp2_with fail
  refine (c2.out _ _ _ _ _ _ _ _ (E7.out.fc 4 rfl) (E7.out.fc 3 rfl) (E7.out.fc 2 rfl)).mono ?_
  rintro e w6 ⟨⟨pba, pbk, rfl, hpb⟩, hb⟩
  have E8 := Lib.hid (E7.out.got (E7.out.below hb) (.bs (.slice pba a1.body.length pbk) a1.body) hpb.out)
  clear c6_0 c6_1 c6_2 c6_3 c6_4 c6_5 c6_6 c6_7 c6_8 c7_0 c7_1 c7_2 c7_3 c7_4 E6 E7 hb hpb
  have E9 := Lib.hid ((E8.out.push 24 [.int .i64 a1.fr, .int .i64 a1.to_, .int .i64 a1.kd, .int .i64 a1.nm, .slice pba a1.body.length pbk] (w6.heap.size) (by simp)))
  have b8 := E9.out.bx 4 rfl
  have c8_0 := b8.cell 0 rfl
  have c8_1 := b8.cell 1 rfl
  have c8_2 := b8.cell 2 rfl
  have c8_3 := b8.cell 3 rfl
  have c8_4 := b8.cell 4 rfl
  have c8_5 := b8.cell 5 rfl
  have c8_6 := b8.cell 6 rfl
  have c8_7 := b8.cell 7 rfl
  have c8_8 := b8.cell 8 rfl
  clear b8
  have b9 := E9.out.bx 3 rfl
  have c9_0 := b9.cell 0 rfl
  have c9_1 := b9.cell 1 rfl
  have c9_2 := b9.cell 2 rfl
  have c9_3 := b9.cell 3 rfl
  have c9_4 := b9.cell 4 rfl
  clear b9
  have b10 := E9.out.bx 2 rfl
  have c10_0 := b10.cell 0 rfl
  have c10_1 := b10.cell 1 rfl
  have c10_2 := b10.cell 2 rfl
  have c10_3 := b10.cell 3 rfl
  have c10_4 := b10.cell 4 rfl
  clear b10
  go_wp2_with fail
  refine (c3.out _ _ _ _ _ _ _ _ _ _ (E9.out.fc 5 rfl) (E9.out.fc 4 rfl) (E9.out.fc 3 rfl) (E9.out.fc 2 rfl)).mono ?_
  rintro e w7 ⟨⟨pca, pck, pcb, pcj, rfl, hpc, gpc⟩, hb⟩
  have E10 := Lib.hid (E9.out.got (E9.out.got (E9.out.below hb) (.bs (.slice pca a2.rq.body.length pck) a2.rq.body) hpc.out) (.ms (.slice pcb a2.dn.length pcj) a2.dn) gpc.out)
  clear c8_0 c8_1 c8_2 c8_3 c8_4 c8_5 c8_6 c8_7 c8_8 c9_0 c9_1 c9_2 c9_3 c9_4 c10_0 c10_1 c10_2 c10_3 c10_4 E8 E9 hb hpc gpc
  have E11 := Lib.hid ((E10.out.push 27 [.int .i64 a2.nx, .bool a2.wt, .int .i64 a2.rq.fr, .int .i64 a2.rq.to_, .int .i64 a2.rq.kd, .int .i64 a2.rq.nm, .slice pca a2.rq.body.length pck, .slice pcb a2.dn.length pcj, .int .i64 a2.tr] (w7.heap.size) (by simp)))
  have b11 := E11.out.bx 5 rfl
  have c11_0 := b11.cell 0 rfl
  have c11_1 := b11.cell 1 rfl
  have c11_2 := b11.cell 2 rfl
  have c11_3 := b11.cell 3 rfl
  have c11_4 := b11.cell 4 rfl
  have c11_5 := b11.cell 5 rfl
  have c11_6 := b11.cell 6 rfl
  have c11_7 := b11.cell 7 rfl
  have c11_8 := b11.cell 8 rfl
  clear b11
  have b12 := E11.out.bx 4 rfl
  have c12_0 := b12.cell 0 rfl
  have c12_1 := b12.cell 1 rfl
  have c12_2 := b12.cell 2 rfl
  have c12_3 := b12.cell 3 rfl
  have c12_4 := b12.cell 4 rfl
  clear b12
  have b13 := E11.out.bx 3 rfl
  have c13_0 := b13.cell 0 rfl
  have c13_1 := b13.cell 1 rfl
  have c13_2 := b13.cell 2 rfl
  have c13_3 := b13.cell 3 rfl
  have c13_4 := b13.cell 4 rfl
  clear b13
  go_wp2_with fail
  refine (c4.out _ _ _ _ _ _ _ _ _ _ (E11.out.fc 7 rfl) (E11.out.fc 6 rfl) (E11.out.fc 5 rfl) (E11.out.fc 4 rfl)).mono ?_
  rintro e w8 ⟨⟨pda, pdk, pdb, pdj, rfl, hpd, gpd⟩, hb⟩
  have E12 := Lib.hid (E11.out.got (E11.out.got (E11.out.below hb) (.bs (.slice pda a2.rq.body.length pdk) a2.rq.body) hpd.out) (.ms (.slice pdb a2.dn.length pdj) a2.dn) gpd.out)
  clear c11_0 c11_1 c11_2 c11_3 c11_4 c11_5 c11_6 c11_7 c11_8 c12_0 c12_1 c12_2 c12_3 c12_4 c13_0 c13_1 c13_2 c13_3 c13_4 E10 E11 hb hpd gpd
  have E13 := Lib.hid ((E12.out.push 27 [.int .i64 a2.nx, .bool a2.wt, .int .i64 a2.rq.fr, .int .i64 a2.rq.to_, .int .i64 a2.rq.kd, .int .i64 a2.rq.nm, .slice pda a2.rq.body.length pdk, .slice pdb a2.dn.length pdj, .int .i64 a2.tr] (w8.heap.size) (by simp)))
  have b14 := E13.out.bx 3 rfl
  have c14_0 := b14.cell 0 rfl
  have c14_1 := b14.cell 1 rfl
  have c14_2 := b14.cell 2 rfl
  have c14_3 := b14.cell 3 rfl
  have c14_4 := b14.cell 4 rfl
  clear b14
  have b15 := E13.out.bx 2 rfl
  have c15_0 := b15.cell 0 rfl
  have c15_1 := b15.cell 1 rfl
  have c15_2 := b15.cell 2 rfl
  have c15_3 := b15.cell 3 rfl
  have c15_4 := b15.cell 4 rfl
  clear b15
  go_wp2_with fail
  refine (rSame_t a1 f1.out (E13.out.fc 5 rfl) (E13.out.fc 4 rfl)).mono ?_
  rintro e w9 ⟨rfl, hb⟩
  have E14 := Lib.hid (E13.out.below hb)
  clear c14_0 c14_1 c14_2 c14_3 c14_4 c15_0 c15_1 c15_2 c15_3 c15_4 E12 E13 hb
  have b16 := E14.out.bx 1 rfl
  have c16_0 := b16.cell 0 rfl
  have c16_1 := b16.cell 1 rfl
  have c16_2 := b16.cell 2 rfl
  have c16_3 := b16.cell 3 rfl
  have c16_4 := b16.cell 4 rfl
  have c16_5 := b16.cell 5 rfl
  have c16_6 := b16.cell 6 rfl
  have c16_7 := b16.cell 7 rfl
  have c16_8 := b16.cell 8 rfl
  clear b16
  have b17 := E14.out.bx 0 rfl
  have c17_0 := b17.cell 0 rfl
  have c17_1 := b17.cell 1 rfl
  have c17_2 := b17.cell 2 rfl
  have c17_3 := b17.cell 3 rfl
  have c17_4 := b17.cell 4 rfl
  have c17_5 := b17.cell 5 rfl
  have c17_6 := b17.cell 6 rfl
  have c17_7 := b17.cell 7 rfl
  have c17_8 := b17.cell 8 rfl
  clear b17
  go_wp2_with fail
  refine (rSess_t a2 f2.out (E14.out.fc 3 rfl) (E14.out.fc 2 rfl) (E14.out.fc 1 rfl) (E14.out.fc 0 rfl)).mono ?_
  rintro e w10 ⟨rfl, hb⟩
  have E15 := Lib.hid (E14.out.below hb)
  clear c16_0 c16_1 c16_2 c16_3 c16_4 c16_5 c16_6 c16_7 c16_8 c17_0 c17_1 c17_2 c17_3 c17_4 c17_5 c17_6 c17_7 c17_8 E14 hb
  have b18 := E15.out.bx 1 rfl
  have c18_0 := b18.cell 0 rfl
  have c18_1 := b18.cell 1 rfl
  have c18_2 := b18.cell 2 rfl
  have c18_3 := b18.cell 3 rfl
  have c18_4 := b18.cell 4 rfl
  have c18_5 := b18.cell 5 rfl
  have c18_6 := b18.cell 6 rfl
  have c18_7 := b18.cell 7 rfl
  have c18_8 := b18.cell 8 rfl
  clear b18
  go_wp2_with fail
  refine (Valid_t (S := a2) hk.out (E15.out.fc 3 rfl) (E15.out.fc 2 rfl)).mono ?_
  rintro e w11 ⟨rfl, hb⟩
  have E16 := Lib.hid (E15.out.below hb)
  clear c18_0 c18_1 c18_2 c18_3 c18_4 c18_5 c18_6 c18_7 c18_8 E15 hb
  have hfin := Lib.hid E16.out.bel
  go_wp2
  go_ret
  exact ⟨rfl, hfin.out⟩
set_option maxRecDepth 100000 in
set_option maxHeartbeats 4000000 in
theorem serves_no {D : Nat → Prop} (S : Ses) (M A : Msg) {xa da ya za : Option Addr} {xk dj yk zk : Nat} (a1 : Msg) (a2 : Ses) (k1 : Int) (k2 : Int) (t8 : (k2 == 0) = false) (t9 : decide (k2 = 0) = false) (t10 : (k2 != 0) = true) {w : World} (hx : Fct.at w D (.bs (.slice xa S.rq.body.length xk) S.rq.body)) (hy : Fct.at w D (.ms (.slice da S.dn.length dj) S.dn)) (hz : Fct.at w D (.bs (.slice ya M.body.length yk) M.body)) (hv : Fct.at w D (.bs (.slice za A.body.length zk) A.body)) (hg0 : Small S) (hl0 : decide (20000 < M.body.length) = false) (hl20 : decide (20000 < A.body.length) = false) (c10 : KnLike 15 S M a1 k1) (c20 : KnLike 16 S M a1 k1) (f10 : a1.body.length ≤ 1000000) (c30 : DnLike 17 S M A a2 k2) (c40 : DnLike 18 S M A a2 k2) (f20 : Fair a2) :
    Calls Try.prog 3 #[.agg #[.int .i64 S.nx, .bool S.wt, .int .i64 S.rq.fr, .int .i64 S.rq.to_, .int .i64 S.rq.kd, .int .i64 S.rq.nm, .slice xa S.rq.body.length xk, .slice da S.dn.length dj, .int .i64 S.tr], .agg #[.int .i64 M.fr, .int .i64 M.to_, .int .i64 M.kd, .int .i64 M.nm, .slice ya M.body.length yk], .agg #[.int .i64 A.fr, .int .i64 A.to_, .int .i64 A.kd, .int .i64 A.nm, .slice za A.body.length zk]] w fun e w' => e = .returned (.bool true) ∧ Below w.heap.size w w' := by
  have E0 := Lib.hid (((((Env.start D w).arg (.bs (.slice xa S.rq.body.length xk) S.rq.body) hx).arg (.ms (.slice da S.dn.length dj) S.dn) hy).arg (.bs (.slice ya M.body.length yk) M.body) hz).arg (.bs (.slice za A.body.length zk) A.body) hv)
  clear hx hy hz hv
  go_enter Try.func3, Try.ntmps3
  have hg := Lib.hid hg0
  clear hg0
  have hl := Lib.hid hl0
  clear hl0
  have hl2 := Lib.hid hl20
  clear hl20
  have c1 := Lib.hid c10
  clear c10
  have c2 := Lib.hid c20
  clear c20
  have f1 := Lib.hid f10
  clear f10
  have c3 := Lib.hid c30
  clear c30
  have c4 := Lib.hid c40
  clear c40
  have f2 := Lib.hid f20
  clear f20
  go_wp2_with fail
  have E1 := Lib.hid ((((E0.out.push 27 [.int .i64 S.nx, .bool S.wt, .int .i64 S.rq.fr, .int .i64 S.rq.to_, .int .i64 S.rq.kd, .int .i64 S.rq.nm, .slice xa S.rq.body.length xk, .slice da S.dn.length dj, .int .i64 S.tr] (w.heap.size) (by simp)).push 24 [.int .i64 M.fr, .int .i64 M.to_, .int .i64 M.kd, .int .i64 M.nm, .slice ya M.body.length yk] (w.heap.size + 1) (by simp)).push 24 [.int .i64 A.fr, .int .i64 A.to_, .int .i64 A.kd, .int .i64 A.nm, .slice za A.body.length zk] (w.heap.size + 1 + 1) (by simp)))
  refine (awake_c (D := (DF D w.heap.size [(w.heap.size + 1 + 1, 24, [.int .i64 A.fr, .int .i64 A.to_, .int .i64 A.kd, .int .i64 A.nm, .slice za A.body.length zk]), (w.heap.size + 1, 24, [.int .i64 M.fr, .int .i64 M.to_, .int .i64 M.kd, .int .i64 M.nm, .slice ya M.body.length yk]), (w.heap.size, 27, [.int .i64 S.nx, .bool S.wt, .int .i64 S.rq.fr, .int .i64 S.rq.to_, .int .i64 S.rq.kd, .int .i64 S.rq.nm, .slice xa S.rq.body.length xk, .slice da S.dn.length dj, .int .i64 S.tr])]))).mono ?_
  rintro e w1 ⟨rfl, hb⟩
  have E2 := Lib.hid (E1.out.below hb)
  clear E0 E1 hb
  have b1 := E2.out.bx 2 rfl
  have c1_0 := b1.cell 0 rfl
  have c1_1 := b1.cell 1 rfl
  have c1_2 := b1.cell 2 rfl
  have c1_3 := b1.cell 3 rfl
  have c1_4 := b1.cell 4 rfl
  have c1_5 := b1.cell 5 rfl
  have c1_6 := b1.cell 6 rfl
  have c1_7 := b1.cell 7 rfl
  have c1_8 := b1.cell 8 rfl
  clear b1
  go_wp2_with fail
  refine (great_f hg.out (E2.out.fc 2 rfl)).mono ?_
  rintro e w2 ⟨rfl, hb⟩
  have E3 := Lib.hid (E2.out.below hb)
  clear c1_0 c1_1 c1_2 c1_3 c1_4 c1_5 c1_6 c1_7 c1_8 E2 hb
  have b2 := E3.out.bx 1 rfl
  have c2_0 := b2.cell 0 rfl
  have c2_1 := b2.cell 1 rfl
  have c2_2 := b2.cell 2 rfl
  have c2_3 := b2.cell 3 rfl
  have c2_4 := b2.cell 4 rfl
  clear b2
  go_wp2_with fail
  refine (long_v M.body hl.out _ _ _ _ _ _ _).mono ?_
  rintro e w3 ⟨rfl, hb⟩
  have E4 := Lib.hid (E3.out.below hb)
  clear c2_0 c2_1 c2_2 c2_3 c2_4 E3 hb
  have b3 := E4.out.bx 0 rfl
  have c3_0 := b3.cell 0 rfl
  have c3_1 := b3.cell 1 rfl
  have c3_2 := b3.cell 2 rfl
  have c3_3 := b3.cell 3 rfl
  have c3_4 := b3.cell 4 rfl
  clear b3
  go_wp2_with fail
  refine (long_v A.body hl2.out _ _ _ _ _ _ _).mono ?_
  rintro e w4 ⟨rfl, hb⟩
  have E5 := Lib.hid (E4.out.below hb)
  clear c3_0 c3_1 c3_2 c3_3 c3_4 E4 hb
  have b4 := E5.out.bx 2 rfl
  have c4_0 := b4.cell 0 rfl
  have c4_1 := b4.cell 1 rfl
  have c4_2 := b4.cell 2 rfl
  have c4_3 := b4.cell 3 rfl
  have c4_4 := b4.cell 4 rfl
  have c4_5 := b4.cell 5 rfl
  have c4_6 := b4.cell 6 rfl
  have c4_7 := b4.cell 7 rfl
  have c4_8 := b4.cell 8 rfl
  clear b4
  have b5 := E5.out.bx 1 rfl
  have c5_0 := b5.cell 0 rfl
  have c5_1 := b5.cell 1 rfl
  have c5_2 := b5.cell 2 rfl
  have c5_3 := b5.cell 3 rfl
  have c5_4 := b5.cell 4 rfl
  clear b5
  go_wp2_with fail
  refine (c1.out _ _ _ _ _ _ _ _ (E5.out.fc 3 rfl) (E5.out.fc 2 rfl) (E5.out.fc 1 rfl)).mono ?_
  rintro e w5 ⟨⟨paa, pak, rfl, hpa⟩, hb⟩
  have E6 := Lib.hid (E5.out.got (E5.out.below hb) (.bs (.slice paa a1.body.length pak) a1.body) hpa.out)
  clear c4_0 c4_1 c4_2 c4_3 c4_4 c4_5 c4_6 c4_7 c4_8 c5_0 c5_1 c5_2 c5_3 c5_4 E5 hb hpa
  have E7 := Lib.hid ((E6.out.push 24 [.int .i64 a1.fr, .int .i64 a1.to_, .int .i64 a1.kd, .int .i64 a1.nm, .slice paa a1.body.length pak] (w5.heap.size) (by simp)))
  have b6 := E7.out.bx 3 rfl
  have c6_0 := b6.cell 0 rfl
  have c6_1 := b6.cell 1 rfl
  have c6_2 := b6.cell 2 rfl
  have c6_3 := b6.cell 3 rfl
  have c6_4 := b6.cell 4 rfl
  have c6_5 := b6.cell 5 rfl
  have c6_6 := b6.cell 6 rfl
  have c6_7 := b6.cell 7 rfl
  have c6_8 := b6.cell 8 rfl
  clear b6
  have b7 := E7.out.bx 2 rfl
  have c7_0 := b7.cell 0 rfl
  have c7_1 := b7.cell 1 rfl
  have c7_2 := b7.cell 2 rfl
  have c7_3 := b7.cell 3 rfl
  have c7_4 := b7.cell 4 rfl
  clear b7
  go_wp2_with fail
  refine (c2.out _ _ _ _ _ _ _ _ (E7.out.fc 4 rfl) (E7.out.fc 3 rfl) (E7.out.fc 2 rfl)).mono ?_
  rintro e w6 ⟨⟨pba, pbk, rfl, hpb⟩, hb⟩
  have E8 := Lib.hid (E7.out.got (E7.out.below hb) (.bs (.slice pba a1.body.length pbk) a1.body) hpb.out)
  clear c6_0 c6_1 c6_2 c6_3 c6_4 c6_5 c6_6 c6_7 c6_8 c7_0 c7_1 c7_2 c7_3 c7_4 E6 E7 hb hpb
  have E9 := Lib.hid ((E8.out.push 24 [.int .i64 a1.fr, .int .i64 a1.to_, .int .i64 a1.kd, .int .i64 a1.nm, .slice pba a1.body.length pbk] (w6.heap.size) (by simp)))
  have b8 := E9.out.bx 4 rfl
  have c8_0 := b8.cell 0 rfl
  have c8_1 := b8.cell 1 rfl
  have c8_2 := b8.cell 2 rfl
  have c8_3 := b8.cell 3 rfl
  have c8_4 := b8.cell 4 rfl
  have c8_5 := b8.cell 5 rfl
  have c8_6 := b8.cell 6 rfl
  have c8_7 := b8.cell 7 rfl
  have c8_8 := b8.cell 8 rfl
  clear b8
  have b9 := E9.out.bx 3 rfl
  have c9_0 := b9.cell 0 rfl
  have c9_1 := b9.cell 1 rfl
  have c9_2 := b9.cell 2 rfl
  have c9_3 := b9.cell 3 rfl
  have c9_4 := b9.cell 4 rfl
  clear b9
  have b10 := E9.out.bx 2 rfl
  have c10_0 := b10.cell 0 rfl
  have c10_1 := b10.cell 1 rfl
  have c10_2 := b10.cell 2 rfl
  have c10_3 := b10.cell 3 rfl
  have c10_4 := b10.cell 4 rfl
  clear b10
  go_wp2_with fail
  refine (c3.out _ _ _ _ _ _ _ _ _ _ (E9.out.fc 5 rfl) (E9.out.fc 4 rfl) (E9.out.fc 3 rfl) (E9.out.fc 2 rfl)).mono ?_
  rintro e w7 ⟨⟨pca, pck, pcb, pcj, rfl, hpc, gpc⟩, hb⟩
  have E10 := Lib.hid (E9.out.got (E9.out.got (E9.out.below hb) (.bs (.slice pca a2.rq.body.length pck) a2.rq.body) hpc.out) (.ms (.slice pcb a2.dn.length pcj) a2.dn) gpc.out)
  clear c8_0 c8_1 c8_2 c8_3 c8_4 c8_5 c8_6 c8_7 c8_8 c9_0 c9_1 c9_2 c9_3 c9_4 c10_0 c10_1 c10_2 c10_3 c10_4 E8 E9 hb hpc gpc
  have E11 := Lib.hid ((E10.out.push 27 [.int .i64 a2.nx, .bool a2.wt, .int .i64 a2.rq.fr, .int .i64 a2.rq.to_, .int .i64 a2.rq.kd, .int .i64 a2.rq.nm, .slice pca a2.rq.body.length pck, .slice pcb a2.dn.length pcj, .int .i64 a2.tr] (w7.heap.size) (by simp)))
  have b11 := E11.out.bx 5 rfl
  have c11_0 := b11.cell 0 rfl
  have c11_1 := b11.cell 1 rfl
  have c11_2 := b11.cell 2 rfl
  have c11_3 := b11.cell 3 rfl
  have c11_4 := b11.cell 4 rfl
  have c11_5 := b11.cell 5 rfl
  have c11_6 := b11.cell 6 rfl
  have c11_7 := b11.cell 7 rfl
  have c11_8 := b11.cell 8 rfl
  clear b11
  have b12 := E11.out.bx 4 rfl
  have c12_0 := b12.cell 0 rfl
  have c12_1 := b12.cell 1 rfl
  have c12_2 := b12.cell 2 rfl
  have c12_3 := b12.cell 3 rfl
  have c12_4 := b12.cell 4 rfl
  clear b12
  have b13 := E11.out.bx 3 rfl
  have c13_0 := b13.cell 0 rfl
  have c13_1 := b13.cell 1 rfl
  have c13_2 := b13.cell 2 rfl
  have c13_3 := b13.cell 3 rfl
  have c13_4 := b13.cell 4 rfl
  clear b13
  go_wp2_with fail
  refine (c4.out _ _ _ _ _ _ _ _ _ _ (E11.out.fc 7 rfl) (E11.out.fc 6 rfl) (E11.out.fc 5 rfl) (E11.out.fc 4 rfl)).mono ?_
  rintro e w8 ⟨⟨pda, pdk, pdb, pdj, rfl, hpd, gpd⟩, hb⟩
  have E12 := Lib.hid (E11.out.got (E11.out.got (E11.out.below hb) (.bs (.slice pda a2.rq.body.length pdk) a2.rq.body) hpd.out) (.ms (.slice pdb a2.dn.length pdj) a2.dn) gpd.out)
  clear c11_0 c11_1 c11_2 c11_3 c11_4 c11_5 c11_6 c11_7 c11_8 c12_0 c12_1 c12_2 c12_3 c12_4 c13_0 c13_1 c13_2 c13_3 c13_4 E10 E11 hb hpd gpd
  have E13 := Lib.hid ((E12.out.push 27 [.int .i64 a2.nx, .bool a2.wt, .int .i64 a2.rq.fr, .int .i64 a2.rq.to_, .int .i64 a2.rq.kd, .int .i64 a2.rq.nm, .slice pda a2.rq.body.length pdk, .slice pdb a2.dn.length pdj, .int .i64 a2.tr] (w8.heap.size) (by simp)))
  have b14 := E13.out.bx 3 rfl
  have c14_0 := b14.cell 0 rfl
  have c14_1 := b14.cell 1 rfl
  have c14_2 := b14.cell 2 rfl
  have c14_3 := b14.cell 3 rfl
  have c14_4 := b14.cell 4 rfl
  clear b14
  have b15 := E13.out.bx 2 rfl
  have c15_0 := b15.cell 0 rfl
  have c15_1 := b15.cell 1 rfl
  have c15_2 := b15.cell 2 rfl
  have c15_3 := b15.cell 3 rfl
  have c15_4 := b15.cell 4 rfl
  clear b15
  go_wp2_with fail
  refine (rSame_t a1 f1.out (E13.out.fc 5 rfl) (E13.out.fc 4 rfl)).mono ?_
  rintro e w9 ⟨rfl, hb⟩
  have E14 := Lib.hid (E13.out.below hb)
  clear c14_0 c14_1 c14_2 c14_3 c14_4 c15_0 c15_1 c15_2 c15_3 c15_4 E12 E13 hb
  have b16 := E14.out.bx 1 rfl
  have c16_0 := b16.cell 0 rfl
  have c16_1 := b16.cell 1 rfl
  have c16_2 := b16.cell 2 rfl
  have c16_3 := b16.cell 3 rfl
  have c16_4 := b16.cell 4 rfl
  have c16_5 := b16.cell 5 rfl
  have c16_6 := b16.cell 6 rfl
  have c16_7 := b16.cell 7 rfl
  have c16_8 := b16.cell 8 rfl
  clear b16
  have b17 := E14.out.bx 0 rfl
  have c17_0 := b17.cell 0 rfl
  have c17_1 := b17.cell 1 rfl
  have c17_2 := b17.cell 2 rfl
  have c17_3 := b17.cell 3 rfl
  have c17_4 := b17.cell 4 rfl
  have c17_5 := b17.cell 5 rfl
  have c17_6 := b17.cell 6 rfl
  have c17_7 := b17.cell 7 rfl
  have c17_8 := b17.cell 8 rfl
  clear b17
  go_wp2_with fail
  refine (rSess_t a2 f2.out (E14.out.fc 3 rfl) (E14.out.fc 2 rfl) (E14.out.fc 1 rfl) (E14.out.fc 0 rfl)).mono ?_
  rintro e w10 ⟨rfl, hb⟩
  have E15 := Lib.hid (E14.out.below hb)
  clear c16_0 c16_1 c16_2 c16_3 c16_4 c16_5 c16_6 c16_7 c16_8 c17_0 c17_1 c17_2 c17_3 c17_4 c17_5 c17_6 c17_7 c17_8 E14 hb
  have hfin := Lib.hid E15.out.bel
  go_wp2
  go_ret
  exact ⟨rfl, hfin.out⟩
theorem SessionServes_walk (S : Ses) (M A : Msg) {D : Nat → Prop} {xa da ya za : Option Addr} {xk dj yk zk : Nat} {w : World} (hx : Fct.at w D (.bs (.slice xa S.rq.body.length xk) S.rq.body)) (hy : Fct.at w D (.ms (.slice da S.dn.length dj) S.dn)) (hz : Fct.at w D (.bs (.slice ya M.body.length yk) M.body)) (hv : Fct.at w D (.bs (.slice za A.body.length zk) A.body)) :
    Calls Try.prog 3 #[.agg #[.int .i64 S.nx, .bool S.wt, .int .i64 S.rq.fr, .int .i64 S.rq.to_, .int .i64 S.rq.kd, .int .i64 S.rq.nm, .slice xa S.rq.body.length xk, .slice da S.dn.length dj, .int .i64 S.tr], .agg #[.int .i64 M.fr, .int .i64 M.to_, .int .i64 M.kd, .int .i64 M.nm, .slice ya M.body.length yk], .agg #[.int .i64 A.fr, .int .i64 A.to_, .int .i64 A.kd, .int .i64 A.nm, .slice za A.body.length zk]] w fun e w' => e = .returned (.bool true) ∧ Below w.heap.size w w' := by
  by_cases hg : Small S
  case neg => exact serves_great S M A hx hy hz hv hg
  cases hl : decide (20000 < M.body.length)
  case true => exact serves_long S M A hx hy hz hv hg hl
  cases hl2 : decide (20000 < A.body.length)
  case true => exact serves_long2 S M A hx hy hz hv hg hl hl2
  obtain ⟨a1, k1, r1, c1, c2⟩ := known_both S M
  obtain ⟨a2, k2, r2, c3, c4⟩ := done_both S M A
  by_cases h0 : k2 = 0
  · subst h0
    exact serves_ok S M A a1 a2 k1 hx hy hz hv hg hl hl2 c1 c2 r1.len c3 c4 r2.fair (r2.ok.1 rfl)
  · exact serves_no S M A a1 a2 k1 k2 (by simp [h0]) (by simp [h0]) (by simp [h0]) hx hy hz hv hg hl hl2 c1 c2 r1.len c3 c4 r2.fair
end Go.Proofs.Ytbcfcdcomboljaa

/- matrix: the law MatrixRing. -/
import Derived.Test.YteipbcpnnojclaaDoorMatRb
namespace Go.Proofs.YteipbcpnnojclaaDoor
open Go.RowKit DivMath WordMath
set_option linter.unusedVariables false
set_option linter.unusedSimpArgs false
set_option maxRecDepth 100000 in
set_option maxHeartbeats 8000000 in
theorem mg_a {D : Nat → Prop} (q : Int) (M N O : List (List Int)) (x : List Int) {xa ya za ta : Option Addr} {xk yk zk tk : Nat} {w : World} (hx : Fct.at w D (.mx (.slice xa M.length xk) M)) (hy : Fct.at w D (.mx (.slice ya N.length yk) N)) (hz : Fct.at w D (.mx (.slice za O.length zk) O)) (ht : Fct.at w D (.rw (.slice ta x.length tk) x.length 1 (icl x))) (hl0 : Laid w) (HG0 : [M, N, O].any (fun x => grM x) = true)  :
    Calls Tryd.prog 9 #[.int .i64 q, .slice xa M.length xk, .slice ya N.length yk, .slice za O.length zk, .slice ta x.length tk] w fun e w' => e = .returned (.bool true) ∧ Below w.heap.size w w' := by
  have E0 : Hid (Env D w [] [.rw (.slice ta x.length tk) x.length 1 (icl x), .mx (.slice za O.length zk) O, .mx (.slice ya N.length yk) N, .mx (.slice xa M.length xk) M] w) := Lib.hid (((((Env.start D w).arg (.mx (.slice xa M.length xk) M) hx).arg (.mx (.slice ya N.length yk) N) hy).arg (.mx (.slice za O.length zk) O) hz).arg (.rw (.slice ta x.length tk) x.length 1 (icl x)) ht)
  clear hx hy hz ht
  go_enter Tryd.func9, Tryd.ntmps9
  have hl := Lib.hid hl0
  have HG := Lib.hid HG0
  clear hl0 HG0
  go_wp2_with fail
  refine (awake14_c (hl.out.below E0.out.bel)).mono ?_
  rintro e w1 ⟨rfl, hb⟩
  have E1 : Hid (Env D w [] [.rw (.slice ta x.length tk) x.length 1 (icl x), .mx (.slice za O.length zk) O, .mx (.slice ya N.length yk) N, .mx (.slice xa M.length xk) M] w1) := Lib.hid (E0.out.below hb)
  clear E0 hb
  have E2 : Hid (Env D w [(w1.heap.size, 44, [.slice xa M.length xk, .slice ya N.length yk, .slice za O.length zk])] [.rw (.slice ta x.length tk) x.length 1 (icl x), .mx (.slice za O.length zk) O, .mx (.slice ya N.length yk) N, .mx (.slice xa M.length xk) M] _) := Lib.hid ((E1.out.push 44 [.slice xa M.length xk, .slice ya N.length yk, .slice za O.length zk] (w1.heap.size) (by simp)))
  go_wp2_with fail
  refine (great14_c (t := true) [M, N, O] (xb := w1.heap.size) (xo := 0) (xk := 3) (gMats.three (by simp) (by simp) (by simp) (E2.out.bx 0 rfl) (E2.out.fc 3 rfl) (E2.out.fc 2 rfl) (E2.out.fc 1 rfl)) HG.out (by simp)).mono ?_
  rintro e w2 ⟨rfl, hb⟩
  have E3 : Hid (Env D w [(w1.heap.size, 44, [.slice xa M.length xk, .slice ya N.length yk, .slice za O.length zk])] [.rw (.slice ta x.length tk) x.length 1 (icl x), .mx (.slice za O.length zk) O, .mx (.slice ya N.length yk) N, .mx (.slice xa M.length xk) M] w2) := Lib.hid (E2.out.below hb)
  clear E1 E2 hb
  have hfin := Lib.hid E3.out.bel
  go_wp2
  go_ret
  exact ⟨rfl, hfin.out⟩
set_option maxRecDepth 100000 in
set_option maxHeartbeats 8000000 in
theorem mg_b {D : Nat → Prop} (q : Int) (M N O : List (List Int)) (x : List Int) {xa ya za ta : Option Addr} {xk yk zk tk : Nat} {w : World} (hx : Fct.at w D (.mx (.slice xa M.length xk) M)) (hy : Fct.at w D (.mx (.slice ya N.length yk) N)) (hz : Fct.at w D (.mx (.slice za O.length zk) O)) (ht : Fct.at w D (.rw (.slice ta x.length tk) x.length 1 (icl x))) (hl0 : Laid w) (HG0 : [M, N, O].any (fun x => grM x) = false) (h1 : 100 < x.length) :
    Calls Tryd.prog 9 #[.int .i64 q, .slice xa M.length xk, .slice ya N.length yk, .slice za O.length zk, .slice ta x.length tk] w fun e w' => e = .returned (.bool true) ∧ Below w.heap.size w w' := by
  have E0 : Hid (Env D w [] [.rw (.slice ta x.length tk) x.length 1 (icl x), .mx (.slice za O.length zk) O, .mx (.slice ya N.length yk) N, .mx (.slice xa M.length xk) M] w) := Lib.hid (((((Env.start D w).arg (.mx (.slice xa M.length xk) M) hx).arg (.mx (.slice ya N.length yk) N) hy).arg (.mx (.slice za O.length zk) O) hz).arg (.rw (.slice ta x.length tk) x.length 1 (icl x)) ht)
  clear hx hy hz ht
  go_enter Tryd.func9, Tryd.ntmps9
  have hl := Lib.hid hl0
  have HG := Lib.hid HG0
  clear hl0 HG0
  go_wp2_with fail
  refine (awake14_c (hl.out.below E0.out.bel)).mono ?_
  rintro e w1 ⟨rfl, hb⟩
  have E1 : Hid (Env D w [] [.rw (.slice ta x.length tk) x.length 1 (icl x), .mx (.slice za O.length zk) O, .mx (.slice ya N.length yk) N, .mx (.slice xa M.length xk) M] w1) := Lib.hid (E0.out.below hb)
  clear E0 hb
  have d3 : decide ((100 : Int) < (x.length : Int)) = true := decide_eq_true (by omega)
  have d3n : decide (100 < x.length) = true := decide_eq_true (by omega)
  clear h1
  have E2 : Hid (Env D w [(w1.heap.size, 44, [.slice xa M.length xk, .slice ya N.length yk, .slice za O.length zk])] [.rw (.slice ta x.length tk) x.length 1 (icl x), .mx (.slice za O.length zk) O, .mx (.slice ya N.length yk) N, .mx (.slice xa M.length xk) M] _) := Lib.hid ((E1.out.push 44 [.slice xa M.length xk, .slice ya N.length yk, .slice za O.length zk] (w1.heap.size) (by simp)))
  go_wp2_with fail
  refine (great14_c (t := false) [M, N, O] (xb := w1.heap.size) (xo := 0) (xk := 3) (gMats.three (by simp) (by simp) (by simp) (E2.out.bx 0 rfl) (E2.out.fc 3 rfl) (E2.out.fc 2 rfl) (E2.out.fc 1 rfl)) HG.out (by simp)).mono ?_
  rintro e w2 ⟨rfl, hb⟩
  have E3 : Hid (Env D w [(w1.heap.size, 44, [.slice xa M.length xk, .slice ya N.length yk, .slice za O.length zk])] [.rw (.slice ta x.length tk) x.length 1 (icl x), .mx (.slice za O.length zk) O, .mx (.slice ya N.length yk) N, .mx (.slice xa M.length xk) M] w2) := Lib.hid (E2.out.below hb)
  clear E1 E2 hb
  have hfin := Lib.hid E3.out.bel
  go_wp2
  go_ret
  exact ⟨rfl, hfin.out⟩
set_option maxRecDepth 100000 in
set_option maxHeartbeats 8000000 in
theorem mg_c {D : Nat → Prop} (q : Int) (M N O : List (List Int)) (x : List Int) {xa ya za ta : Option Addr} {xk yk zk tk : Nat} {w : World} (hx : Fct.at w D (.mx (.slice xa M.length xk) M)) (hy : Fct.at w D (.mx (.slice ya N.length yk) N)) (hz : Fct.at w D (.mx (.slice za O.length zk) O)) (ht : Fct.at w D (.rw (.slice ta x.length tk) x.length 1 (icl x))) (hl0 : Laid w) (HG0 : [M, N, O].any (fun x => grM x) = false) (hn : -9223372036854775808 ≤ q ∧ q ≤ 9223372036854775807) (h1 : x.length ≤ 100) (hv0 : mvB q M = false) :
    Calls Tryd.prog 9 #[.int .i64 q, .slice xa M.length xk, .slice ya N.length yk, .slice za O.length zk, .slice ta x.length tk] w fun e w' => e = .returned (.bool true) ∧ Below w.heap.size w w' := by
  have E0 : Hid (Env D w [] [.rw (.slice ta x.length tk) x.length 1 (icl x), .mx (.slice za O.length zk) O, .mx (.slice ya N.length yk) N, .mx (.slice xa M.length xk) M] w) := Lib.hid (((((Env.start D w).arg (.mx (.slice xa M.length xk) M) hx).arg (.mx (.slice ya N.length yk) N) hy).arg (.mx (.slice za O.length zk) O) hz).arg (.rw (.slice ta x.length tk) x.length 1 (icl x)) ht)
  clear hx hy hz ht
  go_enter Tryd.func9, Tryd.ntmps9
  have hl := Lib.hid hl0
  have HG := Lib.hid HG0
  have hv := Lib.hid hv0
  clear hl0 HG0 hv0
  go_wp2_with fail
  refine (awake14_c (hl.out.below E0.out.bel)).mono ?_
  rintro e w1 ⟨rfl, hb⟩
  have E1 : Hid (Env D w [] [.rw (.slice ta x.length tk) x.length 1 (icl x), .mx (.slice za O.length zk) O, .mx (.slice ya N.length yk) N, .mx (.slice xa M.length xk) M] w1) := Lib.hid (E0.out.below hb)
  clear E0 hb
  have HN := Lib.hid hn
  have d3 : decide ((100 : Int) < (x.length : Int)) = false := decide_eq_false (by omega)
  have d3n : decide (100 < x.length) = false := decide_eq_false (by omega)
  have E2 : Hid (Env D w [(w1.heap.size, 44, [.slice xa M.length xk, .slice ya N.length yk, .slice za O.length zk])] [.rw (.slice ta x.length tk) x.length 1 (icl x), .mx (.slice za O.length zk) O, .mx (.slice ya N.length yk) N, .mx (.slice xa M.length xk) M] _) := Lib.hid ((E1.out.push 44 [.slice xa M.length xk, .slice ya N.length yk, .slice za O.length zk] (w1.heap.size) (by simp)))
  go_wp2_with fail
  refine (great14_c (t := false) [M, N, O] (xb := w1.heap.size) (xo := 0) (xk := 3) (gMats.three (by simp) (by simp) (by simp) (E2.out.bx 0 rfl) (E2.out.fc 3 rfl) (E2.out.fc 2 rfl) (E2.out.fc 1 rfl)) HG.out (by simp)).mono ?_
  rintro e w2 ⟨rfl, hb⟩
  have E3 : Hid (Env D w [(w1.heap.size, 44, [.slice xa M.length xk, .slice ya N.length yk, .slice za O.length zk])] [.rw (.slice ta x.length tk) x.length 1 (icl x), .mx (.slice za O.length zk) O, .mx (.slice ya N.length yk) N, .mx (.slice xa M.length xk) M] w2) := Lib.hid (E2.out.below hb)
  clear E1 E2 hb
  go_wp2_with fail
  refine (rMValid_c q M (E3.out.fc 3 rfl) HN.out.1 hv.out).mono ?_
  rintro e w3 ⟨rfl, hb⟩
  have E4 : Hid (Env D w [(w1.heap.size, 44, [.slice xa M.length xk, .slice ya N.length yk, .slice za O.length zk])] [.rw (.slice ta x.length tk) x.length 1 (icl x), .mx (.slice za O.length zk) O, .mx (.slice ya N.length yk) N, .mx (.slice xa M.length xk) M] w3) := Lib.hid (E3.out.below hb)
  clear E3 hb
  have hfin := Lib.hid E4.out.bel
  go_wp2
  go_ret
  exact ⟨rfl, hfin.out⟩
set_option maxRecDepth 100000 in
set_option maxHeartbeats 8000000 in
theorem mg_d {D : Nat → Prop} (q : Int) (M N O : List (List Int)) (x : List Int) {xa ya za ta : Option Addr} {xk yk zk tk : Nat} {w : World} (hx : Fct.at w D (.mx (.slice xa M.length xk) M)) (hy : Fct.at w D (.mx (.slice ya N.length yk) N)) (hz : Fct.at w D (.mx (.slice za O.length zk) O)) (ht : Fct.at w D (.rw (.slice ta x.length tk) x.length 1 (icl x))) (hl0 : Laid w) (HG0 : [M, N, O].any (fun x => grM x) = false) (hn : -9223372036854775808 ≤ q ∧ q ≤ 9223372036854775807) (h1 : x.length ≤ 100) (hv0 : mvB q M = true) (hu0 : mvB q N = false) :
    Calls Tryd.prog 9 #[.int .i64 q, .slice xa M.length xk, .slice ya N.length yk, .slice za O.length zk, .slice ta x.length tk] w fun e w' => e = .returned (.bool true) ∧ Below w.heap.size w w' := by
  have E0 : Hid (Env D w [] [.rw (.slice ta x.length tk) x.length 1 (icl x), .mx (.slice za O.length zk) O, .mx (.slice ya N.length yk) N, .mx (.slice xa M.length xk) M] w) := Lib.hid (((((Env.start D w).arg (.mx (.slice xa M.length xk) M) hx).arg (.mx (.slice ya N.length yk) N) hy).arg (.mx (.slice za O.length zk) O) hz).arg (.rw (.slice ta x.length tk) x.length 1 (icl x)) ht)
  clear hx hy hz ht
  go_enter Tryd.func9, Tryd.ntmps9
  have hl := Lib.hid hl0
  have HG := Lib.hid HG0
  have hv := Lib.hid hv0
  have hu := Lib.hid hu0
  clear hl0 HG0 hv0 hu0
  go_wp2_with fail
  refine (awake14_c (hl.out.below E0.out.bel)).mono ?_
  rintro e w1 ⟨rfl, hb⟩
  have E1 : Hid (Env D w [] [.rw (.slice ta x.length tk) x.length 1 (icl x), .mx (.slice za O.length zk) O, .mx (.slice ya N.length yk) N, .mx (.slice xa M.length xk) M] w1) := Lib.hid (E0.out.below hb)
  clear E0 hb
  have HN := Lib.hid hn
  have d3 : decide ((100 : Int) < (x.length : Int)) = false := decide_eq_false (by omega)
  have d3n : decide (100 < x.length) = false := decide_eq_false (by omega)
  have E2 : Hid (Env D w [(w1.heap.size, 44, [.slice xa M.length xk, .slice ya N.length yk, .slice za O.length zk])] [.rw (.slice ta x.length tk) x.length 1 (icl x), .mx (.slice za O.length zk) O, .mx (.slice ya N.length yk) N, .mx (.slice xa M.length xk) M] _) := Lib.hid ((E1.out.push 44 [.slice xa M.length xk, .slice ya N.length yk, .slice za O.length zk] (w1.heap.size) (by simp)))
  go_wp2_with fail
  refine (great14_c (t := false) [M, N, O] (xb := w1.heap.size) (xo := 0) (xk := 3) (gMats.three (by simp) (by simp) (by simp) (E2.out.bx 0 rfl) (E2.out.fc 3 rfl) (E2.out.fc 2 rfl) (E2.out.fc 1 rfl)) HG.out (by simp)).mono ?_
  rintro e w2 ⟨rfl, hb⟩
  have E3 : Hid (Env D w [(w1.heap.size, 44, [.slice xa M.length xk, .slice ya N.length yk, .slice za O.length zk])] [.rw (.slice ta x.length tk) x.length 1 (icl x), .mx (.slice za O.length zk) O, .mx (.slice ya N.length yk) N, .mx (.slice xa M.length xk) M] w2) := Lib.hid (E2.out.below hb)
  clear E1 E2 hb
  go_wp2_with fail
  refine (rMValid_c q M (E3.out.fc 3 rfl) HN.out.1 hv.out).mono ?_
  rintro e w3 ⟨rfl, hb⟩
  have E4 : Hid (Env D w [(w1.heap.size, 44, [.slice xa M.length xk, .slice ya N.length yk, .slice za O.length zk])] [.rw (.slice ta x.length tk) x.length 1 (icl x), .mx (.slice za O.length zk) O, .mx (.slice ya N.length yk) N, .mx (.slice xa M.length xk) M] w3) := Lib.hid (E3.out.below hb)
  clear E3 hb
  go_wp2_with fail
  refine (rMValid_c q N (E4.out.fc 2 rfl) HN.out.1 hu.out).mono ?_
  rintro e w4 ⟨rfl, hb⟩
  have E5 : Hid (Env D w [(w1.heap.size, 44, [.slice xa M.length xk, .slice ya N.length yk, .slice za O.length zk])] [.rw (.slice ta x.length tk) x.length 1 (icl x), .mx (.slice za O.length zk) O, .mx (.slice ya N.length yk) N, .mx (.slice xa M.length xk) M] w4) := Lib.hid (E4.out.below hb)
  clear E4 hb
  have hfin := Lib.hid E5.out.bel
  go_wp2
  go_ret
  exact ⟨rfl, hfin.out⟩
set_option maxRecDepth 100000 in
set_option maxHeartbeats 8000000 in
theorem mg_e {D : Nat → Prop} (q : Int) (M N O : List (List Int)) (x : List Int) {xa ya za ta : Option Addr} {xk yk zk tk : Nat} {w : World} (hx : Fct.at w D (.mx (.slice xa M.length xk) M)) (hy : Fct.at w D (.mx (.slice ya N.length yk) N)) (hz : Fct.at w D (.mx (.slice za O.length zk) O)) (ht : Fct.at w D (.rw (.slice ta x.length tk) x.length 1 (icl x))) (hl0 : Laid w) (HG0 : [M, N, O].any (fun x => grM x) = false) (hn : -9223372036854775808 ≤ q ∧ q ≤ 9223372036854775807) (h1 : x.length ≤ 100) (hv0 : mvB q M = true) (hu0 : mvB q N = true) (ho0 : mvB q O = false) :
    Calls Tryd.prog 9 #[.int .i64 q, .slice xa M.length xk, .slice ya N.length yk, .slice za O.length zk, .slice ta x.length tk] w fun e w' => e = .returned (.bool true) ∧ Below w.heap.size w w' := by
  have E0 : Hid (Env D w [] [.rw (.slice ta x.length tk) x.length 1 (icl x), .mx (.slice za O.length zk) O, .mx (.slice ya N.length yk) N, .mx (.slice xa M.length xk) M] w) := Lib.hid (((((Env.start D w).arg (.mx (.slice xa M.length xk) M) hx).arg (.mx (.slice ya N.length yk) N) hy).arg (.mx (.slice za O.length zk) O) hz).arg (.rw (.slice ta x.length tk) x.length 1 (icl x)) ht)
  clear hx hy hz ht
  go_enter Tryd.func9, Tryd.ntmps9
  have hl := Lib.hid hl0
  have HG := Lib.hid HG0
  have hv := Lib.hid hv0
  have hu := Lib.hid hu0
  have ho := Lib.hid ho0
  clear hl0 HG0 hv0 hu0 ho0
  go_wp2_with fail
  refine (awake14_c (hl.out.below E0.out.bel)).mono ?_
  rintro e w1 ⟨rfl, hb⟩
  have E1 : Hid (Env D w [] [.rw (.slice ta x.length tk) x.length 1 (icl x), .mx (.slice za O.length zk) O, .mx (.slice ya N.length yk) N, .mx (.slice xa M.length xk) M] w1) := Lib.hid (E0.out.below hb)
  clear E0 hb
  have HN := Lib.hid hn
  have d3 : decide ((100 : Int) < (x.length : Int)) = false := decide_eq_false (by omega)
  have d3n : decide (100 < x.length) = false := decide_eq_false (by omega)
  have E2 : Hid (Env D w [(w1.heap.size, 44, [.slice xa M.length xk, .slice ya N.length yk, .slice za O.length zk])] [.rw (.slice ta x.length tk) x.length 1 (icl x), .mx (.slice za O.length zk) O, .mx (.slice ya N.length yk) N, .mx (.slice xa M.length xk) M] _) := Lib.hid ((E1.out.push 44 [.slice xa M.length xk, .slice ya N.length yk, .slice za O.length zk] (w1.heap.size) (by simp)))
  go_wp2_with fail
  refine (great14_c (t := false) [M, N, O] (xb := w1.heap.size) (xo := 0) (xk := 3) (gMats.three (by simp) (by simp) (by simp) (E2.out.bx 0 rfl) (E2.out.fc 3 rfl) (E2.out.fc 2 rfl) (E2.out.fc 1 rfl)) HG.out (by simp)).mono ?_
  rintro e w2 ⟨rfl, hb⟩
  have E3 : Hid (Env D w [(w1.heap.size, 44, [.slice xa M.length xk, .slice ya N.length yk, .slice za O.length zk])] [.rw (.slice ta x.length tk) x.length 1 (icl x), .mx (.slice za O.length zk) O, .mx (.slice ya N.length yk) N, .mx (.slice xa M.length xk) M] w2) := Lib.hid (E2.out.below hb)
  clear E1 E2 hb
  go_wp2_with fail
  refine (rMValid_c q M (E3.out.fc 3 rfl) HN.out.1 hv.out).mono ?_
  rintro e w3 ⟨rfl, hb⟩
  have E4 : Hid (Env D w [(w1.heap.size, 44, [.slice xa M.length xk, .slice ya N.length yk, .slice za O.length zk])] [.rw (.slice ta x.length tk) x.length 1 (icl x), .mx (.slice za O.length zk) O, .mx (.slice ya N.length yk) N, .mx (.slice xa M.length xk) M] w3) := Lib.hid (E3.out.below hb)
  clear E3 hb
  go_wp2_with fail
  refine (rMValid_c q N (E4.out.fc 2 rfl) HN.out.1 hu.out).mono ?_
  rintro e w4 ⟨rfl, hb⟩
  have E5 : Hid (Env D w [(w1.heap.size, 44, [.slice xa M.length xk, .slice ya N.length yk, .slice za O.length zk])] [.rw (.slice ta x.length tk) x.length 1 (icl x), .mx (.slice za O.length zk) O, .mx (.slice ya N.length yk) N, .mx (.slice xa M.length xk) M] w4) := Lib.hid (E4.out.below hb)
  clear E4 hb
  go_wp2_with fail
  refine (rMValid_c q O (E5.out.fc 1 rfl) HN.out.1 ho.out).mono ?_
  rintro e w5 ⟨rfl, hb⟩
  have E6 : Hid (Env D w [(w1.heap.size, 44, [.slice xa M.length xk, .slice ya N.length yk, .slice za O.length zk])] [.rw (.slice ta x.length tk) x.length 1 (icl x), .mx (.slice za O.length zk) O, .mx (.slice ya N.length yk) N, .mx (.slice xa M.length xk) M] w5) := Lib.hid (E5.out.below hb)
  clear E5 hb
  have hfin := Lib.hid E6.out.bel
  go_wp2
  go_ret
  exact ⟨rfl, hfin.out⟩
set_option maxRecDepth 100000 in
set_option maxHeartbeats 8000000 in
theorem mg_f {D : Nat → Prop} (q : Int) (M N O : List (List Int)) (x : List Int) {xa ya za ta : Option Addr} {xk yk zk tk : Nat} {w : World} (hx : Fct.at w D (.mx (.slice xa M.length xk) M)) (hy : Fct.at w D (.mx (.slice ya N.length yk) N)) (hz : Fct.at w D (.mx (.slice za O.length zk) O)) (ht : Fct.at w D (.rw (.slice ta x.length tk) x.length 1 (icl x))) (hl0 : Laid w) (HG0 : [M, N, O].any (fun x => grM x) = false) (hn : -9223372036854775808 ≤ q ∧ q ≤ 9223372036854775807) (h1 : x.length ≤ 100) (hv0 : mvB q M = true) (hu0 : mvB q N = true) (ho0 : mvB q O = true) (hzm : 0 < M.length) (hne0 : M[0].length ≠ N.length) :
    Calls Tryd.prog 9 #[.int .i64 q, .slice xa M.length xk, .slice ya N.length yk, .slice za O.length zk, .slice ta x.length tk] w fun e w' => e = .returned (.bool true) ∧ Below w.heap.size w w' := by
  have E0 : Hid (Env D w [] [.rw (.slice ta x.length tk) x.length 1 (icl x), .mx (.slice za O.length zk) O, .mx (.slice ya N.length yk) N, .mx (.slice xa M.length xk) M] w) := Lib.hid (((((Env.start D w).arg (.mx (.slice xa M.length xk) M) hx).arg (.mx (.slice ya N.length yk) N) hy).arg (.mx (.slice za O.length zk) O) hz).arg (.rw (.slice ta x.length tk) x.length 1 (icl x)) ht)
  clear hx hy hz ht
  go_enter Tryd.func9, Tryd.ntmps9
  have hl := Lib.hid hl0
  have HG := Lib.hid HG0
  have hv := Lib.hid hv0
  have hu := Lib.hid hu0
  have ho := Lib.hid ho0
  have hne := Lib.hid hne0
  clear hl0 HG0 hv0 hu0 ho0 hne0
  go_wp2_with fail
  refine (awake14_c (hl.out.below E0.out.bel)).mono ?_
  rintro e w1 ⟨rfl, hb⟩
  have E1 : Hid (Env D w [] [.rw (.slice ta x.length tk) x.length 1 (icl x), .mx (.slice za O.length zk) O, .mx (.slice ya N.length yk) N, .mx (.slice xa M.length xk) M] w1) := Lib.hid (E0.out.below hb)
  clear E0 hb
  have HN := Lib.hid hn
  have d3 : decide ((100 : Int) < (x.length : Int)) = false := decide_eq_false (by omega)
  have d3n : decide (100 < x.length) = false := decide_eq_false (by omega)
  have hzI : (0 : Int) < (M.length : Int) := by omega
  go_upto_region 3 with (fail)
  obtain ⟨xab, xao, rfl⟩ := Mx.addr (E1.out.fc 3 rfl) hzm
  obtain ⟨ua, uk, E20⟩ := E1.out.elM 3 rfl (0) hzm
  have E2 : Hid (Env D w [] [.ce xab (xao) (.slice ua M[0].length uk), .rw (.slice ua M[0].length uk) M[0].length 1 (icl M[0]), .rw (.slice ta x.length tk) x.length 1 (icl x), .mx (.slice za O.length zk) O, .mx (.slice ya N.length yk) N, .mx (.slice (some ⟨xab, xao, none⟩) M.length xk) M] _) := Lib.hid E20
  clear E20 E1
  have u0 := (E2.out.fc 0 rfl).2
  have na : ((M[0].length : Int) != (N.length : Int)) = true := by have := hne.out; rw [bne_iff_ne]; omega
  have nb : (M[0].length != N.length) = true := by have := hne.out; rw [bne_iff_ne]; omega
  have E3 : Hid (Env D w [(w1.heap.size, 44, [.slice (some ⟨xab, xao, none⟩) M.length xk, .slice ya N.length yk, .slice za O.length zk])] [.ce xab (xao) (.slice ua M[0].length uk), .rw (.slice ua M[0].length uk) M[0].length 1 (icl M[0]), .rw (.slice ta x.length tk) x.length 1 (icl x), .mx (.slice za O.length zk) O, .mx (.slice ya N.length yk) N, .mx (.slice (some ⟨xab, xao, none⟩) M.length xk) M] _) := Lib.hid ((E2.out.push 44 [.slice (some ⟨xab, xao, none⟩) M.length xk, .slice ya N.length yk, .slice za O.length zk] (w1.heap.size) (by simp)))
  go_wp2_with fail
  refine (great14_c (t := false) [M, N, O] (xb := w1.heap.size) (xo := 0) (xk := 3) (gMats.three (by simp) (by simp) (by simp) (E3.out.bx 0 rfl) (E3.out.fc 5 rfl) (E3.out.fc 4 rfl) (E3.out.fc 3 rfl)) HG.out (by simp)).mono ?_
  rintro e w2 ⟨rfl, hb⟩
  have E4 : Hid (Env D w [(w1.heap.size, 44, [.slice (some ⟨xab, xao, none⟩) M.length xk, .slice ya N.length yk, .slice za O.length zk])] [.ce xab (xao) (.slice ua M[0].length uk), .rw (.slice ua M[0].length uk) M[0].length 1 (icl M[0]), .rw (.slice ta x.length tk) x.length 1 (icl x), .mx (.slice za O.length zk) O, .mx (.slice ya N.length yk) N, .mx (.slice (some ⟨xab, xao, none⟩) M.length xk) M] w2) := Lib.hid (E3.out.below hb)
  clear u0 E2 E3 hb
  go_wp2_with fail
  refine (rMValid_c q M (E4.out.fc 5 rfl) HN.out.1 hv.out).mono ?_
  rintro e w3 ⟨rfl, hb⟩
  have E5 : Hid (Env D w [(w1.heap.size, 44, [.slice (some ⟨xab, xao, none⟩) M.length xk, .slice ya N.length yk, .slice za O.length zk])] [.ce xab (xao) (.slice ua M[0].length uk), .rw (.slice ua M[0].length uk) M[0].length 1 (icl M[0]), .rw (.slice ta x.length tk) x.length 1 (icl x), .mx (.slice za O.length zk) O, .mx (.slice ya N.length yk) N, .mx (.slice (some ⟨xab, xao, none⟩) M.length xk) M] w3) := Lib.hid (E4.out.below hb)
  clear E4 hb
  go_wp2_with fail
  refine (rMValid_c q N (E5.out.fc 4 rfl) HN.out.1 hu.out).mono ?_
  rintro e w4 ⟨rfl, hb⟩
  have E6 : Hid (Env D w [(w1.heap.size, 44, [.slice (some ⟨xab, xao, none⟩) M.length xk, .slice ya N.length yk, .slice za O.length zk])] [.ce xab (xao) (.slice ua M[0].length uk), .rw (.slice ua M[0].length uk) M[0].length 1 (icl M[0]), .rw (.slice ta x.length tk) x.length 1 (icl x), .mx (.slice za O.length zk) O, .mx (.slice ya N.length yk) N, .mx (.slice (some ⟨xab, xao, none⟩) M.length xk) M] w4) := Lib.hid (E5.out.below hb)
  clear E5 hb
  go_wp2_with fail
  refine (rMValid_c q O (E6.out.fc 3 rfl) HN.out.1 ho.out).mono ?_
  rintro e w5 ⟨rfl, hb⟩
  have E7 : Hid (Env D w [(w1.heap.size, 44, [.slice (some ⟨xab, xao, none⟩) M.length xk, .slice ya N.length yk, .slice za O.length zk])] [.ce xab (xao) (.slice ua M[0].length uk), .rw (.slice ua M[0].length uk) M[0].length 1 (icl M[0]), .rw (.slice ta x.length tk) x.length 1 (icl x), .mx (.slice za O.length zk) O, .mx (.slice ya N.length yk) N, .mx (.slice (some ⟨xab, xao, none⟩) M.length xk) M] w5) := Lib.hid (E6.out.below hb)
  clear E6 hb
  have z1 := (E7.out.fc 0 rfl).2
  have hfin := Lib.hid E7.out.bel
  go_wp2
  go_ret
  exact ⟨rfl, hfin.out⟩
set_option maxRecDepth 100000 in
set_option maxHeartbeats 8000000 in
theorem mg_g {D : Nat → Prop} (q : Int) (M N O : List (List Int)) (x : List Int) {xa ya za ta : Option Addr} {xk yk zk tk : Nat} {w : World} (hx : Fct.at w D (.mx (.slice xa M.length xk) M)) (hy : Fct.at w D (.mx (.slice ya N.length yk) N)) (hz : Fct.at w D (.mx (.slice za O.length zk) O)) (ht : Fct.at w D (.rw (.slice ta x.length tk) x.length 1 (icl x))) (hl0 : Laid w) (HG0 : [M, N, O].any (fun x => grM x) = false) (hn : -9223372036854775808 ≤ q ∧ q ≤ 9223372036854775807) (h1 : x.length ≤ 100) (hv0 : mvB q M = true) (hu0 : mvB q N = true) (ho0 : mvB q O = true) (hzm : 0 < M.length) (hz2 : 0 < N.length) (heq0 : M[0].length = N.length) (hne0 : N[0].length ≠ O.length) :
    Calls Tryd.prog 9 #[.int .i64 q, .slice xa M.length xk, .slice ya N.length yk, .slice za O.length zk, .slice ta x.length tk] w fun e w' => e = .returned (.bool true) ∧ Below w.heap.size w w' := by
  have E0 : Hid (Env D w [] [.rw (.slice ta x.length tk) x.length 1 (icl x), .mx (.slice za O.length zk) O, .mx (.slice ya N.length yk) N, .mx (.slice xa M.length xk) M] w) := Lib.hid (((((Env.start D w).arg (.mx (.slice xa M.length xk) M) hx).arg (.mx (.slice ya N.length yk) N) hy).arg (.mx (.slice za O.length zk) O) hz).arg (.rw (.slice ta x.length tk) x.length 1 (icl x)) ht)
  clear hx hy hz ht
  go_enter Tryd.func9, Tryd.ntmps9
  have hl := Lib.hid hl0
  have HG := Lib.hid HG0
  have hv := Lib.hid hv0
  have hu := Lib.hid hu0
  have ho := Lib.hid ho0
  have hne := Lib.hid hne0
  have heq := Lib.hid heq0
  clear hl0 HG0 hv0 hu0 ho0 hne0 heq0
  go_wp2_with fail
  refine (awake14_c (hl.out.below E0.out.bel)).mono ?_
  rintro e w1 ⟨rfl, hb⟩
  have E1 : Hid (Env D w [] [.rw (.slice ta x.length tk) x.length 1 (icl x), .mx (.slice za O.length zk) O, .mx (.slice ya N.length yk) N, .mx (.slice xa M.length xk) M] w1) := Lib.hid (E0.out.below hb)
  clear E0 hb
  have HN := Lib.hid hn
  have d3 : decide ((100 : Int) < (x.length : Int)) = false := decide_eq_false (by omega)
  have d3n : decide (100 < x.length) = false := decide_eq_false (by omega)
  have hzI : (0 : Int) < (M.length : Int) := by omega
  have hz2I : (0 : Int) < (N.length : Int) := by omega
  go_upto_region 3 with (fail)
  obtain ⟨xab, xao, rfl⟩ := Mx.addr (E1.out.fc 3 rfl) hzm
  obtain ⟨ua, uk, E20⟩ := E1.out.elM 3 rfl (0) hzm
  have E2 : Hid (Env D w [] [.ce xab (xao) (.slice ua M[0].length uk), .rw (.slice ua M[0].length uk) M[0].length 1 (icl M[0]), .rw (.slice ta x.length tk) x.length 1 (icl x), .mx (.slice za O.length zk) O, .mx (.slice ya N.length yk) N, .mx (.slice (some ⟨xab, xao, none⟩) M.length xk) M] _) := Lib.hid E20
  clear E20 E1
  have u0 := (E2.out.fc 0 rfl).2
  have na : ((M[0].length : Int) != (N.length : Int)) = false := by rw [heq.out]; simp
  have nb : (M[0].length != N.length) = false := by rw [heq.out]; simp
  have ka : ((N[0].length : Int) != (O.length : Int)) = true := by have := hne.out; rw [bne_iff_ne]; omega
  have kb : (N[0].length != O.length) = true := by have := hne.out; rw [bne_iff_ne]; omega
  obtain ⟨yab, yao, rfl⟩ := Mx.addr (E2.out.fc 4 rfl) hz2
  obtain ⟨va, vk, E30⟩ := E2.out.elM 4 rfl (0) hz2
  have E3 : Hid (Env D w [] [.ce yab (yao) (.slice va N[0].length vk), .rw (.slice va N[0].length vk) N[0].length 1 (icl N[0]), .ce xab (xao) (.slice ua M[0].length uk), .rw (.slice ua M[0].length uk) M[0].length 1 (icl M[0]), .rw (.slice ta x.length tk) x.length 1 (icl x), .mx (.slice za O.length zk) O, .mx (.slice (some ⟨yab, yao, none⟩) N.length yk) N, .mx (.slice (some ⟨xab, xao, none⟩) M.length xk) M] _) := Lib.hid E30
  clear E30 E2
  have v0 := (E3.out.fc 0 rfl).2
  have E4 : Hid (Env D w [(w1.heap.size, 44, [.slice (some ⟨xab, xao, none⟩) M.length xk, .slice (some ⟨yab, yao, none⟩) N.length yk, .slice za O.length zk])] [.ce yab (yao) (.slice va N[0].length vk), .rw (.slice va N[0].length vk) N[0].length 1 (icl N[0]), .ce xab (xao) (.slice ua M[0].length uk), .rw (.slice ua M[0].length uk) M[0].length 1 (icl M[0]), .rw (.slice ta x.length tk) x.length 1 (icl x), .mx (.slice za O.length zk) O, .mx (.slice (some ⟨yab, yao, none⟩) N.length yk) N, .mx (.slice (some ⟨xab, xao, none⟩) M.length xk) M] _) := Lib.hid ((E3.out.push 44 [.slice (some ⟨xab, xao, none⟩) M.length xk, .slice (some ⟨yab, yao, none⟩) N.length yk, .slice za O.length zk] (w1.heap.size) (by simp)))
  go_wp2_with fail
  refine (great14_c (t := false) [M, N, O] (xb := w1.heap.size) (xo := 0) (xk := 3) (gMats.three (by simp) (by simp) (by simp) (E4.out.bx 0 rfl) (E4.out.fc 7 rfl) (E4.out.fc 6 rfl) (E4.out.fc 5 rfl)) HG.out (by simp)).mono ?_
  rintro e w2 ⟨rfl, hb⟩
  have E5 : Hid (Env D w [(w1.heap.size, 44, [.slice (some ⟨xab, xao, none⟩) M.length xk, .slice (some ⟨yab, yao, none⟩) N.length yk, .slice za O.length zk])] [.ce yab (yao) (.slice va N[0].length vk), .rw (.slice va N[0].length vk) N[0].length 1 (icl N[0]), .ce xab (xao) (.slice ua M[0].length uk), .rw (.slice ua M[0].length uk) M[0].length 1 (icl M[0]), .rw (.slice ta x.length tk) x.length 1 (icl x), .mx (.slice za O.length zk) O, .mx (.slice (some ⟨yab, yao, none⟩) N.length yk) N, .mx (.slice (some ⟨xab, xao, none⟩) M.length xk) M] w2) := Lib.hid (E4.out.below hb)
  clear u0 v0 E3 E4 hb
  go_wp2_with fail
  refine (rMValid_c q M (E5.out.fc 7 rfl) HN.out.1 hv.out).mono ?_
  rintro e w3 ⟨rfl, hb⟩
  have E6 : Hid (Env D w [(w1.heap.size, 44, [.slice (some ⟨xab, xao, none⟩) M.length xk, .slice (some ⟨yab, yao, none⟩) N.length yk, .slice za O.length zk])] [.ce yab (yao) (.slice va N[0].length vk), .rw (.slice va N[0].length vk) N[0].length 1 (icl N[0]), .ce xab (xao) (.slice ua M[0].length uk), .rw (.slice ua M[0].length uk) M[0].length 1 (icl M[0]), .rw (.slice ta x.length tk) x.length 1 (icl x), .mx (.slice za O.length zk) O, .mx (.slice (some ⟨yab, yao, none⟩) N.length yk) N, .mx (.slice (some ⟨xab, xao, none⟩) M.length xk) M] w3) := Lib.hid (E5.out.below hb)
  clear E5 hb
  go_wp2_with fail
  refine (rMValid_c q N (E6.out.fc 6 rfl) HN.out.1 hu.out).mono ?_
  rintro e w4 ⟨rfl, hb⟩
  have E7 : Hid (Env D w [(w1.heap.size, 44, [.slice (some ⟨xab, xao, none⟩) M.length xk, .slice (some ⟨yab, yao, none⟩) N.length yk, .slice za O.length zk])] [.ce yab (yao) (.slice va N[0].length vk), .rw (.slice va N[0].length vk) N[0].length 1 (icl N[0]), .ce xab (xao) (.slice ua M[0].length uk), .rw (.slice ua M[0].length uk) M[0].length 1 (icl M[0]), .rw (.slice ta x.length tk) x.length 1 (icl x), .mx (.slice za O.length zk) O, .mx (.slice (some ⟨yab, yao, none⟩) N.length yk) N, .mx (.slice (some ⟨xab, xao, none⟩) M.length xk) M] w4) := Lib.hid (E6.out.below hb)
  clear E6 hb
  go_wp2_with fail
  refine (rMValid_c q O (E7.out.fc 5 rfl) HN.out.1 ho.out).mono ?_
  rintro e w5 ⟨rfl, hb⟩
  have E8 : Hid (Env D w [(w1.heap.size, 44, [.slice (some ⟨xab, xao, none⟩) M.length xk, .slice (some ⟨yab, yao, none⟩) N.length yk, .slice za O.length zk])] [.ce yab (yao) (.slice va N[0].length vk), .rw (.slice va N[0].length vk) N[0].length 1 (icl N[0]), .ce xab (xao) (.slice ua M[0].length uk), .rw (.slice ua M[0].length uk) M[0].length 1 (icl M[0]), .rw (.slice ta x.length tk) x.length 1 (icl x), .mx (.slice za O.length zk) O, .mx (.slice (some ⟨yab, yao, none⟩) N.length yk) N, .mx (.slice (some ⟨xab, xao, none⟩) M.length xk) M] w5) := Lib.hid (E7.out.below hb)
  clear E7 hb
  have z1 := (E8.out.fc 2 rfl).2
  have z2 := (E8.out.fc 0 rfl).2
  have hfin := Lib.hid E8.out.bel
  go_wp2
  go_ret
  exact ⟨rfl, hfin.out⟩
set_option maxRecDepth 100000 in
set_option maxHeartbeats 8000000 in
theorem mg_l {D : Nat → Prop} (q m n p : Nat) (L K J : List (List Nat)) (x : List Int) {xa ya za ta : Option Addr} {xk yk zk tk : Nat} {w : World} (hx : Fct.at w D (.mx (.slice xa L.length xk) (L.map nl))) (hy : Fct.at w D (.mx (.slice ya K.length yk) (K.map nl))) (hz : Fct.at w D (.mx (.slice za J.length zk) (J.map nl))) (ht : Fct.at w D (.rw (.slice ta x.length tk) x.length 1 (icl x))) (hl0 : Laid w) (HG0 : [L.map nl, K.map nl, J.map nl].any (fun x => grM x) = false) (h1 : x.length ≤ 100) (hv0 : MvI q m L) (hu0 : MvI q n K) (ho0 : MvI q p J) (hmk0 : m = K.length) (hnj0 : n = J.length) (hs0 : x.length = n → x.all (resB (q : Int)) = false) :
    Calls Tryd.prog 9 #[.int .i64 (q : Nat), .slice xa L.length xk, .slice ya K.length yk, .slice za J.length zk, .slice ta x.length tk] w fun e w' => e = .returned (.bool true) ∧ Below w.heap.size w w' := by
  have E0 : Hid (Env D w [] [.rw (.slice ta x.length tk) x.length 1 (icl x), .mx (.slice za J.length zk) (J.map nl), .mx (.slice ya K.length yk) (K.map nl), .mx (.slice xa L.length xk) (L.map nl)] w) := Lib.hid (((((Env.start D w).arg (.mx (.slice xa L.length xk) (L.map nl)) hx).arg (.mx (.slice ya K.length yk) (K.map nl)) hy).arg (.mx (.slice za J.length zk) (J.map nl)) hz).arg (.rw (.slice ta x.length tk) x.length 1 (icl x)) ht)
  clear hx hy hz ht
  go_enter Tryd.func9, Tryd.ntmps9
  have hl := Lib.hid hl0
  have HG := Lib.hid HG0
  have hv := Lib.hid hv0
  have hu := Lib.hid hu0
  have ho := Lib.hid ho0
  have hmk := Lib.hid hmk0
  have hnj := Lib.hid hnj0
  have hs := Lib.hid hs0
  clear hl0 HG0 hv0 hu0 ho0 hmk0 hnj0 hs0
  go_wp2_with fail
  refine (awake14_c (hl.out.below E0.out.bel)).mono ?_
  rintro e w1 ⟨rfl, hb⟩
  have E1 : Hid (Env D w [] [.rw (.slice ta x.length tk) x.length 1 (icl x), .mx (.slice za J.length zk) (J.map nl), .mx (.slice ya K.length yk) (K.map nl), .mx (.slice xa L.length xk) (L.map nl)] w1) := Lib.hid (E0.out.below hb)
  clear E0 hb
  have d3 : decide ((100 : Int) < (x.length : Int)) = false := decide_eq_false (by omega)
  have d3n : decide (100 < x.length) = false := decide_eq_false (by omega)
  have z1 : 0 < L.length := hv.out.m1
  have z1I : (0 : Int) < (L.length : Int) := by omega
  have z2 : 0 < K.length := hu.out.m1
  have z2I : (0 : Int) < (K.length : Int) := by omega
  have z3 : 0 < J.length := ho.out.m1
  have z3I : (0 : Int) < (J.length : Int) := by omega
  have HL0 : Hid (L[0].length = m) := Lib.hid (hv.out.res _ (List.getElem_mem z1)).1
  have HK0 : Hid (K[0].length = n) := Lib.hid (hu.out.res _ (List.getElem_mem z2)).1
  have HJ0 : Hid (J[0].length = p) := Lib.hid (ho.out.res _ (List.getElem_mem z3)).1
  have hq1 : Hid (0 < q) := Lib.hid (by have := hv.out.q2; omega)
  have hq2 := Lib.hid hv.out.q2
  obtain ⟨X, hX⟩ : ∃ X, mulT q n L K = X := ⟨_, rfl⟩
  obtain ⟨Y, hY⟩ : ∃ Y, mulT q p K J = Y := ⟨_, rfl⟩
  obtain ⟨Z, hZ⟩ : ∃ Z, mulT q p X J = Z := ⟨_, rfl⟩
  have HX := Lib.hid hX
  have HY := Lib.hid hY
  have HZ := Lib.hid hZ
  clear hX hY hZ
  have HZ2 : Hid (mulT q p L Y = Z) := Lib.hid (by rw [← HZ.out, ← HX.out, ← HY.out]; exact (mul_assoc' hnj.out.symm).symm)
  have hXv : Hid (MvI q n X) := Lib.hid (by rw [← HX.out]; exact hv.out.mul hu.out)
  have hYv : Hid (MvI q p Y) := Lib.hid (by rw [← HY.out]; exact hu.out.mul ho.out)
  have hZv : Hid (MvI q p Z) := Lib.hid (by rw [← HZ.out]; exact hXv.out.mul ho.out)
  have HXL : Hid (L.length = X.length) := Lib.hid (by rw [← HX.out, mulL_len])
  have HYL : Hid (K.length = Y.length) := Lib.hid (by rw [← HY.out, mulL_len])
  obtain ⟨ra, hra⟩ : ∃ r, rk q m L = r := ⟨_, rfl⟩
  obtain ⟨rb, hrb⟩ : ∃ r, rk q n K = r := ⟨_, rfl⟩
  obtain ⟨rc, hrc⟩ : ∃ r, rk q n X = r := ⟨_, rfl⟩
  have HRA := Lib.hid hra
  have HRB := Lib.hid hrb
  have HRC := Lib.hid hrc
  have hrk := rk_mul (n := n) hq2.out hv.out.unit (by have h := hv.out.res; rw [hmk.out] at h; exact h) hu.out.res
  rw [HX.out, hrc, hrb, ← hmk.out, hra] at hrk
  have hrl := rk_le hq1.out hv.out.res
  rw [hra] at hrl
  clear hra hrb hrc
  obtain ⟨k1, hk1⟩ : ∃ k, k = min ra rb := ⟨_, rfl⟩
  have mn1 : min (ra : Int) (rb : Int) = (k1 : Int) := by omega
  have e1 : decide ((k1 : Int) < (rc : Int)) = false := decide_eq_false (by omega)
  have e1n : decide (k1 < rc) = false := decide_eq_false (by omega)
  obtain ⟨k2, hk2⟩ : ∃ k, k = min L.length L[0].length := ⟨_, rfl⟩
  have mn2 : min (L.length : Int) (L[0].length : Int) = (k2 : Int) := by omega
  have e2 : decide ((k2 : Int) < (ra : Int)) = false := decide_eq_false (by have := HL0.out; omega)
  have e2n : decide (k2 < ra) = false := decide_eq_false (by have := HL0.out; omega)
  clear hk1 hk2 hrk hrl
  have na : ((L[0].length : Int) != (K.length : Int)) = false := by have h1 := HL0.out; have h2 := hmk.out; rw [h1, h2]; simp
  have nb : (L[0].length != K.length) = false := by have h1 := HL0.out; have h2 := hmk.out; rw [h1, h2]; simp
  have ka : ((K[0].length : Int) != (J.length : Int)) = false := by have h1 := HK0.out; have h2 := hnj.out; rw [h1, h2]; simp
  have kb : (K[0].length != J.length) = false := by have h1 := HK0.out; have h2 := hnj.out; rw [h1, h2]; simp
  go_upto_region 3 with (fail)
  obtain ⟨xab, xao, rfl⟩ := Mx.addrN (E1.out.fc 3 rfl) z1
  obtain ⟨ua, uk, E20⟩ := E1.out.elMN 3 rfl (0) z1
  have E2 : Hid (Env D w [] [.ce xab (xao) (.slice ua L[0].length uk), .rw (.slice ua L[0].length uk) L[0].length 1 (ncl L[0]), .rw (.slice ta x.length tk) x.length 1 (icl x), .mx (.slice za J.length zk) (J.map nl), .mx (.slice ya K.length yk) (K.map nl), .mx (.slice (some ⟨xab, xao, none⟩) L.length xk) (L.map nl)] _) := Lib.hid E20
  clear E20 E1
  have u0 := (E2.out.fc 0 rfl).2
  obtain ⟨yab, yao, rfl⟩ := Mx.addrN (E2.out.fc 4 rfl) z2
  obtain ⟨va, vk, E30⟩ := E2.out.elMN 4 rfl (0) z2
  have E3 : Hid (Env D w [] [.ce yab (yao) (.slice va K[0].length vk), .rw (.slice va K[0].length vk) K[0].length 1 (ncl K[0]), .ce xab (xao) (.slice ua L[0].length uk), .rw (.slice ua L[0].length uk) L[0].length 1 (ncl L[0]), .rw (.slice ta x.length tk) x.length 1 (icl x), .mx (.slice za J.length zk) (J.map nl), .mx (.slice (some ⟨yab, yao, none⟩) K.length yk) (K.map nl), .mx (.slice (some ⟨xab, xao, none⟩) L.length xk) (L.map nl)] _) := Lib.hid E30
  clear E30 E2
  have v0 := (E3.out.fc 0 rfl).2
  have E4 : Hid (Env D w [(w1.heap.size, 44, [.slice (some ⟨xab, xao, none⟩) L.length xk, .slice (some ⟨yab, yao, none⟩) K.length yk, .slice za J.length zk])] [.ce yab (yao) (.slice va K[0].length vk), .rw (.slice va K[0].length vk) K[0].length 1 (ncl K[0]), .ce xab (xao) (.slice ua L[0].length uk), .rw (.slice ua L[0].length uk) L[0].length 1 (ncl L[0]), .rw (.slice ta x.length tk) x.length 1 (icl x), .mx (.slice za J.length zk) (J.map nl), .mx (.slice (some ⟨yab, yao, none⟩) K.length yk) (K.map nl), .mx (.slice (some ⟨xab, xao, none⟩) L.length xk) (L.map nl)] _) := Lib.hid ((E3.out.push 44 [.slice (some ⟨xab, xao, none⟩) L.length xk, .slice (some ⟨yab, yao, none⟩) K.length yk, .slice za J.length zk] (w1.heap.size) (by simp)))
  go_wp2_with fail
  refine (great14_c (t := false) [L.map nl, K.map nl, J.map nl] (xb := w1.heap.size) (xo := 0) (xk := 3) (gMats.three (by simp) (by simp) (by simp) (E4.out.bx 0 rfl) (E4.out.fc 7 rfl) (E4.out.fc 6 rfl) (E4.out.fc 5 rfl)) HG.out (by simp)).mono ?_
  rintro e w2 ⟨rfl, hb⟩
  have E5 : Hid (Env D w [(w1.heap.size, 44, [.slice (some ⟨xab, xao, none⟩) L.length xk, .slice (some ⟨yab, yao, none⟩) K.length yk, .slice za J.length zk])] [.ce yab (yao) (.slice va K[0].length vk), .rw (.slice va K[0].length vk) K[0].length 1 (ncl K[0]), .ce xab (xao) (.slice ua L[0].length uk), .rw (.slice ua L[0].length uk) L[0].length 1 (ncl L[0]), .rw (.slice ta x.length tk) x.length 1 (icl x), .mx (.slice za J.length zk) (J.map nl), .mx (.slice (some ⟨yab, yao, none⟩) K.length yk) (K.map nl), .mx (.slice (some ⟨xab, xao, none⟩) L.length xk) (L.map nl)] w2) := Lib.hid (E4.out.below hb)
  clear u0 v0 E3 E4 hb
  go_wp2_with fail
  refine (rMValidN (E5.out.fc 7 rfl) hv.out).mono ?_
  rintro e w3 ⟨rfl, hb⟩
  have E6 : Hid (Env D w [(w1.heap.size, 44, [.slice (some ⟨xab, xao, none⟩) L.length xk, .slice (some ⟨yab, yao, none⟩) K.length yk, .slice za J.length zk])] [.ce yab (yao) (.slice va K[0].length vk), .rw (.slice va K[0].length vk) K[0].length 1 (ncl K[0]), .ce xab (xao) (.slice ua L[0].length uk), .rw (.slice ua L[0].length uk) L[0].length 1 (ncl L[0]), .rw (.slice ta x.length tk) x.length 1 (icl x), .mx (.slice za J.length zk) (J.map nl), .mx (.slice (some ⟨yab, yao, none⟩) K.length yk) (K.map nl), .mx (.slice (some ⟨xab, xao, none⟩) L.length xk) (L.map nl)] w3) := Lib.hid (E5.out.below hb)
  clear E5 hb
  go_wp2_with fail
  refine (rMValidN (E6.out.fc 6 rfl) hu.out).mono ?_
  rintro e w4 ⟨rfl, hb⟩
  have E7 : Hid (Env D w [(w1.heap.size, 44, [.slice (some ⟨xab, xao, none⟩) L.length xk, .slice (some ⟨yab, yao, none⟩) K.length yk, .slice za J.length zk])] [.ce yab (yao) (.slice va K[0].length vk), .rw (.slice va K[0].length vk) K[0].length 1 (ncl K[0]), .ce xab (xao) (.slice ua L[0].length uk), .rw (.slice ua L[0].length uk) L[0].length 1 (ncl L[0]), .rw (.slice ta x.length tk) x.length 1 (icl x), .mx (.slice za J.length zk) (J.map nl), .mx (.slice (some ⟨yab, yao, none⟩) K.length yk) (K.map nl), .mx (.slice (some ⟨xab, xao, none⟩) L.length xk) (L.map nl)] w4) := Lib.hid (E6.out.below hb)
  clear E6 hb
  go_wp2_with fail
  refine (rMValidN (E7.out.fc 5 rfl) ho.out).mono ?_
  rintro e w5 ⟨rfl, hb⟩
  have E8 : Hid (Env D w [(w1.heap.size, 44, [.slice (some ⟨xab, xao, none⟩) L.length xk, .slice (some ⟨yab, yao, none⟩) K.length yk, .slice za J.length zk])] [.ce yab (yao) (.slice va K[0].length vk), .rw (.slice va K[0].length vk) K[0].length 1 (ncl K[0]), .ce xab (xao) (.slice ua L[0].length uk), .rw (.slice ua L[0].length uk) L[0].length 1 (ncl L[0]), .rw (.slice ta x.length tk) x.length 1 (icl x), .mx (.slice za J.length zk) (J.map nl), .mx (.slice (some ⟨yab, yao, none⟩) K.length yk) (K.map nl), .mx (.slice (some ⟨xab, xao, none⟩) L.length xk) (L.map nl)] w5) := Lib.hid (E7.out.below hb)
  clear E7 hb
  have z1 := (E8.out.fc 2 rfl).2
  have z2 := (E8.out.fc 0 rfl).2
  go_wp2_with fail
  refine (Mul_r (E8.out.fc 7 rfl) (E8.out.fc 6 rfl) (hl.out.below E8.out.bel) hv.out hu.out hmk.out HX.out).mono ?_
  rintro e w6 ⟨⟨pXa, pXk, rfl, pXh⟩, hb⟩
  have E9 : Hid (Env D w [(w1.heap.size, 44, [.slice (some ⟨xab, xao, none⟩) L.length xk, .slice (some ⟨yab, yao, none⟩) K.length yk, .slice za J.length zk])] [.mx (.slice pXa X.length pXk) (X.map nl), .ce yab (yao) (.slice va K[0].length vk), .rw (.slice va K[0].length vk) K[0].length 1 (ncl K[0]), .ce xab (xao) (.slice ua L[0].length uk), .rw (.slice ua L[0].length uk) L[0].length 1 (ncl L[0]), .rw (.slice ta x.length tk) x.length 1 (icl x), .mx (.slice za J.length zk) (J.map nl), .mx (.slice (some ⟨yab, yao, none⟩) K.length yk) (K.map nl), .mx (.slice (some ⟨xab, xao, none⟩) L.length xk) (L.map nl)] w6) := Lib.hid (E8.out.got (E8.out.below hb) (.mx (.slice pXa X.length pXk) (X.map nl)) pXh.out)
  clear z1 z2 E8 hb pXh
  go_wp2_with fail
  refine (Mul_r (E9.out.fc 7 rfl) (E9.out.fc 6 rfl) (hl.out.below E9.out.bel) hu.out ho.out hnj.out HY.out).mono ?_
  rintro e w7 ⟨⟨pYa, pYk, rfl, pYh⟩, hb⟩
  have E10 : Hid (Env D w [(w1.heap.size, 44, [.slice (some ⟨xab, xao, none⟩) L.length xk, .slice (some ⟨yab, yao, none⟩) K.length yk, .slice za J.length zk])] [.mx (.slice pYa Y.length pYk) (Y.map nl), .mx (.slice pXa X.length pXk) (X.map nl), .ce yab (yao) (.slice va K[0].length vk), .rw (.slice va K[0].length vk) K[0].length 1 (ncl K[0]), .ce xab (xao) (.slice ua L[0].length uk), .rw (.slice ua L[0].length uk) L[0].length 1 (ncl L[0]), .rw (.slice ta x.length tk) x.length 1 (icl x), .mx (.slice za J.length zk) (J.map nl), .mx (.slice (some ⟨yab, yao, none⟩) K.length yk) (K.map nl), .mx (.slice (some ⟨xab, xao, none⟩) L.length xk) (L.map nl)] w7) := Lib.hid (E9.out.got (E9.out.below hb) (.mx (.slice pYa Y.length pYk) (Y.map nl)) pYh.out)
  clear E9 hb pYh
  go_upto_region 7 with (fail)
  obtain ⟨v7a, v7k, E110⟩ := E10.out.elMN 8 rfl (0) z2
  have E11 : Hid (Env D w [(w1.heap.size, 44, [.slice (some ⟨xab, xao, none⟩) L.length xk, .slice (some ⟨yab, yao, none⟩) K.length yk, .slice za J.length zk])] [.ce yab (yao) (.slice v7a K[0].length v7k), .rw (.slice v7a K[0].length v7k) K[0].length 1 (ncl K[0]), .mx (.slice pYa Y.length pYk) (Y.map nl), .mx (.slice pXa X.length pXk) (X.map nl), .ce yab (yao) (.slice va K[0].length vk), .rw (.slice va K[0].length vk) K[0].length 1 (ncl K[0]), .ce xab (xao) (.slice ua L[0].length uk), .rw (.slice ua L[0].length uk) L[0].length 1 (ncl L[0]), .rw (.slice ta x.length tk) x.length 1 (icl x), .mx (.slice za J.length zk) (J.map nl), .mx (.slice (some ⟨yab, yao, none⟩) K.length yk) (K.map nl), .mx (.slice (some ⟨xab, xao, none⟩) L.length xk) (L.map nl)] _) := Lib.hid E110
  clear E110 E10
  have v70 := (E11.out.fc 0 rfl).2
  obtain ⟨zab, zao, rfl⟩ := Mx.addrN (E11.out.fc 9 rfl) z3
  obtain ⟨w7a, w7k, E120⟩ := E11.out.elMN 9 rfl (0) z3
  have E12 : Hid (Env D w [(w1.heap.size, 44, [.slice (some ⟨xab, xao, none⟩) L.length xk, .slice (some ⟨yab, yao, none⟩) K.length yk, .slice (some ⟨zab, zao, none⟩) J.length zk])] [.ce zab (zao) (.slice w7a J[0].length w7k), .rw (.slice w7a J[0].length w7k) J[0].length 1 (ncl J[0]), .ce yab (yao) (.slice v7a K[0].length v7k), .rw (.slice v7a K[0].length v7k) K[0].length 1 (ncl K[0]), .mx (.slice pYa Y.length pYk) (Y.map nl), .mx (.slice pXa X.length pXk) (X.map nl), .ce yab (yao) (.slice va K[0].length vk), .rw (.slice va K[0].length vk) K[0].length 1 (ncl K[0]), .ce xab (xao) (.slice ua L[0].length uk), .rw (.slice ua L[0].length uk) L[0].length 1 (ncl L[0]), .rw (.slice ta x.length tk) x.length 1 (icl x), .mx (.slice (some ⟨zab, zao, none⟩) J.length zk) (J.map nl), .mx (.slice (some ⟨yab, yao, none⟩) K.length yk) (K.map nl), .mx (.slice (some ⟨xab, xao, none⟩) L.length xk) (L.map nl)] _) := Lib.hid E120
  clear E120 E11
  have w70 := (E12.out.fc 0 rfl).2
  have z3 := (E12.out.fc 2 rfl).2
  go_wp2_with fail
  refine (shaped_ok q n L.length K[0].length X (E12.out.fc 5 rfl) HXL.out HK0.out hXv.out.res (Nat.le_trans hXv.out.m30 (by omega)) (Nat.le_trans hu.out.n30 (by omega))).mono ?_
  rintro e w8 ⟨rfl, hb⟩
  have E13 : Hid (Env D w [(w1.heap.size, 44, [.slice (some ⟨xab, xao, none⟩) L.length xk, .slice (some ⟨yab, yao, none⟩) K.length yk, .slice (some ⟨zab, zao, none⟩) J.length zk])] [.ce zab (zao) (.slice w7a J[0].length w7k), .rw (.slice w7a J[0].length w7k) J[0].length 1 (ncl J[0]), .ce yab (yao) (.slice v7a K[0].length v7k), .rw (.slice v7a K[0].length v7k) K[0].length 1 (ncl K[0]), .mx (.slice pYa Y.length pYk) (Y.map nl), .mx (.slice pXa X.length pXk) (X.map nl), .ce yab (yao) (.slice va K[0].length vk), .rw (.slice va K[0].length vk) K[0].length 1 (ncl K[0]), .ce xab (xao) (.slice ua L[0].length uk), .rw (.slice ua L[0].length uk) L[0].length 1 (ncl L[0]), .rw (.slice ta x.length tk) x.length 1 (icl x), .mx (.slice (some ⟨zab, zao, none⟩) J.length zk) (J.map nl), .mx (.slice (some ⟨yab, yao, none⟩) K.length yk) (K.map nl), .mx (.slice (some ⟨xab, xao, none⟩) L.length xk) (L.map nl)] w8) := Lib.hid (E12.out.below hb)
  clear v70 w70 z3 E12 hb
  have z4 := (E13.out.fc 0 rfl).2
  go_wp2_with fail
  refine (shaped_ok q p K.length J[0].length Y (E13.out.fc 4 rfl) HYL.out HJ0.out hYv.out.res (Nat.le_trans hYv.out.m30 (by omega)) (Nat.le_trans ho.out.n30 (by omega))).mono ?_
  rintro e w9 ⟨rfl, hb⟩
  have E14 : Hid (Env D w [(w1.heap.size, 44, [.slice (some ⟨xab, xao, none⟩) L.length xk, .slice (some ⟨yab, yao, none⟩) K.length yk, .slice (some ⟨zab, zao, none⟩) J.length zk])] [.ce zab (zao) (.slice w7a J[0].length w7k), .rw (.slice w7a J[0].length w7k) J[0].length 1 (ncl J[0]), .ce yab (yao) (.slice v7a K[0].length v7k), .rw (.slice v7a K[0].length v7k) K[0].length 1 (ncl K[0]), .mx (.slice pYa Y.length pYk) (Y.map nl), .mx (.slice pXa X.length pXk) (X.map nl), .ce yab (yao) (.slice va K[0].length vk), .rw (.slice va K[0].length vk) K[0].length 1 (ncl K[0]), .ce xab (xao) (.slice ua L[0].length uk), .rw (.slice ua L[0].length uk) L[0].length 1 (ncl L[0]), .rw (.slice ta x.length tk) x.length 1 (icl x), .mx (.slice (some ⟨zab, zao, none⟩) J.length zk) (J.map nl), .mx (.slice (some ⟨yab, yao, none⟩) K.length yk) (K.map nl), .mx (.slice (some ⟨xab, xao, none⟩) L.length xk) (L.map nl)] w9) := Lib.hid (E13.out.below hb)
  clear z4 E13 hb
  go_wp2_with fail
  refine (Mul_r (E14.out.fc 5 rfl) (E14.out.fc 11 rfl) (hl.out.below E14.out.bel) hXv.out ho.out hnj.out HZ.out).mono ?_
  rintro e w10 ⟨⟨pZa, pZk, rfl, pZh⟩, hb⟩
  have E15 : Hid (Env D w [(w1.heap.size, 44, [.slice (some ⟨xab, xao, none⟩) L.length xk, .slice (some ⟨yab, yao, none⟩) K.length yk, .slice (some ⟨zab, zao, none⟩) J.length zk])] [.mx (.slice pZa Z.length pZk) (Z.map nl), .ce zab (zao) (.slice w7a J[0].length w7k), .rw (.slice w7a J[0].length w7k) J[0].length 1 (ncl J[0]), .ce yab (yao) (.slice v7a K[0].length v7k), .rw (.slice v7a K[0].length v7k) K[0].length 1 (ncl K[0]), .mx (.slice pYa Y.length pYk) (Y.map nl), .mx (.slice pXa X.length pXk) (X.map nl), .ce yab (yao) (.slice va K[0].length vk), .rw (.slice va K[0].length vk) K[0].length 1 (ncl K[0]), .ce xab (xao) (.slice ua L[0].length uk), .rw (.slice ua L[0].length uk) L[0].length 1 (ncl L[0]), .rw (.slice ta x.length tk) x.length 1 (icl x), .mx (.slice (some ⟨zab, zao, none⟩) J.length zk) (J.map nl), .mx (.slice (some ⟨yab, yao, none⟩) K.length yk) (K.map nl), .mx (.slice (some ⟨xab, xao, none⟩) L.length xk) (L.map nl)] w10) := Lib.hid (E14.out.got (E14.out.below hb) (.mx (.slice pZa Z.length pZk) (Z.map nl)) pZh.out)
  clear E14 hb pZh
  go_wp2_with fail
  refine (Mul_r (E15.out.fc 14 rfl) (E15.out.fc 5 rfl) (hl.out.below E15.out.bel) hv.out hYv.out (by rw [hmk.out]; exact HYL.out) HZ2.out).mono ?_
  rintro e w11 ⟨⟨pWa, pWk, rfl, pWh⟩, hb⟩
  have E16 : Hid (Env D w [(w1.heap.size, 44, [.slice (some ⟨xab, xao, none⟩) L.length xk, .slice (some ⟨yab, yao, none⟩) K.length yk, .slice (some ⟨zab, zao, none⟩) J.length zk])] [.mx (.slice pWa Z.length pWk) (Z.map nl), .mx (.slice pZa Z.length pZk) (Z.map nl), .ce zab (zao) (.slice w7a J[0].length w7k), .rw (.slice w7a J[0].length w7k) J[0].length 1 (ncl J[0]), .ce yab (yao) (.slice v7a K[0].length v7k), .rw (.slice v7a K[0].length v7k) K[0].length 1 (ncl K[0]), .mx (.slice pYa Y.length pYk) (Y.map nl), .mx (.slice pXa X.length pXk) (X.map nl), .ce yab (yao) (.slice va K[0].length vk), .rw (.slice va K[0].length vk) K[0].length 1 (ncl K[0]), .ce xab (xao) (.slice ua L[0].length uk), .rw (.slice ua L[0].length uk) L[0].length 1 (ncl L[0]), .rw (.slice ta x.length tk) x.length 1 (icl x), .mx (.slice (some ⟨zab, zao, none⟩) J.length zk) (J.map nl), .mx (.slice (some ⟨yab, yao, none⟩) K.length yk) (K.map nl), .mx (.slice (some ⟨xab, xao, none⟩) L.length xk) (L.map nl)] w11) := Lib.hid (E15.out.got (E15.out.below hb) (.mx (.slice pWa Z.length pWk) (Z.map nl)) pWh.out)
  clear E15 hb pWh
  go_wp2_with fail
  refine (Same_r (E16.out.fc 1 rfl) (E16.out.fc 0 rfl) hZv.out.res (Nat.le_trans hZv.out.m30 (by omega)) (Nat.le_trans ho.out.n30 (by omega))).mono ?_
  rintro e w12 ⟨rfl, hb⟩
  have E17 : Hid (Env D w [(w1.heap.size, 44, [.slice (some ⟨xab, xao, none⟩) L.length xk, .slice (some ⟨yab, yao, none⟩) K.length yk, .slice (some ⟨zab, zao, none⟩) J.length zk])] [.mx (.slice pWa Z.length pWk) (Z.map nl), .mx (.slice pZa Z.length pZk) (Z.map nl), .ce zab (zao) (.slice w7a J[0].length w7k), .rw (.slice w7a J[0].length w7k) J[0].length 1 (ncl J[0]), .ce yab (yao) (.slice v7a K[0].length v7k), .rw (.slice v7a K[0].length v7k) K[0].length 1 (ncl K[0]), .mx (.slice pYa Y.length pYk) (Y.map nl), .mx (.slice pXa X.length pXk) (X.map nl), .ce yab (yao) (.slice va K[0].length vk), .rw (.slice va K[0].length vk) K[0].length 1 (ncl K[0]), .ce xab (xao) (.slice ua L[0].length uk), .rw (.slice ua L[0].length uk) L[0].length 1 (ncl L[0]), .rw (.slice ta x.length tk) x.length 1 (icl x), .mx (.slice (some ⟨zab, zao, none⟩) J.length zk) (J.map nl), .mx (.slice (some ⟨yab, yao, none⟩) K.length yk) (K.map nl), .mx (.slice (some ⟨xab, xao, none⟩) L.length xk) (L.map nl)] w12) := Lib.hid (E16.out.below hb)
  clear E16 hb
  go_wp2_with fail
  refine (Rank_r (E17.out.fc 15 rfl) (hl.out.below E17.out.bel) hv.out HRA.out).mono ?_
  rintro e w13 ⟨rfl, hb⟩
  have E18 : Hid (Env D w [(w1.heap.size, 44, [.slice (some ⟨xab, xao, none⟩) L.length xk, .slice (some ⟨yab, yao, none⟩) K.length yk, .slice (some ⟨zab, zao, none⟩) J.length zk])] [.mx (.slice pWa Z.length pWk) (Z.map nl), .mx (.slice pZa Z.length pZk) (Z.map nl), .ce zab (zao) (.slice w7a J[0].length w7k), .rw (.slice w7a J[0].length w7k) J[0].length 1 (ncl J[0]), .ce yab (yao) (.slice v7a K[0].length v7k), .rw (.slice v7a K[0].length v7k) K[0].length 1 (ncl K[0]), .mx (.slice pYa Y.length pYk) (Y.map nl), .mx (.slice pXa X.length pXk) (X.map nl), .ce yab (yao) (.slice va K[0].length vk), .rw (.slice va K[0].length vk) K[0].length 1 (ncl K[0]), .ce xab (xao) (.slice ua L[0].length uk), .rw (.slice ua L[0].length uk) L[0].length 1 (ncl L[0]), .rw (.slice ta x.length tk) x.length 1 (icl x), .mx (.slice (some ⟨zab, zao, none⟩) J.length zk) (J.map nl), .mx (.slice (some ⟨yab, yao, none⟩) K.length yk) (K.map nl), .mx (.slice (some ⟨xab, xao, none⟩) L.length xk) (L.map nl)] w13) := Lib.hid (E17.out.below hb)
  clear E17 hb
  go_wp2_with fail
  refine (Rank_r (E18.out.fc 14 rfl) (hl.out.below E18.out.bel) hu.out HRB.out).mono ?_
  rintro e w14 ⟨rfl, hb⟩
  have E19 : Hid (Env D w [(w1.heap.size, 44, [.slice (some ⟨xab, xao, none⟩) L.length xk, .slice (some ⟨yab, yao, none⟩) K.length yk, .slice (some ⟨zab, zao, none⟩) J.length zk])] [.mx (.slice pWa Z.length pWk) (Z.map nl), .mx (.slice pZa Z.length pZk) (Z.map nl), .ce zab (zao) (.slice w7a J[0].length w7k), .rw (.slice w7a J[0].length w7k) J[0].length 1 (ncl J[0]), .ce yab (yao) (.slice v7a K[0].length v7k), .rw (.slice v7a K[0].length v7k) K[0].length 1 (ncl K[0]), .mx (.slice pYa Y.length pYk) (Y.map nl), .mx (.slice pXa X.length pXk) (X.map nl), .ce yab (yao) (.slice va K[0].length vk), .rw (.slice va K[0].length vk) K[0].length 1 (ncl K[0]), .ce xab (xao) (.slice ua L[0].length uk), .rw (.slice ua L[0].length uk) L[0].length 1 (ncl L[0]), .rw (.slice ta x.length tk) x.length 1 (icl x), .mx (.slice (some ⟨zab, zao, none⟩) J.length zk) (J.map nl), .mx (.slice (some ⟨yab, yao, none⟩) K.length yk) (K.map nl), .mx (.slice (some ⟨xab, xao, none⟩) L.length xk) (L.map nl)] w14) := Lib.hid (E18.out.below hb)
  clear E18 hb
  go_wp2_with fail
  refine (Rank_r (E19.out.fc 7 rfl) (hl.out.below E19.out.bel) hXv.out HRC.out).mono ?_
  rintro e w15 ⟨rfl, hb⟩
  have E20 : Hid (Env D w [(w1.heap.size, 44, [.slice (some ⟨xab, xao, none⟩) L.length xk, .slice (some ⟨yab, yao, none⟩) K.length yk, .slice (some ⟨zab, zao, none⟩) J.length zk])] [.mx (.slice pWa Z.length pWk) (Z.map nl), .mx (.slice pZa Z.length pZk) (Z.map nl), .ce zab (zao) (.slice w7a J[0].length w7k), .rw (.slice w7a J[0].length w7k) J[0].length 1 (ncl J[0]), .ce yab (yao) (.slice v7a K[0].length v7k), .rw (.slice v7a K[0].length v7k) K[0].length 1 (ncl K[0]), .mx (.slice pYa Y.length pYk) (Y.map nl), .mx (.slice pXa X.length pXk) (X.map nl), .ce yab (yao) (.slice va K[0].length vk), .rw (.slice va K[0].length vk) K[0].length 1 (ncl K[0]), .ce xab (xao) (.slice ua L[0].length uk), .rw (.slice ua L[0].length uk) L[0].length 1 (ncl L[0]), .rw (.slice ta x.length tk) x.length 1 (icl x), .mx (.slice (some ⟨zab, zao, none⟩) J.length zk) (J.map nl), .mx (.slice (some ⟨yab, yao, none⟩) K.length yk) (K.map nl), .mx (.slice (some ⟨xab, xao, none⟩) L.length xk) (L.map nl)] w15) := Lib.hid (E19.out.below hb)
  clear E19 hb
  go_upto_region 16 with (fail)
  obtain ⟨u6a, u6k, E210⟩ := E20.out.elMN 15 rfl (0) z1
  have E21 : Hid (Env D w [(w1.heap.size, 44, [.slice (some ⟨xab, xao, none⟩) L.length xk, .slice (some ⟨yab, yao, none⟩) K.length yk, .slice (some ⟨zab, zao, none⟩) J.length zk])] [.ce xab (xao) (.slice u6a L[0].length u6k), .rw (.slice u6a L[0].length u6k) L[0].length 1 (ncl L[0]), .mx (.slice pWa Z.length pWk) (Z.map nl), .mx (.slice pZa Z.length pZk) (Z.map nl), .ce zab (zao) (.slice w7a J[0].length w7k), .rw (.slice w7a J[0].length w7k) J[0].length 1 (ncl J[0]), .ce yab (yao) (.slice v7a K[0].length v7k), .rw (.slice v7a K[0].length v7k) K[0].length 1 (ncl K[0]), .mx (.slice pYa Y.length pYk) (Y.map nl), .mx (.slice pXa X.length pXk) (X.map nl), .ce yab (yao) (.slice va K[0].length vk), .rw (.slice va K[0].length vk) K[0].length 1 (ncl K[0]), .ce xab (xao) (.slice ua L[0].length uk), .rw (.slice ua L[0].length uk) L[0].length 1 (ncl L[0]), .rw (.slice ta x.length tk) x.length 1 (icl x), .mx (.slice (some ⟨zab, zao, none⟩) J.length zk) (J.map nl), .mx (.slice (some ⟨yab, yao, none⟩) K.length yk) (K.map nl), .mx (.slice (some ⟨xab, xao, none⟩) L.length xk) (L.map nl)] _) := Lib.hid E210
  clear E210 E20
  have u60 := (E21.out.fc 0 rfl).2
  go_upto_region 18 with (fail)
  obtain ⟨v8a, v8k, E220⟩ := E21.out.elMN 16 rfl (0) z2
  have E22 : Hid (Env D w [(w1.heap.size, 44, [.slice (some ⟨xab, xao, none⟩) L.length xk, .slice (some ⟨yab, yao, none⟩) K.length yk, .slice (some ⟨zab, zao, none⟩) J.length zk])] [.ce yab (yao) (.slice v8a K[0].length v8k), .rw (.slice v8a K[0].length v8k) K[0].length 1 (ncl K[0]), .ce xab (xao) (.slice u6a L[0].length u6k), .rw (.slice u6a L[0].length u6k) L[0].length 1 (ncl L[0]), .mx (.slice pWa Z.length pWk) (Z.map nl), .mx (.slice pZa Z.length pZk) (Z.map nl), .ce zab (zao) (.slice w7a J[0].length w7k), .rw (.slice w7a J[0].length w7k) J[0].length 1 (ncl J[0]), .ce yab (yao) (.slice v7a K[0].length v7k), .rw (.slice v7a K[0].length v7k) K[0].length 1 (ncl K[0]), .mx (.slice pYa Y.length pYk) (Y.map nl), .mx (.slice pXa X.length pXk) (X.map nl), .ce yab (yao) (.slice va K[0].length vk), .rw (.slice va K[0].length vk) K[0].length 1 (ncl K[0]), .ce xab (xao) (.slice ua L[0].length uk), .rw (.slice ua L[0].length uk) L[0].length 1 (ncl L[0]), .rw (.slice ta x.length tk) x.length 1 (icl x), .mx (.slice (some ⟨zab, zao, none⟩) J.length zk) (J.map nl), .mx (.slice (some ⟨yab, yao, none⟩) K.length yk) (K.map nl), .mx (.slice (some ⟨xab, xao, none⟩) L.length xk) (L.map nl)] _) := Lib.hid E220
  clear E220 E21
  have v80 := (E22.out.fc 0 rfl).2
  by_cases hsn : x.length = n
  · have HSN := Lib.hid hsn
    clear hsn
    have ga : ((x.length : Int) != (K[0].length : Int)) = false := by have h1 := HK0.out; have h2 := HSN.out; rw [h1, h2]; simp
    have gb : (x.length != K[0].length) = false := by have h1 := HK0.out; have h2 := HSN.out; rw [h1, h2]; simp
    go_wp2_with fail
    refine (rVector_c (q : Int) x (E22.out.fc 16 rfl) (hs.out HSN.out) (by omega)).mono ?_
    rintro e w16 ⟨rfl, hb⟩
    have E23 : Hid (Env D w [(w1.heap.size, 44, [.slice (some ⟨xab, xao, none⟩) L.length xk, .slice (some ⟨yab, yao, none⟩) K.length yk, .slice (some ⟨zab, zao, none⟩) J.length zk])] [.ce yab (yao) (.slice v8a K[0].length v8k), .rw (.slice v8a K[0].length v8k) K[0].length 1 (ncl K[0]), .ce xab (xao) (.slice u6a L[0].length u6k), .rw (.slice u6a L[0].length u6k) L[0].length 1 (ncl L[0]), .mx (.slice pWa Z.length pWk) (Z.map nl), .mx (.slice pZa Z.length pZk) (Z.map nl), .ce zab (zao) (.slice w7a J[0].length w7k), .rw (.slice w7a J[0].length w7k) J[0].length 1 (ncl J[0]), .ce yab (yao) (.slice v7a K[0].length v7k), .rw (.slice v7a K[0].length v7k) K[0].length 1 (ncl K[0]), .mx (.slice pYa Y.length pYk) (Y.map nl), .mx (.slice pXa X.length pXk) (X.map nl), .ce yab (yao) (.slice va K[0].length vk), .rw (.slice va K[0].length vk) K[0].length 1 (ncl K[0]), .ce xab (xao) (.slice ua L[0].length uk), .rw (.slice ua L[0].length uk) L[0].length 1 (ncl L[0]), .rw (.slice ta x.length tk) x.length 1 (icl x), .mx (.slice (some ⟨zab, zao, none⟩) J.length zk) (J.map nl), .mx (.slice (some ⟨yab, yao, none⟩) K.length yk) (K.map nl), .mx (.slice (some ⟨xab, xao, none⟩) L.length xk) (L.map nl)] w16) := Lib.hid (E22.out.below hb)
    clear u60 v80 E22 hb
    have hfin := Lib.hid E23.out.bel
    go_wp2
    go_ret
    exact ⟨rfl, hfin.out⟩
  · have HSN := Lib.hid hsn
    clear hsn
    have ga : ((x.length : Int) != (K[0].length : Int)) = true := by have h1 := HK0.out; have h2 := HSN.out; rw [bne_iff_ne]; omega
    have gb : (x.length != K[0].length) = true := by have h1 := HK0.out; have h2 := HSN.out; rw [bne_iff_ne]; omega
    have hfin := Lib.hid E22.out.bel
    go_wp2
    go_ret
    exact ⟨rfl, hfin.out⟩
set_option maxRecDepth 100000 in
set_option maxHeartbeats 8000000 in
theorem mg_k {D : Nat → Prop} (q m n p : Nat) (L K J : List (List Nat)) (x : List Nat) {xa ya za ta : Option Addr} {xk yk zk tk : Nat} {w : World} (hx : Fct.at w D (.mx (.slice xa L.length xk) (L.map nl))) (hy : Fct.at w D (.mx (.slice ya K.length yk) (K.map nl))) (hz : Fct.at w D (.mx (.slice za J.length zk) (J.map nl))) (ht : Fct.at w D (.rw (.slice ta x.length tk) x.length 1 (ncl x))) (hl0 : Laid w) (HG0 : [L.map nl, K.map nl, J.map nl].any (fun x => grM x) = false) (h1 : x.length ≤ 100) (hv0 : MvI q m L) (hu0 : MvI q n K) (ho0 : MvI q p J) (hmk0 : m = K.length) (hnj0 : n = J.length) (hs0 : x.length = n) (hr0 : ∀ c ∈ x, c < q) :
    Calls Tryd.prog 9 #[.int .i64 (q : Nat), .slice xa L.length xk, .slice ya K.length yk, .slice za J.length zk, .slice ta x.length tk] w fun e w' => e = .returned (.bool true) ∧ Below w.heap.size w w' := by
  have E0 : Hid (Env D w [] [.rw (.slice ta x.length tk) x.length 1 (ncl x), .mx (.slice za J.length zk) (J.map nl), .mx (.slice ya K.length yk) (K.map nl), .mx (.slice xa L.length xk) (L.map nl)] w) := Lib.hid (((((Env.start D w).arg (.mx (.slice xa L.length xk) (L.map nl)) hx).arg (.mx (.slice ya K.length yk) (K.map nl)) hy).arg (.mx (.slice za J.length zk) (J.map nl)) hz).arg (.rw (.slice ta x.length tk) x.length 1 (ncl x)) ht)
  clear hx hy hz ht
  go_enter Tryd.func9, Tryd.ntmps9
  have hl := Lib.hid hl0
  have HG := Lib.hid HG0
  have hv := Lib.hid hv0
  have hu := Lib.hid hu0
  have ho := Lib.hid ho0
  have hmk := Lib.hid hmk0
  have hnj := Lib.hid hnj0
  have hs := Lib.hid hs0
  have hr := Lib.hid hr0
  clear hl0 HG0 hv0 hu0 ho0 hmk0 hnj0 hs0 hr0
  go_wp2_with fail
  refine (awake14_c (hl.out.below E0.out.bel)).mono ?_
  rintro e w1 ⟨rfl, hb⟩
  have E1 : Hid (Env D w [] [.rw (.slice ta x.length tk) x.length 1 (ncl x), .mx (.slice za J.length zk) (J.map nl), .mx (.slice ya K.length yk) (K.map nl), .mx (.slice xa L.length xk) (L.map nl)] w1) := Lib.hid (E0.out.below hb)
  clear E0 hb
  have d3 : decide ((100 : Int) < (x.length : Int)) = false := decide_eq_false (by omega)
  have d3n : decide (100 < x.length) = false := decide_eq_false (by omega)
  have z1 : 0 < L.length := hv.out.m1
  have z1I : (0 : Int) < (L.length : Int) := by omega
  have z2 : 0 < K.length := hu.out.m1
  have z2I : (0 : Int) < (K.length : Int) := by omega
  have z3 : 0 < J.length := ho.out.m1
  have z3I : (0 : Int) < (J.length : Int) := by omega
  have HL0 : Hid (L[0].length = m) := Lib.hid (hv.out.res _ (List.getElem_mem z1)).1
  have HK0 : Hid (K[0].length = n) := Lib.hid (hu.out.res _ (List.getElem_mem z2)).1
  have HJ0 : Hid (J[0].length = p) := Lib.hid (ho.out.res _ (List.getElem_mem z3)).1
  have hq1 : Hid (0 < q) := Lib.hid (by have := hv.out.q2; omega)
  have hq2 := Lib.hid hv.out.q2
  obtain ⟨X, hX⟩ : ∃ X, mulT q n L K = X := ⟨_, rfl⟩
  obtain ⟨Y, hY⟩ : ∃ Y, mulT q p K J = Y := ⟨_, rfl⟩
  obtain ⟨Z, hZ⟩ : ∃ Z, mulT q p X J = Z := ⟨_, rfl⟩
  have HX := Lib.hid hX
  have HY := Lib.hid hY
  have HZ := Lib.hid hZ
  clear hX hY hZ
  have HZ2 : Hid (mulT q p L Y = Z) := Lib.hid (by rw [← HZ.out, ← HX.out, ← HY.out]; exact (mul_assoc' hnj.out.symm).symm)
  have hXv : Hid (MvI q n X) := Lib.hid (by rw [← HX.out]; exact hv.out.mul hu.out)
  have hYv : Hid (MvI q p Y) := Lib.hid (by rw [← HY.out]; exact hu.out.mul ho.out)
  have hZv : Hid (MvI q p Z) := Lib.hid (by rw [← HZ.out]; exact hXv.out.mul ho.out)
  have HXL : Hid (L.length = X.length) := Lib.hid (by rw [← HX.out, mulL_len])
  have HYL : Hid (K.length = Y.length) := Lib.hid (by rw [← HY.out, mulL_len])
  obtain ⟨ra, hra⟩ : ∃ r, rk q m L = r := ⟨_, rfl⟩
  obtain ⟨rb, hrb⟩ : ∃ r, rk q n K = r := ⟨_, rfl⟩
  obtain ⟨rc, hrc⟩ : ∃ r, rk q n X = r := ⟨_, rfl⟩
  have HRA := Lib.hid hra
  have HRB := Lib.hid hrb
  have HRC := Lib.hid hrc
  have hrk := rk_mul (n := n) hq2.out hv.out.unit (by have h := hv.out.res; rw [hmk.out] at h; exact h) hu.out.res
  rw [HX.out, hrc, hrb, ← hmk.out, hra] at hrk
  have hrl := rk_le hq1.out hv.out.res
  rw [hra] at hrl
  clear hra hrb hrc
  obtain ⟨k1, hk1⟩ : ∃ k, k = min ra rb := ⟨_, rfl⟩
  have mn1 : min (ra : Int) (rb : Int) = (k1 : Int) := by omega
  have e1 : decide ((k1 : Int) < (rc : Int)) = false := decide_eq_false (by omega)
  have e1n : decide (k1 < rc) = false := decide_eq_false (by omega)
  obtain ⟨k2, hk2⟩ : ∃ k, k = min L.length L[0].length := ⟨_, rfl⟩
  have mn2 : min (L.length : Int) (L[0].length : Int) = (k2 : Int) := by omega
  have e2 : decide ((k2 : Int) < (ra : Int)) = false := decide_eq_false (by have := HL0.out; omega)
  have e2n : decide (k2 < ra) = false := decide_eq_false (by have := HL0.out; omega)
  clear hk1 hk2 hrk hrl
  have na : ((L[0].length : Int) != (K.length : Int)) = false := by have h1 := HL0.out; have h2 := hmk.out; rw [h1, h2]; simp
  have nb : (L[0].length != K.length) = false := by have h1 := HL0.out; have h2 := hmk.out; rw [h1, h2]; simp
  have ka : ((K[0].length : Int) != (J.length : Int)) = false := by have h1 := HK0.out; have h2 := hnj.out; rw [h1, h2]; simp
  have kb : (K[0].length != J.length) = false := by have h1 := HK0.out; have h2 := hnj.out; rw [h1, h2]; simp
  go_upto_region 3 with (fail)
  obtain ⟨xab, xao, rfl⟩ := Mx.addrN (E1.out.fc 3 rfl) z1
  obtain ⟨ua, uk, E20⟩ := E1.out.elMN 3 rfl (0) z1
  have E2 : Hid (Env D w [] [.ce xab (xao) (.slice ua L[0].length uk), .rw (.slice ua L[0].length uk) L[0].length 1 (ncl L[0]), .rw (.slice ta x.length tk) x.length 1 (ncl x), .mx (.slice za J.length zk) (J.map nl), .mx (.slice ya K.length yk) (K.map nl), .mx (.slice (some ⟨xab, xao, none⟩) L.length xk) (L.map nl)] _) := Lib.hid E20
  clear E20 E1
  have u0 := (E2.out.fc 0 rfl).2
  obtain ⟨yab, yao, rfl⟩ := Mx.addrN (E2.out.fc 4 rfl) z2
  obtain ⟨va, vk, E30⟩ := E2.out.elMN 4 rfl (0) z2
  have E3 : Hid (Env D w [] [.ce yab (yao) (.slice va K[0].length vk), .rw (.slice va K[0].length vk) K[0].length 1 (ncl K[0]), .ce xab (xao) (.slice ua L[0].length uk), .rw (.slice ua L[0].length uk) L[0].length 1 (ncl L[0]), .rw (.slice ta x.length tk) x.length 1 (ncl x), .mx (.slice za J.length zk) (J.map nl), .mx (.slice (some ⟨yab, yao, none⟩) K.length yk) (K.map nl), .mx (.slice (some ⟨xab, xao, none⟩) L.length xk) (L.map nl)] _) := Lib.hid E30
  clear E30 E2
  have v0 := (E3.out.fc 0 rfl).2
  have E4 : Hid (Env D w [(w1.heap.size, 44, [.slice (some ⟨xab, xao, none⟩) L.length xk, .slice (some ⟨yab, yao, none⟩) K.length yk, .slice za J.length zk])] [.ce yab (yao) (.slice va K[0].length vk), .rw (.slice va K[0].length vk) K[0].length 1 (ncl K[0]), .ce xab (xao) (.slice ua L[0].length uk), .rw (.slice ua L[0].length uk) L[0].length 1 (ncl L[0]), .rw (.slice ta x.length tk) x.length 1 (ncl x), .mx (.slice za J.length zk) (J.map nl), .mx (.slice (some ⟨yab, yao, none⟩) K.length yk) (K.map nl), .mx (.slice (some ⟨xab, xao, none⟩) L.length xk) (L.map nl)] _) := Lib.hid ((E3.out.push 44 [.slice (some ⟨xab, xao, none⟩) L.length xk, .slice (some ⟨yab, yao, none⟩) K.length yk, .slice za J.length zk] (w1.heap.size) (by simp)))
  go_wp2_with fail
  refine (great14_c (t := false) [L.map nl, K.map nl, J.map nl] (xb := w1.heap.size) (xo := 0) (xk := 3) (gMats.three (by simp) (by simp) (by simp) (E4.out.bx 0 rfl) (E4.out.fc 7 rfl) (E4.out.fc 6 rfl) (E4.out.fc 5 rfl)) HG.out (by simp)).mono ?_
  rintro e w2 ⟨rfl, hb⟩
  have E5 : Hid (Env D w [(w1.heap.size, 44, [.slice (some ⟨xab, xao, none⟩) L.length xk, .slice (some ⟨yab, yao, none⟩) K.length yk, .slice za J.length zk])] [.ce yab (yao) (.slice va K[0].length vk), .rw (.slice va K[0].length vk) K[0].length 1 (ncl K[0]), .ce xab (xao) (.slice ua L[0].length uk), .rw (.slice ua L[0].length uk) L[0].length 1 (ncl L[0]), .rw (.slice ta x.length tk) x.length 1 (ncl x), .mx (.slice za J.length zk) (J.map nl), .mx (.slice (some ⟨yab, yao, none⟩) K.length yk) (K.map nl), .mx (.slice (some ⟨xab, xao, none⟩) L.length xk) (L.map nl)] w2) := Lib.hid (E4.out.below hb)
  clear u0 v0 E3 E4 hb
  go_wp2_with fail
  refine (rMValidN (E5.out.fc 7 rfl) hv.out).mono ?_
  rintro e w3 ⟨rfl, hb⟩
  have E6 : Hid (Env D w [(w1.heap.size, 44, [.slice (some ⟨xab, xao, none⟩) L.length xk, .slice (some ⟨yab, yao, none⟩) K.length yk, .slice za J.length zk])] [.ce yab (yao) (.slice va K[0].length vk), .rw (.slice va K[0].length vk) K[0].length 1 (ncl K[0]), .ce xab (xao) (.slice ua L[0].length uk), .rw (.slice ua L[0].length uk) L[0].length 1 (ncl L[0]), .rw (.slice ta x.length tk) x.length 1 (ncl x), .mx (.slice za J.length zk) (J.map nl), .mx (.slice (some ⟨yab, yao, none⟩) K.length yk) (K.map nl), .mx (.slice (some ⟨xab, xao, none⟩) L.length xk) (L.map nl)] w3) := Lib.hid (E5.out.below hb)
  clear E5 hb
  go_wp2_with fail
  refine (rMValidN (E6.out.fc 6 rfl) hu.out).mono ?_
  rintro e w4 ⟨rfl, hb⟩
  have E7 : Hid (Env D w [(w1.heap.size, 44, [.slice (some ⟨xab, xao, none⟩) L.length xk, .slice (some ⟨yab, yao, none⟩) K.length yk, .slice za J.length zk])] [.ce yab (yao) (.slice va K[0].length vk), .rw (.slice va K[0].length vk) K[0].length 1 (ncl K[0]), .ce xab (xao) (.slice ua L[0].length uk), .rw (.slice ua L[0].length uk) L[0].length 1 (ncl L[0]), .rw (.slice ta x.length tk) x.length 1 (ncl x), .mx (.slice za J.length zk) (J.map nl), .mx (.slice (some ⟨yab, yao, none⟩) K.length yk) (K.map nl), .mx (.slice (some ⟨xab, xao, none⟩) L.length xk) (L.map nl)] w4) := Lib.hid (E6.out.below hb)
  clear E6 hb
  go_wp2_with fail
  refine (rMValidN (E7.out.fc 5 rfl) ho.out).mono ?_
  rintro e w5 ⟨rfl, hb⟩
  have E8 : Hid (Env D w [(w1.heap.size, 44, [.slice (some ⟨xab, xao, none⟩) L.length xk, .slice (some ⟨yab, yao, none⟩) K.length yk, .slice za J.length zk])] [.ce yab (yao) (.slice va K[0].length vk), .rw (.slice va K[0].length vk) K[0].length 1 (ncl K[0]), .ce xab (xao) (.slice ua L[0].length uk), .rw (.slice ua L[0].length uk) L[0].length 1 (ncl L[0]), .rw (.slice ta x.length tk) x.length 1 (ncl x), .mx (.slice za J.length zk) (J.map nl), .mx (.slice (some ⟨yab, yao, none⟩) K.length yk) (K.map nl), .mx (.slice (some ⟨xab, xao, none⟩) L.length xk) (L.map nl)] w5) := Lib.hid (E7.out.below hb)
  clear E7 hb
  have z1 := (E8.out.fc 2 rfl).2
  have z2 := (E8.out.fc 0 rfl).2
  go_wp2_with fail
  refine (Mul_r (E8.out.fc 7 rfl) (E8.out.fc 6 rfl) (hl.out.below E8.out.bel) hv.out hu.out hmk.out HX.out).mono ?_
  rintro e w6 ⟨⟨pXa, pXk, rfl, pXh⟩, hb⟩
  have E9 : Hid (Env D w [(w1.heap.size, 44, [.slice (some ⟨xab, xao, none⟩) L.length xk, .slice (some ⟨yab, yao, none⟩) K.length yk, .slice za J.length zk])] [.mx (.slice pXa X.length pXk) (X.map nl), .ce yab (yao) (.slice va K[0].length vk), .rw (.slice va K[0].length vk) K[0].length 1 (ncl K[0]), .ce xab (xao) (.slice ua L[0].length uk), .rw (.slice ua L[0].length uk) L[0].length 1 (ncl L[0]), .rw (.slice ta x.length tk) x.length 1 (ncl x), .mx (.slice za J.length zk) (J.map nl), .mx (.slice (some ⟨yab, yao, none⟩) K.length yk) (K.map nl), .mx (.slice (some ⟨xab, xao, none⟩) L.length xk) (L.map nl)] w6) := Lib.hid (E8.out.got (E8.out.below hb) (.mx (.slice pXa X.length pXk) (X.map nl)) pXh.out)
  clear z1 z2 E8 hb pXh
  go_wp2_with fail
  refine (Mul_r (E9.out.fc 7 rfl) (E9.out.fc 6 rfl) (hl.out.below E9.out.bel) hu.out ho.out hnj.out HY.out).mono ?_
  rintro e w7 ⟨⟨pYa, pYk, rfl, pYh⟩, hb⟩
  have E10 : Hid (Env D w [(w1.heap.size, 44, [.slice (some ⟨xab, xao, none⟩) L.length xk, .slice (some ⟨yab, yao, none⟩) K.length yk, .slice za J.length zk])] [.mx (.slice pYa Y.length pYk) (Y.map nl), .mx (.slice pXa X.length pXk) (X.map nl), .ce yab (yao) (.slice va K[0].length vk), .rw (.slice va K[0].length vk) K[0].length 1 (ncl K[0]), .ce xab (xao) (.slice ua L[0].length uk), .rw (.slice ua L[0].length uk) L[0].length 1 (ncl L[0]), .rw (.slice ta x.length tk) x.length 1 (ncl x), .mx (.slice za J.length zk) (J.map nl), .mx (.slice (some ⟨yab, yao, none⟩) K.length yk) (K.map nl), .mx (.slice (some ⟨xab, xao, none⟩) L.length xk) (L.map nl)] w7) := Lib.hid (E9.out.got (E9.out.below hb) (.mx (.slice pYa Y.length pYk) (Y.map nl)) pYh.out)
  clear E9 hb pYh
  go_upto_region 7 with (fail)
  obtain ⟨v7a, v7k, E110⟩ := E10.out.elMN 8 rfl (0) z2
  have E11 : Hid (Env D w [(w1.heap.size, 44, [.slice (some ⟨xab, xao, none⟩) L.length xk, .slice (some ⟨yab, yao, none⟩) K.length yk, .slice za J.length zk])] [.ce yab (yao) (.slice v7a K[0].length v7k), .rw (.slice v7a K[0].length v7k) K[0].length 1 (ncl K[0]), .mx (.slice pYa Y.length pYk) (Y.map nl), .mx (.slice pXa X.length pXk) (X.map nl), .ce yab (yao) (.slice va K[0].length vk), .rw (.slice va K[0].length vk) K[0].length 1 (ncl K[0]), .ce xab (xao) (.slice ua L[0].length uk), .rw (.slice ua L[0].length uk) L[0].length 1 (ncl L[0]), .rw (.slice ta x.length tk) x.length 1 (ncl x), .mx (.slice za J.length zk) (J.map nl), .mx (.slice (some ⟨yab, yao, none⟩) K.length yk) (K.map nl), .mx (.slice (some ⟨xab, xao, none⟩) L.length xk) (L.map nl)] _) := Lib.hid E110
  clear E110 E10
  have v70 := (E11.out.fc 0 rfl).2
  obtain ⟨zab, zao, rfl⟩ := Mx.addrN (E11.out.fc 9 rfl) z3
  obtain ⟨w7a, w7k, E120⟩ := E11.out.elMN 9 rfl (0) z3
  have E12 : Hid (Env D w [(w1.heap.size, 44, [.slice (some ⟨xab, xao, none⟩) L.length xk, .slice (some ⟨yab, yao, none⟩) K.length yk, .slice (some ⟨zab, zao, none⟩) J.length zk])] [.ce zab (zao) (.slice w7a J[0].length w7k), .rw (.slice w7a J[0].length w7k) J[0].length 1 (ncl J[0]), .ce yab (yao) (.slice v7a K[0].length v7k), .rw (.slice v7a K[0].length v7k) K[0].length 1 (ncl K[0]), .mx (.slice pYa Y.length pYk) (Y.map nl), .mx (.slice pXa X.length pXk) (X.map nl), .ce yab (yao) (.slice va K[0].length vk), .rw (.slice va K[0].length vk) K[0].length 1 (ncl K[0]), .ce xab (xao) (.slice ua L[0].length uk), .rw (.slice ua L[0].length uk) L[0].length 1 (ncl L[0]), .rw (.slice ta x.length tk) x.length 1 (ncl x), .mx (.slice (some ⟨zab, zao, none⟩) J.length zk) (J.map nl), .mx (.slice (some ⟨yab, yao, none⟩) K.length yk) (K.map nl), .mx (.slice (some ⟨xab, xao, none⟩) L.length xk) (L.map nl)] _) := Lib.hid E120
  clear E120 E11
  have w70 := (E12.out.fc 0 rfl).2
  have z3 := (E12.out.fc 2 rfl).2
  go_wp2_with fail
  refine (shaped_ok q n L.length K[0].length X (E12.out.fc 5 rfl) HXL.out HK0.out hXv.out.res (Nat.le_trans hXv.out.m30 (by omega)) (Nat.le_trans hu.out.n30 (by omega))).mono ?_
  rintro e w8 ⟨rfl, hb⟩
  have E13 : Hid (Env D w [(w1.heap.size, 44, [.slice (some ⟨xab, xao, none⟩) L.length xk, .slice (some ⟨yab, yao, none⟩) K.length yk, .slice (some ⟨zab, zao, none⟩) J.length zk])] [.ce zab (zao) (.slice w7a J[0].length w7k), .rw (.slice w7a J[0].length w7k) J[0].length 1 (ncl J[0]), .ce yab (yao) (.slice v7a K[0].length v7k), .rw (.slice v7a K[0].length v7k) K[0].length 1 (ncl K[0]), .mx (.slice pYa Y.length pYk) (Y.map nl), .mx (.slice pXa X.length pXk) (X.map nl), .ce yab (yao) (.slice va K[0].length vk), .rw (.slice va K[0].length vk) K[0].length 1 (ncl K[0]), .ce xab (xao) (.slice ua L[0].length uk), .rw (.slice ua L[0].length uk) L[0].length 1 (ncl L[0]), .rw (.slice ta x.length tk) x.length 1 (ncl x), .mx (.slice (some ⟨zab, zao, none⟩) J.length zk) (J.map nl), .mx (.slice (some ⟨yab, yao, none⟩) K.length yk) (K.map nl), .mx (.slice (some ⟨xab, xao, none⟩) L.length xk) (L.map nl)] w8) := Lib.hid (E12.out.below hb)
  clear v70 w70 z3 E12 hb
  have z4 := (E13.out.fc 0 rfl).2
  go_wp2_with fail
  refine (shaped_ok q p K.length J[0].length Y (E13.out.fc 4 rfl) HYL.out HJ0.out hYv.out.res (Nat.le_trans hYv.out.m30 (by omega)) (Nat.le_trans ho.out.n30 (by omega))).mono ?_
  rintro e w9 ⟨rfl, hb⟩
  have E14 : Hid (Env D w [(w1.heap.size, 44, [.slice (some ⟨xab, xao, none⟩) L.length xk, .slice (some ⟨yab, yao, none⟩) K.length yk, .slice (some ⟨zab, zao, none⟩) J.length zk])] [.ce zab (zao) (.slice w7a J[0].length w7k), .rw (.slice w7a J[0].length w7k) J[0].length 1 (ncl J[0]), .ce yab (yao) (.slice v7a K[0].length v7k), .rw (.slice v7a K[0].length v7k) K[0].length 1 (ncl K[0]), .mx (.slice pYa Y.length pYk) (Y.map nl), .mx (.slice pXa X.length pXk) (X.map nl), .ce yab (yao) (.slice va K[0].length vk), .rw (.slice va K[0].length vk) K[0].length 1 (ncl K[0]), .ce xab (xao) (.slice ua L[0].length uk), .rw (.slice ua L[0].length uk) L[0].length 1 (ncl L[0]), .rw (.slice ta x.length tk) x.length 1 (ncl x), .mx (.slice (some ⟨zab, zao, none⟩) J.length zk) (J.map nl), .mx (.slice (some ⟨yab, yao, none⟩) K.length yk) (K.map nl), .mx (.slice (some ⟨xab, xao, none⟩) L.length xk) (L.map nl)] w9) := Lib.hid (E13.out.below hb)
  clear z4 E13 hb
  go_wp2_with fail
  refine (Mul_r (E14.out.fc 5 rfl) (E14.out.fc 11 rfl) (hl.out.below E14.out.bel) hXv.out ho.out hnj.out HZ.out).mono ?_
  rintro e w10 ⟨⟨pZa, pZk, rfl, pZh⟩, hb⟩
  have E15 : Hid (Env D w [(w1.heap.size, 44, [.slice (some ⟨xab, xao, none⟩) L.length xk, .slice (some ⟨yab, yao, none⟩) K.length yk, .slice (some ⟨zab, zao, none⟩) J.length zk])] [.mx (.slice pZa Z.length pZk) (Z.map nl), .ce zab (zao) (.slice w7a J[0].length w7k), .rw (.slice w7a J[0].length w7k) J[0].length 1 (ncl J[0]), .ce yab (yao) (.slice v7a K[0].length v7k), .rw (.slice v7a K[0].length v7k) K[0].length 1 (ncl K[0]), .mx (.slice pYa Y.length pYk) (Y.map nl), .mx (.slice pXa X.length pXk) (X.map nl), .ce yab (yao) (.slice va K[0].length vk), .rw (.slice va K[0].length vk) K[0].length 1 (ncl K[0]), .ce xab (xao) (.slice ua L[0].length uk), .rw (.slice ua L[0].length uk) L[0].length 1 (ncl L[0]), .rw (.slice ta x.length tk) x.length 1 (ncl x), .mx (.slice (some ⟨zab, zao, none⟩) J.length zk) (J.map nl), .mx (.slice (some ⟨yab, yao, none⟩) K.length yk) (K.map nl), .mx (.slice (some ⟨xab, xao, none⟩) L.length xk) (L.map nl)] w10) := Lib.hid (E14.out.got (E14.out.below hb) (.mx (.slice pZa Z.length pZk) (Z.map nl)) pZh.out)
  clear E14 hb pZh
  go_wp2_with fail
  refine (Mul_r (E15.out.fc 14 rfl) (E15.out.fc 5 rfl) (hl.out.below E15.out.bel) hv.out hYv.out (by rw [hmk.out]; exact HYL.out) HZ2.out).mono ?_
  rintro e w11 ⟨⟨pWa, pWk, rfl, pWh⟩, hb⟩
  have E16 : Hid (Env D w [(w1.heap.size, 44, [.slice (some ⟨xab, xao, none⟩) L.length xk, .slice (some ⟨yab, yao, none⟩) K.length yk, .slice (some ⟨zab, zao, none⟩) J.length zk])] [.mx (.slice pWa Z.length pWk) (Z.map nl), .mx (.slice pZa Z.length pZk) (Z.map nl), .ce zab (zao) (.slice w7a J[0].length w7k), .rw (.slice w7a J[0].length w7k) J[0].length 1 (ncl J[0]), .ce yab (yao) (.slice v7a K[0].length v7k), .rw (.slice v7a K[0].length v7k) K[0].length 1 (ncl K[0]), .mx (.slice pYa Y.length pYk) (Y.map nl), .mx (.slice pXa X.length pXk) (X.map nl), .ce yab (yao) (.slice va K[0].length vk), .rw (.slice va K[0].length vk) K[0].length 1 (ncl K[0]), .ce xab (xao) (.slice ua L[0].length uk), .rw (.slice ua L[0].length uk) L[0].length 1 (ncl L[0]), .rw (.slice ta x.length tk) x.length 1 (ncl x), .mx (.slice (some ⟨zab, zao, none⟩) J.length zk) (J.map nl), .mx (.slice (some ⟨yab, yao, none⟩) K.length yk) (K.map nl), .mx (.slice (some ⟨xab, xao, none⟩) L.length xk) (L.map nl)] w11) := Lib.hid (E15.out.got (E15.out.below hb) (.mx (.slice pWa Z.length pWk) (Z.map nl)) pWh.out)
  clear E15 hb pWh
  go_wp2_with fail
  refine (Same_r (E16.out.fc 1 rfl) (E16.out.fc 0 rfl) hZv.out.res (Nat.le_trans hZv.out.m30 (by omega)) (Nat.le_trans ho.out.n30 (by omega))).mono ?_
  rintro e w12 ⟨rfl, hb⟩
  have E17 : Hid (Env D w [(w1.heap.size, 44, [.slice (some ⟨xab, xao, none⟩) L.length xk, .slice (some ⟨yab, yao, none⟩) K.length yk, .slice (some ⟨zab, zao, none⟩) J.length zk])] [.mx (.slice pWa Z.length pWk) (Z.map nl), .mx (.slice pZa Z.length pZk) (Z.map nl), .ce zab (zao) (.slice w7a J[0].length w7k), .rw (.slice w7a J[0].length w7k) J[0].length 1 (ncl J[0]), .ce yab (yao) (.slice v7a K[0].length v7k), .rw (.slice v7a K[0].length v7k) K[0].length 1 (ncl K[0]), .mx (.slice pYa Y.length pYk) (Y.map nl), .mx (.slice pXa X.length pXk) (X.map nl), .ce yab (yao) (.slice va K[0].length vk), .rw (.slice va K[0].length vk) K[0].length 1 (ncl K[0]), .ce xab (xao) (.slice ua L[0].length uk), .rw (.slice ua L[0].length uk) L[0].length 1 (ncl L[0]), .rw (.slice ta x.length tk) x.length 1 (ncl x), .mx (.slice (some ⟨zab, zao, none⟩) J.length zk) (J.map nl), .mx (.slice (some ⟨yab, yao, none⟩) K.length yk) (K.map nl), .mx (.slice (some ⟨xab, xao, none⟩) L.length xk) (L.map nl)] w12) := Lib.hid (E16.out.below hb)
  clear E16 hb
  go_wp2_with fail
  refine (Rank_r (E17.out.fc 15 rfl) (hl.out.below E17.out.bel) hv.out HRA.out).mono ?_
  rintro e w13 ⟨rfl, hb⟩
  have E18 : Hid (Env D w [(w1.heap.size, 44, [.slice (some ⟨xab, xao, none⟩) L.length xk, .slice (some ⟨yab, yao, none⟩) K.length yk, .slice (some ⟨zab, zao, none⟩) J.length zk])] [.mx (.slice pWa Z.length pWk) (Z.map nl), .mx (.slice pZa Z.length pZk) (Z.map nl), .ce zab (zao) (.slice w7a J[0].length w7k), .rw (.slice w7a J[0].length w7k) J[0].length 1 (ncl J[0]), .ce yab (yao) (.slice v7a K[0].length v7k), .rw (.slice v7a K[0].length v7k) K[0].length 1 (ncl K[0]), .mx (.slice pYa Y.length pYk) (Y.map nl), .mx (.slice pXa X.length pXk) (X.map nl), .ce yab (yao) (.slice va K[0].length vk), .rw (.slice va K[0].length vk) K[0].length 1 (ncl K[0]), .ce xab (xao) (.slice ua L[0].length uk), .rw (.slice ua L[0].length uk) L[0].length 1 (ncl L[0]), .rw (.slice ta x.length tk) x.length 1 (ncl x), .mx (.slice (some ⟨zab, zao, none⟩) J.length zk) (J.map nl), .mx (.slice (some ⟨yab, yao, none⟩) K.length yk) (K.map nl), .mx (.slice (some ⟨xab, xao, none⟩) L.length xk) (L.map nl)] w13) := Lib.hid (E17.out.below hb)
  clear E17 hb
  go_wp2_with fail
  refine (Rank_r (E18.out.fc 14 rfl) (hl.out.below E18.out.bel) hu.out HRB.out).mono ?_
  rintro e w14 ⟨rfl, hb⟩
  have E19 : Hid (Env D w [(w1.heap.size, 44, [.slice (some ⟨xab, xao, none⟩) L.length xk, .slice (some ⟨yab, yao, none⟩) K.length yk, .slice (some ⟨zab, zao, none⟩) J.length zk])] [.mx (.slice pWa Z.length pWk) (Z.map nl), .mx (.slice pZa Z.length pZk) (Z.map nl), .ce zab (zao) (.slice w7a J[0].length w7k), .rw (.slice w7a J[0].length w7k) J[0].length 1 (ncl J[0]), .ce yab (yao) (.slice v7a K[0].length v7k), .rw (.slice v7a K[0].length v7k) K[0].length 1 (ncl K[0]), .mx (.slice pYa Y.length pYk) (Y.map nl), .mx (.slice pXa X.length pXk) (X.map nl), .ce yab (yao) (.slice va K[0].length vk), .rw (.slice va K[0].length vk) K[0].length 1 (ncl K[0]), .ce xab (xao) (.slice ua L[0].length uk), .rw (.slice ua L[0].length uk) L[0].length 1 (ncl L[0]), .rw (.slice ta x.length tk) x.length 1 (ncl x), .mx (.slice (some ⟨zab, zao, none⟩) J.length zk) (J.map nl), .mx (.slice (some ⟨yab, yao, none⟩) K.length yk) (K.map nl), .mx (.slice (some ⟨xab, xao, none⟩) L.length xk) (L.map nl)] w14) := Lib.hid (E18.out.below hb)
  clear E18 hb
  go_wp2_with fail
  refine (Rank_r (E19.out.fc 7 rfl) (hl.out.below E19.out.bel) hXv.out HRC.out).mono ?_
  rintro e w15 ⟨rfl, hb⟩
  have E20 : Hid (Env D w [(w1.heap.size, 44, [.slice (some ⟨xab, xao, none⟩) L.length xk, .slice (some ⟨yab, yao, none⟩) K.length yk, .slice (some ⟨zab, zao, none⟩) J.length zk])] [.mx (.slice pWa Z.length pWk) (Z.map nl), .mx (.slice pZa Z.length pZk) (Z.map nl), .ce zab (zao) (.slice w7a J[0].length w7k), .rw (.slice w7a J[0].length w7k) J[0].length 1 (ncl J[0]), .ce yab (yao) (.slice v7a K[0].length v7k), .rw (.slice v7a K[0].length v7k) K[0].length 1 (ncl K[0]), .mx (.slice pYa Y.length pYk) (Y.map nl), .mx (.slice pXa X.length pXk) (X.map nl), .ce yab (yao) (.slice va K[0].length vk), .rw (.slice va K[0].length vk) K[0].length 1 (ncl K[0]), .ce xab (xao) (.slice ua L[0].length uk), .rw (.slice ua L[0].length uk) L[0].length 1 (ncl L[0]), .rw (.slice ta x.length tk) x.length 1 (ncl x), .mx (.slice (some ⟨zab, zao, none⟩) J.length zk) (J.map nl), .mx (.slice (some ⟨yab, yao, none⟩) K.length yk) (K.map nl), .mx (.slice (some ⟨xab, xao, none⟩) L.length xk) (L.map nl)] w15) := Lib.hid (E19.out.below hb)
  clear E19 hb
  go_upto_region 16 with (fail)
  obtain ⟨u6a, u6k, E210⟩ := E20.out.elMN 15 rfl (0) z1
  have E21 : Hid (Env D w [(w1.heap.size, 44, [.slice (some ⟨xab, xao, none⟩) L.length xk, .slice (some ⟨yab, yao, none⟩) K.length yk, .slice (some ⟨zab, zao, none⟩) J.length zk])] [.ce xab (xao) (.slice u6a L[0].length u6k), .rw (.slice u6a L[0].length u6k) L[0].length 1 (ncl L[0]), .mx (.slice pWa Z.length pWk) (Z.map nl), .mx (.slice pZa Z.length pZk) (Z.map nl), .ce zab (zao) (.slice w7a J[0].length w7k), .rw (.slice w7a J[0].length w7k) J[0].length 1 (ncl J[0]), .ce yab (yao) (.slice v7a K[0].length v7k), .rw (.slice v7a K[0].length v7k) K[0].length 1 (ncl K[0]), .mx (.slice pYa Y.length pYk) (Y.map nl), .mx (.slice pXa X.length pXk) (X.map nl), .ce yab (yao) (.slice va K[0].length vk), .rw (.slice va K[0].length vk) K[0].length 1 (ncl K[0]), .ce xab (xao) (.slice ua L[0].length uk), .rw (.slice ua L[0].length uk) L[0].length 1 (ncl L[0]), .rw (.slice ta x.length tk) x.length 1 (ncl x), .mx (.slice (some ⟨zab, zao, none⟩) J.length zk) (J.map nl), .mx (.slice (some ⟨yab, yao, none⟩) K.length yk) (K.map nl), .mx (.slice (some ⟨xab, xao, none⟩) L.length xk) (L.map nl)] _) := Lib.hid E210
  clear E210 E20
  have u60 := (E21.out.fc 0 rfl).2
  go_upto_region 18 with (fail)
  obtain ⟨v8a, v8k, E220⟩ := E21.out.elMN 16 rfl (0) z2
  have E22 : Hid (Env D w [(w1.heap.size, 44, [.slice (some ⟨xab, xao, none⟩) L.length xk, .slice (some ⟨yab, yao, none⟩) K.length yk, .slice (some ⟨zab, zao, none⟩) J.length zk])] [.ce yab (yao) (.slice v8a K[0].length v8k), .rw (.slice v8a K[0].length v8k) K[0].length 1 (ncl K[0]), .ce xab (xao) (.slice u6a L[0].length u6k), .rw (.slice u6a L[0].length u6k) L[0].length 1 (ncl L[0]), .mx (.slice pWa Z.length pWk) (Z.map nl), .mx (.slice pZa Z.length pZk) (Z.map nl), .ce zab (zao) (.slice w7a J[0].length w7k), .rw (.slice w7a J[0].length w7k) J[0].length 1 (ncl J[0]), .ce yab (yao) (.slice v7a K[0].length v7k), .rw (.slice v7a K[0].length v7k) K[0].length 1 (ncl K[0]), .mx (.slice pYa Y.length pYk) (Y.map nl), .mx (.slice pXa X.length pXk) (X.map nl), .ce yab (yao) (.slice va K[0].length vk), .rw (.slice va K[0].length vk) K[0].length 1 (ncl K[0]), .ce xab (xao) (.slice ua L[0].length uk), .rw (.slice ua L[0].length uk) L[0].length 1 (ncl L[0]), .rw (.slice ta x.length tk) x.length 1 (ncl x), .mx (.slice (some ⟨zab, zao, none⟩) J.length zk) (J.map nl), .mx (.slice (some ⟨yab, yao, none⟩) K.length yk) (K.map nl), .mx (.slice (some ⟨xab, xao, none⟩) L.length xk) (L.map nl)] _) := Lib.hid E220
  clear E220 E21
  have v80 := (E22.out.fc 0 rfl).2
  have ga : ((x.length : Int) != (K[0].length : Int)) = false := by have h1 := HK0.out; have h2 := hs.out; rw [h1, h2]; simp
  have gb : (x.length != K[0].length) = false := by have h1 := HK0.out; have h2 := hs.out; rw [h1, h2]; simp
  go_wp2_with fail
  refine (rVecN (E22.out.fc 16 rfl) hr.out (by omega)).mono ?_
  rintro e w16 ⟨rfl, hb⟩
  have E23 : Hid (Env D w [(w1.heap.size, 44, [.slice (some ⟨xab, xao, none⟩) L.length xk, .slice (some ⟨yab, yao, none⟩) K.length yk, .slice (some ⟨zab, zao, none⟩) J.length zk])] [.ce yab (yao) (.slice v8a K[0].length v8k), .rw (.slice v8a K[0].length v8k) K[0].length 1 (ncl K[0]), .ce xab (xao) (.slice u6a L[0].length u6k), .rw (.slice u6a L[0].length u6k) L[0].length 1 (ncl L[0]), .mx (.slice pWa Z.length pWk) (Z.map nl), .mx (.slice pZa Z.length pZk) (Z.map nl), .ce zab (zao) (.slice w7a J[0].length w7k), .rw (.slice w7a J[0].length w7k) J[0].length 1 (ncl J[0]), .ce yab (yao) (.slice v7a K[0].length v7k), .rw (.slice v7a K[0].length v7k) K[0].length 1 (ncl K[0]), .mx (.slice pYa Y.length pYk) (Y.map nl), .mx (.slice pXa X.length pXk) (X.map nl), .ce yab (yao) (.slice va K[0].length vk), .rw (.slice va K[0].length vk) K[0].length 1 (ncl K[0]), .ce xab (xao) (.slice ua L[0].length uk), .rw (.slice ua L[0].length uk) L[0].length 1 (ncl L[0]), .rw (.slice ta x.length tk) x.length 1 (ncl x), .mx (.slice (some ⟨zab, zao, none⟩) J.length zk) (J.map nl), .mx (.slice (some ⟨yab, yao, none⟩) K.length yk) (K.map nl), .mx (.slice (some ⟨xab, xao, none⟩) L.length xk) (L.map nl)] w16) := Lib.hid (E22.out.below hb)
  clear u60 v80 E22 hb
  obtain ⟨y, hy9⟩ : ∃ y, appT q K x = y := ⟨_, rfl⟩
  obtain ⟨v, hv9⟩ : ∃ v, appT q L y = v := ⟨_, rfl⟩
  have HYY := Lib.hid hy9
  have HVV := Lib.hid hv9
  clear hy9 hv9
  have HYN : Hid (y.length = m) := Lib.hid (by rw [← HYY.out, appT_len]; exact hmk.out.symm)
  have HYQ : Hid (∀ c ∈ y, c < q) := Lib.hid (by rw [← HYY.out]; exact appT_lt hq1.out _ _)
  have HVX : Hid (appT q X x = v) := Lib.hid (by rw [← HX.out, app_mul hs.out, HYY.out]; exact HVV.out)
  have HVL : Hid (v.length ≤ 1000000) := Lib.hid (by rw [← HVV.out, appT_len]; exact Nat.le_trans hv.out.m30 (by omega))
  go_wp2_with fail
  refine (Apply_r (E23.out.fc 18 rfl) (E23.out.fc 16 rfl) (hl.out.below E23.out.bel) hu.out hs.out hr.out HYY.out).mono ?_
  rintro e w17 ⟨⟨rya, ryk, rfl, ryh⟩, hb⟩
  have E24 : Hid (Env D w [(w1.heap.size, 44, [.slice (some ⟨xab, xao, none⟩) L.length xk, .slice (some ⟨yab, yao, none⟩) K.length yk, .slice (some ⟨zab, zao, none⟩) J.length zk])] [.rw (.slice rya (y).length ryk) (y).length 1 (ncl (y)), .ce yab (yao) (.slice v8a K[0].length v8k), .rw (.slice v8a K[0].length v8k) K[0].length 1 (ncl K[0]), .ce xab (xao) (.slice u6a L[0].length u6k), .rw (.slice u6a L[0].length u6k) L[0].length 1 (ncl L[0]), .mx (.slice pWa Z.length pWk) (Z.map nl), .mx (.slice pZa Z.length pZk) (Z.map nl), .ce zab (zao) (.slice w7a J[0].length w7k), .rw (.slice w7a J[0].length w7k) J[0].length 1 (ncl J[0]), .ce yab (yao) (.slice v7a K[0].length v7k), .rw (.slice v7a K[0].length v7k) K[0].length 1 (ncl K[0]), .mx (.slice pYa Y.length pYk) (Y.map nl), .mx (.slice pXa X.length pXk) (X.map nl), .ce yab (yao) (.slice va K[0].length vk), .rw (.slice va K[0].length vk) K[0].length 1 (ncl K[0]), .ce xab (xao) (.slice ua L[0].length uk), .rw (.slice ua L[0].length uk) L[0].length 1 (ncl L[0]), .rw (.slice ta x.length tk) x.length 1 (ncl x), .mx (.slice (some ⟨zab, zao, none⟩) J.length zk) (J.map nl), .mx (.slice (some ⟨yab, yao, none⟩) K.length yk) (K.map nl), .mx (.slice (some ⟨xab, xao, none⟩) L.length xk) (L.map nl)] w17) := Lib.hid (E23.out.got (E23.out.below hb) (.rw (.slice rya (y).length ryk) (y).length 1 (ncl (y))) (Lib.hid (Rw.ge ryh.out)).out)
  clear E23 hb
  go_wp2_with fail
  refine (Apply_r (E24.out.fc 20 rfl) (E24.out.fc 0 rfl) (hl.out.below E24.out.bel) hv.out HYN.out HYQ.out HVV.out).mono ?_
  rintro e w18 ⟨⟨rza, rzk, rfl, rzh⟩, hb⟩
  have E25 : Hid (Env D w [(w1.heap.size, 44, [.slice (some ⟨xab, xao, none⟩) L.length xk, .slice (some ⟨yab, yao, none⟩) K.length yk, .slice (some ⟨zab, zao, none⟩) J.length zk])] [.rw (.slice rza (v).length rzk) (v).length 1 (ncl (v)), .rw (.slice rya (y).length ryk) (y).length 1 (ncl (y)), .ce yab (yao) (.slice v8a K[0].length v8k), .rw (.slice v8a K[0].length v8k) K[0].length 1 (ncl K[0]), .ce xab (xao) (.slice u6a L[0].length u6k), .rw (.slice u6a L[0].length u6k) L[0].length 1 (ncl L[0]), .mx (.slice pWa Z.length pWk) (Z.map nl), .mx (.slice pZa Z.length pZk) (Z.map nl), .ce zab (zao) (.slice w7a J[0].length w7k), .rw (.slice w7a J[0].length w7k) J[0].length 1 (ncl J[0]), .ce yab (yao) (.slice v7a K[0].length v7k), .rw (.slice v7a K[0].length v7k) K[0].length 1 (ncl K[0]), .mx (.slice pYa Y.length pYk) (Y.map nl), .mx (.slice pXa X.length pXk) (X.map nl), .ce yab (yao) (.slice va K[0].length vk), .rw (.slice va K[0].length vk) K[0].length 1 (ncl K[0]), .ce xab (xao) (.slice ua L[0].length uk), .rw (.slice ua L[0].length uk) L[0].length 1 (ncl L[0]), .rw (.slice ta x.length tk) x.length 1 (ncl x), .mx (.slice (some ⟨zab, zao, none⟩) J.length zk) (J.map nl), .mx (.slice (some ⟨yab, yao, none⟩) K.length yk) (K.map nl), .mx (.slice (some ⟨xab, xao, none⟩) L.length xk) (L.map nl)] w18) := Lib.hid (E24.out.got (E24.out.below hb) (.rw (.slice rza (v).length rzk) (v).length 1 (ncl (v))) (Lib.hid (Rw.ge rzh.out)).out)
  clear E24 hb
  go_wp2_with fail
  refine (Apply_r (E25.out.fc 13 rfl) (E25.out.fc 18 rfl) (hl.out.below E25.out.bel) hXv.out hs.out hr.out HVX.out).mono ?_
  rintro e w19 ⟨⟨rwa, rwk, rfl, rwh⟩, hb⟩
  have E26 : Hid (Env D w [(w1.heap.size, 44, [.slice (some ⟨xab, xao, none⟩) L.length xk, .slice (some ⟨yab, yao, none⟩) K.length yk, .slice (some ⟨zab, zao, none⟩) J.length zk])] [.rw (.slice rwa (v).length rwk) (v).length 1 (ncl (v)), .rw (.slice rza (v).length rzk) (v).length 1 (ncl (v)), .rw (.slice rya (y).length ryk) (y).length 1 (ncl (y)), .ce yab (yao) (.slice v8a K[0].length v8k), .rw (.slice v8a K[0].length v8k) K[0].length 1 (ncl K[0]), .ce xab (xao) (.slice u6a L[0].length u6k), .rw (.slice u6a L[0].length u6k) L[0].length 1 (ncl L[0]), .mx (.slice pWa Z.length pWk) (Z.map nl), .mx (.slice pZa Z.length pZk) (Z.map nl), .ce zab (zao) (.slice w7a J[0].length w7k), .rw (.slice w7a J[0].length w7k) J[0].length 1 (ncl J[0]), .ce yab (yao) (.slice v7a K[0].length v7k), .rw (.slice v7a K[0].length v7k) K[0].length 1 (ncl K[0]), .mx (.slice pYa Y.length pYk) (Y.map nl), .mx (.slice pXa X.length pXk) (X.map nl), .ce yab (yao) (.slice va K[0].length vk), .rw (.slice va K[0].length vk) K[0].length 1 (ncl K[0]), .ce xab (xao) (.slice ua L[0].length uk), .rw (.slice ua L[0].length uk) L[0].length 1 (ncl L[0]), .rw (.slice ta x.length tk) x.length 1 (ncl x), .mx (.slice (some ⟨zab, zao, none⟩) J.length zk) (J.map nl), .mx (.slice (some ⟨yab, yao, none⟩) K.length yk) (K.map nl), .mx (.slice (some ⟨xab, xao, none⟩) L.length xk) (L.map nl)] w19) := Lib.hid (E25.out.got (E25.out.below hb) (.rw (.slice rwa (v).length rwk) (v).length 1 (ncl (v))) (Lib.hid (Rw.ge rwh.out)).out)
  clear E25 hb
  go_wp2_with fail
  refine (equalN_c (t := true) (a := v) (b := v) (E26.out.fc 1 rfl) (E26.out.fc 0 rfl) HVL.out HVL.out (by simp)).mono ?_
  rintro e w20 ⟨rfl, hb⟩
  have E27 : Hid (Env D w [(w1.heap.size, 44, [.slice (some ⟨xab, xao, none⟩) L.length xk, .slice (some ⟨yab, yao, none⟩) K.length yk, .slice (some ⟨zab, zao, none⟩) J.length zk])] [.rw (.slice rwa (v).length rwk) (v).length 1 (ncl (v)), .rw (.slice rza (v).length rzk) (v).length 1 (ncl (v)), .rw (.slice rya (y).length ryk) (y).length 1 (ncl (y)), .ce yab (yao) (.slice v8a K[0].length v8k), .rw (.slice v8a K[0].length v8k) K[0].length 1 (ncl K[0]), .ce xab (xao) (.slice u6a L[0].length u6k), .rw (.slice u6a L[0].length u6k) L[0].length 1 (ncl L[0]), .mx (.slice pWa Z.length pWk) (Z.map nl), .mx (.slice pZa Z.length pZk) (Z.map nl), .ce zab (zao) (.slice w7a J[0].length w7k), .rw (.slice w7a J[0].length w7k) J[0].length 1 (ncl J[0]), .ce yab (yao) (.slice v7a K[0].length v7k), .rw (.slice v7a K[0].length v7k) K[0].length 1 (ncl K[0]), .mx (.slice pYa Y.length pYk) (Y.map nl), .mx (.slice pXa X.length pXk) (X.map nl), .ce yab (yao) (.slice va K[0].length vk), .rw (.slice va K[0].length vk) K[0].length 1 (ncl K[0]), .ce xab (xao) (.slice ua L[0].length uk), .rw (.slice ua L[0].length uk) L[0].length 1 (ncl L[0]), .rw (.slice ta x.length tk) x.length 1 (ncl x), .mx (.slice (some ⟨zab, zao, none⟩) J.length zk) (J.map nl), .mx (.slice (some ⟨yab, yao, none⟩) K.length yk) (K.map nl), .mx (.slice (some ⟨xab, xao, none⟩) L.length xk) (L.map nl)] w20) := Lib.hid (E26.out.below hb)
  clear E26 hb
  have hfin := Lib.hid E27.out.bel
  go_wp2
  go_ret
  exact ⟨rfl, hfin.out⟩
theorem MatrixRing_walk {D : Nat → Prop} (q : Int) (M N O : List (List Int)) (x : List Int) {xa ya za ta : Option Addr} {xk yk zk tk : Nat} {w : World} (hx : Fct.at w D (.mx (.slice xa M.length xk) M)) (hy : Fct.at w D (.mx (.slice ya N.length yk) N)) (hz : Fct.at w D (.mx (.slice za O.length zk) O)) (ht : Fct.at w D (.rw (.slice ta x.length tk) x.length 1 (icl x))) (hl : Laid w) (hn : -9223372036854775808 ≤ q ∧ q ≤ 9223372036854775807) :
    Calls Tryd.prog 9 #[.int .i64 q, .slice xa M.length xk, .slice ya N.length yk, .slice za O.length zk, .slice ta x.length tk] w fun e w' => e = .returned (.bool true) ∧ Below w.heap.size w w' := by
  cases hg : [M, N, O].any (fun x => grM x) with
  | true => exact mg_a q M N O x hx hy hz ht hl hg
  | false =>
    by_cases h1 : 100 < x.length
    · exact mg_b q M N O x hx hy hz ht hl hg h1
    have h2 : x.length ≤ 100 := by omega
    cases hv : mvB q M with
    | false => exact mg_c q M N O x hx hy hz ht hl hg hn h2 hv
    | true =>
      cases hu : mvB q N with
      | false => exact mg_d q M N O x hx hy hz ht hl hg hn h2 hv hu
      | true =>
        cases ho : mvB q O with
        | false => exact mg_e q M N O x hx hy hz ht hl hg hn h2 hv hu ho
        | true =>
          have kv := mv_nat hv
          have ku := mv_nat hu
          have ko := mv_nat ho
          have z1 : 0 < M.length := by obtain ⟨p, n, L, _, rfl, h, _⟩ := kv; rw [List.length_map]; exact h.m1
          have z2 : 0 < N.length := by obtain ⟨p, n, L, _, rfl, h, _⟩ := ku; rw [List.length_map]; exact h.m1
          by_cases e1 : M[0].length = N.length
          rotate_left
          · exact mg_f q M N O x hx hy hz ht hl hg hn h2 hv hu ho z1 e1
          by_cases e2 : N[0].length = O.length
          rotate_left
          · exact mg_g q M N O x hx hy hz ht hl hg hn h2 hv hu ho z1 z2 e1 e2
          obtain ⟨p, m, L, rfl, rfl, hL, _⟩ := kv
          obtain ⟨p2, n, K, hp2, rfl, hK, _⟩ := ku
          obtain rfl : p = p2 := by omega
          obtain ⟨p3, r, J, hp3, rfl, hJ, _⟩ := ko
          obtain rfl : p = p3 := by omega
          have f1 : m = K.length := by
            rw [List.length_map] at e1
            rw [← e1, List.getElem_map, nl_len]
            exact (hL.res _ (List.getElem_mem (by rw [List.length_map] at z1; exact z1))).1.symm
          have f2 : n = J.length := by
            rw [List.length_map] at e2
            rw [← e2, List.getElem_map, nl_len]
            exact (hK.res _ (List.getElem_mem (by rw [List.length_map] at z2; exact z2))).1.symm
          rw [List.length_map] at hx hy hz ⊢
          rw [List.length_map, List.length_map]
          by_cases h : x.length = n → x.all (resB (p : Int)) = false
          · exact mg_l p m n r L K J x hx hy hz ht hl hg h2 hL hK hJ f1 f2 h
          · have hr : x.all (resB (p : Int)) = true := by
              cases e : x.all (resB (p : Int)) with
              | true => rfl
              | false => exact absurd (fun _ => e) h
            have h : x.length = n := Classical.byContradiction fun e => h (fun e2 => absurd e2 e)
            obtain ⟨y, rfl, hy2⟩ := all_nl2 hr
            rw [nl_len] at h ht h2 ⊢
            exact mg_k p m n r L K J y hx hy hz ht hl hg h2 hL hK hJ f1 f2 h (fun c hc => Int.ofNat_lt.1 (hy2 c hc))
end Go.Proofs.YteipbcpnnojclaaDoor

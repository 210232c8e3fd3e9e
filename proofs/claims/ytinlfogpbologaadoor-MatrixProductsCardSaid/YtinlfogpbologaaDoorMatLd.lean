/- matrix: the law MatrixProducts. -/
import Derived.Test.YtinlfogpbologaaDoorMatLw
import Derived.Test.YtinlfogpbologaaDoorMatV
namespace Go.Proofs.YtinlfogpbologaaDoor
open Go.RowKit DivMath WordMath
set_option linter.unusedVariables false
set_option linter.unusedSimpArgs false
set_option maxRecDepth 100000 in
set_option maxHeartbeats 8000000 in
theorem mp_a {D : Nat → Prop} (q : Int) (M N : List (List Int)) (x : List Int) {xa ya za : Option Addr} {xk yk zk : Nat} {w : World} (hx : Fct.at w D (.mx (.slice xa M.length xk) M)) (hy : Fct.at w D (.mx (.slice ya N.length yk) N)) (hz : Fct.at w D (.rw (.slice za x.length zk) x.length 1 (icl x))) (hl0 : Laid w) (HG0 : [M, N].any (fun x => grM x) = true)  :
    Calls Tryd.prog 9 #[.int .i64 q, .slice xa M.length xk, .slice ya N.length yk, .slice za x.length zk] w fun e w' => e = .returned (.bool true) ∧ Below w.heap.size w w' := by
  have E0 : Hid (Env D w [] [.rw (.slice za x.length zk) x.length 1 (icl x), .mx (.slice ya N.length yk) N, .mx (.slice xa M.length xk) M] w) := Lib.hid ((((Env.start D w).arg (.mx (.slice xa M.length xk) M) hx).arg (.mx (.slice ya N.length yk) N) hy).arg (.rw (.slice za x.length zk) x.length 1 (icl x)) hz)
  clear hx hy hz
  go_enter Tryd.func9, Tryd.ntmps9
  have hl := Lib.hid hl0
  have HG := Lib.hid HG0
  clear hl0 HG0
  go_wp2_with fail
  refine (awake14_c (hl.out.below E0.out.bel)).mono ?_
  rintro e w1 ⟨rfl, hb⟩
  have E1 : Hid (Env D w [] [.rw (.slice za x.length zk) x.length 1 (icl x), .mx (.slice ya N.length yk) N, .mx (.slice xa M.length xk) M] w1) := Lib.hid (E0.out.below hb)
  clear E0 hb
  have E2 : Hid (Env D w [(w1.heap.size, 40, [.slice xa M.length xk, .slice ya N.length yk])] [.rw (.slice za x.length zk) x.length 1 (icl x), .mx (.slice ya N.length yk) N, .mx (.slice xa M.length xk) M] _) := Lib.hid ((E1.out.push 40 [.slice xa M.length xk, .slice ya N.length yk] (w1.heap.size) (by simp)))
  go_wp2_with fail
  refine (great14_c (t := true) [M, N] (xb := w1.heap.size) (xo := 0) (xk := 2) (gMats.two (by simp) (by simp) (E2.out.bx 0 rfl) (E2.out.fc 2 rfl) (E2.out.fc 1 rfl)) HG.out (by simp)).mono ?_
  rintro e w2 ⟨rfl, hb⟩
  have E3 : Hid (Env D w [(w1.heap.size, 40, [.slice xa M.length xk, .slice ya N.length yk])] [.rw (.slice za x.length zk) x.length 1 (icl x), .mx (.slice ya N.length yk) N, .mx (.slice xa M.length xk) M] w2) := Lib.hid (E2.out.below hb)
  clear E1 E2 hb
  have hfin := Lib.hid E3.out.bel
  go_wp2
  go_ret
  exact ⟨rfl, hfin.out⟩
set_option maxRecDepth 100000 in
set_option maxHeartbeats 8000000 in
theorem mp_b {D : Nat → Prop} (q : Int) (M N : List (List Int)) (x : List Int) {xa ya za : Option Addr} {xk yk zk : Nat} {w : World} (hx : Fct.at w D (.mx (.slice xa M.length xk) M)) (hy : Fct.at w D (.mx (.slice ya N.length yk) N)) (hz : Fct.at w D (.rw (.slice za x.length zk) x.length 1 (icl x))) (hl0 : Laid w) (HG0 : [M, N].any (fun x => grM x) = false) (h1 : 100 < x.length) :
    Calls Tryd.prog 9 #[.int .i64 q, .slice xa M.length xk, .slice ya N.length yk, .slice za x.length zk] w fun e w' => e = .returned (.bool true) ∧ Below w.heap.size w w' := by
  have E0 : Hid (Env D w [] [.rw (.slice za x.length zk) x.length 1 (icl x), .mx (.slice ya N.length yk) N, .mx (.slice xa M.length xk) M] w) := Lib.hid ((((Env.start D w).arg (.mx (.slice xa M.length xk) M) hx).arg (.mx (.slice ya N.length yk) N) hy).arg (.rw (.slice za x.length zk) x.length 1 (icl x)) hz)
  clear hx hy hz
  go_enter Tryd.func9, Tryd.ntmps9
  have hl := Lib.hid hl0
  have HG := Lib.hid HG0
  clear hl0 HG0
  go_wp2_with fail
  refine (awake14_c (hl.out.below E0.out.bel)).mono ?_
  rintro e w1 ⟨rfl, hb⟩
  have E1 : Hid (Env D w [] [.rw (.slice za x.length zk) x.length 1 (icl x), .mx (.slice ya N.length yk) N, .mx (.slice xa M.length xk) M] w1) := Lib.hid (E0.out.below hb)
  clear E0 hb
  have d3 : decide ((100 : Int) < (x.length : Int)) = true := decide_eq_true (by omega)
  have d3n : decide (100 < x.length) = true := decide_eq_true (by omega)
  clear h1
  have E2 : Hid (Env D w [(w1.heap.size, 40, [.slice xa M.length xk, .slice ya N.length yk])] [.rw (.slice za x.length zk) x.length 1 (icl x), .mx (.slice ya N.length yk) N, .mx (.slice xa M.length xk) M] _) := Lib.hid ((E1.out.push 40 [.slice xa M.length xk, .slice ya N.length yk] (w1.heap.size) (by simp)))
  go_wp2_with fail
  refine (great14_c (t := false) [M, N] (xb := w1.heap.size) (xo := 0) (xk := 2) (gMats.two (by simp) (by simp) (E2.out.bx 0 rfl) (E2.out.fc 2 rfl) (E2.out.fc 1 rfl)) HG.out (by simp)).mono ?_
  rintro e w2 ⟨rfl, hb⟩
  have E3 : Hid (Env D w [(w1.heap.size, 40, [.slice xa M.length xk, .slice ya N.length yk])] [.rw (.slice za x.length zk) x.length 1 (icl x), .mx (.slice ya N.length yk) N, .mx (.slice xa M.length xk) M] w2) := Lib.hid (E2.out.below hb)
  clear E1 E2 hb
  have hfin := Lib.hid E3.out.bel
  go_wp2
  go_ret
  exact ⟨rfl, hfin.out⟩
set_option maxRecDepth 100000 in
set_option maxHeartbeats 8000000 in
theorem mp_c {D : Nat → Prop} (q : Int) (M N : List (List Int)) (x : List Int) {xa ya za : Option Addr} {xk yk zk : Nat} {w : World} (hx : Fct.at w D (.mx (.slice xa M.length xk) M)) (hy : Fct.at w D (.mx (.slice ya N.length yk) N)) (hz : Fct.at w D (.rw (.slice za x.length zk) x.length 1 (icl x))) (hl0 : Laid w) (HG0 : [M, N].any (fun x => grM x) = false) (hn : -9223372036854775808 ≤ q ∧ q ≤ 9223372036854775807) (h1 : x.length ≤ 100) (hv0 : mvB q M = false) :
    Calls Tryd.prog 9 #[.int .i64 q, .slice xa M.length xk, .slice ya N.length yk, .slice za x.length zk] w fun e w' => e = .returned (.bool true) ∧ Below w.heap.size w w' := by
  have E0 : Hid (Env D w [] [.rw (.slice za x.length zk) x.length 1 (icl x), .mx (.slice ya N.length yk) N, .mx (.slice xa M.length xk) M] w) := Lib.hid ((((Env.start D w).arg (.mx (.slice xa M.length xk) M) hx).arg (.mx (.slice ya N.length yk) N) hy).arg (.rw (.slice za x.length zk) x.length 1 (icl x)) hz)
  clear hx hy hz
  go_enter Tryd.func9, Tryd.ntmps9
  have hl := Lib.hid hl0
  have HG := Lib.hid HG0
  have hv := Lib.hid hv0
  clear hl0 HG0 hv0
  go_wp2_with fail
  refine (awake14_c (hl.out.below E0.out.bel)).mono ?_
  rintro e w1 ⟨rfl, hb⟩
  have E1 : Hid (Env D w [] [.rw (.slice za x.length zk) x.length 1 (icl x), .mx (.slice ya N.length yk) N, .mx (.slice xa M.length xk) M] w1) := Lib.hid (E0.out.below hb)
  clear E0 hb
  have d3 : decide ((100 : Int) < (x.length : Int)) = false := decide_eq_false (by omega)
  have d3n : decide (100 < x.length) = false := decide_eq_false (by omega)
  have E2 : Hid (Env D w [(w1.heap.size, 40, [.slice xa M.length xk, .slice ya N.length yk])] [.rw (.slice za x.length zk) x.length 1 (icl x), .mx (.slice ya N.length yk) N, .mx (.slice xa M.length xk) M] _) := Lib.hid ((E1.out.push 40 [.slice xa M.length xk, .slice ya N.length yk] (w1.heap.size) (by simp)))
  go_wp2_with fail
  refine (great14_c (t := false) [M, N] (xb := w1.heap.size) (xo := 0) (xk := 2) (gMats.two (by simp) (by simp) (E2.out.bx 0 rfl) (E2.out.fc 2 rfl) (E2.out.fc 1 rfl)) HG.out (by simp)).mono ?_
  rintro e w2 ⟨rfl, hb⟩
  have E3 : Hid (Env D w [(w1.heap.size, 40, [.slice xa M.length xk, .slice ya N.length yk])] [.rw (.slice za x.length zk) x.length 1 (icl x), .mx (.slice ya N.length yk) N, .mx (.slice xa M.length xk) M] w2) := Lib.hid (E2.out.below hb)
  clear E1 E2 hb
  go_wp2_with fail
  refine (mMul_a q M N (E3.out.fc 2 rfl) (E3.out.fc 1 rfl) (hl.out.below E3.out.bel) hn hv.out).mono ?_
  rintro e w3 ⟨rfl, hb⟩
  have E4 : Hid (Env D w [(w1.heap.size, 40, [.slice xa M.length xk, .slice ya N.length yk])] [.rw (.slice za x.length zk) x.length 1 (icl x), .mx (.slice ya N.length yk) N, .mx (.slice xa M.length xk) M] w3) := Lib.hid (E3.out.below hb)
  clear E3 hb
  go_wp2_with fail
  refine (Apply_no q M x (E4.out.fc 2 rfl) (E4.out.fc 0 rfl) (hl.out.below E4.out.bel) hn hv.out).mono ?_
  rintro e w4 ⟨rfl, hb⟩
  have E5 : Hid (Env D w [(w1.heap.size, 40, [.slice xa M.length xk, .slice ya N.length yk])] [.rw (.slice za x.length zk) x.length 1 (icl x), .mx (.slice ya N.length yk) N, .mx (.slice xa M.length xk) M] w4) := Lib.hid (E4.out.below hb)
  clear E4 hb
  go_wp2_with fail
  refine (Rank_no q M (E5.out.fc 2 rfl) (hl.out.below E5.out.bel) hn hv.out).mono ?_
  rintro e w5 ⟨rfl, hb⟩
  have E6 : Hid (Env D w [(w1.heap.size, 40, [.slice xa M.length xk, .slice ya N.length yk])] [.rw (.slice za x.length zk) x.length 1 (icl x), .mx (.slice ya N.length yk) N, .mx (.slice xa M.length xk) M] w5) := Lib.hid (E5.out.below hb)
  clear E5 hb
  go_wp2_with fail
  refine (rMValid_c q M (E6.out.fc 2 rfl) hn.1 hv.out).mono ?_
  rintro e w6 ⟨rfl, hb⟩
  have E7 : Hid (Env D w [(w1.heap.size, 40, [.slice xa M.length xk, .slice ya N.length yk])] [.rw (.slice za x.length zk) x.length 1 (icl x), .mx (.slice ya N.length yk) N, .mx (.slice xa M.length xk) M] w6) := Lib.hid (E6.out.below hb)
  clear E6 hb
  go_wp2_with fail
  refine (mValid_c q M (E7.out.fc 2 rfl) (hl.out.below E7.out.bel) hn hv.out).mono ?_
  rintro e w7 ⟨rfl, hb⟩
  have E8 : Hid (Env D w [(w1.heap.size, 40, [.slice xa M.length xk, .slice ya N.length yk])] [.rw (.slice za x.length zk) x.length 1 (icl x), .mx (.slice ya N.length yk) N, .mx (.slice xa M.length xk) M] w7) := Lib.hid (E7.out.below hb)
  clear E7 hb
  have hfin := Lib.hid E8.out.bel
  go_wp2
  go_ret
  exact ⟨rfl, hfin.out⟩
set_option maxRecDepth 100000 in
set_option maxHeartbeats 8000000 in
theorem mp_i1 {D : Nat → Prop} (q m : Nat) (L : List (List Nat)) (N : List (List Int)) (x : List Int) {xa ya za : Option Addr} {xk yk zk : Nat} {w : World} (hx : Fct.at w D (.mx (.slice xa L.length xk) (L.map nl))) (hy : Fct.at w D (.mx (.slice ya N.length yk) N)) (hz : Fct.at w D (.rw (.slice za x.length zk) x.length 1 (icl x))) (hl0 : Laid w) (HG0 : [L.map nl, N].any (fun x => grM x) = false) (h1 : x.length ≤ 100) (hv0 : MvI q m L) (hu0 : mvB (q : Int) N = false) (hs0 : ¬ x.length = m) :
    Calls Tryd.prog 9 #[.int .i64 (q : Nat), .slice xa L.length xk, .slice ya N.length yk, .slice za x.length zk] w fun e w' => e = .returned (.bool true) ∧ Below w.heap.size w w' := by
  have E0 : Hid (Env D w [] [.rw (.slice za x.length zk) x.length 1 (icl x), .mx (.slice ya N.length yk) N, .mx (.slice xa L.length xk) (L.map nl)] w) := Lib.hid ((((Env.start D w).arg (.mx (.slice xa L.length xk) (L.map nl)) hx).arg (.mx (.slice ya N.length yk) N) hy).arg (.rw (.slice za x.length zk) x.length 1 (icl x)) hz)
  clear hx hy hz
  go_enter Tryd.func9, Tryd.ntmps9
  have hl := Lib.hid hl0
  have HG := Lib.hid HG0
  have hv := Lib.hid hv0
  have hu := Lib.hid hu0
  have hs := Lib.hid hs0
  clear hl0 HG0 hv0 hu0 hs0
  go_wp2_with fail
  refine (awake14_c (hl.out.below E0.out.bel)).mono ?_
  rintro e w1 ⟨rfl, hb⟩
  have E1 : Hid (Env D w [] [.rw (.slice za x.length zk) x.length 1 (icl x), .mx (.slice ya N.length yk) N, .mx (.slice xa L.length xk) (L.map nl)] w1) := Lib.hid (E0.out.below hb)
  clear E0 hb
  have hz : 0 < L.length := hv.out.m1
  have hzI : (0 : Int) < (L.length : Int) := by omega
  have HL0 : Hid (L[0].length = m) := Lib.hid (hv.out.res _ (List.getElem_mem hz)).1
  have hnn : -9223372036854775808 ≤ (q : Int) := by omega
  have d3 : decide ((100 : Int) < (x.length : Int)) = false := decide_eq_false (by omega)
  have d3n : decide (100 < x.length) = false := decide_eq_false (by omega)
  have E2 : Hid (Env D w [(w1.heap.size, 40, [.slice xa L.length xk, .slice ya N.length yk])] [.rw (.slice za x.length zk) x.length 1 (icl x), .mx (.slice ya N.length yk) N, .mx (.slice xa L.length xk) (L.map nl)] _) := Lib.hid ((E1.out.push 40 [.slice xa L.length xk, .slice ya N.length yk] (w1.heap.size) (by simp)))
  go_wp2_with fail
  refine (great14_c (t := false) [L.map nl, N] (xb := w1.heap.size) (xo := 0) (xk := 2) (gMats.two (by simp) (by simp) (E2.out.bx 0 rfl) (E2.out.fc 2 rfl) (E2.out.fc 1 rfl)) HG.out (by simp)).mono ?_
  rintro e w2 ⟨rfl, hb⟩
  have E3 : Hid (Env D w [(w1.heap.size, 40, [.slice xa L.length xk, .slice ya N.length yk])] [.rw (.slice za x.length zk) x.length 1 (icl x), .mx (.slice ya N.length yk) N, .mx (.slice xa L.length xk) (L.map nl)] w2) := Lib.hid (E2.out.below hb)
  clear E1 E2 hb
  go_wp2_with fail
  refine (mMulN_b (E3.out.fc 2 rfl) (E3.out.fc 1 rfl) (hl.out.below E3.out.bel) hv.out hu.out).mono ?_
  rintro e w3 ⟨rfl, hb⟩
  have E4 : Hid (Env D w [(w1.heap.size, 40, [.slice xa L.length xk, .slice ya N.length yk])] [.rw (.slice za x.length zk) x.length 1 (icl x), .mx (.slice ya N.length yk) N, .mx (.slice xa L.length xk) (L.map nl)] w3) := Lib.hid (E3.out.below hb)
  clear E3 hb
  go_wp2_with fail
  refine (Apply_len q m L x (E4.out.fc 2 rfl) (E4.out.fc 0 rfl) (hl.out.below E4.out.bel) hv.out hs.out).mono ?_
  rintro e w4 ⟨rfl, hb⟩
  have E5 : Hid (Env D w [(w1.heap.size, 40, [.slice xa L.length xk, .slice ya N.length yk])] [.rw (.slice za x.length zk) x.length 1 (icl x), .mx (.slice ya N.length yk) N, .mx (.slice xa L.length xk) (L.map nl)] w4) := Lib.hid (E4.out.below hb)
  clear E4 hb
  go_wp2_with fail
  refine (Rank_ok q m L (E5.out.fc 2 rfl) (hl.out.below E5.out.bel) hv.out).mono ?_
  rintro e w5 ⟨rfl, hb⟩
  have E6 : Hid (Env D w [(w1.heap.size, 40, [.slice xa L.length xk, .slice ya N.length yk])] [.rw (.slice za x.length zk) x.length 1 (icl x), .mx (.slice ya N.length yk) N, .mx (.slice xa L.length xk) (L.map nl)] w5) := Lib.hid (E5.out.below hb)
  clear E5 hb
  go_wp2_with fail
  refine (rMValidN (E6.out.fc 2 rfl) hv.out).mono ?_
  rintro e w6 ⟨rfl, hb⟩
  have E7 : Hid (Env D w [(w1.heap.size, 40, [.slice xa L.length xk, .slice ya N.length yk])] [.rw (.slice za x.length zk) x.length 1 (icl x), .mx (.slice ya N.length yk) N, .mx (.slice xa L.length xk) (L.map nl)] w6) := Lib.hid (E6.out.below hb)
  clear E6 hb
  go_wp2_with fail
  refine (mValidN (E7.out.fc 2 rfl) (hl.out.below E7.out.bel) hv.out).mono ?_
  rintro e w7 ⟨rfl, hb⟩
  have E8 : Hid (Env D w [(w1.heap.size, 40, [.slice xa L.length xk, .slice ya N.length yk])] [.rw (.slice za x.length zk) x.length 1 (icl x), .mx (.slice ya N.length yk) N, .mx (.slice xa L.length xk) (L.map nl)] w7) := Lib.hid (E7.out.below hb)
  clear E7 hb
  go_wp2_with fail
  refine (rMValid_c (q : Int) N (E8.out.fc 1 rfl) hnn hu.out).mono ?_
  rintro e w8 ⟨rfl, hb⟩
  have E9 : Hid (Env D w [(w1.heap.size, 40, [.slice xa L.length xk, .slice ya N.length yk])] [.rw (.slice za x.length zk) x.length 1 (icl x), .mx (.slice ya N.length yk) N, .mx (.slice xa L.length xk) (L.map nl)] w8) := Lib.hid (E8.out.below hb)
  clear E8 hb
  go_wp2_with fail
  refine (rRank_c q m L (E9.out.fc 2 rfl) hv.out).mono ?_
  rintro e w9 ⟨rfl, hb⟩
  have E10 : Hid (Env D w [(w1.heap.size, 40, [.slice xa L.length xk, .slice ya N.length yk])] [.rw (.slice za x.length zk) x.length 1 (icl x), .mx (.slice ya N.length yk) N, .mx (.slice xa L.length xk) (L.map nl)] w9) := Lib.hid (E9.out.below hb)
  clear E9 hb
  have k1 : ((x.length : Int) != (L[0].length : Int)) = true := by have h1 := HL0.out; have h2 := hs.out; rw [bne_iff_ne]; omega
  have k2 : (x.length != L[0].length) = true := by have h1 := HL0.out; have h2 := hs.out; rw [bne_iff_ne]; omega
  go_upto_region 20 with (fail)
  obtain ⟨xab, xao, rfl⟩ := Mx.addrN (E10.out.fc 2 rfl) hz
  obtain ⟨ua, uk, E110⟩ := E10.out.elMN 2 rfl (0) hz
  have E11 : Hid (Env D w [(w1.heap.size, 40, [.slice (some ⟨xab, xao, none⟩) L.length xk, .slice ya N.length yk])] [.ce xab (xao) (.slice ua L[0].length uk), .rw (.slice ua L[0].length uk) L[0].length 1 (ncl L[0]), .rw (.slice za x.length zk) x.length 1 (icl x), .mx (.slice ya N.length yk) N, .mx (.slice (some ⟨xab, xao, none⟩) L.length xk) (L.map nl)] _) := Lib.hid E110
  clear E110 E10
  have u0 := (E11.out.fc 0 rfl).2
  have hfin := Lib.hid E11.out.bel
  go_wp2
  go_ret
  exact ⟨rfl, hfin.out⟩
set_option maxRecDepth 100000 in
set_option maxHeartbeats 8000000 in
theorem mp_i2 {D : Nat → Prop} (q m : Nat) (L : List (List Nat)) (N : List (List Int)) (x : List Int) {xa ya za : Option Addr} {xk yk zk : Nat} {w : World} (hx : Fct.at w D (.mx (.slice xa L.length xk) (L.map nl))) (hy : Fct.at w D (.mx (.slice ya N.length yk) N)) (hz : Fct.at w D (.rw (.slice za x.length zk) x.length 1 (icl x))) (hl0 : Laid w) (HG0 : [L.map nl, N].any (fun x => grM x) = false) (h1 : x.length ≤ 100) (hv0 : MvI q m L) (hu0 : mvB (q : Int) N = false) (hs0 : x.length = m) (hr0 : x.all (resB (q : Int)) = false) :
    Calls Tryd.prog 9 #[.int .i64 (q : Nat), .slice xa L.length xk, .slice ya N.length yk, .slice za x.length zk] w fun e w' => e = .returned (.bool true) ∧ Below w.heap.size w w' := by
  have E0 : Hid (Env D w [] [.rw (.slice za x.length zk) x.length 1 (icl x), .mx (.slice ya N.length yk) N, .mx (.slice xa L.length xk) (L.map nl)] w) := Lib.hid ((((Env.start D w).arg (.mx (.slice xa L.length xk) (L.map nl)) hx).arg (.mx (.slice ya N.length yk) N) hy).arg (.rw (.slice za x.length zk) x.length 1 (icl x)) hz)
  clear hx hy hz
  go_enter Tryd.func9, Tryd.ntmps9
  have hl := Lib.hid hl0
  have HG := Lib.hid HG0
  have hv := Lib.hid hv0
  have hu := Lib.hid hu0
  have hs := Lib.hid hs0
  have hr := Lib.hid hr0
  clear hl0 HG0 hv0 hu0 hs0 hr0
  go_wp2_with fail
  refine (awake14_c (hl.out.below E0.out.bel)).mono ?_
  rintro e w1 ⟨rfl, hb⟩
  have E1 : Hid (Env D w [] [.rw (.slice za x.length zk) x.length 1 (icl x), .mx (.slice ya N.length yk) N, .mx (.slice xa L.length xk) (L.map nl)] w1) := Lib.hid (E0.out.below hb)
  clear E0 hb
  have hz : 0 < L.length := hv.out.m1
  have hzI : (0 : Int) < (L.length : Int) := by omega
  have HL0 : Hid (L[0].length = m) := Lib.hid (hv.out.res _ (List.getElem_mem hz)).1
  have hnn : -9223372036854775808 ≤ (q : Int) := by omega
  have d3 : decide ((100 : Int) < (x.length : Int)) = false := decide_eq_false (by omega)
  have d3n : decide (100 < x.length) = false := decide_eq_false (by omega)
  have E2 : Hid (Env D w [(w1.heap.size, 40, [.slice xa L.length xk, .slice ya N.length yk])] [.rw (.slice za x.length zk) x.length 1 (icl x), .mx (.slice ya N.length yk) N, .mx (.slice xa L.length xk) (L.map nl)] _) := Lib.hid ((E1.out.push 40 [.slice xa L.length xk, .slice ya N.length yk] (w1.heap.size) (by simp)))
  go_wp2_with fail
  refine (great14_c (t := false) [L.map nl, N] (xb := w1.heap.size) (xo := 0) (xk := 2) (gMats.two (by simp) (by simp) (E2.out.bx 0 rfl) (E2.out.fc 2 rfl) (E2.out.fc 1 rfl)) HG.out (by simp)).mono ?_
  rintro e w2 ⟨rfl, hb⟩
  have E3 : Hid (Env D w [(w1.heap.size, 40, [.slice xa L.length xk, .slice ya N.length yk])] [.rw (.slice za x.length zk) x.length 1 (icl x), .mx (.slice ya N.length yk) N, .mx (.slice xa L.length xk) (L.map nl)] w2) := Lib.hid (E2.out.below hb)
  clear E1 E2 hb
  go_wp2_with fail
  refine (mMulN_b (E3.out.fc 2 rfl) (E3.out.fc 1 rfl) (hl.out.below E3.out.bel) hv.out hu.out).mono ?_
  rintro e w3 ⟨rfl, hb⟩
  have E4 : Hid (Env D w [(w1.heap.size, 40, [.slice xa L.length xk, .slice ya N.length yk])] [.rw (.slice za x.length zk) x.length 1 (icl x), .mx (.slice ya N.length yk) N, .mx (.slice xa L.length xk) (L.map nl)] w3) := Lib.hid (E3.out.below hb)
  clear E3 hb
  go_wp2_with fail
  refine (Apply_rng q m L x (E4.out.fc 2 rfl) (E4.out.fc 0 rfl) (hl.out.below E4.out.bel) hv.out hs.out hr.out).mono ?_
  rintro e w4 ⟨rfl, hb⟩
  have E5 : Hid (Env D w [(w1.heap.size, 40, [.slice xa L.length xk, .slice ya N.length yk])] [.rw (.slice za x.length zk) x.length 1 (icl x), .mx (.slice ya N.length yk) N, .mx (.slice xa L.length xk) (L.map nl)] w4) := Lib.hid (E4.out.below hb)
  clear E4 hb
  go_wp2_with fail
  refine (Rank_ok q m L (E5.out.fc 2 rfl) (hl.out.below E5.out.bel) hv.out).mono ?_
  rintro e w5 ⟨rfl, hb⟩
  have E6 : Hid (Env D w [(w1.heap.size, 40, [.slice xa L.length xk, .slice ya N.length yk])] [.rw (.slice za x.length zk) x.length 1 (icl x), .mx (.slice ya N.length yk) N, .mx (.slice xa L.length xk) (L.map nl)] w5) := Lib.hid (E5.out.below hb)
  clear E5 hb
  go_wp2_with fail
  refine (rMValidN (E6.out.fc 2 rfl) hv.out).mono ?_
  rintro e w6 ⟨rfl, hb⟩
  have E7 : Hid (Env D w [(w1.heap.size, 40, [.slice xa L.length xk, .slice ya N.length yk])] [.rw (.slice za x.length zk) x.length 1 (icl x), .mx (.slice ya N.length yk) N, .mx (.slice xa L.length xk) (L.map nl)] w6) := Lib.hid (E6.out.below hb)
  clear E6 hb
  go_wp2_with fail
  refine (mValidN (E7.out.fc 2 rfl) (hl.out.below E7.out.bel) hv.out).mono ?_
  rintro e w7 ⟨rfl, hb⟩
  have E8 : Hid (Env D w [(w1.heap.size, 40, [.slice xa L.length xk, .slice ya N.length yk])] [.rw (.slice za x.length zk) x.length 1 (icl x), .mx (.slice ya N.length yk) N, .mx (.slice xa L.length xk) (L.map nl)] w7) := Lib.hid (E7.out.below hb)
  clear E7 hb
  go_wp2_with fail
  refine (rMValid_c (q : Int) N (E8.out.fc 1 rfl) hnn hu.out).mono ?_
  rintro e w8 ⟨rfl, hb⟩
  have E9 : Hid (Env D w [(w1.heap.size, 40, [.slice xa L.length xk, .slice ya N.length yk])] [.rw (.slice za x.length zk) x.length 1 (icl x), .mx (.slice ya N.length yk) N, .mx (.slice xa L.length xk) (L.map nl)] w8) := Lib.hid (E8.out.below hb)
  clear E8 hb
  go_wp2_with fail
  refine (rRank_c q m L (E9.out.fc 2 rfl) hv.out).mono ?_
  rintro e w9 ⟨rfl, hb⟩
  have E10 : Hid (Env D w [(w1.heap.size, 40, [.slice xa L.length xk, .slice ya N.length yk])] [.rw (.slice za x.length zk) x.length 1 (icl x), .mx (.slice ya N.length yk) N, .mx (.slice xa L.length xk) (L.map nl)] w9) := Lib.hid (E9.out.below hb)
  clear E9 hb
  have k1 : ((x.length : Int) != (L[0].length : Int)) = false := by have h1 := HL0.out; have h2 := hs.out; rw [h1, h2]; simp
  have k2 : (x.length != L[0].length) = false := by have h1 := HL0.out; have h2 := hs.out; rw [h1, h2]; simp
  go_upto_region 20 with (fail)
  obtain ⟨xab, xao, rfl⟩ := Mx.addrN (E10.out.fc 2 rfl) hz
  obtain ⟨ua, uk, E110⟩ := E10.out.elMN 2 rfl (0) hz
  have E11 : Hid (Env D w [(w1.heap.size, 40, [.slice (some ⟨xab, xao, none⟩) L.length xk, .slice ya N.length yk])] [.ce xab (xao) (.slice ua L[0].length uk), .rw (.slice ua L[0].length uk) L[0].length 1 (ncl L[0]), .rw (.slice za x.length zk) x.length 1 (icl x), .mx (.slice ya N.length yk) N, .mx (.slice (some ⟨xab, xao, none⟩) L.length xk) (L.map nl)] _) := Lib.hid E110
  clear E110 E10
  have u0 := (E11.out.fc 0 rfl).2
  go_wp2_with fail
  refine (rVector_c (q : Int) x (E11.out.fc 2 rfl) hr.out (by omega)).mono ?_
  rintro e w10 ⟨rfl, hb⟩
  have E12 : Hid (Env D w [(w1.heap.size, 40, [.slice (some ⟨xab, xao, none⟩) L.length xk, .slice ya N.length yk])] [.ce xab (xao) (.slice ua L[0].length uk), .rw (.slice ua L[0].length uk) L[0].length 1 (ncl L[0]), .rw (.slice za x.length zk) x.length 1 (icl x), .mx (.slice ya N.length yk) N, .mx (.slice (some ⟨xab, xao, none⟩) L.length xk) (L.map nl)] w10) := Lib.hid (E11.out.below hb)
  clear u0 E11 hb
  have hfin := Lib.hid E12.out.bel
  go_wp2
  go_ret
  exact ⟨rfl, hfin.out⟩
set_option maxRecDepth 100000 in
set_option maxHeartbeats 8000000 in
theorem mp_i3 {D : Nat → Prop} (q m : Nat) (L : List (List Nat)) (N : List (List Int)) (x : List Nat) {xa ya za : Option Addr} {xk yk zk : Nat} {w : World} (hx : Fct.at w D (.mx (.slice xa L.length xk) (L.map nl))) (hy : Fct.at w D (.mx (.slice ya N.length yk) N)) (hz : Fct.at w D (.rw (.slice za x.length zk) x.length 1 (ncl x))) (hl0 : Laid w) (HG0 : [L.map nl, N].any (fun x => grM x) = false) (h1 : x.length ≤ 100) (hv0 : MvI q m L) (hu0 : mvB (q : Int) N = false) (hs0 : x.length = m) (hr0 : ∀ c ∈ x, c < q) :
    Calls Tryd.prog 9 #[.int .i64 (q : Nat), .slice xa L.length xk, .slice ya N.length yk, .slice za x.length zk] w fun e w' => e = .returned (.bool true) ∧ Below w.heap.size w w' := by
  have E0 : Hid (Env D w [] [.rw (.slice za x.length zk) x.length 1 (ncl x), .mx (.slice ya N.length yk) N, .mx (.slice xa L.length xk) (L.map nl)] w) := Lib.hid ((((Env.start D w).arg (.mx (.slice xa L.length xk) (L.map nl)) hx).arg (.mx (.slice ya N.length yk) N) hy).arg (.rw (.slice za x.length zk) x.length 1 (ncl x)) hz)
  clear hx hy hz
  go_enter Tryd.func9, Tryd.ntmps9
  have hl := Lib.hid hl0
  have HG := Lib.hid HG0
  have hv := Lib.hid hv0
  have hu := Lib.hid hu0
  have hs := Lib.hid hs0
  have hr := Lib.hid hr0
  clear hl0 HG0 hv0 hu0 hs0 hr0
  go_wp2_with fail
  refine (awake14_c (hl.out.below E0.out.bel)).mono ?_
  rintro e w1 ⟨rfl, hb⟩
  have E1 : Hid (Env D w [] [.rw (.slice za x.length zk) x.length 1 (ncl x), .mx (.slice ya N.length yk) N, .mx (.slice xa L.length xk) (L.map nl)] w1) := Lib.hid (E0.out.below hb)
  clear E0 hb
  have hz : 0 < L.length := hv.out.m1
  have hzI : (0 : Int) < (L.length : Int) := by omega
  have HL0 : Hid (L[0].length = m) := Lib.hid (hv.out.res _ (List.getElem_mem hz)).1
  have hnn : -9223372036854775808 ≤ (q : Int) := by omega
  have d3 : decide ((100 : Int) < (x.length : Int)) = false := decide_eq_false (by omega)
  have d3n : decide (100 < x.length) = false := decide_eq_false (by omega)
  have E2 : Hid (Env D w [(w1.heap.size, 40, [.slice xa L.length xk, .slice ya N.length yk])] [.rw (.slice za x.length zk) x.length 1 (ncl x), .mx (.slice ya N.length yk) N, .mx (.slice xa L.length xk) (L.map nl)] _) := Lib.hid ((E1.out.push 40 [.slice xa L.length xk, .slice ya N.length yk] (w1.heap.size) (by simp)))
  go_wp2_with fail
  refine (great14_c (t := false) [L.map nl, N] (xb := w1.heap.size) (xo := 0) (xk := 2) (gMats.two (by simp) (by simp) (E2.out.bx 0 rfl) (E2.out.fc 2 rfl) (E2.out.fc 1 rfl)) HG.out (by simp)).mono ?_
  rintro e w2 ⟨rfl, hb⟩
  have E3 : Hid (Env D w [(w1.heap.size, 40, [.slice xa L.length xk, .slice ya N.length yk])] [.rw (.slice za x.length zk) x.length 1 (ncl x), .mx (.slice ya N.length yk) N, .mx (.slice xa L.length xk) (L.map nl)] w2) := Lib.hid (E2.out.below hb)
  clear E1 E2 hb
  go_wp2_with fail
  refine (mMulN_b (E3.out.fc 2 rfl) (E3.out.fc 1 rfl) (hl.out.below E3.out.bel) hv.out hu.out).mono ?_
  rintro e w3 ⟨rfl, hb⟩
  have E4 : Hid (Env D w [(w1.heap.size, 40, [.slice xa L.length xk, .slice ya N.length yk])] [.rw (.slice za x.length zk) x.length 1 (ncl x), .mx (.slice ya N.length yk) N, .mx (.slice xa L.length xk) (L.map nl)] w3) := Lib.hid (E3.out.below hb)
  clear E3 hb
  go_wp2_with fail
  refine (Apply_ok q m L x (E4.out.fc 2 rfl) (E4.out.fc 0 rfl) (hl.out.below E4.out.bel) hv.out hs.out hr.out).mono ?_
  rintro e w4 ⟨⟨ra, rk, rfl, rh⟩, hb⟩
  have E5 : Hid (Env D w [(w1.heap.size, 40, [.slice xa L.length xk, .slice ya N.length yk])] [.rw (.slice ra (appT q L x).length rk) (appT q L x).length 1 (ncl (appT q L x)), .rw (.slice za x.length zk) x.length 1 (ncl x), .mx (.slice ya N.length yk) N, .mx (.slice xa L.length xk) (L.map nl)] w4) := Lib.hid (E4.out.got (E4.out.below hb) (.rw (.slice ra (appT q L x).length rk) (appT q L x).length 1 (ncl (appT q L x))) (Lib.hid (Rw.ge rh.out)).out)
  clear E4 hb
  go_wp2_with fail
  refine (Rank_ok q m L (E5.out.fc 3 rfl) (hl.out.below E5.out.bel) hv.out).mono ?_
  rintro e w5 ⟨rfl, hb⟩
  have E6 : Hid (Env D w [(w1.heap.size, 40, [.slice xa L.length xk, .slice ya N.length yk])] [.rw (.slice ra (appT q L x).length rk) (appT q L x).length 1 (ncl (appT q L x)), .rw (.slice za x.length zk) x.length 1 (ncl x), .mx (.slice ya N.length yk) N, .mx (.slice xa L.length xk) (L.map nl)] w5) := Lib.hid (E5.out.below hb)
  clear E5 hb
  go_wp2_with fail
  refine (rMValidN (E6.out.fc 3 rfl) hv.out).mono ?_
  rintro e w6 ⟨rfl, hb⟩
  have E7 : Hid (Env D w [(w1.heap.size, 40, [.slice xa L.length xk, .slice ya N.length yk])] [.rw (.slice ra (appT q L x).length rk) (appT q L x).length 1 (ncl (appT q L x)), .rw (.slice za x.length zk) x.length 1 (ncl x), .mx (.slice ya N.length yk) N, .mx (.slice xa L.length xk) (L.map nl)] w6) := Lib.hid (E6.out.below hb)
  clear E6 hb
  go_wp2_with fail
  refine (mValidN (E7.out.fc 3 rfl) (hl.out.below E7.out.bel) hv.out).mono ?_
  rintro e w7 ⟨rfl, hb⟩
  have E8 : Hid (Env D w [(w1.heap.size, 40, [.slice xa L.length xk, .slice ya N.length yk])] [.rw (.slice ra (appT q L x).length rk) (appT q L x).length 1 (ncl (appT q L x)), .rw (.slice za x.length zk) x.length 1 (ncl x), .mx (.slice ya N.length yk) N, .mx (.slice xa L.length xk) (L.map nl)] w7) := Lib.hid (E7.out.below hb)
  clear E7 hb
  go_wp2_with fail
  refine (rMValid_c (q : Int) N (E8.out.fc 2 rfl) hnn hu.out).mono ?_
  rintro e w8 ⟨rfl, hb⟩
  have E9 : Hid (Env D w [(w1.heap.size, 40, [.slice xa L.length xk, .slice ya N.length yk])] [.rw (.slice ra (appT q L x).length rk) (appT q L x).length 1 (ncl (appT q L x)), .rw (.slice za x.length zk) x.length 1 (ncl x), .mx (.slice ya N.length yk) N, .mx (.slice xa L.length xk) (L.map nl)] w8) := Lib.hid (E8.out.below hb)
  clear E8 hb
  go_wp2_with fail
  refine (rRank_c q m L (E9.out.fc 3 rfl) hv.out).mono ?_
  rintro e w9 ⟨rfl, hb⟩
  have E10 : Hid (Env D w [(w1.heap.size, 40, [.slice xa L.length xk, .slice ya N.length yk])] [.rw (.slice ra (appT q L x).length rk) (appT q L x).length 1 (ncl (appT q L x)), .rw (.slice za x.length zk) x.length 1 (ncl x), .mx (.slice ya N.length yk) N, .mx (.slice xa L.length xk) (L.map nl)] w9) := Lib.hid (E9.out.below hb)
  clear E9 hb
  have k1 : ((x.length : Int) != (L[0].length : Int)) = false := by have h1 := HL0.out; have h2 := hs.out; rw [h1, h2]; simp
  have k2 : (x.length != L[0].length) = false := by have h1 := HL0.out; have h2 := hs.out; rw [h1, h2]; simp
  go_upto_region 20 with (fail)
  obtain ⟨xab, xao, rfl⟩ := Mx.addrN (E10.out.fc 3 rfl) hz
  obtain ⟨ua, uk, E110⟩ := E10.out.elMN 3 rfl (0) hz
  have E11 : Hid (Env D w [(w1.heap.size, 40, [.slice (some ⟨xab, xao, none⟩) L.length xk, .slice ya N.length yk])] [.ce xab (xao) (.slice ua L[0].length uk), .rw (.slice ua L[0].length uk) L[0].length 1 (ncl L[0]), .rw (.slice ra (appT q L x).length rk) (appT q L x).length 1 (ncl (appT q L x)), .rw (.slice za x.length zk) x.length 1 (ncl x), .mx (.slice ya N.length yk) N, .mx (.slice (some ⟨xab, xao, none⟩) L.length xk) (L.map nl)] _) := Lib.hid E110
  clear E110 E10
  have u0 := (E11.out.fc 0 rfl).2
  go_wp2_with fail
  refine (rVecN (E11.out.fc 3 rfl) hr.out (by omega)).mono ?_
  rintro e w10 ⟨rfl, hb⟩
  have E12 : Hid (Env D w [(w1.heap.size, 40, [.slice (some ⟨xab, xao, none⟩) L.length xk, .slice ya N.length yk])] [.ce xab (xao) (.slice ua L[0].length uk), .rw (.slice ua L[0].length uk) L[0].length 1 (ncl L[0]), .rw (.slice ra (appT q L x).length rk) (appT q L x).length 1 (ncl (appT q L x)), .rw (.slice za x.length zk) x.length 1 (ncl x), .mx (.slice ya N.length yk) N, .mx (.slice (some ⟨xab, xao, none⟩) L.length xk) (L.map nl)] w10) := Lib.hid (E11.out.below hb)
  clear u0 E11 hb
  have m31 := Lib.hid hv.out.m30
  have n31 := Lib.hid hv.out.n30
  have hq2 : Hid (0 < q) := Lib.hid (by have := hv.out.q2; omega)
  go_wp2_with fail
  refine (rApply_c q m L x (E12.out.fc 5 rfl) (E12.out.fc 3 rfl) hq2.out hv.out.qT (Nat.le_trans m31.out (by omega)) hv.out.res hs.out hr.out (Nat.le_trans n31.out (by omega))).mono ?_
  rintro e w11 ⟨⟨sa, sk, rfl, sh⟩, hb⟩
  have E13 : Hid (Env D w [(w1.heap.size, 40, [.slice (some ⟨xab, xao, none⟩) L.length xk, .slice ya N.length yk])] [.rw (.slice sa (appT q L x).length sk) (appT q L x).length 1 (ncl (appT q L x)), .ce xab (xao) (.slice ua L[0].length uk), .rw (.slice ua L[0].length uk) L[0].length 1 (ncl L[0]), .rw (.slice ra (appT q L x).length rk) (appT q L x).length 1 (ncl (appT q L x)), .rw (.slice za x.length zk) x.length 1 (ncl x), .mx (.slice ya N.length yk) N, .mx (.slice (some ⟨xab, xao, none⟩) L.length xk) (L.map nl)] w11) := Lib.hid (E12.out.got (E12.out.below hb) (.rw (.slice sa (appT q L x).length sk) (appT q L x).length 1 (ncl (appT q L x))) (Lib.hid (Rw.ge sh.out)).out)
  clear E12 hb
  go_wp2_with fail
  refine (equalN_c (t := true) (a := appT q L x) (b := appT q L x) (E13.out.fc 3 rfl) (E13.out.fc 0 rfl) (by unfold appT; rw [tab_len]; exact Nat.le_trans m31.out (by omega)) (by unfold appT; rw [tab_len]; exact Nat.le_trans m31.out (by omega)) (by simp)).mono ?_
  rintro e w12 ⟨rfl, hb⟩
  have E14 : Hid (Env D w [(w1.heap.size, 40, [.slice (some ⟨xab, xao, none⟩) L.length xk, .slice ya N.length yk])] [.rw (.slice sa (appT q L x).length sk) (appT q L x).length 1 (ncl (appT q L x)), .ce xab (xao) (.slice ua L[0].length uk), .rw (.slice ua L[0].length uk) L[0].length 1 (ncl L[0]), .rw (.slice ra (appT q L x).length rk) (appT q L x).length 1 (ncl (appT q L x)), .rw (.slice za x.length zk) x.length 1 (ncl x), .mx (.slice ya N.length yk) N, .mx (.slice (some ⟨xab, xao, none⟩) L.length xk) (L.map nl)] w12) := Lib.hid (E13.out.below hb)
  clear E13 hb
  have hfin := Lib.hid E14.out.bel
  go_wp2
  go_ret
  exact ⟨rfl, hfin.out⟩
set_option maxRecDepth 100000 in
set_option maxHeartbeats 8000000 in
theorem mp_j1 {D : Nat → Prop} (q m n : Nat) (L K : List (List Nat)) (x : List Int) {xa ya za : Option Addr} {xk yk zk : Nat} {w : World} (hx : Fct.at w D (.mx (.slice xa L.length xk) (L.map nl))) (hy : Fct.at w D (.mx (.slice ya K.length yk) (K.map nl))) (hz : Fct.at w D (.rw (.slice za x.length zk) x.length 1 (icl x))) (hl0 : Laid w) (HG0 : [L.map nl, K.map nl].any (fun x => grM x) = false) (h1 : x.length ≤ 100) (hv0 : MvI q m L) (hu0 : MvI q n K) (hne0 : ¬ m = K.length) (hs0 : ¬ x.length = m) :
    Calls Tryd.prog 9 #[.int .i64 (q : Nat), .slice xa L.length xk, .slice ya K.length yk, .slice za x.length zk] w fun e w' => e = .returned (.bool true) ∧ Below w.heap.size w w' := by
  have E0 : Hid (Env D w [] [.rw (.slice za x.length zk) x.length 1 (icl x), .mx (.slice ya K.length yk) (K.map nl), .mx (.slice xa L.length xk) (L.map nl)] w) := Lib.hid ((((Env.start D w).arg (.mx (.slice xa L.length xk) (L.map nl)) hx).arg (.mx (.slice ya K.length yk) (K.map nl)) hy).arg (.rw (.slice za x.length zk) x.length 1 (icl x)) hz)
  clear hx hy hz
  go_enter Tryd.func9, Tryd.ntmps9
  have hl := Lib.hid hl0
  have HG := Lib.hid HG0
  have hv := Lib.hid hv0
  have hu := Lib.hid hu0
  have hs := Lib.hid hs0
  have hne := Lib.hid hne0
  clear hl0 HG0 hv0 hu0 hs0 hne0
  go_wp2_with fail
  refine (awake14_c (hl.out.below E0.out.bel)).mono ?_
  rintro e w1 ⟨rfl, hb⟩
  have E1 : Hid (Env D w [] [.rw (.slice za x.length zk) x.length 1 (icl x), .mx (.slice ya K.length yk) (K.map nl), .mx (.slice xa L.length xk) (L.map nl)] w1) := Lib.hid (E0.out.below hb)
  clear E0 hb
  have hz : 0 < L.length := hv.out.m1
  have hzI : (0 : Int) < (L.length : Int) := by omega
  have HL0 : Hid (L[0].length = m) := Lib.hid (hv.out.res _ (List.getElem_mem hz)).1
  have hnn : -9223372036854775808 ≤ (q : Int) := by omega
  have d3 : decide ((100 : Int) < (x.length : Int)) = false := decide_eq_false (by omega)
  have d3n : decide (100 < x.length) = false := decide_eq_false (by omega)
  have E2 : Hid (Env D w [(w1.heap.size, 40, [.slice xa L.length xk, .slice ya K.length yk])] [.rw (.slice za x.length zk) x.length 1 (icl x), .mx (.slice ya K.length yk) (K.map nl), .mx (.slice xa L.length xk) (L.map nl)] _) := Lib.hid ((E1.out.push 40 [.slice xa L.length xk, .slice ya K.length yk] (w1.heap.size) (by simp)))
  go_wp2_with fail
  refine (great14_c (t := false) [L.map nl, K.map nl] (xb := w1.heap.size) (xo := 0) (xk := 2) (gMats.two (by simp) (by simp) (E2.out.bx 0 rfl) (E2.out.fc 2 rfl) (E2.out.fc 1 rfl)) HG.out (by simp)).mono ?_
  rintro e w2 ⟨rfl, hb⟩
  have E3 : Hid (Env D w [(w1.heap.size, 40, [.slice xa L.length xk, .slice ya K.length yk])] [.rw (.slice za x.length zk) x.length 1 (icl x), .mx (.slice ya K.length yk) (K.map nl), .mx (.slice xa L.length xk) (L.map nl)] w2) := Lib.hid (E2.out.below hb)
  clear E1 E2 hb
  go_wp2_with fail
  refine (mMul_c q m n L K (E3.out.fc 2 rfl) (E3.out.fc 1 rfl) (hl.out.below E3.out.bel) hv.out hu.out hne.out).mono ?_
  rintro e w3 ⟨rfl, hb⟩
  have E4 : Hid (Env D w [(w1.heap.size, 40, [.slice xa L.length xk, .slice ya K.length yk])] [.rw (.slice za x.length zk) x.length 1 (icl x), .mx (.slice ya K.length yk) (K.map nl), .mx (.slice xa L.length xk) (L.map nl)] w3) := Lib.hid (E3.out.below hb)
  clear E3 hb
  go_wp2_with fail
  refine (Apply_len q m L x (E4.out.fc 2 rfl) (E4.out.fc 0 rfl) (hl.out.below E4.out.bel) hv.out hs.out).mono ?_
  rintro e w4 ⟨rfl, hb⟩
  have E5 : Hid (Env D w [(w1.heap.size, 40, [.slice xa L.length xk, .slice ya K.length yk])] [.rw (.slice za x.length zk) x.length 1 (icl x), .mx (.slice ya K.length yk) (K.map nl), .mx (.slice xa L.length xk) (L.map nl)] w4) := Lib.hid (E4.out.below hb)
  clear E4 hb
  go_wp2_with fail
  refine (Rank_ok q m L (E5.out.fc 2 rfl) (hl.out.below E5.out.bel) hv.out).mono ?_
  rintro e w5 ⟨rfl, hb⟩
  have E6 : Hid (Env D w [(w1.heap.size, 40, [.slice xa L.length xk, .slice ya K.length yk])] [.rw (.slice za x.length zk) x.length 1 (icl x), .mx (.slice ya K.length yk) (K.map nl), .mx (.slice xa L.length xk) (L.map nl)] w5) := Lib.hid (E5.out.below hb)
  clear E5 hb
  go_wp2_with fail
  refine (rMValidN (E6.out.fc 2 rfl) hv.out).mono ?_
  rintro e w6 ⟨rfl, hb⟩
  have E7 : Hid (Env D w [(w1.heap.size, 40, [.slice xa L.length xk, .slice ya K.length yk])] [.rw (.slice za x.length zk) x.length 1 (icl x), .mx (.slice ya K.length yk) (K.map nl), .mx (.slice xa L.length xk) (L.map nl)] w6) := Lib.hid (E6.out.below hb)
  clear E6 hb
  go_wp2_with fail
  refine (mValidN (E7.out.fc 2 rfl) (hl.out.below E7.out.bel) hv.out).mono ?_
  rintro e w7 ⟨rfl, hb⟩
  have E8 : Hid (Env D w [(w1.heap.size, 40, [.slice xa L.length xk, .slice ya K.length yk])] [.rw (.slice za x.length zk) x.length 1 (icl x), .mx (.slice ya K.length yk) (K.map nl), .mx (.slice xa L.length xk) (L.map nl)] w7) := Lib.hid (E7.out.below hb)
  clear E7 hb
  have n1 : ((L[0].length : Int) != (K.length : Int)) = true := by have h1 := HL0.out; have h2 := hne.out; rw [bne_iff_ne]; omega
  have n2 : (L[0].length != K.length) = true := by have h1 := HL0.out; have h2 := hne.out; rw [bne_iff_ne]; omega
  go_upto_region 11 with (fail)
  obtain ⟨xab, xao, rfl⟩ := Mx.addrN (E8.out.fc 2 rfl) hz
  obtain ⟨ua, uk, E90⟩ := E8.out.elMN 2 rfl (0) hz
  have E9 : Hid (Env D w [(w1.heap.size, 40, [.slice (some ⟨xab, xao, none⟩) L.length xk, .slice ya K.length yk])] [.ce xab (xao) (.slice ua L[0].length uk), .rw (.slice ua L[0].length uk) L[0].length 1 (ncl L[0]), .rw (.slice za x.length zk) x.length 1 (icl x), .mx (.slice ya K.length yk) (K.map nl), .mx (.slice (some ⟨xab, xao, none⟩) L.length xk) (L.map nl)] _) := Lib.hid E90
  clear E90 E8
  have u0 := (E9.out.fc 0 rfl).2
  go_wp2_with fail
  refine (rMValidN (E9.out.fc 3 rfl) hu.out).mono ?_
  rintro e w8 ⟨rfl, hb⟩
  have E10 : Hid (Env D w [(w1.heap.size, 40, [.slice (some ⟨xab, xao, none⟩) L.length xk, .slice ya K.length yk])] [.ce xab (xao) (.slice ua L[0].length uk), .rw (.slice ua L[0].length uk) L[0].length 1 (ncl L[0]), .rw (.slice za x.length zk) x.length 1 (icl x), .mx (.slice ya K.length yk) (K.map nl), .mx (.slice (some ⟨xab, xao, none⟩) L.length xk) (L.map nl)] w8) := Lib.hid (E9.out.below hb)
  clear u0 E9 hb
  have z1 := (E10.out.fc 0 rfl).2
  go_wp2_with fail
  refine (rRank_c q m L (E10.out.fc 4 rfl) hv.out).mono ?_
  rintro e w9 ⟨rfl, hb⟩
  have E11 : Hid (Env D w [(w1.heap.size, 40, [.slice (some ⟨xab, xao, none⟩) L.length xk, .slice ya K.length yk])] [.ce xab (xao) (.slice ua L[0].length uk), .rw (.slice ua L[0].length uk) L[0].length 1 (ncl L[0]), .rw (.slice za x.length zk) x.length 1 (icl x), .mx (.slice ya K.length yk) (K.map nl), .mx (.slice (some ⟨xab, xao, none⟩) L.length xk) (L.map nl)] w9) := Lib.hid (E10.out.below hb)
  clear z1 E10 hb
  have k1 : ((x.length : Int) != (L[0].length : Int)) = true := by have h1 := HL0.out; have h2 := hs.out; rw [bne_iff_ne]; omega
  have k2 : (x.length != L[0].length) = true := by have h1 := HL0.out; have h2 := hs.out; rw [bne_iff_ne]; omega
  have z2 := (E11.out.fc 0 rfl).2
  have hfin := Lib.hid E11.out.bel
  go_wp2
  go_ret
  exact ⟨rfl, hfin.out⟩
set_option maxRecDepth 100000 in
set_option maxHeartbeats 8000000 in
theorem mp_j2 {D : Nat → Prop} (q m n : Nat) (L K : List (List Nat)) (x : List Int) {xa ya za : Option Addr} {xk yk zk : Nat} {w : World} (hx : Fct.at w D (.mx (.slice xa L.length xk) (L.map nl))) (hy : Fct.at w D (.mx (.slice ya K.length yk) (K.map nl))) (hz : Fct.at w D (.rw (.slice za x.length zk) x.length 1 (icl x))) (hl0 : Laid w) (HG0 : [L.map nl, K.map nl].any (fun x => grM x) = false) (h1 : x.length ≤ 100) (hv0 : MvI q m L) (hu0 : MvI q n K) (hne0 : ¬ m = K.length) (hs0 : x.length = m) (hr0 : x.all (resB (q : Int)) = false) :
    Calls Tryd.prog 9 #[.int .i64 (q : Nat), .slice xa L.length xk, .slice ya K.length yk, .slice za x.length zk] w fun e w' => e = .returned (.bool true) ∧ Below w.heap.size w w' := by
  have E0 : Hid (Env D w [] [.rw (.slice za x.length zk) x.length 1 (icl x), .mx (.slice ya K.length yk) (K.map nl), .mx (.slice xa L.length xk) (L.map nl)] w) := Lib.hid ((((Env.start D w).arg (.mx (.slice xa L.length xk) (L.map nl)) hx).arg (.mx (.slice ya K.length yk) (K.map nl)) hy).arg (.rw (.slice za x.length zk) x.length 1 (icl x)) hz)
  clear hx hy hz
  go_enter Tryd.func9, Tryd.ntmps9
  have hl := Lib.hid hl0
  have HG := Lib.hid HG0
  have hv := Lib.hid hv0
  have hu := Lib.hid hu0
  have hs := Lib.hid hs0
  have hne := Lib.hid hne0
  have hr := Lib.hid hr0
  clear hl0 HG0 hv0 hu0 hs0 hne0 hr0
  go_wp2_with fail
  refine (awake14_c (hl.out.below E0.out.bel)).mono ?_
  rintro e w1 ⟨rfl, hb⟩
  have E1 : Hid (Env D w [] [.rw (.slice za x.length zk) x.length 1 (icl x), .mx (.slice ya K.length yk) (K.map nl), .mx (.slice xa L.length xk) (L.map nl)] w1) := Lib.hid (E0.out.below hb)
  clear E0 hb
  have hz : 0 < L.length := hv.out.m1
  have hzI : (0 : Int) < (L.length : Int) := by omega
  have HL0 : Hid (L[0].length = m) := Lib.hid (hv.out.res _ (List.getElem_mem hz)).1
  have hnn : -9223372036854775808 ≤ (q : Int) := by omega
  have d3 : decide ((100 : Int) < (x.length : Int)) = false := decide_eq_false (by omega)
  have d3n : decide (100 < x.length) = false := decide_eq_false (by omega)
  have E2 : Hid (Env D w [(w1.heap.size, 40, [.slice xa L.length xk, .slice ya K.length yk])] [.rw (.slice za x.length zk) x.length 1 (icl x), .mx (.slice ya K.length yk) (K.map nl), .mx (.slice xa L.length xk) (L.map nl)] _) := Lib.hid ((E1.out.push 40 [.slice xa L.length xk, .slice ya K.length yk] (w1.heap.size) (by simp)))
  go_wp2_with fail
  refine (great14_c (t := false) [L.map nl, K.map nl] (xb := w1.heap.size) (xo := 0) (xk := 2) (gMats.two (by simp) (by simp) (E2.out.bx 0 rfl) (E2.out.fc 2 rfl) (E2.out.fc 1 rfl)) HG.out (by simp)).mono ?_
  rintro e w2 ⟨rfl, hb⟩
  have E3 : Hid (Env D w [(w1.heap.size, 40, [.slice xa L.length xk, .slice ya K.length yk])] [.rw (.slice za x.length zk) x.length 1 (icl x), .mx (.slice ya K.length yk) (K.map nl), .mx (.slice xa L.length xk) (L.map nl)] w2) := Lib.hid (E2.out.below hb)
  clear E1 E2 hb
  go_wp2_with fail
  refine (mMul_c q m n L K (E3.out.fc 2 rfl) (E3.out.fc 1 rfl) (hl.out.below E3.out.bel) hv.out hu.out hne.out).mono ?_
  rintro e w3 ⟨rfl, hb⟩
  have E4 : Hid (Env D w [(w1.heap.size, 40, [.slice xa L.length xk, .slice ya K.length yk])] [.rw (.slice za x.length zk) x.length 1 (icl x), .mx (.slice ya K.length yk) (K.map nl), .mx (.slice xa L.length xk) (L.map nl)] w3) := Lib.hid (E3.out.below hb)
  clear E3 hb
  go_wp2_with fail
  refine (Apply_rng q m L x (E4.out.fc 2 rfl) (E4.out.fc 0 rfl) (hl.out.below E4.out.bel) hv.out hs.out hr.out).mono ?_
  rintro e w4 ⟨rfl, hb⟩
  have E5 : Hid (Env D w [(w1.heap.size, 40, [.slice xa L.length xk, .slice ya K.length yk])] [.rw (.slice za x.length zk) x.length 1 (icl x), .mx (.slice ya K.length yk) (K.map nl), .mx (.slice xa L.length xk) (L.map nl)] w4) := Lib.hid (E4.out.below hb)
  clear E4 hb
  go_wp2_with fail
  refine (Rank_ok q m L (E5.out.fc 2 rfl) (hl.out.below E5.out.bel) hv.out).mono ?_
  rintro e w5 ⟨rfl, hb⟩
  have E6 : Hid (Env D w [(w1.heap.size, 40, [.slice xa L.length xk, .slice ya K.length yk])] [.rw (.slice za x.length zk) x.length 1 (icl x), .mx (.slice ya K.length yk) (K.map nl), .mx (.slice xa L.length xk) (L.map nl)] w5) := Lib.hid (E5.out.below hb)
  clear E5 hb
  go_wp2_with fail
  refine (rMValidN (E6.out.fc 2 rfl) hv.out).mono ?_
  rintro e w6 ⟨rfl, hb⟩
  have E7 : Hid (Env D w [(w1.heap.size, 40, [.slice xa L.length xk, .slice ya K.length yk])] [.rw (.slice za x.length zk) x.length 1 (icl x), .mx (.slice ya K.length yk) (K.map nl), .mx (.slice xa L.length xk) (L.map nl)] w6) := Lib.hid (E6.out.below hb)
  clear E6 hb
  go_wp2_with fail
  refine (mValidN (E7.out.fc 2 rfl) (hl.out.below E7.out.bel) hv.out).mono ?_
  rintro e w7 ⟨rfl, hb⟩
  have E8 : Hid (Env D w [(w1.heap.size, 40, [.slice xa L.length xk, .slice ya K.length yk])] [.rw (.slice za x.length zk) x.length 1 (icl x), .mx (.slice ya K.length yk) (K.map nl), .mx (.slice xa L.length xk) (L.map nl)] w7) := Lib.hid (E7.out.below hb)
  clear E7 hb
  have n1 : ((L[0].length : Int) != (K.length : Int)) = true := by have h1 := HL0.out; have h2 := hne.out; rw [bne_iff_ne]; omega
  have n2 : (L[0].length != K.length) = true := by have h1 := HL0.out; have h2 := hne.out; rw [bne_iff_ne]; omega
  go_upto_region 11 with (fail)
  obtain ⟨xab, xao, rfl⟩ := Mx.addrN (E8.out.fc 2 rfl) hz
  obtain ⟨ua, uk, E90⟩ := E8.out.elMN 2 rfl (0) hz
  have E9 : Hid (Env D w [(w1.heap.size, 40, [.slice (some ⟨xab, xao, none⟩) L.length xk, .slice ya K.length yk])] [.ce xab (xao) (.slice ua L[0].length uk), .rw (.slice ua L[0].length uk) L[0].length 1 (ncl L[0]), .rw (.slice za x.length zk) x.length 1 (icl x), .mx (.slice ya K.length yk) (K.map nl), .mx (.slice (some ⟨xab, xao, none⟩) L.length xk) (L.map nl)] _) := Lib.hid E90
  clear E90 E8
  have u0 := (E9.out.fc 0 rfl).2
  go_wp2_with fail
  refine (rMValidN (E9.out.fc 3 rfl) hu.out).mono ?_
  rintro e w8 ⟨rfl, hb⟩
  have E10 : Hid (Env D w [(w1.heap.size, 40, [.slice (some ⟨xab, xao, none⟩) L.length xk, .slice ya K.length yk])] [.ce xab (xao) (.slice ua L[0].length uk), .rw (.slice ua L[0].length uk) L[0].length 1 (ncl L[0]), .rw (.slice za x.length zk) x.length 1 (icl x), .mx (.slice ya K.length yk) (K.map nl), .mx (.slice (some ⟨xab, xao, none⟩) L.length xk) (L.map nl)] w8) := Lib.hid (E9.out.below hb)
  clear u0 E9 hb
  have z1 := (E10.out.fc 0 rfl).2
  go_wp2_with fail
  refine (rRank_c q m L (E10.out.fc 4 rfl) hv.out).mono ?_
  rintro e w9 ⟨rfl, hb⟩
  have E11 : Hid (Env D w [(w1.heap.size, 40, [.slice (some ⟨xab, xao, none⟩) L.length xk, .slice ya K.length yk])] [.ce xab (xao) (.slice ua L[0].length uk), .rw (.slice ua L[0].length uk) L[0].length 1 (ncl L[0]), .rw (.slice za x.length zk) x.length 1 (icl x), .mx (.slice ya K.length yk) (K.map nl), .mx (.slice (some ⟨xab, xao, none⟩) L.length xk) (L.map nl)] w9) := Lib.hid (E10.out.below hb)
  clear z1 E10 hb
  have k1 : ((x.length : Int) != (L[0].length : Int)) = false := by have h1 := HL0.out; have h2 := hs.out; rw [h1, h2]; simp
  have k2 : (x.length != L[0].length) = false := by have h1 := HL0.out; have h2 := hs.out; rw [h1, h2]; simp
  have z2 := (E11.out.fc 0 rfl).2
  go_wp2_with fail
  refine (rVector_c (q : Int) x (E11.out.fc 2 rfl) hr.out (by omega)).mono ?_
  rintro e w10 ⟨rfl, hb⟩
  have E12 : Hid (Env D w [(w1.heap.size, 40, [.slice (some ⟨xab, xao, none⟩) L.length xk, .slice ya K.length yk])] [.ce xab (xao) (.slice ua L[0].length uk), .rw (.slice ua L[0].length uk) L[0].length 1 (ncl L[0]), .rw (.slice za x.length zk) x.length 1 (icl x), .mx (.slice ya K.length yk) (K.map nl), .mx (.slice (some ⟨xab, xao, none⟩) L.length xk) (L.map nl)] w10) := Lib.hid (E11.out.below hb)
  clear z2 E11 hb
  have hfin := Lib.hid E12.out.bel
  go_wp2
  go_ret
  exact ⟨rfl, hfin.out⟩
set_option maxRecDepth 100000 in
set_option maxHeartbeats 8000000 in
theorem mp_j3 {D : Nat → Prop} (q m n : Nat) (L K : List (List Nat)) (x : List Nat) {xa ya za : Option Addr} {xk yk zk : Nat} {w : World} (hx : Fct.at w D (.mx (.slice xa L.length xk) (L.map nl))) (hy : Fct.at w D (.mx (.slice ya K.length yk) (K.map nl))) (hz : Fct.at w D (.rw (.slice za x.length zk) x.length 1 (ncl x))) (hl0 : Laid w) (HG0 : [L.map nl, K.map nl].any (fun x => grM x) = false) (h1 : x.length ≤ 100) (hv0 : MvI q m L) (hu0 : MvI q n K) (hne0 : ¬ m = K.length) (hs0 : x.length = m) (hr0 : ∀ c ∈ x, c < q) :
    Calls Tryd.prog 9 #[.int .i64 (q : Nat), .slice xa L.length xk, .slice ya K.length yk, .slice za x.length zk] w fun e w' => e = .returned (.bool true) ∧ Below w.heap.size w w' := by
  have E0 : Hid (Env D w [] [.rw (.slice za x.length zk) x.length 1 (ncl x), .mx (.slice ya K.length yk) (K.map nl), .mx (.slice xa L.length xk) (L.map nl)] w) := Lib.hid ((((Env.start D w).arg (.mx (.slice xa L.length xk) (L.map nl)) hx).arg (.mx (.slice ya K.length yk) (K.map nl)) hy).arg (.rw (.slice za x.length zk) x.length 1 (ncl x)) hz)
  clear hx hy hz
  go_enter Tryd.func9, Tryd.ntmps9
  have hl := Lib.hid hl0
  have HG := Lib.hid HG0
  have hv := Lib.hid hv0
  have hu := Lib.hid hu0
  have hs := Lib.hid hs0
  have hne := Lib.hid hne0
  have hr := Lib.hid hr0
  clear hl0 HG0 hv0 hu0 hs0 hne0 hr0
  go_wp2_with fail
  refine (awake14_c (hl.out.below E0.out.bel)).mono ?_
  rintro e w1 ⟨rfl, hb⟩
  have E1 : Hid (Env D w [] [.rw (.slice za x.length zk) x.length 1 (ncl x), .mx (.slice ya K.length yk) (K.map nl), .mx (.slice xa L.length xk) (L.map nl)] w1) := Lib.hid (E0.out.below hb)
  clear E0 hb
  have hz : 0 < L.length := hv.out.m1
  have hzI : (0 : Int) < (L.length : Int) := by omega
  have HL0 : Hid (L[0].length = m) := Lib.hid (hv.out.res _ (List.getElem_mem hz)).1
  have hnn : -9223372036854775808 ≤ (q : Int) := by omega
  have d3 : decide ((100 : Int) < (x.length : Int)) = false := decide_eq_false (by omega)
  have d3n : decide (100 < x.length) = false := decide_eq_false (by omega)
  have E2 : Hid (Env D w [(w1.heap.size, 40, [.slice xa L.length xk, .slice ya K.length yk])] [.rw (.slice za x.length zk) x.length 1 (ncl x), .mx (.slice ya K.length yk) (K.map nl), .mx (.slice xa L.length xk) (L.map nl)] _) := Lib.hid ((E1.out.push 40 [.slice xa L.length xk, .slice ya K.length yk] (w1.heap.size) (by simp)))
  go_wp2_with fail
  refine (great14_c (t := false) [L.map nl, K.map nl] (xb := w1.heap.size) (xo := 0) (xk := 2) (gMats.two (by simp) (by simp) (E2.out.bx 0 rfl) (E2.out.fc 2 rfl) (E2.out.fc 1 rfl)) HG.out (by simp)).mono ?_
  rintro e w2 ⟨rfl, hb⟩
  have E3 : Hid (Env D w [(w1.heap.size, 40, [.slice xa L.length xk, .slice ya K.length yk])] [.rw (.slice za x.length zk) x.length 1 (ncl x), .mx (.slice ya K.length yk) (K.map nl), .mx (.slice xa L.length xk) (L.map nl)] w2) := Lib.hid (E2.out.below hb)
  clear E1 E2 hb
  go_wp2_with fail
  refine (mMul_c q m n L K (E3.out.fc 2 rfl) (E3.out.fc 1 rfl) (hl.out.below E3.out.bel) hv.out hu.out hne.out).mono ?_
  rintro e w3 ⟨rfl, hb⟩
  have E4 : Hid (Env D w [(w1.heap.size, 40, [.slice xa L.length xk, .slice ya K.length yk])] [.rw (.slice za x.length zk) x.length 1 (ncl x), .mx (.slice ya K.length yk) (K.map nl), .mx (.slice xa L.length xk) (L.map nl)] w3) := Lib.hid (E3.out.below hb)
  clear E3 hb
  go_wp2_with fail
  refine (Apply_ok q m L x (E4.out.fc 2 rfl) (E4.out.fc 0 rfl) (hl.out.below E4.out.bel) hv.out hs.out hr.out).mono ?_
  rintro e w4 ⟨⟨ra, rk, rfl, rh⟩, hb⟩
  have E5 : Hid (Env D w [(w1.heap.size, 40, [.slice xa L.length xk, .slice ya K.length yk])] [.rw (.slice ra (appT q L x).length rk) (appT q L x).length 1 (ncl (appT q L x)), .rw (.slice za x.length zk) x.length 1 (ncl x), .mx (.slice ya K.length yk) (K.map nl), .mx (.slice xa L.length xk) (L.map nl)] w4) := Lib.hid (E4.out.got (E4.out.below hb) (.rw (.slice ra (appT q L x).length rk) (appT q L x).length 1 (ncl (appT q L x))) (Lib.hid (Rw.ge rh.out)).out)
  clear E4 hb
  go_wp2_with fail
  refine (Rank_ok q m L (E5.out.fc 3 rfl) (hl.out.below E5.out.bel) hv.out).mono ?_
  rintro e w5 ⟨rfl, hb⟩
  have E6 : Hid (Env D w [(w1.heap.size, 40, [.slice xa L.length xk, .slice ya K.length yk])] [.rw (.slice ra (appT q L x).length rk) (appT q L x).length 1 (ncl (appT q L x)), .rw (.slice za x.length zk) x.length 1 (ncl x), .mx (.slice ya K.length yk) (K.map nl), .mx (.slice xa L.length xk) (L.map nl)] w5) := Lib.hid (E5.out.below hb)
  clear E5 hb
  go_wp2_with fail
  refine (rMValidN (E6.out.fc 3 rfl) hv.out).mono ?_
  rintro e w6 ⟨rfl, hb⟩
  have E7 : Hid (Env D w [(w1.heap.size, 40, [.slice xa L.length xk, .slice ya K.length yk])] [.rw (.slice ra (appT q L x).length rk) (appT q L x).length 1 (ncl (appT q L x)), .rw (.slice za x.length zk) x.length 1 (ncl x), .mx (.slice ya K.length yk) (K.map nl), .mx (.slice xa L.length xk) (L.map nl)] w6) := Lib.hid (E6.out.below hb)
  clear E6 hb
  go_wp2_with fail
  refine (mValidN (E7.out.fc 3 rfl) (hl.out.below E7.out.bel) hv.out).mono ?_
  rintro e w7 ⟨rfl, hb⟩
  have E8 : Hid (Env D w [(w1.heap.size, 40, [.slice xa L.length xk, .slice ya K.length yk])] [.rw (.slice ra (appT q L x).length rk) (appT q L x).length 1 (ncl (appT q L x)), .rw (.slice za x.length zk) x.length 1 (ncl x), .mx (.slice ya K.length yk) (K.map nl), .mx (.slice xa L.length xk) (L.map nl)] w7) := Lib.hid (E7.out.below hb)
  clear E7 hb
  have n1 : ((L[0].length : Int) != (K.length : Int)) = true := by have h1 := HL0.out; have h2 := hne.out; rw [bne_iff_ne]; omega
  have n2 : (L[0].length != K.length) = true := by have h1 := HL0.out; have h2 := hne.out; rw [bne_iff_ne]; omega
  go_upto_region 11 with (fail)
  obtain ⟨xab, xao, rfl⟩ := Mx.addrN (E8.out.fc 3 rfl) hz
  obtain ⟨ua, uk, E90⟩ := E8.out.elMN 3 rfl (0) hz
  have E9 : Hid (Env D w [(w1.heap.size, 40, [.slice (some ⟨xab, xao, none⟩) L.length xk, .slice ya K.length yk])] [.ce xab (xao) (.slice ua L[0].length uk), .rw (.slice ua L[0].length uk) L[0].length 1 (ncl L[0]), .rw (.slice ra (appT q L x).length rk) (appT q L x).length 1 (ncl (appT q L x)), .rw (.slice za x.length zk) x.length 1 (ncl x), .mx (.slice ya K.length yk) (K.map nl), .mx (.slice (some ⟨xab, xao, none⟩) L.length xk) (L.map nl)] _) := Lib.hid E90
  clear E90 E8
  have u0 := (E9.out.fc 0 rfl).2
  go_wp2_with fail
  refine (rMValidN (E9.out.fc 4 rfl) hu.out).mono ?_
  rintro e w8 ⟨rfl, hb⟩
  have E10 : Hid (Env D w [(w1.heap.size, 40, [.slice (some ⟨xab, xao, none⟩) L.length xk, .slice ya K.length yk])] [.ce xab (xao) (.slice ua L[0].length uk), .rw (.slice ua L[0].length uk) L[0].length 1 (ncl L[0]), .rw (.slice ra (appT q L x).length rk) (appT q L x).length 1 (ncl (appT q L x)), .rw (.slice za x.length zk) x.length 1 (ncl x), .mx (.slice ya K.length yk) (K.map nl), .mx (.slice (some ⟨xab, xao, none⟩) L.length xk) (L.map nl)] w8) := Lib.hid (E9.out.below hb)
  clear u0 E9 hb
  have z1 := (E10.out.fc 0 rfl).2
  go_wp2_with fail
  refine (rRank_c q m L (E10.out.fc 5 rfl) hv.out).mono ?_
  rintro e w9 ⟨rfl, hb⟩
  have E11 : Hid (Env D w [(w1.heap.size, 40, [.slice (some ⟨xab, xao, none⟩) L.length xk, .slice ya K.length yk])] [.ce xab (xao) (.slice ua L[0].length uk), .rw (.slice ua L[0].length uk) L[0].length 1 (ncl L[0]), .rw (.slice ra (appT q L x).length rk) (appT q L x).length 1 (ncl (appT q L x)), .rw (.slice za x.length zk) x.length 1 (ncl x), .mx (.slice ya K.length yk) (K.map nl), .mx (.slice (some ⟨xab, xao, none⟩) L.length xk) (L.map nl)] w9) := Lib.hid (E10.out.below hb)
  clear z1 E10 hb
  have k1 : ((x.length : Int) != (L[0].length : Int)) = false := by have h1 := HL0.out; have h2 := hs.out; rw [h1, h2]; simp
  have k2 : (x.length != L[0].length) = false := by have h1 := HL0.out; have h2 := hs.out; rw [h1, h2]; simp
  have z2 := (E11.out.fc 0 rfl).2
  go_wp2_with fail
  refine (rVecN (E11.out.fc 3 rfl) hr.out (by omega)).mono ?_
  rintro e w10 ⟨rfl, hb⟩
  have E12 : Hid (Env D w [(w1.heap.size, 40, [.slice (some ⟨xab, xao, none⟩) L.length xk, .slice ya K.length yk])] [.ce xab (xao) (.slice ua L[0].length uk), .rw (.slice ua L[0].length uk) L[0].length 1 (ncl L[0]), .rw (.slice ra (appT q L x).length rk) (appT q L x).length 1 (ncl (appT q L x)), .rw (.slice za x.length zk) x.length 1 (ncl x), .mx (.slice ya K.length yk) (K.map nl), .mx (.slice (some ⟨xab, xao, none⟩) L.length xk) (L.map nl)] w10) := Lib.hid (E11.out.below hb)
  clear z2 E11 hb
  have m31 := Lib.hid hv.out.m30
  have n31 := Lib.hid hv.out.n30
  have hq2 : Hid (0 < q) := Lib.hid (by have := hv.out.q2; omega)
  go_wp2_with fail
  refine (rApply_c q m L x (E12.out.fc 5 rfl) (E12.out.fc 3 rfl) hq2.out hv.out.qT (Nat.le_trans m31.out (by omega)) hv.out.res hs.out hr.out (Nat.le_trans n31.out (by omega))).mono ?_
  rintro e w11 ⟨⟨sa, sk, rfl, sh⟩, hb⟩
  have E13 : Hid (Env D w [(w1.heap.size, 40, [.slice (some ⟨xab, xao, none⟩) L.length xk, .slice ya K.length yk])] [.rw (.slice sa (appT q L x).length sk) (appT q L x).length 1 (ncl (appT q L x)), .ce xab (xao) (.slice ua L[0].length uk), .rw (.slice ua L[0].length uk) L[0].length 1 (ncl L[0]), .rw (.slice ra (appT q L x).length rk) (appT q L x).length 1 (ncl (appT q L x)), .rw (.slice za x.length zk) x.length 1 (ncl x), .mx (.slice ya K.length yk) (K.map nl), .mx (.slice (some ⟨xab, xao, none⟩) L.length xk) (L.map nl)] w11) := Lib.hid (E12.out.got (E12.out.below hb) (.rw (.slice sa (appT q L x).length sk) (appT q L x).length 1 (ncl (appT q L x))) (Lib.hid (Rw.ge sh.out)).out)
  clear E12 hb
  go_wp2_with fail
  refine (equalN_c (t := true) (a := appT q L x) (b := appT q L x) (E13.out.fc 3 rfl) (E13.out.fc 0 rfl) (by unfold appT; rw [tab_len]; exact Nat.le_trans m31.out (by omega)) (by unfold appT; rw [tab_len]; exact Nat.le_trans m31.out (by omega)) (by simp)).mono ?_
  rintro e w12 ⟨rfl, hb⟩
  have E14 : Hid (Env D w [(w1.heap.size, 40, [.slice (some ⟨xab, xao, none⟩) L.length xk, .slice ya K.length yk])] [.rw (.slice sa (appT q L x).length sk) (appT q L x).length 1 (ncl (appT q L x)), .ce xab (xao) (.slice ua L[0].length uk), .rw (.slice ua L[0].length uk) L[0].length 1 (ncl L[0]), .rw (.slice ra (appT q L x).length rk) (appT q L x).length 1 (ncl (appT q L x)), .rw (.slice za x.length zk) x.length 1 (ncl x), .mx (.slice ya K.length yk) (K.map nl), .mx (.slice (some ⟨xab, xao, none⟩) L.length xk) (L.map nl)] w12) := Lib.hid (E13.out.below hb)
  clear E13 hb
  have hfin := Lib.hid E14.out.bel
  go_wp2
  go_ret
  exact ⟨rfl, hfin.out⟩
set_option maxRecDepth 100000 in
set_option maxHeartbeats 8000000 in
theorem mp_k1 {D : Nat → Prop} (q m n : Nat) (L K : List (List Nat)) (x : List Int) {xa ya za : Option Addr} {xk yk zk : Nat} {w : World} (hx : Fct.at w D (.mx (.slice xa L.length xk) (L.map nl))) (hy : Fct.at w D (.mx (.slice ya K.length yk) (K.map nl))) (hz : Fct.at w D (.rw (.slice za x.length zk) x.length 1 (icl x))) (hl0 : Laid w) (HG0 : [L.map nl, K.map nl].any (fun x => grM x) = false) (h1 : x.length ≤ 100) (hv0 : MvI q m L) (hu0 : MvI q n K) (hne0 : m = K.length) (hs0 : ¬ x.length = m) :
    Calls Tryd.prog 9 #[.int .i64 (q : Nat), .slice xa L.length xk, .slice ya K.length yk, .slice za x.length zk] w fun e w' => e = .returned (.bool true) ∧ Below w.heap.size w w' := by
  have E0 : Hid (Env D w [] [.rw (.slice za x.length zk) x.length 1 (icl x), .mx (.slice ya K.length yk) (K.map nl), .mx (.slice xa L.length xk) (L.map nl)] w) := Lib.hid ((((Env.start D w).arg (.mx (.slice xa L.length xk) (L.map nl)) hx).arg (.mx (.slice ya K.length yk) (K.map nl)) hy).arg (.rw (.slice za x.length zk) x.length 1 (icl x)) hz)
  clear hx hy hz
  go_enter Tryd.func9, Tryd.ntmps9
  have hl := Lib.hid hl0
  have HG := Lib.hid HG0
  have hv := Lib.hid hv0
  have hu := Lib.hid hu0
  have hs := Lib.hid hs0
  have hne := Lib.hid hne0
  clear hl0 HG0 hv0 hu0 hs0 hne0
  go_wp2_with fail
  refine (awake14_c (hl.out.below E0.out.bel)).mono ?_
  rintro e w1 ⟨rfl, hb⟩
  have E1 : Hid (Env D w [] [.rw (.slice za x.length zk) x.length 1 (icl x), .mx (.slice ya K.length yk) (K.map nl), .mx (.slice xa L.length xk) (L.map nl)] w1) := Lib.hid (E0.out.below hb)
  clear E0 hb
  have hz : 0 < L.length := hv.out.m1
  have hzI : (0 : Int) < (L.length : Int) := by omega
  have HL0 : Hid (L[0].length = m) := Lib.hid (hv.out.res _ (List.getElem_mem hz)).1
  have hnn : -9223372036854775808 ≤ (q : Int) := by omega
  have d3 : decide ((100 : Int) < (x.length : Int)) = false := decide_eq_false (by omega)
  have d3n : decide (100 < x.length) = false := decide_eq_false (by omega)
  have E2 : Hid (Env D w [(w1.heap.size, 40, [.slice xa L.length xk, .slice ya K.length yk])] [.rw (.slice za x.length zk) x.length 1 (icl x), .mx (.slice ya K.length yk) (K.map nl), .mx (.slice xa L.length xk) (L.map nl)] _) := Lib.hid ((E1.out.push 40 [.slice xa L.length xk, .slice ya K.length yk] (w1.heap.size) (by simp)))
  go_wp2_with fail
  refine (great14_c (t := false) [L.map nl, K.map nl] (xb := w1.heap.size) (xo := 0) (xk := 2) (gMats.two (by simp) (by simp) (E2.out.bx 0 rfl) (E2.out.fc 2 rfl) (E2.out.fc 1 rfl)) HG.out (by simp)).mono ?_
  rintro e w2 ⟨rfl, hb⟩
  have E3 : Hid (Env D w [(w1.heap.size, 40, [.slice xa L.length xk, .slice ya K.length yk])] [.rw (.slice za x.length zk) x.length 1 (icl x), .mx (.slice ya K.length yk) (K.map nl), .mx (.slice xa L.length xk) (L.map nl)] w2) := Lib.hid (E2.out.below hb)
  clear E1 E2 hb
  go_wp2_with fail
  refine (mMul_ok q m n L K (E3.out.fc 2 rfl) (E3.out.fc 1 rfl) (hl.out.below E3.out.bel) hv.out hu.out hne.out).mono ?_
  rintro e w3 ⟨⟨pa, pk, rfl, ph⟩, hb⟩
  have E4 : Hid (Env D w [(w1.heap.size, 40, [.slice xa L.length xk, .slice ya K.length yk])] [.mx (.slice pa (mulT q n L K).length pk) ((mulT q n L K).map nl), .rw (.slice za x.length zk) x.length 1 (icl x), .mx (.slice ya K.length yk) (K.map nl), .mx (.slice xa L.length xk) (L.map nl)] w3) := Lib.hid (E3.out.got (E3.out.below hb) (.mx (.slice pa (mulT q n L K).length pk) ((mulT q n L K).map nl)) ph.out)
  clear E3 hb ph
  go_wp2_with fail
  refine (Apply_len q m L x (E4.out.fc 3 rfl) (E4.out.fc 1 rfl) (hl.out.below E4.out.bel) hv.out hs.out).mono ?_
  rintro e w4 ⟨rfl, hb⟩
  have E5 : Hid (Env D w [(w1.heap.size, 40, [.slice xa L.length xk, .slice ya K.length yk])] [.mx (.slice pa (mulT q n L K).length pk) ((mulT q n L K).map nl), .rw (.slice za x.length zk) x.length 1 (icl x), .mx (.slice ya K.length yk) (K.map nl), .mx (.slice xa L.length xk) (L.map nl)] w4) := Lib.hid (E4.out.below hb)
  clear E4 hb
  go_wp2_with fail
  refine (Rank_ok q m L (E5.out.fc 3 rfl) (hl.out.below E5.out.bel) hv.out).mono ?_
  rintro e w5 ⟨rfl, hb⟩
  have E6 : Hid (Env D w [(w1.heap.size, 40, [.slice xa L.length xk, .slice ya K.length yk])] [.mx (.slice pa (mulT q n L K).length pk) ((mulT q n L K).map nl), .rw (.slice za x.length zk) x.length 1 (icl x), .mx (.slice ya K.length yk) (K.map nl), .mx (.slice xa L.length xk) (L.map nl)] w5) := Lib.hid (E5.out.below hb)
  clear E5 hb
  go_wp2_with fail
  refine (rMValidN (E6.out.fc 3 rfl) hv.out).mono ?_
  rintro e w6 ⟨rfl, hb⟩
  have E7 : Hid (Env D w [(w1.heap.size, 40, [.slice xa L.length xk, .slice ya K.length yk])] [.mx (.slice pa (mulT q n L K).length pk) ((mulT q n L K).map nl), .rw (.slice za x.length zk) x.length 1 (icl x), .mx (.slice ya K.length yk) (K.map nl), .mx (.slice xa L.length xk) (L.map nl)] w6) := Lib.hid (E6.out.below hb)
  clear E6 hb
  go_wp2_with fail
  refine (mValidN (E7.out.fc 3 rfl) (hl.out.below E7.out.bel) hv.out).mono ?_
  rintro e w7 ⟨rfl, hb⟩
  have E8 : Hid (Env D w [(w1.heap.size, 40, [.slice xa L.length xk, .slice ya K.length yk])] [.mx (.slice pa (mulT q n L K).length pk) ((mulT q n L K).map nl), .rw (.slice za x.length zk) x.length 1 (icl x), .mx (.slice ya K.length yk) (K.map nl), .mx (.slice xa L.length xk) (L.map nl)] w7) := Lib.hid (E7.out.below hb)
  clear E7 hb
  have n1 : ((L[0].length : Int) != (K.length : Int)) = false := by have h1 := HL0.out; have h2 := hne.out; rw [h1, h2]; simp
  have n2 : (L[0].length != K.length) = false := by have h1 := HL0.out; have h2 := hne.out; rw [h1, h2]; simp
  go_upto_region 11 with (fail)
  obtain ⟨xab, xao, rfl⟩ := Mx.addrN (E8.out.fc 3 rfl) hz
  obtain ⟨ua, uk, E90⟩ := E8.out.elMN 3 rfl (0) hz
  have E9 : Hid (Env D w [(w1.heap.size, 40, [.slice (some ⟨xab, xao, none⟩) L.length xk, .slice ya K.length yk])] [.ce xab (xao) (.slice ua L[0].length uk), .rw (.slice ua L[0].length uk) L[0].length 1 (ncl L[0]), .mx (.slice pa (mulT q n L K).length pk) ((mulT q n L K).map nl), .rw (.slice za x.length zk) x.length 1 (icl x), .mx (.slice ya K.length yk) (K.map nl), .mx (.slice (some ⟨xab, xao, none⟩) L.length xk) (L.map nl)] _) := Lib.hid E90
  clear E90 E8
  have u0 := (E9.out.fc 0 rfl).2
  go_wp2_with fail
  refine (rMValidN (E9.out.fc 4 rfl) hu.out).mono ?_
  rintro e w8 ⟨rfl, hb⟩
  have E10 : Hid (Env D w [(w1.heap.size, 40, [.slice (some ⟨xab, xao, none⟩) L.length xk, .slice ya K.length yk])] [.ce xab (xao) (.slice ua L[0].length uk), .rw (.slice ua L[0].length uk) L[0].length 1 (ncl L[0]), .mx (.slice pa (mulT q n L K).length pk) ((mulT q n L K).map nl), .rw (.slice za x.length zk) x.length 1 (icl x), .mx (.slice ya K.length yk) (K.map nl), .mx (.slice (some ⟨xab, xao, none⟩) L.length xk) (L.map nl)] w8) := Lib.hid (E9.out.below hb)
  clear u0 E9 hb
  have z1 := (E10.out.fc 0 rfl).2
  have n30 := Lib.hid hu.out.n30
  have m30 := Lib.hid hv.out.m30
  have hq1 : Hid (0 < q) := Lib.hid (by have := hv.out.q2; omega)
  go_wp2_with fail
  refine (rmMul_c q m n L K (E10.out.fc 5 rfl) (E10.out.fc 4 rfl) hq1.out hv.out.qT hv.out.res hu.out.res hv.out.m1 hv.out.m30 hne.out.symm hv.out.n1 hv.out.n30 hu.out.n30).mono ?_
  rintro e w9 ⟨⟨qa, qk, rfl, qh⟩, hb⟩
  have E11 : Hid (Env D w [(w1.heap.size, 40, [.slice (some ⟨xab, xao, none⟩) L.length xk, .slice ya K.length yk])] [.mx (.slice qa (mulT q n L K).length qk) ((mulT q n L K).map nl), .ce xab (xao) (.slice ua L[0].length uk), .rw (.slice ua L[0].length uk) L[0].length 1 (ncl L[0]), .mx (.slice pa (mulT q n L K).length pk) ((mulT q n L K).map nl), .rw (.slice za x.length zk) x.length 1 (icl x), .mx (.slice ya K.length yk) (K.map nl), .mx (.slice (some ⟨xab, xao, none⟩) L.length xk) (L.map nl)] w9) := Lib.hid (E10.out.got (E10.out.below hb) (.mx (.slice qa (mulT q n L K).length qk) ((mulT q n L K).map nl)) qh.out)
  clear z1 E10 hb qh
  go_wp2_with fail
  refine (rSameN (E11.out.fc 3 rfl) (E11.out.fc 0 rfl) (by rw [mulT_len]; exact Nat.le_trans m30.out (by omega)) (fun r h => by rw [mulT_row r h]; exact Nat.le_trans n30.out (by omega))).mono ?_
  rintro e w10 ⟨rfl, hb⟩
  have E12 : Hid (Env D w [(w1.heap.size, 40, [.slice (some ⟨xab, xao, none⟩) L.length xk, .slice ya K.length yk])] [.mx (.slice qa (mulT q n L K).length qk) ((mulT q n L K).map nl), .ce xab (xao) (.slice ua L[0].length uk), .rw (.slice ua L[0].length uk) L[0].length 1 (ncl L[0]), .mx (.slice pa (mulT q n L K).length pk) ((mulT q n L K).map nl), .rw (.slice za x.length zk) x.length 1 (icl x), .mx (.slice ya K.length yk) (K.map nl), .mx (.slice (some ⟨xab, xao, none⟩) L.length xk) (L.map nl)] w10) := Lib.hid (E11.out.below hb)
  clear E11 hb
  go_wp2_with fail
  refine (rRank_c q m L (E12.out.fc 6 rfl) hv.out).mono ?_
  rintro e w11 ⟨rfl, hb⟩
  have E13 : Hid (Env D w [(w1.heap.size, 40, [.slice (some ⟨xab, xao, none⟩) L.length xk, .slice ya K.length yk])] [.mx (.slice qa (mulT q n L K).length qk) ((mulT q n L K).map nl), .ce xab (xao) (.slice ua L[0].length uk), .rw (.slice ua L[0].length uk) L[0].length 1 (ncl L[0]), .mx (.slice pa (mulT q n L K).length pk) ((mulT q n L K).map nl), .rw (.slice za x.length zk) x.length 1 (icl x), .mx (.slice ya K.length yk) (K.map nl), .mx (.slice (some ⟨xab, xao, none⟩) L.length xk) (L.map nl)] w11) := Lib.hid (E12.out.below hb)
  clear E12 hb
  have k1 : ((x.length : Int) != (L[0].length : Int)) = true := by have h1 := HL0.out; have h2 := hs.out; rw [bne_iff_ne]; omega
  have k2 : (x.length != L[0].length) = true := by have h1 := HL0.out; have h2 := hs.out; rw [bne_iff_ne]; omega
  have z2 := (E13.out.fc 1 rfl).2
  have hfin := Lib.hid E13.out.bel
  go_wp2
  go_ret
  exact ⟨rfl, hfin.out⟩
set_option maxRecDepth 100000 in
set_option maxHeartbeats 8000000 in
theorem mp_k2 {D : Nat → Prop} (q m n : Nat) (L K : List (List Nat)) (x : List Int) {xa ya za : Option Addr} {xk yk zk : Nat} {w : World} (hx : Fct.at w D (.mx (.slice xa L.length xk) (L.map nl))) (hy : Fct.at w D (.mx (.slice ya K.length yk) (K.map nl))) (hz : Fct.at w D (.rw (.slice za x.length zk) x.length 1 (icl x))) (hl0 : Laid w) (HG0 : [L.map nl, K.map nl].any (fun x => grM x) = false) (h1 : x.length ≤ 100) (hv0 : MvI q m L) (hu0 : MvI q n K) (hne0 : m = K.length) (hs0 : x.length = m) (hr0 : x.all (resB (q : Int)) = false) :
    Calls Tryd.prog 9 #[.int .i64 (q : Nat), .slice xa L.length xk, .slice ya K.length yk, .slice za x.length zk] w fun e w' => e = .returned (.bool true) ∧ Below w.heap.size w w' := by
  have E0 : Hid (Env D w [] [.rw (.slice za x.length zk) x.length 1 (icl x), .mx (.slice ya K.length yk) (K.map nl), .mx (.slice xa L.length xk) (L.map nl)] w) := Lib.hid ((((Env.start D w).arg (.mx (.slice xa L.length xk) (L.map nl)) hx).arg (.mx (.slice ya K.length yk) (K.map nl)) hy).arg (.rw (.slice za x.length zk) x.length 1 (icl x)) hz)
  clear hx hy hz
  go_enter Tryd.func9, Tryd.ntmps9
  have hl := Lib.hid hl0
  have HG := Lib.hid HG0
  have hv := Lib.hid hv0
  have hu := Lib.hid hu0
  have hs := Lib.hid hs0
  have hne := Lib.hid hne0
  have hr := Lib.hid hr0
  clear hl0 HG0 hv0 hu0 hs0 hne0 hr0
  go_wp2_with fail
  refine (awake14_c (hl.out.below E0.out.bel)).mono ?_
  rintro e w1 ⟨rfl, hb⟩
  have E1 : Hid (Env D w [] [.rw (.slice za x.length zk) x.length 1 (icl x), .mx (.slice ya K.length yk) (K.map nl), .mx (.slice xa L.length xk) (L.map nl)] w1) := Lib.hid (E0.out.below hb)
  clear E0 hb
  have hz : 0 < L.length := hv.out.m1
  have hzI : (0 : Int) < (L.length : Int) := by omega
  have HL0 : Hid (L[0].length = m) := Lib.hid (hv.out.res _ (List.getElem_mem hz)).1
  have hnn : -9223372036854775808 ≤ (q : Int) := by omega
  have d3 : decide ((100 : Int) < (x.length : Int)) = false := decide_eq_false (by omega)
  have d3n : decide (100 < x.length) = false := decide_eq_false (by omega)
  have E2 : Hid (Env D w [(w1.heap.size, 40, [.slice xa L.length xk, .slice ya K.length yk])] [.rw (.slice za x.length zk) x.length 1 (icl x), .mx (.slice ya K.length yk) (K.map nl), .mx (.slice xa L.length xk) (L.map nl)] _) := Lib.hid ((E1.out.push 40 [.slice xa L.length xk, .slice ya K.length yk] (w1.heap.size) (by simp)))
  go_wp2_with fail
  refine (great14_c (t := false) [L.map nl, K.map nl] (xb := w1.heap.size) (xo := 0) (xk := 2) (gMats.two (by simp) (by simp) (E2.out.bx 0 rfl) (E2.out.fc 2 rfl) (E2.out.fc 1 rfl)) HG.out (by simp)).mono ?_
  rintro e w2 ⟨rfl, hb⟩
  have E3 : Hid (Env D w [(w1.heap.size, 40, [.slice xa L.length xk, .slice ya K.length yk])] [.rw (.slice za x.length zk) x.length 1 (icl x), .mx (.slice ya K.length yk) (K.map nl), .mx (.slice xa L.length xk) (L.map nl)] w2) := Lib.hid (E2.out.below hb)
  clear E1 E2 hb
  go_wp2_with fail
  refine (mMul_ok q m n L K (E3.out.fc 2 rfl) (E3.out.fc 1 rfl) (hl.out.below E3.out.bel) hv.out hu.out hne.out).mono ?_
  rintro e w3 ⟨⟨pa, pk, rfl, ph⟩, hb⟩
  have E4 : Hid (Env D w [(w1.heap.size, 40, [.slice xa L.length xk, .slice ya K.length yk])] [.mx (.slice pa (mulT q n L K).length pk) ((mulT q n L K).map nl), .rw (.slice za x.length zk) x.length 1 (icl x), .mx (.slice ya K.length yk) (K.map nl), .mx (.slice xa L.length xk) (L.map nl)] w3) := Lib.hid (E3.out.got (E3.out.below hb) (.mx (.slice pa (mulT q n L K).length pk) ((mulT q n L K).map nl)) ph.out)
  clear E3 hb ph
  go_wp2_with fail
  refine (Apply_rng q m L x (E4.out.fc 3 rfl) (E4.out.fc 1 rfl) (hl.out.below E4.out.bel) hv.out hs.out hr.out).mono ?_
  rintro e w4 ⟨rfl, hb⟩
  have E5 : Hid (Env D w [(w1.heap.size, 40, [.slice xa L.length xk, .slice ya K.length yk])] [.mx (.slice pa (mulT q n L K).length pk) ((mulT q n L K).map nl), .rw (.slice za x.length zk) x.length 1 (icl x), .mx (.slice ya K.length yk) (K.map nl), .mx (.slice xa L.length xk) (L.map nl)] w4) := Lib.hid (E4.out.below hb)
  clear E4 hb
  go_wp2_with fail
  refine (Rank_ok q m L (E5.out.fc 3 rfl) (hl.out.below E5.out.bel) hv.out).mono ?_
  rintro e w5 ⟨rfl, hb⟩
  have E6 : Hid (Env D w [(w1.heap.size, 40, [.slice xa L.length xk, .slice ya K.length yk])] [.mx (.slice pa (mulT q n L K).length pk) ((mulT q n L K).map nl), .rw (.slice za x.length zk) x.length 1 (icl x), .mx (.slice ya K.length yk) (K.map nl), .mx (.slice xa L.length xk) (L.map nl)] w5) := Lib.hid (E5.out.below hb)
  clear E5 hb
  go_wp2_with fail
  refine (rMValidN (E6.out.fc 3 rfl) hv.out).mono ?_
  rintro e w6 ⟨rfl, hb⟩
  have E7 : Hid (Env D w [(w1.heap.size, 40, [.slice xa L.length xk, .slice ya K.length yk])] [.mx (.slice pa (mulT q n L K).length pk) ((mulT q n L K).map nl), .rw (.slice za x.length zk) x.length 1 (icl x), .mx (.slice ya K.length yk) (K.map nl), .mx (.slice xa L.length xk) (L.map nl)] w6) := Lib.hid (E6.out.below hb)
  clear E6 hb
  go_wp2_with fail
  refine (mValidN (E7.out.fc 3 rfl) (hl.out.below E7.out.bel) hv.out).mono ?_
  rintro e w7 ⟨rfl, hb⟩
  have E8 : Hid (Env D w [(w1.heap.size, 40, [.slice xa L.length xk, .slice ya K.length yk])] [.mx (.slice pa (mulT q n L K).length pk) ((mulT q n L K).map nl), .rw (.slice za x.length zk) x.length 1 (icl x), .mx (.slice ya K.length yk) (K.map nl), .mx (.slice xa L.length xk) (L.map nl)] w7) := Lib.hid (E7.out.below hb)
  clear E7 hb
  have n1 : ((L[0].length : Int) != (K.length : Int)) = false := by have h1 := HL0.out; have h2 := hne.out; rw [h1, h2]; simp
  have n2 : (L[0].length != K.length) = false := by have h1 := HL0.out; have h2 := hne.out; rw [h1, h2]; simp
  go_upto_region 11 with (fail)
  obtain ⟨xab, xao, rfl⟩ := Mx.addrN (E8.out.fc 3 rfl) hz
  obtain ⟨ua, uk, E90⟩ := E8.out.elMN 3 rfl (0) hz
  have E9 : Hid (Env D w [(w1.heap.size, 40, [.slice (some ⟨xab, xao, none⟩) L.length xk, .slice ya K.length yk])] [.ce xab (xao) (.slice ua L[0].length uk), .rw (.slice ua L[0].length uk) L[0].length 1 (ncl L[0]), .mx (.slice pa (mulT q n L K).length pk) ((mulT q n L K).map nl), .rw (.slice za x.length zk) x.length 1 (icl x), .mx (.slice ya K.length yk) (K.map nl), .mx (.slice (some ⟨xab, xao, none⟩) L.length xk) (L.map nl)] _) := Lib.hid E90
  clear E90 E8
  have u0 := (E9.out.fc 0 rfl).2
  go_wp2_with fail
  refine (rMValidN (E9.out.fc 4 rfl) hu.out).mono ?_
  rintro e w8 ⟨rfl, hb⟩
  have E10 : Hid (Env D w [(w1.heap.size, 40, [.slice (some ⟨xab, xao, none⟩) L.length xk, .slice ya K.length yk])] [.ce xab (xao) (.slice ua L[0].length uk), .rw (.slice ua L[0].length uk) L[0].length 1 (ncl L[0]), .mx (.slice pa (mulT q n L K).length pk) ((mulT q n L K).map nl), .rw (.slice za x.length zk) x.length 1 (icl x), .mx (.slice ya K.length yk) (K.map nl), .mx (.slice (some ⟨xab, xao, none⟩) L.length xk) (L.map nl)] w8) := Lib.hid (E9.out.below hb)
  clear u0 E9 hb
  have z1 := (E10.out.fc 0 rfl).2
  have n30 := Lib.hid hu.out.n30
  have m30 := Lib.hid hv.out.m30
  have hq1 : Hid (0 < q) := Lib.hid (by have := hv.out.q2; omega)
  go_wp2_with fail
  refine (rmMul_c q m n L K (E10.out.fc 5 rfl) (E10.out.fc 4 rfl) hq1.out hv.out.qT hv.out.res hu.out.res hv.out.m1 hv.out.m30 hne.out.symm hv.out.n1 hv.out.n30 hu.out.n30).mono ?_
  rintro e w9 ⟨⟨qa, qk, rfl, qh⟩, hb⟩
  have E11 : Hid (Env D w [(w1.heap.size, 40, [.slice (some ⟨xab, xao, none⟩) L.length xk, .slice ya K.length yk])] [.mx (.slice qa (mulT q n L K).length qk) ((mulT q n L K).map nl), .ce xab (xao) (.slice ua L[0].length uk), .rw (.slice ua L[0].length uk) L[0].length 1 (ncl L[0]), .mx (.slice pa (mulT q n L K).length pk) ((mulT q n L K).map nl), .rw (.slice za x.length zk) x.length 1 (icl x), .mx (.slice ya K.length yk) (K.map nl), .mx (.slice (some ⟨xab, xao, none⟩) L.length xk) (L.map nl)] w9) := Lib.hid (E10.out.got (E10.out.below hb) (.mx (.slice qa (mulT q n L K).length qk) ((mulT q n L K).map nl)) qh.out)
  clear z1 E10 hb qh
  go_wp2_with fail
  refine (rSameN (E11.out.fc 3 rfl) (E11.out.fc 0 rfl) (by rw [mulT_len]; exact Nat.le_trans m30.out (by omega)) (fun r h => by rw [mulT_row r h]; exact Nat.le_trans n30.out (by omega))).mono ?_
  rintro e w10 ⟨rfl, hb⟩
  have E12 : Hid (Env D w [(w1.heap.size, 40, [.slice (some ⟨xab, xao, none⟩) L.length xk, .slice ya K.length yk])] [.mx (.slice qa (mulT q n L K).length qk) ((mulT q n L K).map nl), .ce xab (xao) (.slice ua L[0].length uk), .rw (.slice ua L[0].length uk) L[0].length 1 (ncl L[0]), .mx (.slice pa (mulT q n L K).length pk) ((mulT q n L K).map nl), .rw (.slice za x.length zk) x.length 1 (icl x), .mx (.slice ya K.length yk) (K.map nl), .mx (.slice (some ⟨xab, xao, none⟩) L.length xk) (L.map nl)] w10) := Lib.hid (E11.out.below hb)
  clear E11 hb
  go_wp2_with fail
  refine (rRank_c q m L (E12.out.fc 6 rfl) hv.out).mono ?_
  rintro e w11 ⟨rfl, hb⟩
  have E13 : Hid (Env D w [(w1.heap.size, 40, [.slice (some ⟨xab, xao, none⟩) L.length xk, .slice ya K.length yk])] [.mx (.slice qa (mulT q n L K).length qk) ((mulT q n L K).map nl), .ce xab (xao) (.slice ua L[0].length uk), .rw (.slice ua L[0].length uk) L[0].length 1 (ncl L[0]), .mx (.slice pa (mulT q n L K).length pk) ((mulT q n L K).map nl), .rw (.slice za x.length zk) x.length 1 (icl x), .mx (.slice ya K.length yk) (K.map nl), .mx (.slice (some ⟨xab, xao, none⟩) L.length xk) (L.map nl)] w11) := Lib.hid (E12.out.below hb)
  clear E12 hb
  have k1 : ((x.length : Int) != (L[0].length : Int)) = false := by have h1 := HL0.out; have h2 := hs.out; rw [h1, h2]; simp
  have k2 : (x.length != L[0].length) = false := by have h1 := HL0.out; have h2 := hs.out; rw [h1, h2]; simp
  have z2 := (E13.out.fc 1 rfl).2
  go_wp2_with fail
  refine (rVector_c (q : Int) x (E13.out.fc 4 rfl) hr.out (by omega)).mono ?_
  rintro e w12 ⟨rfl, hb⟩
  have E14 : Hid (Env D w [(w1.heap.size, 40, [.slice (some ⟨xab, xao, none⟩) L.length xk, .slice ya K.length yk])] [.mx (.slice qa (mulT q n L K).length qk) ((mulT q n L K).map nl), .ce xab (xao) (.slice ua L[0].length uk), .rw (.slice ua L[0].length uk) L[0].length 1 (ncl L[0]), .mx (.slice pa (mulT q n L K).length pk) ((mulT q n L K).map nl), .rw (.slice za x.length zk) x.length 1 (icl x), .mx (.slice ya K.length yk) (K.map nl), .mx (.slice (some ⟨xab, xao, none⟩) L.length xk) (L.map nl)] w12) := Lib.hid (E13.out.below hb)
  clear z2 E13 hb
  have hfin := Lib.hid E14.out.bel
  go_wp2
  go_ret
  exact ⟨rfl, hfin.out⟩
set_option maxRecDepth 100000 in
set_option maxHeartbeats 8000000 in
theorem mp_k3 {D : Nat → Prop} (q m n : Nat) (L K : List (List Nat)) (x : List Nat) {xa ya za : Option Addr} {xk yk zk : Nat} {w : World} (hx : Fct.at w D (.mx (.slice xa L.length xk) (L.map nl))) (hy : Fct.at w D (.mx (.slice ya K.length yk) (K.map nl))) (hz : Fct.at w D (.rw (.slice za x.length zk) x.length 1 (ncl x))) (hl0 : Laid w) (HG0 : [L.map nl, K.map nl].any (fun x => grM x) = false) (h1 : x.length ≤ 100) (hv0 : MvI q m L) (hu0 : MvI q n K) (hne0 : m = K.length) (hs0 : x.length = m) (hr0 : ∀ c ∈ x, c < q) :
    Calls Tryd.prog 9 #[.int .i64 (q : Nat), .slice xa L.length xk, .slice ya K.length yk, .slice za x.length zk] w fun e w' => e = .returned (.bool true) ∧ Below w.heap.size w w' := by
  have E0 : Hid (Env D w [] [.rw (.slice za x.length zk) x.length 1 (ncl x), .mx (.slice ya K.length yk) (K.map nl), .mx (.slice xa L.length xk) (L.map nl)] w) := Lib.hid ((((Env.start D w).arg (.mx (.slice xa L.length xk) (L.map nl)) hx).arg (.mx (.slice ya K.length yk) (K.map nl)) hy).arg (.rw (.slice za x.length zk) x.length 1 (ncl x)) hz)
  clear hx hy hz
  go_enter Tryd.func9, Tryd.ntmps9
  have hl := Lib.hid hl0
  have HG := Lib.hid HG0
  have hv := Lib.hid hv0
  have hu := Lib.hid hu0
  have hs := Lib.hid hs0
  have hne := Lib.hid hne0
  have hr := Lib.hid hr0
  clear hl0 HG0 hv0 hu0 hs0 hne0 hr0
  go_wp2_with fail
  refine (awake14_c (hl.out.below E0.out.bel)).mono ?_
  rintro e w1 ⟨rfl, hb⟩
  have E1 : Hid (Env D w [] [.rw (.slice za x.length zk) x.length 1 (ncl x), .mx (.slice ya K.length yk) (K.map nl), .mx (.slice xa L.length xk) (L.map nl)] w1) := Lib.hid (E0.out.below hb)
  clear E0 hb
  have hz : 0 < L.length := hv.out.m1
  have hzI : (0 : Int) < (L.length : Int) := by omega
  have HL0 : Hid (L[0].length = m) := Lib.hid (hv.out.res _ (List.getElem_mem hz)).1
  have hnn : -9223372036854775808 ≤ (q : Int) := by omega
  have d3 : decide ((100 : Int) < (x.length : Int)) = false := decide_eq_false (by omega)
  have d3n : decide (100 < x.length) = false := decide_eq_false (by omega)
  have E2 : Hid (Env D w [(w1.heap.size, 40, [.slice xa L.length xk, .slice ya K.length yk])] [.rw (.slice za x.length zk) x.length 1 (ncl x), .mx (.slice ya K.length yk) (K.map nl), .mx (.slice xa L.length xk) (L.map nl)] _) := Lib.hid ((E1.out.push 40 [.slice xa L.length xk, .slice ya K.length yk] (w1.heap.size) (by simp)))
  go_wp2_with fail
  refine (great14_c (t := false) [L.map nl, K.map nl] (xb := w1.heap.size) (xo := 0) (xk := 2) (gMats.two (by simp) (by simp) (E2.out.bx 0 rfl) (E2.out.fc 2 rfl) (E2.out.fc 1 rfl)) HG.out (by simp)).mono ?_
  rintro e w2 ⟨rfl, hb⟩
  have E3 : Hid (Env D w [(w1.heap.size, 40, [.slice xa L.length xk, .slice ya K.length yk])] [.rw (.slice za x.length zk) x.length 1 (ncl x), .mx (.slice ya K.length yk) (K.map nl), .mx (.slice xa L.length xk) (L.map nl)] w2) := Lib.hid (E2.out.below hb)
  clear E1 E2 hb
  go_wp2_with fail
  refine (mMul_ok q m n L K (E3.out.fc 2 rfl) (E3.out.fc 1 rfl) (hl.out.below E3.out.bel) hv.out hu.out hne.out).mono ?_
  rintro e w3 ⟨⟨pa, pk, rfl, ph⟩, hb⟩
  have E4 : Hid (Env D w [(w1.heap.size, 40, [.slice xa L.length xk, .slice ya K.length yk])] [.mx (.slice pa (mulT q n L K).length pk) ((mulT q n L K).map nl), .rw (.slice za x.length zk) x.length 1 (ncl x), .mx (.slice ya K.length yk) (K.map nl), .mx (.slice xa L.length xk) (L.map nl)] w3) := Lib.hid (E3.out.got (E3.out.below hb) (.mx (.slice pa (mulT q n L K).length pk) ((mulT q n L K).map nl)) ph.out)
  clear E3 hb ph
  go_wp2_with fail
  refine (Apply_ok q m L x (E4.out.fc 3 rfl) (E4.out.fc 1 rfl) (hl.out.below E4.out.bel) hv.out hs.out hr.out).mono ?_
  rintro e w4 ⟨⟨ra, rk, rfl, rh⟩, hb⟩
  have E5 : Hid (Env D w [(w1.heap.size, 40, [.slice xa L.length xk, .slice ya K.length yk])] [.rw (.slice ra (appT q L x).length rk) (appT q L x).length 1 (ncl (appT q L x)), .mx (.slice pa (mulT q n L K).length pk) ((mulT q n L K).map nl), .rw (.slice za x.length zk) x.length 1 (ncl x), .mx (.slice ya K.length yk) (K.map nl), .mx (.slice xa L.length xk) (L.map nl)] w4) := Lib.hid (E4.out.got (E4.out.below hb) (.rw (.slice ra (appT q L x).length rk) (appT q L x).length 1 (ncl (appT q L x))) (Lib.hid (Rw.ge rh.out)).out)
  clear E4 hb
  go_wp2_with fail
  refine (Rank_ok q m L (E5.out.fc 4 rfl) (hl.out.below E5.out.bel) hv.out).mono ?_
  rintro e w5 ⟨rfl, hb⟩
  have E6 : Hid (Env D w [(w1.heap.size, 40, [.slice xa L.length xk, .slice ya K.length yk])] [.rw (.slice ra (appT q L x).length rk) (appT q L x).length 1 (ncl (appT q L x)), .mx (.slice pa (mulT q n L K).length pk) ((mulT q n L K).map nl), .rw (.slice za x.length zk) x.length 1 (ncl x), .mx (.slice ya K.length yk) (K.map nl), .mx (.slice xa L.length xk) (L.map nl)] w5) := Lib.hid (E5.out.below hb)
  clear E5 hb
  go_wp2_with fail
  refine (rMValidN (E6.out.fc 4 rfl) hv.out).mono ?_
  rintro e w6 ⟨rfl, hb⟩
  have E7 : Hid (Env D w [(w1.heap.size, 40, [.slice xa L.length xk, .slice ya K.length yk])] [.rw (.slice ra (appT q L x).length rk) (appT q L x).length 1 (ncl (appT q L x)), .mx (.slice pa (mulT q n L K).length pk) ((mulT q n L K).map nl), .rw (.slice za x.length zk) x.length 1 (ncl x), .mx (.slice ya K.length yk) (K.map nl), .mx (.slice xa L.length xk) (L.map nl)] w6) := Lib.hid (E6.out.below hb)
  clear E6 hb
  go_wp2_with fail
  refine (mValidN (E7.out.fc 4 rfl) (hl.out.below E7.out.bel) hv.out).mono ?_
  rintro e w7 ⟨rfl, hb⟩
  have E8 : Hid (Env D w [(w1.heap.size, 40, [.slice xa L.length xk, .slice ya K.length yk])] [.rw (.slice ra (appT q L x).length rk) (appT q L x).length 1 (ncl (appT q L x)), .mx (.slice pa (mulT q n L K).length pk) ((mulT q n L K).map nl), .rw (.slice za x.length zk) x.length 1 (ncl x), .mx (.slice ya K.length yk) (K.map nl), .mx (.slice xa L.length xk) (L.map nl)] w7) := Lib.hid (E7.out.below hb)
  clear E7 hb
  have n1 : ((L[0].length : Int) != (K.length : Int)) = false := by have h1 := HL0.out; have h2 := hne.out; rw [h1, h2]; simp
  have n2 : (L[0].length != K.length) = false := by have h1 := HL0.out; have h2 := hne.out; rw [h1, h2]; simp
  go_upto_region 11 with (fail)
  obtain ⟨xab, xao, rfl⟩ := Mx.addrN (E8.out.fc 4 rfl) hz
  obtain ⟨ua, uk, E90⟩ := E8.out.elMN 4 rfl (0) hz
  have E9 : Hid (Env D w [(w1.heap.size, 40, [.slice (some ⟨xab, xao, none⟩) L.length xk, .slice ya K.length yk])] [.ce xab (xao) (.slice ua L[0].length uk), .rw (.slice ua L[0].length uk) L[0].length 1 (ncl L[0]), .rw (.slice ra (appT q L x).length rk) (appT q L x).length 1 (ncl (appT q L x)), .mx (.slice pa (mulT q n L K).length pk) ((mulT q n L K).map nl), .rw (.slice za x.length zk) x.length 1 (ncl x), .mx (.slice ya K.length yk) (K.map nl), .mx (.slice (some ⟨xab, xao, none⟩) L.length xk) (L.map nl)] _) := Lib.hid E90
  clear E90 E8
  have u0 := (E9.out.fc 0 rfl).2
  go_wp2_with fail
  refine (rMValidN (E9.out.fc 5 rfl) hu.out).mono ?_
  rintro e w8 ⟨rfl, hb⟩
  have E10 : Hid (Env D w [(w1.heap.size, 40, [.slice (some ⟨xab, xao, none⟩) L.length xk, .slice ya K.length yk])] [.ce xab (xao) (.slice ua L[0].length uk), .rw (.slice ua L[0].length uk) L[0].length 1 (ncl L[0]), .rw (.slice ra (appT q L x).length rk) (appT q L x).length 1 (ncl (appT q L x)), .mx (.slice pa (mulT q n L K).length pk) ((mulT q n L K).map nl), .rw (.slice za x.length zk) x.length 1 (ncl x), .mx (.slice ya K.length yk) (K.map nl), .mx (.slice (some ⟨xab, xao, none⟩) L.length xk) (L.map nl)] w8) := Lib.hid (E9.out.below hb)
  clear u0 E9 hb
  have z1 := (E10.out.fc 0 rfl).2
  have n30 := Lib.hid hu.out.n30
  have m30 := Lib.hid hv.out.m30
  have hq1 : Hid (0 < q) := Lib.hid (by have := hv.out.q2; omega)
  go_wp2_with fail
  refine (rmMul_c q m n L K (E10.out.fc 6 rfl) (E10.out.fc 5 rfl) hq1.out hv.out.qT hv.out.res hu.out.res hv.out.m1 hv.out.m30 hne.out.symm hv.out.n1 hv.out.n30 hu.out.n30).mono ?_
  rintro e w9 ⟨⟨qa, qk, rfl, qh⟩, hb⟩
  have E11 : Hid (Env D w [(w1.heap.size, 40, [.slice (some ⟨xab, xao, none⟩) L.length xk, .slice ya K.length yk])] [.mx (.slice qa (mulT q n L K).length qk) ((mulT q n L K).map nl), .ce xab (xao) (.slice ua L[0].length uk), .rw (.slice ua L[0].length uk) L[0].length 1 (ncl L[0]), .rw (.slice ra (appT q L x).length rk) (appT q L x).length 1 (ncl (appT q L x)), .mx (.slice pa (mulT q n L K).length pk) ((mulT q n L K).map nl), .rw (.slice za x.length zk) x.length 1 (ncl x), .mx (.slice ya K.length yk) (K.map nl), .mx (.slice (some ⟨xab, xao, none⟩) L.length xk) (L.map nl)] w9) := Lib.hid (E10.out.got (E10.out.below hb) (.mx (.slice qa (mulT q n L K).length qk) ((mulT q n L K).map nl)) qh.out)
  clear z1 E10 hb qh
  go_wp2_with fail
  refine (rSameN (E11.out.fc 4 rfl) (E11.out.fc 0 rfl) (by rw [mulT_len]; exact Nat.le_trans m30.out (by omega)) (fun r h => by rw [mulT_row r h]; exact Nat.le_trans n30.out (by omega))).mono ?_
  rintro e w10 ⟨rfl, hb⟩
  have E12 : Hid (Env D w [(w1.heap.size, 40, [.slice (some ⟨xab, xao, none⟩) L.length xk, .slice ya K.length yk])] [.mx (.slice qa (mulT q n L K).length qk) ((mulT q n L K).map nl), .ce xab (xao) (.slice ua L[0].length uk), .rw (.slice ua L[0].length uk) L[0].length 1 (ncl L[0]), .rw (.slice ra (appT q L x).length rk) (appT q L x).length 1 (ncl (appT q L x)), .mx (.slice pa (mulT q n L K).length pk) ((mulT q n L K).map nl), .rw (.slice za x.length zk) x.length 1 (ncl x), .mx (.slice ya K.length yk) (K.map nl), .mx (.slice (some ⟨xab, xao, none⟩) L.length xk) (L.map nl)] w10) := Lib.hid (E11.out.below hb)
  clear E11 hb
  go_wp2_with fail
  refine (rRank_c q m L (E12.out.fc 7 rfl) hv.out).mono ?_
  rintro e w11 ⟨rfl, hb⟩
  have E13 : Hid (Env D w [(w1.heap.size, 40, [.slice (some ⟨xab, xao, none⟩) L.length xk, .slice ya K.length yk])] [.mx (.slice qa (mulT q n L K).length qk) ((mulT q n L K).map nl), .ce xab (xao) (.slice ua L[0].length uk), .rw (.slice ua L[0].length uk) L[0].length 1 (ncl L[0]), .rw (.slice ra (appT q L x).length rk) (appT q L x).length 1 (ncl (appT q L x)), .mx (.slice pa (mulT q n L K).length pk) ((mulT q n L K).map nl), .rw (.slice za x.length zk) x.length 1 (ncl x), .mx (.slice ya K.length yk) (K.map nl), .mx (.slice (some ⟨xab, xao, none⟩) L.length xk) (L.map nl)] w11) := Lib.hid (E12.out.below hb)
  clear E12 hb
  have k1 : ((x.length : Int) != (L[0].length : Int)) = false := by have h1 := HL0.out; have h2 := hs.out; rw [h1, h2]; simp
  have k2 : (x.length != L[0].length) = false := by have h1 := HL0.out; have h2 := hs.out; rw [h1, h2]; simp
  have z2 := (E13.out.fc 1 rfl).2
  go_wp2_with fail
  refine (rVecN (E13.out.fc 5 rfl) hr.out (by omega)).mono ?_
  rintro e w12 ⟨rfl, hb⟩
  have E14 : Hid (Env D w [(w1.heap.size, 40, [.slice (some ⟨xab, xao, none⟩) L.length xk, .slice ya K.length yk])] [.mx (.slice qa (mulT q n L K).length qk) ((mulT q n L K).map nl), .ce xab (xao) (.slice ua L[0].length uk), .rw (.slice ua L[0].length uk) L[0].length 1 (ncl L[0]), .rw (.slice ra (appT q L x).length rk) (appT q L x).length 1 (ncl (appT q L x)), .mx (.slice pa (mulT q n L K).length pk) ((mulT q n L K).map nl), .rw (.slice za x.length zk) x.length 1 (ncl x), .mx (.slice ya K.length yk) (K.map nl), .mx (.slice (some ⟨xab, xao, none⟩) L.length xk) (L.map nl)] w12) := Lib.hid (E13.out.below hb)
  clear z2 E13 hb
  have m31 := Lib.hid hv.out.m30
  have n31 := Lib.hid hv.out.n30
  have hq2 : Hid (0 < q) := Lib.hid (by have := hv.out.q2; omega)
  go_wp2_with fail
  refine (rApply_c q m L x (E14.out.fc 7 rfl) (E14.out.fc 5 rfl) hq2.out hv.out.qT (Nat.le_trans m31.out (by omega)) hv.out.res hs.out hr.out (Nat.le_trans n31.out (by omega))).mono ?_
  rintro e w13 ⟨⟨sa, sk, rfl, sh⟩, hb⟩
  have E15 : Hid (Env D w [(w1.heap.size, 40, [.slice (some ⟨xab, xao, none⟩) L.length xk, .slice ya K.length yk])] [.rw (.slice sa (appT q L x).length sk) (appT q L x).length 1 (ncl (appT q L x)), .mx (.slice qa (mulT q n L K).length qk) ((mulT q n L K).map nl), .ce xab (xao) (.slice ua L[0].length uk), .rw (.slice ua L[0].length uk) L[0].length 1 (ncl L[0]), .rw (.slice ra (appT q L x).length rk) (appT q L x).length 1 (ncl (appT q L x)), .mx (.slice pa (mulT q n L K).length pk) ((mulT q n L K).map nl), .rw (.slice za x.length zk) x.length 1 (ncl x), .mx (.slice ya K.length yk) (K.map nl), .mx (.slice (some ⟨xab, xao, none⟩) L.length xk) (L.map nl)] w13) := Lib.hid (E14.out.got (E14.out.below hb) (.rw (.slice sa (appT q L x).length sk) (appT q L x).length 1 (ncl (appT q L x))) (Lib.hid (Rw.ge sh.out)).out)
  clear E14 hb
  go_wp2_with fail
  refine (equalN_c (t := true) (a := appT q L x) (b := appT q L x) (E15.out.fc 4 rfl) (E15.out.fc 0 rfl) (by unfold appT; rw [tab_len]; exact Nat.le_trans m31.out (by omega)) (by unfold appT; rw [tab_len]; exact Nat.le_trans m31.out (by omega)) (by simp)).mono ?_
  rintro e w14 ⟨rfl, hb⟩
  have E16 : Hid (Env D w [(w1.heap.size, 40, [.slice (some ⟨xab, xao, none⟩) L.length xk, .slice ya K.length yk])] [.rw (.slice sa (appT q L x).length sk) (appT q L x).length 1 (ncl (appT q L x)), .mx (.slice qa (mulT q n L K).length qk) ((mulT q n L K).map nl), .ce xab (xao) (.slice ua L[0].length uk), .rw (.slice ua L[0].length uk) L[0].length 1 (ncl L[0]), .rw (.slice ra (appT q L x).length rk) (appT q L x).length 1 (ncl (appT q L x)), .mx (.slice pa (mulT q n L K).length pk) ((mulT q n L K).map nl), .rw (.slice za x.length zk) x.length 1 (ncl x), .mx (.slice ya K.length yk) (K.map nl), .mx (.slice (some ⟨xab, xao, none⟩) L.length xk) (L.map nl)] w14) := Lib.hid (E15.out.below hb)
  clear E15 hb
  have hfin := Lib.hid E16.out.bel
  go_wp2
  go_ret
  exact ⟨rfl, hfin.out⟩
theorem MatrixProducts_walk {D : Nat → Prop} (q : Int) (M N : List (List Int)) (x : List Int) {xa ya za : Option Addr} {xk yk zk : Nat} {w : World} (hx : Fct.at w D (.mx (.slice xa M.length xk) M)) (hy : Fct.at w D (.mx (.slice ya N.length yk) N)) (hz : Fct.at w D (.rw (.slice za x.length zk) x.length 1 (icl x))) (hl : Laid w) (hn : -9223372036854775808 ≤ q ∧ q ≤ 9223372036854775807) :
    Calls Tryd.prog 9 #[.int .i64 q, .slice xa M.length xk, .slice ya N.length yk, .slice za x.length zk] w fun e w' => e = .returned (.bool true) ∧ Below w.heap.size w w' := by
  cases hg : [M, N].any (fun x => grM x) with
  | true => exact mp_a q M N x hx hy hz hl hg
  | false =>
    by_cases h1 : 100 < x.length
    · exact mp_b q M N x hx hy hz hl hg h1
    have h2 : x.length ≤ 100 := by omega
    cases hv : mvB q M with
    | false => exact mp_c q M N x hx hy hz hl hg hn h2 hv
    | true =>
      obtain ⟨p, m, L, rfl, rfl, hL, _⟩ := mv_nat hv
      rw [List.length_map] at hx ⊢
      have xcase : ∀ (C : Prop), (¬ x.length = m → C) → (x.length = m → x.all (resB (p : Int)) = false → C) → (∀ y : List Nat, x = nl y → y.length = m → (∀ c ∈ y, c < p) → C) → C := by
        intro C c1 c2 c3
        by_cases h : x.length = m
        · cases hr : x.all (resB (p : Int)) with
          | false => exact c2 h hr
          | true =>
            obtain ⟨y, rfl, hy2⟩ := all_nl2 hr
            exact c3 y rfl (by rw [nl_len] at h; exact h) (fun c hc => Int.ofNat_lt.1 (hy2 c hc))
        · exact c1 h
      cases hu : mvB (p : Int) N with
      | false =>
        refine xcase _ (fun c => mp_i1 p m L N x hx hy hz hl hg h2 hL hu c) (fun c d => mp_i2 p m L N x hx hy hz hl hg h2 hL hu c d) ?_
        rintro y rfl c d
        rw [nl_len] at hz h2 ⊢
        exact mp_i3 p m L N y hx hy hz hl hg h2 hL hu c d
      | true =>
        obtain ⟨p2, n, K, hp, rfl, hK, _⟩ := mv_nat hu
        obtain rfl : p = p2 := by omega
        rw [List.length_map] at hy ⊢
        by_cases hne : m = K.length
        · refine xcase _ (fun c => mp_k1 p m n L K x hx hy hz hl hg h2 hL hK hne c) (fun c d => mp_k2 p m n L K x hx hy hz hl hg h2 hL hK hne c d) ?_
          rintro y rfl c d
          rw [nl_len] at hz h2 ⊢
          exact mp_k3 p m n L K y hx hy hz hl hg h2 hL hK hne c d
        · refine xcase _ (fun c => mp_j1 p m n L K x hx hy hz hl hg h2 hL hK hne c) (fun c d => mp_j2 p m n L K x hx hy hz hl hg h2 hL hK hne c d) ?_
          rintro y rfl c d
          rw [nl_len] at hz h2 ⊢
          exact mp_j3 p m n L K y hx hy hz hl hg h2 hL hK hne c d
end Go.Proofs.YtinlfogpbologaaDoor

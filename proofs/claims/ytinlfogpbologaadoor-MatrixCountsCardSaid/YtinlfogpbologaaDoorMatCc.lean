/- matrix: the law MatrixCounts. -/
import Derived.Test.YtinlfogpbologaaDoorMatCb
namespace Go.Proofs.YtinlfogpbologaaDoor
open Go.RowKit DivMath WordMath
set_option linter.unusedVariables false
set_option linter.unusedSimpArgs false
set_option maxRecDepth 100000 in
set_option maxHeartbeats 8000000 in
theorem mk_a {D : Nat → Prop} (q : Int) (M : List (List Int)) (b : List Int) {xa ya : Option Addr} {xk yk : Nat} {w : World} (hx : Fct.at w D (.mx (.slice xa M.length xk) M)) (hy : Fct.at w D (.rw (.slice ya b.length yk) b.length 1 (icl b))) (hl0 : Laid w) (HG0 : [M].any (fun x => grM x) = true)  :
    Calls Tryd.prog 8 #[.int .i64 q, .slice xa M.length xk, .slice ya b.length yk] w fun e w' => e = .returned (.bool true) ∧ Below w.heap.size w w' := by
  have E0 : Hid (Env D w [] [.rw (.slice ya b.length yk) b.length 1 (icl b), .mx (.slice xa M.length xk) M] w) := Lib.hid (((Env.start D w).arg (.mx (.slice xa M.length xk) M) hx).arg (.rw (.slice ya b.length yk) b.length 1 (icl b)) hy)
  clear hx hy
  go_enter Tryd.func8, Tryd.ntmps8
  have hl := Lib.hid hl0
  have HG := Lib.hid HG0
  clear hl0 HG0
  go_wp2_with fail
  refine (awake14_c (hl.out.below E0.out.bel)).mono ?_
  rintro e w1 ⟨rfl, hb⟩
  have E1 : Hid (Env D w [] [.rw (.slice ya b.length yk) b.length 1 (icl b), .mx (.slice xa M.length xk) M] w1) := Lib.hid (E0.out.below hb)
  clear E0 hb
  have E2 : Hid (Env D w [(w1.heap.size, 40, [.slice xa M.length xk])] [.rw (.slice ya b.length yk) b.length 1 (icl b), .mx (.slice xa M.length xk) M] _) := Lib.hid ((E1.out.push 40 [.slice xa M.length xk] (w1.heap.size) (by simp)))
  go_wp2_with fail
  refine (great14_c (t := true) [M] (xb := w1.heap.size) (xo := 0) (xk := 1) (gMats.one (by simp) (E2.out.bx 0 rfl) (E2.out.fc 1 rfl)) HG.out (by simp)).mono ?_
  rintro e w2 ⟨rfl, hb⟩
  have E3 : Hid (Env D w [(w1.heap.size, 40, [.slice xa M.length xk])] [.rw (.slice ya b.length yk) b.length 1 (icl b), .mx (.slice xa M.length xk) M] w2) := Lib.hid (E2.out.below hb)
  clear E1 E2 hb
  have hfin := Lib.hid E3.out.bel
  go_wp2
  go_ret
  exact ⟨rfl, hfin.out⟩
set_option maxRecDepth 100000 in
set_option maxHeartbeats 8000000 in
theorem mk_b {D : Nat → Prop} (q : Int) (M : List (List Int)) (b : List Int) {xa ya : Option Addr} {xk yk : Nat} {w : World} (hx : Fct.at w D (.mx (.slice xa M.length xk) M)) (hy : Fct.at w D (.rw (.slice ya b.length yk) b.length 1 (icl b))) (hl0 : Laid w) (HG0 : [M].any (fun x => grM x) = false) (h1 : 100 < b.length) :
    Calls Tryd.prog 8 #[.int .i64 q, .slice xa M.length xk, .slice ya b.length yk] w fun e w' => e = .returned (.bool true) ∧ Below w.heap.size w w' := by
  have E0 : Hid (Env D w [] [.rw (.slice ya b.length yk) b.length 1 (icl b), .mx (.slice xa M.length xk) M] w) := Lib.hid (((Env.start D w).arg (.mx (.slice xa M.length xk) M) hx).arg (.rw (.slice ya b.length yk) b.length 1 (icl b)) hy)
  clear hx hy
  go_enter Tryd.func8, Tryd.ntmps8
  have hl := Lib.hid hl0
  have HG := Lib.hid HG0
  clear hl0 HG0
  go_wp2_with fail
  refine (awake14_c (hl.out.below E0.out.bel)).mono ?_
  rintro e w1 ⟨rfl, hb⟩
  have E1 : Hid (Env D w [] [.rw (.slice ya b.length yk) b.length 1 (icl b), .mx (.slice xa M.length xk) M] w1) := Lib.hid (E0.out.below hb)
  clear E0 hb
  have d3 : decide ((100 : Int) < (b.length : Int)) = true := decide_eq_true (by omega)
  have d3n : decide (100 < b.length) = true := decide_eq_true (by omega)
  clear h1
  have E2 : Hid (Env D w [(w1.heap.size, 40, [.slice xa M.length xk])] [.rw (.slice ya b.length yk) b.length 1 (icl b), .mx (.slice xa M.length xk) M] _) := Lib.hid ((E1.out.push 40 [.slice xa M.length xk] (w1.heap.size) (by simp)))
  go_wp2_with fail
  refine (great14_c (t := false) [M] (xb := w1.heap.size) (xo := 0) (xk := 1) (gMats.one (by simp) (E2.out.bx 0 rfl) (E2.out.fc 1 rfl)) HG.out (by simp)).mono ?_
  rintro e w2 ⟨rfl, hb⟩
  have E3 : Hid (Env D w [(w1.heap.size, 40, [.slice xa M.length xk])] [.rw (.slice ya b.length yk) b.length 1 (icl b), .mx (.slice xa M.length xk) M] w2) := Lib.hid (E2.out.below hb)
  clear E1 E2 hb
  have hfin := Lib.hid E3.out.bel
  go_wp2
  go_ret
  exact ⟨rfl, hfin.out⟩
set_option maxRecDepth 100000 in
set_option maxHeartbeats 8000000 in
theorem mk_c {D : Nat → Prop} (q : Int) (M : List (List Int)) (b : List Int) {xa ya : Option Addr} {xk yk : Nat} {w : World} (hx : Fct.at w D (.mx (.slice xa M.length xk) M)) (hy : Fct.at w D (.rw (.slice ya b.length yk) b.length 1 (icl b))) (hl0 : Laid w) (HG0 : [M].any (fun x => grM x) = false) (h1 : b.length ≤ 100) (hq7 : 7 < q) :
    Calls Tryd.prog 8 #[.int .i64 q, .slice xa M.length xk, .slice ya b.length yk] w fun e w' => e = .returned (.bool true) ∧ Below w.heap.size w w' := by
  have E0 : Hid (Env D w [] [.rw (.slice ya b.length yk) b.length 1 (icl b), .mx (.slice xa M.length xk) M] w) := Lib.hid (((Env.start D w).arg (.mx (.slice xa M.length xk) M) hx).arg (.rw (.slice ya b.length yk) b.length 1 (icl b)) hy)
  clear hx hy
  go_enter Tryd.func8, Tryd.ntmps8
  have hl := Lib.hid hl0
  have HG := Lib.hid HG0
  clear hl0 HG0
  go_wp2_with fail
  refine (awake14_c (hl.out.below E0.out.bel)).mono ?_
  rintro e w1 ⟨rfl, hb⟩
  have E1 : Hid (Env D w [] [.rw (.slice ya b.length yk) b.length 1 (icl b), .mx (.slice xa M.length xk) M] w1) := Lib.hid (E0.out.below hb)
  clear E0 hb
  have d3 : decide ((100 : Int) < (b.length : Int)) = false := decide_eq_false (by omega)
  have d3n : decide (100 < b.length) = false := decide_eq_false (by omega)
  have d4 : decide (7 < q) = true := decide_eq_true hq7
  have E2 : Hid (Env D w [(w1.heap.size, 40, [.slice xa M.length xk])] [.rw (.slice ya b.length yk) b.length 1 (icl b), .mx (.slice xa M.length xk) M] _) := Lib.hid ((E1.out.push 40 [.slice xa M.length xk] (w1.heap.size) (by simp)))
  go_wp2_with fail
  refine (great14_c (t := false) [M] (xb := w1.heap.size) (xo := 0) (xk := 1) (gMats.one (by simp) (E2.out.bx 0 rfl) (E2.out.fc 1 rfl)) HG.out (by simp)).mono ?_
  rintro e w2 ⟨rfl, hb⟩
  have E3 : Hid (Env D w [(w1.heap.size, 40, [.slice xa M.length xk])] [.rw (.slice ya b.length yk) b.length 1 (icl b), .mx (.slice xa M.length xk) M] w2) := Lib.hid (E2.out.below hb)
  clear E1 E2 hb
  have hfin := Lib.hid E3.out.bel
  go_wp2
  go_ret
  exact ⟨rfl, hfin.out⟩
set_option maxRecDepth 100000 in
set_option maxHeartbeats 8000000 in
theorem mk_d {D : Nat → Prop} (q : Int) (M : List (List Int)) (b : List Int) {xa ya : Option Addr} {xk yk : Nat} {w : World} (hx : Fct.at w D (.mx (.slice xa M.length xk) M)) (hy : Fct.at w D (.rw (.slice ya b.length yk) b.length 1 (icl b))) (hl0 : Laid w) (HG0 : [M].any (fun x => grM x) = false) (hn : -9223372036854775808 ≤ q ∧ q ≤ 9223372036854775807) (h1 : b.length ≤ 100) (hq7 : q ≤ 7) (hv0 : mvB q M = false) :
    Calls Tryd.prog 8 #[.int .i64 q, .slice xa M.length xk, .slice ya b.length yk] w fun e w' => e = .returned (.bool true) ∧ Below w.heap.size w w' := by
  have E0 : Hid (Env D w [] [.rw (.slice ya b.length yk) b.length 1 (icl b), .mx (.slice xa M.length xk) M] w) := Lib.hid (((Env.start D w).arg (.mx (.slice xa M.length xk) M) hx).arg (.rw (.slice ya b.length yk) b.length 1 (icl b)) hy)
  clear hx hy
  go_enter Tryd.func8, Tryd.ntmps8
  have hl := Lib.hid hl0
  have HG := Lib.hid HG0
  have hv := Lib.hid hv0
  clear hl0 HG0 hv0
  go_wp2_with fail
  refine (awake14_c (hl.out.below E0.out.bel)).mono ?_
  rintro e w1 ⟨rfl, hb⟩
  have E1 : Hid (Env D w [] [.rw (.slice ya b.length yk) b.length 1 (icl b), .mx (.slice xa M.length xk) M] w1) := Lib.hid (E0.out.below hb)
  clear E0 hb
  have d3 : decide ((100 : Int) < (b.length : Int)) = false := decide_eq_false (by omega)
  have d3n : decide (100 < b.length) = false := decide_eq_false (by omega)
  have d4 : decide (7 < q) = false := decide_eq_false (by omega)
  have E2 : Hid (Env D w [(w1.heap.size, 40, [.slice xa M.length xk])] [.rw (.slice ya b.length yk) b.length 1 (icl b), .mx (.slice xa M.length xk) M] _) := Lib.hid ((E1.out.push 40 [.slice xa M.length xk] (w1.heap.size) (by simp)))
  go_wp2_with fail
  refine (great14_c (t := false) [M] (xb := w1.heap.size) (xo := 0) (xk := 1) (gMats.one (by simp) (E2.out.bx 0 rfl) (E2.out.fc 1 rfl)) HG.out (by simp)).mono ?_
  rintro e w2 ⟨rfl, hb⟩
  have E3 : Hid (Env D w [(w1.heap.size, 40, [.slice xa M.length xk])] [.rw (.slice ya b.length yk) b.length 1 (icl b), .mx (.slice xa M.length xk) M] w2) := Lib.hid (E2.out.below hb)
  clear E1 E2 hb
  go_wp2_with fail
  refine (rMValid_c q M (E3.out.fc 1 rfl) hn.1 hv.out).mono ?_
  rintro e w3 ⟨rfl, hb⟩
  have E4 : Hid (Env D w [(w1.heap.size, 40, [.slice xa M.length xk])] [.rw (.slice ya b.length yk) b.length 1 (icl b), .mx (.slice xa M.length xk) M] w3) := Lib.hid (E3.out.below hb)
  clear E3 hb
  have hfin := Lib.hid E4.out.bel
  go_wp2
  go_ret
  exact ⟨rfl, hfin.out⟩
set_option maxRecDepth 100000 in
set_option maxHeartbeats 8000000 in
theorem mk_e {D : Nat → Prop} (q n : Nat) (L : List (List Nat)) (b : List Int) {xa ya : Option Addr} {xk yk : Nat} {w : World} (hx : Fct.at w D (.mx (.slice xa L.length xk) (L.map nl))) (hy : Fct.at w D (.rw (.slice ya b.length yk) b.length 1 (icl b))) (hl0 : Laid w) (HG0 : [L.map nl].any (fun x => grM x) = false) (h1 : b.length ≤ 100) (hq7 : q ≤ 7) (hv0 : MvI q n L) (hn4 : 4 < n) :
    Calls Tryd.prog 8 #[.int .i64 (q : Nat), .slice xa L.length xk, .slice ya b.length yk] w fun e w' => e = .returned (.bool true) ∧ Below w.heap.size w w' := by
  have E0 : Hid (Env D w [] [.rw (.slice ya b.length yk) b.length 1 (icl b), .mx (.slice xa L.length xk) (L.map nl)] w) := Lib.hid (((Env.start D w).arg (.mx (.slice xa L.length xk) (L.map nl)) hx).arg (.rw (.slice ya b.length yk) b.length 1 (icl b)) hy)
  clear hx hy
  go_enter Tryd.func8, Tryd.ntmps8
  have hl := Lib.hid hl0
  have HG := Lib.hid HG0
  have hv := Lib.hid hv0
  clear hl0 HG0 hv0
  go_wp2_with fail
  refine (awake14_c (hl.out.below E0.out.bel)).mono ?_
  rintro e w1 ⟨rfl, hb⟩
  have E1 : Hid (Env D w [] [.rw (.slice ya b.length yk) b.length 1 (icl b), .mx (.slice xa L.length xk) (L.map nl)] w1) := Lib.hid (E0.out.below hb)
  clear E0 hb
  have d3 : decide ((100 : Int) < (b.length : Int)) = false := decide_eq_false (by omega)
  have d3n : decide (100 < b.length) = false := decide_eq_false (by omega)
  have d4 : decide ((7 : Int) < (q : Int)) = false := decide_eq_false (by omega)
  have d4n : decide (7 < q) = false := decide_eq_false (by omega)
  have hz : 0 < L.length := hv.out.m1
  have hzI : (0 : Int) < (L.length : Int) := by omega
  have HL0 : Hid (L[0].length = n) := Lib.hid (hv.out.res _ (List.getElem_mem hz)).1
  go_upto_region 3 with (fail)
  obtain ⟨xab, xao, rfl⟩ := Mx.addrN (E1.out.fc 1 rfl) hz
  obtain ⟨ua, uk, E20⟩ := E1.out.elMN 1 rfl (0) hz
  have E2 : Hid (Env D w [] [.ce xab (xao) (.slice ua L[0].length uk), .rw (.slice ua L[0].length uk) L[0].length 1 (ncl L[0]), .rw (.slice ya b.length yk) b.length 1 (icl b), .mx (.slice (some ⟨xab, xao, none⟩) L.length xk) (L.map nl)] _) := Lib.hid E20
  clear E20 E1
  have u0 := (E2.out.fc 0 rfl).2
  have e1 : decide ((4 : Int) < (L[0].length : Int)) = true := by have h := HL0.out; exact decide_eq_true (by omega)
  have e2 : decide (4 < L[0].length) = true := by have h := HL0.out; exact decide_eq_true (by omega)
  clear hn4
  have E3 : Hid (Env D w [(w1.heap.size, 40, [.slice (some ⟨xab, xao, none⟩) L.length xk])] [.ce xab (xao) (.slice ua L[0].length uk), .rw (.slice ua L[0].length uk) L[0].length 1 (ncl L[0]), .rw (.slice ya b.length yk) b.length 1 (icl b), .mx (.slice (some ⟨xab, xao, none⟩) L.length xk) (L.map nl)] _) := Lib.hid ((E2.out.push 40 [.slice (some ⟨xab, xao, none⟩) L.length xk] (w1.heap.size) (by simp)))
  go_wp2_with fail
  refine (great14_c (t := false) [L.map nl] (xb := w1.heap.size) (xo := 0) (xk := 1) (gMats.one (by simp) (E3.out.bx 0 rfl) (E3.out.fc 3 rfl)) HG.out (by simp)).mono ?_
  rintro e w2 ⟨rfl, hb⟩
  have E4 : Hid (Env D w [(w1.heap.size, 40, [.slice (some ⟨xab, xao, none⟩) L.length xk])] [.ce xab (xao) (.slice ua L[0].length uk), .rw (.slice ua L[0].length uk) L[0].length 1 (ncl L[0]), .rw (.slice ya b.length yk) b.length 1 (icl b), .mx (.slice (some ⟨xab, xao, none⟩) L.length xk) (L.map nl)] w2) := Lib.hid (E3.out.below hb)
  clear u0 E2 E3 hb
  go_wp2_with fail
  refine (rMValidN (E4.out.fc 3 rfl) hv.out).mono ?_
  rintro e w3 ⟨rfl, hb⟩
  have E5 : Hid (Env D w [(w1.heap.size, 40, [.slice (some ⟨xab, xao, none⟩) L.length xk])] [.ce xab (xao) (.slice ua L[0].length uk), .rw (.slice ua L[0].length uk) L[0].length 1 (ncl L[0]), .rw (.slice ya b.length yk) b.length 1 (icl b), .mx (.slice (some ⟨xab, xao, none⟩) L.length xk) (L.map nl)] w3) := Lib.hid (E4.out.below hb)
  clear E4 hb
  have z1 := (E5.out.fc 0 rfl).2
  have hfin := Lib.hid E5.out.bel
  go_wp2
  go_ret
  exact ⟨rfl, hfin.out⟩
set_option maxRecDepth 100000 in
set_option maxHeartbeats 8000000 in
theorem mk_f {D : Nat → Prop} (q n : Nat) (L : List (List Nat)) (b : List Int) {xa ya : Option Addr} {xk yk : Nat} {w : World} (hx : Fct.at w D (.mx (.slice xa L.length xk) (L.map nl))) (hy : Fct.at w D (.rw (.slice ya b.length yk) b.length 1 (icl b))) (hl0 : Laid w) (HG0 : [L.map nl].any (fun x => grM x) = false) (h1 : b.length ≤ 100) (hq7 : q ≤ 7) (hv0 : MvI q n L) (hn4 : n ≤ 4) (hs0 : ¬ b.length = L.length) :
    Calls Tryd.prog 8 #[.int .i64 (q : Nat), .slice xa L.length xk, .slice ya b.length yk] w fun e w' => e = .returned (.bool true) ∧ Below w.heap.size w w' := by
  have E0 : Hid (Env D w [] [.rw (.slice ya b.length yk) b.length 1 (icl b), .mx (.slice xa L.length xk) (L.map nl)] w) := Lib.hid (((Env.start D w).arg (.mx (.slice xa L.length xk) (L.map nl)) hx).arg (.rw (.slice ya b.length yk) b.length 1 (icl b)) hy)
  clear hx hy
  go_enter Tryd.func8, Tryd.ntmps8
  have hl := Lib.hid hl0
  have HG := Lib.hid HG0
  have hv := Lib.hid hv0
  have hs := Lib.hid hs0
  clear hl0 HG0 hv0 hs0
  go_wp2_with fail
  refine (awake14_c (hl.out.below E0.out.bel)).mono ?_
  rintro e w1 ⟨rfl, hb⟩
  have E1 : Hid (Env D w [] [.rw (.slice ya b.length yk) b.length 1 (icl b), .mx (.slice xa L.length xk) (L.map nl)] w1) := Lib.hid (E0.out.below hb)
  clear E0 hb
  have d3 : decide ((100 : Int) < (b.length : Int)) = false := decide_eq_false (by omega)
  have d3n : decide (100 < b.length) = false := decide_eq_false (by omega)
  have d4 : decide ((7 : Int) < (q : Int)) = false := decide_eq_false (by omega)
  have d4n : decide (7 < q) = false := decide_eq_false (by omega)
  have hz : 0 < L.length := hv.out.m1
  have hzI : (0 : Int) < (L.length : Int) := by omega
  have HL0 : Hid (L[0].length = n) := Lib.hid (hv.out.res _ (List.getElem_mem hz)).1
  go_upto_region 3 with (fail)
  obtain ⟨xab, xao, rfl⟩ := Mx.addrN (E1.out.fc 1 rfl) hz
  obtain ⟨ua, uk, E20⟩ := E1.out.elMN 1 rfl (0) hz
  have E2 : Hid (Env D w [] [.ce xab (xao) (.slice ua L[0].length uk), .rw (.slice ua L[0].length uk) L[0].length 1 (ncl L[0]), .rw (.slice ya b.length yk) b.length 1 (icl b), .mx (.slice (some ⟨xab, xao, none⟩) L.length xk) (L.map nl)] _) := Lib.hid E20
  clear E20 E1
  have u0 := (E2.out.fc 0 rfl).2
  have e1 : decide ((4 : Int) < (L[0].length : Int)) = false := by have h := HL0.out; exact decide_eq_false (by omega)
  have e2 : decide (4 < L[0].length) = false := by have h := HL0.out; exact decide_eq_false (by omega)
  have n1 : ((b.length : Int) != (L.length : Int)) = true := by have h2 := hs.out; rw [bne_iff_ne]; omega
  have n2 : (b.length != L.length) = true := by have h2 := hs.out; rw [bne_iff_ne]; omega
  have E3 : Hid (Env D w [(w1.heap.size, 40, [.slice (some ⟨xab, xao, none⟩) L.length xk])] [.ce xab (xao) (.slice ua L[0].length uk), .rw (.slice ua L[0].length uk) L[0].length 1 (ncl L[0]), .rw (.slice ya b.length yk) b.length 1 (icl b), .mx (.slice (some ⟨xab, xao, none⟩) L.length xk) (L.map nl)] _) := Lib.hid ((E2.out.push 40 [.slice (some ⟨xab, xao, none⟩) L.length xk] (w1.heap.size) (by simp)))
  go_wp2_with fail
  refine (great14_c (t := false) [L.map nl] (xb := w1.heap.size) (xo := 0) (xk := 1) (gMats.one (by simp) (E3.out.bx 0 rfl) (E3.out.fc 3 rfl)) HG.out (by simp)).mono ?_
  rintro e w2 ⟨rfl, hb⟩
  have E4 : Hid (Env D w [(w1.heap.size, 40, [.slice (some ⟨xab, xao, none⟩) L.length xk])] [.ce xab (xao) (.slice ua L[0].length uk), .rw (.slice ua L[0].length uk) L[0].length 1 (ncl L[0]), .rw (.slice ya b.length yk) b.length 1 (icl b), .mx (.slice (some ⟨xab, xao, none⟩) L.length xk) (L.map nl)] w2) := Lib.hid (E3.out.below hb)
  clear u0 E2 E3 hb
  go_wp2_with fail
  refine (rMValidN (E4.out.fc 3 rfl) hv.out).mono ?_
  rintro e w3 ⟨rfl, hb⟩
  have E5 : Hid (Env D w [(w1.heap.size, 40, [.slice (some ⟨xab, xao, none⟩) L.length xk])] [.ce xab (xao) (.slice ua L[0].length uk), .rw (.slice ua L[0].length uk) L[0].length 1 (ncl L[0]), .rw (.slice ya b.length yk) b.length 1 (icl b), .mx (.slice (some ⟨xab, xao, none⟩) L.length xk) (L.map nl)] w3) := Lib.hid (E4.out.below hb)
  clear E4 hb
  have z1 := (E5.out.fc 0 rfl).2
  have hfin := Lib.hid E5.out.bel
  go_wp2
  go_ret
  exact ⟨rfl, hfin.out⟩
set_option maxRecDepth 100000 in
set_option maxHeartbeats 8000000 in
theorem mk_g {D : Nat → Prop} (q n : Nat) (L : List (List Nat)) (b : List Int) {xa ya : Option Addr} {xk yk : Nat} {w : World} (hx : Fct.at w D (.mx (.slice xa L.length xk) (L.map nl))) (hy : Fct.at w D (.rw (.slice ya b.length yk) b.length 1 (icl b))) (hl0 : Laid w) (HG0 : [L.map nl].any (fun x => grM x) = false) (h1 : b.length ≤ 100) (hq7 : q ≤ 7) (hv0 : MvI q n L) (hn4 : n ≤ 4) (hs0 : b.length = L.length) (hr0 : b.all (resB (q : Int)) = false) :
    Calls Tryd.prog 8 #[.int .i64 (q : Nat), .slice xa L.length xk, .slice ya b.length yk] w fun e w' => e = .returned (.bool true) ∧ Below w.heap.size w w' := by
  have E0 : Hid (Env D w [] [.rw (.slice ya b.length yk) b.length 1 (icl b), .mx (.slice xa L.length xk) (L.map nl)] w) := Lib.hid (((Env.start D w).arg (.mx (.slice xa L.length xk) (L.map nl)) hx).arg (.rw (.slice ya b.length yk) b.length 1 (icl b)) hy)
  clear hx hy
  go_enter Tryd.func8, Tryd.ntmps8
  have hl := Lib.hid hl0
  have HG := Lib.hid HG0
  have hv := Lib.hid hv0
  have hs := Lib.hid hs0
  have hr := Lib.hid hr0
  clear hl0 HG0 hv0 hs0 hr0
  go_wp2_with fail
  refine (awake14_c (hl.out.below E0.out.bel)).mono ?_
  rintro e w1 ⟨rfl, hb⟩
  have E1 : Hid (Env D w [] [.rw (.slice ya b.length yk) b.length 1 (icl b), .mx (.slice xa L.length xk) (L.map nl)] w1) := Lib.hid (E0.out.below hb)
  clear E0 hb
  have d3 : decide ((100 : Int) < (b.length : Int)) = false := decide_eq_false (by omega)
  have d3n : decide (100 < b.length) = false := decide_eq_false (by omega)
  have d4 : decide ((7 : Int) < (q : Int)) = false := decide_eq_false (by omega)
  have d4n : decide (7 < q) = false := decide_eq_false (by omega)
  have hz : 0 < L.length := hv.out.m1
  have hzI : (0 : Int) < (L.length : Int) := by omega
  have HL0 : Hid (L[0].length = n) := Lib.hid (hv.out.res _ (List.getElem_mem hz)).1
  go_upto_region 3 with (fail)
  obtain ⟨xab, xao, rfl⟩ := Mx.addrN (E1.out.fc 1 rfl) hz
  obtain ⟨ua, uk, E20⟩ := E1.out.elMN 1 rfl (0) hz
  have E2 : Hid (Env D w [] [.ce xab (xao) (.slice ua L[0].length uk), .rw (.slice ua L[0].length uk) L[0].length 1 (ncl L[0]), .rw (.slice ya b.length yk) b.length 1 (icl b), .mx (.slice (some ⟨xab, xao, none⟩) L.length xk) (L.map nl)] _) := Lib.hid E20
  clear E20 E1
  have u0 := (E2.out.fc 0 rfl).2
  have e1 : decide ((4 : Int) < (L[0].length : Int)) = false := by have h := HL0.out; exact decide_eq_false (by omega)
  have e2 : decide (4 < L[0].length) = false := by have h := HL0.out; exact decide_eq_false (by omega)
  have n1 : ((b.length : Int) != (L.length : Int)) = false := by have h2 := hs.out; rw [h2]; simp
  have n2 : (b.length != L.length) = false := by have h2 := hs.out; rw [h2]; simp
  have E3 : Hid (Env D w [(w1.heap.size, 40, [.slice (some ⟨xab, xao, none⟩) L.length xk])] [.ce xab (xao) (.slice ua L[0].length uk), .rw (.slice ua L[0].length uk) L[0].length 1 (ncl L[0]), .rw (.slice ya b.length yk) b.length 1 (icl b), .mx (.slice (some ⟨xab, xao, none⟩) L.length xk) (L.map nl)] _) := Lib.hid ((E2.out.push 40 [.slice (some ⟨xab, xao, none⟩) L.length xk] (w1.heap.size) (by simp)))
  go_wp2_with fail
  refine (great14_c (t := false) [L.map nl] (xb := w1.heap.size) (xo := 0) (xk := 1) (gMats.one (by simp) (E3.out.bx 0 rfl) (E3.out.fc 3 rfl)) HG.out (by simp)).mono ?_
  rintro e w2 ⟨rfl, hb⟩
  have E4 : Hid (Env D w [(w1.heap.size, 40, [.slice (some ⟨xab, xao, none⟩) L.length xk])] [.ce xab (xao) (.slice ua L[0].length uk), .rw (.slice ua L[0].length uk) L[0].length 1 (ncl L[0]), .rw (.slice ya b.length yk) b.length 1 (icl b), .mx (.slice (some ⟨xab, xao, none⟩) L.length xk) (L.map nl)] w2) := Lib.hid (E3.out.below hb)
  clear u0 E2 E3 hb
  go_wp2_with fail
  refine (rMValidN (E4.out.fc 3 rfl) hv.out).mono ?_
  rintro e w3 ⟨rfl, hb⟩
  have E5 : Hid (Env D w [(w1.heap.size, 40, [.slice (some ⟨xab, xao, none⟩) L.length xk])] [.ce xab (xao) (.slice ua L[0].length uk), .rw (.slice ua L[0].length uk) L[0].length 1 (ncl L[0]), .rw (.slice ya b.length yk) b.length 1 (icl b), .mx (.slice (some ⟨xab, xao, none⟩) L.length xk) (L.map nl)] w3) := Lib.hid (E4.out.below hb)
  clear E4 hb
  have z1 := (E5.out.fc 0 rfl).2
  go_wp2_with fail
  refine (rVector_c (q : Int) b (E5.out.fc 2 rfl) hr.out (by omega)).mono ?_
  rintro e w4 ⟨rfl, hb⟩
  have E6 : Hid (Env D w [(w1.heap.size, 40, [.slice (some ⟨xab, xao, none⟩) L.length xk])] [.ce xab (xao) (.slice ua L[0].length uk), .rw (.slice ua L[0].length uk) L[0].length 1 (ncl L[0]), .rw (.slice ya b.length yk) b.length 1 (icl b), .mx (.slice (some ⟨xab, xao, none⟩) L.length xk) (L.map nl)] w4) := Lib.hid (E5.out.below hb)
  clear z1 E5 hb
  have hfin := Lib.hid E6.out.bel
  go_wp2
  go_ret
  exact ⟨rfl, hfin.out⟩
set_option maxRecDepth 100000 in
set_option maxHeartbeats 8000000 in
theorem mk_h {D : Nat → Prop} (q n : Nat) (L : List (List Nat)) (b : List Nat) {xa ya : Option Addr} {xk yk : Nat} {w : World} (hx : Fct.at w D (.mx (.slice xa L.length xk) (L.map nl))) (hy : Fct.at w D (.rw (.slice ya b.length yk) b.length 1 (ncl b))) (hl0 : Laid w) (HG0 : [L.map nl].any (fun x => grM x) = false) (h1 : b.length ≤ 100) (hq7 : q ≤ 7) (hv0 : MvI q n L) (hn4 : n ≤ 4) (hs0 : b.length = L.length) (hr0 : ∀ c ∈ b, c < q) :
    Calls Tryd.prog 8 #[.int .i64 (q : Nat), .slice xa L.length xk, .slice ya b.length yk] w fun e w' => e = .returned (.bool true) ∧ Below w.heap.size w w' := by
  have E0 : Hid (Env D w [] [.rw (.slice ya b.length yk) b.length 1 (ncl b), .mx (.slice xa L.length xk) (L.map nl)] w) := Lib.hid (((Env.start D w).arg (.mx (.slice xa L.length xk) (L.map nl)) hx).arg (.rw (.slice ya b.length yk) b.length 1 (ncl b)) hy)
  clear hx hy
  go_enter Tryd.func8, Tryd.ntmps8
  have hl := Lib.hid hl0
  have HG := Lib.hid HG0
  have hv := Lib.hid hv0
  have hs := Lib.hid hs0
  have hr := Lib.hid hr0
  clear hl0 HG0 hv0 hs0 hr0
  go_wp2_with fail
  refine (awake14_c (hl.out.below E0.out.bel)).mono ?_
  rintro e w1 ⟨rfl, hb⟩
  have E1 : Hid (Env D w [] [.rw (.slice ya b.length yk) b.length 1 (ncl b), .mx (.slice xa L.length xk) (L.map nl)] w1) := Lib.hid (E0.out.below hb)
  clear E0 hb
  obtain ⟨N, hN⟩ : ∃ N, cntA q n L b (q ^ n) = N := ⟨_, rfl⟩
  have HN := Lib.hid hN
  clear hN
  obtain ⟨Z, hZ⟩ : ∃ Z, q ^ n = Z := ⟨_, rfl⟩
  have HZ := Lib.hid hZ
  have hz9 : Z ≤ 2401 := by rw [← hZ]; exact pow_few hq7 hn4
  have HZ0 : Hid (0 < Z) := Lib.hid (by rw [← hZ]; exact Nat.pow_pos (by have := hv.out.q2; omega))
  clear hZ
  have HQ7 := Lib.hid hq7
  have HN4 := Lib.hid hn4
  have HQ2 := Lib.hid hv.out.q2
  have HZ9 := Lib.hid hz9
  clear hz9
  obtain ⟨p1, hp1⟩ : ∃ p1, q - 1 = p1 := ⟨_, rfl⟩
  have HP1 := Lib.hid hp1
  have hqa : 1 ≤ q ∧ q ≤ 100000 := by have := HQ2.out; omega
  have wp1 : wrap64 ((q : Int) - 1) = (p1 : Int) := wrap64_pred hp1 hqa.1 hqa.2
  have wp2 : IntKind.i64.wrap ((q : Int) - 1) = (p1 : Int) := wrapI_pred hp1 hqa.1 hqa.2
  clear hqa
  clear hp1
  have d3 : decide ((100 : Int) < (b.length : Int)) = false := decide_eq_false (by omega)
  have d3n : decide (100 < b.length) = false := decide_eq_false (by omega)
  have d4 : decide ((7 : Int) < (q : Int)) = false := decide_eq_false (by omega)
  have d4n : decide (7 < q) = false := decide_eq_false (by omega)
  have hz : 0 < L.length := hv.out.m1
  have hzI : (0 : Int) < (L.length : Int) := by omega
  have HL0 : Hid (L[0].length = n) := Lib.hid (hv.out.res _ (List.getElem_mem hz)).1
  go_upto_region 3 with (fail)
  obtain ⟨xab, xao, rfl⟩ := Mx.addrN (E1.out.fc 1 rfl) hz
  obtain ⟨ua, uk, E20⟩ := E1.out.elMN 1 rfl (0) hz
  have E2 : Hid (Env D w [] [.ce xab (xao) (.slice ua L[0].length uk), .rw (.slice ua L[0].length uk) L[0].length 1 (ncl L[0]), .rw (.slice ya b.length yk) b.length 1 (ncl b), .mx (.slice (some ⟨xab, xao, none⟩) L.length xk) (L.map nl)] _) := Lib.hid E20
  clear E20 E1
  have u0 := (E2.out.fc 0 rfl).2
  have e1 : decide ((4 : Int) < (L[0].length : Int)) = false := by have h := HL0.out; exact decide_eq_false (by omega)
  have e2 : decide (4 < L[0].length) = false := by have h := HL0.out; exact decide_eq_false (by omega)
  have n1 : ((b.length : Int) != (L.length : Int)) = false := by have h2 := hs.out; rw [h2]; simp
  have n2 : (b.length != L.length) = false := by have h2 := hs.out; rw [h2]; simp
  have E3 : Hid (Env D w [(w1.heap.size, 40, [.slice (some ⟨xab, xao, none⟩) L.length xk])] [.ce xab (xao) (.slice ua L[0].length uk), .rw (.slice ua L[0].length uk) L[0].length 1 (ncl L[0]), .rw (.slice ya b.length yk) b.length 1 (ncl b), .mx (.slice (some ⟨xab, xao, none⟩) L.length xk) (L.map nl)] _) := Lib.hid ((E2.out.push 40 [.slice (some ⟨xab, xao, none⟩) L.length xk] (w1.heap.size) (by simp)))
  go_wp2_with fail
  refine (great14_c (t := false) [L.map nl] (xb := w1.heap.size) (xo := 0) (xk := 1) (gMats.one (by simp) (E3.out.bx 0 rfl) (E3.out.fc 3 rfl)) HG.out (by simp)).mono ?_
  rintro e w2 ⟨rfl, hb⟩
  have E4 : Hid (Env D w [(w1.heap.size, 40, [.slice (some ⟨xab, xao, none⟩) L.length xk])] [.ce xab (xao) (.slice ua L[0].length uk), .rw (.slice ua L[0].length uk) L[0].length 1 (ncl L[0]), .rw (.slice ya b.length yk) b.length 1 (ncl b), .mx (.slice (some ⟨xab, xao, none⟩) L.length xk) (L.map nl)] w2) := Lib.hid (E3.out.below hb)
  clear u0 E2 E3 hb
  go_wp2_with fail
  refine (rMValidN (E4.out.fc 3 rfl) hv.out).mono ?_
  rintro e w3 ⟨rfl, hb⟩
  have E5 : Hid (Env D w [(w1.heap.size, 40, [.slice (some ⟨xab, xao, none⟩) L.length xk])] [.ce xab (xao) (.slice ua L[0].length uk), .rw (.slice ua L[0].length uk) L[0].length 1 (ncl L[0]), .rw (.slice ya b.length yk) b.length 1 (ncl b), .mx (.slice (some ⟨xab, xao, none⟩) L.length xk) (L.map nl)] w3) := Lib.hid (E4.out.below hb)
  clear E4 hb
  have z1 := (E5.out.fc 0 rfl).2
  go_wp2_with fail
  refine (rVecN (E5.out.fc 2 rfl) hr.out (by omega)).mono ?_
  rintro e w4 ⟨rfl, hb⟩
  have E6 : Hid (Env D w [(w1.heap.size, 40, [.slice (some ⟨xab, xao, none⟩) L.length xk])] [.ce xab (xao) (.slice ua L[0].length uk), .rw (.slice ua L[0].length uk) L[0].length 1 (ncl L[0]), .rw (.slice ya b.length yk) b.length 1 (ncl b), .mx (.slice (some ⟨xab, xao, none⟩) L.length xk) (L.map nl)] w4) := Lib.hid (E5.out.below hb)
  clear z1 E5 hb
  go_wp2_with fail
  refine (Count_all (E6.out.fc 3 rfl) (E6.out.fc 2 rfl) (hl.out.below E6.out.bel) hv.out hs.out hr.out HQ7.out HN4.out HN.out).mono ?_
  rintro e w5 ⟨rfl, hb⟩
  have E7 : Hid (Env D w [(w1.heap.size, 40, [.slice (some ⟨xab, xao, none⟩) L.length xk])] [.ce xab (xao) (.slice ua L[0].length uk), .rw (.slice ua L[0].length uk) L[0].length 1 (ncl L[0]), .rw (.slice ya b.length yk) b.length 1 (ncl b), .mx (.slice (some ⟨xab, xao, none⟩) L.length xk) (L.map nl)] w5) := Lib.hid (E6.out.below hb)
  clear E6 hb
  go_upto_region 8 with (fail)
  clear d3 d3n d4 d4n e1 e2 n1 n2
  have uz := (E7.out.fc 0 rfl).2
  have E8 : Hid (Env D w [] [.rw (.slice ya b.length yk) b.length 1 (ncl b), .mx (.slice (some ⟨xab, xao, none⟩) L.length xk) (L.map nl)] _) := Lib.hid E7.out.drop.forget.forget
  clear E7
  have hl0 := HL0.out
  rw [hl0] at uz
  go_wp2_with (at_make; refine wpl_makeI rfl _ _ rfl E8.out n rfl rfl (by omega) ?_)
  intro w6 xg xgE
  clear hl0 uz
  have E9 : Hid (Env D w [(xg, 3, (ncl (List.replicate n 0)))] [.rw (.slice ya b.length yk) b.length 1 (ncl b), .mx (.slice (some ⟨xab, xao, none⟩) L.length xk) (L.map nl)] w6) := Lib.hid (by have h := xgE.out; rw [ncl_rep] at h; exact h)
  clear E8 xgE
  go_wp2_with fail
  go_loopg [10] (Z) (fun gk s10 wr => ∃ (t m : Nat) (l : List Nat), s10 = .int .i64 (m : Int) ∧ Hid (Env D w [(xg, 3, (ncl l))] [.rw (.slice ya b.length yk) b.length 1 (ncl b), .mx (.slice (some ⟨xab, xao, none⟩) L.length xk) (L.map nl)] wr) ∧ Hid (((t < Z ∧ gk = Z - t) ∧ m ≤ t) ∧ m = cntA q n L b t ∧ l = dg q n t))
  case atStart => exact ⟨0, 0, List.replicate n 0, rfl, Lib.hid E9.out, Lib.hid ⟨⟨⟨HZ0.out, rfl⟩, Nat.le_refl _⟩, rfl, (dg_zero n).symm⟩⟩
  case round =>
    clear E9
    obtain ⟨t, m, l, rfl, EL, HA⟩ := hrel
    obtain ⟨⟨⟨a1, a2⟩, a4⟩, a3, a5⟩ := HA.out
    have HM := Lib.hid a3
    have HL := Lib.hid a5
    clear a3 a5 HA
    have HLL : Hid (l.length = n) := Lib.hid (by rw [HL.out]; exact dg_len n t)
    have HLQ : Hid (∀ c ∈ l, c < q) := Lib.hid (by rw [HL.out]; exact dg_lt (by have := HQ2.out; omega) n t)
    have m30 := Lib.hid hv.out.m30
    have HT : Hid (t < Z ∧ m ≤ t) := Lib.hid ⟨a1, a4⟩
    have hm9 : m ≤ 2401 := by have := HZ9.out; omega
    obtain ⟨m1, hm1⟩ : ∃ m1, m + 1 = m1 := ⟨_, rfl⟩
    have HM1 := Lib.hid hm1
    have hm8 : m1 ≤ 100000 := by omega
    have wm1 : wrap64 ((m : Int) + 1) = (m1 : Int) := wrap64_succ hm1 hm8
    have wm2 : IntKind.i64.wrap ((m : Int) + 1) = (m1 : Int) := wrapI_succ hm1 hm8
    clear hm8
    clear hm1 hm9 a1 a4
    have HGK := Lib.hid a2
    clear a2
    by_cases hy : (appT q L l == b) = true
    · skip
      have HY := Lib.hid hy
      clear hy
      go_wp2_with fail
      refine (Apply_n (x := l) (Mx.tr (EL.out.fc 1 rfl)) (Rw.boxPn (EL.out.bx 0 rfl) HLL.out (Nat.le_trans HN4.out (by omega))) (hl.out.below EL.out.bel) hv.out HLL.out HLQ.out).mono ?_
      rintro e w7 ⟨⟨va, vk, rfl, vh⟩, hb⟩
      have E10 : Hid (Env D w [(xg, 3, (ncl l))] [.rw (.slice va (appT q L l).length vk) (appT q L l).length 1 (ncl (appT q L l)), .rw (.slice ya b.length yk) b.length 1 (ncl b), .mx (.slice (some ⟨xab, xao, none⟩) L.length xk) (L.map nl)] w7) := Lib.hid (EL.out.got (EL.out.below hb) (.rw (.slice va (appT q L l).length vk) (appT q L l).length 1 (ncl (appT q L l))) (Lib.hid (Rw.ge vh.out)).out)
      clear EL hb
      go_wp2_with fail
      refine (equalN_c (t := true) (a := appT q L l) (b := b) (E10.out.fc 0 rfl) (E10.out.fc 1 rfl) (by unfold appT; rw [tab_len]; exact Nat.le_trans m30.out (by omega)) (by omega) HY.out).mono ?_
      rintro e w8 ⟨rfl, hb⟩
      have E11 : Hid (Env D w [(xg, 3, (ncl l))] [.rw (.slice va (appT q L l).length vk) (appT q L l).length 1 (ncl (appT q L l)), .rw (.slice ya b.length yk) b.length 1 (ncl b), .mx (.slice (some ⟨xab, xao, none⟩) L.length xk) (L.map nl)] w8) := Lib.hid (E10.out.below hb)
      clear E10 hb
      have HMC : Hid (m1 = cntA q n L b (t + 1) ∧ m1 ≤ t + 1) := Lib.hid (by have h1 := HM.out; have h2 := HL.out; have h3 := HT.out; have h4 := HM1.out; have h5 := HY.out; rw [h2] at h5; rw [cntA_yes h5]; omega)
      go_wp2_with fail
      clear wm1 wm2
      rename World => wo
      go_loopg [13] (n) (fun gk s13 wr => ∃ (i : Nat) (z : List Nat), s13 = .int .i64 (i : Int) ∧ Hid (Env D w [(xg, 3, (ncl z))] [.rw (.slice va (appT q L l).length vk) (appT q L l).length 1 (ncl (appT q L l)), .rw (.slice ya b.length yk) b.length 1 (ncl b), .mx (.slice (some ⟨xab, xao, none⟩) L.length xk) (L.map nl)] wr) ∧ Hid ((i ≤ n ∧ gk = n - i) ∧ z = carry i l ∧ ∀ j, j < i → l.getD j 0 = q - 1))
      case atStart => exact ⟨0, l, rfl, Lib.hid E11.out, Lib.hid ⟨⟨Nat.zero_le _, rfl⟩, carry_zero.symm, fun j h => absurd h (Nat.not_lt_zero _)⟩⟩
      case round =>
        clear E11
        obtain ⟨i, z, rfl, EL, HA⟩ := hrel
        obtain ⟨⟨a1, a2⟩, a3, a4⟩ := HA.out
        have HC := Lib.hid a3
        have HJ := Lib.hid a4
        clear a3 a4 HA
        by_cases hy : i = n
        · subst hy
          clear a1 a2
          have HE : Hid (t + 1 = Z) := Lib.hid (by have h1 := HL.out; have h2 := HT.out.1; have h3 := HZ.out; have h4 := HJ.out; rw [h1] at h4; rw [← h3] at h2 ⊢; exact dg_last HQ2.out _ t h2 h4)
          have HMN : Hid (m1 = N) := Lib.hid (by have h1 := HMC.out.1; have h2 := HE.out; have h3 := HZ.out; have h4 := HN.out; rw [h1, h2, ← h3, h4])
          have f1 : (((m1 : Nat) : Int) == (N : Int)) = true := by rw [HMN.out]; simp
          have f2 : (m1 == N) = true := by rw [HMN.out]; simp
          have d6 : decide ((i : Int) < (i : Int)) = false := decide_eq_false (by omega)
          have hfin := Lib.hid EL.out.bel
          go_wp2
          go_ret
          exact ⟨rfl, hfin.out⟩
        have hin : i < n := by omega
        have d6 : decide ((i : Int) < (n : Int)) = true := decide_eq_true (by omega)
        have d6n : decide (i < n) = true := decide_eq_true (by omega)
        have hinI : (i : Int) < (n : Int) := by omega
        have e3 : ((i : Int) == (n : Int)) = false := by rw [beq_eq_false_iff_ne]; omega
        have e4 : (i == n) = false := by rw [beq_eq_false_iff_ne]; omega
        have HIL : Hid (i < l.length) := Lib.hid (by rw [HLL.out]; exact hin)
        obtain ⟨d, hd⟩ : ∃ d, l[i]'HIL.out = d := ⟨_, rfl⟩
        have HD := Lib.hid hd
        have hd9 : d < q := by rw [← hd]; exact HLQ.out _ (List.getElem_mem _)
        have HDG : Hid (l.getD i 0 = d) := Lib.hid (by rw [getD_elem HIL.out]; exact hd)
        have HIN := Lib.hid hin
        have HCE : Hid ((ncl z)[i]? = some (.int .i64 (d : Nat))) := Lib.hid (by have h := carry_cell HC.out HIL.out; rw [hd] at h; exact h)
        clear hd hy hin
        by_cases hy : d = q - 1
        · have HDQ := Lib.hid hy
          have f1 : ((d : Int) == (p1 : Int)) = true := by have h1 := HDQ.out; have h2 := HP1.out; rw [beq_iff_eq]; omega
          have f2 : (d == p1) = true := by have h1 := HDQ.out; have h2 := HP1.out; rw [beq_iff_eq]; omega
          clear hy
          go_upto_region 16 with (fail)
          have bg := EL.out.bx 0 rfl
          have c1 := bg.cell (i) (HCE.out)
          have c2 := bg.frozen (i)
          clear bg
          go_upto_region 17 with (fail)
          have bg := EL.out.bx 0 rfl
          have k1 := bg.cell (i) (HCE.out)
          have k2 := bg.frozen (i)
          clear bg
          have hst := Lib.hid (carry_ncl HC.out HIL.out)
          have E12 : Hid (Env D w [(xg, 3, (((ncl z)).set (i) (.int .i64 0)))] [.rw (.slice va (appT q L l).length vk) (appT q L l).length 1 (ncl (appT q L l)), .rw (.slice ya b.length yk) b.length 1 (ncl b), .mx (.slice (some ⟨xab, xao, none⟩) L.length xk) (L.map nl)] _) := Lib.hid ((EL.out.set 0 i (.int .i64 0) rfl))
          have E13 : Hid (Env D w [(xg, 3, (ncl (carry (i + 1) l)))] [.rw (.slice va (appT q L l).length vk) (appT q L l).length 1 (ncl (appT q L l)), .rw (.slice ya b.length yk) b.length 1 (ncl b), .mx (.slice (some ⟨xab, xao, none⟩) L.length xk) (L.map nl)] _) := Lib.hid (by have h := E12.out; rw [hst.out] at h; exact h)
          have EZ := Lib.hid E13.out
          go_wp2
          go_roundg (n - (i + 1))
          case rel => exact ⟨i + 1, carry (i + 1) l, rfl, EZ, Lib.hid ⟨⟨by omega, rfl⟩, rfl, fun j h => by by_cases e : j = i; (· subst e; rw [HDG.out]; exact HDQ.out); exact HJ.out j (by omega)⟩⟩
          case measure => exact by omega
        have HDQ := Lib.hid hy
        have f1 : ((d : Int) == (p1 : Int)) = false := by have h1 := HDQ.out; have h2 := HP1.out; rw [beq_eq_false_iff_ne]; omega
        have f2 : (d == p1) = false := by have h1 := HDQ.out; have h2 := HP1.out; rw [beq_eq_false_iff_ne]; omega
        clear hy
        go_upto_region 16 with (fail)
        have bg := EL.out.bx 0 rfl
        have c1 := bg.cell (i) (HCE.out)
        have c2 := bg.frozen (i)
        clear bg
        obtain ⟨s, hs1⟩ : ∃ s, d + 1 = s := ⟨_, rfl⟩
        have HS1 := Lib.hid hs1
        have hs8 : s ≤ 100000 := by have := HQ7.out; omega
        have ws1 : wrap64 ((d : Int) + 1) = (s : Int) := wrap64_succ hs1 hs8
        have ws2 : IntKind.i64.wrap ((d : Int) + 1) = (s : Int) := wrapI_succ hs1 hs8
        clear hs8
        clear hs1
        have HNX : Hid ((carry i l).set i s = dg q n (t + 1) ∧ t + 1 < Z) := Lib.hid (by have h1 := HL.out; have h2 := HT.out.1; have h3 := HZ.out; have h4 := HJ.out; have h5 := HDG.out; have h6 := HDQ.out; rw [← HS1.out, ← h5]; rw [← h3] at h2 ⊢; rw [h1] at h4 h5 ⊢; exact dg_next HQ2.out n t i h2 HIN.out h4 (by rw [h5]; exact h6))
        go_upto_region 21 with (fail)
        have bg := EL.out.bx 0 rfl
        have k1 := bg.cell (i) (HCE.out)
        have k2 := bg.frozen (i)
        clear bg
        have hst := Lib.hid (carry_ncl2 HC.out HIL.out (e := s))
        have E12 : Hid (Env D w [(xg, 3, (((ncl z)).set (i) (.int .i64 (s : Nat))))] [.rw (.slice va (appT q L l).length vk) (appT q L l).length 1 (ncl (appT q L l)), .rw (.slice ya b.length yk) b.length 1 (ncl b), .mx (.slice (some ⟨xab, xao, none⟩) L.length xk) (L.map nl)] _) := Lib.hid ((EL.out.set 0 i (.int .i64 (s : Nat)) rfl))
        have E13 : Hid (Env D w [(xg, 3, (ncl ((carry i l).set i s)))] [.rw (.slice va (appT q L l).length vk) (appT q L l).length 1 (ncl (appT q L l)), .rw (.slice ya b.length yk) b.length 1 (ncl b), .mx (.slice (some ⟨xab, xao, none⟩) L.length xk) (L.map nl)] _) := Lib.hid (by have h := E12.out; rw [hst.out] at h; exact h)
        have EZ := Lib.hid (E13.out.forget)
        go_wp2
        go_roundg (Z - (t + 1))
        case rel => exact ⟨t + 1, m1, (carry i l).set i s, rfl, EZ, Lib.hid ⟨⟨⟨HNX.out.2, rfl⟩, HMC.out.2⟩, HMC.out.1, HNX.out.1⟩⟩
        case measure => exact by have h1 := HNX.out.2; have h2 := HGK.out; omega
    have HY := Lib.hid (Bool.eq_false_iff.2 hy)
    clear hy
    go_wp2_with fail
    refine (Apply_n (x := l) (Mx.tr (EL.out.fc 1 rfl)) (Rw.boxPn (EL.out.bx 0 rfl) HLL.out (Nat.le_trans HN4.out (by omega))) (hl.out.below EL.out.bel) hv.out HLL.out HLQ.out).mono ?_
    rintro e w7 ⟨⟨va, vk, rfl, vh⟩, hb⟩
    have E10 : Hid (Env D w [(xg, 3, (ncl l))] [.rw (.slice va (appT q L l).length vk) (appT q L l).length 1 (ncl (appT q L l)), .rw (.slice ya b.length yk) b.length 1 (ncl b), .mx (.slice (some ⟨xab, xao, none⟩) L.length xk) (L.map nl)] w7) := Lib.hid (EL.out.got (EL.out.below hb) (.rw (.slice va (appT q L l).length vk) (appT q L l).length 1 (ncl (appT q L l))) (Lib.hid (Rw.ge vh.out)).out)
    clear EL hb
    go_wp2_with fail
    refine (equalN_c (t := false) (a := appT q L l) (b := b) (E10.out.fc 0 rfl) (E10.out.fc 1 rfl) (by unfold appT; rw [tab_len]; exact Nat.le_trans m30.out (by omega)) (by omega) HY.out).mono ?_
    rintro e w8 ⟨rfl, hb⟩
    have E11 : Hid (Env D w [(xg, 3, (ncl l))] [.rw (.slice va (appT q L l).length vk) (appT q L l).length 1 (ncl (appT q L l)), .rw (.slice ya b.length yk) b.length 1 (ncl b), .mx (.slice (some ⟨xab, xao, none⟩) L.length xk) (L.map nl)] w8) := Lib.hid (E10.out.below hb)
    clear E10 hb
    have HMC : Hid (m = cntA q n L b (t + 1) ∧ m ≤ t + 1) := Lib.hid (by have h1 := HM.out; have h2 := HL.out; have h3 := HT.out; have h4 := HM1.out; have h5 := HY.out; rw [h2] at h5; rw [cntA_no h5]; omega)
    go_wp2_with fail
    clear wm1 wm2
    rename World => wo
    go_loopg [13] (n) (fun gk s13 wr => ∃ (i : Nat) (z : List Nat), s13 = .int .i64 (i : Int) ∧ Hid (Env D w [(xg, 3, (ncl z))] [.rw (.slice va (appT q L l).length vk) (appT q L l).length 1 (ncl (appT q L l)), .rw (.slice ya b.length yk) b.length 1 (ncl b), .mx (.slice (some ⟨xab, xao, none⟩) L.length xk) (L.map nl)] wr) ∧ Hid ((i ≤ n ∧ gk = n - i) ∧ z = carry i l ∧ ∀ j, j < i → l.getD j 0 = q - 1))
    case atStart => exact ⟨0, l, rfl, Lib.hid E11.out, Lib.hid ⟨⟨Nat.zero_le _, rfl⟩, carry_zero.symm, fun j h => absurd h (Nat.not_lt_zero _)⟩⟩
    case round =>
      clear E11
      obtain ⟨i, z, rfl, EL, HA⟩ := hrel
      obtain ⟨⟨a1, a2⟩, a3, a4⟩ := HA.out
      have HC := Lib.hid a3
      have HJ := Lib.hid a4
      clear a3 a4 HA
      by_cases hy : i = n
      · subst hy
        clear a1 a2
        have HE : Hid (t + 1 = Z) := Lib.hid (by have h1 := HL.out; have h2 := HT.out.1; have h3 := HZ.out; have h4 := HJ.out; rw [h1] at h4; rw [← h3] at h2 ⊢; exact dg_last HQ2.out _ t h2 h4)
        have HMN : Hid (m = N) := Lib.hid (by have h1 := HMC.out.1; have h2 := HE.out; have h3 := HZ.out; have h4 := HN.out; rw [h1, h2, ← h3, h4])
        have f1 : (((m : Nat) : Int) == (N : Int)) = true := by rw [HMN.out]; simp
        have f2 : (m == N) = true := by rw [HMN.out]; simp
        have d6 : decide ((i : Int) < (i : Int)) = false := decide_eq_false (by omega)
        have hfin := Lib.hid EL.out.bel
        go_wp2
        go_ret
        exact ⟨rfl, hfin.out⟩
      have hin : i < n := by omega
      have d6 : decide ((i : Int) < (n : Int)) = true := decide_eq_true (by omega)
      have d6n : decide (i < n) = true := decide_eq_true (by omega)
      have hinI : (i : Int) < (n : Int) := by omega
      have e3 : ((i : Int) == (n : Int)) = false := by rw [beq_eq_false_iff_ne]; omega
      have e4 : (i == n) = false := by rw [beq_eq_false_iff_ne]; omega
      have HIL : Hid (i < l.length) := Lib.hid (by rw [HLL.out]; exact hin)
      obtain ⟨d, hd⟩ : ∃ d, l[i]'HIL.out = d := ⟨_, rfl⟩
      have HD := Lib.hid hd
      have hd9 : d < q := by rw [← hd]; exact HLQ.out _ (List.getElem_mem _)
      have HDG : Hid (l.getD i 0 = d) := Lib.hid (by rw [getD_elem HIL.out]; exact hd)
      have HIN := Lib.hid hin
      have HCE : Hid ((ncl z)[i]? = some (.int .i64 (d : Nat))) := Lib.hid (by have h := carry_cell HC.out HIL.out; rw [hd] at h; exact h)
      clear hd hy hin
      by_cases hy : d = q - 1
      · have HDQ := Lib.hid hy
        have f1 : ((d : Int) == (p1 : Int)) = true := by have h1 := HDQ.out; have h2 := HP1.out; rw [beq_iff_eq]; omega
        have f2 : (d == p1) = true := by have h1 := HDQ.out; have h2 := HP1.out; rw [beq_iff_eq]; omega
        clear hy
        go_upto_region 16 with (fail)
        have bg := EL.out.bx 0 rfl
        have c1 := bg.cell (i) (HCE.out)
        have c2 := bg.frozen (i)
        clear bg
        go_upto_region 17 with (fail)
        have bg := EL.out.bx 0 rfl
        have k1 := bg.cell (i) (HCE.out)
        have k2 := bg.frozen (i)
        clear bg
        have hst := Lib.hid (carry_ncl HC.out HIL.out)
        have E12 : Hid (Env D w [(xg, 3, (((ncl z)).set (i) (.int .i64 0)))] [.rw (.slice va (appT q L l).length vk) (appT q L l).length 1 (ncl (appT q L l)), .rw (.slice ya b.length yk) b.length 1 (ncl b), .mx (.slice (some ⟨xab, xao, none⟩) L.length xk) (L.map nl)] _) := Lib.hid ((EL.out.set 0 i (.int .i64 0) rfl))
        have E13 : Hid (Env D w [(xg, 3, (ncl (carry (i + 1) l)))] [.rw (.slice va (appT q L l).length vk) (appT q L l).length 1 (ncl (appT q L l)), .rw (.slice ya b.length yk) b.length 1 (ncl b), .mx (.slice (some ⟨xab, xao, none⟩) L.length xk) (L.map nl)] _) := Lib.hid (by have h := E12.out; rw [hst.out] at h; exact h)
        have EZ := Lib.hid E13.out
        go_wp2
        go_roundg (n - (i + 1))
        case rel => exact ⟨i + 1, carry (i + 1) l, rfl, EZ, Lib.hid ⟨⟨by omega, rfl⟩, rfl, fun j h => by by_cases e : j = i; (· subst e; rw [HDG.out]; exact HDQ.out); exact HJ.out j (by omega)⟩⟩
        case measure => exact by omega
      have HDQ := Lib.hid hy
      have f1 : ((d : Int) == (p1 : Int)) = false := by have h1 := HDQ.out; have h2 := HP1.out; rw [beq_eq_false_iff_ne]; omega
      have f2 : (d == p1) = false := by have h1 := HDQ.out; have h2 := HP1.out; rw [beq_eq_false_iff_ne]; omega
      clear hy
      go_upto_region 16 with (fail)
      have bg := EL.out.bx 0 rfl
      have c1 := bg.cell (i) (HCE.out)
      have c2 := bg.frozen (i)
      clear bg
      obtain ⟨s, hs1⟩ : ∃ s, d + 1 = s := ⟨_, rfl⟩
      have HS1 := Lib.hid hs1
      have hs8 : s ≤ 100000 := by have := HQ7.out; omega
      have ws1 : wrap64 ((d : Int) + 1) = (s : Int) := wrap64_succ hs1 hs8
      have ws2 : IntKind.i64.wrap ((d : Int) + 1) = (s : Int) := wrapI_succ hs1 hs8
      clear hs8
      clear hs1
      have HNX : Hid ((carry i l).set i s = dg q n (t + 1) ∧ t + 1 < Z) := Lib.hid (by have h1 := HL.out; have h2 := HT.out.1; have h3 := HZ.out; have h4 := HJ.out; have h5 := HDG.out; have h6 := HDQ.out; rw [← HS1.out, ← h5]; rw [← h3] at h2 ⊢; rw [h1] at h4 h5 ⊢; exact dg_next HQ2.out n t i h2 HIN.out h4 (by rw [h5]; exact h6))
      go_upto_region 21 with (fail)
      have bg := EL.out.bx 0 rfl
      have k1 := bg.cell (i) (HCE.out)
      have k2 := bg.frozen (i)
      clear bg
      have hst := Lib.hid (carry_ncl2 HC.out HIL.out (e := s))
      have E12 : Hid (Env D w [(xg, 3, (((ncl z)).set (i) (.int .i64 (s : Nat))))] [.rw (.slice va (appT q L l).length vk) (appT q L l).length 1 (ncl (appT q L l)), .rw (.slice ya b.length yk) b.length 1 (ncl b), .mx (.slice (some ⟨xab, xao, none⟩) L.length xk) (L.map nl)] _) := Lib.hid ((EL.out.set 0 i (.int .i64 (s : Nat)) rfl))
      have E13 : Hid (Env D w [(xg, 3, (ncl ((carry i l).set i s)))] [.rw (.slice va (appT q L l).length vk) (appT q L l).length 1 (ncl (appT q L l)), .rw (.slice ya b.length yk) b.length 1 (ncl b), .mx (.slice (some ⟨xab, xao, none⟩) L.length xk) (L.map nl)] _) := Lib.hid (by have h := E12.out; rw [hst.out] at h; exact h)
      have EZ := Lib.hid (E13.out.forget)
      go_wp2
      go_roundg (Z - (t + 1))
      case rel => exact ⟨t + 1, m, (carry i l).set i s, rfl, EZ, Lib.hid ⟨⟨⟨HNX.out.2, rfl⟩, HMC.out.2⟩, HMC.out.1, HNX.out.1⟩⟩
      case measure => exact by have h1 := HNX.out.2; have h2 := HGK.out; omega
theorem MatrixCounts_walk {D : Nat → Prop} (q : Int) (M : List (List Int)) (b : List Int) {xa ya : Option Addr} {xk yk : Nat} {w : World} (hx : Fct.at w D (.mx (.slice xa M.length xk) M)) (hy : Fct.at w D (.rw (.slice ya b.length yk) b.length 1 (icl b))) (hl : Laid w) (hn : -9223372036854775808 ≤ q ∧ q ≤ 9223372036854775807) :
    Calls Tryd.prog 8 #[.int .i64 q, .slice xa M.length xk, .slice ya b.length yk] w fun e w' => e = .returned (.bool true) ∧ Below w.heap.size w w' := by
  cases hg : [M].any (fun x => grM x) with
  | true => exact mk_a q M b hx hy hl hg
  | false =>
    by_cases h1 : 100 < b.length
    · exact mk_b q M b hx hy hl hg h1
    have h2 : b.length ≤ 100 := by omega
    by_cases h7 : 7 < q
    · exact mk_c q M b hx hy hl hg h2 h7
    cases hv : mvB q M with
    | false => exact mk_d q M b hx hy hl hg hn h2 (by omega) hv
    | true =>
      obtain ⟨p, n, L, rfl, rfl, hL, _⟩ := mv_nat hv
      have h8 : p ≤ 7 := by omega
      rw [List.length_map] at hx ⊢
      by_cases h4 : 4 < n
      · exact mk_e p n L b hx hy hl hg h2 h8 hL h4
      have h5 : n ≤ 4 := by omega
      by_cases hs : b.length = L.length
      · cases hr : b.all (resB (p : Int)) with
        | false => exact mk_g p n L b hx hy hl hg h2 h8 hL h5 hs hr
        | true =>
          obtain ⟨c, rfl, hc⟩ := all_nl2 hr
          have hc2 : ∀ x ∈ c, x < p := fun x hx => Int.ofNat_lt.1 (hc x hx)
          rw [nl_len] at hy h2 hs ⊢
          exact mk_h p n L c hx hy hl hg h2 h8 hL h5 hs hc2
      · exact mk_f p n L b hx hy hl hg h2 h8 hL h5 hs
end Go.Proofs.YtinlfogpbologaaDoor

/- poly: the law PolySums. -/
import Derived.Test.YtinlfogpbologaaDoorPolM
import Derived.Test.YtinlfogpbologaaDoorPolU
import Derived.Test.YtinlfogpbologaaDoorPolV
namespace Go.Proofs.YtinlfogpbologaaDoor
open Go.RowKit DivMath WordMath
set_option linter.unusedVariables false
set_option linter.unusedSimpArgs false
theorem poly_res {q : Int} {l : List Int} (h : polyB q l = true) : l.all (resB q) = true := by
  unfold polyB at h
  simp only [Bool.and_eq_true] at h
  exact h.2.1
theorem valid2 {q : Int} {a b : List Int} : validB q [a, b] = (fieldB q && (polyB q a && polyB q b)) := by unfold validB; simp
set_option maxRecDepth 100000 in
set_option maxHeartbeats 2000000 in
theorem ps_a {D : Nat → Prop} (q : Int) (a b : List Int) {xa ya : Option Addr} {xk yk : Nat} {w : World} (hx : Fct.at w D (.rw (.slice xa a.length xk) a.length 1 (icl a))) (hy : Fct.at w D (.rw (.slice ya b.length yk) b.length 1 (icl b))) (hl0 : Laid w) (hn : -9223372036854775808 ≤ q ∧ q ≤ 9223372036854775807) (h1 : 60 < a.length) :
    Calls Tryd.prog 4 #[.int .i64 q, .slice xa a.length xk, .slice ya b.length yk] w fun e w' => e = .returned (.bool true) ∧ Below w.heap.size w w' := by
  have E0 : Hid (Env D w [] [.rw (.slice ya b.length yk) b.length 1 (icl b), .rw (.slice xa a.length xk) a.length 1 (icl a)] w) := Lib.hid (((Env.start D w).arg (.rw (.slice xa a.length xk) a.length 1 (icl a)) hx).arg (.rw (.slice ya b.length yk) b.length 1 (icl b)) hy)
  clear hx hy
  go_enter Tryd.func4, Tryd.ntmps4
  have hl := Lib.hid hl0
  clear hl0
  go_wp2_with fail
  refine (awake13_c (hl.out.below E0.out.bel)).mono ?_
  rintro e w1 ⟨rfl, hb⟩
  have E1 : Hid (Env D w [] [.rw (.slice ya b.length yk) b.length 1 (icl b), .rw (.slice xa a.length xk) a.length 1 (icl a)] w1) := Lib.hid (E0.out.below hb)
  clear E0 hb
  have d1 : decide ((60 : Int) < (a.length : Int)) = true := decide_eq_true (by omega)
  have d1n : decide (60 < a.length) = true := decide_eq_true (by omega)
  have hfin := Lib.hid E1.out.bel
  go_wp2
  go_ret
  exact ⟨rfl, hfin.out⟩
set_option maxRecDepth 100000 in
set_option maxHeartbeats 2000000 in
theorem ps_b {D : Nat → Prop} (q : Int) (a b : List Int) {xa ya : Option Addr} {xk yk : Nat} {w : World} (hx : Fct.at w D (.rw (.slice xa a.length xk) a.length 1 (icl a))) (hy : Fct.at w D (.rw (.slice ya b.length yk) b.length 1 (icl b))) (hl0 : Laid w) (hn : -9223372036854775808 ≤ q ∧ q ≤ 9223372036854775807) (h1 : a.length ≤ 60) (h2 : 60 < b.length) :
    Calls Tryd.prog 4 #[.int .i64 q, .slice xa a.length xk, .slice ya b.length yk] w fun e w' => e = .returned (.bool true) ∧ Below w.heap.size w w' := by
  have E0 : Hid (Env D w [] [.rw (.slice ya b.length yk) b.length 1 (icl b), .rw (.slice xa a.length xk) a.length 1 (icl a)] w) := Lib.hid (((Env.start D w).arg (.rw (.slice xa a.length xk) a.length 1 (icl a)) hx).arg (.rw (.slice ya b.length yk) b.length 1 (icl b)) hy)
  clear hx hy
  go_enter Tryd.func4, Tryd.ntmps4
  have hl := Lib.hid hl0
  clear hl0
  go_wp2_with fail
  refine (awake13_c (hl.out.below E0.out.bel)).mono ?_
  rintro e w1 ⟨rfl, hb⟩
  have E1 : Hid (Env D w [] [.rw (.slice ya b.length yk) b.length 1 (icl b), .rw (.slice xa a.length xk) a.length 1 (icl a)] w1) := Lib.hid (E0.out.below hb)
  clear E0 hb
  have d1 : decide ((60 : Int) < (a.length : Int)) = false := decide_eq_false (by omega)
  have d1n : decide (60 < a.length) = false := decide_eq_false (by omega)
  have d2 : decide ((60 : Int) < (b.length : Int)) = true := decide_eq_true (by omega)
  have d2n : decide (60 < b.length) = true := decide_eq_true (by omega)
  have hfin := Lib.hid E1.out.bel
  go_wp2
  go_ret
  exact ⟨rfl, hfin.out⟩
set_option maxRecDepth 100000 in
set_option maxHeartbeats 2000000 in
theorem ps_c {D : Nat → Prop} (q : Int) (a b : List Int) {xa ya : Option Addr} {xk yk : Nat} {w : World} (hx : Fct.at w D (.rw (.slice xa a.length xk) a.length 1 (icl a))) (hy : Fct.at w D (.rw (.slice ya b.length yk) b.length 1 (icl b))) (hl0 : Laid w) (hn : -9223372036854775808 ≤ q ∧ q ≤ 9223372036854775807) (h1 : a.length ≤ 60) (h2 : b.length ≤ 60) (hf0 : fieldB q = false) :
    Calls Tryd.prog 4 #[.int .i64 q, .slice xa a.length xk, .slice ya b.length yk] w fun e w' => e = .returned (.bool true) ∧ Below w.heap.size w w' := by
  have E0 : Hid (Env D w [] [.rw (.slice ya b.length yk) b.length 1 (icl b), .rw (.slice xa a.length xk) a.length 1 (icl a)] w) := Lib.hid (((Env.start D w).arg (.rw (.slice xa a.length xk) a.length 1 (icl a)) hx).arg (.rw (.slice ya b.length yk) b.length 1 (icl b)) hy)
  clear hx hy
  go_enter Tryd.func4, Tryd.ntmps4
  have hl := Lib.hid hl0
  have hf := Lib.hid hf0
  clear hl0 hf0
  go_wp2_with fail
  refine (awake13_c (hl.out.below E0.out.bel)).mono ?_
  rintro e w1 ⟨rfl, hb⟩
  have E1 : Hid (Env D w [] [.rw (.slice ya b.length yk) b.length 1 (icl b), .rw (.slice xa a.length xk) a.length 1 (icl a)] w1) := Lib.hid (E0.out.below hb)
  clear E0 hb
  have HV : Hid (validB q [a, b] = false) := Lib.hid (by rw [valid2, hf.out]; rfl)
  have d1 : decide ((60 : Int) < (a.length : Int)) = false := decide_eq_false (by omega)
  have d1n : decide (60 < a.length) = false := decide_eq_false (by omega)
  have d2 : decide ((60 : Int) < (b.length : Int)) = false := decide_eq_false (by omega)
  have d2n : decide (60 < b.length) = false := decide_eq_false (by omega)
  go_wp2_with fail
  refine (PAdd_no q a b (E1.out.fc 1 rfl) (E1.out.fc 0 rfl) (hl.out.below E1.out.bel) hn HV.out).mono ?_
  rintro e w2 ⟨rfl, hb⟩
  have E2 : Hid (Env D w [] [.rw (.slice ya b.length yk) b.length 1 (icl b), .rw (.slice xa a.length xk) a.length 1 (icl a)] w2) := Lib.hid (E1.out.below hb)
  clear E1 hb
  go_wp2_with fail
  refine (PMul_no q a b (E2.out.fc 1 rfl) (E2.out.fc 0 rfl) (hl.out.below E2.out.bel) hn HV.out).mono ?_
  rintro e w3 ⟨rfl, hb⟩
  have E3 : Hid (Env D w [] [.rw (.slice ya b.length yk) b.length 1 (icl b), .rw (.slice xa a.length xk) a.length 1 (icl a)] w3) := Lib.hid (E2.out.below hb)
  clear E2 hb
  go_wp2_with fail
  refine (rField_c q _ hn.1 hf.out).mono ?_
  rintro e w4 ⟨rfl, hb⟩
  have E4 : Hid (Env D w [] [.rw (.slice ya b.length yk) b.length 1 (icl b), .rw (.slice xa a.length xk) a.length 1 (icl a)] w4) := Lib.hid (E3.out.below hb)
  clear E3 hb
  have hfin := Lib.hid E4.out.bel
  go_wp2
  go_ret
  exact ⟨rfl, hfin.out⟩
set_option maxRecDepth 100000 in
set_option maxHeartbeats 2000000 in
theorem ps_d {D : Nat → Prop} (q : Int) (a b : List Int) {xa ya : Option Addr} {xk yk : Nat} {w : World} (hx : Fct.at w D (.rw (.slice xa a.length xk) a.length 1 (icl a))) (hy : Fct.at w D (.rw (.slice ya b.length yk) b.length 1 (icl b))) (hl0 : Laid w) (hn : -9223372036854775808 ≤ q ∧ q ≤ 9223372036854775807) (h1 : a.length ≤ 60) (h2 : b.length ≤ 60) (hf0 : fieldB q = true) (ha0 : polyB q a = false) :
    Calls Tryd.prog 4 #[.int .i64 q, .slice xa a.length xk, .slice ya b.length yk] w fun e w' => e = .returned (.bool true) ∧ Below w.heap.size w w' := by
  have E0 : Hid (Env D w [] [.rw (.slice ya b.length yk) b.length 1 (icl b), .rw (.slice xa a.length xk) a.length 1 (icl a)] w) := Lib.hid (((Env.start D w).arg (.rw (.slice xa a.length xk) a.length 1 (icl a)) hx).arg (.rw (.slice ya b.length yk) b.length 1 (icl b)) hy)
  clear hx hy
  go_enter Tryd.func4, Tryd.ntmps4
  have hl := Lib.hid hl0
  have hf := Lib.hid hf0
  have ha := Lib.hid ha0
  clear hl0 hf0 ha0
  go_wp2_with fail
  refine (awake13_c (hl.out.below E0.out.bel)).mono ?_
  rintro e w1 ⟨rfl, hb⟩
  have E1 : Hid (Env D w [] [.rw (.slice ya b.length yk) b.length 1 (icl b), .rw (.slice xa a.length xk) a.length 1 (icl a)] w1) := Lib.hid (E0.out.below hb)
  clear E0 hb
  have HV : Hid (validB q [a, b] = false) := Lib.hid (by rw [valid2, hf.out, ha.out]; rfl)
  have d1 : decide ((60 : Int) < (a.length : Int)) = false := decide_eq_false (by omega)
  have d1n : decide (60 < a.length) = false := decide_eq_false (by omega)
  have d2 : decide ((60 : Int) < (b.length : Int)) = false := decide_eq_false (by omega)
  have d2n : decide (60 < b.length) = false := decide_eq_false (by omega)
  go_wp2_with fail
  refine (PAdd_no q a b (E1.out.fc 1 rfl) (E1.out.fc 0 rfl) (hl.out.below E1.out.bel) hn HV.out).mono ?_
  rintro e w2 ⟨rfl, hb⟩
  have E2 : Hid (Env D w [] [.rw (.slice ya b.length yk) b.length 1 (icl b), .rw (.slice xa a.length xk) a.length 1 (icl a)] w2) := Lib.hid (E1.out.below hb)
  clear E1 hb
  go_wp2_with fail
  refine (PMul_no q a b (E2.out.fc 1 rfl) (E2.out.fc 0 rfl) (hl.out.below E2.out.bel) hn HV.out).mono ?_
  rintro e w3 ⟨rfl, hb⟩
  have E3 : Hid (Env D w [] [.rw (.slice ya b.length yk) b.length 1 (icl b), .rw (.slice xa a.length xk) a.length 1 (icl a)] w3) := Lib.hid (E2.out.below hb)
  clear E2 hb
  go_wp2_with fail
  refine (rField_c q _ hn.1 hf.out).mono ?_
  rintro e w4 ⟨rfl, hb⟩
  have E4 : Hid (Env D w [] [.rw (.slice ya b.length yk) b.length 1 (icl b), .rw (.slice xa a.length xk) a.length 1 (icl a)] w4) := Lib.hid (E3.out.below hb)
  clear E3 hb
  go_wp2_with fail
  refine (rValid_c q a (E4.out.fc 1 rfl) ha.out).mono ?_
  rintro e w5 ⟨rfl, hb⟩
  have E5 : Hid (Env D w [] [.rw (.slice ya b.length yk) b.length 1 (icl b), .rw (.slice xa a.length xk) a.length 1 (icl a)] w5) := Lib.hid (E4.out.below hb)
  clear E4 hb
  have hfin := Lib.hid E5.out.bel
  go_wp2
  go_ret
  exact ⟨rfl, hfin.out⟩
set_option maxRecDepth 100000 in
set_option maxHeartbeats 2000000 in
theorem ps_e {D : Nat → Prop} (q : Int) (a b : List Int) {xa ya : Option Addr} {xk yk : Nat} {w : World} (hx : Fct.at w D (.rw (.slice xa a.length xk) a.length 1 (icl a))) (hy : Fct.at w D (.rw (.slice ya b.length yk) b.length 1 (icl b))) (hl0 : Laid w) (hn : -9223372036854775808 ≤ q ∧ q ≤ 9223372036854775807) (h1 : a.length ≤ 60) (h2 : b.length ≤ 60) (hf0 : fieldB q = true) (ha0 : polyB q a = true) (hb0 : polyB q b = false) :
    Calls Tryd.prog 4 #[.int .i64 q, .slice xa a.length xk, .slice ya b.length yk] w fun e w' => e = .returned (.bool true) ∧ Below w.heap.size w w' := by
  have E0 : Hid (Env D w [] [.rw (.slice ya b.length yk) b.length 1 (icl b), .rw (.slice xa a.length xk) a.length 1 (icl a)] w) := Lib.hid (((Env.start D w).arg (.rw (.slice xa a.length xk) a.length 1 (icl a)) hx).arg (.rw (.slice ya b.length yk) b.length 1 (icl b)) hy)
  clear hx hy
  go_enter Tryd.func4, Tryd.ntmps4
  have hl := Lib.hid hl0
  have hf := Lib.hid hf0
  have ha := Lib.hid ha0
  have hb := Lib.hid hb0
  clear hl0 hf0 ha0 hb0
  go_wp2_with fail
  refine (awake13_c (hl.out.below E0.out.bel)).mono ?_
  rintro e w1 ⟨rfl, hb⟩
  have E1 : Hid (Env D w [] [.rw (.slice ya b.length yk) b.length 1 (icl b), .rw (.slice xa a.length xk) a.length 1 (icl a)] w1) := Lib.hid (E0.out.below hb)
  clear E0 hb
  have HV : Hid (validB q [a, b] = false) := Lib.hid (by rw [valid2, hf.out, ha.out, hb.out]; rfl)
  have d1 : decide ((60 : Int) < (a.length : Int)) = false := decide_eq_false (by omega)
  have d1n : decide (60 < a.length) = false := decide_eq_false (by omega)
  have d2 : decide ((60 : Int) < (b.length : Int)) = false := decide_eq_false (by omega)
  have d2n : decide (60 < b.length) = false := decide_eq_false (by omega)
  go_wp2_with fail
  refine (PAdd_no q a b (E1.out.fc 1 rfl) (E1.out.fc 0 rfl) (hl.out.below E1.out.bel) hn HV.out).mono ?_
  rintro e w2 ⟨rfl, hb⟩
  have E2 : Hid (Env D w [] [.rw (.slice ya b.length yk) b.length 1 (icl b), .rw (.slice xa a.length xk) a.length 1 (icl a)] w2) := Lib.hid (E1.out.below hb)
  clear E1 hb
  go_wp2_with fail
  refine (PMul_no q a b (E2.out.fc 1 rfl) (E2.out.fc 0 rfl) (hl.out.below E2.out.bel) hn HV.out).mono ?_
  rintro e w3 ⟨rfl, hb⟩
  have E3 : Hid (Env D w [] [.rw (.slice ya b.length yk) b.length 1 (icl b), .rw (.slice xa a.length xk) a.length 1 (icl a)] w3) := Lib.hid (E2.out.below hb)
  clear E2 hb
  go_wp2_with fail
  refine (rField_c q _ hn.1 hf.out).mono ?_
  rintro e w4 ⟨rfl, hb⟩
  have E4 : Hid (Env D w [] [.rw (.slice ya b.length yk) b.length 1 (icl b), .rw (.slice xa a.length xk) a.length 1 (icl a)] w4) := Lib.hid (E3.out.below hb)
  clear E3 hb
  go_wp2_with fail
  refine (rValid_c q a (E4.out.fc 1 rfl) ha.out).mono ?_
  rintro e w5 ⟨rfl, hb⟩
  have E5 : Hid (Env D w [] [.rw (.slice ya b.length yk) b.length 1 (icl b), .rw (.slice xa a.length xk) a.length 1 (icl a)] w5) := Lib.hid (E4.out.below hb)
  clear E4 hb
  go_wp2_with fail
  refine (rValid_c q b (E5.out.fc 0 rfl) hb.out).mono ?_
  rintro e w6 ⟨rfl, hb⟩
  have E6 : Hid (Env D w [] [.rw (.slice ya b.length yk) b.length 1 (icl b), .rw (.slice xa a.length xk) a.length 1 (icl a)] w6) := Lib.hid (E5.out.below hb)
  clear E5 hb
  have hfin := Lib.hid E6.out.bel
  go_wp2
  go_ret
  exact ⟨rfl, hfin.out⟩
set_option maxRecDepth 100000 in
set_option maxHeartbeats 2000000 in
theorem ps_f {D : Nat → Prop} (q : Nat) (a b : List Nat) {xa ya : Option Addr} {xk yk : Nat} {w : World} (hx : Fct.at w D (.rw (.slice xa a.length xk) a.length 1 (ncl a))) (hy : Fct.at w D (.rw (.slice ya b.length yk) b.length 1 (ncl b))) (hl0 : Laid w) (hq : 0 < q) (hqT : (q : Int) < Top) (h1 : a.length ≤ 60) (h2 : b.length ≤ 60) (hf0 : fieldB q = true) (ha0 : ∀ c ∈ a, c < q) (hb0 : ∀ c ∈ b, c < q) (hpa0 : polyB (q : Int) (nl a) = true) (hpb0 : polyB (q : Int) (nl b) = true) :
    Calls Tryd.prog 4 #[.int .i64 (q : Nat), .slice xa a.length xk, .slice ya b.length yk] w fun e w' => e = .returned (.bool true) ∧ Below w.heap.size w w' := by
  have E0 : Hid (Env D w [] [.rw (.slice ya b.length yk) b.length 1 (ncl b), .rw (.slice xa a.length xk) a.length 1 (ncl a)] w) := Lib.hid (((Env.start D w).arg (.rw (.slice xa a.length xk) a.length 1 (ncl a)) hx).arg (.rw (.slice ya b.length yk) b.length 1 (ncl b)) hy)
  clear hx hy
  go_enter Tryd.func4, Tryd.ntmps4
  have hn : -9223372036854775808 ≤ (q : Int) ∧ (q : Int) ≤ 9223372036854775807 := by unfold Top at hqT; omega
  have HT := Lib.hid hqT
  clear hqT
  have hl := Lib.hid hl0
  have hf := Lib.hid hf0
  have ha := Lib.hid ha0
  have hb := Lib.hid hb0
  have hpa := Lib.hid hpa0
  have hpb := Lib.hid hpb0
  clear hl0 hf0 ha0 hb0 hpa0 hpb0
  have HV : Hid (validB (q : Int) [nl a, nl b] = true) := Lib.hid (by rw [valid2, hf.out, hpa.out, hpb.out]; rfl)
  go_wp2_with fail
  refine (awake13_c (hl.out.below E0.out.bel)).mono ?_
  rintro e w1 ⟨rfl, hb⟩
  have E1 : Hid (Env D w [] [.rw (.slice ya b.length yk) b.length 1 (ncl b), .rw (.slice xa a.length xk) a.length 1 (ncl a)] w1) := Lib.hid (E0.out.below hb)
  clear E0 hb
  have d1 : decide ((60 : Int) < (a.length : Int)) = false := decide_eq_false (by omega)
  have d1n : decide (60 < a.length) = false := decide_eq_false (by omega)
  have d2 : decide ((60 : Int) < (b.length : Int)) = false := decide_eq_false (by omega)
  have d2n : decide (60 < b.length) = false := decide_eq_false (by omega)
  go_wp2_with fail
  refine (PAdd_ok q a b (E1.out.fc 1 rfl) (E1.out.fc 0 rfl) (hl.out.below E1.out.bel) HV.out hq HT.out ha.out hb.out (by omega) (by omega)).mono ?_
  rintro e w2 ⟨⟨sa, sk, rfl, sh⟩, hb⟩
  have E2 : Hid (Env D w [] [.rw (.slice sa (trimN (addL q a b)).length sk) (trimN (addL q a b)).length 1 (ncl (trimN (addL q a b))), .rw (.slice ya b.length yk) b.length 1 (ncl b), .rw (.slice xa a.length xk) a.length 1 (ncl a)] w2) := Lib.hid (E1.out.got (E1.out.below hb) (.rw (.slice sa (trimN (addL q a b)).length sk) (trimN (addL q a b)).length 1 (ncl (trimN (addL q a b)))) (Lib.hid (Rw.ge sh.out)).out)
  clear E1 hb
  go_wp2_with fail
  refine (PMul_ok q a b (E2.out.fc 2 rfl) (E2.out.fc 1 rfl) (hl.out.below E2.out.bel) HV.out hq HT.out ha.out hb.out (by omega) (by omega) (by omega)).mono ?_
  rintro e w3 ⟨⟨pa, pk, rfl, ph⟩, hb⟩
  have E3 : Hid (Env D w [] [.rw (.slice pa (trimN (mulL q a b)).length pk) (trimN (mulL q a b)).length 1 (ncl (trimN (mulL q a b))), .rw (.slice sa (trimN (addL q a b)).length sk) (trimN (addL q a b)).length 1 (ncl (trimN (addL q a b))), .rw (.slice ya b.length yk) b.length 1 (ncl b), .rw (.slice xa a.length xk) a.length 1 (ncl a)] w3) := Lib.hid (E2.out.got (E2.out.below hb) (.rw (.slice pa (trimN (mulL q a b)).length pk) (trimN (mulL q a b)).length 1 (ncl (trimN (mulL q a b)))) (Lib.hid (Rw.ge ph.out)).out)
  clear E2 hb
  go_wp2_with fail
  refine (rField_c q _ hn.1 hf.out).mono ?_
  rintro e w4 ⟨rfl, hb⟩
  have E4 : Hid (Env D w [] [.rw (.slice pa (trimN (mulL q a b)).length pk) (trimN (mulL q a b)).length 1 (ncl (trimN (mulL q a b))), .rw (.slice sa (trimN (addL q a b)).length sk) (trimN (addL q a b)).length 1 (ncl (trimN (addL q a b))), .rw (.slice ya b.length yk) b.length 1 (ncl b), .rw (.slice xa a.length xk) a.length 1 (ncl a)] w4) := Lib.hid (E3.out.below hb)
  clear E3 hb
  go_wp2_with fail
  refine (rValN_c q a (E4.out.fc 3 rfl) hpa.out).mono ?_
  rintro e w5 ⟨rfl, hb⟩
  have E5 : Hid (Env D w [] [.rw (.slice pa (trimN (mulL q a b)).length pk) (trimN (mulL q a b)).length 1 (ncl (trimN (mulL q a b))), .rw (.slice sa (trimN (addL q a b)).length sk) (trimN (addL q a b)).length 1 (ncl (trimN (addL q a b))), .rw (.slice ya b.length yk) b.length 1 (ncl b), .rw (.slice xa a.length xk) a.length 1 (ncl a)] w5) := Lib.hid (E4.out.below hb)
  clear E4 hb
  go_wp2_with fail
  refine (rValN_c q b (E5.out.fc 2 rfl) hpb.out).mono ?_
  rintro e w6 ⟨rfl, hb⟩
  have E6 : Hid (Env D w [] [.rw (.slice pa (trimN (mulL q a b)).length pk) (trimN (mulL q a b)).length 1 (ncl (trimN (mulL q a b))), .rw (.slice sa (trimN (addL q a b)).length sk) (trimN (addL q a b)).length 1 (ncl (trimN (addL q a b))), .rw (.slice ya b.length yk) b.length 1 (ncl b), .rw (.slice xa a.length xk) a.length 1 (ncl a)] w6) := Lib.hid (E5.out.below hb)
  clear E5 hb
  go_wp2_with fail
  refine (rAdd_c q a b (E6.out.fc 3 rfl) (E6.out.fc 2 rfl) hq HT.out ha.out hb.out (by omega) (by omega)).mono ?_
  rintro e w7 ⟨⟨ta, tk, rfl, th⟩, hb⟩
  have E7 : Hid (Env D w [] [.rw (.slice ta (trimN (addL q a b)).length tk) (trimN (addL q a b)).length 1 (ncl (trimN (addL q a b))), .rw (.slice pa (trimN (mulL q a b)).length pk) (trimN (mulL q a b)).length 1 (ncl (trimN (mulL q a b))), .rw (.slice sa (trimN (addL q a b)).length sk) (trimN (addL q a b)).length 1 (ncl (trimN (addL q a b))), .rw (.slice ya b.length yk) b.length 1 (ncl b), .rw (.slice xa a.length xk) a.length 1 (ncl a)] w7) := Lib.hid (E6.out.got (E6.out.below hb) (.rw (.slice ta (trimN (addL q a b)).length tk) (trimN (addL q a b)).length 1 (ncl (trimN (addL q a b)))) (Lib.hid (Rw.ge th.out)).out)
  clear E6 hb
  go_wp2_with fail
  refine (equalN_c (t := true) (a := trimN (addL q a b)) (b := trimN (addL q a b)) (E7.out.fc 2 rfl) (E7.out.fc 0 rfl) (Nat.le_trans (trimN_len _) (by rw [addL_len]; omega)) (Nat.le_trans (trimN_len _) (by rw [addL_len]; omega)) (by simp)).mono ?_
  rintro e w8 ⟨rfl, hb⟩
  have E8 : Hid (Env D w [] [.rw (.slice ta (trimN (addL q a b)).length tk) (trimN (addL q a b)).length 1 (ncl (trimN (addL q a b))), .rw (.slice pa (trimN (mulL q a b)).length pk) (trimN (mulL q a b)).length 1 (ncl (trimN (mulL q a b))), .rw (.slice sa (trimN (addL q a b)).length sk) (trimN (addL q a b)).length 1 (ncl (trimN (addL q a b))), .rw (.slice ya b.length yk) b.length 1 (ncl b), .rw (.slice xa a.length xk) a.length 1 (ncl a)] w8) := Lib.hid (E7.out.below hb)
  clear E7 hb
  go_wp2_with fail
  refine (rMul_c q a b (E8.out.fc 4 rfl) (E8.out.fc 3 rfl) hq HT.out ha.out hb.out (by omega) (by omega)).mono ?_
  rintro e w9 ⟨⟨ua, uk, rfl, uh⟩, hb⟩
  have E9 : Hid (Env D w [] [.rw (.slice ua (trimN (mulL q a b)).length uk) (trimN (mulL q a b)).length 1 (ncl (trimN (mulL q a b))), .rw (.slice ta (trimN (addL q a b)).length tk) (trimN (addL q a b)).length 1 (ncl (trimN (addL q a b))), .rw (.slice pa (trimN (mulL q a b)).length pk) (trimN (mulL q a b)).length 1 (ncl (trimN (mulL q a b))), .rw (.slice sa (trimN (addL q a b)).length sk) (trimN (addL q a b)).length 1 (ncl (trimN (addL q a b))), .rw (.slice ya b.length yk) b.length 1 (ncl b), .rw (.slice xa a.length xk) a.length 1 (ncl a)] w9) := Lib.hid (E8.out.got (E8.out.below hb) (.rw (.slice ua (trimN (mulL q a b)).length uk) (trimN (mulL q a b)).length 1 (ncl (trimN (mulL q a b)))) (Lib.hid (Rw.ge uh.out)).out)
  clear E8 hb
  go_wp2_with fail
  refine (equalN_c (t := true) (a := trimN (mulL q a b)) (b := trimN (mulL q a b)) (E9.out.fc 2 rfl) (E9.out.fc 0 rfl) (Nat.le_trans (trimN_len _) (Nat.le_trans (mulL_le _ _ _) (by omega))) (Nat.le_trans (trimN_len _) (Nat.le_trans (mulL_le _ _ _) (by omega))) (by simp)).mono ?_
  rintro e w10 ⟨rfl, hb⟩
  have E10 : Hid (Env D w [] [.rw (.slice ua (trimN (mulL q a b)).length uk) (trimN (mulL q a b)).length 1 (ncl (trimN (mulL q a b))), .rw (.slice ta (trimN (addL q a b)).length tk) (trimN (addL q a b)).length 1 (ncl (trimN (addL q a b))), .rw (.slice pa (trimN (mulL q a b)).length pk) (trimN (mulL q a b)).length 1 (ncl (trimN (mulL q a b))), .rw (.slice sa (trimN (addL q a b)).length sk) (trimN (addL q a b)).length 1 (ncl (trimN (addL q a b))), .rw (.slice ya b.length yk) b.length 1 (ncl b), .rw (.slice xa a.length xk) a.length 1 (ncl a)] w10) := Lib.hid (E9.out.below hb)
  clear E9 hb
  have hfin := Lib.hid E10.out.bel
  go_wp2
  go_ret
  exact ⟨rfl, hfin.out⟩
theorem PolySums_walk {D : Nat → Prop} (q : Int) (a b : List Int) {xa ya : Option Addr} {xk yk : Nat} {w : World} (hx : Fct.at w D (.rw (.slice xa a.length xk) a.length 1 (icl a))) (hy : Fct.at w D (.rw (.slice ya b.length yk) b.length 1 (icl b))) (hl : Laid w) (hn : -9223372036854775808 ≤ q ∧ q ≤ 9223372036854775807) :
    Calls Tryd.prog 4 #[.int .i64 q, .slice xa a.length xk, .slice ya b.length yk] w fun e w' => e = .returned (.bool true) ∧ Below w.heap.size w w' := by
  by_cases h1 : 60 < a.length
  · exact ps_a q a b hx hy hl hn h1
  by_cases h2 : 60 < b.length
  · exact ps_b q a b hx hy hl hn (by omega) h2
  have g1 : a.length ≤ 60 := by omega
  have g2 : b.length ≤ 60 := by omega
  cases hf : fieldB q with
  | false => exact ps_c q a b hx hy hl hn g1 g2 hf
  | true =>
    cases ha : polyB q a with
    | false => exact ps_d q a b hx hy hl hn g1 g2 hf ha
    | true =>
      cases hb : polyB q b with
      | false => exact ps_e q a b hx hy hl hn g1 g2 hf ha hb
      | true =>
        obtain ⟨n, rfl, hn2, hT⟩ := fieldB_pos hf
        obtain ⟨m, rfl, hm⟩ := all_nl (poly_res ha)
        obtain ⟨k, rfl, hk⟩ := all_nl (poly_res hb)
        have hx' : Fct.at w D (.rw (.slice xa m.length xk) m.length 1 (ncl m)) := by have h := hx; rw [nl_len] at h; exact h
        have hy' : Fct.at w D (.rw (.slice ya k.length yk) k.length 1 (ncl k)) := by have h := hy; rw [nl_len] at h; exact h
        rw [nl_len] at g1 g2
        rw [nl_len, nl_len]
        exact ps_f n m k hx' hy' hl (by omega) hT g1 g2 hf (fun c hc => Int.ofNat_lt.1 (hm c hc)) (fun c hc => Int.ofNat_lt.1 (hk c hc)) ha hb
end Go.Proofs.YtinlfogpbologaaDoor

/- poly: the law PolyDivides. -/
import Derived.Test.YteipbcpnnojclaaDoorPolDe
import Derived.Test.YteipbcpnnojclaaDoorPolDc
namespace Go.Proofs.YteipbcpnnojclaaDoor
open Go.RowKit DivMath WordMath
set_option linter.unusedVariables false
set_option linter.unusedSimpArgs false
set_option maxRecDepth 100000 in
set_option maxHeartbeats 2000000 in
theorem pd_a {D : Nat → Prop} (q : Int) (a b : List Int) {xa ya : Option Addr} {xk yk : Nat} {w : World} (hx : Fct.at w D (.rw (.slice xa a.length xk) a.length 1 (icl a))) (hy : Fct.at w D (.rw (.slice ya b.length yk) b.length 1 (icl b))) (hl0 : Laid w) (hn : -9223372036854775808 ≤ q ∧ q ≤ 9223372036854775807) (h1 : 60 < a.length) :
    Calls Tryd.prog 6 #[.int .i64 q, .slice xa a.length xk, .slice ya b.length yk] w fun e w' => e = .returned (.bool true) ∧ Below w.heap.size w w' := by
  have E0 : Hid (Env D w [] [.rw (.slice ya b.length yk) b.length 1 (icl b), .rw (.slice xa a.length xk) a.length 1 (icl a)] w) := Lib.hid (((Env.start D w).arg (.rw (.slice xa a.length xk) a.length 1 (icl a)) hx).arg (.rw (.slice ya b.length yk) b.length 1 (icl b)) hy)
  clear hx hy
  go_enter Tryd.func6, Tryd.ntmps6
  have hl := Lib.hid hl0
  clear hl0
  go_wp2_with fail
  refine (awake13_c (hl.out.below E0.out.bel)).mono ?_
  rintro e w1 ⟨rfl, hb⟩
  have E1 : Hid (Env D w [] [.rw (.slice ya b.length yk) b.length 1 (icl b), .rw (.slice xa a.length xk) a.length 1 (icl a)] w1) := Lib.hid (E0.out.below hb)
  clear E0 hb
  have d1 : decide ((60 : Int) < (a.length : Int)) = true := decide_eq_true (by omega)
  have d1n : decide (60 < a.length) = true := decide_eq_true (by omega)
  have hfin := Lib.hid E1.out.bel
  go_wp2
  go_ret
  exact ⟨rfl, hfin.out⟩
set_option maxRecDepth 100000 in
set_option maxHeartbeats 2000000 in
theorem pd_b {D : Nat → Prop} (q : Int) (a b : List Int) {xa ya : Option Addr} {xk yk : Nat} {w : World} (hx : Fct.at w D (.rw (.slice xa a.length xk) a.length 1 (icl a))) (hy : Fct.at w D (.rw (.slice ya b.length yk) b.length 1 (icl b))) (hl0 : Laid w) (hn : -9223372036854775808 ≤ q ∧ q ≤ 9223372036854775807) (h1 : a.length ≤ 60) (h2 : 60 < b.length) :
    Calls Tryd.prog 6 #[.int .i64 q, .slice xa a.length xk, .slice ya b.length yk] w fun e w' => e = .returned (.bool true) ∧ Below w.heap.size w w' := by
  have E0 : Hid (Env D w [] [.rw (.slice ya b.length yk) b.length 1 (icl b), .rw (.slice xa a.length xk) a.length 1 (icl a)] w) := Lib.hid (((Env.start D w).arg (.rw (.slice xa a.length xk) a.length 1 (icl a)) hx).arg (.rw (.slice ya b.length yk) b.length 1 (icl b)) hy)
  clear hx hy
  go_enter Tryd.func6, Tryd.ntmps6
  have hl := Lib.hid hl0
  clear hl0
  go_wp2_with fail
  refine (awake13_c (hl.out.below E0.out.bel)).mono ?_
  rintro e w1 ⟨rfl, hb⟩
  have E1 : Hid (Env D w [] [.rw (.slice ya b.length yk) b.length 1 (icl b), .rw (.slice xa a.length xk) a.length 1 (icl a)] w1) := Lib.hid (E0.out.below hb)
  clear E0 hb
  have d1 : decide ((60 : Int) < (a.length : Int)) = false := decide_eq_false (by omega)
  have d1n : decide (60 < a.length) = false := decide_eq_false (by omega)
  have d2 : decide ((60 : Int) < (b.length : Int)) = true := decide_eq_true (by omega)
  have d2n : decide (60 < b.length) = true := decide_eq_true (by omega)
  have hfin := Lib.hid E1.out.bel
  go_wp2
  go_ret
  exact ⟨rfl, hfin.out⟩
set_option maxRecDepth 100000 in
set_option maxHeartbeats 2000000 in
theorem pd_c {D : Nat → Prop} (q : Int) (a b : List Int) {xa ya : Option Addr} {xk yk : Nat} {w : World} (hx : Fct.at w D (.rw (.slice xa a.length xk) a.length 1 (icl a))) (hy : Fct.at w D (.rw (.slice ya b.length yk) b.length 1 (icl b))) (hl0 : Laid w) (hn : -9223372036854775808 ≤ q ∧ q ≤ 9223372036854775807) (h1 : a.length ≤ 60) (h2 : b.length ≤ 60) (hf0 : fieldB q = false) :
    Calls Tryd.prog 6 #[.int .i64 q, .slice xa a.length xk, .slice ya b.length yk] w fun e w' => e = .returned (.bool true) ∧ Below w.heap.size w w' := by
  have E0 : Hid (Env D w [] [.rw (.slice ya b.length yk) b.length 1 (icl b), .rw (.slice xa a.length xk) a.length 1 (icl a)] w) := Lib.hid (((Env.start D w).arg (.rw (.slice xa a.length xk) a.length 1 (icl a)) hx).arg (.rw (.slice ya b.length yk) b.length 1 (icl b)) hy)
  clear hx hy
  go_enter Tryd.func6, Tryd.ntmps6
  have hl := Lib.hid hl0
  have hf := Lib.hid hf0
  clear hl0 hf0
  go_wp2_with fail
  refine (awake13_c (hl.out.below E0.out.bel)).mono ?_
  rintro e w1 ⟨rfl, hb⟩
  have E1 : Hid (Env D w [] [.rw (.slice ya b.length yk) b.length 1 (icl b), .rw (.slice xa a.length xk) a.length 1 (icl a)] w1) := Lib.hid (E0.out.below hb)
  clear E0 hb
  have HV : Hid (validB q [a, b] = false) := Lib.hid (by rw [valid2, hf.out]; rfl)
  have d1 : decide ((60 : Int) < (a.length : Int)) = false := decide_eq_false (by omega)
  have d1n : decide (60 < a.length) = false := decide_eq_false (by omega)
  have d2 : decide ((60 : Int) < (b.length : Int)) = false := decide_eq_false (by omega)
  have d2n : decide (60 < b.length) = false := decide_eq_false (by omega)
  go_wp2_with fail
  refine (PDiv_no q a b (E1.out.fc 1 rfl) (E1.out.fc 0 rfl) (hl.out.below E1.out.bel) hn HV.out).mono ?_
  rintro e w2 ⟨rfl, hb⟩
  have E2 : Hid (Env D w [] [.rw (.slice ya b.length yk) b.length 1 (icl b), .rw (.slice xa a.length xk) a.length 1 (icl a)] w2) := Lib.hid (E1.out.below hb)
  clear E1 hb
  go_wp2_with fail
  refine (rField_c q _ hn.1 hf.out).mono ?_
  rintro e w3 ⟨rfl, hb⟩
  have E3 : Hid (Env D w [] [.rw (.slice ya b.length yk) b.length 1 (icl b), .rw (.slice xa a.length xk) a.length 1 (icl a)] w3) := Lib.hid (E2.out.below hb)
  clear E2 hb
  have hfin := Lib.hid E3.out.bel
  go_wp2
  go_ret
  exact ⟨rfl, hfin.out⟩
set_option maxRecDepth 100000 in
set_option maxHeartbeats 2000000 in
theorem pd_d {D : Nat → Prop} (q : Int) (a b : List Int) {xa ya : Option Addr} {xk yk : Nat} {w : World} (hx : Fct.at w D (.rw (.slice xa a.length xk) a.length 1 (icl a))) (hy : Fct.at w D (.rw (.slice ya b.length yk) b.length 1 (icl b))) (hl0 : Laid w) (hn : -9223372036854775808 ≤ q ∧ q ≤ 9223372036854775807) (h1 : a.length ≤ 60) (h2 : b.length ≤ 60) (hf0 : fieldB q = true) (ha0 : polyB q a = false) :
    Calls Tryd.prog 6 #[.int .i64 q, .slice xa a.length xk, .slice ya b.length yk] w fun e w' => e = .returned (.bool true) ∧ Below w.heap.size w w' := by
  have E0 : Hid (Env D w [] [.rw (.slice ya b.length yk) b.length 1 (icl b), .rw (.slice xa a.length xk) a.length 1 (icl a)] w) := Lib.hid (((Env.start D w).arg (.rw (.slice xa a.length xk) a.length 1 (icl a)) hx).arg (.rw (.slice ya b.length yk) b.length 1 (icl b)) hy)
  clear hx hy
  go_enter Tryd.func6, Tryd.ntmps6
  have hl := Lib.hid hl0
  have hf := Lib.hid hf0
  have ha := Lib.hid ha0
  clear hl0 hf0 ha0
  go_wp2_with fail
  refine (awake13_c (hl.out.below E0.out.bel)).mono ?_
  rintro e w1 ⟨rfl, hb⟩
  have E1 : Hid (Env D w [] [.rw (.slice ya b.length yk) b.length 1 (icl b), .rw (.slice xa a.length xk) a.length 1 (icl a)] w1) := Lib.hid (E0.out.below hb)
  clear E0 hb
  have HV : Hid (validB q [a, b] = false) := Lib.hid (by rw [valid2, hf.out, ha.out]; rfl)
  have d1 : decide ((60 : Int) < (a.length : Int)) = false := decide_eq_false (by omega)
  have d1n : decide (60 < a.length) = false := decide_eq_false (by omega)
  have d2 : decide ((60 : Int) < (b.length : Int)) = false := decide_eq_false (by omega)
  have d2n : decide (60 < b.length) = false := decide_eq_false (by omega)
  go_wp2_with fail
  refine (PDiv_no q a b (E1.out.fc 1 rfl) (E1.out.fc 0 rfl) (hl.out.below E1.out.bel) hn HV.out).mono ?_
  rintro e w2 ⟨rfl, hb⟩
  have E2 : Hid (Env D w [] [.rw (.slice ya b.length yk) b.length 1 (icl b), .rw (.slice xa a.length xk) a.length 1 (icl a)] w2) := Lib.hid (E1.out.below hb)
  clear E1 hb
  go_wp2_with fail
  refine (rField_c q _ hn.1 hf.out).mono ?_
  rintro e w3 ⟨rfl, hb⟩
  have E3 : Hid (Env D w [] [.rw (.slice ya b.length yk) b.length 1 (icl b), .rw (.slice xa a.length xk) a.length 1 (icl a)] w3) := Lib.hid (E2.out.below hb)
  clear E2 hb
  go_wp2_with fail
  refine (rValid_c q a (E3.out.fc 1 rfl) ha.out).mono ?_
  rintro e w4 ⟨rfl, hb⟩
  have E4 : Hid (Env D w [] [.rw (.slice ya b.length yk) b.length 1 (icl b), .rw (.slice xa a.length xk) a.length 1 (icl a)] w4) := Lib.hid (E3.out.below hb)
  clear E3 hb
  have hfin := Lib.hid E4.out.bel
  go_wp2
  go_ret
  exact ⟨rfl, hfin.out⟩
set_option maxRecDepth 100000 in
set_option maxHeartbeats 2000000 in
theorem pd_e {D : Nat → Prop} (q : Int) (a b : List Int) {xa ya : Option Addr} {xk yk : Nat} {w : World} (hx : Fct.at w D (.rw (.slice xa a.length xk) a.length 1 (icl a))) (hy : Fct.at w D (.rw (.slice ya b.length yk) b.length 1 (icl b))) (hl0 : Laid w) (hn : -9223372036854775808 ≤ q ∧ q ≤ 9223372036854775807) (h1 : a.length ≤ 60) (h2 : b.length ≤ 60) (hf0 : fieldB q = true) (ha0 : polyB q a = true) (hb0 : polyB q b = false) :
    Calls Tryd.prog 6 #[.int .i64 q, .slice xa a.length xk, .slice ya b.length yk] w fun e w' => e = .returned (.bool true) ∧ Below w.heap.size w w' := by
  have E0 : Hid (Env D w [] [.rw (.slice ya b.length yk) b.length 1 (icl b), .rw (.slice xa a.length xk) a.length 1 (icl a)] w) := Lib.hid (((Env.start D w).arg (.rw (.slice xa a.length xk) a.length 1 (icl a)) hx).arg (.rw (.slice ya b.length yk) b.length 1 (icl b)) hy)
  clear hx hy
  go_enter Tryd.func6, Tryd.ntmps6
  have hl := Lib.hid hl0
  have hf := Lib.hid hf0
  have ha := Lib.hid ha0
  have hb := Lib.hid hb0
  clear hl0 hf0 ha0 hb0
  go_wp2_with fail
  refine (awake13_c (hl.out.below E0.out.bel)).mono ?_
  rintro e w1 ⟨rfl, hb⟩
  have E1 : Hid (Env D w [] [.rw (.slice ya b.length yk) b.length 1 (icl b), .rw (.slice xa a.length xk) a.length 1 (icl a)] w1) := Lib.hid (E0.out.below hb)
  clear E0 hb
  have HV : Hid (validB q [a, b] = false) := Lib.hid (by rw [valid2, hf.out, ha.out, hb.out]; rfl)
  have d1 : decide ((60 : Int) < (a.length : Int)) = false := decide_eq_false (by omega)
  have d1n : decide (60 < a.length) = false := decide_eq_false (by omega)
  have d2 : decide ((60 : Int) < (b.length : Int)) = false := decide_eq_false (by omega)
  have d2n : decide (60 < b.length) = false := decide_eq_false (by omega)
  go_wp2_with fail
  refine (PDiv_no q a b (E1.out.fc 1 rfl) (E1.out.fc 0 rfl) (hl.out.below E1.out.bel) hn HV.out).mono ?_
  rintro e w2 ⟨rfl, hb⟩
  have E2 : Hid (Env D w [] [.rw (.slice ya b.length yk) b.length 1 (icl b), .rw (.slice xa a.length xk) a.length 1 (icl a)] w2) := Lib.hid (E1.out.below hb)
  clear E1 hb
  go_wp2_with fail
  refine (rField_c q _ hn.1 hf.out).mono ?_
  rintro e w3 ⟨rfl, hb⟩
  have E3 : Hid (Env D w [] [.rw (.slice ya b.length yk) b.length 1 (icl b), .rw (.slice xa a.length xk) a.length 1 (icl a)] w3) := Lib.hid (E2.out.below hb)
  clear E2 hb
  go_wp2_with fail
  refine (rValid_c q a (E3.out.fc 1 rfl) ha.out).mono ?_
  rintro e w4 ⟨rfl, hb⟩
  have E4 : Hid (Env D w [] [.rw (.slice ya b.length yk) b.length 1 (icl b), .rw (.slice xa a.length xk) a.length 1 (icl a)] w4) := Lib.hid (E3.out.below hb)
  clear E3 hb
  go_wp2_with fail
  refine (rValid_c q b (E4.out.fc 0 rfl) hb.out).mono ?_
  rintro e w5 ⟨rfl, hb⟩
  have E5 : Hid (Env D w [] [.rw (.slice ya b.length yk) b.length 1 (icl b), .rw (.slice xa a.length xk) a.length 1 (icl a)] w5) := Lib.hid (E4.out.below hb)
  clear E4 hb
  have hfin := Lib.hid E5.out.bel
  go_wp2
  go_ret
  exact ⟨rfl, hfin.out⟩
set_option maxRecDepth 100000 in
set_option maxHeartbeats 2000000 in
theorem pd_z {D : Nat → Prop} (q : Int) (a b : List Int) {xa ya : Option Addr} {xk yk : Nat} {w : World} (hx : Fct.at w D (.rw (.slice xa a.length xk) a.length 1 (icl a))) (hy : Fct.at w D (.rw (.slice ya b.length yk) b.length 1 (icl b))) (hl0 : Laid w) (hn : -9223372036854775808 ≤ q ∧ q ≤ 9223372036854775807) (h1 : a.length ≤ 60) (h2 : b.length = 0) (hf0 : fieldB q = true) (ha0 : polyB q a = true) (hb0 : polyB q b = true) :
    Calls Tryd.prog 6 #[.int .i64 q, .slice xa a.length xk, .slice ya b.length yk] w fun e w' => e = .returned (.bool true) ∧ Below w.heap.size w w' := by
  have E0 : Hid (Env D w [] [.rw (.slice ya b.length yk) b.length 1 (icl b), .rw (.slice xa a.length xk) a.length 1 (icl a)] w) := Lib.hid (((Env.start D w).arg (.rw (.slice xa a.length xk) a.length 1 (icl a)) hx).arg (.rw (.slice ya b.length yk) b.length 1 (icl b)) hy)
  clear hx hy
  go_enter Tryd.func6, Tryd.ntmps6
  have hl := Lib.hid hl0
  have hf := Lib.hid hf0
  have ha := Lib.hid ha0
  have hb := Lib.hid hb0
  clear hl0 hf0 ha0 hb0
  go_wp2_with fail
  refine (awake13_c (hl.out.below E0.out.bel)).mono ?_
  rintro e w1 ⟨rfl, hb⟩
  have E1 : Hid (Env D w [] [.rw (.slice ya b.length yk) b.length 1 (icl b), .rw (.slice xa a.length xk) a.length 1 (icl a)] w1) := Lib.hid (E0.out.below hb)
  clear E0 hb
  have HV : Hid (validB q [a, b] = true) := Lib.hid (by rw [valid2, hf.out, ha.out, hb.out]; rfl)
  have d1 : decide ((60 : Int) < (a.length : Int)) = false := decide_eq_false (by omega)
  have d1n : decide (60 < a.length) = false := decide_eq_false (by omega)
  have d2 : decide ((60 : Int) < (b.length : Int)) = false := decide_eq_false (by omega)
  have d2n : decide (60 < b.length) = false := decide_eq_false (by omega)
  have z1 : ((b.length : Int) == 0) = true := beq_iff_eq.2 (by omega)
  have z1n : (b.length == 0) = true := beq_iff_eq.2 h2
  have H2 := Lib.hid h2
  clear h2
  go_wp2_with fail
  refine (PDiv_zero q a b (E1.out.fc 1 rfl) (E1.out.fc 0 rfl) (hl.out.below E1.out.bel) hn HV.out H2.out).mono ?_
  rintro e w2 ⟨rfl, hb⟩
  have E2 : Hid (Env D w [] [.rw (.slice ya b.length yk) b.length 1 (icl b), .rw (.slice xa a.length xk) a.length 1 (icl a)] w2) := Lib.hid (E1.out.below hb)
  clear E1 hb
  go_wp2_with fail
  refine (rField_c q _ hn.1 hf.out).mono ?_
  rintro e w3 ⟨rfl, hb⟩
  have E3 : Hid (Env D w [] [.rw (.slice ya b.length yk) b.length 1 (icl b), .rw (.slice xa a.length xk) a.length 1 (icl a)] w3) := Lib.hid (E2.out.below hb)
  clear E2 hb
  go_wp2_with fail
  refine (rValid_c q a (E3.out.fc 1 rfl) ha.out).mono ?_
  rintro e w4 ⟨rfl, hb⟩
  have E4 : Hid (Env D w [] [.rw (.slice ya b.length yk) b.length 1 (icl b), .rw (.slice xa a.length xk) a.length 1 (icl a)] w4) := Lib.hid (E3.out.below hb)
  clear E3 hb
  go_wp2_with fail
  refine (rValid_c q b (E4.out.fc 0 rfl) hb.out).mono ?_
  rintro e w5 ⟨rfl, hb⟩
  have E5 : Hid (Env D w [] [.rw (.slice ya b.length yk) b.length 1 (icl b), .rw (.slice xa a.length xk) a.length 1 (icl a)] w5) := Lib.hid (E4.out.below hb)
  clear E4 hb
  have hfin := Lib.hid E5.out.bel
  go_wp2
  go_ret
  exact ⟨rfl, hfin.out⟩
set_option maxRecDepth 100000 in
set_option maxHeartbeats 2000000 in
theorem pd_f {D : Nat → Prop} (q : Nat) (a b : List Nat) {xa ya : Option Addr} {xk yk : Nat} {w : World} (hx : Fct.at w D (.rw (.slice xa a.length xk) a.length 1 (ncl a))) (hy : Fct.at w D (.rw (.slice ya b.length yk) b.length 1 (ncl b))) (hDD0 : ∀ b, D b) (hl0 : Laid w) (hq1 : 1 < q) (hqT : (q : Int) < Top) (h1 : a.length ≤ 60) (h2 : b.length ≤ 60) (hz : 0 < b.length) (hf0 : fieldB q = true) (ha0 : ∀ c ∈ a, c < q) (hb0 : ∀ c ∈ b, c < q) (hpa0 : polyB (q : Int) (nl a) = true) (hpb0 : polyB (q : Int) (nl b) = true) (hg0 : Nat.gcd (b.getD (b.length - 1) 0) q = 1) (lead : Nat) (hlq0 : lead < q) (hle0 : b.getD (b.length - 1) 0 * lead % q = 1 % q) :
    Calls Tryd.prog 6 #[.int .i64 (q : Nat), .slice xa a.length xk, .slice ya b.length yk] w fun e w' => e = .returned (.bool true) ∧ Below w.heap.size w w' := by
  have E0 : Hid (Env D w [] [.rw (.slice ya b.length yk) b.length 1 (ncl b), .rw (.slice xa a.length xk) a.length 1 (ncl a)] w) := Lib.hid (((Env.start D w).arg (.rw (.slice xa a.length xk) a.length 1 (ncl a)) hx).arg (.rw (.slice ya b.length yk) b.length 1 (ncl b)) hy)
  clear hx hy
  go_enter Tryd.func6, Tryd.ntmps6
  have hn : -9223372036854775808 ≤ (q : Int) ∧ (q : Int) ≤ 9223372036854775807 := by unfold Top at hqT; omega
  have HT := Lib.hid hqT
  clear hqT
  have hDD := Lib.hid hDD0
  have hl := Lib.hid hl0
  have hf := Lib.hid hf0
  have ha := Lib.hid ha0
  have hb := Lib.hid hb0
  have hpa := Lib.hid hpa0
  have hpb := Lib.hid hpb0
  have hg := Lib.hid hg0
  have hlq := Lib.hid hlq0
  have hle := Lib.hid hle0
  clear hDD0 hl0 hf0 ha0 hb0 hpa0 hpb0 hg0 hlq0 hle0
  have HV : Hid (validB (q : Int) [nl a, nl b] = true) := Lib.hid (by rw [valid2, hf.out, hpa.out, hpb.out]; rfl)
  obtain ⟨x, hX⟩ : ∃ x, trimN (divL q b lead (a.length + 1 - b.length) a (List.replicate (a.length + 1 - b.length) 0)).2 = x := ⟨_, rfl⟩
  obtain ⟨y, hY⟩ : ∃ y, trimN (divL q b lead (a.length + 1 - b.length) a (List.replicate (a.length + 1 - b.length) 0)).1 = y := ⟨_, rfl⟩
  have HX := Lib.hid hX
  have HY := Lib.hid hY
  clear hX hY
  have HXL : Hid (x.length ≤ 1000000) := Lib.hid (by rw [← HX.out]; refine Nat.le_trans (trimN_len _) ?_; rw [(divL_len _ _ _ _ _ _).2]; simp; omega)
  have HYL : Hid (y.length ≤ 1000000) := Lib.hid (by rw [← HY.out]; refine Nat.le_trans (trimN_len _) ?_; rw [(divL_len _ _ _ _ _ _).1]; omega)
  have z1 : ((b.length : Int) == 0) = false := beq_eq_false_iff_ne.2 (by omega)
  have z1n : (b.length == 0) = false := beq_eq_false_iff_ne.2 (by omega)
  go_wp2_with fail
  refine (awake13_c (hl.out.below E0.out.bel)).mono ?_
  rintro e w1 ⟨rfl, hb⟩
  have E1 : Hid (Env D w [] [.rw (.slice ya b.length yk) b.length 1 (ncl b), .rw (.slice xa a.length xk) a.length 1 (ncl a)] w1) := Lib.hid (E0.out.below hb)
  clear E0 hb
  have d1 : decide ((60 : Int) < (a.length : Int)) = false := decide_eq_false (by omega)
  have d1n : decide (60 < a.length) = false := decide_eq_false (by omega)
  have d2 : decide ((60 : Int) < (b.length : Int)) = false := decide_eq_false (by omega)
  have d2n : decide (60 < b.length) = false := decide_eq_false (by omega)
  go_wp2_with fail
  refine (PDiv_xy q a b x y (E1.out.fc 1 rfl) (E1.out.fc 0 rfl) (hl.out.below E1.out.bel) HV.out hq1 HT.out ha.out hb.out (by omega) (by omega) hz hg.out lead hlq.out hle.out HX.out HY.out).mono ?_
  rintro e w2 ⟨⟨xxa, xxk, yya, yyk, rfl, xh, yh⟩, hb⟩
  have E2 : Hid (Env D w [] [.rw (.slice yya y.length yyk) y.length 1 (ncl y), .rw (.slice xxa x.length xxk) x.length 1 (ncl x), .rw (.slice ya b.length yk) b.length 1 (ncl b), .rw (.slice xa a.length xk) a.length 1 (ncl a)] w2) := Lib.hid (E1.out.got (E1.out.got (E1.out.below hb) (.rw (.slice xxa x.length xxk) x.length 1 (ncl x)) (Lib.hid (Rw.up hDD.out xh.out)).out) (.rw (.slice yya y.length yyk) y.length 1 (ncl y)) (Lib.hid (Rw.up hDD.out yh.out)).out)
  clear E1 hb
  go_wp2_with fail
  refine (rField_c q _ hn.1 hf.out).mono ?_
  rintro e w3 ⟨rfl, hb⟩
  have E3 : Hid (Env D w [] [.rw (.slice yya y.length yyk) y.length 1 (ncl y), .rw (.slice xxa x.length xxk) x.length 1 (ncl x), .rw (.slice ya b.length yk) b.length 1 (ncl b), .rw (.slice xa a.length xk) a.length 1 (ncl a)] w3) := Lib.hid (E2.out.below hb)
  clear E2 hb
  go_wp2_with fail
  refine (rValN_c q a (E3.out.fc 3 rfl) hpa.out).mono ?_
  rintro e w4 ⟨rfl, hb⟩
  have E4 : Hid (Env D w [] [.rw (.slice yya y.length yyk) y.length 1 (ncl y), .rw (.slice xxa x.length xxk) x.length 1 (ncl x), .rw (.slice ya b.length yk) b.length 1 (ncl b), .rw (.slice xa a.length xk) a.length 1 (ncl a)] w4) := Lib.hid (E3.out.below hb)
  clear E3 hb
  go_wp2_with fail
  refine (rValN_c q b (E4.out.fc 2 rfl) hpb.out).mono ?_
  rintro e w5 ⟨rfl, hb⟩
  have E5 : Hid (Env D w [] [.rw (.slice yya y.length yyk) y.length 1 (ncl y), .rw (.slice xxa x.length xxk) x.length 1 (ncl x), .rw (.slice ya b.length yk) b.length 1 (ncl b), .rw (.slice xa a.length xk) a.length 1 (ncl a)] w5) := Lib.hid (E4.out.below hb)
  clear E4 hb
  go_wp2_with fail
  refine (rDiv_xy q a b x y (E5.out.fc 3 rfl) (E5.out.fc 2 rfl) hq1 HT.out ha.out hb.out (by omega) (by omega) hz hg.out lead hlq.out hle.out HX.out HY.out).mono ?_
  rintro e w6 ⟨⟨ua, uk, va, vk, rfl, uh, vh⟩, hb⟩
  have E6 : Hid (Env D w [] [.rw (.slice va y.length vk) y.length 1 (ncl y), .rw (.slice ua x.length uk) x.length 1 (ncl x), .rw (.slice yya y.length yyk) y.length 1 (ncl y), .rw (.slice xxa x.length xxk) x.length 1 (ncl x), .rw (.slice ya b.length yk) b.length 1 (ncl b), .rw (.slice xa a.length xk) a.length 1 (ncl a)] w6) := Lib.hid (E5.out.got (E5.out.got (E5.out.below hb) (.rw (.slice ua x.length uk) x.length 1 (ncl x)) (Lib.hid (Rw.up hDD.out uh.out)).out) (.rw (.slice va y.length vk) y.length 1 (ncl y)) (Lib.hid (Rw.up hDD.out vh.out)).out)
  clear E5 hb
  go_wp2_with fail
  refine (equalN_c (t := true) (a := x) (b := x) (E6.out.fc 3 rfl) (E6.out.fc 1 rfl) HXL.out HXL.out (by simp)).mono ?_
  rintro e w7 ⟨rfl, hb⟩
  have E7 : Hid (Env D w [] [.rw (.slice va y.length vk) y.length 1 (ncl y), .rw (.slice ua x.length uk) x.length 1 (ncl x), .rw (.slice yya y.length yyk) y.length 1 (ncl y), .rw (.slice xxa x.length xxk) x.length 1 (ncl x), .rw (.slice ya b.length yk) b.length 1 (ncl b), .rw (.slice xa a.length xk) a.length 1 (ncl a)] w7) := Lib.hid (E6.out.below hb)
  clear E6 hb
  go_wp2_with fail
  refine (equalN_c (t := true) (a := y) (b := y) (E7.out.fc 2 rfl) (E7.out.fc 0 rfl) HYL.out HYL.out (by simp)).mono ?_
  rintro e w8 ⟨rfl, hb⟩
  have E8 : Hid (Env D w [] [.rw (.slice va y.length vk) y.length 1 (ncl y), .rw (.slice ua x.length uk) x.length 1 (ncl x), .rw (.slice yya y.length yyk) y.length 1 (ncl y), .rw (.slice xxa x.length xxk) x.length 1 (ncl x), .rw (.slice ya b.length yk) b.length 1 (ncl b), .rw (.slice xa a.length xk) a.length 1 (ncl a)] w8) := Lib.hid (E7.out.below hb)
  clear E7 hb
  have hfin := Lib.hid E8.out.bel
  go_wp2
  go_ret
  exact ⟨rfl, hfin.out⟩
theorem PolyDivides_walk {D : Nat → Prop} (q : Int) (a b : List Int) {xa ya : Option Addr} {xk yk : Nat} {w : World} (hx : Fct.at w D (.rw (.slice xa a.length xk) a.length 1 (icl a))) (hy : Fct.at w D (.rw (.slice ya b.length yk) b.length 1 (icl b))) (hl : Laid w) (hn : -9223372036854775808 ≤ q ∧ q ≤ 9223372036854775807) :
    Calls Tryd.prog 6 #[.int .i64 q, .slice xa a.length xk, .slice ya b.length yk] w fun e w' => e = .returned (.bool true) ∧ Below w.heap.size w w' := by
  by_cases h1 : 60 < a.length
  · exact pd_a q a b hx hy hl hn h1
  by_cases h2 : 60 < b.length
  · exact pd_b q a b hx hy hl hn (by omega) h2
  have g1 : a.length ≤ 60 := by omega
  have g2 : b.length ≤ 60 := by omega
  cases hf : fieldB q with
  | false => exact pd_c q a b hx hy hl hn g1 g2 hf
  | true =>
    cases ha : polyB q a with
    | false => exact pd_d q a b hx hy hl hn g1 g2 hf ha
    | true =>
      cases hb : polyB q b with
      | false => exact pd_e q a b hx hy hl hn g1 g2 hf ha hb
      | true =>
        by_cases hz : b.length = 0
        · exact pd_z q a b hx hy hl hn g1 hz hf ha hb
        obtain ⟨n, rfl, hn2, hT⟩ := fieldB_pos hf
        obtain ⟨m, rfl, hm⟩ := all_nl (poly_res ha)
        obtain ⟨k, rfl, hk⟩ := all_nl (poly_res hb)
        have hx' := Rw.tr hx
        have hy' := Rw.tr hy
        rw [nl_len] at g1 g2 hx' ⊢
        rw [nl_len] at hy' hz ⊢
        have hk2 : ∀ c ∈ k, c < n := fun c hc => Int.ofNat_lt.1 (hk c hc)
        obtain ⟨hg, ld, hl1, hl2⟩ := lead_ex (field_prime hf) hk2 (by omega) (polyB_lastD hb)
        exact pd_f (D := fun _ => True) n m k hx' hy' (fun _ => trivial) hl (by omega) hT g1 g2 (by omega) hf (fun c hc => Int.ofNat_lt.1 (hm c hc)) hk2 ha hb hg ld hl1 hl2
end Go.Proofs.YteipbcpnnojclaaDoor

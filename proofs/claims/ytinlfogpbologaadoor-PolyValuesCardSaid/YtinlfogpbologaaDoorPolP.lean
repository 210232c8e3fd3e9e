/- poly: the law PolyValues. -/
import Derived.Test.YtinlfogpbologaaDoorPolN
import Derived.Test.YtinlfogpbologaaDoorPolO
namespace Go.Proofs.YtinlfogpbologaaDoor
open Go.RowKit DivMath WordMath
set_option linter.unusedVariables false
set_option linter.unusedSimpArgs false
theorem valid1 {q : Int} {a : List Int} : validB q [a] = (fieldB q && polyB q a) := by unfold validB; simp
theorem EvalV {D : Nat → Prop} (q : Nat) (l : List Nat) (x : Nat) {xa : Option Addr} {xk : Nat} {w : World} (hx : Fct.at w D (.rw (.slice xa l.length xk) l.length 1 (ncl l))) (hl : Laid w) (hqT : (q : Int) < Top) (hv : validB q [nl l] = true) (hlen : l.length ≤ 1000) (hr : ∀ c ∈ l, c < q) (hxq : (x : Int) < (q : Int)) {v : Nat} (h : evN q x l = v) :
    Calls Tryd.prog 16 #[.int .i64 (q : Nat), .slice xa l.length xk, .int .i64 (x : Nat)] w fun e w' => e = .returned (.tuple #[.int .i64 (v : Nat), .int .i64 0]) ∧ Below w.heap.size w w' := by
  subst h; exact Eval_ok q l x hx hl hqT hv hlen hr hxq
theorem AddV (a b m : Nat) (w : World) (ha : (a : Int) < (m : Int)) (hb : (b : Int) < (m : Int)) (hm : (m : Int) < Top) {v : Nat} (h : v = (a + b) % m) :
    Calls Tryd.prog 28 #[.int .i64 a, .int .i64 b, .int .i64 m] w fun e w' => e = .returned (.tuple #[.int .i64 (v : Nat), .int .i64 0]) ∧ Below w.heap.size w w' :=
  (Add_ok a b m w ha hb hm).mono fun e w' ⟨⟨r, hr, he⟩, h2⟩ => by
    obtain rfl : r = v := by rw [hr.out, h]
    exact ⟨he, h2.below⟩
theorem MulV (a b m : Nat) (w : World) (ha : (a : Int) < (m : Int)) (hb : (b : Int) < (m : Int)) (hm : (m : Int) < Top) {v : Nat} (h : v = a * b % m) :
    Calls Tryd.prog 29 #[.int .i64 a, .int .i64 b, .int .i64 m] w fun e w' => e = .returned (.tuple #[.int .i64 (v : Nat), .int .i64 0]) ∧ Below w.heap.size w w' :=
  (Mul_ok a b m w ha hb hm).mono fun e w' ⟨⟨r, hr, he⟩, h2⟩ => by
    obtain rfl : r = v := by rw [hr.out, h]
    exact ⟨he, h2.below⟩
/-- whatever the polynomial: a pair of numbers comes back -/
theorem Eval_any {D : Nat → Prop} (q : Int) (l : List Int) (x : Int) {xa : Option Addr} {xk : Nat} {w : World} (hx : Fct.at w D (.rw (.slice xa l.length xk) l.length 1 (icl l))) (hl : Laid w) (hn : -9223372036854775808 ≤ q ∧ q ≤ 9223372036854775807) :
    Calls Tryd.prog 16 #[.int .i64 q, .slice xa l.length xk, .int .i64 x] w fun e w' => (∃ y c : Int, e = .returned (.tuple #[.int .i64 y, .int .i64 c])) ∧ Below w.heap.size w w' := by
  cases hv : validB q [l] with
  | false => exact (Eval_no q l x hx hl hn hv).mono fun e w' ⟨h1, h2⟩ => ⟨⟨0, 1, h1⟩, h2⟩
  | true =>
    cases hr : resB q x with
    | false => exact (Eval_range q l x hx hl hn hv hr).mono fun e w' ⟨h1, h2⟩ => ⟨⟨0, 2, h1⟩, h2⟩
    | true =>
      rw [valid1] at hv
      have hv0 := hv
      simp only [Bool.and_eq_true] at hv
      obtain ⟨n, rfl, hn2, hT⟩ := fieldB_pos hv.1
      obtain ⟨m, rfl, hm⟩ := all_nl (poly_res hv.2)
      have hx' : Fct.at w D (.rw (.slice xa m.length xk) m.length 1 (ncl m)) := by have h := hx; rw [nl_len] at h; exact h
      unfold resB at hr
      simp only [Bool.and_eq_true, decide_eq_true_eq] at hr
      obtain ⟨y, rfl⟩ : ∃ y : Nat, x = (y : Int) := ⟨x.toNat, by omega⟩
      have hlen : m.length ≤ 1000 := by
        have := hv.2
        unfold polyB at this
        simp only [Bool.and_eq_true, decide_eq_true_eq, nl_len] at this
        exact this.1
      rw [nl_len]
      exact (Eval_ok n m y hx' hl hT (by rw [valid1]; exact hv0) hlen (fun c hc => Int.ofNat_lt.1 (hm c hc)) hr.2).mono fun e w' ⟨h1, h2⟩ => ⟨⟨_, _, h1⟩, h2⟩
set_option maxRecDepth 100000 in
set_option maxHeartbeats 2000000 in
theorem pv_a {D : Nat → Prop} (q : Int) (a b : List Int) (x : Int) {xa ya : Option Addr} {xk yk : Nat} {w : World} (hx : Fct.at w D (.rw (.slice xa a.length xk) a.length 1 (icl a))) (hy : Fct.at w D (.rw (.slice ya b.length yk) b.length 1 (icl b))) (hl0 : Laid w) (hn : -9223372036854775808 ≤ q ∧ q ≤ 9223372036854775807) (h1 : 60 < a.length) :
    Calls Tryd.prog 5 #[.int .i64 q, .slice xa a.length xk, .slice ya b.length yk, .int .i64 x] w fun e w' => e = .returned (.bool true) ∧ Below w.heap.size w w' := by
  have E0 : Hid (Env D w [] [.rw (.slice ya b.length yk) b.length 1 (icl b), .rw (.slice xa a.length xk) a.length 1 (icl a)] w) := Lib.hid (((Env.start D w).arg (.rw (.slice xa a.length xk) a.length 1 (icl a)) hx).arg (.rw (.slice ya b.length yk) b.length 1 (icl b)) hy)
  clear hx hy
  go_enter Tryd.func5, Tryd.ntmps5
  have hl := Lib.hid hl0
  clear hl0
  go_wp2_with fail
  refine (awake13_c (hl.out.below E0.out.bel)).mono ?_
  rintro e w1 ⟨rfl, hb⟩
  have E1 : Hid (Env D w [] [.rw (.slice ya b.length yk) b.length 1 (icl b), .rw (.slice xa a.length xk) a.length 1 (icl a)] w1) := Lib.hid (E0.out.below hb)
  clear E0 hb
  have d1 : decide ((60 : Int) < (a.length : Int)) = true := decide_eq_true (by omega)
  have d1n : decide (60 < a.length) = true := decide_eq_true (by omega)
  have hfin := Lib.hid E1.out.bel
  go_wp2
  go_ret
  exact ⟨rfl, hfin.out⟩
set_option maxRecDepth 100000 in
set_option maxHeartbeats 2000000 in
theorem pv_b {D : Nat → Prop} (q : Int) (a b : List Int) (x : Int) {xa ya : Option Addr} {xk yk : Nat} {w : World} (hx : Fct.at w D (.rw (.slice xa a.length xk) a.length 1 (icl a))) (hy : Fct.at w D (.rw (.slice ya b.length yk) b.length 1 (icl b))) (hl0 : Laid w) (hn : -9223372036854775808 ≤ q ∧ q ≤ 9223372036854775807) (h1 : a.length ≤ 60) (h2 : 60 < b.length) :
    Calls Tryd.prog 5 #[.int .i64 q, .slice xa a.length xk, .slice ya b.length yk, .int .i64 x] w fun e w' => e = .returned (.bool true) ∧ Below w.heap.size w w' := by
  have E0 : Hid (Env D w [] [.rw (.slice ya b.length yk) b.length 1 (icl b), .rw (.slice xa a.length xk) a.length 1 (icl a)] w) := Lib.hid (((Env.start D w).arg (.rw (.slice xa a.length xk) a.length 1 (icl a)) hx).arg (.rw (.slice ya b.length yk) b.length 1 (icl b)) hy)
  clear hx hy
  go_enter Tryd.func5, Tryd.ntmps5
  have hl := Lib.hid hl0
  clear hl0
  go_wp2_with fail
  refine (awake13_c (hl.out.below E0.out.bel)).mono ?_
  rintro e w1 ⟨rfl, hb⟩
  have E1 : Hid (Env D w [] [.rw (.slice ya b.length yk) b.length 1 (icl b), .rw (.slice xa a.length xk) a.length 1 (icl a)] w1) := Lib.hid (E0.out.below hb)
  clear E0 hb
  have d1 : decide ((60 : Int) < (a.length : Int)) = false := decide_eq_false (by omega)
  have d1n : decide (60 < a.length) = false := decide_eq_false (by omega)
  have d2 : decide ((60 : Int) < (b.length : Int)) = true := decide_eq_true (by omega)
  have d2n : decide (60 < b.length) = true := decide_eq_true (by omega)
  have hfin := Lib.hid E1.out.bel
  go_wp2
  go_ret
  exact ⟨rfl, hfin.out⟩
set_option maxRecDepth 100000 in
set_option maxHeartbeats 2000000 in
theorem pv_c {D : Nat → Prop} (q : Int) (a b : List Int) (x : Int) {xa ya : Option Addr} {xk yk : Nat} {w : World} (hx : Fct.at w D (.rw (.slice xa a.length xk) a.length 1 (icl a))) (hy : Fct.at w D (.rw (.slice ya b.length yk) b.length 1 (icl b))) (hl0 : Laid w) (hn : -9223372036854775808 ≤ q ∧ q ≤ 9223372036854775807) (h1 : a.length ≤ 60) (h2 : b.length ≤ 60) (hv0 : validB q [a] = false) :
    Calls Tryd.prog 5 #[.int .i64 q, .slice xa a.length xk, .slice ya b.length yk, .int .i64 x] w fun e w' => e = .returned (.bool true) ∧ Below w.heap.size w w' := by
  have E0 : Hid (Env D w [] [.rw (.slice ya b.length yk) b.length 1 (icl b), .rw (.slice xa a.length xk) a.length 1 (icl a)] w) := Lib.hid (((Env.start D w).arg (.rw (.slice xa a.length xk) a.length 1 (icl a)) hx).arg (.rw (.slice ya b.length yk) b.length 1 (icl b)) hy)
  clear hx hy
  go_enter Tryd.func5, Tryd.ntmps5
  have hl := Lib.hid hl0
  have hv := Lib.hid hv0
  clear hl0 hv0
  go_wp2_with fail
  refine (awake13_c (hl.out.below E0.out.bel)).mono ?_
  rintro e w1 ⟨rfl, hb⟩
  have E1 : Hid (Env D w [] [.rw (.slice ya b.length yk) b.length 1 (icl b), .rw (.slice xa a.length xk) a.length 1 (icl a)] w1) := Lib.hid (E0.out.below hb)
  clear E0 hb
  have d1 : decide ((60 : Int) < (a.length : Int)) = false := decide_eq_false (by omega)
  have d1n : decide (60 < a.length) = false := decide_eq_false (by omega)
  have d2 : decide ((60 : Int) < (b.length : Int)) = false := decide_eq_false (by omega)
  have d2n : decide (60 < b.length) = false := decide_eq_false (by omega)
  go_wp2_with fail
  refine (Eval_no q a x (E1.out.fc 1 rfl) (hl.out.below E1.out.bel) hn hv.out).mono ?_
  rintro e w2 ⟨rfl, hb⟩
  have E2 : Hid (Env D w [] [.rw (.slice ya b.length yk) b.length 1 (icl b), .rw (.slice xa a.length xk) a.length 1 (icl a)] w2) := Lib.hid (E1.out.below hb)
  clear E1 hb
  go_wp2_with fail
  refine (Eval_any q b x (E2.out.fc 0 rfl) (hl.out.below E2.out.bel) hn).mono ?_
  rintro e w3 ⟨⟨zy, zc, rfl⟩, hb⟩
  have E3 : Hid (Env D w [] [.rw (.slice ya b.length yk) b.length 1 (icl b), .rw (.slice xa a.length xk) a.length 1 (icl a)] w3) := Lib.hid (E2.out.below hb)
  clear E2 hb
  have hfin := Lib.hid E3.out.bel
  go_wp2
  go_ret
  exact ⟨rfl, hfin.out⟩
set_option maxRecDepth 100000 in
set_option maxHeartbeats 2000000 in
theorem pv_d {D : Nat → Prop} (q : Int) (a b : List Int) (x : Int) {xa ya : Option Addr} {xk yk : Nat} {w : World} (hx : Fct.at w D (.rw (.slice xa a.length xk) a.length 1 (icl a))) (hy : Fct.at w D (.rw (.slice ya b.length yk) b.length 1 (icl b))) (hl0 : Laid w) (hn : -9223372036854775808 ≤ q ∧ q ≤ 9223372036854775807) (h1 : a.length ≤ 60) (h2 : b.length ≤ 60) (hv0 : validB q [a] = true) (hr0 : resB q x = false) :
    Calls Tryd.prog 5 #[.int .i64 q, .slice xa a.length xk, .slice ya b.length yk, .int .i64 x] w fun e w' => e = .returned (.bool true) ∧ Below w.heap.size w w' := by
  have E0 : Hid (Env D w [] [.rw (.slice ya b.length yk) b.length 1 (icl b), .rw (.slice xa a.length xk) a.length 1 (icl a)] w) := Lib.hid (((Env.start D w).arg (.rw (.slice xa a.length xk) a.length 1 (icl a)) hx).arg (.rw (.slice ya b.length yk) b.length 1 (icl b)) hy)
  clear hx hy
  go_enter Tryd.func5, Tryd.ntmps5
  have hl := Lib.hid hl0
  have hv := Lib.hid hv0
  have hr := Lib.hid hr0
  clear hl0 hv0 hr0
  go_wp2_with fail
  refine (awake13_c (hl.out.below E0.out.bel)).mono ?_
  rintro e w1 ⟨rfl, hb⟩
  have E1 : Hid (Env D w [] [.rw (.slice ya b.length yk) b.length 1 (icl b), .rw (.slice xa a.length xk) a.length 1 (icl a)] w1) := Lib.hid (E0.out.below hb)
  clear E0 hb
  have d1 : decide ((60 : Int) < (a.length : Int)) = false := decide_eq_false (by omega)
  have d1n : decide (60 < a.length) = false := decide_eq_false (by omega)
  have d2 : decide ((60 : Int) < (b.length : Int)) = false := decide_eq_false (by omega)
  have d2n : decide (60 < b.length) = false := decide_eq_false (by omega)
  go_wp2_with fail
  refine (Eval_range q a x (E1.out.fc 1 rfl) (hl.out.below E1.out.bel) hn hv.out hr.out).mono ?_
  rintro e w2 ⟨rfl, hb⟩
  have E2 : Hid (Env D w [] [.rw (.slice ya b.length yk) b.length 1 (icl b), .rw (.slice xa a.length xk) a.length 1 (icl a)] w2) := Lib.hid (E1.out.below hb)
  clear E1 hb
  go_wp2_with fail
  refine (Eval_any q b x (E2.out.fc 0 rfl) (hl.out.below E2.out.bel) hn).mono ?_
  rintro e w3 ⟨⟨zy, zc, rfl⟩, hb⟩
  have E3 : Hid (Env D w [] [.rw (.slice ya b.length yk) b.length 1 (icl b), .rw (.slice xa a.length xk) a.length 1 (icl a)] w3) := Lib.hid (E2.out.below hb)
  clear E2 hb
  have hfin := Lib.hid E3.out.bel
  go_wp2
  go_ret
  exact ⟨rfl, hfin.out⟩
set_option maxRecDepth 100000 in
set_option maxHeartbeats 4000000 in
theorem pv_e {D : Nat → Prop} (q : Nat) (a : List Nat) (b : List Int) (x : Nat) {xa ya : Option Addr} {xk yk : Nat} {w : World} (hx : Fct.at w D (.rw (.slice xa a.length xk) a.length 1 (ncl a))) (hy : Fct.at w D (.rw (.slice ya b.length yk) b.length 1 (icl b))) (hl0 : Laid w) (hq : 0 < q) (hqT : (q : Int) < Top) (h1 : a.length ≤ 60) (h2 : b.length ≤ 60) (hf0 : fieldB q = true) (ha0 : ∀ c ∈ a, c < q) (hpa0 : polyB (q : Int) (nl a) = true) (hxq : (x : Int) < (q : Int)) (hv0 : validB (q : Int) [b] = false) :
    Calls Tryd.prog 5 #[.int .i64 (q : Nat), .slice xa a.length xk, .slice ya b.length yk, .int .i64 (x : Nat)] w fun e w' => e = .returned (.bool true) ∧ Below w.heap.size w w' := by
  have E0 : Hid (Env D w [] [.rw (.slice ya b.length yk) b.length 1 (icl b), .rw (.slice xa a.length xk) a.length 1 (ncl a)] w) := Lib.hid (((Env.start D w).arg (.rw (.slice xa a.length xk) a.length 1 (ncl a)) hx).arg (.rw (.slice ya b.length yk) b.length 1 (icl b)) hy)
  clear hx hy
  go_enter Tryd.func5, Tryd.ntmps5
  have hn : -9223372036854775808 ≤ (q : Int) ∧ (q : Int) ≤ 9223372036854775807 := by unfold Top at hqT; omega
  have HT := Lib.hid hqT
  clear hqT
  have hl := Lib.hid hl0
  have hf := Lib.hid hf0
  have ha := Lib.hid ha0
  have hpa := Lib.hid hpa0
  have hv := Lib.hid hv0
  clear hl0 hf0 ha0 hpa0 hv0
  have HVA : Hid (validB (q : Int) [nl a] = true) := Lib.hid (by rw [valid1, hf.out, hpa.out]; rfl)
  obtain ⟨ea, hea⟩ : ∃ ea, evN q x a = ea := ⟨_, rfl⟩
  have HEA := Lib.hid hea
  clear hea
  go_wp2_with fail
  refine (awake13_c (hl.out.below E0.out.bel)).mono ?_
  rintro e w1 ⟨rfl, hb⟩
  have E1 : Hid (Env D w [] [.rw (.slice ya b.length yk) b.length 1 (icl b), .rw (.slice xa a.length xk) a.length 1 (ncl a)] w1) := Lib.hid (E0.out.below hb)
  clear E0 hb
  have d1 : decide ((60 : Int) < (a.length : Int)) = false := decide_eq_false (by omega)
  have d1n : decide (60 < a.length) = false := decide_eq_false (by omega)
  have d2 : decide ((60 : Int) < (b.length : Int)) = false := decide_eq_false (by omega)
  have d2n : decide (60 < b.length) = false := decide_eq_false (by omega)
  go_wp2_with fail
  refine (EvalV q a x (E1.out.fc 1 rfl) (hl.out.below E1.out.bel) HT.out HVA.out (by omega) ha.out hxq HEA.out).mono ?_
  rintro e w2 ⟨rfl, hb⟩
  have E2 : Hid (Env D w [] [.rw (.slice ya b.length yk) b.length 1 (icl b), .rw (.slice xa a.length xk) a.length 1 (ncl a)] w2) := Lib.hid (E1.out.below hb)
  clear E1 hb
  go_wp2_with fail
  refine (Eval_no q b x (E2.out.fc 0 rfl) (hl.out.below E2.out.bel) hn hv.out).mono ?_
  rintro e w3 ⟨rfl, hb⟩
  have E3 : Hid (Env D w [] [.rw (.slice ya b.length yk) b.length 1 (icl b), .rw (.slice xa a.length xk) a.length 1 (ncl a)] w3) := Lib.hid (E2.out.below hb)
  clear E2 hb
  have hfin := Lib.hid E3.out.bel
  go_wp2
  go_ret
  exact ⟨rfl, hfin.out⟩
set_option maxRecDepth 100000 in
set_option maxHeartbeats 4000000 in
theorem pv_f {D : Nat → Prop} (q : Nat) (a : List Nat) (b : List Nat) (x : Nat) {xa ya : Option Addr} {xk yk : Nat} {w : World} (hx : Fct.at w D (.rw (.slice xa a.length xk) a.length 1 (ncl a))) (hy : Fct.at w D (.rw (.slice ya b.length yk) b.length 1 (ncl b))) (hl0 : Laid w) (hq : 0 < q) (hqT : (q : Int) < Top) (h1 : a.length ≤ 60) (h2 : b.length ≤ 60) (hf0 : fieldB q = true) (ha0 : ∀ c ∈ a, c < q) (hpa0 : polyB (q : Int) (nl a) = true) (hxq : (x : Int) < (q : Int)) (hb0 : ∀ c ∈ b, c < q) (hpb0 : polyB (q : Int) (nl b) = true) :
    Calls Tryd.prog 5 #[.int .i64 (q : Nat), .slice xa a.length xk, .slice ya b.length yk, .int .i64 (x : Nat)] w fun e w' => e = .returned (.bool true) ∧ Below w.heap.size w w' := by
  have E0 : Hid (Env D w [] [.rw (.slice ya b.length yk) b.length 1 (ncl b), .rw (.slice xa a.length xk) a.length 1 (ncl a)] w) := Lib.hid (((Env.start D w).arg (.rw (.slice xa a.length xk) a.length 1 (ncl a)) hx).arg (.rw (.slice ya b.length yk) b.length 1 (ncl b)) hy)
  clear hx hy
  go_enter Tryd.func5, Tryd.ntmps5
  have hn : -9223372036854775808 ≤ (q : Int) ∧ (q : Int) ≤ 9223372036854775807 := by unfold Top at hqT; omega
  have HT := Lib.hid hqT
  clear hqT
  have hl := Lib.hid hl0
  have hf := Lib.hid hf0
  have ha := Lib.hid ha0
  have hpa := Lib.hid hpa0
  have hb := Lib.hid hb0
  have hpb := Lib.hid hpb0
  clear hl0 hf0 ha0 hpa0 hb0 hpb0
  have HVA : Hid (validB (q : Int) [nl a] = true) := Lib.hid (by rw [valid1, hf.out, hpa.out]; rfl)
  obtain ⟨ea, hea⟩ : ∃ ea, evN q x a = ea := ⟨_, rfl⟩
  have HEA := Lib.hid hea
  clear hea
  go_wp2_with fail
  refine (awake13_c (hl.out.below E0.out.bel)).mono ?_
  rintro e w1 ⟨rfl, hb⟩
  have E1 : Hid (Env D w [] [.rw (.slice ya b.length yk) b.length 1 (ncl b), .rw (.slice xa a.length xk) a.length 1 (ncl a)] w1) := Lib.hid (E0.out.below hb)
  clear E0 hb
  have d1 : decide ((60 : Int) < (a.length : Int)) = false := decide_eq_false (by omega)
  have d1n : decide (60 < a.length) = false := decide_eq_false (by omega)
  have d2 : decide ((60 : Int) < (b.length : Int)) = false := decide_eq_false (by omega)
  have d2n : decide (60 < b.length) = false := decide_eq_false (by omega)
  go_wp2_with fail
  refine (EvalV q a x (E1.out.fc 1 rfl) (hl.out.below E1.out.bel) HT.out HVA.out (by omega) ha.out hxq HEA.out).mono ?_
  rintro e w2 ⟨rfl, hb⟩
  have E2 : Hid (Env D w [] [.rw (.slice ya b.length yk) b.length 1 (ncl b), .rw (.slice xa a.length xk) a.length 1 (ncl a)] w2) := Lib.hid (E1.out.below hb)
  clear E1 hb
  have HVB : Hid (validB (q : Int) [nl b] = true) := Lib.hid (by rw [valid1, hf.out, hpb.out]; rfl)
  have HV : Hid (validB (q : Int) [nl a, nl b] = true) := Lib.hid (by rw [valid2, hf.out, hpa.out, hpb.out]; rfl)
  obtain ⟨eb, heb⟩ : ∃ eb, evN q x b = eb := ⟨_, rfl⟩
  have HEB := Lib.hid heb
  clear heb
  obtain ⟨es, hes⟩ : ∃ es, evN q x (trimN (addL q a b)) = es := ⟨_, rfl⟩
  have HES := Lib.hid hes
  clear hes
  obtain ⟨ep, hep⟩ : ∃ ep, evN q x (trimN (mulL q a b)) = ep := ⟨_, rfl⟩
  have HEP := Lib.hid hep
  clear hep
  have HSE : Hid (es = (ea + eb) % q) := Lib.hid (by rw [← HES.out, ← HEA.out, ← HEB.out]; exact ev_sum q x a b)
  have HPE : Hid (ep = ea * eb % q) := Lib.hid (by rw [← HEP.out, ← HEA.out, ← HEB.out]; exact ev_product q x a b)
  have HLS : Hid ((addL q a b).length ≤ 1000) := Lib.hid (by rw [addL_len]; omega)
  have HLP : Hid ((mulL q a b).length ≤ 1000) := Lib.hid (Nat.le_trans (mulL_le _ _ _) (by omega))
  have HVS : Hid (validB (q : Int) [nl (trimN (addL q a b))] = true) := Lib.hid (by rw [valid1, hf.out, poly_trim HLS.out (addL_lt hq _ _)]; rfl)
  have HVP : Hid (validB (q : Int) [nl (trimN (mulL q a b))] = true) := Lib.hid (by rw [valid1, hf.out, poly_trim HLP.out (mulL_lt hq _ _)]; rfl)
  have heaq : (ea : Int) < (q : Int) := by rw [← HEA.out]; exact Int.ofNat_lt.2 (evN_lt hq _)
  have hebq : (eb : Int) < (q : Int) := by rw [← HEB.out]; exact Int.ofNat_lt.2 (evN_lt hq _)
  go_wp2_with fail
  refine (EvalV q b x (E2.out.fc 0 rfl) (hl.out.below E2.out.bel) HT.out HVB.out (by omega) hb.out hxq HEB.out).mono ?_
  rintro e w3 ⟨rfl, hb⟩
  have E3 : Hid (Env D w [] [.rw (.slice ya b.length yk) b.length 1 (ncl b), .rw (.slice xa a.length xk) a.length 1 (ncl a)] w3) := Lib.hid (E2.out.below hb)
  clear E2 hb
  go_wp2_with fail
  refine (PAdd_ok q a b (E3.out.fc 1 rfl) (E3.out.fc 0 rfl) (hl.out.below E3.out.bel) HV.out hq HT.out ha.out hb.out (by omega) (by omega)).mono ?_
  rintro e w4 ⟨⟨sa, sk, rfl, sh⟩, hb⟩
  have E4 : Hid (Env D w [] [.rw (.slice sa (trimN (addL q a b)).length sk) (trimN (addL q a b)).length 1 (ncl (trimN (addL q a b))), .rw (.slice ya b.length yk) b.length 1 (ncl b), .rw (.slice xa a.length xk) a.length 1 (ncl a)] w4) := Lib.hid (E3.out.got (E3.out.below hb) (.rw (.slice sa (trimN (addL q a b)).length sk) (trimN (addL q a b)).length 1 (ncl (trimN (addL q a b)))) (Lib.hid (Rw.ge sh.out)).out)
  clear E3 hb
  go_wp2_with fail
  refine (PMul_ok q a b (E4.out.fc 2 rfl) (E4.out.fc 1 rfl) (hl.out.below E4.out.bel) HV.out hq HT.out ha.out hb.out (by omega) (by omega) (by omega)).mono ?_
  rintro e w5 ⟨⟨pa, pk, rfl, ph⟩, hb⟩
  have E5 : Hid (Env D w [] [.rw (.slice pa (trimN (mulL q a b)).length pk) (trimN (mulL q a b)).length 1 (ncl (trimN (mulL q a b))), .rw (.slice sa (trimN (addL q a b)).length sk) (trimN (addL q a b)).length 1 (ncl (trimN (addL q a b))), .rw (.slice ya b.length yk) b.length 1 (ncl b), .rw (.slice xa a.length xk) a.length 1 (ncl a)] w5) := Lib.hid (E4.out.got (E4.out.below hb) (.rw (.slice pa (trimN (mulL q a b)).length pk) (trimN (mulL q a b)).length 1 (ncl (trimN (mulL q a b)))) (Lib.hid (Rw.ge ph.out)).out)
  clear E4 hb
  go_wp2_with fail
  refine (EvalV q (trimN (addL q a b)) x (E5.out.fc 1 rfl) (hl.out.below E5.out.bel) HT.out HVS.out (Nat.le_trans (trimN_len _) HLS.out) (trimN_lt (addL_lt hq _ _)) hxq HES.out).mono ?_
  rintro e w6 ⟨rfl, hb⟩
  have E6 : Hid (Env D w [] [.rw (.slice pa (trimN (mulL q a b)).length pk) (trimN (mulL q a b)).length 1 (ncl (trimN (mulL q a b))), .rw (.slice sa (trimN (addL q a b)).length sk) (trimN (addL q a b)).length 1 (ncl (trimN (addL q a b))), .rw (.slice ya b.length yk) b.length 1 (ncl b), .rw (.slice xa a.length xk) a.length 1 (ncl a)] w6) := Lib.hid (E5.out.below hb)
  clear E5 hb
  go_wp2_with fail
  refine (EvalV q (trimN (mulL q a b)) x (E6.out.fc 0 rfl) (hl.out.below E6.out.bel) HT.out HVP.out (Nat.le_trans (trimN_len _) HLP.out) (trimN_lt (mulL_lt hq _ _)) hxq HEP.out).mono ?_
  rintro e w7 ⟨rfl, hb⟩
  have E7 : Hid (Env D w [] [.rw (.slice pa (trimN (mulL q a b)).length pk) (trimN (mulL q a b)).length 1 (ncl (trimN (mulL q a b))), .rw (.slice sa (trimN (addL q a b)).length sk) (trimN (addL q a b)).length 1 (ncl (trimN (addL q a b))), .rw (.slice ya b.length yk) b.length 1 (ncl b), .rw (.slice xa a.length xk) a.length 1 (ncl a)] w7) := Lib.hid (E6.out.below hb)
  clear E6 hb
  go_wp2_with fail
  refine (AddV ea eb q _ heaq hebq HT.out HSE.out).mono ?_
  rintro e w8 ⟨rfl, hb⟩
  have E8 : Hid (Env D w [] [.rw (.slice pa (trimN (mulL q a b)).length pk) (trimN (mulL q a b)).length 1 (ncl (trimN (mulL q a b))), .rw (.slice sa (trimN (addL q a b)).length sk) (trimN (addL q a b)).length 1 (ncl (trimN (addL q a b))), .rw (.slice ya b.length yk) b.length 1 (ncl b), .rw (.slice xa a.length xk) a.length 1 (ncl a)] w8) := Lib.hid (E7.out.below hb)
  clear E7 hb
  go_wp2_with fail
  refine (MulV ea eb q _ heaq hebq HT.out HPE.out).mono ?_
  rintro e w9 ⟨rfl, hb⟩
  have E9 : Hid (Env D w [] [.rw (.slice pa (trimN (mulL q a b)).length pk) (trimN (mulL q a b)).length 1 (ncl (trimN (mulL q a b))), .rw (.slice sa (trimN (addL q a b)).length sk) (trimN (addL q a b)).length 1 (ncl (trimN (addL q a b))), .rw (.slice ya b.length yk) b.length 1 (ncl b), .rw (.slice xa a.length xk) a.length 1 (ncl a)] w9) := Lib.hid (E8.out.below hb)
  clear E8 hb
  have hfin := Lib.hid E9.out.bel
  go_wp2
  go_ret
  exact ⟨rfl, hfin.out⟩
theorem PolyValues_walk {D : Nat → Prop} (q : Int) (a b : List Int) (x : Int) {xa ya : Option Addr} {xk yk : Nat} {w : World} (hx : Fct.at w D (.rw (.slice xa a.length xk) a.length 1 (icl a))) (hy : Fct.at w D (.rw (.slice ya b.length yk) b.length 1 (icl b))) (hl : Laid w) (hn : -9223372036854775808 ≤ q ∧ q ≤ 9223372036854775807) :
    Calls Tryd.prog 5 #[.int .i64 q, .slice xa a.length xk, .slice ya b.length yk, .int .i64 x] w fun e w' => e = .returned (.bool true) ∧ Below w.heap.size w w' := by
  by_cases h1 : 60 < a.length
  · exact pv_a q a b x hx hy hl hn h1
  by_cases h2 : 60 < b.length
  · exact pv_b q a b x hx hy hl hn (by omega) h2
  have g1 : a.length ≤ 60 := by omega
  have g2 : b.length ≤ 60 := by omega
  cases hv : validB q [a] with
  | false => exact pv_c q a b x hx hy hl hn g1 g2 hv
  | true =>
    cases hr : resB q x with
    | false => exact pv_d q a b x hx hy hl hn g1 g2 hv hr
    | true =>
      rw [valid1] at hv
      simp only [Bool.and_eq_true] at hv
      obtain ⟨n, rfl, hn2, hT⟩ := fieldB_pos hv.1
      obtain ⟨m, rfl, hm⟩ := all_nl (poly_res hv.2)
      have hx' : Fct.at w D (.rw (.slice xa m.length xk) m.length 1 (ncl m)) := by have h := hx; rw [nl_len] at h; exact h
      unfold resB at hr
      simp only [Bool.and_eq_true, decide_eq_true_eq] at hr
      obtain ⟨y, rfl⟩ : ∃ y : Nat, x = (y : Int) := ⟨x.toNat, by omega⟩
      rw [nl_len] at g1
      cases hw : validB (n : Int) [b] with
      | false => rw [nl_len]; exact pv_e n m b y hx' hy hl (by omega) hT g1 g2 hv.1 (fun c hc => Int.ofNat_lt.1 (hm c hc)) hv.2 hr.2 hw
      | true =>
        rw [valid1] at hw
        simp only [Bool.and_eq_true] at hw
        obtain ⟨k, rfl, hk⟩ := all_nl (poly_res hw.2)
        have hy' : Fct.at w D (.rw (.slice ya k.length yk) k.length 1 (ncl k)) := by have h := hy; rw [nl_len] at h; exact h
        rw [nl_len] at g2
        rw [nl_len, nl_len]
        exact pv_f n m k y hx' hy' hl (by omega) hT g1 g2 hv.1 (fun c hc => Int.ofNat_lt.1 (hm c hc)) hv.2 hr.2 (fun c hc => Int.ofNat_lt.1 (hk c hc)) hw.2
end Go.Proofs.YtinlfogpbologaaDoor

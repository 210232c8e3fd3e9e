/- poly: the law PolyEvals. -/
import Derived.Test.YtinlfogpbologaaDoorPolL
import Derived.Test.YtinlfogpbologaaDoorPolT
import Derived.Test.YtinlfogpbologaaDoorPolR
namespace Go.Proofs.YtinlfogpbologaaDoor
open Go.RowKit DivMath WordMath
set_option linter.unusedVariables false
set_option linter.unusedSimpArgs false
theorem all_nl {q : Int} {l : List Int} (h : l.all (resB q) = true) : ∃ m : List Nat, l = nl m ∧ ∀ c ∈ m, (c : Int) < q := by
  refine ⟨l.map Int.toNat, ?_, ?_⟩
  · unfold nl
    rw [List.map_map]
    conv => lhs; rw [← List.map_id l]
    refine List.map_congr_left fun x hx => ?_
    have := List.all_eq_true.1 h x hx
    unfold resB at this
    simp only [Bool.and_eq_true, decide_eq_true_eq] at this
    simp only [id_eq, Function.comp]
    omega
  · intro c hc
    obtain ⟨x, hx, rfl⟩ := List.mem_map.1 hc
    have := List.all_eq_true.1 h x hx
    unfold resB at this
    simp only [Bool.and_eq_true, decide_eq_true_eq] at this
    omega
theorem valid_of_field {q : Int} {L : List (List Int)} (h : fieldB q = false) : validB q L = false := by unfold validB; rw [h]; rfl
theorem poly_of_res {q : Int} {l : List Int} (h : l.all (resB q) = false) : polyB q l = false := by unfold polyB; rw [h]; simp
theorem valid_of_poly {q : Int} {l : List Int} (h : polyB q l = false) : validB q [l] = false := by unfold validB; simp [h]
theorem EvalN_no {D : Nat → Prop} (q : Int) (l : List Nat) (x : Int) {xa : Option Addr} {xk : Nat} {w : World} (hx : Fct.at w D (.rw (.slice xa l.length xk) l.length 1 (ncl l))) (hl : Laid w) (hn : -9223372036854775808 ≤ q ∧ q ≤ 9223372036854775807) (hv : validB q [nl l] = false) :
    Calls Tryd.prog 16 #[.int .i64 q, .slice xa l.length xk, .int .i64 x] w fun e w' => e = .returned (.tuple #[.int .i64 0, .int .i64 1]) ∧ Below w.heap.size w w' := by
  have := Eval_no (xa := xa) (xk := xk) (w := w) (D := D) q (nl l) x (by rw [nl_len]; exact hx) hl hn hv
  rw [nl_len] at this; exact this
theorem EvalN_range {D : Nat → Prop} (q : Int) (l : List Nat) (x : Int) {xa : Option Addr} {xk : Nat} {w : World} (hx : Fct.at w D (.rw (.slice xa l.length xk) l.length 1 (ncl l))) (hl : Laid w) (hn : -9223372036854775808 ≤ q ∧ q ≤ 9223372036854775807) (hv : validB q [nl l] = true) (hr : resB q x = false) :
    Calls Tryd.prog 16 #[.int .i64 q, .slice xa l.length xk, .int .i64 x] w fun e w' => e = .returned (.tuple #[.int .i64 0, .int .i64 2]) ∧ Below w.heap.size w w' := by
  have := Eval_range (xa := xa) (xk := xk) (w := w) (D := D) q (nl l) x (by rw [nl_len]; exact hx) hl hn hv hr
  rw [nl_len] at this; exact this
theorem rResN_c {D : Nat → Prop} (q : Int) (l : List Nat) {xa : Option Addr} {xk : Nat} {w : World} (hx : Fct.at w D (.rw (.slice xa l.length xk) l.length 1 (ncl l))) {t : Bool} (ht : (nl l).all (resB q) = t) (hm : l.length ≤ 1000000) :
    Calls Tryd.prog 19 #[.int .i64 q, .slice xa l.length xk] w fun e w' => e = .returned (.bool t) ∧ Below w.heap.size w w' := by
  have := rResidues_c (xa := xa) (xk := xk) (w := w) (D := D) q (nl l) (by rw [nl_len]; exact hx) ht (by rw [nl_len]; exact hm)
  rw [nl_len] at this; exact this
theorem rValN_c {D : Nat → Prop} (q : Int) (l : List Nat) {xa : Option Addr} {xk : Nat} {w : World} (hx : Fct.at w D (.rw (.slice xa l.length xk) l.length 1 (ncl l))) {t : Bool} (ht : polyB q (nl l) = t) :
    Calls Tryd.prog 22 #[.int .i64 q, .slice xa l.length xk] w fun e w' => e = .returned (.bool t) ∧ Below w.heap.size w w' := by
  have := rValid_c (xa := xa) (xk := xk) (w := w) (D := D) q (nl l) (by rw [nl_len]; exact hx) ht
  rw [nl_len] at this; exact this
set_option maxRecDepth 100000 in
set_option maxHeartbeats 2000000 in
theorem pe_a {D : Nat → Prop} (q : Int) (l : List Int) (x : Int) {xa : Option Addr} {xk : Nat} {w : World} (hx : Fct.at w D (.rw (.slice xa l.length xk) l.length 1 (icl l))) (hl0 : Laid w) (hn : -9223372036854775808 ≤ q ∧ q ≤ 9223372036854775807) (h1 : 100 < l.length) :
    Calls Tryd.prog 3 #[.int .i64 q, .slice xa l.length xk, .int .i64 x] w fun e w' => e = .returned (.bool true) ∧ Below w.heap.size w w' := by
  have E0 : Hid (Env D w [] [.rw (.slice xa l.length xk) l.length 1 (icl l)] w) := Lib.hid ((Env.start D w).arg (.rw (.slice xa l.length xk) l.length 1 (icl l)) hx)
  clear hx
  go_enter Tryd.func3, Tryd.ntmps3
  have hl := Lib.hid hl0
  clear hl0
  go_wp2_with fail
  refine (awake13_c (hl.out.below E0.out.bel)).mono ?_
  rintro e w1 ⟨rfl, hb⟩
  have E1 : Hid (Env D w [] [.rw (.slice xa l.length xk) l.length 1 (icl l)] w1) := Lib.hid (E0.out.below hb)
  clear E0 hb
  have d3 : decide ((100 : Int) < (l.length : Int)) = true := decide_eq_true (by omega)
  have d3n : decide (100 < l.length) = true := decide_eq_true h1
  have hfin := Lib.hid E1.out.bel
  go_wp2
  go_ret
  exact ⟨rfl, hfin.out⟩
set_option maxRecDepth 100000 in
set_option maxHeartbeats 2000000 in
theorem pe_b {D : Nat → Prop} (q : Int) (l : List Int) (x : Int) {xa : Option Addr} {xk : Nat} {w : World} (hx : Fct.at w D (.rw (.slice xa l.length xk) l.length 1 (icl l))) (hl0 : Laid w) (hn : -9223372036854775808 ≤ q ∧ q ≤ 9223372036854775807) (h1 : l.length ≤ 100) (hf0 : fieldB q = false) :
    Calls Tryd.prog 3 #[.int .i64 q, .slice xa l.length xk, .int .i64 x] w fun e w' => e = .returned (.bool true) ∧ Below w.heap.size w w' := by
  have E0 : Hid (Env D w [] [.rw (.slice xa l.length xk) l.length 1 (icl l)] w) := Lib.hid ((Env.start D w).arg (.rw (.slice xa l.length xk) l.length 1 (icl l)) hx)
  clear hx
  go_enter Tryd.func3, Tryd.ntmps3
  have hl := Lib.hid hl0
  have hf := Lib.hid hf0
  clear hl0 hf0
  go_wp2_with fail
  refine (awake13_c (hl.out.below E0.out.bel)).mono ?_
  rintro e w1 ⟨rfl, hb⟩
  have E1 : Hid (Env D w [] [.rw (.slice xa l.length xk) l.length 1 (icl l)] w1) := Lib.hid (E0.out.below hb)
  clear E0 hb
  have HV : Hid (validB q [l] = false) := Lib.hid (valid_of_field hf.out)
  have d3 : decide ((100 : Int) < (l.length : Int)) = false := decide_eq_false (by omega)
  have d3n : decide (100 < l.length) = false := decide_eq_false (by omega)
  go_wp2_with fail
  refine (Eval_no q l x (E1.out.fc 0 rfl) (hl.out.below E1.out.bel) hn HV.out).mono ?_
  rintro e w2 ⟨rfl, hb⟩
  have E2 : Hid (Env D w [] [.rw (.slice xa l.length xk) l.length 1 (icl l)] w2) := Lib.hid (E1.out.below hb)
  clear E1 hb
  go_wp2_with fail
  refine (Trim_no q l (E2.out.fc 0 rfl) (hl.out.below E2.out.bel) hn hf.out).mono ?_
  rintro e w3 ⟨rfl, hb⟩
  have E3 : Hid (Env D w [] [.rw (.slice xa l.length xk) l.length 1 (icl l)] w3) := Lib.hid (E2.out.below hb)
  clear E2 hb
  go_wp2_with fail
  refine (rField_c q _ hn.1 hf.out).mono ?_
  rintro e w4 ⟨rfl, hb⟩
  have E4 : Hid (Env D w [] [.rw (.slice xa l.length xk) l.length 1 (icl l)] w4) := Lib.hid (E3.out.below hb)
  clear E3 hb
  have hfin := Lib.hid E4.out.bel
  go_wp2
  go_ret
  exact ⟨rfl, hfin.out⟩
set_option maxRecDepth 100000 in
set_option maxHeartbeats 2000000 in
theorem pe_c {D : Nat → Prop} (q : Int) (l : List Int) (x : Int) {xa : Option Addr} {xk : Nat} {w : World} (hx : Fct.at w D (.rw (.slice xa l.length xk) l.length 1 (icl l))) (hl0 : Laid w) (hn : -9223372036854775808 ≤ q ∧ q ≤ 9223372036854775807) (h1 : l.length ≤ 100) (hf0 : fieldB q = true) (hr0 : l.all (resB q) = false) :
    Calls Tryd.prog 3 #[.int .i64 q, .slice xa l.length xk, .int .i64 x] w fun e w' => e = .returned (.bool true) ∧ Below w.heap.size w w' := by
  have E0 : Hid (Env D w [] [.rw (.slice xa l.length xk) l.length 1 (icl l)] w) := Lib.hid ((Env.start D w).arg (.rw (.slice xa l.length xk) l.length 1 (icl l)) hx)
  clear hx
  go_enter Tryd.func3, Tryd.ntmps3
  have hl := Lib.hid hl0
  have hf := Lib.hid hf0
  have hr := Lib.hid hr0
  clear hl0 hf0 hr0
  go_wp2_with fail
  refine (awake13_c (hl.out.below E0.out.bel)).mono ?_
  rintro e w1 ⟨rfl, hb⟩
  have E1 : Hid (Env D w [] [.rw (.slice xa l.length xk) l.length 1 (icl l)] w1) := Lib.hid (E0.out.below hb)
  clear E0 hb
  have HV : Hid (validB q [l] = false) := Lib.hid (valid_of_poly (poly_of_res hr.out))
  have d3 : decide ((100 : Int) < (l.length : Int)) = false := decide_eq_false (by omega)
  have d3n : decide (100 < l.length) = false := decide_eq_false (by omega)
  go_wp2_with fail
  refine (Eval_no q l x (E1.out.fc 0 rfl) (hl.out.below E1.out.bel) hn HV.out).mono ?_
  rintro e w2 ⟨rfl, hb⟩
  have E2 : Hid (Env D w [] [.rw (.slice xa l.length xk) l.length 1 (icl l)] w2) := Lib.hid (E1.out.below hb)
  clear E1 hb
  go_wp2_with fail
  refine (Trim_range q l (E2.out.fc 0 rfl) (hl.out.below E2.out.bel) hn hf.out (by omega) hr.out).mono ?_
  rintro e w3 ⟨rfl, hb⟩
  have E3 : Hid (Env D w [] [.rw (.slice xa l.length xk) l.length 1 (icl l)] w3) := Lib.hid (E2.out.below hb)
  clear E2 hb
  go_wp2_with fail
  refine (rField_c q _ hn.1 hf.out).mono ?_
  rintro e w4 ⟨rfl, hb⟩
  have E4 : Hid (Env D w [] [.rw (.slice xa l.length xk) l.length 1 (icl l)] w4) := Lib.hid (E3.out.below hb)
  clear E3 hb
  go_wp2_with fail
  refine (rResidues_c q l (E4.out.fc 0 rfl) hr.out (by omega)).mono ?_
  rintro e w5 ⟨rfl, hb⟩
  have E5 : Hid (Env D w [] [.rw (.slice xa l.length xk) l.length 1 (icl l)] w5) := Lib.hid (E4.out.below hb)
  clear E4 hb
  have hfin := Lib.hid E5.out.bel
  go_wp2
  go_ret
  exact ⟨rfl, hfin.out⟩
set_option maxRecDepth 100000 in
set_option maxHeartbeats 2000000 in
theorem pe_d {D : Nat → Prop} (q : Nat) (l : List Nat) (x : Int) {xa : Option Addr} {xk : Nat} {w : World} (hx : Fct.at w D (.rw (.slice xa l.length xk) l.length 1 (ncl l))) (hl0 : Laid w) (hqT : (q : Int) < Top) (h1 : l.length ≤ 100) (hf0 : fieldB q = true) (hr0 : ∀ c ∈ l, c < q) (hv0 : polyB (q : Int) (nl l) = false) :
    Calls Tryd.prog 3 #[.int .i64 (q : Nat), .slice xa l.length xk, .int .i64 x] w fun e w' => e = .returned (.bool true) ∧ Below w.heap.size w w' := by
  have E0 : Hid (Env D w [] [.rw (.slice xa l.length xk) l.length 1 (ncl l)] w) := Lib.hid ((Env.start D w).arg (.rw (.slice xa l.length xk) l.length 1 (ncl l)) hx)
  clear hx
  go_enter Tryd.func3, Tryd.ntmps3
  have hn : -9223372036854775808 ≤ (q : Int) ∧ (q : Int) ≤ 9223372036854775807 := by unfold Top at hqT; omega
  have HT := Lib.hid hqT
  clear hqT
  have hl := Lib.hid hl0
  have hf := Lib.hid hf0
  have hr := Lib.hid hr0
  have hv := Lib.hid hv0
  clear hl0 hf0 hr0 hv0
  have HA : Hid ((nl l).all (resB (q : Int)) = true) := Lib.hid (nl_all hr.out)
  go_wp2_with fail
  refine (awake13_c (hl.out.below E0.out.bel)).mono ?_
  rintro e w1 ⟨rfl, hb⟩
  have E1 : Hid (Env D w [] [.rw (.slice xa l.length xk) l.length 1 (ncl l)] w1) := Lib.hid (E0.out.below hb)
  clear E0 hb
  have d3 : decide ((100 : Int) < (l.length : Int)) = false := decide_eq_false (by omega)
  have d3n : decide (100 < l.length) = false := decide_eq_false (by omega)
  go_wp2_with fail
  refine (EvalN_no q l x (E1.out.fc 0 rfl) (hl.out.below E1.out.bel) hn (valid_of_poly hv.out)).mono ?_
  rintro e w2 ⟨rfl, hb⟩
  have E2 : Hid (Env D w [] [.rw (.slice xa l.length xk) l.length 1 (ncl l)] w2) := Lib.hid (E1.out.below hb)
  clear E1 hb
  go_wp2_with fail
  refine (Trim_ok q l (E2.out.fc 0 rfl) (hl.out.below E2.out.bel) hn.2 hf.out (by omega) hr.out).mono ?_
  rintro e w3 ⟨⟨ya, yk, rfl, yh⟩, hb⟩
  have E3 : Hid (Env D w [] [.rw (.slice ya (trimN l).length yk) (trimN l).length 1 (ncl (trimN l)), .rw (.slice xa l.length xk) l.length 1 (ncl l)] w3) := Lib.hid (E2.out.got (E2.out.below hb) (.rw (.slice ya (trimN l).length yk) (trimN l).length 1 (ncl (trimN l))) (Lib.hid (Rw.ge yh.out)).out)
  clear E2 hb
  go_wp2_with fail
  refine (rField_c q _ hn.1 hf.out).mono ?_
  rintro e w4 ⟨rfl, hb⟩
  have E4 : Hid (Env D w [] [.rw (.slice ya (trimN l).length yk) (trimN l).length 1 (ncl (trimN l)), .rw (.slice xa l.length xk) l.length 1 (ncl l)] w4) := Lib.hid (E3.out.below hb)
  clear E3 hb
  go_wp2_with fail
  refine (rResN_c q l (E4.out.fc 1 rfl) HA.out (by omega)).mono ?_
  rintro e w5 ⟨rfl, hb⟩
  have E5 : Hid (Env D w [] [.rw (.slice ya (trimN l).length yk) (trimN l).length 1 (ncl (trimN l)), .rw (.slice xa l.length xk) l.length 1 (ncl l)] w5) := Lib.hid (E4.out.below hb)
  clear E4 hb
  go_wp2_with fail
  refine (rTrim_c l (E5.out.fc 1 rfl) (by omega)).mono ?_
  rintro e w6 ⟨⟨za, zk, rfl, zh⟩, hb⟩
  have E6 : Hid (Env D w [] [.rw (.slice za (trimN l).length zk) (trimN l).length 1 (ncl (trimN l)), .rw (.slice ya (trimN l).length yk) (trimN l).length 1 (ncl (trimN l)), .rw (.slice xa l.length xk) l.length 1 (ncl l)] w6) := Lib.hid (E5.out.got (E5.out.below hb) (.rw (.slice za (trimN l).length zk) (trimN l).length 1 (ncl (trimN l))) (Lib.hid (Rw.ge zh.out)).out)
  clear E5 hb
  go_wp2_with fail
  refine (equalN_c (t := true) (a := trimN l) (b := trimN l) (E6.out.fc 1 rfl) (E6.out.fc 0 rfl) (Nat.le_trans (trimN_len _) (by omega)) (Nat.le_trans (trimN_len _) (by omega)) (by simp)).mono ?_
  rintro e w7 ⟨rfl, hb⟩
  have E7 : Hid (Env D w [] [.rw (.slice za (trimN l).length zk) (trimN l).length 1 (ncl (trimN l)), .rw (.slice ya (trimN l).length yk) (trimN l).length 1 (ncl (trimN l)), .rw (.slice xa l.length xk) l.length 1 (ncl l)] w7) := Lib.hid (E6.out.below hb)
  clear E6 hb
  go_wp2_with fail
  refine (rValN_c q l (E7.out.fc 2 rfl) hv.out).mono ?_
  rintro e w8 ⟨rfl, hb⟩
  have E8 : Hid (Env D w [] [.rw (.slice za (trimN l).length zk) (trimN l).length 1 (ncl (trimN l)), .rw (.slice ya (trimN l).length yk) (trimN l).length 1 (ncl (trimN l)), .rw (.slice xa l.length xk) l.length 1 (ncl l)] w8) := Lib.hid (E7.out.below hb)
  clear E7 hb
  have hfin := Lib.hid E8.out.bel
  go_wp2
  go_ret
  exact ⟨rfl, hfin.out⟩
set_option maxRecDepth 100000 in
set_option maxHeartbeats 2000000 in
theorem pe_e {D : Nat → Prop} (q : Nat) (l : List Nat) (x : Int) {xa : Option Addr} {xk : Nat} {w : World} (hx : Fct.at w D (.rw (.slice xa l.length xk) l.length 1 (ncl l))) (hl0 : Laid w) (hqT : (q : Int) < Top) (h1 : l.length ≤ 100) (hf0 : fieldB q = true) (hr0 : ∀ c ∈ l, c < q) (hv0 : polyB (q : Int) (nl l) = true) (hx0 : x < 0) :
    Calls Tryd.prog 3 #[.int .i64 (q : Nat), .slice xa l.length xk, .int .i64 x] w fun e w' => e = .returned (.bool true) ∧ Below w.heap.size w w' := by
  have E0 : Hid (Env D w [] [.rw (.slice xa l.length xk) l.length 1 (ncl l)] w) := Lib.hid ((Env.start D w).arg (.rw (.slice xa l.length xk) l.length 1 (ncl l)) hx)
  clear hx
  go_enter Tryd.func3, Tryd.ntmps3
  have hn : -9223372036854775808 ≤ (q : Int) ∧ (q : Int) ≤ 9223372036854775807 := by unfold Top at hqT; omega
  have HT := Lib.hid hqT
  clear hqT
  have hl := Lib.hid hl0
  have hf := Lib.hid hf0
  have hr := Lib.hid hr0
  have hv := Lib.hid hv0
  clear hl0 hf0 hr0 hv0
  have HA : Hid ((nl l).all (resB (q : Int)) = true) := Lib.hid (nl_all hr.out)
  go_wp2_with fail
  refine (awake13_c (hl.out.below E0.out.bel)).mono ?_
  rintro e w1 ⟨rfl, hb⟩
  have E1 : Hid (Env D w [] [.rw (.slice xa l.length xk) l.length 1 (ncl l)] w1) := Lib.hid (E0.out.below hb)
  clear E0 hb
  have d3 : decide ((100 : Int) < (l.length : Int)) = false := decide_eq_false (by omega)
  have d3n : decide (100 < l.length) = false := decide_eq_false (by omega)
  have HR : Hid (resB (q : Int) x = false) := Lib.hid (by unfold resB; rw [decide_eq_false (by omega)]; rfl)
  have HV : Hid (validB (q : Int) [nl l] = true) := Lib.hid (by unfold validB; simp [hf.out, hv.out])
  have e1 : decide (x < 0) = true := decide_eq_true hx0
  go_wp2_with fail
  refine (EvalN_range q l x (E1.out.fc 0 rfl) (hl.out.below E1.out.bel) hn HV.out HR.out).mono ?_
  rintro e w2 ⟨rfl, hb⟩
  have E2 : Hid (Env D w [] [.rw (.slice xa l.length xk) l.length 1 (ncl l)] w2) := Lib.hid (E1.out.below hb)
  clear E1 hb
  go_wp2_with fail
  refine (Trim_ok q l (E2.out.fc 0 rfl) (hl.out.below E2.out.bel) hn.2 hf.out (by omega) hr.out).mono ?_
  rintro e w3 ⟨⟨ya, yk, rfl, yh⟩, hb⟩
  have E3 : Hid (Env D w [] [.rw (.slice ya (trimN l).length yk) (trimN l).length 1 (ncl (trimN l)), .rw (.slice xa l.length xk) l.length 1 (ncl l)] w3) := Lib.hid (E2.out.got (E2.out.below hb) (.rw (.slice ya (trimN l).length yk) (trimN l).length 1 (ncl (trimN l))) (Lib.hid (Rw.ge yh.out)).out)
  clear E2 hb
  go_wp2_with fail
  refine (rField_c q _ hn.1 hf.out).mono ?_
  rintro e w4 ⟨rfl, hb⟩
  have E4 : Hid (Env D w [] [.rw (.slice ya (trimN l).length yk) (trimN l).length 1 (ncl (trimN l)), .rw (.slice xa l.length xk) l.length 1 (ncl l)] w4) := Lib.hid (E3.out.below hb)
  clear E3 hb
  go_wp2_with fail
  refine (rResN_c q l (E4.out.fc 1 rfl) HA.out (by omega)).mono ?_
  rintro e w5 ⟨rfl, hb⟩
  have E5 : Hid (Env D w [] [.rw (.slice ya (trimN l).length yk) (trimN l).length 1 (ncl (trimN l)), .rw (.slice xa l.length xk) l.length 1 (ncl l)] w5) := Lib.hid (E4.out.below hb)
  clear E4 hb
  go_wp2_with fail
  refine (rTrim_c l (E5.out.fc 1 rfl) (by omega)).mono ?_
  rintro e w6 ⟨⟨za, zk, rfl, zh⟩, hb⟩
  have E6 : Hid (Env D w [] [.rw (.slice za (trimN l).length zk) (trimN l).length 1 (ncl (trimN l)), .rw (.slice ya (trimN l).length yk) (trimN l).length 1 (ncl (trimN l)), .rw (.slice xa l.length xk) l.length 1 (ncl l)] w6) := Lib.hid (E5.out.got (E5.out.below hb) (.rw (.slice za (trimN l).length zk) (trimN l).length 1 (ncl (trimN l))) (Lib.hid (Rw.ge zh.out)).out)
  clear E5 hb
  go_wp2_with fail
  refine (equalN_c (t := true) (a := trimN l) (b := trimN l) (E6.out.fc 1 rfl) (E6.out.fc 0 rfl) (Nat.le_trans (trimN_len _) (by omega)) (Nat.le_trans (trimN_len _) (by omega)) (by simp)).mono ?_
  rintro e w7 ⟨rfl, hb⟩
  have E7 : Hid (Env D w [] [.rw (.slice za (trimN l).length zk) (trimN l).length 1 (ncl (trimN l)), .rw (.slice ya (trimN l).length yk) (trimN l).length 1 (ncl (trimN l)), .rw (.slice xa l.length xk) l.length 1 (ncl l)] w7) := Lib.hid (E6.out.below hb)
  clear E6 hb
  go_wp2_with fail
  refine (rValN_c q l (E7.out.fc 2 rfl) hv.out).mono ?_
  rintro e w8 ⟨rfl, hb⟩
  have E8 : Hid (Env D w [] [.rw (.slice za (trimN l).length zk) (trimN l).length 1 (ncl (trimN l)), .rw (.slice ya (trimN l).length yk) (trimN l).length 1 (ncl (trimN l)), .rw (.slice xa l.length xk) l.length 1 (ncl l)] w8) := Lib.hid (E7.out.below hb)
  clear E7 hb
  have hfin := Lib.hid E8.out.bel
  go_wp2
  go_ret
  exact ⟨rfl, hfin.out⟩
set_option maxRecDepth 100000 in
set_option maxHeartbeats 2000000 in
theorem pe_f {D : Nat → Prop} (q : Nat) (l : List Nat) (x : Int) {xa : Option Addr} {xk : Nat} {w : World} (hx : Fct.at w D (.rw (.slice xa l.length xk) l.length 1 (ncl l))) (hl0 : Laid w) (hqT : (q : Int) < Top) (h1 : l.length ≤ 100) (hf0 : fieldB q = true) (hr0 : ∀ c ∈ l, c < q) (hv0 : polyB (q : Int) (nl l) = true) (hx0 : 0 ≤ x) (hx1 : (q : Int) ≤ x) :
    Calls Tryd.prog 3 #[.int .i64 (q : Nat), .slice xa l.length xk, .int .i64 x] w fun e w' => e = .returned (.bool true) ∧ Below w.heap.size w w' := by
  have E0 : Hid (Env D w [] [.rw (.slice xa l.length xk) l.length 1 (ncl l)] w) := Lib.hid ((Env.start D w).arg (.rw (.slice xa l.length xk) l.length 1 (ncl l)) hx)
  clear hx
  go_enter Tryd.func3, Tryd.ntmps3
  have hn : -9223372036854775808 ≤ (q : Int) ∧ (q : Int) ≤ 9223372036854775807 := by unfold Top at hqT; omega
  have HT := Lib.hid hqT
  clear hqT
  have hl := Lib.hid hl0
  have hf := Lib.hid hf0
  have hr := Lib.hid hr0
  have hv := Lib.hid hv0
  clear hl0 hf0 hr0 hv0
  have HA : Hid ((nl l).all (resB (q : Int)) = true) := Lib.hid (nl_all hr.out)
  go_wp2_with fail
  refine (awake13_c (hl.out.below E0.out.bel)).mono ?_
  rintro e w1 ⟨rfl, hb⟩
  have E1 : Hid (Env D w [] [.rw (.slice xa l.length xk) l.length 1 (ncl l)] w1) := Lib.hid (E0.out.below hb)
  clear E0 hb
  have d3 : decide ((100 : Int) < (l.length : Int)) = false := decide_eq_false (by omega)
  have d3n : decide (100 < l.length) = false := decide_eq_false (by omega)
  have HR : Hid (resB (q : Int) x = false) := Lib.hid (by unfold resB; rw [decide_eq_false (p := x < (q : Int)) (by omega), Bool.and_false])
  have HV : Hid (validB (q : Int) [nl l] = true) := Lib.hid (by unfold validB; simp [hf.out, hv.out])
  have e1 : decide (x < 0) = false := decide_eq_false (by omega)
  have e2 : decide ((q : Int) ≤ x) = true := decide_eq_true hx1
  go_wp2_with fail
  refine (EvalN_range q l x (E1.out.fc 0 rfl) (hl.out.below E1.out.bel) hn HV.out HR.out).mono ?_
  rintro e w2 ⟨rfl, hb⟩
  have E2 : Hid (Env D w [] [.rw (.slice xa l.length xk) l.length 1 (ncl l)] w2) := Lib.hid (E1.out.below hb)
  clear E1 hb
  go_wp2_with fail
  refine (Trim_ok q l (E2.out.fc 0 rfl) (hl.out.below E2.out.bel) hn.2 hf.out (by omega) hr.out).mono ?_
  rintro e w3 ⟨⟨ya, yk, rfl, yh⟩, hb⟩
  have E3 : Hid (Env D w [] [.rw (.slice ya (trimN l).length yk) (trimN l).length 1 (ncl (trimN l)), .rw (.slice xa l.length xk) l.length 1 (ncl l)] w3) := Lib.hid (E2.out.got (E2.out.below hb) (.rw (.slice ya (trimN l).length yk) (trimN l).length 1 (ncl (trimN l))) (Lib.hid (Rw.ge yh.out)).out)
  clear E2 hb
  go_wp2_with fail
  refine (rField_c q _ hn.1 hf.out).mono ?_
  rintro e w4 ⟨rfl, hb⟩
  have E4 : Hid (Env D w [] [.rw (.slice ya (trimN l).length yk) (trimN l).length 1 (ncl (trimN l)), .rw (.slice xa l.length xk) l.length 1 (ncl l)] w4) := Lib.hid (E3.out.below hb)
  clear E3 hb
  go_wp2_with fail
  refine (rResN_c q l (E4.out.fc 1 rfl) HA.out (by omega)).mono ?_
  rintro e w5 ⟨rfl, hb⟩
  have E5 : Hid (Env D w [] [.rw (.slice ya (trimN l).length yk) (trimN l).length 1 (ncl (trimN l)), .rw (.slice xa l.length xk) l.length 1 (ncl l)] w5) := Lib.hid (E4.out.below hb)
  clear E4 hb
  go_wp2_with fail
  refine (rTrim_c l (E5.out.fc 1 rfl) (by omega)).mono ?_
  rintro e w6 ⟨⟨za, zk, rfl, zh⟩, hb⟩
  have E6 : Hid (Env D w [] [.rw (.slice za (trimN l).length zk) (trimN l).length 1 (ncl (trimN l)), .rw (.slice ya (trimN l).length yk) (trimN l).length 1 (ncl (trimN l)), .rw (.slice xa l.length xk) l.length 1 (ncl l)] w6) := Lib.hid (E5.out.got (E5.out.below hb) (.rw (.slice za (trimN l).length zk) (trimN l).length 1 (ncl (trimN l))) (Lib.hid (Rw.ge zh.out)).out)
  clear E5 hb
  go_wp2_with fail
  refine (equalN_c (t := true) (a := trimN l) (b := trimN l) (E6.out.fc 1 rfl) (E6.out.fc 0 rfl) (Nat.le_trans (trimN_len _) (by omega)) (Nat.le_trans (trimN_len _) (by omega)) (by simp)).mono ?_
  rintro e w7 ⟨rfl, hb⟩
  have E7 : Hid (Env D w [] [.rw (.slice za (trimN l).length zk) (trimN l).length 1 (ncl (trimN l)), .rw (.slice ya (trimN l).length yk) (trimN l).length 1 (ncl (trimN l)), .rw (.slice xa l.length xk) l.length 1 (ncl l)] w7) := Lib.hid (E6.out.below hb)
  clear E6 hb
  go_wp2_with fail
  refine (rValN_c q l (E7.out.fc 2 rfl) hv.out).mono ?_
  rintro e w8 ⟨rfl, hb⟩
  have E8 : Hid (Env D w [] [.rw (.slice za (trimN l).length zk) (trimN l).length 1 (ncl (trimN l)), .rw (.slice ya (trimN l).length yk) (trimN l).length 1 (ncl (trimN l)), .rw (.slice xa l.length xk) l.length 1 (ncl l)] w8) := Lib.hid (E7.out.below hb)
  clear E7 hb
  have hfin := Lib.hid E8.out.bel
  go_wp2
  go_ret
  exact ⟨rfl, hfin.out⟩
set_option maxRecDepth 100000 in
set_option maxHeartbeats 2000000 in
theorem pe_g {D : Nat → Prop} (q : Nat) (l : List Nat) (x : Nat) {xa : Option Addr} {xk : Nat} {w : World} (hx : Fct.at w D (.rw (.slice xa l.length xk) l.length 1 (ncl l))) (hl0 : Laid w) (hqT : (q : Int) < Top) (h1 : l.length ≤ 100) (hf0 : fieldB q = true) (hr0 : ∀ c ∈ l, c < q) (hv0 : polyB (q : Int) (nl l) = true) (hxq : (x : Int) < (q : Int)) :
    Calls Tryd.prog 3 #[.int .i64 (q : Nat), .slice xa l.length xk, .int .i64 (x : Nat)] w fun e w' => e = .returned (.bool true) ∧ Below w.heap.size w w' := by
  have E0 : Hid (Env D w [] [.rw (.slice xa l.length xk) l.length 1 (ncl l)] w) := Lib.hid ((Env.start D w).arg (.rw (.slice xa l.length xk) l.length 1 (ncl l)) hx)
  clear hx
  go_enter Tryd.func3, Tryd.ntmps3
  have hn : -9223372036854775808 ≤ (q : Int) ∧ (q : Int) ≤ 9223372036854775807 := by unfold Top at hqT; omega
  have HT := Lib.hid hqT
  clear hqT
  have hl := Lib.hid hl0
  have hf := Lib.hid hf0
  have hr := Lib.hid hr0
  have hv := Lib.hid hv0
  clear hl0 hf0 hr0 hv0
  have HA : Hid ((nl l).all (resB (q : Int)) = true) := Lib.hid (nl_all hr.out)
  go_wp2_with fail
  refine (awake13_c (hl.out.below E0.out.bel)).mono ?_
  rintro e w1 ⟨rfl, hb⟩
  have E1 : Hid (Env D w [] [.rw (.slice xa l.length xk) l.length 1 (ncl l)] w1) := Lib.hid (E0.out.below hb)
  clear E0 hb
  have d3 : decide ((100 : Int) < (l.length : Int)) = false := decide_eq_false (by omega)
  have d3n : decide (100 < l.length) = false := decide_eq_false (by omega)
  have HV : Hid (validB (q : Int) [nl l] = true) := Lib.hid (by unfold validB; simp [hf.out, hv.out])
  have e1 : decide ((x : Int) < 0) = false := decide_eq_false (by omega)
  have e2 : decide ((q : Int) ≤ (x : Int)) = false := decide_eq_false (by omega)
  have e3 : decide (q ≤ x) = false := decide_eq_false (by omega)
  go_wp2_with fail
  refine (Eval_ok q l x (E1.out.fc 0 rfl) (hl.out.below E1.out.bel) HT.out HV.out (by omega) hr.out hxq).mono ?_
  rintro e w2 ⟨rfl, hb⟩
  have E2 : Hid (Env D w [] [.rw (.slice xa l.length xk) l.length 1 (ncl l)] w2) := Lib.hid (E1.out.below hb)
  clear E1 hb
  go_wp2_with fail
  refine (Trim_ok q l (E2.out.fc 0 rfl) (hl.out.below E2.out.bel) hn.2 hf.out (by omega) hr.out).mono ?_
  rintro e w3 ⟨⟨ya, yk, rfl, yh⟩, hb⟩
  have E3 : Hid (Env D w [] [.rw (.slice ya (trimN l).length yk) (trimN l).length 1 (ncl (trimN l)), .rw (.slice xa l.length xk) l.length 1 (ncl l)] w3) := Lib.hid (E2.out.got (E2.out.below hb) (.rw (.slice ya (trimN l).length yk) (trimN l).length 1 (ncl (trimN l))) (Lib.hid (Rw.ge yh.out)).out)
  clear E2 hb
  go_wp2_with fail
  refine (rField_c q _ hn.1 hf.out).mono ?_
  rintro e w4 ⟨rfl, hb⟩
  have E4 : Hid (Env D w [] [.rw (.slice ya (trimN l).length yk) (trimN l).length 1 (ncl (trimN l)), .rw (.slice xa l.length xk) l.length 1 (ncl l)] w4) := Lib.hid (E3.out.below hb)
  clear E3 hb
  go_wp2_with fail
  refine (rResN_c q l (E4.out.fc 1 rfl) HA.out (by omega)).mono ?_
  rintro e w5 ⟨rfl, hb⟩
  have E5 : Hid (Env D w [] [.rw (.slice ya (trimN l).length yk) (trimN l).length 1 (ncl (trimN l)), .rw (.slice xa l.length xk) l.length 1 (ncl l)] w5) := Lib.hid (E4.out.below hb)
  clear E4 hb
  go_wp2_with fail
  refine (rTrim_c l (E5.out.fc 1 rfl) (by omega)).mono ?_
  rintro e w6 ⟨⟨za, zk, rfl, zh⟩, hb⟩
  have E6 : Hid (Env D w [] [.rw (.slice za (trimN l).length zk) (trimN l).length 1 (ncl (trimN l)), .rw (.slice ya (trimN l).length yk) (trimN l).length 1 (ncl (trimN l)), .rw (.slice xa l.length xk) l.length 1 (ncl l)] w6) := Lib.hid (E5.out.got (E5.out.below hb) (.rw (.slice za (trimN l).length zk) (trimN l).length 1 (ncl (trimN l))) (Lib.hid (Rw.ge zh.out)).out)
  clear E5 hb
  go_wp2_with fail
  refine (equalN_c (t := true) (a := trimN l) (b := trimN l) (E6.out.fc 1 rfl) (E6.out.fc 0 rfl) (Nat.le_trans (trimN_len _) (by omega)) (Nat.le_trans (trimN_len _) (by omega)) (by simp)).mono ?_
  rintro e w7 ⟨rfl, hb⟩
  have E7 : Hid (Env D w [] [.rw (.slice za (trimN l).length zk) (trimN l).length 1 (ncl (trimN l)), .rw (.slice ya (trimN l).length yk) (trimN l).length 1 (ncl (trimN l)), .rw (.slice xa l.length xk) l.length 1 (ncl l)] w7) := Lib.hid (E6.out.below hb)
  clear E6 hb
  go_wp2_with fail
  refine (rValN_c q l (E7.out.fc 2 rfl) hv.out).mono ?_
  rintro e w8 ⟨rfl, hb⟩
  have E8 : Hid (Env D w [] [.rw (.slice za (trimN l).length zk) (trimN l).length 1 (ncl (trimN l)), .rw (.slice ya (trimN l).length yk) (trimN l).length 1 (ncl (trimN l)), .rw (.slice xa l.length xk) l.length 1 (ncl l)] w8) := Lib.hid (E7.out.below hb)
  clear E7 hb
  go_wp2_with fail
  refine (rEval_c q l x (E8.out.fc 2 rfl) hr.out hxq HT.out (by omega)).mono ?_
  rintro e w9 ⟨rfl, hb⟩
  have E9 : Hid (Env D w [] [.rw (.slice za (trimN l).length zk) (trimN l).length 1 (ncl (trimN l)), .rw (.slice ya (trimN l).length yk) (trimN l).length 1 (ncl (trimN l)), .rw (.slice xa l.length xk) l.length 1 (ncl l)] w9) := Lib.hid (E8.out.below hb)
  clear E8 hb
  have hfin := Lib.hid E9.out.bel
  go_wp2
  go_ret
  exact ⟨rfl, hfin.out⟩
theorem PolyEvals_walk {D : Nat → Prop} (q : Int) (l : List Int) (x : Int) {xa : Option Addr} {xk : Nat} {w : World} (hx : Fct.at w D (.rw (.slice xa l.length xk) l.length 1 (icl l))) (hl : Laid w) (hn : -9223372036854775808 ≤ q ∧ q ≤ 9223372036854775807) :
    Calls Tryd.prog 3 #[.int .i64 q, .slice xa l.length xk, .int .i64 x] w fun e w' => e = .returned (.bool true) ∧ Below w.heap.size w w' := by
  by_cases h1 : 100 < l.length
  · exact pe_a q l x hx hl hn h1
  have h2 : l.length ≤ 100 := by omega
  cases hf : fieldB q with
  | false => exact pe_b q l x hx hl hn h2 hf
  | true =>
    cases hr : l.all (resB q) with
    | false => exact pe_c q l x hx hl hn h2 hf hr
    | true =>
      obtain ⟨n, rfl, hn2, hT⟩ := fieldB_pos hf
      obtain ⟨m, rfl, hm⟩ := all_nl hr
      have hm' : ∀ c ∈ m, c < n := fun c hc => Int.ofNat_lt.1 (hm c hc)
      have hx' : Fct.at w D (.rw (.slice xa m.length xk) m.length 1 (ncl m)) := by have h := hx; rw [nl_len] at h; exact h
      rw [nl_len] at h2 ⊢
      cases hv : polyB (n : Int) (nl m) with
      | false => exact pe_d n m x hx' hl hT h2 hf hm' hv
      | true =>
        by_cases g1 : x < 0
        · exact pe_e n m x hx' hl hT h2 hf hm' hv g1
        by_cases g2 : (n : Int) ≤ x
        · exact pe_f n m x hx' hl hT h2 hf hm' hv (by omega) g2
        obtain ⟨y, rfl⟩ : ∃ y : Nat, x = (y : Int) := ⟨x.toNat, by omega⟩
        exact pe_g n m y hx' hl hT h2 hf hm' hv (by omega)
end Go.Proofs.YtinlfogpbologaaDoor

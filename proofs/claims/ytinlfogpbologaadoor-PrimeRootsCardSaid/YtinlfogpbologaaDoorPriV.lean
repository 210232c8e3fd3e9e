/- the laws PrimeFactors and PrimeRoots. -/
import Derived.Test.YtinlfogpbologaaDoorPriU
namespace Go.Proofs.YtinlfogpbologaaDoor
open Go.RowKit DivMath WordMath
set_option linter.unusedVariables false
set_option linter.unusedSimpArgs false
set_option maxRecDepth 100000 in
set_option maxHeartbeats 1000000 in
theorem Fac_ra {D : Nat → Prop} (n : Int) {w : World}  (h1 : n < 1) :
    Calls Tryd.prog 49 #[.int .i64 n] w fun e w' => e = .returned (.tuple #[.slice none 0 0, .int .i64 2]) ∧ Below w.heap.size w w' := by
  have E0 : Hid (Env D w [] [] w) := Lib.hid (Env.start D w)
  go_enter Tryd.func49, Tryd.ntmps49
  have d1 : decide (n < 1) = true := decide_eq_true (by omega)
  clear h1
  have hfin := Lib.hid E0.out.bel
  go_wp2
  go_ret2
  exact ⟨rfl, hfin.out⟩
set_option maxRecDepth 100000 in
set_option maxHeartbeats 1000000 in
theorem Fac_rb {D : Nat → Prop} (n : Int) {w : World}  (h1 : 2305843009213693952 ≤ n) :
    Calls Tryd.prog 49 #[.int .i64 n] w fun e w' => e = .returned (.tuple #[.slice none 0 0, .int .i64 2]) ∧ Below w.heap.size w w' := by
  have E0 : Hid (Env D w [] [] w) := Lib.hid (Env.start D w)
  go_enter Tryd.func49, Tryd.ntmps49
  have d1 : decide (n < 1) = false := decide_eq_false (by omega)
  have d2 : decide ((2305843009213693952 : Int) ≤ n) = true := decide_eq_true h1
  clear h1
  have hfin := Lib.hid E0.out.bel
  go_wp2
  go_ret2
  exact ⟨rfl, hfin.out⟩
set_option maxRecDepth 100000 in
set_option maxHeartbeats 1000000 in
theorem pf_a {D : Nat → Prop} (n : Int) {w : World}  (hl0 : Laid w) (h1 : n < 1) :
    Calls Tryd.prog 10 #[.int .i64 n] w fun e w' => e = .returned (.bool true) ∧ Below w.heap.size w w' := by
  have E0 : Hid (Env D w [] [] w) := Lib.hid (Env.start D w)
  go_enter Tryd.func10, Tryd.ntmps10
  have hl := Lib.hid hl0
  clear hl0
  have d1 : decide (n < 1) = true := decide_eq_true (by omega)
  have H1 := Lib.hid h1
  clear h1
  go_wp2_with fail
  refine (awake05_c (hl.out.below E0.out.bel)).mono ?_
  rintro e w1 ⟨rfl, hb⟩
  have E1 : Hid (Env D w [] [] w1) := Lib.hid (E0.out.below hb)
  clear E0 hb
  go_wp2_with fail
  refine (Fac_ra (D := D) n H1.out).mono ?_
  rintro e w2 ⟨rfl, hb⟩
  have E2 : Hid (Env D w [] [] w2) := Lib.hid (E1.out.below hb)
  clear E1 hb
  have hfin := Lib.hid E2.out.bel
  go_wp2
  go_ret
  exact ⟨rfl, hfin.out⟩
set_option maxRecDepth 100000 in
set_option maxHeartbeats 1000000 in
theorem pf_b {D : Nat → Prop} (n : Int) {w : World}  (hl0 : Laid w) (h1 : 2305843009213693952 ≤ n) :
    Calls Tryd.prog 10 #[.int .i64 n] w fun e w' => e = .returned (.bool true) ∧ Below w.heap.size w w' := by
  have E0 : Hid (Env D w [] [] w) := Lib.hid (Env.start D w)
  go_enter Tryd.func10, Tryd.ntmps10
  have hl := Lib.hid hl0
  clear hl0
  have d1 : decide (n < 1) = false := decide_eq_false (by omega)
  have d2 : decide ((2305843009213693952 : Int) ≤ n) = true := decide_eq_true h1
  have H1 := Lib.hid h1
  clear h1
  go_wp2_with fail
  refine (awake05_c (hl.out.below E0.out.bel)).mono ?_
  rintro e w1 ⟨rfl, hb⟩
  have E1 : Hid (Env D w [] [] w1) := Lib.hid (E0.out.below hb)
  clear E0 hb
  go_wp2_with fail
  refine (Fac_rb (D := D) n H1.out).mono ?_
  rintro e w2 ⟨rfl, hb⟩
  have E2 : Hid (Env D w [] [] w2) := Lib.hid (E1.out.below hb)
  clear E1 hb
  have hfin := Lib.hid E2.out.bel
  go_wp2
  go_ret
  exact ⟨rfl, hfin.out⟩
set_option maxRecDepth 100000 in
set_option maxHeartbeats 1000000 in
theorem pf_c {D : Nat → Prop} (n : Nat) {w : World}  (hl0 : Laid w) (h1 : 1 ≤ (n : Int)) (h2 : (n : Int) ≤ 2305843009213693951) (hf0 : Pri.facN n = none) :
    Calls Tryd.prog 10 #[.int .i64 (n : Nat)] w fun e w' => e = .returned (.bool true) ∧ Below w.heap.size w w' := by
  have E0 : Hid (Env D w [] [] w) := Lib.hid (Env.start D w)
  go_enter Tryd.func10, Tryd.ntmps10
  have hl := Lib.hid hl0
  have hf := Lib.hid hf0
  clear hl0 hf0
  have d1 : decide ((n : Int) < 1) = false := decide_eq_false (by omega)
  have d1n : decide (n < 1) = false := decide_eq_false (by omega)
  have d2 : decide ((2305843009213693952 : Int) ≤ (n : Int)) = false := decide_eq_false (by omega)
  have d2n : decide (2305843009213693952 ≤ n) = false := decide_eq_false (by omega)
  go_wp2_with fail
  refine (awake05_c (hl.out.below E0.out.bel)).mono ?_
  rintro e w1 ⟨rfl, hb⟩
  have E1 : Hid (Env D w [] [] w1) := Lib.hid (E0.out.below hb)
  clear E0 hb
  go_wp2_with fail
  refine (Fac_no (D := D) n (hl.out.below E1.out.bel) h1 h2 hf.out).mono ?_
  rintro e w2 ⟨rfl, hb⟩
  have E2 : Hid (Env D w [] [] w2) := Lib.hid (E1.out.below hb)
  clear E1 hb
  go_wp2_with fail
  refine (rFac_no (D := D) n h1 h2 hf.out).mono ?_
  rintro e w3 ⟨rfl, hb⟩
  have E3 : Hid (Env D w [] [] w3) := Lib.hid (E2.out.below hb)
  clear E2 hb
  have hfin := Lib.hid E3.out.bel
  go_wp2
  go_ret
  exact ⟨rfl, hfin.out⟩
set_option maxRecDepth 100000 in
set_option maxHeartbeats 1000000 in
theorem pf_d {D : Nat → Prop} (n : Nat) {w : World}  (hl0 : Laid w) (h1 : 1 ≤ (n : Int)) (h2 : (n : Int) ≤ 2305843009213693951) (l : List Nat) (hf0 : Pri.facN n = some l) :
    Calls Tryd.prog 10 #[.int .i64 (n : Nat)] w fun e w' => e = .returned (.bool true) ∧ Below w.heap.size w w' := by
  have E0 : Hid (Env D w [] [] w) := Lib.hid (Env.start D w)
  go_enter Tryd.func10, Tryd.ntmps10
  have hl := Lib.hid hl0
  have hf := Lib.hid hf0
  clear hl0 hf0
  have hlen := (Pri.facN_all (by omega) (by omega) hf.out).1
  have d1 : decide ((n : Int) < 1) = false := decide_eq_false (by omega)
  have d1n : decide (n < 1) = false := decide_eq_false (by omega)
  have d2 : decide ((2305843009213693952 : Int) ≤ (n : Int)) = false := decide_eq_false (by omega)
  have d2n : decide (2305843009213693952 ≤ n) = false := decide_eq_false (by omega)
  go_wp2_with fail
  refine (awake05_c (hl.out.below E0.out.bel)).mono ?_
  rintro e w1 ⟨rfl, hb⟩
  have E1 : Hid (Env D w [] [] w1) := Lib.hid (E0.out.below hb)
  clear E0 hb
  go_wp2_with fail
  refine (Fac_some (D := D) n l (hl.out.below E1.out.bel) h1 h2 hf.out).mono ?_
  rintro e w2 ⟨⟨ya, yk, rfl, yh⟩, hb⟩
  have E2 : Hid (Env D w [] [.rw (.slice ya l.length yk) l.length 1 (ncl l)] w2) := Lib.hid (E1.out.got (E1.out.below hb) (.rw (.slice ya l.length yk) l.length 1 (ncl l)) (Lib.hid (Rw.ge yh.out)).out)
  clear E1 hb
  go_wp2_with fail
  refine (rFac_some (D := D) n l h1 h2 hf.out).mono ?_
  rintro e w3 ⟨⟨za, zk, rfl, zh⟩, hb⟩
  have E3 : Hid (Env D w [] [.rw (.slice za l.length zk) l.length 1 (ncl l), .rw (.slice ya l.length yk) l.length 1 (ncl l)] w3) := Lib.hid (E2.out.got (E2.out.below hb) (.rw (.slice za l.length zk) l.length 1 (ncl l)) (Lib.hid (Rw.ge zh.out)).out)
  clear E2 hb
  go_wp2_with fail
  refine (equalN_c (t := true) (a := l) (b := l) (E3.out.fc 1 rfl) (E3.out.fc 0 rfl) (by omega) (by omega) (by simp)).mono ?_
  rintro e w4 ⟨rfl, hb⟩
  have E4 : Hid (Env D w [] [.rw (.slice za l.length zk) l.length 1 (ncl l), .rw (.slice ya l.length yk) l.length 1 (ncl l)] w4) := Lib.hid (E3.out.below hb)
  clear E3 hb
  have hfin := Lib.hid E4.out.bel
  go_wp2
  go_ret
  exact ⟨rfl, hfin.out⟩
theorem PrimeFactors_walk (n : Int) {w : World} (hl : Laid w) (hn : -9223372036854775808 ≤ n ∧ n ≤ 9223372036854775807) :
    Calls Tryd.prog 10 #[.int .i64 n] w fun e w' => e = .returned (.bool true) ∧ Below w.heap.size w w' := by
  by_cases h1 : n < 1
  · exact pf_a (D := fun _ => True) n hl h1
  by_cases h2 : 2305843009213693952 ≤ n
  · exact pf_b (D := fun _ => True) n hl h2
  obtain ⟨m, rfl⟩ : ∃ m : Nat, n = (m : Int) := ⟨n.toNat, by omega⟩
  cases hf : Pri.facN m with
  | none => exact pf_c (D := fun _ => True) m hl (by omega) (by omega) hf
  | some l => exact pf_d (D := fun _ => True) m hl (by omega) (by omega) l hf
set_option maxRecDepth 100000 in
set_option maxHeartbeats 1000000 in
theorem pr_a {D : Nat → Prop} (n : Int) {w : World}  (hl0 : Laid w) (hn : -9223372036854775808 ≤ n ∧ n ≤ 9223372036854775807) (h1 : n < 2) :
    Calls Tryd.prog 11 #[.int .i64 n] w fun e w' => e = .returned (.bool true) ∧ Below w.heap.size w w' := by
  have E0 : Hid (Env D w [] [] w) := Lib.hid (Env.start D w)
  go_enter Tryd.func11, Tryd.ntmps11
  have hl := Lib.hid hl0
  clear hl0
  have hb : Hid (belowB n = false) := Lib.hid (by unfold belowB; rw [show Pri.isP n.toNat = false by (unfold Pri.isP; rw [if_pos (by omega)])]; exact Bool.and_false _)
  have d1 : decide (n < 2) = true := decide_eq_true (by omega)
  go_wp2_with fail
  refine (awake05_c (hl.out.below E0.out.bel)).mono ?_
  rintro e w1 ⟨rfl, hb⟩
  have E1 : Hid (Env D w [] [] w1) := Lib.hid (E0.out.below hb)
  clear E0 hb
  go_wp2_with fail
  refine (Root_no (D := D) n (hl.out.below E1.out.bel) hn hb.out).mono ?_
  rintro e w2 ⟨rfl, hb⟩
  have E2 : Hid (Env D w [] [] w2) := Lib.hid (E1.out.below hb)
  clear E1 hb
  have hfin := Lib.hid E2.out.bel
  go_wp2
  go_ret
  exact ⟨rfl, hfin.out⟩
set_option maxRecDepth 100000 in
set_option maxHeartbeats 1000000 in
theorem pr_b {D : Nat → Prop} (n : Int) {w : World}  (hl0 : Laid w) (hn : -9223372036854775808 ≤ n ∧ n ≤ 9223372036854775807) (h1 : 2 ≤ n) (h2 : 2305843009213693952 ≤ n) :
    Calls Tryd.prog 11 #[.int .i64 n] w fun e w' => e = .returned (.bool true) ∧ Below w.heap.size w w' := by
  have E0 : Hid (Env D w [] [] w) := Lib.hid (Env.start D w)
  go_enter Tryd.func11, Tryd.ntmps11
  have hl := Lib.hid hl0
  clear hl0
  have hb : Hid (belowB n = false) := Lib.hid (by unfold belowB; rw [decide_eq_false (by omega)]; rfl)
  have d1 : decide (n < 2) = false := decide_eq_false (by omega)
  have d2 : decide ((2305843009213693952 : Int) ≤ n) = true := decide_eq_true (by omega)
  go_wp2_with fail
  refine (awake05_c (hl.out.below E0.out.bel)).mono ?_
  rintro e w1 ⟨rfl, hb⟩
  have E1 : Hid (Env D w [] [] w1) := Lib.hid (E0.out.below hb)
  clear E0 hb
  go_wp2_with fail
  refine (Root_no (D := D) n (hl.out.below E1.out.bel) hn hb.out).mono ?_
  rintro e w2 ⟨rfl, hb⟩
  have E2 : Hid (Env D w [] [] w2) := Lib.hid (E1.out.below hb)
  clear E1 hb
  have hfin := Lib.hid E2.out.bel
  go_wp2
  go_ret
  exact ⟨rfl, hfin.out⟩
set_option maxRecDepth 100000 in
set_option maxHeartbeats 1000000 in
theorem pr_c {D : Nat → Prop} (n : Int) {w : World}  (hl0 : Laid w) (hn : -9223372036854775808 ≤ n ∧ n ≤ 9223372036854775807) (h1 : 2 ≤ n) (h2 : n ≤ 2305843009213693951) (hp0 : Pri.isP n.toNat = false) :
    Calls Tryd.prog 11 #[.int .i64 n] w fun e w' => e = .returned (.bool true) ∧ Below w.heap.size w w' := by
  have E0 : Hid (Env D w [] [] w) := Lib.hid (Env.start D w)
  go_enter Tryd.func11, Tryd.ntmps11
  have hl := Lib.hid hl0
  clear hl0
  have hb : Hid (belowB n = false) := Lib.hid (by unfold belowB; rw [hp0, Bool.and_false])
  have hp := Lib.hid hp0
  clear hp0
  have d1 : decide (n < 2) = false := decide_eq_false (by omega)
  have d2 : decide ((2305843009213693952 : Int) ≤ n) = false := decide_eq_false (by omega)
  go_wp2_with fail
  refine (awake05_c (hl.out.below E0.out.bel)).mono ?_
  rintro e w1 ⟨rfl, hb⟩
  have E1 : Hid (Env D w [] [] w1) := Lib.hid (E0.out.below hb)
  clear E0 hb
  go_wp2_with fail
  refine (Root_no (D := D) n (hl.out.below E1.out.bel) hn hb.out).mono ?_
  rintro e w2 ⟨rfl, hb⟩
  have E2 : Hid (Env D w [] [] w2) := Lib.hid (E1.out.below hb)
  clear E1 hb
  go_wp2_with fail
  refine (rIsB n _ (by omega) hp.out).mono ?_
  rintro e w3 ⟨rfl, hb⟩
  have E3 : Hid (Env D w [] [] w3) := Lib.hid (E2.out.below hb)
  clear E2 hb
  have hfin := Lib.hid E3.out.bel
  go_wp2
  go_ret
  exact ⟨rfl, hfin.out⟩
set_option maxRecDepth 100000 in
set_option maxHeartbeats 1000000 in
theorem pr_d {D : Nat → Prop} (n : Nat) {w : World}  (hl0 : Laid w) (h1 : 2 ≤ (n : Int)) (h2 : (n : Int) ≤ 2305843009213693951) (hp0 : Pri.isP n = true) (hf0 : Pri.facN (n - 1) = none) :
    Calls Tryd.prog 11 #[.int .i64 (n : Nat)] w fun e w' => e = .returned (.bool true) ∧ Below w.heap.size w w' := by
  have E0 : Hid (Env D w [] [] w) := Lib.hid (Env.start D w)
  go_enter Tryd.func11, Tryd.ntmps11
  have hl := Lib.hid hl0
  have hp := Lib.hid hp0
  have hf := Lib.hid hf0
  clear hl0 hp0 hf0
  have hT := Lib.hid (Int.lt_of_le_of_lt h2 (by decide) : (n : Int) < Top)
  have h29 : 2 ≤ n := by omega
  obtain ⟨p1, hp1⟩ : ∃ p1, p1 = n - 1 := ⟨_, rfl⟩
  have e1 : (n : Int) - 1 = (p1 : Int) := by omega
  have h11 : 1 ≤ (p1 : Int) ∧ (p1 : Int) ≤ 2305843009213693951 := by omega
  have HP1 := Lib.hid hp1
  clear hp1
  have d1 : decide ((n : Int) < 2) = false := decide_eq_false (by omega)
  have d1n : decide (n < 2) = false := decide_eq_false (by omega)
  have d2 : decide ((2305843009213693952 : Int) ≤ (n : Int)) = false := decide_eq_false (by omega)
  have d2n : decide (2305843009213693952 ≤ n) = false := decide_eq_false (by omega)
  go_wp2_with fail
  refine (awake05_c (hl.out.below E0.out.bel)).mono ?_
  rintro e w1 ⟨rfl, hb⟩
  have E1 : Hid (Env D w [] [] w1) := Lib.hid (E0.out.below hb)
  clear E0 hb
  go_wp2_with fail
  refine (Root_none (D := D) n (hl.out.below E1.out.bel) hT.out hp.out hf.out).mono ?_
  rintro e w2 ⟨rfl, hb⟩
  have E2 : Hid (Env D w [] [] w2) := Lib.hid (E1.out.below hb)
  clear E1 hb
  go_wp2_with fail
  refine (rIsB (n : Int) _ (t := true) (by omega) (by rw [Int.toNat_natCast]; exact hp.out)).mono ?_
  rintro e w3 ⟨rfl, hb⟩
  have E3 : Hid (Env D w [] [] w3) := Lib.hid (E2.out.below hb)
  clear E2 hb
  go_wp2_with fail
  refine (rFac_no (D := D) p1 h11.1 h11.2 (by rw [HP1.out]; exact hf.out)).mono ?_
  rintro e w4 ⟨rfl, hb⟩
  have E4 : Hid (Env D w [] [] w4) := Lib.hid (E3.out.below hb)
  clear E3 hb
  have hfin := Lib.hid E4.out.bel
  go_wp2
  go_ret
  exact ⟨rfl, hfin.out⟩
set_option maxRecDepth 100000 in
set_option maxHeartbeats 1000000 in
theorem pr_e {D : Nat → Prop} (n : Nat) {w : World}  (hl0 : Laid w) (h1 : 2 ≤ (n : Int)) (h2 : (n : Int) ≤ 2305843009213693951) (hp0 : Pri.isP n = true) (l : List Nat) (r : Nat) (hf0 : Pri.facN (n - 1) = some l) (hr0 : Pri.RootR n l r) :
    Calls Tryd.prog 11 #[.int .i64 (n : Nat)] w fun e w' => e = .returned (.bool true) ∧ Below w.heap.size w w' := by
  have E0 : Hid (Env D w [] [] w) := Lib.hid (Env.start D w)
  go_enter Tryd.func11, Tryd.ntmps11
  have hl := Lib.hid hl0
  have hp := Lib.hid hp0
  have hf := Lib.hid hf0
  clear hl0 hp0 hf0
  have hr := Lib.hid hr0
  clear hr0
  have hT := Lib.hid (Int.lt_of_le_of_lt h2 (by decide) : (n : Int) < Top)
  have h29 : 2 ≤ n := by omega
  obtain ⟨p1, hp1⟩ : ∃ p1, p1 = n - 1 := ⟨_, rfl⟩
  have e1 : (n : Int) - 1 = (p1 : Int) := by omega
  have h11 : 1 ≤ (p1 : Int) ∧ (p1 : Int) ≤ 2305843009213693951 := by omega
  have HP1 := Lib.hid hp1
  clear hp1
  have hg := Lib.hid (fac_good h29 hT.out hf.out)
  have d1 : decide ((n : Int) < 2) = false := decide_eq_false (by omega)
  have d1n : decide (n < 2) = false := decide_eq_false (by omega)
  have d2 : decide ((2305843009213693952 : Int) ≤ (n : Int)) = false := decide_eq_false (by omega)
  have d2n : decide (2305843009213693952 ≤ n) = false := decide_eq_false (by omega)
  go_wp2_with fail
  refine (awake05_c (hl.out.below E0.out.bel)).mono ?_
  rintro e w1 ⟨rfl, hb⟩
  have E1 : Hid (Env D w [] [] w1) := Lib.hid (E0.out.below hb)
  clear E0 hb
  go_wp2_with fail
  refine (Root_some (D := D) n l r (hl.out.below E1.out.bel) hT.out hp.out hf.out hr.out).mono ?_
  rintro e w2 ⟨rfl, hb⟩
  have E2 : Hid (Env D w [] [] w2) := Lib.hid (E1.out.below hb)
  clear E1 hb
  go_wp2_with fail
  refine (rIsB (n : Int) _ (t := true) (by omega) (by rw [Int.toNat_natCast]; exact hp.out)).mono ?_
  rintro e w3 ⟨rfl, hb⟩
  have E3 : Hid (Env D w [] [] w3) := Lib.hid (E2.out.below hb)
  clear E2 hb
  go_wp2_with fail
  refine (rFac_some (D := D) p1 l h11.1 h11.2 (by rw [HP1.out]; exact hf.out)).mono ?_
  rintro e w4 ⟨⟨za, zk, rfl, zh⟩, hb⟩
  have E4 : Hid (Env D w [] [.rw (.slice za l.length zk) l.length 1 (ncl l)] w4) := Lib.hid (E3.out.got (E3.out.below hb) (.rw (.slice za l.length zk) l.length 1 (ncl l)) (Lib.hid (Rw.ge zh.out)).out)
  clear E3 hb
  go_wp2_with fail
  refine (rRoot_c n r l (E4.out.fc 0 rfl) h29 hT.out hg.out.2 hg.out.1 hr.out).mono ?_
  rintro e w5 ⟨rfl, hb⟩
  have E5 : Hid (Env D w [] [.rw (.slice za l.length zk) l.length 1 (ncl l)] w5) := Lib.hid (E4.out.below hb)
  clear E4 hb
  have hfin := Lib.hid E5.out.bel
  go_wp2
  go_ret
  exact ⟨rfl, hfin.out⟩
theorem PrimeRoots_walk (n : Int) {w : World} (hl : Laid w) (hn : -9223372036854775808 ≤ n ∧ n ≤ 9223372036854775807) :
    Calls Tryd.prog 11 #[.int .i64 n] w fun e w' => e = .returned (.bool true) ∧ Below w.heap.size w w' := by
  by_cases h1 : n < 2
  · exact pr_a (D := fun _ => True) n hl hn h1
  by_cases h2 : 2305843009213693952 ≤ n
  · exact pr_b (D := fun _ => True) n hl hn (by omega) h2
  cases hp : Pri.isP n.toNat with
  | false => exact pr_c (D := fun _ => True) n hl hn (by omega) (by omega) hp
  | true =>
    obtain ⟨m, rfl⟩ : ∃ m : Nat, n = (m : Int) := ⟨n.toNat, by omega⟩
    rw [Int.toNat_natCast] at hp
    cases hf : Pri.facN (m - 1) with
    | none => exact pr_d (D := fun _ => True) m hl (by omega) (by omega) hp hf
    | some l =>
      obtain ⟨r, hr⟩ := Pri.RootR_ex (p := m) (l := l) (by omega) (fac_good (by omega) (by unfold Top; omega) hf).2
      exact pr_e (D := fun _ => True) m hl (by omega) (by omega) hp l r hf hr
end Go.Proofs.YtinlfogpbologaaDoor

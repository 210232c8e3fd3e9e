/- matrix: the law MatrixSystems. -/
import Derived.Test.YtinlfogpbologaaDoorMatLw
import Derived.Test.YtinlfogpbologaaDoorMatY
namespace Go.Proofs.YtinlfogpbologaaDoor
open Go.RowKit DivMath WordMath
set_option linter.unusedVariables false
set_option linter.unusedSimpArgs false
theorem kerL_row {q n : Nat} {P : List Nat} {M : List (List Nat)} : ∀ f, ∀ r ∈ kerL q n P M f, r.length = n
  | 0, r, h => by simp [kerL] at h
  | f + 1, r, h => by
    rw [kerL] at h
    split at h
    · exact kerL_row f r h
    · rcases List.mem_append.1 h with h | h
      · exact kerL_row f r h
      · rcases List.mem_singleton.1 h with rfl; exact kerV_len _
section
variable {D : Nat → Prop} {q n v : Nat} {L M : List (List Nat)} {b P : List Nat} {xa ya : Option Addr} {xk yk : Nat} {w : World}
theorem Count_s (hx : Fct.at w D (.mx (.slice xa L.length xk) (L.map nl))) (hy : Fct.at w D (.rw (.slice ya b.length yk) b.length 1 (ncl b))) (hl : Laid w) (hv : MvI q n L) (hne : b.length = L.length) (hs : ∀ c ∈ b, c < q) (hR : redN q (sysL L b) n = (M, P)) (ht : noneB n (M, P) = false) (hc : cntL q (n - P.length) = some v) :
    Calls Tryd.prog 33 #[.int .i64 (q : Nat), .slice xa L.length xk, .slice ya b.length yk] w fun e w' => e = .returned (.tuple #[.int .i64 (v : Nat), .int .i64 0]) ∧ Below w.heap.size w w' := by
  have h := Count_f q n L M b P hx hy hl hv hne hs hR ht
  rw [hc] at h
  exact h
theorem Count_n (hx : Fct.at w D (.mx (.slice xa L.length xk) (L.map nl))) (hy : Fct.at w D (.rw (.slice ya b.length yk) b.length 1 (ncl b))) (hl : Laid w) (hv : MvI q n L) (hne : b.length = L.length) (hs : ∀ c ∈ b, c < q) (hR : redN q (sysL L b) n = (M, P)) (ht : noneB n (M, P) = false) (hc : cntL q (n - P.length) = none) :
    Calls Tryd.prog 33 #[.int .i64 (q : Nat), .slice xa L.length xk, .slice ya b.length yk] w fun e w' => e = .returned (.tuple #[.int .i64 0, .int .i64 9]) ∧ Below w.heap.size w w' := by
  have h := Count_f q n L M b P hx hy hl hv hne hs hR ht
  rw [hc] at h
  exact h
theorem rCount_s (hx : Fct.at w D (.mx (.slice xa L.length xk) (L.map nl))) (hy : Fct.at w D (.rw (.slice ya b.length yk) b.length 1 (ncl b))) (hv : MvI q n L) (hne : b.length = L.length) (hs : ∀ c ∈ b, c < q) (hR : redN q (sysL L b) n = (M, P)) (ht : noneB n (M, P) = false) (hc : cntL q (n - P.length) = some v) :
    Calls Tryd.prog 38 #[.int .i64 (q : Nat), .slice xa L.length xk, .slice ya b.length yk] w fun e w' => e = .returned (.tuple #[.int .i64 (v : Nat), .bool true]) ∧ Below w.heap.size w w' := by
  have h := rCount_f q n L M b P hx hy hv hne hs hR ht
  rw [hc] at h
  exact h
theorem rCount_n (hx : Fct.at w D (.mx (.slice xa L.length xk) (L.map nl))) (hy : Fct.at w D (.rw (.slice ya b.length yk) b.length 1 (ncl b))) (hv : MvI q n L) (hne : b.length = L.length) (hs : ∀ c ∈ b, c < q) (hR : redN q (sysL L b) n = (M, P)) (ht : noneB n (M, P) = false) (hc : cntL q (n - P.length) = none) :
    Calls Tryd.prog 38 #[.int .i64 (q : Nat), .slice xa L.length xk, .slice ya b.length yk] w fun e w' => e = .returned (.tuple #[.int .i64 0, .bool false]) ∧ Below w.heap.size w w' := by
  have h := rCount_f q n L M b P hx hy hv hne hs hR ht
  rw [hc] at h
  exact h
end
set_option maxRecDepth 100000 in
set_option maxHeartbeats 8000000 in
theorem ms_a {D : Nat → Prop} (q : Int) (M : List (List Int)) (b : List Int) {xa ya : Option Addr} {xk yk : Nat} {w : World} (hx : Fct.at w D (.mx (.slice xa M.length xk) M)) (hy : Fct.at w D (.rw (.slice ya b.length yk) b.length 1 (icl b))) (hl0 : Laid w) (HG0 : [M].any (fun x => grM x) = true)  :
    Calls Tryd.prog 6 #[.int .i64 q, .slice xa M.length xk, .slice ya b.length yk] w fun e w' => e = .returned (.bool true) ∧ Below w.heap.size w w' := by
  have E0 : Hid (Env D w [] [.rw (.slice ya b.length yk) b.length 1 (icl b), .mx (.slice xa M.length xk) M] w) := Lib.hid (((Env.start D w).arg (.mx (.slice xa M.length xk) M) hx).arg (.rw (.slice ya b.length yk) b.length 1 (icl b)) hy)
  clear hx hy
  go_enter Tryd.func6, Tryd.ntmps6
  have hl := Lib.hid hl0
  have HG := Lib.hid HG0
  clear hl0 HG0
  go_wp2_with fail
  refine (awake14_c (hl.out.below E0.out.bel)).mono ?_
  rintro e w1 ⟨rfl, hb⟩
  have E1 : Hid (Env D w [] [.rw (.slice ya b.length yk) b.length 1 (icl b), .mx (.slice xa M.length xk) M] w1) := Lib.hid (E0.out.below hb)
  clear E0 hb
  have E2 : Hid (Env D w [(w1.heap.size, 40, [.slice xa M.length xk])] [.rw (.slice ya b.length yk) b.length 1 (icl b), .mx (.slice xa M.length xk) M] _) := Lib.hid ((E1.out.push 40 [.slice xa M.length xk] (w1.heap.size) (by simp)))
  go_wp2_with fail
  refine (great14_c (t := true) [M] (xb := w1.heap.size) (xo := 0) (xk := 1) (gMats.one (by simp) (E2.out.bx 0 rfl) (E2.out.fc 1 rfl)) HG.out (by simp)).mono ?_
  rintro e w2 ⟨rfl, hb⟩
  have E3 : Hid (Env D w [(w1.heap.size, 40, [.slice xa M.length xk])] [.rw (.slice ya b.length yk) b.length 1 (icl b), .mx (.slice xa M.length xk) M] w2) := Lib.hid (E2.out.below hb)
  clear E1 E2 hb
  have hfin := Lib.hid E3.out.bel
  go_wp2
  go_ret
  exact ⟨rfl, hfin.out⟩
set_option maxRecDepth 100000 in
set_option maxHeartbeats 8000000 in
theorem ms_b {D : Nat → Prop} (q : Int) (M : List (List Int)) (b : List Int) {xa ya : Option Addr} {xk yk : Nat} {w : World} (hx : Fct.at w D (.mx (.slice xa M.length xk) M)) (hy : Fct.at w D (.rw (.slice ya b.length yk) b.length 1 (icl b))) (hl0 : Laid w) (HG0 : [M].any (fun x => grM x) = false) (h1 : 100 < b.length) :
    Calls Tryd.prog 6 #[.int .i64 q, .slice xa M.length xk, .slice ya b.length yk] w fun e w' => e = .returned (.bool true) ∧ Below w.heap.size w w' := by
  have E0 : Hid (Env D w [] [.rw (.slice ya b.length yk) b.length 1 (icl b), .mx (.slice xa M.length xk) M] w) := Lib.hid (((Env.start D w).arg (.mx (.slice xa M.length xk) M) hx).arg (.rw (.slice ya b.length yk) b.length 1 (icl b)) hy)
  clear hx hy
  go_enter Tryd.func6, Tryd.ntmps6
  have hl := Lib.hid hl0
  have HG := Lib.hid HG0
  clear hl0 HG0
  go_wp2_with fail
  refine (awake14_c (hl.out.below E0.out.bel)).mono ?_
  rintro e w1 ⟨rfl, hb⟩
  have E1 : Hid (Env D w [] [.rw (.slice ya b.length yk) b.length 1 (icl b), .mx (.slice xa M.length xk) M] w1) := Lib.hid (E0.out.below hb)
  clear E0 hb
  have d3 : decide ((100 : Int) < (b.length : Int)) = true := decide_eq_true (by omega)
  have d3n : decide (100 < b.length) = true := decide_eq_true (by omega)
  clear h1
  have E2 : Hid (Env D w [(w1.heap.size, 40, [.slice xa M.length xk])] [.rw (.slice ya b.length yk) b.length 1 (icl b), .mx (.slice xa M.length xk) M] _) := Lib.hid ((E1.out.push 40 [.slice xa M.length xk] (w1.heap.size) (by simp)))
  go_wp2_with fail
  refine (great14_c (t := false) [M] (xb := w1.heap.size) (xo := 0) (xk := 1) (gMats.one (by simp) (E2.out.bx 0 rfl) (E2.out.fc 1 rfl)) HG.out (by simp)).mono ?_
  rintro e w2 ⟨rfl, hb⟩
  have E3 : Hid (Env D w [(w1.heap.size, 40, [.slice xa M.length xk])] [.rw (.slice ya b.length yk) b.length 1 (icl b), .mx (.slice xa M.length xk) M] w2) := Lib.hid (E2.out.below hb)
  clear E1 E2 hb
  have hfin := Lib.hid E3.out.bel
  go_wp2
  go_ret
  exact ⟨rfl, hfin.out⟩
set_option maxRecDepth 100000 in
set_option maxHeartbeats 8000000 in
theorem ms_c {D : Nat → Prop} (q : Int) (M : List (List Int)) (b : List Int) {xa ya : Option Addr} {xk yk : Nat} {w : World} (hx : Fct.at w D (.mx (.slice xa M.length xk) M)) (hy : Fct.at w D (.rw (.slice ya b.length yk) b.length 1 (icl b))) (hl0 : Laid w) (HG0 : [M].any (fun x => grM x) = false) (hn : -9223372036854775808 ≤ q ∧ q ≤ 9223372036854775807) (h1 : b.length ≤ 100) (hv0 : mvB q M = false) :
    Calls Tryd.prog 6 #[.int .i64 q, .slice xa M.length xk, .slice ya b.length yk] w fun e w' => e = .returned (.bool true) ∧ Below w.heap.size w w' := by
  have E0 : Hid (Env D w [] [.rw (.slice ya b.length yk) b.length 1 (icl b), .mx (.slice xa M.length xk) M] w) := Lib.hid (((Env.start D w).arg (.mx (.slice xa M.length xk) M) hx).arg (.rw (.slice ya b.length yk) b.length 1 (icl b)) hy)
  clear hx hy
  go_enter Tryd.func6, Tryd.ntmps6
  have hl := Lib.hid hl0
  have HG := Lib.hid HG0
  have hv := Lib.hid hv0
  clear hl0 HG0 hv0
  go_wp2_with fail
  refine (awake14_c (hl.out.below E0.out.bel)).mono ?_
  rintro e w1 ⟨rfl, hb⟩
  have E1 : Hid (Env D w [] [.rw (.slice ya b.length yk) b.length 1 (icl b), .mx (.slice xa M.length xk) M] w1) := Lib.hid (E0.out.below hb)
  clear E0 hb
  have d3 : decide ((100 : Int) < (b.length : Int)) = false := decide_eq_false (by omega)
  have d3n : decide (100 < b.length) = false := decide_eq_false (by omega)
  have E2 : Hid (Env D w [(w1.heap.size, 40, [.slice xa M.length xk])] [.rw (.slice ya b.length yk) b.length 1 (icl b), .mx (.slice xa M.length xk) M] _) := Lib.hid ((E1.out.push 40 [.slice xa M.length xk] (w1.heap.size) (by simp)))
  go_wp2_with fail
  refine (great14_c (t := false) [M] (xb := w1.heap.size) (xo := 0) (xk := 1) (gMats.one (by simp) (E2.out.bx 0 rfl) (E2.out.fc 1 rfl)) HG.out (by simp)).mono ?_
  rintro e w2 ⟨rfl, hb⟩
  have E3 : Hid (Env D w [(w1.heap.size, 40, [.slice xa M.length xk])] [.rw (.slice ya b.length yk) b.length 1 (icl b), .mx (.slice xa M.length xk) M] w2) := Lib.hid (E2.out.below hb)
  clear E1 E2 hb
  go_wp2_with fail
  refine (Solve_no q M b (E3.out.fc 1 rfl) (E3.out.fc 0 rfl) (hl.out.below E3.out.bel) hn hv.out).mono ?_
  rintro e w3 ⟨rfl, hb⟩
  have E4 : Hid (Env D w [(w1.heap.size, 40, [.slice xa M.length xk])] [.rw (.slice ya b.length yk) b.length 1 (icl b), .mx (.slice xa M.length xk) M] w3) := Lib.hid (E3.out.below hb)
  clear E3 hb
  go_wp2_with fail
  refine (Count_no q M b (E4.out.fc 1 rfl) (E4.out.fc 0 rfl) (hl.out.below E4.out.bel) hn hv.out).mono ?_
  rintro e w4 ⟨rfl, hb⟩
  have E5 : Hid (Env D w [(w1.heap.size, 40, [.slice xa M.length xk])] [.rw (.slice ya b.length yk) b.length 1 (icl b), .mx (.slice xa M.length xk) M] w4) := Lib.hid (E4.out.below hb)
  clear E4 hb
  go_wp2_with fail
  refine (rMValid_c q M (E5.out.fc 1 rfl) hn.1 hv.out).mono ?_
  rintro e w5 ⟨rfl, hb⟩
  have E6 : Hid (Env D w [(w1.heap.size, 40, [.slice xa M.length xk])] [.rw (.slice ya b.length yk) b.length 1 (icl b), .mx (.slice xa M.length xk) M] w5) := Lib.hid (E5.out.below hb)
  clear E5 hb
  have hfin := Lib.hid E6.out.bel
  go_wp2
  go_ret
  exact ⟨rfl, hfin.out⟩
set_option maxRecDepth 100000 in
set_option maxHeartbeats 8000000 in
theorem ms_d {D : Nat → Prop} (q n : Nat) (L : List (List Nat)) (b : List Int) {xa ya : Option Addr} {xk yk : Nat} {w : World} (hx : Fct.at w D (.mx (.slice xa L.length xk) (L.map nl))) (hy : Fct.at w D (.rw (.slice ya b.length yk) b.length 1 (icl b))) (hl0 : Laid w) (HG0 : [L.map nl].any (fun x => grM x) = false) (h1 : b.length ≤ 100) (hv0 : MvI q n L) (hs0 : ¬ b.length = L.length) :
    Calls Tryd.prog 6 #[.int .i64 (q : Nat), .slice xa L.length xk, .slice ya b.length yk] w fun e w' => e = .returned (.bool true) ∧ Below w.heap.size w w' := by
  have E0 : Hid (Env D w [] [.rw (.slice ya b.length yk) b.length 1 (icl b), .mx (.slice xa L.length xk) (L.map nl)] w) := Lib.hid (((Env.start D w).arg (.mx (.slice xa L.length xk) (L.map nl)) hx).arg (.rw (.slice ya b.length yk) b.length 1 (icl b)) hy)
  clear hx hy
  go_enter Tryd.func6, Tryd.ntmps6
  have hl := Lib.hid hl0
  have HG := Lib.hid HG0
  have hv := Lib.hid hv0
  have hs := Lib.hid hs0
  clear hl0 HG0 hv0 hs0
  go_wp2_with fail
  refine (awake14_c (hl.out.below E0.out.bel)).mono ?_
  rintro e w1 ⟨rfl, hb⟩
  have E1 : Hid (Env D w [] [.rw (.slice ya b.length yk) b.length 1 (icl b), .mx (.slice xa L.length xk) (L.map nl)] w1) := Lib.hid (E0.out.below hb)
  clear E0 hb
  have d3 : decide ((100 : Int) < (b.length : Int)) = false := decide_eq_false (by omega)
  have d3n : decide (100 < b.length) = false := decide_eq_false (by omega)
  have E2 : Hid (Env D w [(w1.heap.size, 40, [.slice xa L.length xk])] [.rw (.slice ya b.length yk) b.length 1 (icl b), .mx (.slice xa L.length xk) (L.map nl)] _) := Lib.hid ((E1.out.push 40 [.slice xa L.length xk] (w1.heap.size) (by simp)))
  go_wp2_with fail
  refine (great14_c (t := false) [L.map nl] (xb := w1.heap.size) (xo := 0) (xk := 1) (gMats.one (by simp) (E2.out.bx 0 rfl) (E2.out.fc 1 rfl)) HG.out (by simp)).mono ?_
  rintro e w2 ⟨rfl, hb⟩
  have E3 : Hid (Env D w [(w1.heap.size, 40, [.slice xa L.length xk])] [.rw (.slice ya b.length yk) b.length 1 (icl b), .mx (.slice xa L.length xk) (L.map nl)] w2) := Lib.hid (E2.out.below hb)
  clear E1 E2 hb
  go_wp2_with fail
  refine (Solve_len q n L b (E3.out.fc 1 rfl) (E3.out.fc 0 rfl) (hl.out.below E3.out.bel) hv.out hs.out).mono ?_
  rintro e w3 ⟨rfl, hb⟩
  have E4 : Hid (Env D w [(w1.heap.size, 40, [.slice xa L.length xk])] [.rw (.slice ya b.length yk) b.length 1 (icl b), .mx (.slice xa L.length xk) (L.map nl)] w3) := Lib.hid (E3.out.below hb)
  clear E3 hb
  go_wp2_with fail
  refine (Count_len q n L b (E4.out.fc 1 rfl) (E4.out.fc 0 rfl) (hl.out.below E4.out.bel) hv.out hs.out).mono ?_
  rintro e w4 ⟨rfl, hb⟩
  have E5 : Hid (Env D w [(w1.heap.size, 40, [.slice xa L.length xk])] [.rw (.slice ya b.length yk) b.length 1 (icl b), .mx (.slice xa L.length xk) (L.map nl)] w4) := Lib.hid (E4.out.below hb)
  clear E4 hb
  have n1 : ((b.length : Int) != (L.length : Int)) = true := by have h2 := hs.out; rw [bne_iff_ne]; omega
  have n2 : (b.length != L.length) = true := by have h2 := hs.out; rw [bne_iff_ne]; omega
  go_wp2_with fail
  refine (rMValidN (E5.out.fc 1 rfl) hv.out).mono ?_
  rintro e w5 ⟨rfl, hb⟩
  have E6 : Hid (Env D w [(w1.heap.size, 40, [.slice xa L.length xk])] [.rw (.slice ya b.length yk) b.length 1 (icl b), .mx (.slice xa L.length xk) (L.map nl)] w5) := Lib.hid (E5.out.below hb)
  clear E5 hb
  have hfin := Lib.hid E6.out.bel
  go_wp2
  go_ret
  exact ⟨rfl, hfin.out⟩
set_option maxRecDepth 100000 in
set_option maxHeartbeats 8000000 in
theorem ms_e {D : Nat → Prop} (q n : Nat) (L : List (List Nat)) (b : List Int) {xa ya : Option Addr} {xk yk : Nat} {w : World} (hx : Fct.at w D (.mx (.slice xa L.length xk) (L.map nl))) (hy : Fct.at w D (.rw (.slice ya b.length yk) b.length 1 (icl b))) (hl0 : Laid w) (HG0 : [L.map nl].any (fun x => grM x) = false) (h1 : b.length ≤ 100) (hv0 : MvI q n L) (hs0 : b.length = L.length) (hr0 : b.all (resB (q : Int)) = false) :
    Calls Tryd.prog 6 #[.int .i64 (q : Nat), .slice xa L.length xk, .slice ya b.length yk] w fun e w' => e = .returned (.bool true) ∧ Below w.heap.size w w' := by
  have E0 : Hid (Env D w [] [.rw (.slice ya b.length yk) b.length 1 (icl b), .mx (.slice xa L.length xk) (L.map nl)] w) := Lib.hid (((Env.start D w).arg (.mx (.slice xa L.length xk) (L.map nl)) hx).arg (.rw (.slice ya b.length yk) b.length 1 (icl b)) hy)
  clear hx hy
  go_enter Tryd.func6, Tryd.ntmps6
  have hl := Lib.hid hl0
  have HG := Lib.hid HG0
  have hv := Lib.hid hv0
  have hs := Lib.hid hs0
  have hr := Lib.hid hr0
  clear hl0 HG0 hv0 hs0 hr0
  go_wp2_with fail
  refine (awake14_c (hl.out.below E0.out.bel)).mono ?_
  rintro e w1 ⟨rfl, hb⟩
  have E1 : Hid (Env D w [] [.rw (.slice ya b.length yk) b.length 1 (icl b), .mx (.slice xa L.length xk) (L.map nl)] w1) := Lib.hid (E0.out.below hb)
  clear E0 hb
  have d3 : decide ((100 : Int) < (b.length : Int)) = false := decide_eq_false (by omega)
  have d3n : decide (100 < b.length) = false := decide_eq_false (by omega)
  have E2 : Hid (Env D w [(w1.heap.size, 40, [.slice xa L.length xk])] [.rw (.slice ya b.length yk) b.length 1 (icl b), .mx (.slice xa L.length xk) (L.map nl)] _) := Lib.hid ((E1.out.push 40 [.slice xa L.length xk] (w1.heap.size) (by simp)))
  go_wp2_with fail
  refine (great14_c (t := false) [L.map nl] (xb := w1.heap.size) (xo := 0) (xk := 1) (gMats.one (by simp) (E2.out.bx 0 rfl) (E2.out.fc 1 rfl)) HG.out (by simp)).mono ?_
  rintro e w2 ⟨rfl, hb⟩
  have E3 : Hid (Env D w [(w1.heap.size, 40, [.slice xa L.length xk])] [.rw (.slice ya b.length yk) b.length 1 (icl b), .mx (.slice xa L.length xk) (L.map nl)] w2) := Lib.hid (E2.out.below hb)
  clear E1 E2 hb
  go_wp2_with fail
  refine (Solve_rng q n L b (E3.out.fc 1 rfl) (E3.out.fc 0 rfl) (hl.out.below E3.out.bel) hv.out hs.out hr.out).mono ?_
  rintro e w3 ⟨rfl, hb⟩
  have E4 : Hid (Env D w [(w1.heap.size, 40, [.slice xa L.length xk])] [.rw (.slice ya b.length yk) b.length 1 (icl b), .mx (.slice xa L.length xk) (L.map nl)] w3) := Lib.hid (E3.out.below hb)
  clear E3 hb
  go_wp2_with fail
  refine (Count_rng q n L b (E4.out.fc 1 rfl) (E4.out.fc 0 rfl) (hl.out.below E4.out.bel) hv.out hs.out hr.out).mono ?_
  rintro e w4 ⟨rfl, hb⟩
  have E5 : Hid (Env D w [(w1.heap.size, 40, [.slice xa L.length xk])] [.rw (.slice ya b.length yk) b.length 1 (icl b), .mx (.slice xa L.length xk) (L.map nl)] w4) := Lib.hid (E4.out.below hb)
  clear E4 hb
  have n1 : ((b.length : Int) != (L.length : Int)) = false := by have h2 := hs.out; rw [h2]; simp
  have n2 : (b.length != L.length) = false := by have h2 := hs.out; rw [h2]; simp
  go_wp2_with fail
  refine (rMValidN (E5.out.fc 1 rfl) hv.out).mono ?_
  rintro e w5 ⟨rfl, hb⟩
  have E6 : Hid (Env D w [(w1.heap.size, 40, [.slice xa L.length xk])] [.rw (.slice ya b.length yk) b.length 1 (icl b), .mx (.slice xa L.length xk) (L.map nl)] w5) := Lib.hid (E5.out.below hb)
  clear E5 hb
  go_wp2_with fail
  refine (rVector_c (q : Int) b (E6.out.fc 0 rfl) hr.out (by omega)).mono ?_
  rintro e w6 ⟨rfl, hb⟩
  have E7 : Hid (Env D w [(w1.heap.size, 40, [.slice xa L.length xk])] [.rw (.slice ya b.length yk) b.length 1 (icl b), .mx (.slice xa L.length xk) (L.map nl)] w6) := Lib.hid (E6.out.below hb)
  clear E6 hb
  have hfin := Lib.hid E7.out.bel
  go_wp2
  go_ret
  exact ⟨rfl, hfin.out⟩
set_option maxRecDepth 100000 in
set_option maxHeartbeats 8000000 in
theorem ms_f {D : Nat → Prop} (q n : Nat) (L M : List (List Nat)) (b P : List Nat) {xa ya : Option Addr} {xk yk : Nat} {w : World} (hx : Fct.at w D (.mx (.slice xa L.length xk) (L.map nl))) (hy : Fct.at w D (.rw (.slice ya b.length yk) b.length 1 (ncl b))) (hl0 : Laid w) (HG0 : [L.map nl].any (fun x => grM x) = false) (h1 : b.length ≤ 100) (hv0 : MvI q n L) (hs0 : b.length = L.length) (hr0 : ∀ c ∈ b, c < q) (hR0 : redN q (sysL L b) n = (M, P)) (ht0 : noneB n (M, P) = true) :
    Calls Tryd.prog 6 #[.int .i64 (q : Nat), .slice xa L.length xk, .slice ya b.length yk] w fun e w' => e = .returned (.bool true) ∧ Below w.heap.size w w' := by
  have E0 : Hid (Env D w [] [.rw (.slice ya b.length yk) b.length 1 (ncl b), .mx (.slice xa L.length xk) (L.map nl)] w) := Lib.hid (((Env.start D w).arg (.mx (.slice xa L.length xk) (L.map nl)) hx).arg (.rw (.slice ya b.length yk) b.length 1 (ncl b)) hy)
  clear hx hy
  go_enter Tryd.func6, Tryd.ntmps6
  have hl := Lib.hid hl0
  have HG := Lib.hid HG0
  have hv := Lib.hid hv0
  have hs := Lib.hid hs0
  have hr := Lib.hid hr0
  have hR := Lib.hid hR0
  have ht := Lib.hid ht0
  clear hl0 HG0 hv0 hs0 hr0 hR0 ht0
  go_wp2_with fail
  refine (awake14_c (hl.out.below E0.out.bel)).mono ?_
  rintro e w1 ⟨rfl, hb⟩
  have E1 : Hid (Env D w [] [.rw (.slice ya b.length yk) b.length 1 (ncl b), .mx (.slice xa L.length xk) (L.map nl)] w1) := Lib.hid (E0.out.below hb)
  clear E0 hb
  have d3 : decide ((100 : Int) < (b.length : Int)) = false := decide_eq_false (by omega)
  have d3n : decide (100 < b.length) = false := decide_eq_false (by omega)
  have E2 : Hid (Env D w [(w1.heap.size, 40, [.slice xa L.length xk])] [.rw (.slice ya b.length yk) b.length 1 (ncl b), .mx (.slice xa L.length xk) (L.map nl)] _) := Lib.hid ((E1.out.push 40 [.slice xa L.length xk] (w1.heap.size) (by simp)))
  go_wp2_with fail
  refine (great14_c (t := false) [L.map nl] (xb := w1.heap.size) (xo := 0) (xk := 1) (gMats.one (by simp) (E2.out.bx 0 rfl) (E2.out.fc 1 rfl)) HG.out (by simp)).mono ?_
  rintro e w2 ⟨rfl, hb⟩
  have E3 : Hid (Env D w [(w1.heap.size, 40, [.slice xa L.length xk])] [.rw (.slice ya b.length yk) b.length 1 (ncl b), .mx (.slice xa L.length xk) (L.map nl)] w2) := Lib.hid (E2.out.below hb)
  clear E1 E2 hb
  go_wp2_with fail
  refine (Solve_t q n L M b P (E3.out.fc 1 rfl) (E3.out.fc 0 rfl) (hl.out.below E3.out.bel) hv.out hs.out hr.out hR.out ht.out).mono ?_
  rintro e w3 ⟨rfl, hb⟩
  have E4 : Hid (Env D w [(w1.heap.size, 40, [.slice xa L.length xk])] [.rw (.slice ya b.length yk) b.length 1 (ncl b), .mx (.slice xa L.length xk) (L.map nl)] w3) := Lib.hid (E3.out.below hb)
  clear E3 hb
  go_wp2_with fail
  refine (Count_t q n L M b P (E4.out.fc 1 rfl) (E4.out.fc 0 rfl) (hl.out.below E4.out.bel) hv.out hs.out hr.out hR.out ht.out).mono ?_
  rintro e w4 ⟨rfl, hb⟩
  have E5 : Hid (Env D w [(w1.heap.size, 40, [.slice xa L.length xk])] [.rw (.slice ya b.length yk) b.length 1 (ncl b), .mx (.slice xa L.length xk) (L.map nl)] w4) := Lib.hid (E4.out.below hb)
  clear E4 hb
  have n1 : ((b.length : Int) != (L.length : Int)) = false := by have h2 := hs.out; rw [h2]; simp
  have n2 : (b.length != L.length) = false := by have h2 := hs.out; rw [h2]; simp
  go_wp2_with fail
  refine (rMValidN (E5.out.fc 1 rfl) hv.out).mono ?_
  rintro e w5 ⟨rfl, hb⟩
  have E6 : Hid (Env D w [(w1.heap.size, 40, [.slice xa L.length xk])] [.rw (.slice ya b.length yk) b.length 1 (ncl b), .mx (.slice xa L.length xk) (L.map nl)] w5) := Lib.hid (E5.out.below hb)
  clear E5 hb
  go_wp2_with fail
  refine (rVecN (E6.out.fc 0 rfl) hr.out (by omega)).mono ?_
  rintro e w6 ⟨rfl, hb⟩
  have E7 : Hid (Env D w [(w1.heap.size, 40, [.slice xa L.length xk])] [.rw (.slice ya b.length yk) b.length 1 (ncl b), .mx (.slice xa L.length xk) (L.map nl)] w6) := Lib.hid (E6.out.below hb)
  clear E6 hb
  go_wp2_with fail
  refine (rSolve_t (E7.out.fc 1 rfl) (E7.out.fc 0 rfl) hv.out hs.out hr.out hR.out ht.out).mono ?_
  rintro e w7 ⟨rfl, hb⟩
  have E8 : Hid (Env D w [(w1.heap.size, 40, [.slice xa L.length xk])] [.rw (.slice ya b.length yk) b.length 1 (ncl b), .mx (.slice xa L.length xk) (L.map nl)] w7) := Lib.hid (E7.out.below hb)
  clear E7 hb
  have hfin := Lib.hid E8.out.bel
  go_wp2
  go_ret
  exact ⟨rfl, hfin.out⟩
set_option maxRecDepth 100000 in
set_option maxHeartbeats 8000000 in
theorem ms_g {D : Nat → Prop} (q n : Nat) (L M : List (List Nat)) (b P : List Nat) {xa ya : Option Addr} {xk yk : Nat} (v : Nat) {w : World} (hx : Fct.at w D (.mx (.slice xa L.length xk) (L.map nl))) (hy : Fct.at w D (.rw (.slice ya b.length yk) b.length 1 (ncl b))) (hl0 : Laid w) (HG0 : [L.map nl].any (fun x => grM x) = false) (h1 : b.length ≤ 100) (hv0 : MvI q n L) (hs0 : b.length = L.length) (hr0 : ∀ c ∈ b, c < q) (hR0 : redN q (sysL L b) n = (M, P)) (ht0 : noneB n (M, P) = false) (hc0 : cntL q (n - P.length) = some v) :
    Calls Tryd.prog 6 #[.int .i64 (q : Nat), .slice xa L.length xk, .slice ya b.length yk] w fun e w' => e = .returned (.bool true) ∧ Below w.heap.size w w' := by
  have E0 : Hid (Env D w [] [.rw (.slice ya b.length yk) b.length 1 (ncl b), .mx (.slice xa L.length xk) (L.map nl)] w) := Lib.hid (((Env.start D w).arg (.mx (.slice xa L.length xk) (L.map nl)) hx).arg (.rw (.slice ya b.length yk) b.length 1 (ncl b)) hy)
  clear hx hy
  go_enter Tryd.func6, Tryd.ntmps6
  have hl := Lib.hid hl0
  have HG := Lib.hid HG0
  have hv := Lib.hid hv0
  have hs := Lib.hid hs0
  have hr := Lib.hid hr0
  have hR := Lib.hid hR0
  have ht := Lib.hid ht0
  have hc := Lib.hid hc0
  clear hl0 HG0 hv0 hs0 hr0 hR0 ht0 hc0
  go_wp2_with fail
  refine (awake14_c (hl.out.below E0.out.bel)).mono ?_
  rintro e w1 ⟨rfl, hb⟩
  have E1 : Hid (Env D w [] [.rw (.slice ya b.length yk) b.length 1 (ncl b), .mx (.slice xa L.length xk) (L.map nl)] w1) := Lib.hid (E0.out.below hb)
  clear E0 hb
  have d3 : decide ((100 : Int) < (b.length : Int)) = false := decide_eq_false (by omega)
  have d3n : decide (100 < b.length) = false := decide_eq_false (by omega)
  have E2 : Hid (Env D w [(w1.heap.size, 40, [.slice xa L.length xk])] [.rw (.slice ya b.length yk) b.length 1 (ncl b), .mx (.slice xa L.length xk) (L.map nl)] _) := Lib.hid ((E1.out.push 40 [.slice xa L.length xk] (w1.heap.size) (by simp)))
  go_wp2_with fail
  refine (great14_c (t := false) [L.map nl] (xb := w1.heap.size) (xo := 0) (xk := 1) (gMats.one (by simp) (E2.out.bx 0 rfl) (E2.out.fc 1 rfl)) HG.out (by simp)).mono ?_
  rintro e w2 ⟨rfl, hb⟩
  have E3 : Hid (Env D w [(w1.heap.size, 40, [.slice xa L.length xk])] [.rw (.slice ya b.length yk) b.length 1 (ncl b), .mx (.slice xa L.length xk) (L.map nl)] w2) := Lib.hid (E2.out.below hb)
  clear E1 E2 hb
  go_wp2_with fail
  refine (Solve_f q n L M b P (E3.out.fc 1 rfl) (E3.out.fc 0 rfl) (hl.out.below E3.out.bel) hv.out hs.out hr.out hR.out ht.out).mono ?_
  rintro e w3 ⟨⟨cv, cx, cu, cy, rfl, ch, cg⟩, hb⟩
  have E4 : Hid (Env D w [(w1.heap.size, 40, [.slice xa L.length xk])] [.mx (.slice cu (kerL q n P M n).length cy) ((kerL q n P M n).map nl), .rw (.slice cv (partV n P M P.length).length cx) (partV n P M P.length).length 1 (ncl (partV n P M P.length)), .rw (.slice ya b.length yk) b.length 1 (ncl b), .mx (.slice xa L.length xk) (L.map nl)] w3) := Lib.hid (E3.out.got (E3.out.got (E3.out.below hb) (.rw (.slice cv (partV n P M P.length).length cx) (partV n P M P.length).length 1 (ncl (partV n P M P.length))) ch.out) (.mx (.slice cu (kerL q n P M n).length cy) ((kerL q n P M n).map nl)) cg.out)
  clear E3 hb ch cg
  go_wp2_with fail
  refine (Count_s (E4.out.fc 3 rfl) (E4.out.fc 2 rfl) (hl.out.below E4.out.bel) hv.out hs.out hr.out hR.out ht.out hc.out).mono ?_
  rintro e w4 ⟨rfl, hb⟩
  have E5 : Hid (Env D w [(w1.heap.size, 40, [.slice xa L.length xk])] [.mx (.slice cu (kerL q n P M n).length cy) ((kerL q n P M n).map nl), .rw (.slice cv (partV n P M P.length).length cx) (partV n P M P.length).length 1 (ncl (partV n P M P.length)), .rw (.slice ya b.length yk) b.length 1 (ncl b), .mx (.slice xa L.length xk) (L.map nl)] w4) := Lib.hid (E4.out.below hb)
  clear E4 hb
  have n1 : ((b.length : Int) != (L.length : Int)) = false := by have h2 := hs.out; rw [h2]; simp
  have n2 : (b.length != L.length) = false := by have h2 := hs.out; rw [h2]; simp
  go_wp2_with fail
  refine (rMValidN (E5.out.fc 3 rfl) hv.out).mono ?_
  rintro e w5 ⟨rfl, hb⟩
  have E6 : Hid (Env D w [(w1.heap.size, 40, [.slice xa L.length xk])] [.mx (.slice cu (kerL q n P M n).length cy) ((kerL q n P M n).map nl), .rw (.slice cv (partV n P M P.length).length cx) (partV n P M P.length).length 1 (ncl (partV n P M P.length)), .rw (.slice ya b.length yk) b.length 1 (ncl b), .mx (.slice xa L.length xk) (L.map nl)] w5) := Lib.hid (E5.out.below hb)
  clear E5 hb
  go_wp2_with fail
  refine (rVecN (E6.out.fc 2 rfl) hr.out (by omega)).mono ?_
  rintro e w6 ⟨rfl, hb⟩
  have E7 : Hid (Env D w [(w1.heap.size, 40, [.slice xa L.length xk])] [.mx (.slice cu (kerL q n P M n).length cy) ((kerL q n P M n).map nl), .rw (.slice cv (partV n P M P.length).length cx) (partV n P M P.length).length 1 (ncl (partV n P M P.length)), .rw (.slice ya b.length yk) b.length 1 (ncl b), .mx (.slice xa L.length xk) (L.map nl)] w6) := Lib.hid (E6.out.below hb)
  clear E6 hb
  go_wp2_with fail
  refine (rSolve_f (E7.out.fc 3 rfl) (E7.out.fc 2 rfl) hv.out hs.out hr.out hR.out ht.out).mono ?_
  rintro e w7 ⟨⟨dv, dx, du, dy, rfl, dh, dg⟩, hb⟩
  have E8 : Hid (Env D w [(w1.heap.size, 40, [.slice xa L.length xk])] [.mx (.slice du (kerL q n P M n).length dy) ((kerL q n P M n).map nl), .rw (.slice dv (partV n P M P.length).length dx) (partV n P M P.length).length 1 (ncl (partV n P M P.length)), .mx (.slice cu (kerL q n P M n).length cy) ((kerL q n P M n).map nl), .rw (.slice cv (partV n P M P.length).length cx) (partV n P M P.length).length 1 (ncl (partV n P M P.length)), .rw (.slice ya b.length yk) b.length 1 (ncl b), .mx (.slice xa L.length xk) (L.map nl)] w7) := Lib.hid (E7.out.got (E7.out.got (E7.out.below hb) (.rw (.slice dv (partV n P M P.length).length dx) (partV n P M P.length).length 1 (ncl (partV n P M P.length))) dh.out) (.mx (.slice du (kerL q n P M n).length dy) ((kerL q n P M n).map nl)) dg.out)
  clear E7 hb dh dg
  have n31 := Lib.hid hv.out.n30
  go_wp2_with fail
  refine (equalN_c (t := true) (a := (partV n P M P.length)) (b := (partV n P M P.length)) (E8.out.fc 3 rfl) (E8.out.fc 1 rfl) (by rw [partV_len]; exact Nat.le_trans n31.out (by omega)) (by rw [partV_len]; exact Nat.le_trans n31.out (by omega)) (by simp)).mono ?_
  rintro e w8 ⟨rfl, hb⟩
  have E9 : Hid (Env D w [(w1.heap.size, 40, [.slice xa L.length xk])] [.mx (.slice du (kerL q n P M n).length dy) ((kerL q n P M n).map nl), .rw (.slice dv (partV n P M P.length).length dx) (partV n P M P.length).length 1 (ncl (partV n P M P.length)), .mx (.slice cu (kerL q n P M n).length cy) ((kerL q n P M n).map nl), .rw (.slice cv (partV n P M P.length).length cx) (partV n P M P.length).length 1 (ncl (partV n P M P.length)), .rw (.slice ya b.length yk) b.length 1 (ncl b), .mx (.slice xa L.length xk) (L.map nl)] w8) := Lib.hid (E8.out.below hb)
  clear E8 hb
  go_wp2_with fail
  refine (rSameN (L := (kerL q n P M n)) (E9.out.fc 2 rfl) (E9.out.fc 0 rfl) (Nat.le_trans (kerL_len_le _) (Nat.le_trans n31.out (by omega))) (fun r h => by rw [kerL_row _ r h]; exact Nat.le_trans n31.out (by omega))).mono ?_
  rintro e w9 ⟨rfl, hb⟩
  have E10 : Hid (Env D w [(w1.heap.size, 40, [.slice xa L.length xk])] [.mx (.slice du (kerL q n P M n).length dy) ((kerL q n P M n).map nl), .rw (.slice dv (partV n P M P.length).length dx) (partV n P M P.length).length 1 (ncl (partV n P M P.length)), .mx (.slice cu (kerL q n P M n).length cy) ((kerL q n P M n).map nl), .rw (.slice cv (partV n P M P.length).length cx) (partV n P M P.length).length 1 (ncl (partV n P M P.length)), .rw (.slice ya b.length yk) b.length 1 (ncl b), .mx (.slice xa L.length xk) (L.map nl)] w9) := Lib.hid (E9.out.below hb)
  clear E9 hb
  go_wp2_with fail
  refine (rCount_s (E10.out.fc 5 rfl) (E10.out.fc 4 rfl) hv.out hs.out hr.out hR.out ht.out hc.out).mono ?_
  rintro e w10 ⟨rfl, hb⟩
  have E11 : Hid (Env D w [(w1.heap.size, 40, [.slice xa L.length xk])] [.mx (.slice du (kerL q n P M n).length dy) ((kerL q n P M n).map nl), .rw (.slice dv (partV n P M P.length).length dx) (partV n P M P.length).length 1 (ncl (partV n P M P.length)), .mx (.slice cu (kerL q n P M n).length cy) ((kerL q n P M n).map nl), .rw (.slice cv (partV n P M P.length).length cx) (partV n P M P.length).length 1 (ncl (partV n P M P.length)), .rw (.slice ya b.length yk) b.length 1 (ncl b), .mx (.slice xa L.length xk) (L.map nl)] w10) := Lib.hid (E10.out.below hb)
  clear E10 hb
  have hfin := Lib.hid E11.out.bel
  go_wp2
  go_ret
  exact ⟨rfl, hfin.out⟩
set_option maxRecDepth 100000 in
set_option maxHeartbeats 8000000 in
theorem ms_h {D : Nat → Prop} (q n : Nat) (L M : List (List Nat)) (b P : List Nat) {xa ya : Option Addr} {xk yk : Nat} {w : World} (hx : Fct.at w D (.mx (.slice xa L.length xk) (L.map nl))) (hy : Fct.at w D (.rw (.slice ya b.length yk) b.length 1 (ncl b))) (hl0 : Laid w) (HG0 : [L.map nl].any (fun x => grM x) = false) (h1 : b.length ≤ 100) (hv0 : MvI q n L) (hs0 : b.length = L.length) (hr0 : ∀ c ∈ b, c < q) (hR0 : redN q (sysL L b) n = (M, P)) (ht0 : noneB n (M, P) = false) (hc0 : cntL q (n - P.length) = none) :
    Calls Tryd.prog 6 #[.int .i64 (q : Nat), .slice xa L.length xk, .slice ya b.length yk] w fun e w' => e = .returned (.bool true) ∧ Below w.heap.size w w' := by
  have E0 : Hid (Env D w [] [.rw (.slice ya b.length yk) b.length 1 (ncl b), .mx (.slice xa L.length xk) (L.map nl)] w) := Lib.hid (((Env.start D w).arg (.mx (.slice xa L.length xk) (L.map nl)) hx).arg (.rw (.slice ya b.length yk) b.length 1 (ncl b)) hy)
  clear hx hy
  go_enter Tryd.func6, Tryd.ntmps6
  have hl := Lib.hid hl0
  have HG := Lib.hid HG0
  have hv := Lib.hid hv0
  have hs := Lib.hid hs0
  have hr := Lib.hid hr0
  have hR := Lib.hid hR0
  have ht := Lib.hid ht0
  have hc := Lib.hid hc0
  clear hl0 HG0 hv0 hs0 hr0 hR0 ht0 hc0
  go_wp2_with fail
  refine (awake14_c (hl.out.below E0.out.bel)).mono ?_
  rintro e w1 ⟨rfl, hb⟩
  have E1 : Hid (Env D w [] [.rw (.slice ya b.length yk) b.length 1 (ncl b), .mx (.slice xa L.length xk) (L.map nl)] w1) := Lib.hid (E0.out.below hb)
  clear E0 hb
  have d3 : decide ((100 : Int) < (b.length : Int)) = false := decide_eq_false (by omega)
  have d3n : decide (100 < b.length) = false := decide_eq_false (by omega)
  have E2 : Hid (Env D w [(w1.heap.size, 40, [.slice xa L.length xk])] [.rw (.slice ya b.length yk) b.length 1 (ncl b), .mx (.slice xa L.length xk) (L.map nl)] _) := Lib.hid ((E1.out.push 40 [.slice xa L.length xk] (w1.heap.size) (by simp)))
  go_wp2_with fail
  refine (great14_c (t := false) [L.map nl] (xb := w1.heap.size) (xo := 0) (xk := 1) (gMats.one (by simp) (E2.out.bx 0 rfl) (E2.out.fc 1 rfl)) HG.out (by simp)).mono ?_
  rintro e w2 ⟨rfl, hb⟩
  have E3 : Hid (Env D w [(w1.heap.size, 40, [.slice xa L.length xk])] [.rw (.slice ya b.length yk) b.length 1 (ncl b), .mx (.slice xa L.length xk) (L.map nl)] w2) := Lib.hid (E2.out.below hb)
  clear E1 E2 hb
  go_wp2_with fail
  refine (Solve_f q n L M b P (E3.out.fc 1 rfl) (E3.out.fc 0 rfl) (hl.out.below E3.out.bel) hv.out hs.out hr.out hR.out ht.out).mono ?_
  rintro e w3 ⟨⟨cv, cx, cu, cy, rfl, ch, cg⟩, hb⟩
  have E4 : Hid (Env D w [(w1.heap.size, 40, [.slice xa L.length xk])] [.mx (.slice cu (kerL q n P M n).length cy) ((kerL q n P M n).map nl), .rw (.slice cv (partV n P M P.length).length cx) (partV n P M P.length).length 1 (ncl (partV n P M P.length)), .rw (.slice ya b.length yk) b.length 1 (ncl b), .mx (.slice xa L.length xk) (L.map nl)] w3) := Lib.hid (E3.out.got (E3.out.got (E3.out.below hb) (.rw (.slice cv (partV n P M P.length).length cx) (partV n P M P.length).length 1 (ncl (partV n P M P.length))) ch.out) (.mx (.slice cu (kerL q n P M n).length cy) ((kerL q n P M n).map nl)) cg.out)
  clear E3 hb ch cg
  go_wp2_with fail
  refine (Count_n (E4.out.fc 3 rfl) (E4.out.fc 2 rfl) (hl.out.below E4.out.bel) hv.out hs.out hr.out hR.out ht.out hc.out).mono ?_
  rintro e w4 ⟨rfl, hb⟩
  have E5 : Hid (Env D w [(w1.heap.size, 40, [.slice xa L.length xk])] [.mx (.slice cu (kerL q n P M n).length cy) ((kerL q n P M n).map nl), .rw (.slice cv (partV n P M P.length).length cx) (partV n P M P.length).length 1 (ncl (partV n P M P.length)), .rw (.slice ya b.length yk) b.length 1 (ncl b), .mx (.slice xa L.length xk) (L.map nl)] w4) := Lib.hid (E4.out.below hb)
  clear E4 hb
  have n1 : ((b.length : Int) != (L.length : Int)) = false := by have h2 := hs.out; rw [h2]; simp
  have n2 : (b.length != L.length) = false := by have h2 := hs.out; rw [h2]; simp
  go_wp2_with fail
  refine (rMValidN (E5.out.fc 3 rfl) hv.out).mono ?_
  rintro e w5 ⟨rfl, hb⟩
  have E6 : Hid (Env D w [(w1.heap.size, 40, [.slice xa L.length xk])] [.mx (.slice cu (kerL q n P M n).length cy) ((kerL q n P M n).map nl), .rw (.slice cv (partV n P M P.length).length cx) (partV n P M P.length).length 1 (ncl (partV n P M P.length)), .rw (.slice ya b.length yk) b.length 1 (ncl b), .mx (.slice xa L.length xk) (L.map nl)] w5) := Lib.hid (E5.out.below hb)
  clear E5 hb
  go_wp2_with fail
  refine (rVecN (E6.out.fc 2 rfl) hr.out (by omega)).mono ?_
  rintro e w6 ⟨rfl, hb⟩
  have E7 : Hid (Env D w [(w1.heap.size, 40, [.slice xa L.length xk])] [.mx (.slice cu (kerL q n P M n).length cy) ((kerL q n P M n).map nl), .rw (.slice cv (partV n P M P.length).length cx) (partV n P M P.length).length 1 (ncl (partV n P M P.length)), .rw (.slice ya b.length yk) b.length 1 (ncl b), .mx (.slice xa L.length xk) (L.map nl)] w6) := Lib.hid (E6.out.below hb)
  clear E6 hb
  go_wp2_with fail
  refine (rSolve_f (E7.out.fc 3 rfl) (E7.out.fc 2 rfl) hv.out hs.out hr.out hR.out ht.out).mono ?_
  rintro e w7 ⟨⟨dv, dx, du, dy, rfl, dh, dg⟩, hb⟩
  have E8 : Hid (Env D w [(w1.heap.size, 40, [.slice xa L.length xk])] [.mx (.slice du (kerL q n P M n).length dy) ((kerL q n P M n).map nl), .rw (.slice dv (partV n P M P.length).length dx) (partV n P M P.length).length 1 (ncl (partV n P M P.length)), .mx (.slice cu (kerL q n P M n).length cy) ((kerL q n P M n).map nl), .rw (.slice cv (partV n P M P.length).length cx) (partV n P M P.length).length 1 (ncl (partV n P M P.length)), .rw (.slice ya b.length yk) b.length 1 (ncl b), .mx (.slice xa L.length xk) (L.map nl)] w7) := Lib.hid (E7.out.got (E7.out.got (E7.out.below hb) (.rw (.slice dv (partV n P M P.length).length dx) (partV n P M P.length).length 1 (ncl (partV n P M P.length))) dh.out) (.mx (.slice du (kerL q n P M n).length dy) ((kerL q n P M n).map nl)) dg.out)
  clear E7 hb dh dg
  have n31 := Lib.hid hv.out.n30
  go_wp2_with fail
  refine (equalN_c (t := true) (a := (partV n P M P.length)) (b := (partV n P M P.length)) (E8.out.fc 3 rfl) (E8.out.fc 1 rfl) (by rw [partV_len]; exact Nat.le_trans n31.out (by omega)) (by rw [partV_len]; exact Nat.le_trans n31.out (by omega)) (by simp)).mono ?_
  rintro e w8 ⟨rfl, hb⟩
  have E9 : Hid (Env D w [(w1.heap.size, 40, [.slice xa L.length xk])] [.mx (.slice du (kerL q n P M n).length dy) ((kerL q n P M n).map nl), .rw (.slice dv (partV n P M P.length).length dx) (partV n P M P.length).length 1 (ncl (partV n P M P.length)), .mx (.slice cu (kerL q n P M n).length cy) ((kerL q n P M n).map nl), .rw (.slice cv (partV n P M P.length).length cx) (partV n P M P.length).length 1 (ncl (partV n P M P.length)), .rw (.slice ya b.length yk) b.length 1 (ncl b), .mx (.slice xa L.length xk) (L.map nl)] w8) := Lib.hid (E8.out.below hb)
  clear E8 hb
  go_wp2_with fail
  refine (rSameN (L := (kerL q n P M n)) (E9.out.fc 2 rfl) (E9.out.fc 0 rfl) (Nat.le_trans (kerL_len_le _) (Nat.le_trans n31.out (by omega))) (fun r h => by rw [kerL_row _ r h]; exact Nat.le_trans n31.out (by omega))).mono ?_
  rintro e w9 ⟨rfl, hb⟩
  have E10 : Hid (Env D w [(w1.heap.size, 40, [.slice xa L.length xk])] [.mx (.slice du (kerL q n P M n).length dy) ((kerL q n P M n).map nl), .rw (.slice dv (partV n P M P.length).length dx) (partV n P M P.length).length 1 (ncl (partV n P M P.length)), .mx (.slice cu (kerL q n P M n).length cy) ((kerL q n P M n).map nl), .rw (.slice cv (partV n P M P.length).length cx) (partV n P M P.length).length 1 (ncl (partV n P M P.length)), .rw (.slice ya b.length yk) b.length 1 (ncl b), .mx (.slice xa L.length xk) (L.map nl)] w9) := Lib.hid (E9.out.below hb)
  clear E9 hb
  go_wp2_with fail
  refine (rCount_n (E10.out.fc 5 rfl) (E10.out.fc 4 rfl) hv.out hs.out hr.out hR.out ht.out hc.out).mono ?_
  rintro e w10 ⟨rfl, hb⟩
  have E11 : Hid (Env D w [(w1.heap.size, 40, [.slice xa L.length xk])] [.mx (.slice du (kerL q n P M n).length dy) ((kerL q n P M n).map nl), .rw (.slice dv (partV n P M P.length).length dx) (partV n P M P.length).length 1 (ncl (partV n P M P.length)), .mx (.slice cu (kerL q n P M n).length cy) ((kerL q n P M n).map nl), .rw (.slice cv (partV n P M P.length).length cx) (partV n P M P.length).length 1 (ncl (partV n P M P.length)), .rw (.slice ya b.length yk) b.length 1 (ncl b), .mx (.slice xa L.length xk) (L.map nl)] w10) := Lib.hid (E10.out.below hb)
  clear E10 hb
  have hfin := Lib.hid E11.out.bel
  go_wp2
  go_ret
  exact ⟨rfl, hfin.out⟩
theorem MatrixSystems_walk {D : Nat → Prop} (q : Int) (M : List (List Int)) (b : List Int) {xa ya : Option Addr} {xk yk : Nat} {w : World} (hx : Fct.at w D (.mx (.slice xa M.length xk) M)) (hy : Fct.at w D (.rw (.slice ya b.length yk) b.length 1 (icl b))) (hl : Laid w) (hn : -9223372036854775808 ≤ q ∧ q ≤ 9223372036854775807) :
    Calls Tryd.prog 6 #[.int .i64 q, .slice xa M.length xk, .slice ya b.length yk] w fun e w' => e = .returned (.bool true) ∧ Below w.heap.size w w' := by
  cases hg : [M].any (fun x => grM x) with
  | true => exact ms_a q M b hx hy hl hg
  | false =>
    by_cases h1 : 100 < b.length
    · exact ms_b q M b hx hy hl hg h1
    have h2 : b.length ≤ 100 := by omega
    cases hv : mvB q M with
    | false => exact ms_c q M b hx hy hl hg hn h2 hv
    | true =>
      obtain ⟨p, n, L, rfl, rfl, hL, _⟩ := mv_nat hv
      rw [List.length_map] at hx ⊢
      by_cases hs : b.length = L.length
      · cases hr : b.all (resB (p : Int)) with
        | false => exact ms_e p n L b hx hy hl hg h2 hL hs hr
        | true =>
          obtain ⟨c, rfl, hc⟩ := all_nl2 hr
          have hc2 : ∀ x ∈ c, x < p := fun x hx => Int.ofNat_lt.1 (hc x hx)
          rw [nl_len] at hy h2 hs ⊢
          obtain ⟨R, P, hRP⟩ : ∃ R P, redN p (sysL L c) n = (R, P) := ⟨_, _, rfl⟩
          cases ht : noneB n (R, P) with
          | true => exact ms_f p n L R c P hx hy hl hg h2 hL hs hc2 hRP ht
          | false =>
            cases hcc : cntL p (n - P.length) with
            | none => exact ms_h p n L R c P hx hy hl hg h2 hL hs hc2 hRP ht hcc
            | some v => exact ms_g p n L R c P v hx hy hl hg h2 hL hs hc2 hRP ht hcc
      · exact ms_d p n L b hx hy hl hg h2 hL hs
end Go.Proofs.YtinlfogpbologaaDoor

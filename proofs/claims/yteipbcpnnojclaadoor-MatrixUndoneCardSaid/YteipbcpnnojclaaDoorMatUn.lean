/- matrix: the law MatrixUndone. -/
import Derived.Test.YteipbcpnnojclaaDoorMatRb
import Derived.Test.YteipbcpnnojclaaDoorMatRd
namespace Go.Proofs.YteipbcpnnojclaaDoor
open Go.RowKit DivMath WordMath
set_option linter.unusedVariables false
set_option linter.unusedSimpArgs false
section
variable {D : Nat → Prop} {q n : Nat} {L M X : List (List Nat)} {b y P : List Nat} {xa ya : Option Addr} {xk yk : Nat} {w : World}
theorem Inverse_x (hx : Fct.at w D (.mx (.slice xa L.length xk) (L.map nl))) (hl : Laid w) (hv : MvI q L.length L) (hR : redN q (invL L) L.length = (M, P)) (ht : ¬ P.length < L.length) (hX : M.map (List.drop L.length) = X) :
    Calls Tryd.prog 45 #[.int .i64 (q : Nat), .slice xa L.length xk] w fun e w' => RetMfE (fun b => D b ∨ w.heap.size ≤ b) X 0 e w' ∧ Below w.heap.size w w' := by
  subst hX; exact Inverse_f q L M P hx hl hv hR ht
theorem Solve_y (hx : Fct.at w D (.mx (.slice xa L.length xk) (L.map nl))) (hy : Fct.at w D (.rw (.slice ya b.length yk) b.length 1 (ncl b))) (hl : Laid w) (hv : MvI q n L) (hsq : L.length = n) (hne : b.length = L.length) (hs : ∀ c ∈ b, c < q) (hr : rk q n L = n) (hyl : y.length = n) (hyq : ∀ c ∈ y, c < q) (hyb : appT q L y = b) :
    Calls Tryd.prog 36 #[.int .i64 (q : Nat), .slice xa L.length xk, .slice ya b.length yk] w fun e w' => (∃ a k ka kk, e = .returned (.tuple #[.slice a y.length k, .slice ka 0 kk, .int .i64 0]) ∧ Hid (Rw w' (fun b => D b ∨ w.heap.size ≤ b) (.slice a y.length k) y.length 1 (ncl y))) ∧ Below w.heap.size w w' := by
  obtain ⟨M, P, hR⟩ : ∃ M P, redN q (sysL L b) n = (M, P) := ⟨_, _, rfl⟩
  obtain ⟨h1, h2, h3, h4⟩ := solve_full hv.q2 hv.unit hv.res hsq (by omega) hs hr hR
  have h := Solve_f q n L M b P hx hy hl hv hne hs hR h1
  rw [h2, h4 y hyl hyq hyb] at h
  exact h.mono fun e w' ⟨⟨a, k, ka, kk, g1, g2, _⟩, g3⟩ => ⟨⟨a, k, ka, kk, g1, g2⟩, g3⟩
theorem Count_y (hx : Fct.at w D (.mx (.slice xa L.length xk) (L.map nl))) (hy : Fct.at w D (.rw (.slice ya b.length yk) b.length 1 (ncl b))) (hl : Laid w) (hv : MvI q n L) (hsq : L.length = n) (hne : b.length = L.length) (hs : ∀ c ∈ b, c < q) (hr : rk q n L = n) :
    Calls Tryd.prog 46 #[.int .i64 (q : Nat), .slice xa L.length xk, .slice ya b.length yk] w fun e w' => e = .returned (.tuple #[.int .i64 1, .int .i64 0]) ∧ Below w.heap.size w w' := by
  obtain ⟨M, P, hR⟩ : ∃ M P, redN q (sysL L b) n = (M, P) := ⟨_, _, rfl⟩
  obtain ⟨h1, h2, h3, h4⟩ := solve_full hv.q2 hv.unit hv.res hsq (by omega) hs hr hR
  have h := Count_f q n L M b P hx hy hl hv hne hs hR h1
  rw [h3, Nat.sub_self] at h
  exact h
end
set_option maxRecDepth 100000 in
set_option maxHeartbeats 8000000 in
theorem mu_a {D : Nat → Prop} (q : Int) (M : List (List Int)) (b : List Int) {xa ta : Option Addr} {xk tk : Nat} {w : World} (hx : Fct.at w D (.mx (.slice xa M.length xk) M)) (ht : Fct.at w D (.rw (.slice ta b.length tk) b.length 1 (icl b))) (hl0 : Laid w) (HG0 : [M].any (fun x => grM x) = true)  :
    Calls Tryd.prog 10 #[.int .i64 q, .slice xa M.length xk, .slice ta b.length tk] w fun e w' => e = .returned (.bool true) ∧ Below w.heap.size w w' := by
  have E0 : Hid (Env D w [] [.rw (.slice ta b.length tk) b.length 1 (icl b), .mx (.slice xa M.length xk) M] w) := Lib.hid (((Env.start D w).arg (.mx (.slice xa M.length xk) M) hx).arg (.rw (.slice ta b.length tk) b.length 1 (icl b)) ht)
  clear hx ht
  go_enter Tryd.func10, Tryd.ntmps10
  have hl := Lib.hid hl0
  have HG := Lib.hid HG0
  clear hl0 HG0
  go_wp2_with fail
  refine (awake14_c (hl.out.below E0.out.bel)).mono ?_
  rintro e w1 ⟨rfl, hb⟩
  have E1 : Hid (Env D w [] [.rw (.slice ta b.length tk) b.length 1 (icl b), .mx (.slice xa M.length xk) M] w1) := Lib.hid (E0.out.below hb)
  clear E0 hb
  have E2 : Hid (Env D w [(w1.heap.size, 44, [.slice xa M.length xk])] [.rw (.slice ta b.length tk) b.length 1 (icl b), .mx (.slice xa M.length xk) M] _) := Lib.hid ((E1.out.push 44 [.slice xa M.length xk] (w1.heap.size) (by simp)))
  go_wp2_with fail
  refine (great14_c (t := true) [M] (xb := w1.heap.size) (xo := 0) (xk := 1) (gMats.one (by simp) (E2.out.bx 0 rfl) (E2.out.fc 1 rfl)) HG.out (by simp)).mono ?_
  rintro e w2 ⟨rfl, hb⟩
  have E3 : Hid (Env D w [(w1.heap.size, 44, [.slice xa M.length xk])] [.rw (.slice ta b.length tk) b.length 1 (icl b), .mx (.slice xa M.length xk) M] w2) := Lib.hid (E2.out.below hb)
  clear E1 E2 hb
  have hfin := Lib.hid E3.out.bel
  go_wp2
  go_ret
  exact ⟨rfl, hfin.out⟩
set_option maxRecDepth 100000 in
set_option maxHeartbeats 8000000 in
theorem mu_b {D : Nat → Prop} (q : Int) (M : List (List Int)) (b : List Int) {xa ta : Option Addr} {xk tk : Nat} {w : World} (hx : Fct.at w D (.mx (.slice xa M.length xk) M)) (ht : Fct.at w D (.rw (.slice ta b.length tk) b.length 1 (icl b))) (hl0 : Laid w) (HG0 : [M].any (fun x => grM x) = false) (h1 : 100 < b.length) :
    Calls Tryd.prog 10 #[.int .i64 q, .slice xa M.length xk, .slice ta b.length tk] w fun e w' => e = .returned (.bool true) ∧ Below w.heap.size w w' := by
  have E0 : Hid (Env D w [] [.rw (.slice ta b.length tk) b.length 1 (icl b), .mx (.slice xa M.length xk) M] w) := Lib.hid (((Env.start D w).arg (.mx (.slice xa M.length xk) M) hx).arg (.rw (.slice ta b.length tk) b.length 1 (icl b)) ht)
  clear hx ht
  go_enter Tryd.func10, Tryd.ntmps10
  have hl := Lib.hid hl0
  have HG := Lib.hid HG0
  clear hl0 HG0
  go_wp2_with fail
  refine (awake14_c (hl.out.below E0.out.bel)).mono ?_
  rintro e w1 ⟨rfl, hb⟩
  have E1 : Hid (Env D w [] [.rw (.slice ta b.length tk) b.length 1 (icl b), .mx (.slice xa M.length xk) M] w1) := Lib.hid (E0.out.below hb)
  clear E0 hb
  have d3 : decide ((100 : Int) < (b.length : Int)) = true := decide_eq_true (by omega)
  have d3n : decide (100 < b.length) = true := decide_eq_true (by omega)
  clear h1
  have E2 : Hid (Env D w [(w1.heap.size, 44, [.slice xa M.length xk])] [.rw (.slice ta b.length tk) b.length 1 (icl b), .mx (.slice xa M.length xk) M] _) := Lib.hid ((E1.out.push 44 [.slice xa M.length xk] (w1.heap.size) (by simp)))
  go_wp2_with fail
  refine (great14_c (t := false) [M] (xb := w1.heap.size) (xo := 0) (xk := 1) (gMats.one (by simp) (E2.out.bx 0 rfl) (E2.out.fc 1 rfl)) HG.out (by simp)).mono ?_
  rintro e w2 ⟨rfl, hb⟩
  have E3 : Hid (Env D w [(w1.heap.size, 44, [.slice xa M.length xk])] [.rw (.slice ta b.length tk) b.length 1 (icl b), .mx (.slice xa M.length xk) M] w2) := Lib.hid (E2.out.below hb)
  clear E1 E2 hb
  have hfin := Lib.hid E3.out.bel
  go_wp2
  go_ret
  exact ⟨rfl, hfin.out⟩
set_option maxRecDepth 100000 in
set_option maxHeartbeats 8000000 in
theorem mu_c {D : Nat → Prop} (q : Int) (M : List (List Int)) (b : List Int) {xa ta : Option Addr} {xk tk : Nat} {w : World} (hx : Fct.at w D (.mx (.slice xa M.length xk) M)) (ht : Fct.at w D (.rw (.slice ta b.length tk) b.length 1 (icl b))) (hl0 : Laid w) (HG0 : [M].any (fun x => grM x) = false) (hn : -9223372036854775808 ≤ q ∧ q ≤ 9223372036854775807) (h1 : b.length ≤ 100) (hv0 : mvB q M = false) :
    Calls Tryd.prog 10 #[.int .i64 q, .slice xa M.length xk, .slice ta b.length tk] w fun e w' => e = .returned (.bool true) ∧ Below w.heap.size w w' := by
  have E0 : Hid (Env D w [] [.rw (.slice ta b.length tk) b.length 1 (icl b), .mx (.slice xa M.length xk) M] w) := Lib.hid (((Env.start D w).arg (.mx (.slice xa M.length xk) M) hx).arg (.rw (.slice ta b.length tk) b.length 1 (icl b)) ht)
  clear hx ht
  go_enter Tryd.func10, Tryd.ntmps10
  have hl := Lib.hid hl0
  have HG := Lib.hid HG0
  have hv := Lib.hid hv0
  clear hl0 HG0 hv0
  go_wp2_with fail
  refine (awake14_c (hl.out.below E0.out.bel)).mono ?_
  rintro e w1 ⟨rfl, hb⟩
  have E1 : Hid (Env D w [] [.rw (.slice ta b.length tk) b.length 1 (icl b), .mx (.slice xa M.length xk) M] w1) := Lib.hid (E0.out.below hb)
  clear E0 hb
  have HN := Lib.hid hn
  have d3 : decide ((100 : Int) < (b.length : Int)) = false := decide_eq_false (by omega)
  have d3n : decide (100 < b.length) = false := decide_eq_false (by omega)
  have E2 : Hid (Env D w [(w1.heap.size, 44, [.slice xa M.length xk])] [.rw (.slice ta b.length tk) b.length 1 (icl b), .mx (.slice xa M.length xk) M] _) := Lib.hid ((E1.out.push 44 [.slice xa M.length xk] (w1.heap.size) (by simp)))
  go_wp2_with fail
  refine (great14_c (t := false) [M] (xb := w1.heap.size) (xo := 0) (xk := 1) (gMats.one (by simp) (E2.out.bx 0 rfl) (E2.out.fc 1 rfl)) HG.out (by simp)).mono ?_
  rintro e w2 ⟨rfl, hb⟩
  have E3 : Hid (Env D w [(w1.heap.size, 44, [.slice xa M.length xk])] [.rw (.slice ta b.length tk) b.length 1 (icl b), .mx (.slice xa M.length xk) M] w2) := Lib.hid (E2.out.below hb)
  clear E1 E2 hb
  go_wp2_with fail
  refine (rMValid_c q M (E3.out.fc 1 rfl) HN.out.1 hv.out).mono ?_
  rintro e w3 ⟨rfl, hb⟩
  have E4 : Hid (Env D w [(w1.heap.size, 44, [.slice xa M.length xk])] [.rw (.slice ta b.length tk) b.length 1 (icl b), .mx (.slice xa M.length xk) M] w3) := Lib.hid (E3.out.below hb)
  clear E3 hb
  have hfin := Lib.hid E4.out.bel
  go_wp2
  go_ret
  exact ⟨rfl, hfin.out⟩
set_option maxRecDepth 100000 in
set_option maxHeartbeats 8000000 in
theorem mu_d {D : Nat → Prop} (q : Int) (M : List (List Int)) (b : List Int) {xa ta : Option Addr} {xk tk : Nat} {w : World} (hx : Fct.at w D (.mx (.slice xa M.length xk) M)) (ht : Fct.at w D (.rw (.slice ta b.length tk) b.length 1 (icl b))) (hl0 : Laid w) (HG0 : [M].any (fun x => grM x) = false) (hn : -9223372036854775808 ≤ q ∧ q ≤ 9223372036854775807) (h1 : b.length ≤ 100) (hv0 : mvB q M = true) (hzm : 0 < M.length) (hne0 : M.length ≠ M[0].length) :
    Calls Tryd.prog 10 #[.int .i64 q, .slice xa M.length xk, .slice ta b.length tk] w fun e w' => e = .returned (.bool true) ∧ Below w.heap.size w w' := by
  have E0 : Hid (Env D w [] [.rw (.slice ta b.length tk) b.length 1 (icl b), .mx (.slice xa M.length xk) M] w) := Lib.hid (((Env.start D w).arg (.mx (.slice xa M.length xk) M) hx).arg (.rw (.slice ta b.length tk) b.length 1 (icl b)) ht)
  clear hx ht
  go_enter Tryd.func10, Tryd.ntmps10
  have hl := Lib.hid hl0
  have HG := Lib.hid HG0
  have hv := Lib.hid hv0
  have hne := Lib.hid hne0
  clear hl0 HG0 hv0 hne0
  go_wp2_with fail
  refine (awake14_c (hl.out.below E0.out.bel)).mono ?_
  rintro e w1 ⟨rfl, hb⟩
  have E1 : Hid (Env D w [] [.rw (.slice ta b.length tk) b.length 1 (icl b), .mx (.slice xa M.length xk) M] w1) := Lib.hid (E0.out.below hb)
  clear E0 hb
  have HN := Lib.hid hn
  have d3 : decide ((100 : Int) < (b.length : Int)) = false := decide_eq_false (by omega)
  have d3n : decide (100 < b.length) = false := decide_eq_false (by omega)
  have hzI : (0 : Int) < (M.length : Int) := by omega
  go_upto_region 3 with (fail)
  obtain ⟨xab, xao, rfl⟩ := Mx.addr (E1.out.fc 1 rfl) hzm
  obtain ⟨ua, uk, E20⟩ := E1.out.elM 1 rfl (0) hzm
  have E2 : Hid (Env D w [] [.ce xab (xao) (.slice ua M[0].length uk), .rw (.slice ua M[0].length uk) M[0].length 1 (icl M[0]), .rw (.slice ta b.length tk) b.length 1 (icl b), .mx (.slice (some ⟨xab, xao, none⟩) M.length xk) M] _) := Lib.hid E20
  clear E20 E1
  have u0 := (E2.out.fc 0 rfl).2
  have na : ((M.length : Int) != (M[0].length : Int)) = true := by have := hne.out; rw [bne_iff_ne]; omega
  have nb : (M.length != M[0].length) = true := by have := hne.out; rw [bne_iff_ne]; omega
  have E3 : Hid (Env D w [(w1.heap.size, 44, [.slice (some ⟨xab, xao, none⟩) M.length xk])] [.ce xab (xao) (.slice ua M[0].length uk), .rw (.slice ua M[0].length uk) M[0].length 1 (icl M[0]), .rw (.slice ta b.length tk) b.length 1 (icl b), .mx (.slice (some ⟨xab, xao, none⟩) M.length xk) M] _) := Lib.hid ((E2.out.push 44 [.slice (some ⟨xab, xao, none⟩) M.length xk] (w1.heap.size) (by simp)))
  go_wp2_with fail
  refine (great14_c (t := false) [M] (xb := w1.heap.size) (xo := 0) (xk := 1) (gMats.one (by simp) (E3.out.bx 0 rfl) (E3.out.fc 3 rfl)) HG.out (by simp)).mono ?_
  rintro e w2 ⟨rfl, hb⟩
  have E4 : Hid (Env D w [(w1.heap.size, 44, [.slice (some ⟨xab, xao, none⟩) M.length xk])] [.ce xab (xao) (.slice ua M[0].length uk), .rw (.slice ua M[0].length uk) M[0].length 1 (icl M[0]), .rw (.slice ta b.length tk) b.length 1 (icl b), .mx (.slice (some ⟨xab, xao, none⟩) M.length xk) M] w2) := Lib.hid (E3.out.below hb)
  clear u0 E2 E3 hb
  go_wp2_with fail
  refine (rMValid_c q M (E4.out.fc 3 rfl) HN.out.1 hv.out).mono ?_
  rintro e w3 ⟨rfl, hb⟩
  have E5 : Hid (Env D w [(w1.heap.size, 44, [.slice (some ⟨xab, xao, none⟩) M.length xk])] [.ce xab (xao) (.slice ua M[0].length uk), .rw (.slice ua M[0].length uk) M[0].length 1 (icl M[0]), .rw (.slice ta b.length tk) b.length 1 (icl b), .mx (.slice (some ⟨xab, xao, none⟩) M.length xk) M] w3) := Lib.hid (E4.out.below hb)
  clear E4 hb
  have z1 := (E5.out.fc 0 rfl).2
  have hfin := Lib.hid E5.out.bel
  go_wp2
  go_ret
  exact ⟨rfl, hfin.out⟩
set_option maxRecDepth 100000 in
set_option maxHeartbeats 8000000 in
theorem mu_e {D : Nat → Prop} (q : Nat) (L : List (List Nat)) (P : List Nat) (M : List (List Nat)) (b : List Int) {xa ta : Option Addr} {xk tk : Nat} {w : World} (hx : Fct.at w D (.mx (.slice xa L.length xk) (L.map nl))) (ht : Fct.at w D (.rw (.slice ta b.length tk) b.length 1 (icl b))) (hl0 : Laid w) (HG0 : [L.map nl].any (fun x => grM x) = false) (h1 : b.length ≤ 100) (hv0 : MvI q L.length L) (hR0 : redN q (invL L) L.length = (M, P)) (hp0 : P.length < L.length) :
    Calls Tryd.prog 10 #[.int .i64 (q : Nat), .slice xa L.length xk, .slice ta b.length tk] w fun e w' => e = .returned (.bool true) ∧ Below w.heap.size w w' := by
  have E0 : Hid (Env D w [] [.rw (.slice ta b.length tk) b.length 1 (icl b), .mx (.slice xa L.length xk) (L.map nl)] w) := Lib.hid (((Env.start D w).arg (.mx (.slice xa L.length xk) (L.map nl)) hx).arg (.rw (.slice ta b.length tk) b.length 1 (icl b)) ht)
  clear hx ht
  go_enter Tryd.func10, Tryd.ntmps10
  have hl := Lib.hid hl0
  have HG := Lib.hid HG0
  have hv := Lib.hid hv0
  have hR := Lib.hid hR0
  have hp := Lib.hid hp0
  clear hl0 HG0 hv0 hR0 hp0
  go_wp2_with fail
  refine (awake14_c (hl.out.below E0.out.bel)).mono ?_
  rintro e w1 ⟨rfl, hb⟩
  have E1 : Hid (Env D w [] [.rw (.slice ta b.length tk) b.length 1 (icl b), .mx (.slice xa L.length xk) (L.map nl)] w1) := Lib.hid (E0.out.below hb)
  clear E0 hb
  have d3 : decide ((100 : Int) < (b.length : Int)) = false := decide_eq_false (by omega)
  have d3n : decide (100 < b.length) = false := decide_eq_false (by omega)
  have z1 : 0 < L.length := hv.out.m1
  have z1I : (0 : Int) < (L.length : Int) := by omega
  have HL0 : Hid (L[0].length = L.length) := Lib.hid (hv.out.res _ (List.getElem_mem z1)).1
  have na : ((L.length : Int) != (L[0].length : Int)) = false := by have h1 := HL0.out; rw [h1]; simp
  have nb : (L.length != L[0].length) = false := by have h1 := HL0.out; rw [h1]; simp
  go_upto_region 3 with (fail)
  obtain ⟨xab, xao, rfl⟩ := Mx.addrN (E1.out.fc 1 rfl) z1
  obtain ⟨ua, uk, E20⟩ := E1.out.elMN 1 rfl (0) z1
  have E2 : Hid (Env D w [] [.ce xab (xao) (.slice ua L[0].length uk), .rw (.slice ua L[0].length uk) L[0].length 1 (ncl L[0]), .rw (.slice ta b.length tk) b.length 1 (icl b), .mx (.slice (some ⟨xab, xao, none⟩) L.length xk) (L.map nl)] _) := Lib.hid E20
  clear E20 E1
  have u0 := (E2.out.fc 0 rfl).2
  have E3 : Hid (Env D w [(w1.heap.size, 44, [.slice (some ⟨xab, xao, none⟩) L.length xk])] [.ce xab (xao) (.slice ua L[0].length uk), .rw (.slice ua L[0].length uk) L[0].length 1 (ncl L[0]), .rw (.slice ta b.length tk) b.length 1 (icl b), .mx (.slice (some ⟨xab, xao, none⟩) L.length xk) (L.map nl)] _) := Lib.hid ((E2.out.push 44 [.slice (some ⟨xab, xao, none⟩) L.length xk] (w1.heap.size) (by simp)))
  go_wp2_with fail
  refine (great14_c (t := false) [L.map nl] (xb := w1.heap.size) (xo := 0) (xk := 1) (gMats.one (by simp) (E3.out.bx 0 rfl) (E3.out.fc 3 rfl)) HG.out (by simp)).mono ?_
  rintro e w2 ⟨rfl, hb⟩
  have E4 : Hid (Env D w [(w1.heap.size, 44, [.slice (some ⟨xab, xao, none⟩) L.length xk])] [.ce xab (xao) (.slice ua L[0].length uk), .rw (.slice ua L[0].length uk) L[0].length 1 (ncl L[0]), .rw (.slice ta b.length tk) b.length 1 (icl b), .mx (.slice (some ⟨xab, xao, none⟩) L.length xk) (L.map nl)] w2) := Lib.hid (E3.out.below hb)
  clear u0 E2 E3 hb
  go_wp2_with fail
  refine (rMValidN (E4.out.fc 3 rfl) hv.out).mono ?_
  rintro e w3 ⟨rfl, hb⟩
  have E5 : Hid (Env D w [(w1.heap.size, 44, [.slice (some ⟨xab, xao, none⟩) L.length xk])] [.ce xab (xao) (.slice ua L[0].length uk), .rw (.slice ua L[0].length uk) L[0].length 1 (ncl L[0]), .rw (.slice ta b.length tk) b.length 1 (icl b), .mx (.slice (some ⟨xab, xao, none⟩) L.length xk) (L.map nl)] w3) := Lib.hid (E4.out.below hb)
  clear E4 hb
  have z1 := (E5.out.fc 0 rfl).2
  obtain ⟨r, hr⟩ : ∃ r, rk q L.length L = r := ⟨_, rfl⟩
  have HR := Lib.hid hr
  have hrl : r < L.length := by have h1 := rk_inv hv.out.res rfl hR.out; have h2 := hp.out; omega
  clear hr
  have ka : ((r : Int) == (L.length : Int)) = false := by rw [beq_eq_false_iff_ne]; omega
  have kb : (r == L.length) = false := by rw [beq_eq_false_iff_ne]; omega
  go_wp2_with fail
  refine (Inverse_t q L M P (E5.out.fc 3 rfl) (hl.out.below E5.out.bel) hv.out hR.out hp.out).mono ?_
  rintro e w4 ⟨rfl, hb⟩
  have E6 : Hid (Env D w [(w1.heap.size, 44, [.slice (some ⟨xab, xao, none⟩) L.length xk])] [.ce xab (xao) (.slice ua L[0].length uk), .rw (.slice ua L[0].length uk) L[0].length 1 (ncl L[0]), .rw (.slice ta b.length tk) b.length 1 (icl b), .mx (.slice (some ⟨xab, xao, none⟩) L.length xk) (L.map nl)] w4) := Lib.hid (E5.out.below hb)
  clear z1 E5 hb
  go_wp2_with fail
  refine (Rank_r (E6.out.fc 3 rfl) (hl.out.below E6.out.bel) hv.out HR.out).mono ?_
  rintro e w5 ⟨rfl, hb⟩
  have E7 : Hid (Env D w [(w1.heap.size, 44, [.slice (some ⟨xab, xao, none⟩) L.length xk])] [.ce xab (xao) (.slice ua L[0].length uk), .rw (.slice ua L[0].length uk) L[0].length 1 (ncl L[0]), .rw (.slice ta b.length tk) b.length 1 (icl b), .mx (.slice (some ⟨xab, xao, none⟩) L.length xk) (L.map nl)] w5) := Lib.hid (E6.out.below hb)
  clear E6 hb
  have hfin := Lib.hid E7.out.bel
  go_wp2
  go_ret
  exact ⟨rfl, hfin.out⟩
theorem app_id {q n : Nat} {v : List Nat} (hv : v.length = n) (hvq : ∀ c ∈ v, c < q) (q0 : 0 < q) : appT q (idL n) v = v := by
  apply List.ext_getElem (by rw [appT_len, idL_len, hv])
  intro k h5 h6
  have h7 : k < n := by omega
  have e := appT_getD (q := q) (L := idL n) (x := v) (i := k) (by rw [idL_len]; exact h7)
  rw [getD_elem h5] at e
  rw [e, hv, idL_get h7, sumR_one (a0 := k) (s := v.getD k 0) h7 (fun m hm => by
    rw [UL_getD hm]
    by_cases e2 : k = m
    · rw [if_pos e2, if_pos e2.symm, Nat.one_mul, e2]
    · rw [if_neg e2, if_neg (fun e3 => e2 e3.symm), Nat.zero_mul]), Nat.mod_eq_of_lt (getD_ltM q0 hvq k), getD_elem h6]
set_option maxRecDepth 100000 in
set_option maxHeartbeats 8000000 in
theorem mu_l {D : Nat → Prop} (q : Nat) (L : List (List Nat)) (P : List Nat) (M : List (List Nat)) (b : List Int) {xa ta : Option Addr} {xk tk : Nat} {w : World} (hx : Fct.at w D (.mx (.slice xa L.length xk) (L.map nl))) (ht : Fct.at w D (.rw (.slice ta b.length tk) b.length 1 (icl b))) (hl0 : Laid w) (HG0 : [L.map nl].any (fun x => grM x) = false) (h1 : b.length ≤ 100) (hv0 : MvI q L.length L) (hR0 : redN q (invL L) L.length = (M, P)) (hp0 : P.length = L.length) (hs0 : b.length = L.length → b.all (resB (q : Int)) = false) :
    Calls Tryd.prog 10 #[.int .i64 (q : Nat), .slice xa L.length xk, .slice ta b.length tk] w fun e w' => e = .returned (.bool true) ∧ Below w.heap.size w w' := by
  have E0 : Hid (Env D w [] [.rw (.slice ta b.length tk) b.length 1 (icl b), .mx (.slice xa L.length xk) (L.map nl)] w) := Lib.hid (((Env.start D w).arg (.mx (.slice xa L.length xk) (L.map nl)) hx).arg (.rw (.slice ta b.length tk) b.length 1 (icl b)) ht)
  clear hx ht
  go_enter Tryd.func10, Tryd.ntmps10
  have hl := Lib.hid hl0
  have HG := Lib.hid HG0
  have hv := Lib.hid hv0
  have hR := Lib.hid hR0
  have hp := Lib.hid hp0
  have hs := Lib.hid hs0
  clear hl0 HG0 hv0 hR0 hp0 hs0
  go_wp2_with fail
  refine (awake14_c (hl.out.below E0.out.bel)).mono ?_
  rintro e w1 ⟨rfl, hb⟩
  have E1 : Hid (Env D w [] [.rw (.slice ta b.length tk) b.length 1 (icl b), .mx (.slice xa L.length xk) (L.map nl)] w1) := Lib.hid (E0.out.below hb)
  clear E0 hb
  have d3 : decide ((100 : Int) < (b.length : Int)) = false := decide_eq_false (by omega)
  have d3n : decide (100 < b.length) = false := decide_eq_false (by omega)
  have z1 : 0 < L.length := hv.out.m1
  have z1I : (0 : Int) < (L.length : Int) := by omega
  have HL0 : Hid (L[0].length = L.length) := Lib.hid (hv.out.res _ (List.getElem_mem z1)).1
  have na : ((L.length : Int) != (L[0].length : Int)) = false := by have h1 := HL0.out; rw [h1]; simp
  have nb : (L.length != L[0].length) = false := by have h1 := HL0.out; rw [h1]; simp
  go_upto_region 3 with (fail)
  obtain ⟨xab, xao, rfl⟩ := Mx.addrN (E1.out.fc 1 rfl) z1
  obtain ⟨ua, uk, E20⟩ := E1.out.elMN 1 rfl (0) z1
  have E2 : Hid (Env D w [] [.ce xab (xao) (.slice ua L[0].length uk), .rw (.slice ua L[0].length uk) L[0].length 1 (ncl L[0]), .rw (.slice ta b.length tk) b.length 1 (icl b), .mx (.slice (some ⟨xab, xao, none⟩) L.length xk) (L.map nl)] _) := Lib.hid E20
  clear E20 E1
  have u0 := (E2.out.fc 0 rfl).2
  have E3 : Hid (Env D w [(w1.heap.size, 44, [.slice (some ⟨xab, xao, none⟩) L.length xk])] [.ce xab (xao) (.slice ua L[0].length uk), .rw (.slice ua L[0].length uk) L[0].length 1 (ncl L[0]), .rw (.slice ta b.length tk) b.length 1 (icl b), .mx (.slice (some ⟨xab, xao, none⟩) L.length xk) (L.map nl)] _) := Lib.hid ((E2.out.push 44 [.slice (some ⟨xab, xao, none⟩) L.length xk] (w1.heap.size) (by simp)))
  go_wp2_with fail
  refine (great14_c (t := false) [L.map nl] (xb := w1.heap.size) (xo := 0) (xk := 1) (gMats.one (by simp) (E3.out.bx 0 rfl) (E3.out.fc 3 rfl)) HG.out (by simp)).mono ?_
  rintro e w2 ⟨rfl, hb⟩
  have E4 : Hid (Env D w [(w1.heap.size, 44, [.slice (some ⟨xab, xao, none⟩) L.length xk])] [.ce xab (xao) (.slice ua L[0].length uk), .rw (.slice ua L[0].length uk) L[0].length 1 (ncl L[0]), .rw (.slice ta b.length tk) b.length 1 (icl b), .mx (.slice (some ⟨xab, xao, none⟩) L.length xk) (L.map nl)] w2) := Lib.hid (E3.out.below hb)
  clear u0 E2 E3 hb
  go_wp2_with fail
  refine (rMValidN (E4.out.fc 3 rfl) hv.out).mono ?_
  rintro e w3 ⟨rfl, hb⟩
  have E5 : Hid (Env D w [(w1.heap.size, 44, [.slice (some ⟨xab, xao, none⟩) L.length xk])] [.ce xab (xao) (.slice ua L[0].length uk), .rw (.slice ua L[0].length uk) L[0].length 1 (ncl L[0]), .rw (.slice ta b.length tk) b.length 1 (icl b), .mx (.slice (some ⟨xab, xao, none⟩) L.length xk) (L.map nl)] w3) := Lib.hid (E4.out.below hb)
  clear E4 hb
  have z1 := (E5.out.fc 0 rfl).2
  have HRK : Hid (rk q L.length L = L.length) := Lib.hid (by rw [← rk_inv hv.out.res rfl hR.out]; exact hp.out)
  have hud := undone hv.out.q2 hv.out.unit hv.out.res rfl hR.out hp.out
  obtain ⟨X, hX⟩ : ∃ X, M.map (List.drop L.length) = X := ⟨_, rfl⟩
  rw [hX] at hud
  have HX := Lib.hid hX
  clear hX
  obtain ⟨I, hI⟩ : ∃ I, idL L.length = I := ⟨_, rfl⟩
  rw [hI] at hud
  have HI := Lib.hid hI
  clear hI
  have HU := Lib.hid hud
  clear hud
  have HXV : Hid (MvI q L.length X) := Lib.hid ⟨HU.out.2.1, hv.out.q2, hv.out.qT, hv.out.fb, by rw [HU.out.1]; exact hv.out.m1, by rw [HU.out.1]; exact hv.out.m30, hv.out.n1, hv.out.n30⟩
  have HIL : Hid (L.length = I.length) := Lib.hid (by rw [← HI.out, idL_len])
  have HIR : Hid (ResM q L.length I) := Lib.hid (by rw [← HU.out.2.2.1]; exact mulT_res (by have := hv.out.q2; omega))
  have ka : ((L.length : Int) == (L.length : Int)) = true := by simp
  have kb : (L.length == L.length) = true := by simp
  go_wp2_with fail
  refine (Inverse_x (E5.out.fc 3 rfl) (hl.out.below E5.out.bel) hv.out hR.out (by rw [hp.out]; exact Nat.lt_irrefl _) HX.out).mono ?_
  rintro e w4 ⟨⟨ia, ik, rfl, ih⟩, hb⟩
  have E6 : Hid (Env D w [(w1.heap.size, 44, [.slice (some ⟨xab, xao, none⟩) L.length xk])] [.mx (.slice ia X.length ik) (X.map nl), .ce xab (xao) (.slice ua L[0].length uk), .rw (.slice ua L[0].length uk) L[0].length 1 (ncl L[0]), .rw (.slice ta b.length tk) b.length 1 (icl b), .mx (.slice (some ⟨xab, xao, none⟩) L.length xk) (L.map nl)] w4) := Lib.hid (E5.out.got (E5.out.below hb) (.mx (.slice ia X.length ik) (X.map nl)) ih.out)
  clear z1 E5 hb ih
  go_wp2_with fail
  refine (Rank_r (E6.out.fc 4 rfl) (hl.out.below E6.out.bel) hv.out HRK.out).mono ?_
  rintro e w5 ⟨rfl, hb⟩
  have E7 : Hid (Env D w [(w1.heap.size, 44, [.slice (some ⟨xab, xao, none⟩) L.length xk])] [.mx (.slice ia X.length ik) (X.map nl), .ce xab (xao) (.slice ua L[0].length uk), .rw (.slice ua L[0].length uk) L[0].length 1 (ncl L[0]), .rw (.slice ta b.length tk) b.length 1 (icl b), .mx (.slice (some ⟨xab, xao, none⟩) L.length xk) (L.map nl)] w5) := Lib.hid (E6.out.below hb)
  clear E6 hb
  go_wp2_with fail
  refine (Mul_r (E7.out.fc 0 rfl) (E7.out.fc 4 rfl) (hl.out.below E7.out.bel) HXV.out hv.out rfl HU.out.2.2.2).mono ?_
  rintro e w6 ⟨⟨pa, pk, rfl, ph⟩, hb⟩
  have E8 : Hid (Env D w [(w1.heap.size, 44, [.slice (some ⟨xab, xao, none⟩) L.length xk])] [.mx (.slice pa I.length pk) (I.map nl), .mx (.slice ia X.length ik) (X.map nl), .ce xab (xao) (.slice ua L[0].length uk), .rw (.slice ua L[0].length uk) L[0].length 1 (ncl L[0]), .rw (.slice ta b.length tk) b.length 1 (icl b), .mx (.slice (some ⟨xab, xao, none⟩) L.length xk) (L.map nl)] w6) := Lib.hid (E7.out.got (E7.out.below hb) (.mx (.slice pa I.length pk) (I.map nl)) ph.out)
  clear E7 hb ph
  go_wp2_with fail
  refine (Mul_r (E8.out.fc 5 rfl) (E8.out.fc 1 rfl) (hl.out.below E8.out.bel) hv.out HXV.out HU.out.1.symm HU.out.2.2.1).mono ?_
  rintro e w7 ⟨⟨ra, rk, rfl, rh⟩, hb⟩
  have E9 : Hid (Env D w [(w1.heap.size, 44, [.slice (some ⟨xab, xao, none⟩) L.length xk])] [.mx (.slice ra I.length rk) (I.map nl), .mx (.slice pa I.length pk) (I.map nl), .mx (.slice ia X.length ik) (X.map nl), .ce xab (xao) (.slice ua L[0].length uk), .rw (.slice ua L[0].length uk) L[0].length 1 (ncl L[0]), .rw (.slice ta b.length tk) b.length 1 (icl b), .mx (.slice (some ⟨xab, xao, none⟩) L.length xk) (L.map nl)] w7) := Lib.hid (E8.out.got (E8.out.below hb) (.mx (.slice ra I.length rk) (I.map nl)) rh.out)
  clear E8 hb rh
  go_wp2_with fail
  refine (Same_r (E9.out.fc 1 rfl) (E9.out.fc 0 rfl) HIR.out (by have := HIL.out; have := hv.out.m30; omega) (by have := HIL.out; have := hv.out.m30; omega)).mono ?_
  rintro e w8 ⟨rfl, hb⟩
  have E10 : Hid (Env D w [(w1.heap.size, 44, [.slice (some ⟨xab, xao, none⟩) L.length xk])] [.mx (.slice ra I.length rk) (I.map nl), .mx (.slice pa I.length pk) (I.map nl), .mx (.slice ia X.length ik) (X.map nl), .ce xab (xao) (.slice ua L[0].length uk), .rw (.slice ua L[0].length uk) L[0].length 1 (ncl L[0]), .rw (.slice ta b.length tk) b.length 1 (icl b), .mx (.slice (some ⟨xab, xao, none⟩) L.length xk) (L.map nl)] w8) := Lib.hid (E9.out.below hb)
  clear E9 hb
  go_wp2_with fail
  refine (shaped_ok q L.length L.length L.length I (E10.out.fc 1 rfl) HIL.out rfl HIR.out (by have := HIL.out; have := hv.out.m30; omega) (by have := HIL.out; have := hv.out.m30; omega)).mono ?_
  rintro e w9 ⟨rfl, hb⟩
  have E11 : Hid (Env D w [(w1.heap.size, 44, [.slice (some ⟨xab, xao, none⟩) L.length xk])] [.mx (.slice ra I.length rk) (I.map nl), .mx (.slice pa I.length pk) (I.map nl), .mx (.slice ia X.length ik) (X.map nl), .ce xab (xao) (.slice ua L[0].length uk), .rw (.slice ua L[0].length uk) L[0].length 1 (ncl L[0]), .rw (.slice ta b.length tk) b.length 1 (icl b), .mx (.slice (some ⟨xab, xao, none⟩) L.length xk) (L.map nl)] w9) := Lib.hid (E10.out.below hb)
  clear E10 hb
  go_wp2_with fail
  go_loopg [113] (I.length) (fun gk s113 wr => ∃ (i : Nat), s113 = .int .i64 (i : Int) ∧ Hid (Env D w [(w1.heap.size, 44, [.slice (some ⟨xab, xao, none⟩) L.length xk])] [.mx (.slice ra I.length rk) (I.map nl), .mx (.slice pa I.length pk) (I.map nl), .mx (.slice ia X.length ik) (X.map nl), .ce xab (xao) (.slice ua L[0].length uk), .rw (.slice ua L[0].length uk) L[0].length 1 (ncl L[0]), .rw (.slice ta b.length tk) b.length 1 (icl b), .mx (.slice (some ⟨xab, xao, none⟩) L.length xk) (L.map nl)] wr) ∧ Hid (i ≤ I.length ∧ gk = I.length - i))
  case atStart => exact ⟨0, rfl, Lib.hid E11.out, Lib.hid ⟨Nat.zero_le _, rfl⟩⟩
  case round =>
    clear E11
    obtain ⟨i, rfl, EL, HA⟩ := hrel
    obtain ⟨a1, a2⟩ := HA.out
    clear HA
    have hin9 : I.length ≤ 30 := by have := HIL.out; have := hv.out.m30; omega
    by_cases hy : i = I.length
    rotate_left
    · have hi : i < I.length := by omega
      have t6 : decide ((i : Int) < (I.length : Int)) = true := decide_eq_true (by omega)
      have t6n : decide (i < I.length) = true := decide_eq_true (by omega)
      have hiI : (i : Int) < (I.length : Int) := by omega
      clear hy
      have HIW : Hid (I[i].length = L.length) := Lib.hid (HIR.out _ (List.getElem_mem hi)).1
      have hiw : 0 < I[i].length := by rw [HIW.out]; exact z1
      have hiw9 : I[i].length ≤ 30 := by rw [HIW.out]; exact hv.out.m30
      go_upto_region 17 with (fail)
      obtain ⟨pab, pao, rfl⟩ := Mx.addrN (EL.out.fc 1 rfl) hi
      obtain ⟨u7a, u7k, E120⟩ := EL.out.elMN 1 rfl (i) hi
      have E12 : Hid (Env D w [(w1.heap.size, 44, [.slice (some ⟨xab, xao, none⟩) L.length xk])] [.ce pab (pao + i) (.slice u7a I[i].length u7k), .rw (.slice u7a I[i].length u7k) I[i].length 1 (ncl I[i]), .mx (.slice ra I.length rk) (I.map nl), .mx (.slice (some ⟨pab, pao, none⟩) I.length pk) (I.map nl), .mx (.slice ia X.length ik) (X.map nl), .ce xab (xao) (.slice ua L[0].length uk), .rw (.slice ua L[0].length uk) L[0].length 1 (ncl L[0]), .rw (.slice ta b.length tk) b.length 1 (icl b), .mx (.slice (some ⟨xab, xao, none⟩) L.length xk) (L.map nl)] _) := Lib.hid E120
      clear E120 EL
      have u70 := (E12.out.fc 0 rfl).2
      go_wp2_with fail
      go_loopg [120] (I[i].length) (fun gk s120 wr => ∃ (j : Nat), s120 = .int .i64 (j : Int) ∧ Hid (Env D w [(w1.heap.size, 44, [.slice (some ⟨xab, xao, none⟩) L.length xk])] [.ce pab (pao + i) (.slice u7a I[i].length u7k), .rw (.slice u7a I[i].length u7k) I[i].length 1 (ncl I[i]), .mx (.slice ra I.length rk) (I.map nl), .mx (.slice (some ⟨pab, pao, none⟩) I.length pk) (I.map nl), .mx (.slice ia X.length ik) (X.map nl), .ce xab (xao) (.slice ua L[0].length uk), .rw (.slice ua L[0].length uk) L[0].length 1 (ncl L[0]), .rw (.slice ta b.length tk) b.length 1 (icl b), .mx (.slice (some ⟨xab, xao, none⟩) L.length xk) (L.map nl)] wr) ∧ Hid (j ≤ I[i].length ∧ gk = I[i].length - j))
      case atStart => exact ⟨0, rfl, Lib.hid E12.out, Lib.hid ⟨Nat.zero_le _, rfl⟩⟩
      case round =>
        clear u70 E12
        obtain ⟨j, rfl, EL, HA⟩ := hrel
        obtain ⟨b1, b2⟩ := HA.out
        clear HA
        by_cases hy : j = I[i].length
        rotate_left
        · have hj : j < I[i].length := by omega
          have t8 : decide ((j : Int) < (I[i].length : Int)) = true := decide_eq_true (by omega)
          have t8n : decide (j < I[i].length) = true := decide_eq_true (by omega)
          have hjI : (j : Int) < (I[i].length : Int) := by omega
          clear hy
          have HEL : Hid (I[i][j] = if i = j then 1 else 0) := Lib.hid (by have h := idL_el (n := L.length) (i := i) (j := j) (by have := HIL.out; omega) (by have := HIW.out; omega); rw [HI.out] at h; unfold el at h; rw [getL_elem hi, getD_elem hj] at h; exact h)
          go_upto_region 20 with (fail)
          obtain ⟨u7ab, u7ao, rfl⟩ := Rw.addr (EL.out.fc 1 rfl) (by omega)
          have E13 : Hid (Env D w [(w1.heap.size, 44, [.slice (some ⟨xab, xao, none⟩) L.length xk])] [.ce u7ab (u7ao + j) (.int .i64 (I[i][j] : Nat)), .ce pab (pao + i) (.slice (some ⟨u7ab, u7ao, none⟩) I[i].length u7k), .rw (.slice (some ⟨u7ab, u7ao, none⟩) I[i].length u7k) I[i].length 1 (ncl I[i]), .mx (.slice ra I.length rk) (I.map nl), .mx (.slice (some ⟨pab, pao, none⟩) I.length pk) (I.map nl), .mx (.slice ia X.length ik) (X.map nl), .ce xab (xao) (.slice ua L[0].length uk), .rw (.slice ua L[0].length uk) L[0].length 1 (ncl L[0]), .rw (.slice ta b.length tk) b.length 1 (icl b), .mx (.slice (some ⟨xab, xao, none⟩) L.length xk) (L.map nl)] _) := Lib.hid (EL.out.elN 1 rfl rfl (j) hj)
          clear EL
          have v70 := (E13.out.fc 0 rfl).2
          by_cases hij : i = j
          · have HIJ := Lib.hid hij
            clear hij
            have HX1 : Hid (I[i][j] = 1) := Lib.hid (by rw [HEL.out, if_pos HIJ.out])
            have p1 : ((i : Int) == (j : Int)) = true := by rw [HIJ.out]; simp
            have p1n : (i == j) = true := by rw [HIJ.out]; simp
            have p2 : ((i : Int) != (j : Int)) = false := by rw [bne, p1]; rfl
            have p2n : (i != j) = false := by rw [bne, p1n]; rfl
            have p3 : (((I[i][j] : Nat) : Int) == 1) = true := by rw [HX1.out]; rfl
            have p3n : (I[i][j] == 1) = true := by rw [HX1.out]; rfl
            have EZ := Lib.hid (E13.out.forget)
            go_wp2
            go_roundg (I[i].length - (j + 1))
            case rel => exact ⟨j + 1, rfl, EZ, Lib.hid ⟨by omega, rfl⟩⟩
            case measure => exact by omega
          · have HIJ := Lib.hid hij
            clear hij
            have HX1 : Hid (I[i][j] = 0) := Lib.hid (by rw [HEL.out, if_neg HIJ.out])
            have p1 : ((i : Int) == (j : Int)) = false := by rw [beq_eq_false_iff_ne]; have := HIJ.out; omega
            have p1n : (i == j) = false := by rw [beq_eq_false_iff_ne]; exact HIJ.out
            have p2 : ((i : Int) != (j : Int)) = true := by rw [bne, p1]; rfl
            have p2n : (i != j) = true := by rw [bne, p1n]; rfl
            have p3 : (((I[i][j] : Nat) : Int) == 1) = false := by rw [HX1.out]; rfl
            have p3n : (I[i][j] == 1) = false := by rw [HX1.out]; rfl
            have p4 : (((I[i][j] : Nat) : Int) != 0) = false := by rw [HX1.out]; rfl
            have p4n : (I[i][j] != 0) = false := by rw [HX1.out]; rfl
            have p5 : (((I[i][j] : Nat) : Int) == 0) = true := by rw [HX1.out]; rfl
            have p5n : (I[i][j] == 0) = true := by rw [HX1.out]; rfl
            have EZ := Lib.hid (E13.out.forget)
            go_wp2
            go_roundg (I[i].length - (j + 1))
            case rel => exact ⟨j + 1, rfl, EZ, Lib.hid ⟨by omega, rfl⟩⟩
            case measure => exact by omega
        have t8 : decide ((j : Int) < (I[i].length : Int)) = false := decide_eq_false (by omega)
        have t8n : decide (j < I[i].length) = false := decide_eq_false (by omega)
        clear hy
        have EZ := Lib.hid ((EL.out.forget).forget)
        go_wp2
        go_roundg (I.length - (i + 1))
        case rel => exact ⟨i + 1, rfl, EZ, Lib.hid ⟨by omega, rfl⟩⟩
        case measure => exact by omega
    have t6 : decide ((i : Int) < (I.length : Int)) = false := decide_eq_false (by omega)
    have t6n : decide (i < I.length) = false := decide_eq_false (by omega)
    clear hy
    by_cases hsn : b.length = L.length
    · have HSN := Lib.hid hsn
      clear hsn
      have ga : ((b.length : Int) != (L.length : Int)) = false := by rw [HSN.out]; simp
      have gb : (b.length != L.length) = false := by rw [HSN.out]; simp
      go_wp2_with fail
      refine (rVector_c (q : Int) b (EL.out.fc 5 rfl) (hs.out HSN.out) (by omega)).mono ?_
      rintro e w10 ⟨rfl, hb⟩
      have E12 : Hid (Env D w [(w1.heap.size, 44, [.slice (some ⟨xab, xao, none⟩) L.length xk])] [.mx (.slice ra I.length rk) (I.map nl), .mx (.slice pa I.length pk) (I.map nl), .mx (.slice ia X.length ik) (X.map nl), .ce xab (xao) (.slice ua L[0].length uk), .rw (.slice ua L[0].length uk) L[0].length 1 (ncl L[0]), .rw (.slice ta b.length tk) b.length 1 (icl b), .mx (.slice (some ⟨xab, xao, none⟩) L.length xk) (L.map nl)] w10) := Lib.hid (EL.out.below hb)
      clear EL hb
      have hfin := Lib.hid E12.out.bel
      go_wp2
      go_ret
      exact ⟨rfl, hfin.out⟩
    · have HSN := Lib.hid hsn
      clear hsn
      have ga : ((b.length : Int) != (L.length : Int)) = true := by have := HSN.out; rw [bne_iff_ne]; omega
      have gb : (b.length != L.length) = true := by have := HSN.out; rw [bne_iff_ne]; omega
      have hfin := Lib.hid EL.out.bel
      go_wp2
      go_ret
      exact ⟨rfl, hfin.out⟩
set_option maxRecDepth 100000 in
set_option maxHeartbeats 8000000 in
theorem mu_k {D : Nat → Prop} (q : Nat) (L : List (List Nat)) (P : List Nat) (M : List (List Nat)) (b : List Nat) {xa ta : Option Addr} {xk tk : Nat} {w : World} (hx : Fct.at w D (.mx (.slice xa L.length xk) (L.map nl))) (ht : Fct.at w D (.rw (.slice ta b.length tk) b.length 1 (ncl b))) (hl0 : Laid w) (HG0 : [L.map nl].any (fun x => grM x) = false) (h1 : b.length ≤ 100) (hv0 : MvI q L.length L) (hR0 : redN q (invL L) L.length = (M, P)) (hp0 : P.length = L.length) (hb0 : b.length = L.length) (hs0 : ∀ c ∈ b, c < q) :
    Calls Tryd.prog 10 #[.int .i64 (q : Nat), .slice xa L.length xk, .slice ta b.length tk] w fun e w' => e = .returned (.bool true) ∧ Below w.heap.size w w' := by
  have E0 : Hid (Env D w [] [.rw (.slice ta b.length tk) b.length 1 (ncl b), .mx (.slice xa L.length xk) (L.map nl)] w) := Lib.hid (((Env.start D w).arg (.mx (.slice xa L.length xk) (L.map nl)) hx).arg (.rw (.slice ta b.length tk) b.length 1 (ncl b)) ht)
  clear hx ht
  go_enter Tryd.func10, Tryd.ntmps10
  have hl := Lib.hid hl0
  have HG := Lib.hid HG0
  have hv := Lib.hid hv0
  have hR := Lib.hid hR0
  have hp := Lib.hid hp0
  have hs := Lib.hid hs0
  have hb := Lib.hid hb0
  clear hl0 HG0 hv0 hR0 hp0 hs0 hb0
  go_wp2_with fail
  refine (awake14_c (hl.out.below E0.out.bel)).mono ?_
  rintro e w1 ⟨rfl, hb⟩
  have E1 : Hid (Env D w [] [.rw (.slice ta b.length tk) b.length 1 (ncl b), .mx (.slice xa L.length xk) (L.map nl)] w1) := Lib.hid (E0.out.below hb)
  clear E0 hb
  have d3 : decide ((100 : Int) < (b.length : Int)) = false := decide_eq_false (by omega)
  have d3n : decide (100 < b.length) = false := decide_eq_false (by omega)
  have z1 : 0 < L.length := hv.out.m1
  have z1I : (0 : Int) < (L.length : Int) := by omega
  have HL0 : Hid (L[0].length = L.length) := Lib.hid (hv.out.res _ (List.getElem_mem z1)).1
  have na : ((L.length : Int) != (L[0].length : Int)) = false := by have h1 := HL0.out; rw [h1]; simp
  have nb : (L.length != L[0].length) = false := by have h1 := HL0.out; rw [h1]; simp
  go_upto_region 3 with (fail)
  obtain ⟨xab, xao, rfl⟩ := Mx.addrN (E1.out.fc 1 rfl) z1
  obtain ⟨ua, uk, E20⟩ := E1.out.elMN 1 rfl (0) z1
  have E2 : Hid (Env D w [] [.ce xab (xao) (.slice ua L[0].length uk), .rw (.slice ua L[0].length uk) L[0].length 1 (ncl L[0]), .rw (.slice ta b.length tk) b.length 1 (ncl b), .mx (.slice (some ⟨xab, xao, none⟩) L.length xk) (L.map nl)] _) := Lib.hid E20
  clear E20 E1
  have u0 := (E2.out.fc 0 rfl).2
  have E3 : Hid (Env D w [(w1.heap.size, 44, [.slice (some ⟨xab, xao, none⟩) L.length xk])] [.ce xab (xao) (.slice ua L[0].length uk), .rw (.slice ua L[0].length uk) L[0].length 1 (ncl L[0]), .rw (.slice ta b.length tk) b.length 1 (ncl b), .mx (.slice (some ⟨xab, xao, none⟩) L.length xk) (L.map nl)] _) := Lib.hid ((E2.out.push 44 [.slice (some ⟨xab, xao, none⟩) L.length xk] (w1.heap.size) (by simp)))
  go_wp2_with fail
  refine (great14_c (t := false) [L.map nl] (xb := w1.heap.size) (xo := 0) (xk := 1) (gMats.one (by simp) (E3.out.bx 0 rfl) (E3.out.fc 3 rfl)) HG.out (by simp)).mono ?_
  rintro e w2 ⟨rfl, hb⟩
  have E4 : Hid (Env D w [(w1.heap.size, 44, [.slice (some ⟨xab, xao, none⟩) L.length xk])] [.ce xab (xao) (.slice ua L[0].length uk), .rw (.slice ua L[0].length uk) L[0].length 1 (ncl L[0]), .rw (.slice ta b.length tk) b.length 1 (ncl b), .mx (.slice (some ⟨xab, xao, none⟩) L.length xk) (L.map nl)] w2) := Lib.hid (E3.out.below hb)
  clear u0 E2 E3 hb
  go_wp2_with fail
  refine (rMValidN (E4.out.fc 3 rfl) hv.out).mono ?_
  rintro e w3 ⟨rfl, hb⟩
  have E5 : Hid (Env D w [(w1.heap.size, 44, [.slice (some ⟨xab, xao, none⟩) L.length xk])] [.ce xab (xao) (.slice ua L[0].length uk), .rw (.slice ua L[0].length uk) L[0].length 1 (ncl L[0]), .rw (.slice ta b.length tk) b.length 1 (ncl b), .mx (.slice (some ⟨xab, xao, none⟩) L.length xk) (L.map nl)] w3) := Lib.hid (E4.out.below hb)
  clear E4 hb
  have z1 := (E5.out.fc 0 rfl).2
  have HRK : Hid (rk q L.length L = L.length) := Lib.hid (by rw [← rk_inv hv.out.res rfl hR.out]; exact hp.out)
  have hud := undone hv.out.q2 hv.out.unit hv.out.res rfl hR.out hp.out
  obtain ⟨X, hX⟩ : ∃ X, M.map (List.drop L.length) = X := ⟨_, rfl⟩
  rw [hX] at hud
  have HX := Lib.hid hX
  clear hX
  obtain ⟨I, hI⟩ : ∃ I, idL L.length = I := ⟨_, rfl⟩
  rw [hI] at hud
  have HI := Lib.hid hI
  clear hI
  have HU := Lib.hid hud
  clear hud
  have HXV : Hid (MvI q L.length X) := Lib.hid ⟨HU.out.2.1, hv.out.q2, hv.out.qT, hv.out.fb, by rw [HU.out.1]; exact hv.out.m1, by rw [HU.out.1]; exact hv.out.m30, hv.out.n1, hv.out.n30⟩
  have HIL : Hid (L.length = I.length) := Lib.hid (by rw [← HI.out, idL_len])
  have HIR : Hid (ResM q L.length I) := Lib.hid (by rw [← HU.out.2.2.1]; exact mulT_res (by have := hv.out.q2; omega))
  have ka : ((L.length : Int) == (L.length : Int)) = true := by simp
  have kb : (L.length == L.length) = true := by simp
  go_wp2_with fail
  refine (Inverse_x (E5.out.fc 3 rfl) (hl.out.below E5.out.bel) hv.out hR.out (by rw [hp.out]; exact Nat.lt_irrefl _) HX.out).mono ?_
  rintro e w4 ⟨⟨ia, ik, rfl, ih⟩, hb⟩
  have E6 : Hid (Env D w [(w1.heap.size, 44, [.slice (some ⟨xab, xao, none⟩) L.length xk])] [.mx (.slice ia X.length ik) (X.map nl), .ce xab (xao) (.slice ua L[0].length uk), .rw (.slice ua L[0].length uk) L[0].length 1 (ncl L[0]), .rw (.slice ta b.length tk) b.length 1 (ncl b), .mx (.slice (some ⟨xab, xao, none⟩) L.length xk) (L.map nl)] w4) := Lib.hid (E5.out.got (E5.out.below hb) (.mx (.slice ia X.length ik) (X.map nl)) ih.out)
  clear z1 E5 hb ih
  go_wp2_with fail
  refine (Rank_r (E6.out.fc 4 rfl) (hl.out.below E6.out.bel) hv.out HRK.out).mono ?_
  rintro e w5 ⟨rfl, hb⟩
  have E7 : Hid (Env D w [(w1.heap.size, 44, [.slice (some ⟨xab, xao, none⟩) L.length xk])] [.mx (.slice ia X.length ik) (X.map nl), .ce xab (xao) (.slice ua L[0].length uk), .rw (.slice ua L[0].length uk) L[0].length 1 (ncl L[0]), .rw (.slice ta b.length tk) b.length 1 (ncl b), .mx (.slice (some ⟨xab, xao, none⟩) L.length xk) (L.map nl)] w5) := Lib.hid (E6.out.below hb)
  clear E6 hb
  go_wp2_with fail
  refine (Mul_r (E7.out.fc 0 rfl) (E7.out.fc 4 rfl) (hl.out.below E7.out.bel) HXV.out hv.out rfl HU.out.2.2.2).mono ?_
  rintro e w6 ⟨⟨pa, pk, rfl, ph⟩, hb⟩
  have E8 : Hid (Env D w [(w1.heap.size, 44, [.slice (some ⟨xab, xao, none⟩) L.length xk])] [.mx (.slice pa I.length pk) (I.map nl), .mx (.slice ia X.length ik) (X.map nl), .ce xab (xao) (.slice ua L[0].length uk), .rw (.slice ua L[0].length uk) L[0].length 1 (ncl L[0]), .rw (.slice ta b.length tk) b.length 1 (ncl b), .mx (.slice (some ⟨xab, xao, none⟩) L.length xk) (L.map nl)] w6) := Lib.hid (E7.out.got (E7.out.below hb) (.mx (.slice pa I.length pk) (I.map nl)) ph.out)
  clear E7 hb ph
  go_wp2_with fail
  refine (Mul_r (E8.out.fc 5 rfl) (E8.out.fc 1 rfl) (hl.out.below E8.out.bel) hv.out HXV.out HU.out.1.symm HU.out.2.2.1).mono ?_
  rintro e w7 ⟨⟨ra, rk, rfl, rh⟩, hb⟩
  have E9 : Hid (Env D w [(w1.heap.size, 44, [.slice (some ⟨xab, xao, none⟩) L.length xk])] [.mx (.slice ra I.length rk) (I.map nl), .mx (.slice pa I.length pk) (I.map nl), .mx (.slice ia X.length ik) (X.map nl), .ce xab (xao) (.slice ua L[0].length uk), .rw (.slice ua L[0].length uk) L[0].length 1 (ncl L[0]), .rw (.slice ta b.length tk) b.length 1 (ncl b), .mx (.slice (some ⟨xab, xao, none⟩) L.length xk) (L.map nl)] w7) := Lib.hid (E8.out.got (E8.out.below hb) (.mx (.slice ra I.length rk) (I.map nl)) rh.out)
  clear E8 hb rh
  go_wp2_with fail
  refine (Same_r (E9.out.fc 1 rfl) (E9.out.fc 0 rfl) HIR.out (by have := HIL.out; have := hv.out.m30; omega) (by have := HIL.out; have := hv.out.m30; omega)).mono ?_
  rintro e w8 ⟨rfl, hb⟩
  have E10 : Hid (Env D w [(w1.heap.size, 44, [.slice (some ⟨xab, xao, none⟩) L.length xk])] [.mx (.slice ra I.length rk) (I.map nl), .mx (.slice pa I.length pk) (I.map nl), .mx (.slice ia X.length ik) (X.map nl), .ce xab (xao) (.slice ua L[0].length uk), .rw (.slice ua L[0].length uk) L[0].length 1 (ncl L[0]), .rw (.slice ta b.length tk) b.length 1 (ncl b), .mx (.slice (some ⟨xab, xao, none⟩) L.length xk) (L.map nl)] w8) := Lib.hid (E9.out.below hb)
  clear E9 hb
  go_wp2_with fail
  refine (shaped_ok q L.length L.length L.length I (E10.out.fc 1 rfl) HIL.out rfl HIR.out (by have := HIL.out; have := hv.out.m30; omega) (by have := HIL.out; have := hv.out.m30; omega)).mono ?_
  rintro e w9 ⟨rfl, hb⟩
  have E11 : Hid (Env D w [(w1.heap.size, 44, [.slice (some ⟨xab, xao, none⟩) L.length xk])] [.mx (.slice ra I.length rk) (I.map nl), .mx (.slice pa I.length pk) (I.map nl), .mx (.slice ia X.length ik) (X.map nl), .ce xab (xao) (.slice ua L[0].length uk), .rw (.slice ua L[0].length uk) L[0].length 1 (ncl L[0]), .rw (.slice ta b.length tk) b.length 1 (ncl b), .mx (.slice (some ⟨xab, xao, none⟩) L.length xk) (L.map nl)] w9) := Lib.hid (E10.out.below hb)
  clear E10 hb
  go_wp2_with fail
  go_loopg [113] (I.length) (fun gk s113 wr => ∃ (i : Nat), s113 = .int .i64 (i : Int) ∧ Hid (Env D w [(w1.heap.size, 44, [.slice (some ⟨xab, xao, none⟩) L.length xk])] [.mx (.slice ra I.length rk) (I.map nl), .mx (.slice pa I.length pk) (I.map nl), .mx (.slice ia X.length ik) (X.map nl), .ce xab (xao) (.slice ua L[0].length uk), .rw (.slice ua L[0].length uk) L[0].length 1 (ncl L[0]), .rw (.slice ta b.length tk) b.length 1 (ncl b), .mx (.slice (some ⟨xab, xao, none⟩) L.length xk) (L.map nl)] wr) ∧ Hid (i ≤ I.length ∧ gk = I.length - i))
  case atStart => exact ⟨0, rfl, Lib.hid E11.out, Lib.hid ⟨Nat.zero_le _, rfl⟩⟩
  case round =>
    clear E11
    obtain ⟨i, rfl, EL, HA⟩ := hrel
    obtain ⟨a1, a2⟩ := HA.out
    clear HA
    have hin9 : I.length ≤ 30 := by have := HIL.out; have := hv.out.m30; omega
    by_cases hy : i = I.length
    rotate_left
    · have hi : i < I.length := by omega
      have t6 : decide ((i : Int) < (I.length : Int)) = true := decide_eq_true (by omega)
      have t6n : decide (i < I.length) = true := decide_eq_true (by omega)
      have hiI : (i : Int) < (I.length : Int) := by omega
      clear hy
      have HIW : Hid (I[i].length = L.length) := Lib.hid (HIR.out _ (List.getElem_mem hi)).1
      have hiw : 0 < I[i].length := by rw [HIW.out]; exact z1
      have hiw9 : I[i].length ≤ 30 := by rw [HIW.out]; exact hv.out.m30
      go_upto_region 17 with (fail)
      obtain ⟨pab, pao, rfl⟩ := Mx.addrN (EL.out.fc 1 rfl) hi
      obtain ⟨u7a, u7k, E120⟩ := EL.out.elMN 1 rfl (i) hi
      have E12 : Hid (Env D w [(w1.heap.size, 44, [.slice (some ⟨xab, xao, none⟩) L.length xk])] [.ce pab (pao + i) (.slice u7a I[i].length u7k), .rw (.slice u7a I[i].length u7k) I[i].length 1 (ncl I[i]), .mx (.slice ra I.length rk) (I.map nl), .mx (.slice (some ⟨pab, pao, none⟩) I.length pk) (I.map nl), .mx (.slice ia X.length ik) (X.map nl), .ce xab (xao) (.slice ua L[0].length uk), .rw (.slice ua L[0].length uk) L[0].length 1 (ncl L[0]), .rw (.slice ta b.length tk) b.length 1 (ncl b), .mx (.slice (some ⟨xab, xao, none⟩) L.length xk) (L.map nl)] _) := Lib.hid E120
      clear E120 EL
      have u70 := (E12.out.fc 0 rfl).2
      go_wp2_with fail
      go_loopg [120] (I[i].length) (fun gk s120 wr => ∃ (j : Nat), s120 = .int .i64 (j : Int) ∧ Hid (Env D w [(w1.heap.size, 44, [.slice (some ⟨xab, xao, none⟩) L.length xk])] [.ce pab (pao + i) (.slice u7a I[i].length u7k), .rw (.slice u7a I[i].length u7k) I[i].length 1 (ncl I[i]), .mx (.slice ra I.length rk) (I.map nl), .mx (.slice (some ⟨pab, pao, none⟩) I.length pk) (I.map nl), .mx (.slice ia X.length ik) (X.map nl), .ce xab (xao) (.slice ua L[0].length uk), .rw (.slice ua L[0].length uk) L[0].length 1 (ncl L[0]), .rw (.slice ta b.length tk) b.length 1 (ncl b), .mx (.slice (some ⟨xab, xao, none⟩) L.length xk) (L.map nl)] wr) ∧ Hid (j ≤ I[i].length ∧ gk = I[i].length - j))
      case atStart => exact ⟨0, rfl, Lib.hid E12.out, Lib.hid ⟨Nat.zero_le _, rfl⟩⟩
      case round =>
        clear u70 E12
        obtain ⟨j, rfl, EL, HA⟩ := hrel
        obtain ⟨b1, b2⟩ := HA.out
        clear HA
        by_cases hy : j = I[i].length
        rotate_left
        · have hj : j < I[i].length := by omega
          have t8 : decide ((j : Int) < (I[i].length : Int)) = true := decide_eq_true (by omega)
          have t8n : decide (j < I[i].length) = true := decide_eq_true (by omega)
          have hjI : (j : Int) < (I[i].length : Int) := by omega
          clear hy
          have HEL : Hid (I[i][j] = if i = j then 1 else 0) := Lib.hid (by have h := idL_el (n := L.length) (i := i) (j := j) (by have := HIL.out; omega) (by have := HIW.out; omega); rw [HI.out] at h; unfold el at h; rw [getL_elem hi, getD_elem hj] at h; exact h)
          go_upto_region 20 with (fail)
          obtain ⟨u7ab, u7ao, rfl⟩ := Rw.addr (EL.out.fc 1 rfl) (by omega)
          have E13 : Hid (Env D w [(w1.heap.size, 44, [.slice (some ⟨xab, xao, none⟩) L.length xk])] [.ce u7ab (u7ao + j) (.int .i64 (I[i][j] : Nat)), .ce pab (pao + i) (.slice (some ⟨u7ab, u7ao, none⟩) I[i].length u7k), .rw (.slice (some ⟨u7ab, u7ao, none⟩) I[i].length u7k) I[i].length 1 (ncl I[i]), .mx (.slice ra I.length rk) (I.map nl), .mx (.slice (some ⟨pab, pao, none⟩) I.length pk) (I.map nl), .mx (.slice ia X.length ik) (X.map nl), .ce xab (xao) (.slice ua L[0].length uk), .rw (.slice ua L[0].length uk) L[0].length 1 (ncl L[0]), .rw (.slice ta b.length tk) b.length 1 (ncl b), .mx (.slice (some ⟨xab, xao, none⟩) L.length xk) (L.map nl)] _) := Lib.hid (EL.out.elN 1 rfl rfl (j) hj)
          clear EL
          have v70 := (E13.out.fc 0 rfl).2
          by_cases hij : i = j
          · have HIJ := Lib.hid hij
            clear hij
            have HX1 : Hid (I[i][j] = 1) := Lib.hid (by rw [HEL.out, if_pos HIJ.out])
            have p1 : ((i : Int) == (j : Int)) = true := by rw [HIJ.out]; simp
            have p1n : (i == j) = true := by rw [HIJ.out]; simp
            have p2 : ((i : Int) != (j : Int)) = false := by rw [bne, p1]; rfl
            have p2n : (i != j) = false := by rw [bne, p1n]; rfl
            have p3 : (((I[i][j] : Nat) : Int) == 1) = true := by rw [HX1.out]; rfl
            have p3n : (I[i][j] == 1) = true := by rw [HX1.out]; rfl
            have EZ := Lib.hid (E13.out.forget)
            go_wp2
            go_roundg (I[i].length - (j + 1))
            case rel => exact ⟨j + 1, rfl, EZ, Lib.hid ⟨by omega, rfl⟩⟩
            case measure => exact by omega
          · have HIJ := Lib.hid hij
            clear hij
            have HX1 : Hid (I[i][j] = 0) := Lib.hid (by rw [HEL.out, if_neg HIJ.out])
            have p1 : ((i : Int) == (j : Int)) = false := by rw [beq_eq_false_iff_ne]; have := HIJ.out; omega
            have p1n : (i == j) = false := by rw [beq_eq_false_iff_ne]; exact HIJ.out
            have p2 : ((i : Int) != (j : Int)) = true := by rw [bne, p1]; rfl
            have p2n : (i != j) = true := by rw [bne, p1n]; rfl
            have p3 : (((I[i][j] : Nat) : Int) == 1) = false := by rw [HX1.out]; rfl
            have p3n : (I[i][j] == 1) = false := by rw [HX1.out]; rfl
            have p4 : (((I[i][j] : Nat) : Int) != 0) = false := by rw [HX1.out]; rfl
            have p4n : (I[i][j] != 0) = false := by rw [HX1.out]; rfl
            have p5 : (((I[i][j] : Nat) : Int) == 0) = true := by rw [HX1.out]; rfl
            have p5n : (I[i][j] == 0) = true := by rw [HX1.out]; rfl
            have EZ := Lib.hid (E13.out.forget)
            go_wp2
            go_roundg (I[i].length - (j + 1))
            case rel => exact ⟨j + 1, rfl, EZ, Lib.hid ⟨by omega, rfl⟩⟩
            case measure => exact by omega
        have t8 : decide ((j : Int) < (I[i].length : Int)) = false := decide_eq_false (by omega)
        have t8n : decide (j < I[i].length) = false := decide_eq_false (by omega)
        clear hy
        have EZ := Lib.hid ((EL.out.forget).forget)
        go_wp2
        go_roundg (I.length - (i + 1))
        case rel => exact ⟨i + 1, rfl, EZ, Lib.hid ⟨by omega, rfl⟩⟩
        case measure => exact by omega
    have t6 : decide ((i : Int) < (I.length : Int)) = false := decide_eq_false (by omega)
    have t6n : decide (i < I.length) = false := decide_eq_false (by omega)
    clear hy
    have ga : ((b.length : Int) != (L.length : Int)) = false := by rw [hb.out]; simp
    have gb : (b.length != L.length) = false := by rw [hb.out]; simp
    go_wp2_with fail
    refine (rVecN (EL.out.fc 5 rfl) hs.out (by omega)).mono ?_
    rintro e w10 ⟨rfl, hb⟩
    have E12 : Hid (Env D w [(w1.heap.size, 44, [.slice (some ⟨xab, xao, none⟩) L.length xk])] [.mx (.slice ra I.length rk) (I.map nl), .mx (.slice pa I.length pk) (I.map nl), .mx (.slice ia X.length ik) (X.map nl), .ce xab (xao) (.slice ua L[0].length uk), .rw (.slice ua L[0].length uk) L[0].length 1 (ncl L[0]), .rw (.slice ta b.length tk) b.length 1 (ncl b), .mx (.slice (some ⟨xab, xao, none⟩) L.length xk) (L.map nl)] w10) := Lib.hid (EL.out.below hb)
    clear EL hb
    obtain ⟨y, hy9⟩ : ∃ y, appT q X b = y := ⟨_, rfl⟩
    have HY := Lib.hid hy9
    clear hy9
    have HYL : Hid (y.length = L.length) := Lib.hid (by rw [← HY.out, appT_len]; exact HU.out.1)
    have HYQ : Hid (∀ c ∈ y, c < q) := Lib.hid (by rw [← HY.out]; exact appT_lt (by have := hv.out.q2; omega) _ _)
    have HYB : Hid (appT q L y = b) := Lib.hid (by rw [← HY.out, ← app_mul hb.out, HU.out.2.2.1, ← HI.out]; exact app_id hb.out hs.out (by have := hv.out.q2; omega))
    go_wp2_with fail
    refine (Solve_y (E12.out.fc 6 rfl) (E12.out.fc 5 rfl) (hl.out.below E12.out.bel) hv.out rfl hb.out hs.out HRK.out HYL.out HYQ.out HYB.out).mono ?_
    rintro e w11 ⟨⟨ya, yk, ka, kk, rfl, yh⟩, hb⟩
    have E13 : Hid (Env D w [(w1.heap.size, 44, [.slice (some ⟨xab, xao, none⟩) L.length xk])] [.rw (.slice ya y.length yk) y.length 1 (ncl y), .mx (.slice ra I.length rk) (I.map nl), .mx (.slice pa I.length pk) (I.map nl), .mx (.slice ia X.length ik) (X.map nl), .ce xab (xao) (.slice ua L[0].length uk), .rw (.slice ua L[0].length uk) L[0].length 1 (ncl L[0]), .rw (.slice ta b.length tk) b.length 1 (ncl b), .mx (.slice (some ⟨xab, xao, none⟩) L.length xk) (L.map nl)] w11) := Lib.hid (E12.out.got (E12.out.below hb) (.rw (.slice ya y.length yk) y.length 1 (ncl y)) yh.out)
    clear E12 hb yh
    go_wp2_with fail
    refine (Apply_r (E13.out.fc 3 rfl) (E13.out.fc 6 rfl) (hl.out.below E13.out.bel) HXV.out hb.out hs.out HY.out).mono ?_
    rintro e w12 ⟨⟨rza, rzk, rfl, rzh⟩, hb⟩
    have E14 : Hid (Env D w [(w1.heap.size, 44, [.slice (some ⟨xab, xao, none⟩) L.length xk])] [.rw (.slice rza (y).length rzk) (y).length 1 (ncl (y)), .rw (.slice ya y.length yk) y.length 1 (ncl y), .mx (.slice ra I.length rk) (I.map nl), .mx (.slice pa I.length pk) (I.map nl), .mx (.slice ia X.length ik) (X.map nl), .ce xab (xao) (.slice ua L[0].length uk), .rw (.slice ua L[0].length uk) L[0].length 1 (ncl L[0]), .rw (.slice ta b.length tk) b.length 1 (ncl b), .mx (.slice (some ⟨xab, xao, none⟩) L.length xk) (L.map nl)] w12) := Lib.hid (E13.out.got (E13.out.below hb) (.rw (.slice rza (y).length rzk) (y).length 1 (ncl (y))) (Lib.hid (Rw.ge rzh.out)).out)
    clear E13 hb
    go_wp2_with fail
    refine (Count_y (E14.out.fc 8 rfl) (E14.out.fc 7 rfl) (hl.out.below E14.out.bel) hv.out rfl hb.out hs.out HRK.out).mono ?_
    rintro e w13 ⟨rfl, hb⟩
    have E15 : Hid (Env D w [(w1.heap.size, 44, [.slice (some ⟨xab, xao, none⟩) L.length xk])] [.rw (.slice rza (y).length rzk) (y).length 1 (ncl (y)), .rw (.slice ya y.length yk) y.length 1 (ncl y), .mx (.slice ra I.length rk) (I.map nl), .mx (.slice pa I.length pk) (I.map nl), .mx (.slice ia X.length ik) (X.map nl), .ce xab (xao) (.slice ua L[0].length uk), .rw (.slice ua L[0].length uk) L[0].length 1 (ncl L[0]), .rw (.slice ta b.length tk) b.length 1 (ncl b), .mx (.slice (some ⟨xab, xao, none⟩) L.length xk) (L.map nl)] w13) := Lib.hid (E14.out.below hb)
    clear E14 hb
    go_wp2_with fail
    refine (equalN_c (t := true) (a := y) (b := y) (E15.out.fc 1 rfl) (E15.out.fc 0 rfl) (by have := HYL.out; have := hv.out.m30; omega) (by have := HYL.out; have := hv.out.m30; omega) (by simp)).mono ?_
    rintro e w14 ⟨rfl, hb⟩
    have E16 : Hid (Env D w [(w1.heap.size, 44, [.slice (some ⟨xab, xao, none⟩) L.length xk])] [.rw (.slice rza (y).length rzk) (y).length 1 (ncl (y)), .rw (.slice ya y.length yk) y.length 1 (ncl y), .mx (.slice ra I.length rk) (I.map nl), .mx (.slice pa I.length pk) (I.map nl), .mx (.slice ia X.length ik) (X.map nl), .ce xab (xao) (.slice ua L[0].length uk), .rw (.slice ua L[0].length uk) L[0].length 1 (ncl L[0]), .rw (.slice ta b.length tk) b.length 1 (ncl b), .mx (.slice (some ⟨xab, xao, none⟩) L.length xk) (L.map nl)] w14) := Lib.hid (E15.out.below hb)
    clear E15 hb
    have hfin := Lib.hid E16.out.bel
    go_wp2
    go_ret
    exact ⟨rfl, hfin.out⟩
theorem MatrixUndone_walk {D : Nat → Prop} (q : Int) (M : List (List Int)) (b : List Int) {xa ta : Option Addr} {xk tk : Nat} {w : World} (hx : Fct.at w D (.mx (.slice xa M.length xk) M)) (ht : Fct.at w D (.rw (.slice ta b.length tk) b.length 1 (icl b))) (hl : Laid w) (hn : -9223372036854775808 ≤ q ∧ q ≤ 9223372036854775807) :
    Calls Tryd.prog 10 #[.int .i64 q, .slice xa M.length xk, .slice ta b.length tk] w fun e w' => e = .returned (.bool true) ∧ Below w.heap.size w w' := by
  cases hg : [M].any (fun x => grM x) with
  | true => exact mu_a q M b hx ht hl hg
  | false =>
    by_cases h1 : 100 < b.length
    · exact mu_b q M b hx ht hl hg h1
    have h2 : b.length ≤ 100 := by omega
    cases hv : mvB q M with
    | false => exact mu_c q M b hx ht hl hg hn h2 hv
    | true =>
      obtain ⟨p, m, L, hp, hM, hL, _⟩ := mv_nat hv
      have z1 : 0 < M.length := by rw [hM, List.length_map]; exact hL.m1
      by_cases e1 : M.length = M[0].length
      rotate_left
      · exact mu_d q M b hx ht hl hg hn h2 hv z1 e1
      subst hp hM
      have f1 : m = L.length := by
        rw [List.length_map] at e1 z1
        rw [e1, List.getElem_map, nl_len]
        exact (hL.res _ (List.getElem_mem z1)).1.symm
      subst f1
      rw [List.length_map] at hx ⊢
      obtain ⟨R, P, hR⟩ : ∃ R P, redN p (invL L) L.length = (R, P) := ⟨_, _, rfl⟩
      have hP : P.length ≤ L.length := by
        have h := (rk_le (show 0 < p by have := hL.q2; omega) hL.res).1
        rw [← rk_inv hL.res rfl hR] at h; exact h
      by_cases hlt : P.length < L.length
      · exact mu_e p L P R b hx ht hl hg h2 hL hR hlt
      have hP2 : P.length = L.length := by omega
      by_cases h : b.length = L.length → b.all (resB (p : Int)) = false
      · exact mu_l p L P R b hx ht hl hg h2 hL hR hP2 h
      · have hr : b.all (resB (p : Int)) = true := by
          cases e : b.all (resB (p : Int)) with
          | true => rfl
          | false => exact absurd (fun _ => e) h
        have h3 : b.length = L.length := Classical.byContradiction fun e => h (fun e2 => absurd e2 e)
        obtain ⟨y, rfl, hy2⟩ := all_nl2 hr
        rw [nl_len] at h3 ht h2 ⊢
        exact mu_k p L P R y hx ht hl hg h2 hL hR hP2 h3 (fun c hc => Int.ofNat_lt.1 (hy2 c hc))
end Go.Proofs.YteipbcpnnojclaaDoor

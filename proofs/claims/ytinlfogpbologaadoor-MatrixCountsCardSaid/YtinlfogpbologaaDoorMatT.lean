/- specieref14: Same. -/
import Derived.Test.YtinlfogpbologaaDoorMatM
namespace Go.Proofs.YtinlfogpbologaaDoor
open Go.RowKit DivMath WordMath
set_option linter.unusedVariables false
set_option linter.unusedSimpArgs false
theorem same_step {α : Type} {A B : List α} {i : Nat} (hi : i < A.length) (hi2 : i < B.length) (e : A.take i = B.take i) (h : A[i] = B[i]) : A.take (i + 1) = B.take (i + 1) := by
  rw [List.take_add_one, List.take_add_one, e, List.getElem?_eq_getElem hi, List.getElem?_eq_getElem hi2, h]
section
variable {α : Type} [BEq α] [LawfulBEq α] {A B : List α} {i : Nat}
theorem same_end (h : A.length = B.length) (hi : i = A.length) (e : A.take i = B.take i) : (A == B) = true := by
  subst hi
  rw [List.take_length, h, List.take_length] at e
  rw [e]; simp
theorem same_no (hi : i < A.length) (hi2 : i < B.length) (h : A[i] ≠ B[i]) : (A == B) = false := by
  refine beq_eq_false_iff_ne.2 fun e => h ?_
  subst e; rfl
theorem same_ne (h : ¬ A.length = B.length) : (A == B) = false := beq_eq_false_iff_ne.2 fun e => h (by rw [e])
end
set_option maxRecDepth 100000 in
set_option maxHeartbeats 1000000 in
theorem rSame_len {D : Nat → Prop} (M N : List (List Int)) {xa ya : Option Addr} {xk yk : Nat} {w : World} (hx : Fct.at w D (.mx (.slice xa M.length xk) M)) (hy : Fct.at w D (.mx (.slice ya N.length yk) N)) (hlen : ¬ M.length = N.length) :
    Calls Tryd.prog 37 #[.slice xa M.length xk, .slice ya N.length yk] w fun e w' => e = .returned (.bool false) ∧ Below w.heap.size w w' := by
  have E0 : Hid (Env D w [] [.mx (.slice ya N.length yk) N, .mx (.slice xa M.length xk) M] w) := Lib.hid (((Env.start D w).arg (.mx (.slice xa M.length xk) M) hx).arg (.mx (.slice ya N.length yk) N) hy)
  clear hx hy
  go_enter Tryd.func37, Tryd.ntmps37
  have n1 : ((M.length : Int) != (N.length : Int)) = true := by rw [bne_iff_ne]; omega
  have n2 : (M.length != N.length) = true := by rw [bne_iff_ne]; exact hlen
  clear hlen
  have hfin := Lib.hid E0.out.bel
  go_wp2
  go_ret
  exact ⟨rfl, hfin.out⟩
set_option maxRecDepth 100000 in
set_option maxHeartbeats 8000000 in
theorem rSame_ok {D : Nat → Prop} (M N : List (List Int)) {xa ya : Option Addr} {xk yk : Nat} {w : World} (hx : Fct.at w D (.mx (.slice xa M.length xk) M)) (hy : Fct.at w D (.mx (.slice ya N.length yk) N)) (hlen : M.length = N.length) (hm : M.length ≤ 1000000) (hr0 : ∀ r ∈ M, r.length ≤ 1000000) {t : Bool} (ht0 : (M == N) = t) :
    Calls Tryd.prog 37 #[.slice xa M.length xk, .slice ya N.length yk] w fun e w' => e = .returned (.bool t) ∧ Below w.heap.size w w' := by
  have E0 : Hid (Env D w [] [.mx (.slice ya N.length yk) N, .mx (.slice xa M.length xk) M] w) := Lib.hid (((Env.start D w).arg (.mx (.slice xa M.length xk) M) hx).arg (.mx (.slice ya N.length yk) N) hy)
  clear hx hy
  go_enter Tryd.func37, Tryd.ntmps37
  have hr := Lib.hid hr0
  have ht := Lib.hid ht0
  clear hr0 ht0
  have HLN := Lib.hid hlen
  clear hlen
  have n1 : ((M.length : Int) != (N.length : Int)) = false := by rw [HLN.out]; simp
  have n2 : (M.length != N.length) = false := by rw [HLN.out]; simp
  go_wp2_with fail
  clear n1 n2
  go_loopg [5] (M.length) (fun gk s5 wr => ∃ (i : Nat), s5 = .int .i64 (i : Int) ∧ Hid (Env D w [] [.mx (.slice ya N.length yk) N, .mx (.slice xa M.length xk) M] wr) ∧ Hid ((i ≤ M.length ∧ gk = M.length - i) ∧ M.take i = N.take i))
  case atStart => exact ⟨0, rfl, Lib.hid E0.out, Lib.hid ⟨⟨Nat.zero_le _, rfl⟩, rfl⟩⟩
  case round =>
    clear E0
    obtain ⟨i, rfl, EL, HA⟩ := hrel
    obtain ⟨⟨a1, a2⟩, a3⟩ := HA.out
    have HS := Lib.hid a3
    clear a3 HA
    by_cases hy : i = M.length
    · skip
      have t6 : decide ((i : Int) < (M.length : Int)) = false := decide_eq_false (by omega)
      have t6n : decide (i < M.length) = false := decide_eq_false (by omega)
      have HT : Hid (true = t) := Lib.hid (by rw [← ht.out]; exact (same_end HLN.out hy HS.out).symm)
      clear hy
      have hfin := Lib.hid EL.out.bel
      go_wp2
      go_ret
      exact ⟨by have h := HT.out; subst h; rfl, hfin.out⟩
    have hi : i < M.length := by omega
    have t6 : decide ((i : Int) < (M.length : Int)) = true := decide_eq_true (by omega)
    have t6n : decide (i < M.length) = true := decide_eq_true (by omega)
    have hiI : (i : Int) < (M.length : Int) := by omega
    have hi2 : i < N.length := by rw [← HLN.out]; exact hi
    have hi2I : (i : Int) < (N.length : Int) := by omega
    clear hy
    go_upto_region 6 with (fail)
    obtain ⟨xab, xao, rfl⟩ := Mx.addr (EL.out.fc 1 rfl) hi
    obtain ⟨pa, pk, E10⟩ := EL.out.elM 1 rfl (i) hi
    have E1 : Hid (Env D w [] [.ce xab (xao + i) (.slice pa M[i].length pk), .rw (.slice pa M[i].length pk) M[i].length 1 (icl M[i]), .mx (.slice ya N.length yk) N, .mx (.slice (some ⟨xab, xao, none⟩) M.length xk) M] _) := Lib.hid E10
    clear E10 EL
    obtain ⟨yab, yao, rfl⟩ := Mx.addr (E1.out.fc 2 rfl) hi2
    obtain ⟨ua, uk, E20⟩ := E1.out.elM 2 rfl (i) hi2
    have E2 : Hid (Env D w [] [.ce yab (yao + i) (.slice ua N[i].length uk), .rw (.slice ua N[i].length uk) N[i].length 1 (icl N[i]), .ce xab (xao + i) (.slice pa M[i].length pk), .rw (.slice pa M[i].length pk) M[i].length 1 (icl M[i]), .mx (.slice (some ⟨yab, yao, none⟩) N.length yk) N, .mx (.slice (some ⟨xab, xao, none⟩) M.length xk) M] _) := Lib.hid E20
    clear E20 E1
    by_cases hb : M[i].length = N[i].length
    rotate_left
    · skip
      have n1 : ((M[i].length : Int) != (N[i].length : Int)) = true := by rw [bne_iff_ne]; omega
      have n2 : (M[i].length != N[i].length) = true := by rw [bne_iff_ne]; exact hb
      have HT : Hid (false = t) := Lib.hid (by rw [← ht.out]; exact (same_no hi hi2 (fun e => hb (by rw [e]))).symm)
      clear hb
      go_wp2_with fail
      have E3 : Hid (Env D w [] [.ce yab (yao + i) (.slice ua N[i].length uk), .rw (.slice ua N[i].length uk) N[i].length 1 (icl N[i]), .ce xab (xao + i) (.slice pa M[i].length pk), .rw (.slice pa M[i].length pk) M[i].length 1 (icl M[i]), .mx (.slice (some ⟨yab, yao, none⟩) N.length yk) N, .mx (.slice (some ⟨xab, xao, none⟩) M.length xk) M] (wr.drew)) := Lib.hid E2.out.drew
      clear E2
      refine wp_regionU (S := fun w' => w'.cell? ⟨xab, xao + i, none⟩ = some (.slice pa M[i].length pk) ∧ w'.cell? ⟨yab, yao + i, none⟩ = some (.slice ua N[i].length uk)) [] (by kernel_rfl) (⟨(E3.out.fc 2 rfl).2, (E3.out.fc 0 rfl).2⟩) (fun hHeld => ?_)
      generalize wr.drew = w1 at *
      refine uTake (i := 0) (some 18) (v := ?_) rfl rfl (by kernel_rfl) (by kernel_rfl) (by kernel_rfl) (by kernel_rfl) (fun _ _ _ h => h) (by rfl) (by assumption) ?_ ?_
      rotate_left
      · (intro wS hSw; (try dsimp only at hSw); go_simp; try with_reducible rfl)
      try simp only [Act.put, List.setIfInBounds_toArray, List.set_cons_zero, List.set_cons_succ]
      refine uTake (i := 1) (some 19) (v := ?_) rfl rfl (by kernel_rfl) (by kernel_rfl) (by kernel_rfl) (by kernel_rfl) (fun _ _ _ h => h) (by rfl) (by assumption) ?_ ?_
      rotate_left
      · (intro wS hSw; (try dsimp only at hSw); go_simp; try with_reducible rfl)
      try simp only [Act.put, List.setIfInBounds_toArray, List.set_cons_zero, List.set_cons_succ]
      refine uTake (i := 2) (some 20) (v := ?_) rfl rfl (by kernel_rfl) (by kernel_rfl) (by kernel_rfl) (by kernel_rfl) (fun _ _ _ h => h) (by rfl) (by assumption) ?_ ?_
      rotate_left
      · (intro wS hSw; (try dsimp only at hSw); go_simp; try with_reducible rfl)
      try simp only [Act.put, List.setIfInBounds_toArray, List.set_cons_zero, List.set_cons_succ]
      refine uTake (i := 3) (some 21) (v := ?_) rfl rfl (by kernel_rfl) (by kernel_rfl) (by kernel_rfl) (by kernel_rfl) (fun _ _ _ h => h) (by rfl) (by assumption) ?_ ?_
      rotate_left
      · (intro wS hSw; (try dsimp only at hSw); go_simp; try with_reducible rfl)
      try simp only [Act.put, List.setIfInBounds_toArray, List.set_cons_zero, List.set_cons_succ]
      refine uTake (i := 4) (some 22) (v := ?_) rfl rfl (by kernel_rfl) (by kernel_rfl) (by kernel_rfl) (by kernel_rfl) (fun _ _ _ h => h) (by rfl) (by assumption) ?_ ?_
      rotate_left
      · (intro wS hSw; (try dsimp only at hSw); go_simp; try with_reducible rfl)
      try simp only [Act.put, List.setIfInBounds_toArray, List.set_cons_zero, List.set_cons_succ]
      refine uTake (i := 5) (some 23) (v := ?_) rfl rfl (by kernel_rfl) (by kernel_rfl) (by kernel_rfl) (by kernel_rfl) (fun _ _ _ h => h) (by rfl) (by assumption) ?_ ?_
      rotate_left
      · (intro wS hSw; (try dsimp only at hSw); go_simp; try with_reducible rfl)
      try simp only [Act.put, List.setIfInBounds_toArray, List.set_cons_zero, List.set_cons_succ]
      refine uTake (i := 6) (some 24) (v := ?_) rfl rfl (by kernel_rfl) (by kernel_rfl) (by kernel_rfl) (by kernel_rfl) (fun _ _ _ h => h) (by rfl) (by assumption) ?_ ?_
      rotate_left
      · (intro wS hSw; (try dsimp only at hSw); go_simp; try with_reducible rfl)
      try simp only [Act.put, List.setIfInBounds_toArray, List.set_cons_zero, List.set_cons_succ]
      refine uTake (i := 7) (some 25) (v := ?_) rfl rfl (by kernel_rfl) (by kernel_rfl) (by kernel_rfl) (by kernel_rfl) (fun _ _ _ h => h) (by rfl) (by assumption) ?_ ?_
      rotate_left
      · (intro wS hSw; (try dsimp only at hSw); go_simp; try with_reducible rfl)
      try simp only [Act.put, List.setIfInBounds_toArray, List.set_cons_zero, List.set_cons_succ]
      refine uTake (i := 8) (some 26) (v := ?_) rfl rfl (by kernel_rfl) (by kernel_rfl) (by kernel_rfl) (by kernel_rfl) (fun _ _ _ h => h) (by rfl) (by assumption) ?_ ?_
      rotate_left
      · (intro wS hSw; (try dsimp only at hSw); go_simp; try with_reducible rfl)
      try simp only [Act.put, List.setIfInBounds_toArray, List.set_cons_zero, List.set_cons_succ]
      refine uTake (i := 9) (some 27) (v := ?_) rfl rfl (by kernel_rfl) (by kernel_rfl) (by kernel_rfl) (by kernel_rfl) (fun _ _ _ h => h) (by rfl) (by assumption) ?_ ?_
      rotate_left
      · (intro wS hSw; (try dsimp only at hSw); go_simp; try with_reducible rfl)
      try simp only [Act.put, List.setIfInBounds_toArray, List.set_cons_zero, List.set_cons_succ]
      refine uTake (i := 10) (some 28) (v := ?_) rfl rfl (by kernel_rfl) (by kernel_rfl) (by kernel_rfl) (by kernel_rfl) (fun _ _ _ h => h) (by rfl) (by assumption) ?_ ?_
      rotate_left
      · (intro wS hSw; (try dsimp only at hSw); go_simp; try with_reducible rfl)
      try simp only [Act.put, List.setIfInBounds_toArray, List.set_cons_zero, List.set_cons_succ]
      refine uDone (by kernel_rfl) ?_ _
      have hfin := Lib.hid E3.out.bel
      go_wp2
      go_ret
      exact ⟨by have h := HT.out; subst h; rfl, hfin.out⟩
    have HRL := Lib.hid hb
    clear hb
    have hrm : M[i].length ≤ 1000000 := hr.out _ (List.getElem_mem hi)
    have n1 : ((M[i].length : Int) != (N[i].length : Int)) = false := by rw [HRL.out]; simp
    have n2 : (M[i].length != N[i].length) = false := by rw [HRL.out]; simp
    go_wp2_with fail
    have E3 : Hid (Env D w [] [.ce yab (yao + i) (.slice ua N[i].length uk), .rw (.slice ua N[i].length uk) N[i].length 1 (icl N[i]), .ce xab (xao + i) (.slice pa M[i].length pk), .rw (.slice pa M[i].length pk) M[i].length 1 (icl M[i]), .mx (.slice (some ⟨yab, yao, none⟩) N.length yk) N, .mx (.slice (some ⟨xab, xao, none⟩) M.length xk) M] (wr.drew)) := Lib.hid E2.out.drew
    clear E2
    refine wp_regionU (S := fun w' => w'.cell? ⟨xab, xao + i, none⟩ = some (.slice pa M[i].length pk) ∧ w'.cell? ⟨yab, yao + i, none⟩ = some (.slice ua N[i].length uk)) [] (by kernel_rfl) (⟨(E3.out.fc 2 rfl).2, (E3.out.fc 0 rfl).2⟩) (fun hHeld => ?_)
    generalize wr.drew = w1 at *
    refine uTake (i := 0) (some 18) (v := ?_) rfl rfl (by kernel_rfl) (by kernel_rfl) (by kernel_rfl) (by kernel_rfl) (fun _ _ _ h => h) (by rfl) (by assumption) ?_ ?_
    rotate_left
    · (intro wS hSw; (try dsimp only at hSw); go_simp; try with_reducible rfl)
    try simp only [Act.put, List.setIfInBounds_toArray, List.set_cons_zero, List.set_cons_succ]
    refine uTake (i := 1) (some 19) (v := ?_) rfl rfl (by kernel_rfl) (by kernel_rfl) (by kernel_rfl) (by kernel_rfl) (fun _ _ _ h => h) (by rfl) (by assumption) ?_ ?_
    rotate_left
    · (intro wS hSw; (try dsimp only at hSw); go_simp; try with_reducible rfl)
    try simp only [Act.put, List.setIfInBounds_toArray, List.set_cons_zero, List.set_cons_succ]
    refine uTake (i := 2) (some 20) (v := ?_) rfl rfl (by kernel_rfl) (by kernel_rfl) (by kernel_rfl) (by kernel_rfl) (fun _ _ _ h => h) (by rfl) (by assumption) ?_ ?_
    rotate_left
    · (intro wS hSw; (try dsimp only at hSw); go_simp; try with_reducible rfl)
    try simp only [Act.put, List.setIfInBounds_toArray, List.set_cons_zero, List.set_cons_succ]
    refine uTake (i := 3) (some 21) (v := ?_) rfl rfl (by kernel_rfl) (by kernel_rfl) (by kernel_rfl) (by kernel_rfl) (fun _ _ _ h => h) (by rfl) (by assumption) ?_ ?_
    rotate_left
    · (intro wS hSw; (try dsimp only at hSw); go_simp; try with_reducible rfl)
    try simp only [Act.put, List.setIfInBounds_toArray, List.set_cons_zero, List.set_cons_succ]
    refine uTake (i := 4) (some 22) (v := ?_) rfl rfl (by kernel_rfl) (by kernel_rfl) (by kernel_rfl) (by kernel_rfl) (fun _ _ _ h => h) (by rfl) (by assumption) ?_ ?_
    rotate_left
    · (intro wS hSw; (try dsimp only at hSw); go_simp; try with_reducible rfl)
    try simp only [Act.put, List.setIfInBounds_toArray, List.set_cons_zero, List.set_cons_succ]
    refine uTake (i := 5) (some 23) (v := ?_) rfl rfl (by kernel_rfl) (by kernel_rfl) (by kernel_rfl) (by kernel_rfl) (fun _ _ _ h => h) (by rfl) (by assumption) ?_ ?_
    rotate_left
    · (intro wS hSw; (try dsimp only at hSw); go_simp; try with_reducible rfl)
    try simp only [Act.put, List.setIfInBounds_toArray, List.set_cons_zero, List.set_cons_succ]
    refine uTake (i := 6) (some 24) (v := ?_) rfl rfl (by kernel_rfl) (by kernel_rfl) (by kernel_rfl) (by kernel_rfl) (fun _ _ _ h => h) (by rfl) (by assumption) ?_ ?_
    rotate_left
    · (intro wS hSw; (try dsimp only at hSw); go_simp; try with_reducible rfl)
    try simp only [Act.put, List.setIfInBounds_toArray, List.set_cons_zero, List.set_cons_succ]
    refine uTake (i := 7) (some 25) (v := ?_) rfl rfl (by kernel_rfl) (by kernel_rfl) (by kernel_rfl) (by kernel_rfl) (fun _ _ _ h => h) (by rfl) (by assumption) ?_ ?_
    rotate_left
    · (intro wS hSw; (try dsimp only at hSw); go_simp; try with_reducible rfl)
    try simp only [Act.put, List.setIfInBounds_toArray, List.set_cons_zero, List.set_cons_succ]
    refine uTake (i := 8) (some 26) (v := ?_) rfl rfl (by kernel_rfl) (by kernel_rfl) (by kernel_rfl) (by kernel_rfl) (fun _ _ _ h => h) (by rfl) (by assumption) ?_ ?_
    rotate_left
    · (intro wS hSw; (try dsimp only at hSw); go_simp; try with_reducible rfl)
    try simp only [Act.put, List.setIfInBounds_toArray, List.set_cons_zero, List.set_cons_succ]
    refine uTake (i := 9) (some 27) (v := ?_) rfl rfl (by kernel_rfl) (by kernel_rfl) (by kernel_rfl) (by kernel_rfl) (fun _ _ _ h => h) (by rfl) (by assumption) ?_ ?_
    rotate_left
    · (intro wS hSw; (try dsimp only at hSw); go_simp; try with_reducible rfl)
    try simp only [Act.put, List.setIfInBounds_toArray, List.set_cons_zero, List.set_cons_succ]
    refine uTake (i := 10) (some 28) (v := ?_) rfl rfl (by kernel_rfl) (by kernel_rfl) (by kernel_rfl) (by kernel_rfl) (fun _ _ _ h => h) (by rfl) (by assumption) ?_ ?_
    rotate_left
    · (intro wS hSw; (try dsimp only at hSw); go_simp; try with_reducible rfl)
    try simp only [Act.put, List.setIfInBounds_toArray, List.set_cons_zero, List.set_cons_succ]
    refine uDone (by kernel_rfl) ?_ _
    go_wp2_with fail
    clear n1 n2 t6 t6n
    go_loopg [6] (M[i].length) (fun gk s6 wr => ∃ (j : Nat), s6 = .int .i64 (j : Int) ∧ Hid (Env D w [] [.ce yab (yao + i) (.slice ua N[i].length uk), .rw (.slice ua N[i].length uk) N[i].length 1 (icl N[i]), .ce xab (xao + i) (.slice pa M[i].length pk), .rw (.slice pa M[i].length pk) M[i].length 1 (icl M[i]), .mx (.slice (some ⟨yab, yao, none⟩) N.length yk) N, .mx (.slice (some ⟨xab, xao, none⟩) M.length xk) M] wr) ∧ Hid ((j ≤ M[i].length ∧ gk = M[i].length - j) ∧ M[i].take j = N[i].take j))
    case atStart => exact ⟨0, rfl, Lib.hid E3.out, Lib.hid ⟨⟨Nat.zero_le _, rfl⟩, rfl⟩⟩
    case round =>
      clear E3
      obtain ⟨j, rfl, EL, HA⟩ := hrel
      obtain ⟨⟨b1, b2⟩, b3⟩ := HA.out
      have HS2 := Lib.hid b3
      clear b3 HA
      by_cases hy : j = M[i].length
      · skip
        have t7 : decide ((j : Int) < (M[i].length : Int)) = false := decide_eq_false (by omega)
        have t7n : decide (j < M[i].length) = false := decide_eq_false (by omega)
        have HN : Hid (M.take (i + 1) = N.take (i + 1)) := Lib.hid (same_step hi hi2 HS.out (eq_of_beq (same_end HRL.out hy HS2.out)))
        clear hy
        have z1 := (EL.out.fc 2 rfl).2
        have EZ := Lib.hid ((((EL.out.forget).forget).forget).forget)
        go_wp2
        go_roundg (M.length - (i + 1))
        case rel => exact ⟨i + 1, rfl, EZ, Lib.hid ⟨⟨by omega, rfl⟩, HN.out⟩⟩
        case measure => exact by omega
      have hj : j < M[i].length := by omega
      have t7 : decide ((j : Int) < (M[i].length : Int)) = true := decide_eq_true (by omega)
      have t7n : decide (j < M[i].length) = true := decide_eq_true (by omega)
      have hjI : (j : Int) < (M[i].length : Int) := by omega
      have hj2 : j < N[i].length := by rw [← HRL.out]; exact hj
      have hj2I : (j : Int) < (N[i].length : Int) := by omega
      clear hy
      have z1 := (EL.out.fc 2 rfl).2
      go_upto_region 11 with (fail)
      obtain ⟨pab, pao, rfl⟩ := Rw.addr (EL.out.fc 3 rfl) (by omega)
      have E4 : Hid (Env D w [] [.ce pab (pao + j) (.int .i64 M[i][j]), .ce yab (yao + i) (.slice ua N[i].length uk), .rw (.slice ua N[i].length uk) N[i].length 1 (icl N[i]), .ce xab (xao + i) (.slice (some ⟨pab, pao, none⟩) M[i].length pk), .rw (.slice (some ⟨pab, pao, none⟩) M[i].length pk) M[i].length 1 (icl M[i]), .mx (.slice (some ⟨yab, yao, none⟩) N.length yk) N, .mx (.slice (some ⟨xab, xao, none⟩) M.length xk) M] _) := Lib.hid (EL.out.elI 3 rfl rfl (j) hj)
      clear EL
      have v0 := (E4.out.fc 0 rfl).2
      obtain ⟨uab, uao, rfl⟩ := Rw.addr (E4.out.fc 2 rfl) (by omega)
      have E5 : Hid (Env D w [] [.ce uab (uao + j) (.int .i64 N[i][j]), .ce pab (pao + j) (.int .i64 M[i][j]), .ce yab (yao + i) (.slice (some ⟨uab, uao, none⟩) N[i].length uk), .rw (.slice (some ⟨uab, uao, none⟩) N[i].length uk) N[i].length 1 (icl N[i]), .ce xab (xao + i) (.slice (some ⟨pab, pao, none⟩) M[i].length pk), .rw (.slice (some ⟨pab, pao, none⟩) M[i].length pk) M[i].length 1 (icl M[i]), .mx (.slice (some ⟨yab, yao, none⟩) N.length yk) N, .mx (.slice (some ⟨xab, xao, none⟩) M.length xk) M] _) := Lib.hid (E4.out.elI 2 rfl rfl (j) hj2)
      clear E4
      have s0 := (E5.out.fc 0 rfl).2
      by_cases hb : M[i][j] = N[i][j]
      rotate_left
      · skip
        have n1 : (M[i][j] != N[i][j]) = true := by rw [bne_iff_ne]; exact hb
        have HT : Hid (false = t) := Lib.hid (by rw [← ht.out]; exact (same_no hi hi2 (fun e => hb (by simp only [e]))).symm)
        clear hb
        go_wp2_with fail
        have E6 : Hid (Env D w [] [.ce uab (uao + j) (.int .i64 N[i][j]), .ce pab (pao + j) (.int .i64 M[i][j]), .ce yab (yao + i) (.slice (some ⟨uab, uao, none⟩) N[i].length uk), .rw (.slice (some ⟨uab, uao, none⟩) N[i].length uk) N[i].length 1 (icl N[i]), .ce xab (xao + i) (.slice (some ⟨pab, pao, none⟩) M[i].length pk), .rw (.slice (some ⟨pab, pao, none⟩) M[i].length pk) M[i].length 1 (icl M[i]), .mx (.slice (some ⟨yab, yao, none⟩) N.length yk) N, .mx (.slice (some ⟨xab, xao, none⟩) M.length xk) M] (wr.drew)) := Lib.hid E5.out.drew
        clear z1 v0 s0 E5
        refine wp_regionU (S := fun w' => w'.cell? ⟨xab, xao + i, none⟩ = some (.slice (some ⟨pab, pao, none⟩) M[i].length pk) ∧ w'.cell? ⟨pab, pao + j, none⟩ = some (.int .i64 M[i][j]) ∧ w'.cell? ⟨yab, yao + i, none⟩ = some (.slice (some ⟨uab, uao, none⟩) N[i].length uk) ∧ w'.cell? ⟨uab, uao + j, none⟩ = some (.int .i64 N[i][j])) [] (by kernel_rfl) (⟨(E6.out.fc 4 rfl).2, (E6.out.fc 1 rfl).2, (E6.out.fc 2 rfl).2, (E6.out.fc 0 rfl).2⟩) (fun hHeld => ?_)
        generalize wr.drew = w2 at *
        refine uTake (i := 0) (some 38) (v := ?_) rfl rfl (by kernel_rfl) (by kernel_rfl) (by kernel_rfl) (by kernel_rfl) (fun _ _ _ h => h) (by rfl) (by assumption) ?_ ?_
        rotate_left
        · (intro wS hSw; (try dsimp only at hSw); go_simp; try with_reducible rfl)
        try simp only [Act.put, List.setIfInBounds_toArray, List.set_cons_zero, List.set_cons_succ]
        refine uTake (i := 1) (some 39) (v := ?_) rfl rfl (by kernel_rfl) (by kernel_rfl) (by kernel_rfl) (by kernel_rfl) (fun _ _ _ h => h) (by rfl) (by assumption) ?_ ?_
        rotate_left
        · (intro wS hSw; (try dsimp only at hSw); go_simp; try with_reducible rfl)
        try simp only [Act.put, List.setIfInBounds_toArray, List.set_cons_zero, List.set_cons_succ]
        refine uTake (i := 2) (some 40) (v := ?_) rfl rfl (by kernel_rfl) (by kernel_rfl) (by kernel_rfl) (by kernel_rfl) (fun _ _ _ h => h) (by rfl) (by assumption) ?_ ?_
        rotate_left
        · (intro wS hSw; (try dsimp only at hSw); go_simp; try with_reducible rfl)
        try simp only [Act.put, List.setIfInBounds_toArray, List.set_cons_zero, List.set_cons_succ]
        refine uTake (i := 3) (some 41) (v := ?_) rfl rfl (by kernel_rfl) (by kernel_rfl) (by kernel_rfl) (by kernel_rfl) (fun _ _ _ h => h) (by rfl) (by assumption) ?_ ?_
        rotate_left
        · (intro wS hSw; (try dsimp only at hSw); go_simp; try with_reducible rfl)
        try simp only [Act.put, List.setIfInBounds_toArray, List.set_cons_zero, List.set_cons_succ]
        refine uTake (i := 4) (some 42) (v := ?_) rfl rfl (by kernel_rfl) (by kernel_rfl) (by kernel_rfl) (by kernel_rfl) (fun _ _ _ h => h) (by rfl) (by assumption) ?_ ?_
        rotate_left
        · (intro wS hSw; (try dsimp only at hSw); go_simp; try with_reducible rfl)
        try simp only [Act.put, List.setIfInBounds_toArray, List.set_cons_zero, List.set_cons_succ]
        refine uTake (i := 5) (some 43) (v := ?_) rfl rfl (by kernel_rfl) (by kernel_rfl) (by kernel_rfl) (by kernel_rfl) (fun _ _ _ h => h) (by rfl) (by assumption) ?_ ?_
        rotate_left
        · (intro wS hSw; (try dsimp only at hSw); go_simp; try with_reducible rfl)
        try simp only [Act.put, List.setIfInBounds_toArray, List.set_cons_zero, List.set_cons_succ]
        refine uTake (i := 6) (some 44) (v := ?_) rfl rfl (by kernel_rfl) (by kernel_rfl) (by kernel_rfl) (by kernel_rfl) (fun _ _ _ h => h) (by rfl) (by assumption) ?_ ?_
        rotate_left
        · (intro wS hSw; (try dsimp only at hSw); go_simp; try with_reducible rfl)
        try simp only [Act.put, List.setIfInBounds_toArray, List.set_cons_zero, List.set_cons_succ]
        refine uTake (i := 7) (some 45) (v := ?_) rfl rfl (by kernel_rfl) (by kernel_rfl) (by kernel_rfl) (by kernel_rfl) (fun _ _ _ h => h) (by rfl) (by assumption) ?_ ?_
        rotate_left
        · (intro wS hSw; (try dsimp only at hSw); go_simp; try with_reducible rfl)
        try simp only [Act.put, List.setIfInBounds_toArray, List.set_cons_zero, List.set_cons_succ]
        refine uTake (i := 8) (some 46) (v := ?_) rfl rfl (by kernel_rfl) (by kernel_rfl) (by kernel_rfl) (by kernel_rfl) (fun _ _ _ h => h) (by rfl) (by assumption) ?_ ?_
        rotate_left
        · (intro wS hSw; (try dsimp only at hSw); go_simp; try with_reducible rfl)
        try simp only [Act.put, List.setIfInBounds_toArray, List.set_cons_zero, List.set_cons_succ]
        refine uTake (i := 9) (some 47) (v := ?_) rfl rfl (by kernel_rfl) (by kernel_rfl) (by kernel_rfl) (by kernel_rfl) (fun _ _ _ h => h) (by rfl) (by assumption) ?_ ?_
        rotate_left
        · (intro wS hSw; (try dsimp only at hSw); go_simp; try with_reducible rfl)
        try simp only [Act.put, List.setIfInBounds_toArray, List.set_cons_zero, List.set_cons_succ]
        refine uTake (i := 10) (some 48) (v := ?_) rfl rfl (by kernel_rfl) (by kernel_rfl) (by kernel_rfl) (by kernel_rfl) (fun _ _ _ h => h) (by rfl) (by assumption) ?_ ?_
        rotate_left
        · (intro wS hSw; (try dsimp only at hSw); go_simp; try with_reducible rfl)
        try simp only [Act.put, List.setIfInBounds_toArray, List.set_cons_zero, List.set_cons_succ]
        refine uTake (i := 11) (some 49) (v := ?_) rfl rfl (by kernel_rfl) (by kernel_rfl) (by kernel_rfl) (by kernel_rfl) (fun _ _ _ h => h) (by rfl) (by assumption) ?_ ?_
        rotate_left
        · (intro wS hSw; (try dsimp only at hSw); go_simp; try with_reducible rfl)
        try simp only [Act.put, List.setIfInBounds_toArray, List.set_cons_zero, List.set_cons_succ]
        refine uTake (i := 12) (some 50) (v := ?_) rfl rfl (by kernel_rfl) (by kernel_rfl) (by kernel_rfl) (by kernel_rfl) (fun _ _ _ h => h) (by rfl) (by assumption) ?_ ?_
        rotate_left
        · (intro wS hSw; (try dsimp only at hSw); go_simp; try with_reducible rfl)
        try simp only [Act.put, List.setIfInBounds_toArray, List.set_cons_zero, List.set_cons_succ]
        refine uTake (i := 13) (some 51) (v := ?_) rfl rfl (by kernel_rfl) (by kernel_rfl) (by kernel_rfl) (by kernel_rfl) (fun _ _ _ h => h) (by rfl) (by assumption) ?_ ?_
        rotate_left
        · (intro wS hSw; (try dsimp only at hSw); go_simp; try with_reducible rfl)
        try simp only [Act.put, List.setIfInBounds_toArray, List.set_cons_zero, List.set_cons_succ]
        refine uTake (i := 14) (some 52) (v := ?_) rfl rfl (by kernel_rfl) (by kernel_rfl) (by kernel_rfl) (by kernel_rfl) (fun _ _ _ h => h) (by rfl) (by assumption) ?_ ?_
        rotate_left
        · (intro wS hSw; (try dsimp only at hSw); go_simp; try with_reducible rfl)
        try simp only [Act.put, List.setIfInBounds_toArray, List.set_cons_zero, List.set_cons_succ]
        refine uDone (by kernel_rfl) ?_ _
        have hfin := Lib.hid E6.out.bel
        go_wp2
        go_ret
        exact ⟨by have h := HT.out; subst h; rfl, hfin.out⟩
      have HE := Lib.hid hb
      clear hb
      have n1 : (M[i][j] != N[i][j]) = false := by rw [HE.out]; simp
      go_wp2_with fail
      have E6 : Hid (Env D w [] [.ce uab (uao + j) (.int .i64 N[i][j]), .ce pab (pao + j) (.int .i64 M[i][j]), .ce yab (yao + i) (.slice (some ⟨uab, uao, none⟩) N[i].length uk), .rw (.slice (some ⟨uab, uao, none⟩) N[i].length uk) N[i].length 1 (icl N[i]), .ce xab (xao + i) (.slice (some ⟨pab, pao, none⟩) M[i].length pk), .rw (.slice (some ⟨pab, pao, none⟩) M[i].length pk) M[i].length 1 (icl M[i]), .mx (.slice (some ⟨yab, yao, none⟩) N.length yk) N, .mx (.slice (some ⟨xab, xao, none⟩) M.length xk) M] (wr.drew)) := Lib.hid E5.out.drew
      clear z1 v0 s0 E5
      refine wp_regionU (S := fun w' => w'.cell? ⟨xab, xao + i, none⟩ = some (.slice (some ⟨pab, pao, none⟩) M[i].length pk) ∧ w'.cell? ⟨pab, pao + j, none⟩ = some (.int .i64 M[i][j]) ∧ w'.cell? ⟨yab, yao + i, none⟩ = some (.slice (some ⟨uab, uao, none⟩) N[i].length uk) ∧ w'.cell? ⟨uab, uao + j, none⟩ = some (.int .i64 N[i][j])) [] (by kernel_rfl) (⟨(E6.out.fc 4 rfl).2, (E6.out.fc 1 rfl).2, (E6.out.fc 2 rfl).2, (E6.out.fc 0 rfl).2⟩) (fun hHeld => ?_)
      generalize wr.drew = w2 at *
      refine uTake (i := 0) (some 38) (v := ?_) rfl rfl (by kernel_rfl) (by kernel_rfl) (by kernel_rfl) (by kernel_rfl) (fun _ _ _ h => h) (by rfl) (by assumption) ?_ ?_
      rotate_left
      · (intro wS hSw; (try dsimp only at hSw); go_simp; try with_reducible rfl)
      try simp only [Act.put, List.setIfInBounds_toArray, List.set_cons_zero, List.set_cons_succ]
      refine uTake (i := 1) (some 39) (v := ?_) rfl rfl (by kernel_rfl) (by kernel_rfl) (by kernel_rfl) (by kernel_rfl) (fun _ _ _ h => h) (by rfl) (by assumption) ?_ ?_
      rotate_left
      · (intro wS hSw; (try dsimp only at hSw); go_simp; try with_reducible rfl)
      try simp only [Act.put, List.setIfInBounds_toArray, List.set_cons_zero, List.set_cons_succ]
      refine uTake (i := 2) (some 40) (v := ?_) rfl rfl (by kernel_rfl) (by kernel_rfl) (by kernel_rfl) (by kernel_rfl) (fun _ _ _ h => h) (by rfl) (by assumption) ?_ ?_
      rotate_left
      · (intro wS hSw; (try dsimp only at hSw); go_simp; try with_reducible rfl)
      try simp only [Act.put, List.setIfInBounds_toArray, List.set_cons_zero, List.set_cons_succ]
      refine uTake (i := 3) (some 41) (v := ?_) rfl rfl (by kernel_rfl) (by kernel_rfl) (by kernel_rfl) (by kernel_rfl) (fun _ _ _ h => h) (by rfl) (by assumption) ?_ ?_
      rotate_left
      · (intro wS hSw; (try dsimp only at hSw); go_simp; try with_reducible rfl)
      try simp only [Act.put, List.setIfInBounds_toArray, List.set_cons_zero, List.set_cons_succ]
      refine uTake (i := 4) (some 42) (v := ?_) rfl rfl (by kernel_rfl) (by kernel_rfl) (by kernel_rfl) (by kernel_rfl) (fun _ _ _ h => h) (by rfl) (by assumption) ?_ ?_
      rotate_left
      · (intro wS hSw; (try dsimp only at hSw); go_simp; try with_reducible rfl)
      try simp only [Act.put, List.setIfInBounds_toArray, List.set_cons_zero, List.set_cons_succ]
      refine uTake (i := 5) (some 43) (v := ?_) rfl rfl (by kernel_rfl) (by kernel_rfl) (by kernel_rfl) (by kernel_rfl) (fun _ _ _ h => h) (by rfl) (by assumption) ?_ ?_
      rotate_left
      · (intro wS hSw; (try dsimp only at hSw); go_simp; try with_reducible rfl)
      try simp only [Act.put, List.setIfInBounds_toArray, List.set_cons_zero, List.set_cons_succ]
      refine uTake (i := 6) (some 44) (v := ?_) rfl rfl (by kernel_rfl) (by kernel_rfl) (by kernel_rfl) (by kernel_rfl) (fun _ _ _ h => h) (by rfl) (by assumption) ?_ ?_
      rotate_left
      · (intro wS hSw; (try dsimp only at hSw); go_simp; try with_reducible rfl)
      try simp only [Act.put, List.setIfInBounds_toArray, List.set_cons_zero, List.set_cons_succ]
      refine uTake (i := 7) (some 45) (v := ?_) rfl rfl (by kernel_rfl) (by kernel_rfl) (by kernel_rfl) (by kernel_rfl) (fun _ _ _ h => h) (by rfl) (by assumption) ?_ ?_
      rotate_left
      · (intro wS hSw; (try dsimp only at hSw); go_simp; try with_reducible rfl)
      try simp only [Act.put, List.setIfInBounds_toArray, List.set_cons_zero, List.set_cons_succ]
      refine uTake (i := 8) (some 46) (v := ?_) rfl rfl (by kernel_rfl) (by kernel_rfl) (by kernel_rfl) (by kernel_rfl) (fun _ _ _ h => h) (by rfl) (by assumption) ?_ ?_
      rotate_left
      · (intro wS hSw; (try dsimp only at hSw); go_simp; try with_reducible rfl)
      try simp only [Act.put, List.setIfInBounds_toArray, List.set_cons_zero, List.set_cons_succ]
      refine uTake (i := 9) (some 47) (v := ?_) rfl rfl (by kernel_rfl) (by kernel_rfl) (by kernel_rfl) (by kernel_rfl) (fun _ _ _ h => h) (by rfl) (by assumption) ?_ ?_
      rotate_left
      · (intro wS hSw; (try dsimp only at hSw); go_simp; try with_reducible rfl)
      try simp only [Act.put, List.setIfInBounds_toArray, List.set_cons_zero, List.set_cons_succ]
      refine uTake (i := 10) (some 48) (v := ?_) rfl rfl (by kernel_rfl) (by kernel_rfl) (by kernel_rfl) (by kernel_rfl) (fun _ _ _ h => h) (by rfl) (by assumption) ?_ ?_
      rotate_left
      · (intro wS hSw; (try dsimp only at hSw); go_simp; try with_reducible rfl)
      try simp only [Act.put, List.setIfInBounds_toArray, List.set_cons_zero, List.set_cons_succ]
      refine uTake (i := 11) (some 49) (v := ?_) rfl rfl (by kernel_rfl) (by kernel_rfl) (by kernel_rfl) (by kernel_rfl) (fun _ _ _ h => h) (by rfl) (by assumption) ?_ ?_
      rotate_left
      · (intro wS hSw; (try dsimp only at hSw); go_simp; try with_reducible rfl)
      try simp only [Act.put, List.setIfInBounds_toArray, List.set_cons_zero, List.set_cons_succ]
      refine uTake (i := 12) (some 50) (v := ?_) rfl rfl (by kernel_rfl) (by kernel_rfl) (by kernel_rfl) (by kernel_rfl) (fun _ _ _ h => h) (by rfl) (by assumption) ?_ ?_
      rotate_left
      · (intro wS hSw; (try dsimp only at hSw); go_simp; try with_reducible rfl)
      try simp only [Act.put, List.setIfInBounds_toArray, List.set_cons_zero, List.set_cons_succ]
      refine uTake (i := 13) (some 51) (v := ?_) rfl rfl (by kernel_rfl) (by kernel_rfl) (by kernel_rfl) (by kernel_rfl) (fun _ _ _ h => h) (by rfl) (by assumption) ?_ ?_
      rotate_left
      · (intro wS hSw; (try dsimp only at hSw); go_simp; try with_reducible rfl)
      try simp only [Act.put, List.setIfInBounds_toArray, List.set_cons_zero, List.set_cons_succ]
      refine uTake (i := 14) (some 52) (v := ?_) rfl rfl (by kernel_rfl) (by kernel_rfl) (by kernel_rfl) (by kernel_rfl) (fun _ _ _ h => h) (by rfl) (by assumption) ?_ ?_
      rotate_left
      · (intro wS hSw; (try dsimp only at hSw); go_simp; try with_reducible rfl)
      try simp only [Act.put, List.setIfInBounds_toArray, List.set_cons_zero, List.set_cons_succ]
      refine uDone (by kernel_rfl) ?_ _
      have HN : Hid (M[i].take (j + 1) = N[i].take (j + 1)) := Lib.hid (same_step hj hj2 HS2.out HE.out)
      have EZ := Lib.hid ((E6.out.forget).forget)
      go_wp2
      go_roundg (M[i].length - (j + 1))
      case rel => exact ⟨j + 1, rfl, EZ, Lib.hid ⟨⟨by omega, rfl⟩, HN.out⟩⟩
      case measure => exact by omega
theorem rSame_c {D : Nat → Prop} (M N : List (List Int)) {xa ya : Option Addr} {xk yk : Nat} {w : World} (hx : Fct.at w D (.mx (.slice xa M.length xk) M)) (hy : Fct.at w D (.mx (.slice ya N.length yk) N)) (hm : M.length ≤ 1000000) (hr : ∀ r ∈ M, r.length ≤ 1000000) {t : Bool} (ht : (M == N) = t) :
    Calls Tryd.prog 37 #[.slice xa M.length xk, .slice ya N.length yk] w fun e w' => e = .returned (.bool t) ∧ Below w.heap.size w w' := by
  by_cases hl : M.length = N.length
  · exact rSame_ok M N hx hy hl hm hr ht
  · rw [← ht, same_ne hl]; exact rSame_len M N hx hy hl
end Go.Proofs.YtinlfogpbologaaDoor

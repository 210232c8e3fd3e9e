/- matrix: Valid, Rank. -/
import Derived.Test.YtinlfogpbologaaDoorMatI
import Derived.Test.YtinlfogpbologaaDoorMatD
namespace Go.Proofs.YtinlfogpbologaaDoor
open Go.RowKit DivMath WordMath
set_option linter.unusedVariables false
set_option linter.unusedSimpArgs false
def hdM (M : List (List Int)) : Nat := (M.headD []).length
theorem hdM_eq {M : List (List Int)} (h : 0 < M.length) : hdM M = M[0].length := by
  unfold hdM
  cases M with
  | nil => simp at h
  | cons x M => rfl
/-- is M a matrix modulo a prime? -/
def mvB (q : Int) (M : List (List Int)) : Bool := fieldB q && (decide (1 ≤ M.length) && (decide (M.length ≤ 30) && (decide (1 ≤ hdM M) && (decide (hdM M ≤ 30) && !M.any (fun x => !rowB q (hdM M) x)))))
/-- what a valid matrix is -/
structure MvI (q n : Nat) (L : List (List Nat)) : Prop where
  res : ResM q n L
  q2 : 2 ≤ q
  qT : (q : Int) < Top
  fb : fieldB (q : Int) = true
  m1 : 1 ≤ L.length
  m30 : L.length ≤ 30
  n1 : 1 ≤ n
  n30 : n ≤ 30
theorem all_nl2 {q : Int} {l : List Int} (h : l.all (resB q) = true) : ∃ m : List Nat, l = nl m ∧ ∀ c ∈ m, (c : Int) < q := by
  induction l with
  | nil => exact ⟨[], rfl, by simp⟩
  | cons x l ih =>
    rw [List.all_cons, Bool.and_eq_true] at h
    obtain ⟨m, rfl, hm⟩ := ih h.2
    have hx := h.1
    unfold resB at hx
    rw [Bool.and_eq_true, decide_eq_true_iff, decide_eq_true_iff] at hx
    refine ⟨x.toNat :: m, by simp [nl]; omega, fun c hc => ?_⟩
    rcases List.mem_cons.1 hc with rfl | hc
    · omega
    · exact hm c hc
theorem rows_nl {q : Nat} {n : Nat} {M : List (List Int)} (h : ∀ x ∈ M, rowB (q : Int) n x = true) : ∃ L : List (List Nat), M = L.map nl ∧ ResM q n L := by
  induction M with
  | nil => exact ⟨[], rfl, fun r hr => by cases hr⟩
  | cons x M ih =>
    obtain ⟨L, rfl, hL⟩ := ih fun y hy => h y (List.mem_cons_of_mem _ hy)
    have hx := h x (by simp)
    unfold rowB at hx
    rw [Bool.and_eq_true, beq_iff_eq] at hx
    obtain ⟨m, rfl, hm⟩ := all_nl2 hx.2
    refine ⟨m :: L, rfl, fun r hr => ?_⟩
    rcases List.mem_cons.1 hr with rfl | hr
    · exact ⟨by rw [← nl_len]; exact hx.1, fun x hx => by have := hm x hx; omega⟩
    · exact hL r hr
theorem mv_nat {q : Int} {M : List (List Int)} (h : mvB q M = true) : ∃ (p n : Nat) (L : List (List Nat)), q = (p : Int) ∧ M = L.map nl ∧ MvI p n L ∧ n = hdM M := by
  unfold mvB at h
  simp only [Bool.and_eq_true, decide_eq_true_iff, Bool.not_eq_true', List.any_eq_false] at h
  obtain ⟨h1, h2, h3, h4, h5, h6⟩ := h
  obtain ⟨p, rfl, hp2, hpT⟩ := fieldB_pos h1
  obtain ⟨L, rfl, hL⟩ := rows_nl (n := hdM M) fun x hx => by simpa using h6 x hx
  rw [List.length_map] at h2 h3
  exact ⟨p, _, L, rfl, rfl, ⟨hL, hp2, hpT, h1, h2, h3, h4, h5⟩, rfl⟩
theorem row_nl {q n : Nat} {r : List Nat} (h : r.length = n ∧ ∀ x ∈ r, x < q) : rowB (q : Int) n (nl r) = true := by
  unfold rowB
  rw [nl_len, beq_iff_eq.2 h.1, Bool.true_and]
  exact nl_all h.2
theorem hdM_nl {q n : Nat} {L : List (List Nat)} (h : MvI q n L) : hdM (L.map nl) = n := by
  rw [hdM_eq (by rw [List.length_map]; exact h.m1), List.getElem_map, nl_len]
  exact (h.res _ (List.getElem_mem _)).1
theorem mv_of {q n : Nat} {L : List (List Nat)} (h : MvI q n L) : mvB (q : Int) (L.map nl) = true := by
  unfold mvB
  rw [hdM_nl h]
  have h6 : (L.map nl).any (fun x => !rowB (q : Int) n x) = false := List.any_eq_false.2 fun x hx => by
    obtain ⟨r, hr, rfl⟩ := List.mem_map.1 hx
    rw [row_nl (h.res r hr)]; simp
  simp [h.fb, h.m1, h.m30, h.n1, h.n30, h6]
theorem Laid.kept {w W : World} (h : Laid w) (hb : Below w.heap.size w W) : Laid W := h.below hb
theorem mIs_c (q : Int) {w : World} (hl : Laid w) (hn : -9223372036854775808 ≤ q ∧ q ≤ 9223372036854775807) {t : Bool} (ht : Pri.isP q.toNat = t) :
    Calls Tryd.prog 55 #[.int .i64 q] w fun e w' => e = .returned (.bool t) ∧ Below w.heap.size w w' := by
  subst ht
  refine (Is_c q w hl hn).mono ?_
  rintro e w' ⟨rfl, n, rfl⟩
  exact ⟨rfl, below_drewN (Below.refl _ _) _⟩
set_option maxRecDepth 100000 in
set_option maxHeartbeats 2000000 in
theorem mv_a {D : Nat → Prop} (q : Int) (M : List (List Int)) {xa : Option Addr} {xk : Nat} {w : World} (hx : Fct.at w D (.mx (.slice xa M.length xk) M)) (hl0 : Laid w) (hn : -9223372036854775808 ≤ q ∧ q ≤ 9223372036854775807) (hq : 2305843009213693952 ≤ q) :
    Calls Tryd.prog 44 #[.int .i64 q, .slice xa M.length xk] w fun e w' => e = .returned (.bool false) ∧ Below w.heap.size w w' := by
  have E0 : Hid (Env D w [] [.mx (.slice xa M.length xk) M] w) := Lib.hid ((Env.start D w).arg (.mx (.slice xa M.length xk) M) hx)
  clear hx
  go_enter Tryd.func44, Tryd.ntmps44
  have hl := Lib.hid hl0
  clear hl0
  have e1 : decide (2305843009213693952 ≤ q) = true := decide_eq_true (by omega)
  have E1 : Hid (Env D w [(w.heap.size + 1, 40, [.slice xa M.length xk]), (w.heap.size, 3, [.int .i64 q])] [.mx (.slice xa M.length xk) M] _) := Lib.hid (((E0.out.push 3 [.int .i64 q] (w.heap.size) (by simp)).push 40 [.slice xa M.length xk] (w.heap.size + 1) (by simp)))
  have hfin := Lib.hid E1.out.bel
  go_wp2
  go_ret
  exact ⟨rfl, hfin.out⟩
set_option maxRecDepth 100000 in
set_option maxHeartbeats 2000000 in
theorem mv_b {D : Nat → Prop} (q : Int) (M : List (List Int)) {xa : Option Addr} {xk : Nat} {w : World} (hx : Fct.at w D (.mx (.slice xa M.length xk) M)) (hl0 : Laid w) (hn : -9223372036854775808 ≤ q ∧ q ≤ 9223372036854775807) (hq : q < 2305843009213693952) (hp0 : Pri.isP q.toNat = false) :
    Calls Tryd.prog 44 #[.int .i64 q, .slice xa M.length xk] w fun e w' => e = .returned (.bool false) ∧ Below w.heap.size w w' := by
  have E0 : Hid (Env D w [] [.mx (.slice xa M.length xk) M] w) := Lib.hid ((Env.start D w).arg (.mx (.slice xa M.length xk) M) hx)
  clear hx
  go_enter Tryd.func44, Tryd.ntmps44
  have hp := Lib.hid hp0
  clear hp0
  have hl := Lib.hid hl0
  clear hl0
  have e1 : decide (2305843009213693952 ≤ q) = false := decide_eq_false (by omega)
  go_wp2_with fail
  have E1 : Hid (Env D w [(w.heap.size + 1, 40, [.slice xa M.length xk]), (w.heap.size, 3, [.int .i64 q])] [.mx (.slice xa M.length xk) M] _) := Lib.hid (((E0.out.push 3 [.int .i64 q] (w.heap.size) (by simp)).push 40 [.slice xa M.length xk] (w.heap.size + 1) (by simp)))
  refine (mIs_c q (hl.out.below E1.out.bel) hn hp.out).mono ?_
  rintro e w1 ⟨rfl, hb⟩
  have E2 : Hid (Env D w [(w.heap.size + 1, 40, [.slice xa M.length xk]), (w.heap.size, 3, [.int .i64 q])] [.mx (.slice xa M.length xk) M] w1) := Lib.hid (E1.out.below hb)
  clear E0 E1 hb
  have hfin := Lib.hid E2.out.bel
  go_wp2
  go_ret
  exact ⟨rfl, hfin.out⟩
set_option maxRecDepth 100000 in
set_option maxHeartbeats 2000000 in
theorem mv_c {D : Nat → Prop} (q : Int) (M : List (List Int)) {xa : Option Addr} {xk : Nat} {w : World} (hx : Fct.at w D (.mx (.slice xa M.length xk) M)) (hl0 : Laid w) (hn : -9223372036854775808 ≤ q ∧ q ≤ 9223372036854775807) (hq : q < 2305843009213693952) (hp0 : Pri.isP q.toNat = true) (hm : M.length < 1) :
    Calls Tryd.prog 44 #[.int .i64 q, .slice xa M.length xk] w fun e w' => e = .returned (.bool false) ∧ Below w.heap.size w w' := by
  have E0 : Hid (Env D w [] [.mx (.slice xa M.length xk) M] w) := Lib.hid ((Env.start D w).arg (.mx (.slice xa M.length xk) M) hx)
  clear hx
  go_enter Tryd.func44, Tryd.ntmps44
  have hp := Lib.hid hp0
  clear hp0
  have hl := Lib.hid hl0
  clear hl0
  have e1 : decide (2305843009213693952 ≤ q) = false := decide_eq_false (by omega)
  have e2 : decide ((M.length : Int) < 1) = true := decide_eq_true (by omega)
  have e2n : decide (M.length < 1) = true := decide_eq_true (by omega)
  go_wp2_with fail
  have E1 : Hid (Env D w [(w.heap.size + 1, 40, [.slice xa M.length xk]), (w.heap.size, 3, [.int .i64 q])] [.mx (.slice xa M.length xk) M] _) := Lib.hid (((E0.out.push 3 [.int .i64 q] (w.heap.size) (by simp)).push 40 [.slice xa M.length xk] (w.heap.size + 1) (by simp)))
  refine (mIs_c q (hl.out.below E1.out.bel) hn hp.out).mono ?_
  rintro e w1 ⟨rfl, hb⟩
  have E2 : Hid (Env D w [(w.heap.size + 1, 40, [.slice xa M.length xk]), (w.heap.size, 3, [.int .i64 q])] [.mx (.slice xa M.length xk) M] w1) := Lib.hid (E1.out.below hb)
  clear E0 E1 hb
  have b1 := E2.out.bx 0 rfl
  have c1_0 := b1.cell 0 rfl
  clear b1
  have hfin := Lib.hid E2.out.bel
  go_wp2
  go_ret
  exact ⟨rfl, hfin.out⟩
set_option maxRecDepth 100000 in
set_option maxHeartbeats 2000000 in
theorem mv_d {D : Nat → Prop} (q : Int) (M : List (List Int)) {xa : Option Addr} {xk : Nat} {w : World} (hx : Fct.at w D (.mx (.slice xa M.length xk) M)) (hl0 : Laid w) (hn : -9223372036854775808 ≤ q ∧ q ≤ 9223372036854775807) (hq : q < 2305843009213693952) (hp0 : Pri.isP q.toNat = true) (hm1 : 30 < M.length) :
    Calls Tryd.prog 44 #[.int .i64 q, .slice xa M.length xk] w fun e w' => e = .returned (.bool false) ∧ Below w.heap.size w w' := by
  have E0 : Hid (Env D w [] [.mx (.slice xa M.length xk) M] w) := Lib.hid ((Env.start D w).arg (.mx (.slice xa M.length xk) M) hx)
  clear hx
  go_enter Tryd.func44, Tryd.ntmps44
  have hp := Lib.hid hp0
  clear hp0
  have hl := Lib.hid hl0
  clear hl0
  have e1 : decide (2305843009213693952 ≤ q) = false := decide_eq_false (by omega)
  have e2 : decide ((M.length : Int) < 1) = false := decide_eq_false (by omega)
  have e2n : decide (M.length < 1) = false := decide_eq_false (by omega)
  have e3 : decide ((30 : Int) < (M.length : Int)) = true := decide_eq_true (by omega)
  have e3n : decide (30 < M.length) = true := decide_eq_true (by omega)
  go_wp2_with fail
  have E1 : Hid (Env D w [(w.heap.size + 1, 40, [.slice xa M.length xk]), (w.heap.size, 3, [.int .i64 q])] [.mx (.slice xa M.length xk) M] _) := Lib.hid (((E0.out.push 3 [.int .i64 q] (w.heap.size) (by simp)).push 40 [.slice xa M.length xk] (w.heap.size + 1) (by simp)))
  refine (mIs_c q (hl.out.below E1.out.bel) hn hp.out).mono ?_
  rintro e w1 ⟨rfl, hb⟩
  have E2 : Hid (Env D w [(w.heap.size + 1, 40, [.slice xa M.length xk]), (w.heap.size, 3, [.int .i64 q])] [.mx (.slice xa M.length xk) M] w1) := Lib.hid (E1.out.below hb)
  clear E0 E1 hb
  have b1 := E2.out.bx 0 rfl
  have c1_0 := b1.cell 0 rfl
  clear b1
  have hfin := Lib.hid E2.out.bel
  go_wp2
  go_ret
  exact ⟨rfl, hfin.out⟩
set_option maxRecDepth 100000 in
set_option maxHeartbeats 2000000 in
theorem mv_e {D : Nat → Prop} (q : Int) (M : List (List Int)) {xa : Option Addr} {xk : Nat} {w : World} (hx : Fct.at w D (.mx (.slice xa M.length xk) M)) (hl0 : Laid w) (hn : -9223372036854775808 ≤ q ∧ q ≤ 9223372036854775807) (hq : q < 2305843009213693952) (hp0 : Pri.isP q.toNat = true) (hm : 1 ≤ M.length) (hm1 : M.length ≤ 30) (hr : M[0].length < 1) :
    Calls Tryd.prog 44 #[.int .i64 q, .slice xa M.length xk] w fun e w' => e = .returned (.bool false) ∧ Below w.heap.size w w' := by
  have E0 : Hid (Env D w [] [.mx (.slice xa M.length xk) M] w) := Lib.hid ((Env.start D w).arg (.mx (.slice xa M.length xk) M) hx)
  clear hx
  go_enter Tryd.func44, Tryd.ntmps44
  have hp := Lib.hid hp0
  clear hp0
  have hl := Lib.hid hl0
  clear hl0
  have e1 : decide (2305843009213693952 ≤ q) = false := decide_eq_false (by omega)
  have e2 : decide ((M.length : Int) < 1) = false := decide_eq_false (by omega)
  have e2n : decide (M.length < 1) = false := decide_eq_false (by omega)
  have e3 : decide ((30 : Int) < (M.length : Int)) = false := decide_eq_false (by omega)
  have e3n : decide (30 < M.length) = false := decide_eq_false (by omega)
  have hz : 0 < M.length := by omega
  have hzI : (0 : Int) < (M.length : Int) := by omega
  go_upto_region 1 with (fail)
  have E1 : Hid (Env D w [(w.heap.size + 1, 40, [.slice xa M.length xk]), (w.heap.size, 3, [.int .i64 q])] [.mx (.slice xa M.length xk) M] _) := Lib.hid (((E0.out.push 3 [.int .i64 q] (w.heap.size) (by simp)).push 40 [.slice xa M.length xk] (w.heap.size + 1) (by simp)))
  obtain ⟨xab, xao, rfl⟩ := Mx.addr (E1.out.fc 0 rfl) hz
  obtain ⟨ua, uk, E20⟩ := E1.out.elM 0 rfl (0) hz
  have E2 : Hid (Env D w [(w.heap.size + 1, 40, [.slice (some ⟨xab, xao, none⟩) M.length xk]), (w.heap.size, 3, [.int .i64 q])] [.ce xab (xao) (.slice ua M[0].length uk), .rw (.slice ua M[0].length uk) M[0].length 1 (icl M[0]), .mx (.slice (some ⟨xab, xao, none⟩) M.length xk) M] _) := Lib.hid E20
  clear E20 E1
  have u0 := (E2.out.fc 0 rfl).2
  have e4 : decide ((M[0].length : Int) < 1) = true := decide_eq_true (by omega)
  have e4n : decide (M[0].length < 1) = true := decide_eq_true (by omega)
  have e4z : M[0].length = 0 := by omega
  have b1 := E2.out.bx 1 rfl
  have c1_0 := b1.cell 0 rfl
  clear b1
  go_wp2_with fail
  refine (mIs_c q (hl.out.below E2.out.bel) hn hp.out).mono ?_
  rintro e w1 ⟨rfl, hb⟩
  have E3 : Hid (Env D w [(w.heap.size + 1, 40, [.slice (some ⟨xab, xao, none⟩) M.length xk]), (w.heap.size, 3, [.int .i64 q])] [.ce xab (xao) (.slice ua M[0].length uk), .rw (.slice ua M[0].length uk) M[0].length 1 (icl M[0]), .mx (.slice (some ⟨xab, xao, none⟩) M.length xk) M] w1) := Lib.hid (E2.out.below hb)
  clear u0 c1_0 E0 E2 hb
  have b2 := E3.out.bx 0 rfl
  have c2_0 := b2.cell 0 rfl
  clear b2
  have z3 := (E3.out.fc 0 rfl).2
  have hfin := Lib.hid E3.out.bel
  go_wp2
  go_ret
  exact ⟨rfl, hfin.out⟩
set_option maxRecDepth 100000 in
set_option maxHeartbeats 2000000 in
theorem mv_f {D : Nat → Prop} (q : Int) (M : List (List Int)) {xa : Option Addr} {xk : Nat} {w : World} (hx : Fct.at w D (.mx (.slice xa M.length xk) M)) (hl0 : Laid w) (hn : -9223372036854775808 ≤ q ∧ q ≤ 9223372036854775807) (hq : q < 2305843009213693952) (hp0 : Pri.isP q.toNat = true) (hm : 1 ≤ M.length) (hm1 : M.length ≤ 30) (hr : 30 < M[0].length) :
    Calls Tryd.prog 44 #[.int .i64 q, .slice xa M.length xk] w fun e w' => e = .returned (.bool false) ∧ Below w.heap.size w w' := by
  have E0 : Hid (Env D w [] [.mx (.slice xa M.length xk) M] w) := Lib.hid ((Env.start D w).arg (.mx (.slice xa M.length xk) M) hx)
  clear hx
  go_enter Tryd.func44, Tryd.ntmps44
  have hp := Lib.hid hp0
  clear hp0
  have hl := Lib.hid hl0
  clear hl0
  have e1 : decide (2305843009213693952 ≤ q) = false := decide_eq_false (by omega)
  have e2 : decide ((M.length : Int) < 1) = false := decide_eq_false (by omega)
  have e2n : decide (M.length < 1) = false := decide_eq_false (by omega)
  have e3 : decide ((30 : Int) < (M.length : Int)) = false := decide_eq_false (by omega)
  have e3n : decide (30 < M.length) = false := decide_eq_false (by omega)
  have hz : 0 < M.length := by omega
  have hzI : (0 : Int) < (M.length : Int) := by omega
  go_upto_region 1 with (fail)
  have E1 : Hid (Env D w [(w.heap.size + 1, 40, [.slice xa M.length xk]), (w.heap.size, 3, [.int .i64 q])] [.mx (.slice xa M.length xk) M] _) := Lib.hid (((E0.out.push 3 [.int .i64 q] (w.heap.size) (by simp)).push 40 [.slice xa M.length xk] (w.heap.size + 1) (by simp)))
  obtain ⟨xab, xao, rfl⟩ := Mx.addr (E1.out.fc 0 rfl) hz
  obtain ⟨ua, uk, E20⟩ := E1.out.elM 0 rfl (0) hz
  have E2 : Hid (Env D w [(w.heap.size + 1, 40, [.slice (some ⟨xab, xao, none⟩) M.length xk]), (w.heap.size, 3, [.int .i64 q])] [.ce xab (xao) (.slice ua M[0].length uk), .rw (.slice ua M[0].length uk) M[0].length 1 (icl M[0]), .mx (.slice (some ⟨xab, xao, none⟩) M.length xk) M] _) := Lib.hid E20
  clear E20 E1
  have u0 := (E2.out.fc 0 rfl).2
  have e4 : decide ((M[0].length : Int) < 1) = false := decide_eq_false (by omega)
  have e4n : decide (M[0].length < 1) = false := decide_eq_false (by omega)
  have e5 : decide ((30 : Int) < (M[0].length : Int)) = true := decide_eq_true (by omega)
  have e5n : decide (30 < M[0].length) = true := decide_eq_true (by omega)
  have b1 := E2.out.bx 1 rfl
  have c1_0 := b1.cell 0 rfl
  clear b1
  go_wp2_with fail
  refine (mIs_c q (hl.out.below E2.out.bel) hn hp.out).mono ?_
  rintro e w1 ⟨rfl, hb⟩
  have E3 : Hid (Env D w [(w.heap.size + 1, 40, [.slice (some ⟨xab, xao, none⟩) M.length xk]), (w.heap.size, 3, [.int .i64 q])] [.ce xab (xao) (.slice ua M[0].length uk), .rw (.slice ua M[0].length uk) M[0].length 1 (icl M[0]), .mx (.slice (some ⟨xab, xao, none⟩) M.length xk) M] w1) := Lib.hid (E2.out.below hb)
  clear u0 c1_0 E0 E2 hb
  have b2 := E3.out.bx 0 rfl
  have c2_0 := b2.cell 0 rfl
  clear b2
  have z3 := (E3.out.fc 0 rfl).2
  have hfin := Lib.hid E3.out.bel
  go_wp2
  go_ret
  exact ⟨rfl, hfin.out⟩
set_option maxRecDepth 100000 in
set_option maxHeartbeats 2000000 in
theorem mv_g {D : Nat → Prop} (q : Int) (M : List (List Int)) {xa : Option Addr} {xk : Nat} {w : World} (hx : Fct.at w D (.mx (.slice xa M.length xk) M)) (hl0 : Laid w) (hn : -9223372036854775808 ≤ q ∧ q ≤ 9223372036854775807) (hq : q < 2305843009213693952) (hp0 : Pri.isP q.toNat = true) (hm : 1 ≤ M.length) (hm1 : M.length ≤ 30) (hr1 : 1 ≤ M[0].length) (hr : M[0].length ≤ 30) {t : Bool} (ht0 : M.any (fun x => !rowB q M[0].length x) = t) :
    Calls Tryd.prog 44 #[.int .i64 q, .slice xa M.length xk] w fun e w' => e = .returned (.bool (!t)) ∧ Below w.heap.size w w' := by
  have E0 : Hid (Env D w [] [.mx (.slice xa M.length xk) M] w) := Lib.hid ((Env.start D w).arg (.mx (.slice xa M.length xk) M) hx)
  clear hx
  go_enter Tryd.func44, Tryd.ntmps44
  have hp := Lib.hid hp0
  clear hp0
  have ht := Lib.hid ht0
  clear ht0
  have hl := Lib.hid hl0
  clear hl0
  have e1 : decide (2305843009213693952 ≤ q) = false := decide_eq_false (by omega)
  have e2 : decide ((M.length : Int) < 1) = false := decide_eq_false (by omega)
  have e2n : decide (M.length < 1) = false := decide_eq_false (by omega)
  have e3 : decide ((30 : Int) < (M.length : Int)) = false := decide_eq_false (by omega)
  have e3n : decide (30 < M.length) = false := decide_eq_false (by omega)
  have hz : 0 < M.length := by omega
  have hzI : (0 : Int) < (M.length : Int) := by omega
  go_upto_region 1 with (fail)
  have E1 : Hid (Env D w [(w.heap.size + 1, 40, [.slice xa M.length xk]), (w.heap.size, 3, [.int .i64 q])] [.mx (.slice xa M.length xk) M] _) := Lib.hid (((E0.out.push 3 [.int .i64 q] (w.heap.size) (by simp)).push 40 [.slice xa M.length xk] (w.heap.size + 1) (by simp)))
  obtain ⟨xab, xao, rfl⟩ := Mx.addr (E1.out.fc 0 rfl) hz
  obtain ⟨ua, uk, E20⟩ := E1.out.elM 0 rfl (0) hz
  have E2 : Hid (Env D w [(w.heap.size + 1, 40, [.slice (some ⟨xab, xao, none⟩) M.length xk]), (w.heap.size, 3, [.int .i64 q])] [.ce xab (xao) (.slice ua M[0].length uk), .rw (.slice ua M[0].length uk) M[0].length 1 (icl M[0]), .mx (.slice (some ⟨xab, xao, none⟩) M.length xk) M] _) := Lib.hid E20
  clear E20 E1
  have u0 := (E2.out.fc 0 rfl).2
  have e4 : decide ((M[0].length : Int) < 1) = false := decide_eq_false (by omega)
  have e4n : decide (M[0].length < 1) = false := decide_eq_false (by omega)
  have e5 : decide ((30 : Int) < (M[0].length : Int)) = false := decide_eq_false (by omega)
  have e5n : decide (30 < M[0].length) = false := decide_eq_false (by omega)
  have b1 := E2.out.bx 1 rfl
  have c1_0 := b1.cell 0 rfl
  clear b1
  go_wp2_with fail
  refine (mIs_c q (hl.out.below E2.out.bel) hn hp.out).mono ?_
  rintro e w1 ⟨rfl, hb⟩
  have E3 : Hid (Env D w [(w.heap.size + 1, 40, [.slice (some ⟨xab, xao, none⟩) M.length xk]), (w.heap.size, 3, [.int .i64 q])] [.ce xab (xao) (.slice ua M[0].length uk), .rw (.slice ua M[0].length uk) M[0].length 1 (icl M[0]), .mx (.slice (some ⟨xab, xao, none⟩) M.length xk) M] w1) := Lib.hid (E2.out.below hb)
  clear u0 c1_0 E0 E2 hb
  have b2 := E3.out.bx 0 rfl
  have c2_0 := b2.cell 0 rfl
  clear b2
  have z3 := (E3.out.fc 0 rfl).2
  go_wp2_with fail
  refine (mvalC (D := fun _ => True) M q M[0].length (w.heap.size + 1) (w.heap.size) xab xao M.length xk uk (Fct.any (E3.out.fc 2 rfl)) ⟨⟨(E3.out.bx 0 rfl).lt, trivial⟩, (E3.out.bx 0 rfl).cell 0 rfl⟩ (Fct.any (E3.out.fc 0 rfl)) ⟨⟨(E3.out.bx 1 rfl).lt, trivial⟩, (E3.out.bx 1 rfl).cell 0 rfl⟩ hz (by omega) ht.out (by omega)).mono ?_
  rintro e w2 ⟨rfl, hb⟩
  have E4 : Hid (Env D w [(w.heap.size + 1, 40, [.slice (some ⟨xab, xao, none⟩) M.length xk]), (w.heap.size, 3, [.int .i64 q])] [.ce xab (xao) (.slice ua M[0].length uk), .rw (.slice ua M[0].length uk) M[0].length 1 (icl M[0]), .mx (.slice (some ⟨xab, xao, none⟩) M.length xk) M] w2) := Lib.hid (E3.out.below hb)
  clear c2_0 z3 E3 hb
  have hfin := Lib.hid E4.out.bel
  go_wp2
  go_ret
  exact ⟨rfl, hfin.out⟩
theorem mValid_c {D : Nat → Prop} (q : Int) (M : List (List Int)) {xa : Option Addr} {xk : Nat} {w : World} (hx : Fct.at w D (.mx (.slice xa M.length xk) M)) (hl : Laid w) (hn : -9223372036854775808 ≤ q ∧ q ≤ 9223372036854775807) {t : Bool} (ht : mvB q M = t) :
    Calls Tryd.prog 44 #[.int .i64 q, .slice xa M.length xk] w fun e w' => e = .returned (.bool t) ∧ Below w.heap.size w w' := by
  subst ht
  unfold mvB fieldB
  by_cases h1 : q < 2305843009213693952
  · rw [decide_eq_true h1, Bool.true_and]
    cases h2 : Pri.isP q.toNat with
    | false => exact mv_b q M hx hl hn h1 h2
    | true =>
      rw [Bool.true_and]
      by_cases h3 : 1 ≤ M.length
      · rw [decide_eq_true h3, Bool.true_and]
        by_cases h4 : M.length ≤ 30
        · rw [decide_eq_true h4, Bool.true_and, hdM_eq h3]
          by_cases h5 : 1 ≤ M[0].length
          · rw [decide_eq_true h5, Bool.true_and]
            by_cases h6 : M[0].length ≤ 30
            · rw [decide_eq_true h6, Bool.true_and]
              exact mv_g q M hx hl hn h1 h2 h3 h4 h5 h6 rfl
            · rw [decide_eq_false h6, Bool.false_and]
              exact mv_f q M hx hl hn h1 h2 h3 h4 (by omega)
          · rw [decide_eq_false h5, Bool.false_and]
            exact mv_e q M hx hl hn h1 h2 h3 h4 (by omega)
        · rw [decide_eq_false h4, Bool.false_and]
          exact mv_d q M hx hl hn h1 h2 (by omega)
      · rw [decide_eq_false h3, Bool.false_and]
        exact mv_c q M hx hl hn h1 h2 (by omega)
  · rw [decide_eq_false h1, Bool.false_and, Bool.false_and]
    exact mv_a q M hx hl hn (by omega)
set_option maxRecDepth 100000 in
set_option maxHeartbeats 1000000 in
theorem Rank_no {D : Nat → Prop} (q : Int) (M : List (List Int)) {xa : Option Addr} {xk : Nat} {w : World} (hx : Fct.at w D (.mx (.slice xa M.length xk) M)) (hl0 : Laid w) (hn : -9223372036854775808 ≤ q ∧ q ≤ 9223372036854775807) (hv0 : mvB q M = false) :
    Calls Tryd.prog 43 #[.int .i64 q, .slice xa M.length xk] w fun e w' => e = .returned (.tuple #[.int .i64 0, .int .i64 1]) ∧ Below w.heap.size w w' := by
  have E0 : Hid (Env D w [] [.mx (.slice xa M.length xk) M] w) := Lib.hid ((Env.start D w).arg (.mx (.slice xa M.length xk) M) hx)
  clear hx
  go_enter Tryd.func43, Tryd.ntmps43
  have hl := Lib.hid hl0
  have hv := Lib.hid hv0
  clear hl0 hv0
  go_wp2_with fail
  refine (mValid_c q M (E0.out.fc 0 rfl) (hl.out.below E0.out.bel) hn hv.out).mono ?_
  rintro e w1 ⟨rfl, hb⟩
  have E1 : Hid (Env D w [] [.mx (.slice xa M.length xk) M] w1) := Lib.hid (E0.out.below hb)
  clear E0 hb
  have hfin := Lib.hid E1.out.bel
  go_wp2
  go_ret2
  exact ⟨rfl, hfin.out⟩
theorem mValidN {D : Nat → Prop} {q n : Nat} {L : List (List Nat)} {xa : Option Addr} {xk : Nat} {w : World} (hx : Fct.at w D (.mx (.slice xa L.length xk) (L.map nl))) (hl : Laid w) (h : MvI q n L) :
    Calls Tryd.prog 44 #[.int .i64 (q : Nat), .slice xa L.length xk] w fun e w' => e = .returned (.bool true) ∧ Below w.heap.size w w' := by
  have h1 := mValid_c (q : Int) (L.map nl) (xa := xa) (xk := xk) (D := D) (w := w) (by rw [List.length_map]; exact hx) hl (by have := h.qT; unfold Top at this; omega) (mv_of h)
  rw [List.length_map] at h1
  exact h1
theorem MvI.cp {q n : Nat} {L : List (List Nat)} (h : MvI q n L) : ∀ r ∈ L, 0 < r.length ∧ r.length ≤ 1000 := fun r hr => by
  have := h.res r hr; have := h.n1; have := h.n30; omega
set_option maxRecDepth 100000 in
set_option maxHeartbeats 2000000 in
theorem Rank_ok {D : Nat → Prop} (q n : Nat) (L : List (List Nat)) {xa : Option Addr} {xk : Nat} {w : World} (hx : Fct.at w D (.mx (.slice xa L.length xk) (L.map nl))) (hl0 : Laid w) (hv0 : MvI q n L) :
    Calls Tryd.prog 43 #[.int .i64 (q : Nat), .slice xa L.length xk] w fun e w' => e = .returned (.tuple #[.int .i64 ((redN q L n).2.length : Nat), .int .i64 0]) ∧ Below w.heap.size w w' := by
  have E0 : Hid (Env D w [] [.mx (.slice xa L.length xk) (L.map nl)] w) := Lib.hid ((Env.start D w).arg (.mx (.slice xa L.length xk) (L.map nl)) hx)
  clear hx
  go_enter Tryd.func43, Tryd.ntmps43
  have hl := Lib.hid hl0
  have hv := Lib.hid hv0
  clear hl0 hv0
  have hz : 0 < L.length := hv.out.m1
  have hzI : (0 : Int) < (L.length : Int) := by omega
  have h30 := hv.out.m30
  go_wp2_with fail
  refine (mValidN (E0.out.fc 0 rfl) (hl.out.below E0.out.bel) hv.out).mono ?_
  rintro e w1 ⟨rfl, hb⟩
  have E1 : Hid (Env D w [] [.mx (.slice xa L.length xk) (L.map nl)] w1) := Lib.hid (E0.out.below hb)
  clear E0 hb
  go_upto_region 3 with (fail)
  obtain ⟨xab, xao, rfl⟩ := Mx.addrN (E1.out.fc 0 rfl) hz
  obtain ⟨ua, uk, E20⟩ := E1.out.elMN 0 rfl (0) hz
  have E2 : Hid (Env D w [] [.ce xab (xao) (.slice ua L[0].length uk), .rw (.slice ua L[0].length uk) L[0].length 1 (ncl L[0]), .mx (.slice (some ⟨xab, xao, none⟩) L.length xk) (L.map nl)] _) := Lib.hid E20
  clear E20 E1
  have HL0 : Hid (L[0].length = n) := Lib.hid (hv.out.res _ (List.getElem_mem hz)).1
  go_wp2_with fail
  have E3 : Hid (Env D w [] [.ce xab (xao) (.slice ua L[0].length uk), .rw (.slice ua L[0].length uk) L[0].length 1 (ncl L[0]), .mx (.slice (some ⟨xab, xao, none⟩) L.length xk) (L.map nl)] (w1.drew)) := Lib.hid E2.out.drew
  clear E2
  refine wp_regionU (S := fun w' => w'.cell? ⟨xab, xao, none⟩ = some (.slice ua L[0].length uk)) [] (by kernel_rfl) ((E3.out.fc 0 rfl).2) (fun hHeld => ?_)
  generalize w1.drew = w2 at *
  refine uTake (i := 0) (some 10) (v := ?_) rfl rfl (by kernel_rfl) (by kernel_rfl) (by kernel_rfl) (by kernel_rfl) (fun _ _ _ h => h) (by rfl) (by assumption) ?_ ?_
  rotate_left
  · (intro wS hSw; (try dsimp only at hSw); go_simp; try with_reducible rfl)
  try simp only [Act.put, List.setIfInBounds_toArray, List.set_cons_zero, List.set_cons_succ]
  refine uTake (i := 1) (some 11) (v := ?_) rfl rfl (by kernel_rfl) (by kernel_rfl) (by kernel_rfl) (by kernel_rfl) (fun _ _ _ h => h) (by rfl) (by assumption) ?_ ?_
  rotate_left
  · (intro wS hSw; (try dsimp only at hSw); go_simp; try with_reducible rfl)
  try simp only [Act.put, List.setIfInBounds_toArray, List.set_cons_zero, List.set_cons_succ]
  refine uTake (i := 3) (some 13) (v := ?_) rfl rfl (by kernel_rfl) (by kernel_rfl) (by kernel_rfl) (by kernel_rfl) (fun _ _ _ h => h) (by rfl) (by assumption) ?_ ?_
  rotate_left
  · (intro wS hSw; (try dsimp only at hSw); go_simp; try with_reducible rfl)
  try simp only [Act.put, List.setIfInBounds_toArray, List.set_cons_zero, List.set_cons_succ]
  refine uTake (i := 4) (some 14) (v := ?_) rfl rfl (by kernel_rfl) (by kernel_rfl) (by kernel_rfl) (by kernel_rfl) (fun _ _ _ h => h) (by rfl) (by assumption) ?_ ?_
  rotate_left
  · (intro wS hSw; (try dsimp only at hSw); go_simp; try with_reducible rfl)
  try simp only [Act.put, List.setIfInBounds_toArray, List.set_cons_zero, List.set_cons_succ]
  refine uTake (i := 5) (some 15) (v := ?_) rfl rfl (by kernel_rfl) (by kernel_rfl) (by kernel_rfl) (by kernel_rfl) (fun _ _ _ h => h) (by rfl) (by assumption) ?_ ?_
  rotate_left
  · (intro wS hSw; (try dsimp only at hSw); go_simp; try with_reducible rfl)
  try simp only [Act.put, List.setIfInBounds_toArray, List.set_cons_zero, List.set_cons_succ]
  refine uTake (i := 6) (some 16) (v := ?_) rfl rfl (by kernel_rfl) (by kernel_rfl) (by kernel_rfl) (by kernel_rfl) (fun _ _ _ h => h) (by rfl) (by assumption) ?_ ?_
  rotate_left
  · (intro wS hSw; (try dsimp only at hSw); go_simp; try with_reducible rfl)
  try simp only [Act.put, List.setIfInBounds_toArray, List.set_cons_zero, List.set_cons_succ]
  refine uReady (rs := [2]) (by kernel_rfl) (by simp) ?_
  refine ReadyU.cons rfl (fun KK hKK => ?_) ReadyU.nil
  go_simp
  refine (copied_c L (E3.out.fc 2 rfl) (by omega) hv.out.cp).mono ?_
  rintro e w3 ⟨⟨cg, cR, rfl, cH, cF⟩, hb⟩
  have E4 : Hid (Env D w ((mbx cg cR) ++ []) [.ce xab (xao) (.slice ua L[0].length uk), .rw (.slice ua L[0].length uk) L[0].length 1 (ncl L[0]), .mx (.slice (some ⟨xab, xao, none⟩) L.length xk) (L.map nl)] w3) := Lib.hid ((E3.out.gotSeg hb cF).cast (by simp))
  clear E3 hb
  have crl : Hid (cR.length = L.length) := Lib.hid (by have h := congrArg List.length cH.out.1; simpa using h)
  (try dsimp only)
  clear hHeld
  refine hKK.out _ _ ((E4.out.fc 0 rfl).2) (fun hHeld => ?_)
  clear hKK KK
  try simp only [Act.put, List.setIfInBounds_toArray, List.set_cons_zero, List.set_cons_succ]
  have zRD := reduce_c q n L[0].length cR (A0 := []) (B0 := []) (Lib.hid E4.out) hv.out.q2 hv.out.qT (by rw [cH.out.1]; exact hv.out.res) (by rw [HL0.out]; exact Nat.le_refl _) (by rw [crl.out]; omega) (by have := hv.out.n30; omega) cH.out.2
  rw [crl.out] at zRD
  have zRE := Lib.hid zRD
  clear zRD
  refine uReady (rs := [7]) (by kernel_rfl) (by simp) ?_
  refine ReadyU.cons rfl (fun KK hKK => ?_) ReadyU.nil
  go_simp
  refine (zRE.out).mono ?_
  rintro e w4 ⟨zR, zP, za, zk, rfl, zH, zE9⟩
  have E5 : Hid (Env D w ((mbx cg zR) ++ []) [.rw (.slice za zP.length zk) zP.length 1 (ncl zP), .ce xab (xao) (.slice ua L[0].length uk), .rw (.slice ua L[0].length uk) L[0].length 1 (ncl L[0]), .mx (.slice (some ⟨xab, xao, none⟩) L.length xk) (L.map nl)] w4) := Lib.hid (zE9.out.cast (by first | rfl | simp))
  clear E4 zE9
  (try dsimp only)
  clear hHeld
  refine hKK.out _ _ ((E5.out.fc 1 rfl).2) (fun hHeld => ?_)
  clear hKK KK
  try simp only [Act.put, List.setIfInBounds_toArray, List.set_cons_zero, List.set_cons_succ]
  refine uTake (i := 8) (some 18) (v := ?_) rfl rfl (by kernel_rfl) (by kernel_rfl) (by kernel_rfl) (by kernel_rfl) (fun _ _ _ h => h) (by rfl) (by assumption) ?_ ?_
  rotate_left
  · (intro wS hSw; (try dsimp only at hSw); go_simp; try with_reducible rfl)
  try simp only [Act.put, List.setIfInBounds_toArray, List.set_cons_zero, List.set_cons_succ]
  refine uTake (i := 9) (some 4) (v := ?_) rfl rfl (by kernel_rfl) (by kernel_rfl) (by kernel_rfl) (by kernel_rfl) (fun _ _ _ h => h) (by rfl) (by assumption) ?_ ?_
  rotate_left
  · (intro wS hSw; (try dsimp only at hSw); go_simp; try with_reducible rfl)
  try simp only [Act.put, List.setIfInBounds_toArray, List.set_cons_zero, List.set_cons_succ]
  refine uTake (i := 10) (some 5) (v := ?_) rfl rfl (by kernel_rfl) (by kernel_rfl) (by kernel_rfl) (by kernel_rfl) (fun _ _ _ h => h) (by rfl) (by assumption) ?_ ?_
  rotate_left
  · (intro wS hSw; (try dsimp only at hSw); go_simp; try with_reducible rfl)
  try simp only [Act.put, List.setIfInBounds_toArray, List.set_cons_zero, List.set_cons_succ]
  refine uDone (by kernel_rfl) ?_ _
  have HZL : Hid (zP.length = (redN q L n).2.length) := Lib.hid (by have h := congrArg (fun x => x.2.length) zH.out.1; rw [cH.out.1, HL0.out] at h; exact h)
  have hfin := Lib.hid E5.out.bel
  go_wp2
  go_ret2
  exact ⟨by rw [← HZL.out]; rfl, hfin.out⟩
end Go.Proofs.YtinlfogpbologaaDoor

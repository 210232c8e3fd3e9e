/- NatmodWord: the walk. -/
import Derived.Test.YthphmgdmhlimjaaModFrame
import Derived.Test.YthphmgdmhlimjaaModL6
import Derived.Test.YthphmgdmhlimjaaWd
namespace Go.Proofs.Ythphmgdmhlimjaa
open Go.RowKit NatMath Wd Wd.DivMath Wd.WordMath
set_option linter.unusedVariables false
theorem qwb {w w' : World} (h : Wd.Qw w w') : Below w.heap.size w w' := by
  obtain ⟨n, rfl⟩ := h; exact below_drewN (Below.refl _ _) n
theorem add_x {a b m s : Nat} (w : World) (hs : (a + b) % m = s) (ha : a < m) (hb : b < m) (hm : (m : Int) < Top) :
    Calls Try.prog 44 #[.int .i64 a, .int .i64 b, .int .i64 m] w fun e w' => e = .returned (.tuple #[.int .i64 (s : Int), .int .i64 0]) ∧ Below w.heap.size w w' := by
  refine (Wd.Add_ok a b m w (by omega) (by omega) hm).mono ?_
  rintro e w' ⟨⟨r, hr, rfl⟩, hw⟩
  have h := hr.out; subst h; subst hs; exact ⟨rfl, qwb hw⟩
theorem mul_x {a b m s : Nat} (w : World) (hs : a * b % m = s) (ha : a < m) (hb : b < m) (hm : (m : Int) < Top) :
    Calls Try.prog 45 #[.int .i64 a, .int .i64 b, .int .i64 m] w fun e w' => e = .returned (.tuple #[.int .i64 (s : Int), .int .i64 0]) ∧ Below w.heap.size w w' := by
  refine (Wd.Mul_ok a b m w (by omega) (by omega) hm).mono ?_
  rintro e w' ⟨⟨r, hr, rfl⟩, hw⟩
  have h := hr.out; subst h; subst hs; exact ⟨rfl, qwb hw⟩
theorem inv_x {a m V : Nat} (w : World) (hV : invV a m = V) (hg : decide (invG a m = 1) = true) (ha : a < m) (hm : (m : Int) < Top) :
    Calls Try.prog 46 #[.int .i64 a, .int .i64 m] w fun e w' => e = .returned (.tuple #[.int .i64 (V : Int), .int .i64 0]) ∧ Below w.heap.size w w' := by
  have hg' : Nat.gcd a m = 1 := by rw [← invG_eq (by omega)]; exact of_decide_eq_true hg
  refine (Wd.Inverse_ok a m w (by omega) hm hg').mono ?_
  rintro e w' ⟨⟨r, hr, rfl⟩, hw⟩
  obtain ⟨h1, h2⟩ := hr.out
  have := inv_uniq (by omega) hg' h1 h2
  subst this; subst hV; exact ⟨rfl, qwb hw⟩
theorem inv_x0 {a m : Nat} (w : World) (hg : decide (invG a m = 1) = false) (ha : a < m) (hm : (m : Int) < Top) :
    Calls Try.prog 46 #[.int .i64 a, .int .i64 m] w fun e w' => e = .returned (.tuple #[.int .i64 0, .int .i64 10]) ∧ Below w.heap.size w w' := by
  have hg' : Nat.gcd a m ≠ 1 := by rw [← invG_eq (by omega)]; exact of_decide_eq_false hg
  exact (Wd.Inverse_none a m w (by omega) hm hg').mono fun e w' h => ⟨h.1, qwb h.2⟩
theorem wrap_small {x : Nat} (h : x < 2305843009213693952) : IntKind.u64.wrap (x : Int) = (x : Int) ∧ IntKind.i64.wrap (x : Int) = (x : Int) := by
  constructor
  · rw [IntKind.wrap_u64]; omega
  · rw [IntKind.wrap_i64]; omega
theorem eqk {v : Value} {N : Nat} {w : World} (hu : N < 2305843009213693952) (h : Nt w v N) :
    Calls Try.prog 43 #[.int .i64 (N : Int), .int .i64 0, .agg #[v], .int .i64 0] w fun e w' => e = .returned (.bool true) ∧ Below w.heap.size w w' := by
  obtain ⟨vo, vc, rfl, _⟩ := h.open
  exact eqw_ok vo vc N N w h (wrap_small hu).1 (by omega) (by simp) (by simp)

set_option maxRecDepth 100000 in
set_option maxHeartbeats 1000000 in
theorem Word_lo  (a b m : Nat) (w : World)  (hm0 : (m : Int) < 1) :
    Calls Try.prog 11 #[.int .u64 a, .int .u64 b, .int .u64 m] w fun e w' => e = .returned (.bool true) ∧ Below w.heap.size w w' := by
  have hm := Lib.hid hm0
  clear hm0
  have E0 : Hid (EnvB w [] [] w) := Lib.hid (EnvB.start w)
  go_enter Try.func11, Try.ntmps11
  go_wp2_with fail
  refine (awake_c _).mono ?_
  rintro e w1 ⟨rfl, hb⟩
  have E1 : Hid (EnvB w [] [] _) := Lib.hid ((E0.out.below hb))
  clear E0 hb
  go_wp2_with fail
  all_goals (try (exfalso; have := hm.out; omega))
  refine (awake_c _).mono ?_
  rintro e w2 ⟨rfl, hb⟩
  have E2 : Hid (EnvB w [] [] _) := Lib.hid ((E1.out.below hb))
  clear E1 hb
  have hfin := Lib.hid E2.out.1
  go_wp2
  go_ret
  exact ⟨rfl, hfin.out⟩
set_option maxRecDepth 100000 in
set_option maxHeartbeats 1000000 in
theorem Word_hi  (a b m : Nat) (w : World)  (hm0 : 2305843009213693952 ≤ (m : Int)) :
    Calls Try.prog 11 #[.int .u64 a, .int .u64 b, .int .u64 m] w fun e w' => e = .returned (.bool true) ∧ Below w.heap.size w w' := by
  have hm := Lib.hid hm0
  clear hm0
  have E0 : Hid (EnvB w [] [] w) := Lib.hid (EnvB.start w)
  go_enter Try.func11, Try.ntmps11
  go_wp2_with fail
  refine (awake_c _).mono ?_
  rintro e w1 ⟨rfl, hb⟩
  have E1 : Hid (EnvB w [] [] _) := Lib.hid ((E0.out.below hb))
  clear E0 hb
  go_wp2_with fail
  all_goals (try (exfalso; have := hm.out; omega))
  refine (awake_c _).mono ?_
  rintro e w2 ⟨rfl, hb⟩
  have E2 : Hid (EnvB w [] [] _) := Lib.hid ((E1.out.below hb))
  clear E1 hb
  have hfin := Lib.hid E2.out.1
  go_wp2
  go_ret
  exact ⟨rfl, hfin.out⟩
set_option maxRecDepth 100000 in
set_option maxHeartbeats 1000000 in
theorem Word_true  (a b m x y s p v : Nat) (w : World)  (hm0 : 1 ≤ (m : Int) ∧ (m : Int) < 2305843009213693952) (hmT0 : (m : Int) < Top) (nz0 : ¬ m = 0) (hx0 : Int.tmod (a : Int) (m : Int) = (x : Int)) (hy0 : Int.tmod (b : Int) (m : Int) = (y : Int)) (cx0 : IntKind.i64.wrap (x : Int) = (x : Int)) (cy0 : IntKind.i64.wrap (y : Int) = (y : Int)) (cm0 : IntKind.i64.wrap (m : Int) = (m : Int)) (lx0 : x < m) (ly0 : y < m) (bx0 : x < 18446744073709551616) (by90 : y < 18446744073709551616) (bm0 : m < 18446744073709551616) (hk0 : len m ≤ 32) (e10 : (x + y) % m = s) (e20 : x * y % m = p) (e30 : invV x m = v) (gg0 : decide (invG x m = 1) = true) (ls0 : s < 2305843009213693952) (lp0 : p < 2305843009213693952) (lv0 : v < 2305843009213693952) :
    Calls Try.prog 11 #[.int .u64 a, .int .u64 b, .int .u64 m] w fun e w' => e = .returned (.bool true) ∧ Below w.heap.size w w' := by
  have hm := Lib.hid hm0
  have hmT := Lib.hid hmT0
  have nz := Lib.hid nz0
  have hx := Lib.hid hx0
  have hy := Lib.hid hy0
  have cx := Lib.hid cx0
  have cy := Lib.hid cy0
  have cm := Lib.hid cm0
  have lx := Lib.hid lx0
  have ly := Lib.hid ly0
  have bx := Lib.hid bx0
  have by9 := Lib.hid by90
  have bm := Lib.hid bm0
  have hk := Lib.hid hk0
  have e1 := Lib.hid e10
  have e2 := Lib.hid e20
  have e3 := Lib.hid e30
  have gg := Lib.hid gg0
  have ls := Lib.hid ls0
  have lp := Lib.hid lp0
  have lv := Lib.hid lv0
  clear hm0 hmT0 nz0 hx0 hy0 cx0 cy0 cm0 lx0 ly0 bx0 by90 bm0 hk0 e10 e20 e30 gg0 ls0 lp0 lv0
  have E0 : Hid (EnvB w [] [] w) := Lib.hid (EnvB.start w)
  go_enter Try.func11, Try.ntmps11
  go_wp2_with fail
  refine (awake_c _).mono ?_
  rintro e w1 ⟨rfl, hb⟩
  have E1 : Hid (EnvB w [] [] _) := Lib.hid ((E0.out.below hb))
  clear E0 hb
  have g1 : decide ((m : Int) < 1) = false := decide_eq_false (by have := hm.out; omega)
  have g2 : decide (2305843009213693952 ≤ (m : Int)) = false := decide_eq_false (by have := hm.out; omega)
  have cx1 := cx.out
  have cy1 := cy.out
  have cm1 := cm.out
  go_wp2_with fail
  refine' wp_region_phase (by kernel_rfl) [0, 1, 2, 3, 4, 5, 6, 7, 8, 9, 10, 11, 12] (by kernel_rfl) #[true, true, true, true, true, true, true, true, true, true, true, true, true] (by kernel_rfl) 0 (by kernel_rfl) [PEq (.int .u64 a), PEq (.int .u64 m), PEq (.int .u64 (x : Int)), PEq (.int .i64 (x : Int)), PEq (.int .u64 b), PEq (.int .u64 m), PEq (.int .u64 (y : Int)), PEq (.int .i64 (y : Int)), PEq (.int .u64 m), PEq (.int .i64 (m : Int)), PEq (.int .i64 (x : Int)), PEq (.int .i64 (y : Int)), PEq (.int .i64 (m : Int))] (List.forall_mem_cons.2 ⟨PEq.st _, List.forall_mem_cons.2 ⟨PEq.st _, List.forall_mem_cons.2 ⟨PEq.st _, List.forall_mem_cons.2 ⟨PEq.st _, List.forall_mem_cons.2 ⟨PEq.st _, List.forall_mem_cons.2 ⟨PEq.st _, List.forall_mem_cons.2 ⟨PEq.st _, List.forall_mem_cons.2 ⟨PEq.st _, List.forall_mem_cons.2 ⟨PEq.st _, List.forall_mem_cons.2 ⟨PEq.st _, List.forall_mem_cons.2 ⟨PEq.st _, List.forall_mem_cons.2 ⟨PEq.st _, List.forall_mem_cons.2 ⟨PEq.st _, List.forall_mem_nil _⟩⟩⟩⟩⟩⟩⟩⟩⟩⟩⟩⟩⟩) _ ?hFr1 ?stepr1 ?doner1
  case hFr1 => intro x; simp only [frameL, Act.put, List.setIfInBounds_toArray, List.set_cons_zero, List.set_cons_succ, Nat.zero_add, Nat.reduceAdd]; exact rfl
  case stepr1 =>
    refine List.forall_mem_cons.2 ⟨?_, ?_⟩
    · intro xv bv ev WW hB hdp
      refine op_of rfl ?_
      clear hdp
      intro KK hKK
      go_simp
      exact act_eq (hKK.out _ _ (Below.refl _ _) rfl) (by first | rfl | simp [upd])
    refine List.forall_mem_cons.2 ⟨?_, ?_⟩
    · intro xv bv ev WW hB hdp
      refine op_of rfl ?_
      clear hdp
      intro KK hKK
      go_simp
      exact act_eq (hKK.out _ _ (Below.refl _ _) rfl) (by first | rfl | simp [upd])
    refine List.forall_mem_cons.2 ⟨?_, ?_⟩
    · intro xv bv ev WW hB hdp
      refine op_of rfl ?_
      have ed0 : xv 0 = .int .u64 a := hdp 0 (by kernel_rfl)
      have ed1 : xv 1 = .int .u64 m := hdp 1 (by kernel_rfl)
      clear hdp
      intro KK hKK
      go_simp
      rw [if_neg nz.out, hx.out]; go_simp
      exact act_eq (hKK.out _ _ (Below.refl _ _) rfl) (by first | rfl | simp [upd, ed0, ed1])
    refine List.forall_mem_cons.2 ⟨?_, ?_⟩
    · intro xv bv ev WW hB hdp
      refine op_of rfl ?_
      have ed2 : xv 2 = .int .u64 (x : Int) := hdp 2 (by kernel_rfl)
      clear hdp
      intro KK hKK
      go_simp
      exact act_eq (hKK.out _ _ (Below.refl _ _) rfl) (by first | rfl | simp [upd, ed2])
    refine List.forall_mem_cons.2 ⟨?_, ?_⟩
    · intro xv bv ev WW hB hdp
      refine op_of rfl ?_
      clear hdp
      intro KK hKK
      go_simp
      exact act_eq (hKK.out _ _ (Below.refl _ _) rfl) (by first | rfl | simp [upd])
    refine List.forall_mem_cons.2 ⟨?_, ?_⟩
    · intro xv bv ev WW hB hdp
      refine op_of rfl ?_
      clear hdp
      intro KK hKK
      go_simp
      exact act_eq (hKK.out _ _ (Below.refl _ _) rfl) (by first | rfl | simp [upd])
    refine List.forall_mem_cons.2 ⟨?_, ?_⟩
    · intro xv bv ev WW hB hdp
      refine op_of rfl ?_
      have ed4 : xv 4 = .int .u64 b := hdp 4 (by kernel_rfl)
      have ed5 : xv 5 = .int .u64 m := hdp 5 (by kernel_rfl)
      clear hdp
      intro KK hKK
      go_simp
      rw [if_neg nz.out, hy.out]; go_simp
      exact act_eq (hKK.out _ _ (Below.refl _ _) rfl) (by first | rfl | simp [upd, ed4, ed5])
    refine List.forall_mem_cons.2 ⟨?_, ?_⟩
    · intro xv bv ev WW hB hdp
      refine op_of rfl ?_
      have ed6 : xv 6 = .int .u64 (y : Int) := hdp 6 (by kernel_rfl)
      clear hdp
      intro KK hKK
      go_simp
      exact act_eq (hKK.out _ _ (Below.refl _ _) rfl) (by first | rfl | simp [upd, ed6])
    refine List.forall_mem_cons.2 ⟨?_, ?_⟩
    · intro xv bv ev WW hB hdp
      refine op_of rfl ?_
      clear hdp
      intro KK hKK
      go_simp
      exact act_eq (hKK.out _ _ (Below.refl _ _) rfl) (by first | rfl | simp [upd])
    refine List.forall_mem_cons.2 ⟨?_, ?_⟩
    · intro xv bv ev WW hB hdp
      refine op_of rfl ?_
      have ed8 : xv 8 = .int .u64 m := hdp 8 (by kernel_rfl)
      clear hdp
      intro KK hKK
      go_simp
      exact act_eq (hKK.out _ _ (Below.refl _ _) rfl) (by first | rfl | simp [upd, ed8])
    refine List.forall_mem_cons.2 ⟨?_, ?_⟩
    · intro xv bv ev WW hB hdp
      refine op_of rfl ?_
      have ed3 : xv 3 = .int .i64 (x : Int) := hdp 3 (by kernel_rfl)
      clear hdp
      intro KK hKK
      go_simp
      exact act_eq (hKK.out _ _ (Below.refl _ _) rfl) (by first | rfl | simp [upd, ed3])
    refine List.forall_mem_cons.2 ⟨?_, ?_⟩
    · intro xv bv ev WW hB hdp
      refine op_of rfl ?_
      have ed7 : xv 7 = .int .i64 (y : Int) := hdp 7 (by kernel_rfl)
      clear hdp
      intro KK hKK
      go_simp
      exact act_eq (hKK.out _ _ (Below.refl _ _) rfl) (by first | rfl | simp [upd, ed7])
    refine List.forall_mem_cons.2 ⟨?_, ?_⟩
    · intro xv bv ev WW hB hdp
      refine op_of rfl ?_
      have ed9 : xv 9 = .int .i64 (m : Int) := hdp 9 (by kernel_rfl)
      clear hdp
      intro KK hKK
      go_simp
      exact act_eq (hKK.out _ _ (Below.refl _ _) rfl) (by first | rfl | simp [upd, ed9])
    exact List.forall_mem_nil _
  intro xv bv ev w2 hB hR hO
  have ed0 : xv 0 = .int .u64 a := hR 0 (by kernel_rfl)
  have ed1 : xv 1 = .int .u64 m := hR 1 (by kernel_rfl)
  have ed2 : xv 2 = .int .u64 (x : Int) := hR 2 (by kernel_rfl)
  have ed3 : xv 3 = .int .i64 (x : Int) := hR 3 (by kernel_rfl)
  have ed4 : xv 4 = .int .u64 b := hR 4 (by kernel_rfl)
  have ed5 : xv 5 = .int .u64 m := hR 5 (by kernel_rfl)
  have ed6 : xv 6 = .int .u64 (y : Int) := hR 6 (by kernel_rfl)
  have ed7 : xv 7 = .int .i64 (y : Int) := hR 7 (by kernel_rfl)
  have ed8 : xv 8 = .int .u64 m := hR 8 (by kernel_rfl)
  have ed9 : xv 9 = .int .i64 (m : Int) := hR 9 (by kernel_rfl)
  have ed10 : xv 10 = .int .i64 (x : Int) := hR 10 (by kernel_rfl)
  have ed11 : xv 11 = .int .i64 (y : Int) := hR 11 (by kernel_rfl)
  have ed12 : xv 12 = .int .i64 (m : Int) := hR 12 (by kernel_rfl)
  simp only [ed0, ed1, ed2, ed3, ed4, ed5, ed6, ed7, ed8, ed9, ed10, ed11, ed12]
  have E2 : Hid (EnvB w [] [] _) := Lib.hid ((E1.out.below hB))
  clear E1 hB hR hO ed0 ed1 ed2 ed3 ed4 ed5 ed6 ed7 ed8 ed9 ed10 ed11 ed12
  refine wpAny_done (by kernel_rfl) ?_ _
  go_wp2_with fail
  refine' wp_region_phase (by kernel_rfl) [0, 1, 2, 3, 4, 5, 6, 7, 8, 9, 10, 11, 12] (by kernel_rfl) #[true, true, true, true, true, true, true, true, true, true, true, true, true, false, false, false] (by kernel_rfl) 3 (by kernel_rfl) [PEq (.int .u64 a), PEq (.int .u64 m), PEq (.int .u64 (x : Int)), PNum (x), PEq (.int .u64 b), PEq (.int .u64 m), PEq (.int .u64 (y : Int)), PNum (y), PEq (.int .u64 m), PNum (m), PBox w2.heap.size, PBox w2.heap.size, PBox w2.heap.size, Fact.none, Fact.none, Fact.none] (List.forall_mem_cons.2 ⟨PEq.st _, List.forall_mem_cons.2 ⟨PEq.st _, List.forall_mem_cons.2 ⟨PEq.st _, List.forall_mem_cons.2 ⟨PNum.st _, List.forall_mem_cons.2 ⟨PEq.st _, List.forall_mem_cons.2 ⟨PEq.st _, List.forall_mem_cons.2 ⟨PEq.st _, List.forall_mem_cons.2 ⟨PNum.st _, List.forall_mem_cons.2 ⟨PEq.st _, List.forall_mem_cons.2 ⟨PNum.st _, List.forall_mem_cons.2 ⟨PBox.st _, List.forall_mem_cons.2 ⟨PBox.st _, List.forall_mem_cons.2 ⟨PBox.st _, List.forall_mem_cons.2 ⟨Fact.none_st, List.forall_mem_cons.2 ⟨Fact.none_st, List.forall_mem_cons.2 ⟨Fact.none_st, List.forall_mem_nil _⟩⟩⟩⟩⟩⟩⟩⟩⟩⟩⟩⟩⟩⟩⟩⟩) _ ?hFr2 ?stepr2 ?doner2
  case hFr2 => intro x; simp only [frameL, Act.put, List.setIfInBounds_toArray, List.set_cons_zero, List.set_cons_succ, Nat.zero_add, Nat.reduceAdd]; exact rfl
  case stepr2 =>
    refine List.forall_mem_cons.2 ⟨?_, ?_⟩
    · intro xv bv ev WW hB hdp
      refine op_of rfl ?_
      clear hdp
      intro KK hKK
      go_simp
      exact act_eq (hKK.out _ _ (Below.refl _ _) rfl) (by first | rfl | simp [upd])
    refine List.forall_mem_cons.2 ⟨?_, ?_⟩
    · intro xv bv ev WW hB hdp
      refine op_of rfl ?_
      clear hdp
      intro KK hKK
      go_simp
      exact act_eq (hKK.out _ _ (Below.refl _ _) rfl) (by first | rfl | simp [upd])
    refine List.forall_mem_cons.2 ⟨?_, ?_⟩
    · intro xv bv ev WW hB hdp
      refine op_of rfl ?_
      have ed0 : xv 0 = .int .u64 a := hdp 0 (by kernel_rfl)
      have ed1 : xv 1 = .int .u64 m := hdp 1 (by kernel_rfl)
      clear hdp
      intro KK hKK
      go_simp
      rw [if_neg nz.out, hx.out]; go_simp
      exact act_eq (hKK.out _ _ (Below.refl _ _) rfl) (by first | rfl | simp [upd, ed0, ed1])
    refine List.forall_mem_cons.2 ⟨?_, ?_⟩
    · intro xv bv ev WW hB hdp
      refine op_of rfl ?_
      have ed2 : xv 2 = .int .u64 (x : Int) := hdp 2 (by kernel_rfl)
      clear hdp
      intro KK hKK
      go_simp
      refine (rOf_c x _ bx.out).mono ?_
      rintro e WW' ⟨⟨xxa, xxk, rfl, hxx⟩, hb⟩
      (try dsimp only)
      (try simp only [Act.put, List.setIfInBounds_toArray, List.set_cons_zero, List.set_cons_succ])
      exact act_eq (hKK.out _ _ hb ⟨_, _, rfl, hxx⟩) (by first | rfl | simp [upd, ed2])
    refine List.forall_mem_cons.2 ⟨?_, ?_⟩
    · intro xv bv ev WW hB hdp
      refine op_of rfl ?_
      clear hdp
      intro KK hKK
      go_simp
      exact act_eq (hKK.out _ _ (Below.refl _ _) rfl) (by first | rfl | simp [upd])
    refine List.forall_mem_cons.2 ⟨?_, ?_⟩
    · intro xv bv ev WW hB hdp
      refine op_of rfl ?_
      clear hdp
      intro KK hKK
      go_simp
      exact act_eq (hKK.out _ _ (Below.refl _ _) rfl) (by first | rfl | simp [upd])
    refine List.forall_mem_cons.2 ⟨?_, ?_⟩
    · intro xv bv ev WW hB hdp
      refine op_of rfl ?_
      have ed4 : xv 4 = .int .u64 b := hdp 4 (by kernel_rfl)
      have ed5 : xv 5 = .int .u64 m := hdp 5 (by kernel_rfl)
      clear hdp
      intro KK hKK
      go_simp
      rw [if_neg nz.out, hy.out]; go_simp
      exact act_eq (hKK.out _ _ (Below.refl _ _) rfl) (by first | rfl | simp [upd, ed4, ed5])
    refine List.forall_mem_cons.2 ⟨?_, ?_⟩
    · intro xv bv ev WW hB hdp
      refine op_of rfl ?_
      have ed6 : xv 6 = .int .u64 (y : Int) := hdp 6 (by kernel_rfl)
      clear hdp
      intro KK hKK
      go_simp
      refine (rOf_c y _ by9.out).mono ?_
      rintro e WW' ⟨⟨yya, yyk, rfl, hyy⟩, hb⟩
      (try dsimp only)
      (try simp only [Act.put, List.setIfInBounds_toArray, List.set_cons_zero, List.set_cons_succ])
      exact act_eq (hKK.out _ _ hb ⟨_, _, rfl, hyy⟩) (by first | rfl | simp [upd, ed6])
    refine List.forall_mem_cons.2 ⟨?_, ?_⟩
    · intro xv bv ev WW hB hdp
      refine op_of rfl ?_
      clear hdp
      intro KK hKK
      go_simp
      exact act_eq (hKK.out _ _ (Below.refl _ _) rfl) (by first | rfl | simp [upd])
    refine List.forall_mem_cons.2 ⟨?_, ?_⟩
    · intro xv bv ev WW hB hdp
      refine op_of rfl ?_
      have ed8 : xv 8 = .int .u64 m := hdp 8 (by kernel_rfl)
      clear hdp
      intro KK hKK
      go_simp
      refine (rOf_c m _ bm.out).mono ?_
      rintro e WW' ⟨⟨mma, mmk, rfl, hmm⟩, hb⟩
      (try dsimp only)
      (try simp only [Act.put, List.setIfInBounds_toArray, List.set_cons_zero, List.set_cons_succ])
      exact act_eq (hKK.out _ _ hb ⟨_, _, rfl, hmm⟩) (by first | rfl | simp [upd, ed8])
    refine List.forall_mem_cons.2 ⟨?_, ?_⟩
    · intro xv bv ev WW hB hdp
      refine op_of rfl ?_
      clear hdp
      intro KK hKK
      go_simp
      exact act_eq (hKK.out (.pointer (some ⟨WW.heap.size, 0, none⟩)) _ (below_one _ _) (PBox.mk hB rfl _)) (by first | rfl | simp [upd])
    refine List.forall_mem_cons.2 ⟨?_, ?_⟩
    · intro xv bv ev WW hB hdp
      refine op_of rfl ?_
      clear hdp
      intro KK hKK
      go_simp
      exact act_eq (hKK.out (.pointer (some ⟨WW.heap.size, 0, none⟩)) _ (below_one _ _) (PBox.mk hB rfl _)) (by first | rfl | simp [upd])
    refine List.forall_mem_cons.2 ⟨?_, ?_⟩
    · intro xv bv ev WW hB hdp
      refine op_of rfl ?_
      clear hdp
      intro KK hKK
      go_simp
      exact act_eq (hKK.out (.pointer (some ⟨WW.heap.size, 0, none⟩)) _ (below_one _ _) (PBox.mk hB rfl _)) (by first | rfl | simp [upd])
    exact List.forall_mem_nil _
  intro xv bv ev w3 hB hR hO
  have ed0 : xv 0 = .int .u64 a := hR 0 (by kernel_rfl)
  have ed1 : xv 1 = .int .u64 m := hR 1 (by kernel_rfl)
  have ed2 : xv 2 = .int .u64 (x : Int) := hR 2 (by kernel_rfl)
  obtain ⟨xxa, xxk, ed3, hxx⟩ := (show (PNum (x)) (xv 3) (bv 3) (ev 3) w3 from hR 3 (by kernel_rfl))
  have ed4 : xv 4 = .int .u64 b := hR 4 (by kernel_rfl)
  have ed5 : xv 5 = .int .u64 m := hR 5 (by kernel_rfl)
  have ed6 : xv 6 = .int .u64 (y : Int) := hR 6 (by kernel_rfl)
  obtain ⟨yya, yyk, ed7, hyy⟩ := (show (PNum (y)) (xv 7) (bv 7) (ev 7) w3 from hR 7 (by kernel_rfl))
  have ed8 : xv 8 = .int .u64 m := hR 8 (by kernel_rfl)
  obtain ⟨mma, mmk, ed9, hmm⟩ := (show (PNum (m)) (xv 9) (bv 9) (ev 9) w3 from hR 9 (by kernel_rfl))
  obtain ⟨gr2_10, ed10, hg10, hb10, he10, hc10, hf10, hs10⟩ := (show (PBox w2.heap.size) (xv 10) (bv 10) (ev 10) w3 from hR 10 (by kernel_rfl))
  obtain ⟨gr2_11, ed11, hg11, hb11, he11, hc11, hf11, hs11⟩ := (show (PBox w2.heap.size) (xv 11) (bv 11) (ev 11) w3 from hR 11 (by kernel_rfl))
  obtain ⟨gr2_12, ed12, hg12, hb12, he12, hc12, hf12, hs12⟩ := (show (PBox w2.heap.size) (xv 12) (bv 12) (ev 12) w3 from hR 12 (by kernel_rfl))
  simp only [ed0, ed1, ed2, ed3, ed4, ed5, ed6, ed7, ed8, ed9, ed10, ed11, ed12]
  have ne10_11 : gr2_10 ≠ gr2_11 := by have := hO 10 11 (by kernel_rfl) (by kernel_rfl) (by decide); omega
  have ne10_12 : gr2_10 ≠ gr2_12 := by have := hO 10 12 (by kernel_rfl) (by kernel_rfl) (by decide); omega
  have ne11_12 : gr2_11 ≠ gr2_12 := by have := hO 11 12 (by kernel_rfl) (by kernel_rfl) (by decide); omega
  have E3 : Hid (EnvB w [(gr2_12, .slice none 0 0), (gr2_11, .slice none 0 0), (gr2_10, .slice none 0 0)] [(.slice mma (len m) mmk, digs m), (.slice yya (len y) yyk, digs y), (.slice xxa (len x) xxk, digs x)] _) := Lib.hid ((((((((E2.out.below hB).add gr2_10 (.slice none 0 0) ⟨hc10, hf10, hs10, Nat.le_trans E2.out.size hg10, ⟨_, _, _, rfl⟩⟩ (fun p hp => by have := E2.out.old p hp; omega)).add gr2_11 (.slice none 0 0) ⟨hc11, hf11, hs11, Nat.le_trans E2.out.size hg11, ⟨_, _, _, rfl⟩⟩ (List.forall_mem_cons.2 ⟨ne10_11, fun p hp => by have := E2.out.old p hp; omega⟩)).add gr2_12 (.slice none 0 0) ⟨hc12, hf12, hs12, Nat.le_trans E2.out.size hg12, ⟨_, _, _, rfl⟩⟩ (List.forall_mem_cons.2 ⟨ne11_12, List.forall_mem_cons.2 ⟨ne10_12, fun p hp => by have := E2.out.old p hp; omega⟩⟩)).numN (hxx.out : Nt _ _ (x))).numN (hyy.out : Nt _ _ (y))).numN (hmm.out : Nt _ _ (m))))
  clear E2 hB hR hO ed0 ed1 ed2 ed3 ed4 ed5 ed6 ed7 ed8 ed9 ed10 ed11 ed12 hxx hyy hmm hg10 hb10 he10 hc10 hf10 hs10 hg11 hb11 he11 hc11 hf11 hs11 ne10_11 hg12 hb12 he12 hc12 hf12 hs12 ne10_12 ne11_12
  obtain ⟨p1, f1, -, -, -⟩ := E3.out.box 2 rfl
  refine wpAny_next (i := 13) (by kernel_rfl) rfl (fun KK hKK => ?_)
  go_simp
  have E4 : Hid (EnvB w [(gr2_12, .slice none 0 0), (gr2_11, .slice none 0 0), (gr2_10, .slice xxa (len x) xxk)] [(.slice mma (len m) mmk, digs m), (.slice yya (len y) yyk, digs y), (.slice xxa (len x) xxk, digs x)] _) := Lib.hid ((E3.out.set 2 (.slice xxa (len x) xxk) rfl ⟨_, _, _, rfl⟩))
  refine hKK.out _ _ ?_
  clear hKK KK
  obtain ⟨p2, f2, -, -, -⟩ := E4.out.box 1 rfl
  refine wpAny_next (i := 14) (by kernel_rfl) rfl (fun KK hKK => ?_)
  go_simp
  have E5 : Hid (EnvB w [(gr2_12, .slice none 0 0), (gr2_11, .slice yya (len y) yyk), (gr2_10, .slice xxa (len x) xxk)] [(.slice mma (len m) mmk, digs m), (.slice yya (len y) yyk, digs y), (.slice xxa (len x) xxk, digs x)] _) := Lib.hid ((E4.out.set 1 (.slice yya (len y) yyk) rfl ⟨_, _, _, rfl⟩))
  refine hKK.out _ _ ?_
  clear hKK KK
  obtain ⟨p3, f3, -, -, -⟩ := E5.out.box 0 rfl
  refine wpAny_next (i := 15) (by kernel_rfl) rfl (fun KK hKK => ?_)
  go_simp
  have E6 : Hid (EnvB w [(gr2_12, .slice mma (len m) mmk), (gr2_11, .slice yya (len y) yyk), (gr2_10, .slice xxa (len x) xxk)] [(.slice mma (len m) mmk, digs m), (.slice yya (len y) yyk, digs y), (.slice xxa (len x) xxk, digs x)] _) := Lib.hid ((E5.out.set 0 (.slice mma (len m) mmk) rfl ⟨_, _, _, rfl⟩))
  refine hKK.out _ _ ?_
  clear hKK KK
  refine wpAny_done (by kernel_rfl) ?_ _
  go_wp2_with fail
  refine (add_x _ e1.out lx.out ly.out hmT.out).mono ?_
  rintro e w4 ⟨rfl, hb⟩
  have E7 : Hid (EnvB w [(gr2_12, .slice mma (len m) mmk), (gr2_11, .slice yya (len y) yyk), (gr2_10, .slice xxa (len x) xxk)] [(.slice mma (len m) mmk, digs m), (.slice yya (len y) yyk, digs y), (.slice xxa (len x) xxk, digs x)] _) := Lib.hid ((E6.out.below hb))
  clear p1 f1 p2 f2 p3 f3 E6 E3 E4 E5 hb
  obtain ⟨p4, f4, -, -, -⟩ := E7.out.box 2 rfl
  obtain ⟨p5, f5, -, -, -⟩ := E7.out.box 1 rfl
  obtain ⟨p6, f6, -, -, -⟩ := E7.out.box 0 rfl
  go_wp2_with fail
  refine (Add_m e1.out lx.out ly.out hk.out (E7.out.nt 2 rfl) (E7.out.nt 1 rfl) (E7.out.nt 0 rfl)).mono ?_
  rintro e w5 ⟨⟨ssa, ssk, rfl, hss⟩, hb⟩
  have E8 : Hid (EnvB w [(gr2_12, .slice mma (len m) mmk), (gr2_11, .slice yya (len y) yyk), (gr2_10, .slice xxa (len x) xxk)] [(.slice ssa (len s) ssk, digs s), (.slice mma (len m) mmk, digs m), (.slice yya (len y) yyk, digs y), (.slice xxa (len x) xxk, digs x)] _) := Lib.hid (((E7.out.below hb).numN (hss.out : Nt _ _ s)))
  clear p4 f4 p5 f5 p6 f6 E7 hb hss
  go_wp2_with fail
  have E9 : Hid (EnvB w [(w5.heap.size, .slice ssa (len s) ssk), (gr2_12, .slice mma (len m) mmk), (gr2_11, .slice yya (len y) yyk), (gr2_10, .slice xxa (len x) xxk)] [(.slice ssa (len s) ssk, digs s), (.slice mma (len m) mmk, digs m), (.slice yya (len y) yyk, digs y), (.slice xxa (len x) xxk, digs x)] _) := Lib.hid ((E8.out.push (.slice ssa (len s) ssk) 24 ⟨_, _, _, rfl⟩ (w5.heap.size) (by simp)))
  refine (mul_x _ e2.out lx.out ly.out hmT.out).mono ?_
  rintro e w6 ⟨rfl, hb⟩
  have E10 : Hid (EnvB w [(w5.heap.size, .slice ssa (len s) ssk), (gr2_12, .slice mma (len m) mmk), (gr2_11, .slice yya (len y) yyk), (gr2_10, .slice xxa (len x) xxk)] [(.slice ssa (len s) ssk, digs s), (.slice mma (len m) mmk, digs m), (.slice yya (len y) yyk, digs y), (.slice xxa (len x) xxk, digs x)] _) := Lib.hid ((E9.out.below hb))
  clear E9 E8 hb
  obtain ⟨p7, f7, -, -, -⟩ := E10.out.box 3 rfl
  obtain ⟨p8, f8, -, -, -⟩ := E10.out.box 2 rfl
  obtain ⟨p9, f9, -, -, -⟩ := E10.out.box 1 rfl
  go_wp2_with fail
  refine (Mul_m e2.out lx.out ly.out hk.out (E10.out.nt 3 rfl) (E10.out.nt 2 rfl) (E10.out.nt 1 rfl)).mono ?_
  rintro e w7 ⟨⟨ppa, ppk, rfl, hpp⟩, hb⟩
  have E11 : Hid (EnvB w [(w5.heap.size, .slice ssa (len s) ssk), (gr2_12, .slice mma (len m) mmk), (gr2_11, .slice yya (len y) yyk), (gr2_10, .slice xxa (len x) xxk)] [(.slice ppa (len p) ppk, digs p), (.slice ssa (len s) ssk, digs s), (.slice mma (len m) mmk, digs m), (.slice yya (len y) yyk, digs y), (.slice xxa (len x) xxk, digs x)] _) := Lib.hid (((E10.out.below hb).numN (hpp.out : Nt _ _ p)))
  clear p7 f7 p8 f8 p9 f9 E10 hb hpp
  go_wp2_with fail
  have E12 : Hid (EnvB w [(w7.heap.size, .slice ppa (len p) ppk), (w5.heap.size, .slice ssa (len s) ssk), (gr2_12, .slice mma (len m) mmk), (gr2_11, .slice yya (len y) yyk), (gr2_10, .slice xxa (len x) xxk)] [(.slice ppa (len p) ppk, digs p), (.slice ssa (len s) ssk, digs s), (.slice mma (len m) mmk, digs m), (.slice yya (len y) yyk, digs y), (.slice xxa (len x) xxk, digs x)] _) := Lib.hid ((E11.out.push (.slice ppa (len p) ppk) 24 ⟨_, _, _, rfl⟩ (w7.heap.size) (by simp)))
  refine (inv_x _ e3.out gg.out lx.out hmT.out).mono ?_
  rintro e w8 ⟨rfl, hb⟩
  have E13 : Hid (EnvB w [(w7.heap.size, .slice ppa (len p) ppk), (w5.heap.size, .slice ssa (len s) ssk), (gr2_12, .slice mma (len m) mmk), (gr2_11, .slice yya (len y) yyk), (gr2_10, .slice xxa (len x) xxk)] [(.slice ppa (len p) ppk, digs p), (.slice ssa (len s) ssk, digs s), (.slice mma (len m) mmk, digs m), (.slice yya (len y) yyk, digs y), (.slice xxa (len x) xxk, digs x)] _) := Lib.hid ((E12.out.below hb))
  clear E12 E11 hb
  obtain ⟨p10, f10, -, -, -⟩ := E13.out.box 4 rfl
  obtain ⟨p11, f11, -, -, -⟩ := E13.out.box 2 rfl
  go_wp2_with fail
  refine (inv_m e3.out gg.out lx.out hk.out (E13.out.nt 4 rfl) (E13.out.nt 2 rfl)).mono ?_
  rintro e w9 ⟨⟨vva, vvk, rfl, hvv⟩, hb⟩
  have E14 : Hid (EnvB w [(w7.heap.size, .slice ppa (len p) ppk), (w5.heap.size, .slice ssa (len s) ssk), (gr2_12, .slice mma (len m) mmk), (gr2_11, .slice yya (len y) yyk), (gr2_10, .slice xxa (len x) xxk)] [(.slice vva (len v) vvk, digs v), (.slice ppa (len p) ppk, digs p), (.slice ssa (len s) ssk, digs s), (.slice mma (len m) mmk, digs m), (.slice yya (len y) yyk, digs y), (.slice xxa (len x) xxk, digs x)] _) := Lib.hid (((E13.out.below hb).numN (hvv.out : Nt _ _ v)))
  clear p10 f10 p11 f11 E13 hb hvv
  have E15 : Hid (EnvB w [(w9.heap.size, .slice vva (len v) vvk), (w7.heap.size, .slice ppa (len p) ppk), (w5.heap.size, .slice ssa (len s) ssk), (gr2_12, .slice mma (len m) mmk), (gr2_11, .slice yya (len y) yyk), (gr2_10, .slice xxa (len x) xxk)] [(.slice vva (len v) vvk, digs v), (.slice ppa (len p) ppk, digs p), (.slice ssa (len s) ssk, digs s), (.slice mma (len m) mmk, digs m), (.slice yya (len y) yyk, digs y), (.slice xxa (len x) xxk, digs x)] _) := Lib.hid ((E14.out.push (.slice vva (len v) vvk) 24 ⟨_, _, _, rfl⟩ (w9.heap.size) (by simp)))
  obtain ⟨p12, f12, -, -, -⟩ := E15.out.box 2 rfl
  go_wp2_with fail
  refine (eqk ls.out (E15.out.nt 2 rfl)).mono ?_
  rintro e w10 ⟨rfl, hb⟩
  have E16 : Hid (EnvB w [(w9.heap.size, .slice vva (len v) vvk), (w7.heap.size, .slice ppa (len p) ppk), (w5.heap.size, .slice ssa (len s) ssk), (gr2_12, .slice mma (len m) mmk), (gr2_11, .slice yya (len y) yyk), (gr2_10, .slice xxa (len x) xxk)] [(.slice vva (len v) vvk, digs v), (.slice ppa (len p) ppk, digs p), (.slice ssa (len s) ssk, digs s), (.slice mma (len m) mmk, digs m), (.slice yya (len y) yyk, digs y), (.slice xxa (len x) xxk, digs x)] _) := Lib.hid ((E15.out.below hb))
  clear p12 f12 E15 E14 hb
  obtain ⟨p13, f13, -, -, -⟩ := E16.out.box 1 rfl
  go_wp2_with fail
  refine (eqk lp.out (E16.out.nt 1 rfl)).mono ?_
  rintro e w11 ⟨rfl, hb⟩
  have E17 : Hid (EnvB w [(w9.heap.size, .slice vva (len v) vvk), (w7.heap.size, .slice ppa (len p) ppk), (w5.heap.size, .slice ssa (len s) ssk), (gr2_12, .slice mma (len m) mmk), (gr2_11, .slice yya (len y) yyk), (gr2_10, .slice xxa (len x) xxk)] [(.slice vva (len v) vvk, digs v), (.slice ppa (len p) ppk, digs p), (.slice ssa (len s) ssk, digs s), (.slice mma (len m) mmk, digs m), (.slice yya (len y) yyk, digs y), (.slice xxa (len x) xxk, digs x)] _) := Lib.hid ((E16.out.below hb))
  clear p13 f13 E16 hb
  obtain ⟨p14, f14, -, -, -⟩ := E17.out.box 0 rfl
  go_wp2_with fail
  refine (eqk lv.out (E17.out.nt 0 rfl)).mono ?_
  rintro e w12 ⟨rfl, hb⟩
  have E18 : Hid (EnvB w [(w9.heap.size, .slice vva (len v) vvk), (w7.heap.size, .slice ppa (len p) ppk), (w5.heap.size, .slice ssa (len s) ssk), (gr2_12, .slice mma (len m) mmk), (gr2_11, .slice yya (len y) yyk), (gr2_10, .slice xxa (len x) xxk)] [(.slice vva (len v) vvk, digs v), (.slice ppa (len p) ppk, digs p), (.slice ssa (len s) ssk, digs s), (.slice mma (len m) mmk, digs m), (.slice yya (len y) yyk, digs y), (.slice xxa (len x) xxk, digs x)] _) := Lib.hid ((E17.out.below hb))
  clear p14 f14 E17 hb
  have hfin := Lib.hid E18.out.1
  go_wp2
  go_ret
  exact ⟨rfl, hfin.out⟩
set_option maxRecDepth 100000 in
set_option maxHeartbeats 1000000 in
theorem Word_false  (a b m x y s p v : Nat) (w : World)  (hm0 : 1 ≤ (m : Int) ∧ (m : Int) < 2305843009213693952) (hmT0 : (m : Int) < Top) (nz0 : ¬ m = 0) (hx0 : Int.tmod (a : Int) (m : Int) = (x : Int)) (hy0 : Int.tmod (b : Int) (m : Int) = (y : Int)) (cx0 : IntKind.i64.wrap (x : Int) = (x : Int)) (cy0 : IntKind.i64.wrap (y : Int) = (y : Int)) (cm0 : IntKind.i64.wrap (m : Int) = (m : Int)) (lx0 : x < m) (ly0 : y < m) (bx0 : x < 18446744073709551616) (by90 : y < 18446744073709551616) (bm0 : m < 18446744073709551616) (hk0 : len m ≤ 32) (e10 : (x + y) % m = s) (e20 : x * y % m = p) (e30 : invV x m = v) (gg0 : decide (invG x m = 1) = false) (ls0 : s < 2305843009213693952) (lp0 : p < 2305843009213693952) (lv0 : v < 2305843009213693952) :
    Calls Try.prog 11 #[.int .u64 a, .int .u64 b, .int .u64 m] w fun e w' => e = .returned (.bool true) ∧ Below w.heap.size w w' := by
  have hm := Lib.hid hm0
  have hmT := Lib.hid hmT0
  have nz := Lib.hid nz0
  have hx := Lib.hid hx0
  have hy := Lib.hid hy0
  have cx := Lib.hid cx0
  have cy := Lib.hid cy0
  have cm := Lib.hid cm0
  have lx := Lib.hid lx0
  have ly := Lib.hid ly0
  have bx := Lib.hid bx0
  have by9 := Lib.hid by90
  have bm := Lib.hid bm0
  have hk := Lib.hid hk0
  have e1 := Lib.hid e10
  have e2 := Lib.hid e20
  have e3 := Lib.hid e30
  have gg := Lib.hid gg0
  have ls := Lib.hid ls0
  have lp := Lib.hid lp0
  have lv := Lib.hid lv0
  clear hm0 hmT0 nz0 hx0 hy0 cx0 cy0 cm0 lx0 ly0 bx0 by90 bm0 hk0 e10 e20 e30 gg0 ls0 lp0 lv0
  have E0 : Hid (EnvB w [] [] w) := Lib.hid (EnvB.start w)
  go_enter Try.func11, Try.ntmps11
  go_wp2_with fail
  refine (awake_c _).mono ?_
  rintro e w1 ⟨rfl, hb⟩
  have E1 : Hid (EnvB w [] [] _) := Lib.hid ((E0.out.below hb))
  clear E0 hb
  have g1 : decide ((m : Int) < 1) = false := decide_eq_false (by have := hm.out; omega)
  have g2 : decide (2305843009213693952 ≤ (m : Int)) = false := decide_eq_false (by have := hm.out; omega)
  have cx1 := cx.out
  have cy1 := cy.out
  have cm1 := cm.out
  go_wp2_with fail
  refine' wp_region_phase (by kernel_rfl) [0, 1, 2, 3, 4, 5, 6, 7, 8, 9, 10, 11, 12] (by kernel_rfl) #[true, true, true, true, true, true, true, true, true, true, true, true, true] (by kernel_rfl) 0 (by kernel_rfl) [PEq (.int .u64 a), PEq (.int .u64 m), PEq (.int .u64 (x : Int)), PEq (.int .i64 (x : Int)), PEq (.int .u64 b), PEq (.int .u64 m), PEq (.int .u64 (y : Int)), PEq (.int .i64 (y : Int)), PEq (.int .u64 m), PEq (.int .i64 (m : Int)), PEq (.int .i64 (x : Int)), PEq (.int .i64 (y : Int)), PEq (.int .i64 (m : Int))] (List.forall_mem_cons.2 ⟨PEq.st _, List.forall_mem_cons.2 ⟨PEq.st _, List.forall_mem_cons.2 ⟨PEq.st _, List.forall_mem_cons.2 ⟨PEq.st _, List.forall_mem_cons.2 ⟨PEq.st _, List.forall_mem_cons.2 ⟨PEq.st _, List.forall_mem_cons.2 ⟨PEq.st _, List.forall_mem_cons.2 ⟨PEq.st _, List.forall_mem_cons.2 ⟨PEq.st _, List.forall_mem_cons.2 ⟨PEq.st _, List.forall_mem_cons.2 ⟨PEq.st _, List.forall_mem_cons.2 ⟨PEq.st _, List.forall_mem_cons.2 ⟨PEq.st _, List.forall_mem_nil _⟩⟩⟩⟩⟩⟩⟩⟩⟩⟩⟩⟩⟩) _ ?hFr3 ?stepr3 ?doner3
  case hFr3 => intro x; simp only [frameL, Act.put, List.setIfInBounds_toArray, List.set_cons_zero, List.set_cons_succ, Nat.zero_add, Nat.reduceAdd]; exact rfl
  case stepr3 =>
    refine List.forall_mem_cons.2 ⟨?_, ?_⟩
    · intro xv bv ev WW hB hdp
      refine op_of rfl ?_
      clear hdp
      intro KK hKK
      go_simp
      exact act_eq (hKK.out _ _ (Below.refl _ _) rfl) (by first | rfl | simp [upd])
    refine List.forall_mem_cons.2 ⟨?_, ?_⟩
    · intro xv bv ev WW hB hdp
      refine op_of rfl ?_
      clear hdp
      intro KK hKK
      go_simp
      exact act_eq (hKK.out _ _ (Below.refl _ _) rfl) (by first | rfl | simp [upd])
    refine List.forall_mem_cons.2 ⟨?_, ?_⟩
    · intro xv bv ev WW hB hdp
      refine op_of rfl ?_
      have ed0 : xv 0 = .int .u64 a := hdp 0 (by kernel_rfl)
      have ed1 : xv 1 = .int .u64 m := hdp 1 (by kernel_rfl)
      clear hdp
      intro KK hKK
      go_simp
      rw [if_neg nz.out, hx.out]; go_simp
      exact act_eq (hKK.out _ _ (Below.refl _ _) rfl) (by first | rfl | simp [upd, ed0, ed1])
    refine List.forall_mem_cons.2 ⟨?_, ?_⟩
    · intro xv bv ev WW hB hdp
      refine op_of rfl ?_
      have ed2 : xv 2 = .int .u64 (x : Int) := hdp 2 (by kernel_rfl)
      clear hdp
      intro KK hKK
      go_simp
      exact act_eq (hKK.out _ _ (Below.refl _ _) rfl) (by first | rfl | simp [upd, ed2])
    refine List.forall_mem_cons.2 ⟨?_, ?_⟩
    · intro xv bv ev WW hB hdp
      refine op_of rfl ?_
      clear hdp
      intro KK hKK
      go_simp
      exact act_eq (hKK.out _ _ (Below.refl _ _) rfl) (by first | rfl | simp [upd])
    refine List.forall_mem_cons.2 ⟨?_, ?_⟩
    · intro xv bv ev WW hB hdp
      refine op_of rfl ?_
      clear hdp
      intro KK hKK
      go_simp
      exact act_eq (hKK.out _ _ (Below.refl _ _) rfl) (by first | rfl | simp [upd])
    refine List.forall_mem_cons.2 ⟨?_, ?_⟩
    · intro xv bv ev WW hB hdp
      refine op_of rfl ?_
      have ed4 : xv 4 = .int .u64 b := hdp 4 (by kernel_rfl)
      have ed5 : xv 5 = .int .u64 m := hdp 5 (by kernel_rfl)
      clear hdp
      intro KK hKK
      go_simp
      rw [if_neg nz.out, hy.out]; go_simp
      exact act_eq (hKK.out _ _ (Below.refl _ _) rfl) (by first | rfl | simp [upd, ed4, ed5])
    refine List.forall_mem_cons.2 ⟨?_, ?_⟩
    · intro xv bv ev WW hB hdp
      refine op_of rfl ?_
      have ed6 : xv 6 = .int .u64 (y : Int) := hdp 6 (by kernel_rfl)
      clear hdp
      intro KK hKK
      go_simp
      exact act_eq (hKK.out _ _ (Below.refl _ _) rfl) (by first | rfl | simp [upd, ed6])
    refine List.forall_mem_cons.2 ⟨?_, ?_⟩
    · intro xv bv ev WW hB hdp
      refine op_of rfl ?_
      clear hdp
      intro KK hKK
      go_simp
      exact act_eq (hKK.out _ _ (Below.refl _ _) rfl) (by first | rfl | simp [upd])
    refine List.forall_mem_cons.2 ⟨?_, ?_⟩
    · intro xv bv ev WW hB hdp
      refine op_of rfl ?_
      have ed8 : xv 8 = .int .u64 m := hdp 8 (by kernel_rfl)
      clear hdp
      intro KK hKK
      go_simp
      exact act_eq (hKK.out _ _ (Below.refl _ _) rfl) (by first | rfl | simp [upd, ed8])
    refine List.forall_mem_cons.2 ⟨?_, ?_⟩
    · intro xv bv ev WW hB hdp
      refine op_of rfl ?_
      have ed3 : xv 3 = .int .i64 (x : Int) := hdp 3 (by kernel_rfl)
      clear hdp
      intro KK hKK
      go_simp
      exact act_eq (hKK.out _ _ (Below.refl _ _) rfl) (by first | rfl | simp [upd, ed3])
    refine List.forall_mem_cons.2 ⟨?_, ?_⟩
    · intro xv bv ev WW hB hdp
      refine op_of rfl ?_
      have ed7 : xv 7 = .int .i64 (y : Int) := hdp 7 (by kernel_rfl)
      clear hdp
      intro KK hKK
      go_simp
      exact act_eq (hKK.out _ _ (Below.refl _ _) rfl) (by first | rfl | simp [upd, ed7])
    refine List.forall_mem_cons.2 ⟨?_, ?_⟩
    · intro xv bv ev WW hB hdp
      refine op_of rfl ?_
      have ed9 : xv 9 = .int .i64 (m : Int) := hdp 9 (by kernel_rfl)
      clear hdp
      intro KK hKK
      go_simp
      exact act_eq (hKK.out _ _ (Below.refl _ _) rfl) (by first | rfl | simp [upd, ed9])
    exact List.forall_mem_nil _
  intro xv bv ev w2 hB hR hO
  have ed0 : xv 0 = .int .u64 a := hR 0 (by kernel_rfl)
  have ed1 : xv 1 = .int .u64 m := hR 1 (by kernel_rfl)
  have ed2 : xv 2 = .int .u64 (x : Int) := hR 2 (by kernel_rfl)
  have ed3 : xv 3 = .int .i64 (x : Int) := hR 3 (by kernel_rfl)
  have ed4 : xv 4 = .int .u64 b := hR 4 (by kernel_rfl)
  have ed5 : xv 5 = .int .u64 m := hR 5 (by kernel_rfl)
  have ed6 : xv 6 = .int .u64 (y : Int) := hR 6 (by kernel_rfl)
  have ed7 : xv 7 = .int .i64 (y : Int) := hR 7 (by kernel_rfl)
  have ed8 : xv 8 = .int .u64 m := hR 8 (by kernel_rfl)
  have ed9 : xv 9 = .int .i64 (m : Int) := hR 9 (by kernel_rfl)
  have ed10 : xv 10 = .int .i64 (x : Int) := hR 10 (by kernel_rfl)
  have ed11 : xv 11 = .int .i64 (y : Int) := hR 11 (by kernel_rfl)
  have ed12 : xv 12 = .int .i64 (m : Int) := hR 12 (by kernel_rfl)
  simp only [ed0, ed1, ed2, ed3, ed4, ed5, ed6, ed7, ed8, ed9, ed10, ed11, ed12]
  have E2 : Hid (EnvB w [] [] _) := Lib.hid ((E1.out.below hB))
  clear E1 hB hR hO ed0 ed1 ed2 ed3 ed4 ed5 ed6 ed7 ed8 ed9 ed10 ed11 ed12
  refine wpAny_done (by kernel_rfl) ?_ _
  go_wp2_with fail
  refine' wp_region_phase (by kernel_rfl) [0, 1, 2, 3, 4, 5, 6, 7, 8, 9, 10, 11, 12] (by kernel_rfl) #[true, true, true, true, true, true, true, true, true, true, true, true, true, false, false, false] (by kernel_rfl) 3 (by kernel_rfl) [PEq (.int .u64 a), PEq (.int .u64 m), PEq (.int .u64 (x : Int)), PNum (x), PEq (.int .u64 b), PEq (.int .u64 m), PEq (.int .u64 (y : Int)), PNum (y), PEq (.int .u64 m), PNum (m), PBox w2.heap.size, PBox w2.heap.size, PBox w2.heap.size, Fact.none, Fact.none, Fact.none] (List.forall_mem_cons.2 ⟨PEq.st _, List.forall_mem_cons.2 ⟨PEq.st _, List.forall_mem_cons.2 ⟨PEq.st _, List.forall_mem_cons.2 ⟨PNum.st _, List.forall_mem_cons.2 ⟨PEq.st _, List.forall_mem_cons.2 ⟨PEq.st _, List.forall_mem_cons.2 ⟨PEq.st _, List.forall_mem_cons.2 ⟨PNum.st _, List.forall_mem_cons.2 ⟨PEq.st _, List.forall_mem_cons.2 ⟨PNum.st _, List.forall_mem_cons.2 ⟨PBox.st _, List.forall_mem_cons.2 ⟨PBox.st _, List.forall_mem_cons.2 ⟨PBox.st _, List.forall_mem_cons.2 ⟨Fact.none_st, List.forall_mem_cons.2 ⟨Fact.none_st, List.forall_mem_cons.2 ⟨Fact.none_st, List.forall_mem_nil _⟩⟩⟩⟩⟩⟩⟩⟩⟩⟩⟩⟩⟩⟩⟩⟩) _ ?hFr4 ?stepr4 ?doner4
  case hFr4 => intro x; simp only [frameL, Act.put, List.setIfInBounds_toArray, List.set_cons_zero, List.set_cons_succ, Nat.zero_add, Nat.reduceAdd]; exact rfl
  case stepr4 =>
    refine List.forall_mem_cons.2 ⟨?_, ?_⟩
    · intro xv bv ev WW hB hdp
      refine op_of rfl ?_
      clear hdp
      intro KK hKK
      go_simp
      exact act_eq (hKK.out _ _ (Below.refl _ _) rfl) (by first | rfl | simp [upd])
    refine List.forall_mem_cons.2 ⟨?_, ?_⟩
    · intro xv bv ev WW hB hdp
      refine op_of rfl ?_
      clear hdp
      intro KK hKK
      go_simp
      exact act_eq (hKK.out _ _ (Below.refl _ _) rfl) (by first | rfl | simp [upd])
    refine List.forall_mem_cons.2 ⟨?_, ?_⟩
    · intro xv bv ev WW hB hdp
      refine op_of rfl ?_
      have ed0 : xv 0 = .int .u64 a := hdp 0 (by kernel_rfl)
      have ed1 : xv 1 = .int .u64 m := hdp 1 (by kernel_rfl)
      clear hdp
      intro KK hKK
      go_simp
      rw [if_neg nz.out, hx.out]; go_simp
      exact act_eq (hKK.out _ _ (Below.refl _ _) rfl) (by first | rfl | simp [upd, ed0, ed1])
    refine List.forall_mem_cons.2 ⟨?_, ?_⟩
    · intro xv bv ev WW hB hdp
      refine op_of rfl ?_
      have ed2 : xv 2 = .int .u64 (x : Int) := hdp 2 (by kernel_rfl)
      clear hdp
      intro KK hKK
      go_simp
      refine (rOf_c x _ bx.out).mono ?_
      rintro e WW' ⟨⟨xxa, xxk, rfl, hxx⟩, hb⟩
      (try dsimp only)
      (try simp only [Act.put, List.setIfInBounds_toArray, List.set_cons_zero, List.set_cons_succ])
      exact act_eq (hKK.out _ _ hb ⟨_, _, rfl, hxx⟩) (by first | rfl | simp [upd, ed2])
    refine List.forall_mem_cons.2 ⟨?_, ?_⟩
    · intro xv bv ev WW hB hdp
      refine op_of rfl ?_
      clear hdp
      intro KK hKK
      go_simp
      exact act_eq (hKK.out _ _ (Below.refl _ _) rfl) (by first | rfl | simp [upd])
    refine List.forall_mem_cons.2 ⟨?_, ?_⟩
    · intro xv bv ev WW hB hdp
      refine op_of rfl ?_
      clear hdp
      intro KK hKK
      go_simp
      exact act_eq (hKK.out _ _ (Below.refl _ _) rfl) (by first | rfl | simp [upd])
    refine List.forall_mem_cons.2 ⟨?_, ?_⟩
    · intro xv bv ev WW hB hdp
      refine op_of rfl ?_
      have ed4 : xv 4 = .int .u64 b := hdp 4 (by kernel_rfl)
      have ed5 : xv 5 = .int .u64 m := hdp 5 (by kernel_rfl)
      clear hdp
      intro KK hKK
      go_simp
      rw [if_neg nz.out, hy.out]; go_simp
      exact act_eq (hKK.out _ _ (Below.refl _ _) rfl) (by first | rfl | simp [upd, ed4, ed5])
    refine List.forall_mem_cons.2 ⟨?_, ?_⟩
    · intro xv bv ev WW hB hdp
      refine op_of rfl ?_
      have ed6 : xv 6 = .int .u64 (y : Int) := hdp 6 (by kernel_rfl)
      clear hdp
      intro KK hKK
      go_simp
      refine (rOf_c y _ by9.out).mono ?_
      rintro e WW' ⟨⟨yya, yyk, rfl, hyy⟩, hb⟩
      (try dsimp only)
      (try simp only [Act.put, List.setIfInBounds_toArray, List.set_cons_zero, List.set_cons_succ])
      exact act_eq (hKK.out _ _ hb ⟨_, _, rfl, hyy⟩) (by first | rfl | simp [upd, ed6])
    refine List.forall_mem_cons.2 ⟨?_, ?_⟩
    · intro xv bv ev WW hB hdp
      refine op_of rfl ?_
      clear hdp
      intro KK hKK
      go_simp
      exact act_eq (hKK.out _ _ (Below.refl _ _) rfl) (by first | rfl | simp [upd])
    refine List.forall_mem_cons.2 ⟨?_, ?_⟩
    · intro xv bv ev WW hB hdp
      refine op_of rfl ?_
      have ed8 : xv 8 = .int .u64 m := hdp 8 (by kernel_rfl)
      clear hdp
      intro KK hKK
      go_simp
      refine (rOf_c m _ bm.out).mono ?_
      rintro e WW' ⟨⟨mma, mmk, rfl, hmm⟩, hb⟩
      (try dsimp only)
      (try simp only [Act.put, List.setIfInBounds_toArray, List.set_cons_zero, List.set_cons_succ])
      exact act_eq (hKK.out _ _ hb ⟨_, _, rfl, hmm⟩) (by first | rfl | simp [upd, ed8])
    refine List.forall_mem_cons.2 ⟨?_, ?_⟩
    · intro xv bv ev WW hB hdp
      refine op_of rfl ?_
      clear hdp
      intro KK hKK
      go_simp
      exact act_eq (hKK.out (.pointer (some ⟨WW.heap.size, 0, none⟩)) _ (below_one _ _) (PBox.mk hB rfl _)) (by first | rfl | simp [upd])
    refine List.forall_mem_cons.2 ⟨?_, ?_⟩
    · intro xv bv ev WW hB hdp
      refine op_of rfl ?_
      clear hdp
      intro KK hKK
      go_simp
      exact act_eq (hKK.out (.pointer (some ⟨WW.heap.size, 0, none⟩)) _ (below_one _ _) (PBox.mk hB rfl _)) (by first | rfl | simp [upd])
    refine List.forall_mem_cons.2 ⟨?_, ?_⟩
    · intro xv bv ev WW hB hdp
      refine op_of rfl ?_
      clear hdp
      intro KK hKK
      go_simp
      exact act_eq (hKK.out (.pointer (some ⟨WW.heap.size, 0, none⟩)) _ (below_one _ _) (PBox.mk hB rfl _)) (by first | rfl | simp [upd])
    exact List.forall_mem_nil _
  intro xv bv ev w3 hB hR hO
  have ed0 : xv 0 = .int .u64 a := hR 0 (by kernel_rfl)
  have ed1 : xv 1 = .int .u64 m := hR 1 (by kernel_rfl)
  have ed2 : xv 2 = .int .u64 (x : Int) := hR 2 (by kernel_rfl)
  obtain ⟨xxa, xxk, ed3, hxx⟩ := (show (PNum (x)) (xv 3) (bv 3) (ev 3) w3 from hR 3 (by kernel_rfl))
  have ed4 : xv 4 = .int .u64 b := hR 4 (by kernel_rfl)
  have ed5 : xv 5 = .int .u64 m := hR 5 (by kernel_rfl)
  have ed6 : xv 6 = .int .u64 (y : Int) := hR 6 (by kernel_rfl)
  obtain ⟨yya, yyk, ed7, hyy⟩ := (show (PNum (y)) (xv 7) (bv 7) (ev 7) w3 from hR 7 (by kernel_rfl))
  have ed8 : xv 8 = .int .u64 m := hR 8 (by kernel_rfl)
  obtain ⟨mma, mmk, ed9, hmm⟩ := (show (PNum (m)) (xv 9) (bv 9) (ev 9) w3 from hR 9 (by kernel_rfl))
  obtain ⟨gr4_10, ed10, hg10, hb10, he10, hc10, hf10, hs10⟩ := (show (PBox w2.heap.size) (xv 10) (bv 10) (ev 10) w3 from hR 10 (by kernel_rfl))
  obtain ⟨gr4_11, ed11, hg11, hb11, he11, hc11, hf11, hs11⟩ := (show (PBox w2.heap.size) (xv 11) (bv 11) (ev 11) w3 from hR 11 (by kernel_rfl))
  obtain ⟨gr4_12, ed12, hg12, hb12, he12, hc12, hf12, hs12⟩ := (show (PBox w2.heap.size) (xv 12) (bv 12) (ev 12) w3 from hR 12 (by kernel_rfl))
  simp only [ed0, ed1, ed2, ed3, ed4, ed5, ed6, ed7, ed8, ed9, ed10, ed11, ed12]
  have ne10_11 : gr4_10 ≠ gr4_11 := by have := hO 10 11 (by kernel_rfl) (by kernel_rfl) (by decide); omega
  have ne10_12 : gr4_10 ≠ gr4_12 := by have := hO 10 12 (by kernel_rfl) (by kernel_rfl) (by decide); omega
  have ne11_12 : gr4_11 ≠ gr4_12 := by have := hO 11 12 (by kernel_rfl) (by kernel_rfl) (by decide); omega
  have E3 : Hid (EnvB w [(gr4_12, .slice none 0 0), (gr4_11, .slice none 0 0), (gr4_10, .slice none 0 0)] [(.slice mma (len m) mmk, digs m), (.slice yya (len y) yyk, digs y), (.slice xxa (len x) xxk, digs x)] _) := Lib.hid ((((((((E2.out.below hB).add gr4_10 (.slice none 0 0) ⟨hc10, hf10, hs10, Nat.le_trans E2.out.size hg10, ⟨_, _, _, rfl⟩⟩ (fun p hp => by have := E2.out.old p hp; omega)).add gr4_11 (.slice none 0 0) ⟨hc11, hf11, hs11, Nat.le_trans E2.out.size hg11, ⟨_, _, _, rfl⟩⟩ (List.forall_mem_cons.2 ⟨ne10_11, fun p hp => by have := E2.out.old p hp; omega⟩)).add gr4_12 (.slice none 0 0) ⟨hc12, hf12, hs12, Nat.le_trans E2.out.size hg12, ⟨_, _, _, rfl⟩⟩ (List.forall_mem_cons.2 ⟨ne11_12, List.forall_mem_cons.2 ⟨ne10_12, fun p hp => by have := E2.out.old p hp; omega⟩⟩)).numN (hxx.out : Nt _ _ (x))).numN (hyy.out : Nt _ _ (y))).numN (hmm.out : Nt _ _ (m))))
  clear E2 hB hR hO ed0 ed1 ed2 ed3 ed4 ed5 ed6 ed7 ed8 ed9 ed10 ed11 ed12 hxx hyy hmm hg10 hb10 he10 hc10 hf10 hs10 hg11 hb11 he11 hc11 hf11 hs11 ne10_11 hg12 hb12 he12 hc12 hf12 hs12 ne10_12 ne11_12
  obtain ⟨p1, f1, -, -, -⟩ := E3.out.box 2 rfl
  refine wpAny_next (i := 13) (by kernel_rfl) rfl (fun KK hKK => ?_)
  go_simp
  have E4 : Hid (EnvB w [(gr4_12, .slice none 0 0), (gr4_11, .slice none 0 0), (gr4_10, .slice xxa (len x) xxk)] [(.slice mma (len m) mmk, digs m), (.slice yya (len y) yyk, digs y), (.slice xxa (len x) xxk, digs x)] _) := Lib.hid ((E3.out.set 2 (.slice xxa (len x) xxk) rfl ⟨_, _, _, rfl⟩))
  refine hKK.out _ _ ?_
  clear hKK KK
  obtain ⟨p2, f2, -, -, -⟩ := E4.out.box 1 rfl
  refine wpAny_next (i := 14) (by kernel_rfl) rfl (fun KK hKK => ?_)
  go_simp
  have E5 : Hid (EnvB w [(gr4_12, .slice none 0 0), (gr4_11, .slice yya (len y) yyk), (gr4_10, .slice xxa (len x) xxk)] [(.slice mma (len m) mmk, digs m), (.slice yya (len y) yyk, digs y), (.slice xxa (len x) xxk, digs x)] _) := Lib.hid ((E4.out.set 1 (.slice yya (len y) yyk) rfl ⟨_, _, _, rfl⟩))
  refine hKK.out _ _ ?_
  clear hKK KK
  obtain ⟨p3, f3, -, -, -⟩ := E5.out.box 0 rfl
  refine wpAny_next (i := 15) (by kernel_rfl) rfl (fun KK hKK => ?_)
  go_simp
  have E6 : Hid (EnvB w [(gr4_12, .slice mma (len m) mmk), (gr4_11, .slice yya (len y) yyk), (gr4_10, .slice xxa (len x) xxk)] [(.slice mma (len m) mmk, digs m), (.slice yya (len y) yyk, digs y), (.slice xxa (len x) xxk, digs x)] _) := Lib.hid ((E5.out.set 0 (.slice mma (len m) mmk) rfl ⟨_, _, _, rfl⟩))
  refine hKK.out _ _ ?_
  clear hKK KK
  refine wpAny_done (by kernel_rfl) ?_ _
  go_wp2_with fail
  refine (add_x _ e1.out lx.out ly.out hmT.out).mono ?_
  rintro e w4 ⟨rfl, hb⟩
  have E7 : Hid (EnvB w [(gr4_12, .slice mma (len m) mmk), (gr4_11, .slice yya (len y) yyk), (gr4_10, .slice xxa (len x) xxk)] [(.slice mma (len m) mmk, digs m), (.slice yya (len y) yyk, digs y), (.slice xxa (len x) xxk, digs x)] _) := Lib.hid ((E6.out.below hb))
  clear p1 f1 p2 f2 p3 f3 E6 E3 E4 E5 hb
  obtain ⟨p4, f4, -, -, -⟩ := E7.out.box 2 rfl
  obtain ⟨p5, f5, -, -, -⟩ := E7.out.box 1 rfl
  obtain ⟨p6, f6, -, -, -⟩ := E7.out.box 0 rfl
  go_wp2_with fail
  refine (Add_m e1.out lx.out ly.out hk.out (E7.out.nt 2 rfl) (E7.out.nt 1 rfl) (E7.out.nt 0 rfl)).mono ?_
  rintro e w5 ⟨⟨ssa, ssk, rfl, hss⟩, hb⟩
  have E8 : Hid (EnvB w [(gr4_12, .slice mma (len m) mmk), (gr4_11, .slice yya (len y) yyk), (gr4_10, .slice xxa (len x) xxk)] [(.slice ssa (len s) ssk, digs s), (.slice mma (len m) mmk, digs m), (.slice yya (len y) yyk, digs y), (.slice xxa (len x) xxk, digs x)] _) := Lib.hid (((E7.out.below hb).numN (hss.out : Nt _ _ s)))
  clear p4 f4 p5 f5 p6 f6 E7 hb hss
  go_wp2_with fail
  have E9 : Hid (EnvB w [(w5.heap.size, .slice ssa (len s) ssk), (gr4_12, .slice mma (len m) mmk), (gr4_11, .slice yya (len y) yyk), (gr4_10, .slice xxa (len x) xxk)] [(.slice ssa (len s) ssk, digs s), (.slice mma (len m) mmk, digs m), (.slice yya (len y) yyk, digs y), (.slice xxa (len x) xxk, digs x)] _) := Lib.hid ((E8.out.push (.slice ssa (len s) ssk) 24 ⟨_, _, _, rfl⟩ (w5.heap.size) (by simp)))
  refine (mul_x _ e2.out lx.out ly.out hmT.out).mono ?_
  rintro e w6 ⟨rfl, hb⟩
  have E10 : Hid (EnvB w [(w5.heap.size, .slice ssa (len s) ssk), (gr4_12, .slice mma (len m) mmk), (gr4_11, .slice yya (len y) yyk), (gr4_10, .slice xxa (len x) xxk)] [(.slice ssa (len s) ssk, digs s), (.slice mma (len m) mmk, digs m), (.slice yya (len y) yyk, digs y), (.slice xxa (len x) xxk, digs x)] _) := Lib.hid ((E9.out.below hb))
  clear E9 E8 hb
  obtain ⟨p7, f7, -, -, -⟩ := E10.out.box 3 rfl
  obtain ⟨p8, f8, -, -, -⟩ := E10.out.box 2 rfl
  obtain ⟨p9, f9, -, -, -⟩ := E10.out.box 1 rfl
  go_wp2_with fail
  refine (Mul_m e2.out lx.out ly.out hk.out (E10.out.nt 3 rfl) (E10.out.nt 2 rfl) (E10.out.nt 1 rfl)).mono ?_
  rintro e w7 ⟨⟨ppa, ppk, rfl, hpp⟩, hb⟩
  have E11 : Hid (EnvB w [(w5.heap.size, .slice ssa (len s) ssk), (gr4_12, .slice mma (len m) mmk), (gr4_11, .slice yya (len y) yyk), (gr4_10, .slice xxa (len x) xxk)] [(.slice ppa (len p) ppk, digs p), (.slice ssa (len s) ssk, digs s), (.slice mma (len m) mmk, digs m), (.slice yya (len y) yyk, digs y), (.slice xxa (len x) xxk, digs x)] _) := Lib.hid (((E10.out.below hb).numN (hpp.out : Nt _ _ p)))
  clear p7 f7 p8 f8 p9 f9 E10 hb hpp
  go_wp2_with fail
  have E12 : Hid (EnvB w [(w7.heap.size, .slice ppa (len p) ppk), (w5.heap.size, .slice ssa (len s) ssk), (gr4_12, .slice mma (len m) mmk), (gr4_11, .slice yya (len y) yyk), (gr4_10, .slice xxa (len x) xxk)] [(.slice ppa (len p) ppk, digs p), (.slice ssa (len s) ssk, digs s), (.slice mma (len m) mmk, digs m), (.slice yya (len y) yyk, digs y), (.slice xxa (len x) xxk, digs x)] _) := Lib.hid ((E11.out.push (.slice ppa (len p) ppk) 24 ⟨_, _, _, rfl⟩ (w7.heap.size) (by simp)))
  refine (inv_x0 _ gg.out lx.out hmT.out).mono ?_
  rintro e w8 ⟨rfl, hb⟩
  have E13 : Hid (EnvB w [(w7.heap.size, .slice ppa (len p) ppk), (w5.heap.size, .slice ssa (len s) ssk), (gr4_12, .slice mma (len m) mmk), (gr4_11, .slice yya (len y) yyk), (gr4_10, .slice xxa (len x) xxk)] [(.slice ppa (len p) ppk, digs p), (.slice ssa (len s) ssk, digs s), (.slice mma (len m) mmk, digs m), (.slice yya (len y) yyk, digs y), (.slice xxa (len x) xxk, digs x)] _) := Lib.hid ((E12.out.below hb))
  clear E12 E11 hb
  obtain ⟨p10, f10, -, -, -⟩ := E13.out.box 4 rfl
  obtain ⟨p11, f11, -, -, -⟩ := E13.out.box 2 rfl
  go_wp2_with fail
  refine (inv_n gg.out lx.out hk.out (E13.out.nt 4 rfl) (E13.out.nt 2 rfl)).mono ?_
  rintro e w9 ⟨⟨vva, vvk, rfl⟩, hb⟩
  have E14 : Hid (EnvB w [(w7.heap.size, .slice ppa (len p) ppk), (w5.heap.size, .slice ssa (len s) ssk), (gr4_12, .slice mma (len m) mmk), (gr4_11, .slice yya (len y) yyk), (gr4_10, .slice xxa (len x) xxk)] [(.slice ppa (len p) ppk, digs p), (.slice ssa (len s) ssk, digs s), (.slice mma (len m) mmk, digs m), (.slice yya (len y) yyk, digs y), (.slice xxa (len x) xxk, digs x)] _) := Lib.hid ((E13.out.below hb))
  clear p10 f10 p11 f11 E13 hb
  have E15 : Hid (EnvB w [(w9.heap.size, .slice vva 0 vvk), (w7.heap.size, .slice ppa (len p) ppk), (w5.heap.size, .slice ssa (len s) ssk), (gr4_12, .slice mma (len m) mmk), (gr4_11, .slice yya (len y) yyk), (gr4_10, .slice xxa (len x) xxk)] [(.slice ppa (len p) ppk, digs p), (.slice ssa (len s) ssk, digs s), (.slice mma (len m) mmk, digs m), (.slice yya (len y) yyk, digs y), (.slice xxa (len x) xxk, digs x)] _) := Lib.hid ((E14.out.push (.slice vva 0 vvk) 24 ⟨_, _, _, rfl⟩ (w9.heap.size) (by simp)))
  obtain ⟨p12, f12, -, -, -⟩ := E15.out.box 2 rfl
  go_wp2_with fail
  refine (eqk ls.out (E15.out.nt 1 rfl)).mono ?_
  rintro e w10 ⟨rfl, hb⟩
  have E16 : Hid (EnvB w [(w9.heap.size, .slice vva 0 vvk), (w7.heap.size, .slice ppa (len p) ppk), (w5.heap.size, .slice ssa (len s) ssk), (gr4_12, .slice mma (len m) mmk), (gr4_11, .slice yya (len y) yyk), (gr4_10, .slice xxa (len x) xxk)] [(.slice ppa (len p) ppk, digs p), (.slice ssa (len s) ssk, digs s), (.slice mma (len m) mmk, digs m), (.slice yya (len y) yyk, digs y), (.slice xxa (len x) xxk, digs x)] _) := Lib.hid ((E15.out.below hb))
  clear p12 f12 E15 E14 hb
  obtain ⟨p13, f13, -, -, -⟩ := E16.out.box 1 rfl
  go_wp2_with fail
  refine (eqk lp.out (E16.out.nt 0 rfl)).mono ?_
  rintro e w11 ⟨rfl, hb⟩
  have E17 : Hid (EnvB w [(w9.heap.size, .slice vva 0 vvk), (w7.heap.size, .slice ppa (len p) ppk), (w5.heap.size, .slice ssa (len s) ssk), (gr4_12, .slice mma (len m) mmk), (gr4_11, .slice yya (len y) yyk), (gr4_10, .slice xxa (len x) xxk)] [(.slice ppa (len p) ppk, digs p), (.slice ssa (len s) ssk, digs s), (.slice mma (len m) mmk, digs m), (.slice yya (len y) yyk, digs y), (.slice xxa (len x) xxk, digs x)] _) := Lib.hid ((E16.out.below hb))
  clear p13 f13 E16 hb
  obtain ⟨p14, f14, -, -, -⟩ := E17.out.box 0 rfl
  go_wp2_with fail
  refine (eqw_no _ _ _).mono ?_
  rintro e w12 ⟨rfl, hb⟩
  have E18 : Hid (EnvB w [(w9.heap.size, .slice vva 0 vvk), (w7.heap.size, .slice ppa (len p) ppk), (w5.heap.size, .slice ssa (len s) ssk), (gr4_12, .slice mma (len m) mmk), (gr4_11, .slice yya (len y) yyk), (gr4_10, .slice xxa (len x) xxk)] [(.slice ppa (len p) ppk, digs p), (.slice ssa (len s) ssk, digs s), (.slice mma (len m) mmk, digs m), (.slice yya (len y) yyk, digs y), (.slice xxa (len x) xxk, digs x)] _) := Lib.hid ((E17.out.below hb))
  clear p14 f14 E17 hb
  have hfin := Lib.hid E18.out.1
  go_wp2
  go_ret
  exact ⟨rfl, hfin.out⟩
theorem NatmodWord_nat (a b m : Nat) (ha : a < 18446744073709551616) (hb : b < 18446744073709551616) (hm : m < 18446744073709551616) (w : World) :
    Calls Try.prog 11 #[.int .u64 (a : Int), .int .u64 (b : Int), .int .u64 (m : Int)] w fun e w' => e = .returned (.bool true) ∧ Below w.heap.size w w' := by
  by_cases h1 : m < 1
  · exact Word_lo a b m w (by omega)
  · by_cases h2 : 2305843009213693952 ≤ m
    · exact Word_hi a b m w (by omega)
    · have lt := fun z : Nat => Nat.mod_lt z (show 0 < m by omega)
      have tm : ∀ z : Nat, Int.tmod (z : Int) (m : Int) = ((z % m : Nat) : Int) := fun z => (Int.ofNat_tmod z m).symm
      have lv : invV (a % m) m < m := @invV_lt _ _ (by omega)
      have hk : len m ≤ 32 := len_le_iff.2 (Nat.lt_of_lt_of_le (show m < 2305843009213693952 by omega) (by decide))
      have w2 := fun z : Nat => @wrap_small z
      have hT : (m : Int) < Top := by unfold Top; omega
      have lx := lt a
      have ly := lt b
      have ls := lt (a % m + b % m)
      have lp := lt (a % m * (b % m))
      cases hg : decide (invG (a % m) m = 1)
      · exact Word_false a b m (a % m) (b % m) _ _ _ w (by omega) hT (by omega) (tm a) (tm b) (w2 _ (by omega)).2 (w2 _ (by omega)).2 (w2 _ (by omega)).2 lx ly (by omega) (by omega) (by omega) hk rfl rfl rfl hg (by omega) (by omega) (by omega)
      · exact Word_true a b m (a % m) (b % m) _ _ _ w (by omega) hT (by omega) (tm a) (tm b) (w2 _ (by omega)).2 (w2 _ (by omega)).2 (w2 _ (by omega)).2 lx ly (by omega) (by omega) (by omega) hk rfl rfl rfl hg (by omega) (by omega) (by omega)
theorem NatmodWord_walk (a b m : Int) (wa : (Lit.int .u64 a).wf = true) (wb : (Lit.int .u64 b).wf = true) (wm : (Lit.int .u64 m).wf = true) (w : World) :
    Calls Try.prog 11 #[.int .u64 a, .int .u64 b, .int .u64 m] w fun e w' => e = .returned (.bool true) ∧ Below w.heap.size w w' := by
  have k : ∀ x : Int, (Lit.int .u64 x).wf = true → 0 ≤ x ∧ x < 18446744073709551616 := by
    intro x h
    simp only [Lit.wf, Bool.and_eq_true, decide_eq_true_eq] at h
    have e1 : IntKind.u64.min = 0 := by decide
    have e2 : IntKind.u64.max = 18446744073709551615 := by decide
    omega
  obtain ⟨a0, a1⟩ := k a wa
  obtain ⟨b0, b1⟩ := k b wb
  obtain ⟨m0, m1⟩ := k m wm
  obtain ⟨a, rfl⟩ := Int.eq_ofNat_of_zero_le a0
  obtain ⟨b, rfl⟩ := Int.eq_ofNat_of_zero_le b0
  obtain ⟨m, rfl⟩ := Int.eq_ofNat_of_zero_le m0
  exact NatmodWord_nat a b m (by omega) (by omega) (by omega) w
end Go.Proofs.Ythphmgdmhlimjaa

/- NaturalWords: the walk of the statement. -/
import Derived.Test.YtgogfjehbaiklaaNatZ
import Derived.Test.YtgogfjehbaiklaaNatReg
namespace Go.Proofs.Ytgogfjehbaiklaa
open Go.RowKit NatMath
set_option linter.unusedVariables false
set_option linter.unusedSimpArgs false

theorem equal_0 {v : Value} {S : Nat} {w : World} (h1 : S < 18446744073709551616) (h : Nt w v S) :
    Calls Try.prog 38 #[.agg #[v], .int .u64 (S : Int), .int .u64 0] w fun e w' => e = .returned (.bool true) ∧ Below w.heap.size w w' :=
  equal_c v S S 0 w (by omega) h1 (by omega) h
theorem intB {v : Value} {N : Nat} {w : World} (hN : N < 9223372036854775808) (h : Nt w v N) :
    Calls Try.prog 26 #[.agg #[v]] w fun e w' => e = .returned (.tuple #[.int .i64 (N : Int), .int .i64 0]) ∧ Below w.heap.size w w' := by
  have := Int_c v N w h (Nat.le_trans (len_le_iff.2 (show N < Bp 2 from by rw [show Bp 2 = 18446744073709551616 from rfl]; omega)) (by omega))
  rw [show iv N = N from if_pos hN, show ic N = 0 from if_pos hN] at this
  exact this


set_option maxRecDepth 100000 in
set_option maxHeartbeats 4000000 in
theorem NaturalWords_lt (x y : Nat) (w : World) (hx : x < 9223372036854775808) (hy : y < 9223372036854775808) (ho : x < y) :
    Calls Try.prog 9 #[.int .i64 (x : Int), .int .i64 (y : Int)] w fun e w' => e = .returned (.bool true) ∧ Below w.heap.size w w' := by
  have q1 : decide ((x : Int) < 0) = false := decide_eq_false (by omega)
  have q2 : decide ((y : Int) < 0) = false := decide_eq_false (by omega)
  have CC : Hid (cmp x y = -1) := Lib.hid (by unfold cmp; rw [if_pos ho])
  have t1 : decide (x < y) = true := decide_eq_true (by omega)
  have t2 : decide (y < x) = false := decide_eq_false (by omega)
  have two : ∀ N, N < 18446744073709551616 → len N ≤ 64 := fun N h => Nat.le_trans (len_le_iff.2 (show N < Bp 2 from by rw [show Bp 2 = 18446744073709551616 from rfl]; exact h)) (by omega)
  have L1 := Lib.hid (two x (by omega))
  have L2 := Lib.hid (two y (by omega))
  have HS := Lib.hid (show BV (x + y) (x + y) 0 from Or.inl ⟨two _ (by omega), rfl, rfl⟩)
  have hxy : x * y ≤ 9223372036854775807 * 9223372036854775807 := Nat.mul_le_mul (by omega) (by omega)
  have HP := Lib.hid (show BV (x * y) (x * y) 0 from Or.inl ⟨Nat.le_trans (len_le_iff.2 (show x * y < Bp 4 from by rw [show Bp 4 = 340282366920938463463374607431768211456 from rfl]; omega)) (by omega), rfl, rfl⟩)
  have M1 := Lib.hid (fun W => Try.bits_Mul64 x y (by omega) (by omega) W)
  have e1 : IntKind.u64.wrap (x : Int) = (x : Int) := IntWalk.u64_in _ (by omega)
  have e2 : IntKind.u64.wrap (y : Int) = (y : Int) := IntWalk.u64_in _ (by omega)
  have e3 : IntKind.u64.wrap ((x : Int) + (y : Int)) = ((x + y : Nat) : Int) := by rw [IntWalk.u64_in _ (by omega)]; omega
  have hs : x + y < 18446744073709551616 := by omega
  have hlo : x * y % 18446744073709551616 < 18446744073709551616 := Nat.mod_lt _ (by omega)
  have hhi : x * y / 18446744073709551616 < 18446744073709551616 := by omega
  have hp := Lib.hid (show x * y = x * y % 18446744073709551616 + x * y / 18446744073709551616 * 18446744073709551616 from (Nat.mod_add_div' _ _).symm)
  have LQ := Lib.hid (two (x / y) (Nat.lt_of_le_of_lt (Nat.div_le_self _ _) (by omega)))
  have f1 : (x : Int).tdiv (y : Int) = ((x / y : Nat) : Int) := by rw [Int.tdiv_eq_ediv_of_nonneg (by omega)]; rfl
  have f2 : (x : Int).tmod (y : Int) = ((x % y : Nat) : Int) := by rw [Int.tmod_eq_emod_of_nonneg (by omega)]; rfl
  have hq1 : x / y < 9223372036854775808 := Nat.lt_of_le_of_lt (Nat.div_le_self _ _) hx
  have hr1 : x % y < 9223372036854775808 := Nat.lt_of_le_of_lt (Nat.mod_le _ _) hx
  have f1' : (x : Int) / (y : Int) = ((x / y : Nat) : Int) := rfl
  have f2' : (x : Int) % (y : Int) = ((x % y : Nat) : Int) := rfl
  have DQ : Hid (x / y = x / y) := Lib.hid rfl
  have DR : Hid (x % y = x % y) := Lib.hid rfl
  have E0 := Lib.hid (EnvN.start w)
  clear two hxy ho
  generalize hss : x + y = s at *
  have SS := Lib.hid hss
  generalize hpp : x * y = p at *
  have PP := Lib.hid hpp
  generalize p % 18446744073709551616 = lo at *
  generalize p / 18446744073709551616 = hi at *
  generalize hqq : x / y = q at *
  have QQ := Lib.hid hqq
  generalize hrr : x % y = r at *
  have RR := Lib.hid hrr
  clear hss hpp hqq hrr DQ DR
  have f3 : IntKind.i64.wrap (q : Int) = (q : Int) := IntWalk.i64_in _ (by omega)
  have f4 : IntKind.u64.wrap (q : Int) = (q : Int) := IntWalk.u64_in _ (by omega)
  have f5 : IntKind.u64.wrap (r : Int) = (r : Int) := IntWalk.u64_in _ (by omega)
  go_enter Try.func9, Try.ntmps9
  go_wp2_with fail
  refine (awake_c _).mono ?_
  rintro e w1 ⟨rfl, hb⟩
  have E1 := Lib.hid ((E0.out.below hb))
  clear hb E0
  go_wp2_with fail
  refine (ofRes x _ (by omega)).mono ?_
  rintro e w2 ⟨⟨ua, uk, rfl, hu⟩, hb⟩
  have E2 := Lib.hid (((E1.out.below hb).numN (hu.out : Nt _ _ x)))
  clear hb hu E1
  go_wp2_with fail
  have EB := Lib.hid ((E2.out.push (.slice ua (len x) uk) 24))
  refine (ofRes y _ (by omega)).mono ?_
  rintro e w3 ⟨⟨va, vk, rfl, hv⟩, hb⟩
  have E3 := Lib.hid (((EB.out.below hb).numN (hv.out : Nt _ _ y)))
  clear hb EB hv E2
  obtain ⟨⟨_, ⟨p0, q0⟩, _⟩, _⟩ := E3.out
  go_wp2_with fail
  have EB := Lib.hid ((E3.out.push (.slice va (len y) vk) 24))
  refine (intB hx (EB.out.nt 1 rfl)).mono ?_
  rintro e w4 ⟨rfl, hb⟩
  have E4 := Lib.hid ((EB.out.below hb))
  clear p0 q0 hb EB E3
  obtain ⟨⟨_, ⟨p0, q0⟩, ⟨p1, q1⟩, _⟩, _⟩ := E4.out
  go_wp2_with fail
  refine (addB (Lib.hid (by rw [SS.out]; exact HS.out)) (E4.out.nt 1 rfl) (E4.out.nt 0 rfl) L1.out L2.out).mono ?_
  rintro e w5 ⟨⟨ia, ik, rfl, hi⟩, hb⟩
  have E5 := Lib.hid (((E4.out.below hb).numN (hi.out : Nt _ _ s)))
  clear p0 q0 p1 q1 hb hi E4
  obtain ⟨⟨_, ⟨p0, q0⟩, ⟨p1, q1⟩, _⟩, _⟩ := E5.out
  go_wp2_with fail
  have EB := Lib.hid ((E5.out.push (.slice ia (len s) ik) 24))
  refine (mulB (Lib.hid (by rw [PP.out]; exact HP.out)) (EB.out.nt 2 rfl) (EB.out.nt 1 rfl) L1.out L2.out).mono ?_
  rintro e w6 ⟨⟨ja, jk, rfl, hj⟩, hb⟩
  have E6 := Lib.hid (((EB.out.below hb).numN (hj.out : Nt _ _ p)))
  clear p0 q0 p1 q1 hb EB hj E5
  obtain ⟨⟨_, ⟨p0, q0⟩, ⟨p1, q1⟩, ⟨p2, q2⟩, _⟩, _⟩ := E6.out
  go_wp2_with fail
  have EB := Lib.hid ((E6.out.push (.slice ja (len p) jk) 24))
  refine (compareB CC (EB.out.nt 3 rfl) (EB.out.nt 2 rfl) L1.out L2.out).mono ?_
  rintro e w7 ⟨rfl, hb⟩
  have E7 := Lib.hid ((EB.out.below hb))
  clear p0 q0 p1 q1 p2 q2 hb EB E6
  obtain ⟨⟨_, ⟨p0, q0⟩, ⟨p1, q1⟩, ⟨p2, q2⟩, ⟨p3, q3⟩, _⟩, _⟩ := E7.out
  go_wp2_with fail
  refine (M1.out _).mono ?_
  rintro e wm ⟨rfl, rfl⟩
  go_wp2_with fail
  refine (equal_0 hs (E7.out.nt 1 rfl)).mono ?_
  rintro e w8 ⟨rfl, hb⟩
  have E8 := Lib.hid ((E7.out.below hb))
  clear p0 q0 p1 q1 p2 q2 p3 q3 hb E7
  obtain ⟨⟨_, ⟨p0, q0⟩, ⟨p1, q1⟩, ⟨p2, q2⟩, ⟨p3, q3⟩, _⟩, _⟩ := E8.out
  go_wp2_with fail
  refine (equal_c _ p lo hi _ hp.out hlo hhi (E8.out.nt 0 rfl)).mono ?_
  rintro e w9 ⟨rfl, hb⟩
  have E9 := Lib.hid ((E8.out.below hb))
  clear p0 q0 p1 q1 p2 q2 p3 q3 hb E8
  obtain ⟨⟨_, ⟨p0, q0⟩, ⟨p1, q1⟩, ⟨p2, q2⟩, ⟨p3, q3⟩, _⟩, _⟩ := E9.out
  by_cases h0 : y = 0
  · have t0 : ((y : Int) == 0) = true := by simp; omega
    clear h0 f1 f2 f1' f2'
    have hfin := Lib.hid E9.out.1.1
    clear p0 q0 p1 q1 p2 q2 p3 q3
    go_wp2
    go_ret
    exact ⟨rfl, hfin.out⟩
  · have t0 : ((y : Int) == 0) = false := by simp; omega
    have LR : Hid (len r ≤ 64) := Lib.hid (by rw [← RR.out]; exact Nat.le_trans (len_mono (Nat.le_of_lt (Nat.mod_lt _ (Nat.pos_of_ne_zero h0)))) L2.out)
    have H0 := Lib.hid h0
    go_wp2_with fail
    refine (divB QQ RR (E9.out.nt 3 rfl) (E9.out.nt 2 rfl) L1.out L2.out H0.out).mono ?_
    rintro e w10 ⟨⟨qa, qk, ra, rk, rfl, hq, hr⟩, hb⟩
    have E10 := Lib.hid ((((E9.out.below hb).numN (hq.out : Nt _ _ q)).numN (hr.out : Nt _ _ r)))
    clear p0 q0 p1 q1 p2 q2 p3 q3 hb hq hr E9
    obtain ⟨⟨_, ⟨p0, q0⟩, ⟨p1, q1⟩, ⟨p2, q2⟩, ⟨p3, q3⟩, _⟩, _⟩ := E10.out
    go_wp2_with fail
    have E11 := Lib.hid (((E10.out.push (.slice qa (len q) qk) 24).pushAt (.slice ra (len r) rk) 24 (w10.heap.size + 1) (by simp)))
    clear p0 q0 p1 q1 p2 q2 p3 q3 E10
    generalize (w10.alloc (.cells #[.slice qa (len q) qk] 24)).alloc (.cells #[.slice ra (len r) rk] 24) = w11 at *
    obtain ⟨⟨_, ⟨p0, q0⟩, ⟨p1, q1⟩, ⟨p2, q2⟩, ⟨p3, q3⟩, ⟨p4, q4⟩, ⟨p5, q5⟩, _⟩, _⟩ := E11.out
    have BB : Hid (Below w11.heap.size w11 w11.drew) := Lib.hid (below_drewN (Below.refl _ _) 1)
    obtain ⟨⟨_, ⟨z0, _⟩, ⟨z1, _⟩, ⟨z2, _⟩, ⟨z3, _⟩, ⟨z4, _⟩, ⟨z5, _⟩, _⟩, _⟩ := E11.out.below BB.out
    refine wp_region_held_drew (S := fun w' => w'.cell? ⟨w10.heap.size + 1, 0, none⟩ = some (.slice ra (len r) rk) ∧ w'.cell? ⟨w10.heap.size, 0, none⟩ = some (.slice qa (len q) qk) ∧ w'.cell? ⟨w6.heap.size, 0, none⟩ = some (.slice ja (len p) jk) ∧ w'.cell? ⟨w5.heap.size, 0, none⟩ = some (.slice ia (len s) ik) ∧ w'.cell? ⟨w3.heap.size, 0, none⟩ = some (.slice va (len y) vk) ∧ w'.cell? ⟨w2.heap.size, 0, none⟩ = some (.slice ua (len x) uk) ∧ Hid (Below w11.heap.size w11 w')) (by kernel_rfl) (by exact ⟨z0, z1, z2, z3, z4, z5, BB⟩) (fun hHeld => ?_)
    refine takeW (i := 0) (some 122) (v := ?_) rfl rfl (by kernel_rfl) (by kernel_rfl) (by kernel_rfl) (fun _ _ _ h => h) (by rfl) (by assumption) ?_ ?_
    rotate_left
    · (intro wS hSw; (try dsimp only at hSw); go_simp; try with_reducible rfl)
    try simp only [Act.put, List.setIfInBounds_toArray, List.set_cons_zero, List.set_cons_succ]
    refine takeW (i := 1) (some 123) (v := ?_) rfl rfl (by kernel_rfl) (by kernel_rfl) (by kernel_rfl) (fun _ _ _ h => h) (by rfl) (by assumption) ?_ ?_
    rotate_left
    · (intro wS hSw; (try dsimp only at hSw); go_simp; try with_reducible rfl)
    try simp only [Act.put, List.setIfInBounds_toArray, List.set_cons_zero, List.set_cons_succ]
    refine takeW (i := 2) (some 124) (v := ?_) rfl rfl (by kernel_rfl) (by kernel_rfl) (by kernel_rfl) (fun _ _ _ h => h) (by rfl) (by assumption) ?_ ?_
    rotate_left
    · (intro wS hSw; (try dsimp only at hSw); go_simp; try with_reducible rfl)
    try simp only [Act.put, List.setIfInBounds_toArray, List.set_cons_zero, List.set_cons_succ]
    refine takeW (i := 3) (some 125) (v := ?_) rfl rfl (by kernel_rfl) (by kernel_rfl) (by kernel_rfl) (fun _ _ _ h => h) (by rfl) (by assumption) ?_ ?_
    rotate_left
    · (intro wS hSw; (try dsimp only at hSw); go_simp; try with_reducible rfl)
    try simp only [Act.put, List.setIfInBounds_toArray, List.set_cons_zero, List.set_cons_succ]
    refine takeW (i := 4) (some 126) (v := ?_) rfl rfl (by kernel_rfl) (by kernel_rfl) (by kernel_rfl) (fun _ _ _ h => h) (by rfl) (by assumption) ?_ ?_
    rotate_left
    · (intro wS hSw; (try dsimp only at hSw); go_simp; try with_reducible rfl)
    try simp only [Act.put, List.setIfInBounds_toArray, List.set_cons_zero, List.set_cons_succ]
    refine takeW (i := 5) (some 127) (v := ?_) rfl rfl (by kernel_rfl) (by kernel_rfl) (by kernel_rfl) (fun _ _ _ h => h) (by rfl) (by assumption) ?_ ?_
    rotate_left
    · (intro wS hSw; (try dsimp only at hSw); go_simp; try with_reducible rfl)
    try simp only [Act.put, List.setIfInBounds_toArray, List.set_cons_zero, List.set_cons_succ]
    refine takeW (i := 6) (some 128) (v := ?_) rfl rfl (by kernel_rfl) (by kernel_rfl) (by kernel_rfl) (fun _ _ _ h => h) (by rfl) (by assumption) ?_ ?_
    rotate_left
    · (intro wS hSw; (try dsimp only at hSw); go_simp; try with_reducible rfl)
    try simp only [Act.put, List.setIfInBounds_toArray, List.set_cons_zero, List.set_cons_succ]
    refine takeW (i := 7) (some 129) (v := ?_) rfl rfl (by kernel_rfl) (by kernel_rfl) (by kernel_rfl) (fun _ _ _ h => h) (by rfl) (by assumption) ?_ ?_
    rotate_left
    · (intro wS hSw; (try dsimp only at hSw); go_simp; try with_reducible rfl)
    try simp only [Act.put, List.setIfInBounds_toArray, List.set_cons_zero, List.set_cons_succ]
    refine wpAnyH_ready (rs := [8]) (by kernel_rfl) (by simp) ?_
    refine AllReadyH.cons rfl (fun KK hKK => ?_) AllReadyH.nil
    go_simp
    refine (equal_0 (by omega) ((E11.out.below BB.out).nt 1 rfl)).mono ?_
    rintro e w12r0 ⟨rfl, hbr⟩
    replace BB := Lib.hid (below_step2 BB.out hbr)
    clear z0 z1 z2 z3 z4 z5
    obtain ⟨⟨_, ⟨z0, _⟩, ⟨z1, _⟩, ⟨z2, _⟩, ⟨z3, _⟩, ⟨z4, _⟩, ⟨z5, _⟩, _⟩, _⟩ := E11.out.below BB.out
    (try dsimp only)
    clear hHeld hbr
    refine hKK.out _ _ ?_ (fun hHeld => ?_)
    · exact ⟨z0, z1, z2, z3, z4, z5, BB⟩
    clear hKK KK
    try simp only [Act.put, List.setIfInBounds_toArray, List.set_cons_zero, List.set_cons_succ]
    refine takeW (i := 9) (some 131) (v := ?_) rfl rfl (by kernel_rfl) (by kernel_rfl) (by kernel_rfl) (fun _ _ _ h => h) (by rfl) (by assumption) ?_ ?_
    rotate_left
    · (intro wS hSw; (try dsimp only at hSw); go_simp; try with_reducible rfl)
    try simp only [Act.put, List.setIfInBounds_toArray, List.set_cons_zero, List.set_cons_succ]
    refine takeW (i := 10) (some 132) (v := ?_) rfl rfl (by kernel_rfl) (by kernel_rfl) (by kernel_rfl) (fun _ _ _ h => h) (by rfl) (by assumption) ?_ ?_
    rotate_left
    · (intro wS hSw; (try dsimp only at hSw); go_simp; try with_reducible rfl)
    try simp only [Act.put, List.setIfInBounds_toArray, List.set_cons_zero, List.set_cons_succ]
    refine takeW (i := 11) (some 133) (v := ?_) rfl rfl (by kernel_rfl) (by kernel_rfl) (by kernel_rfl) (fun _ _ _ h => h) (by rfl) (by assumption) ?_ ?_
    rotate_left
    · (intro wS hSw; (try dsimp only at hSw); go_simp; try with_reducible rfl)
    try simp only [Act.put, List.setIfInBounds_toArray, List.set_cons_zero, List.set_cons_succ]
    refine takeW (i := 12) (some 134) (v := ?_) rfl rfl (by kernel_rfl) (by kernel_rfl) (by kernel_rfl) (fun _ _ _ h => h) (by rfl) (by assumption) ?_ ?_
    rotate_left
    · (intro wS hSw; (try dsimp only at hSw); go_simp; try with_reducible rfl)
    try simp only [Act.put, List.setIfInBounds_toArray, List.set_cons_zero, List.set_cons_succ]
    refine takeW (i := 13) (some 135) (v := ?_) rfl rfl (by kernel_rfl) (by kernel_rfl) (by kernel_rfl) (fun _ _ _ h => h) (by rfl) (by assumption) ?_ ?_
    rotate_left
    · (intro wS hSw; (try dsimp only at hSw); go_simp; try with_reducible rfl)
    try simp only [Act.put, List.setIfInBounds_toArray, List.set_cons_zero, List.set_cons_succ]
    refine takeW (i := 14) (some 136) (v := ?_) rfl rfl (by kernel_rfl) (by kernel_rfl) (by kernel_rfl) (fun _ _ _ h => h) (by rfl) (by assumption) ?_ ?_
    rotate_left
    · (intro wS hSw; (try dsimp only at hSw); go_simp; try with_reducible rfl)
    try simp only [Act.put, List.setIfInBounds_toArray, List.set_cons_zero, List.set_cons_succ]
    refine takeW (i := 15) (some 137) (v := ?_) rfl rfl (by kernel_rfl) (by kernel_rfl) (by kernel_rfl) (fun _ _ _ h => h) (by rfl) (by assumption) ?_ ?_
    rotate_left
    · (intro wS hSw; (try dsimp only at hSw); go_simp; try with_reducible rfl)
    try simp only [Act.put, List.setIfInBounds_toArray, List.set_cons_zero, List.set_cons_succ]
    refine wpAnyH_ready (rs := [16]) (by kernel_rfl) (by simp) ?_
    refine AllReadyH.cons rfl (fun KK hKK => ?_) AllReadyH.nil
    go_simp
    refine (equal_0 (by omega) ((E11.out.below BB.out).nt 0 rfl)).mono ?_
    rintro e w12r1 ⟨rfl, hbr⟩
    replace BB := Lib.hid (below_step2 BB.out hbr)
    clear z0 z1 z2 z3 z4 z5
    obtain ⟨⟨_, ⟨z0, _⟩, ⟨z1, _⟩, ⟨z2, _⟩, ⟨z3, _⟩, ⟨z4, _⟩, ⟨z5, _⟩, _⟩, _⟩ := E11.out.below BB.out
    (try dsimp only)
    clear hHeld hbr
    refine hKK.out _ _ ?_ (fun hHeld => ?_)
    · exact ⟨z0, z1, z2, z3, z4, z5, BB⟩
    clear hKK KK
    try simp only [Act.put, List.setIfInBounds_toArray, List.set_cons_zero, List.set_cons_succ]
    refine takeW (i := 17) (some 139) (v := ?_) rfl rfl (by kernel_rfl) (by kernel_rfl) (by kernel_rfl) (fun _ _ _ h => h) (by rfl) (by assumption) ?_ ?_
    rotate_left
    · (intro wS hSw; (try dsimp only at hSw); go_simp; try with_reducible rfl)
    try simp only [Act.put, List.setIfInBounds_toArray, List.set_cons_zero, List.set_cons_succ]
    refine takeW (i := 18) (some 4) (v := ?_) rfl rfl (by kernel_rfl) (by kernel_rfl) (by kernel_rfl) (fun _ _ _ h => h) (by rfl) (by assumption) ?_ ?_
    rotate_left
    · (intro wS hSw; (try dsimp only at hSw); go_simp; try with_reducible rfl)
    try simp only [Act.put, List.setIfInBounds_toArray, List.set_cons_zero, List.set_cons_succ]
    refine wpAnyH_done (by kernel_rfl) ?_ _
    clear hHeld
    have E12 := Lib.hid ((E11.out.below BB.out))
    clear p0 q0 p1 q1 p2 q2 p3 q3 p4 q4 p5 q5 BB z0 z1 z2 z3 z4 z5 E11
    obtain ⟨⟨_, ⟨p0, q0⟩, ⟨p1, q1⟩, ⟨p2, q2⟩, ⟨p3, q3⟩, ⟨p4, q4⟩, ⟨p5, q5⟩, _⟩, _⟩ := E12.out
    have hfin := Lib.hid E12.out.1.1
    clear p0 q0 p1 q1 p2 q2 p3 q3 p4 q4 p5 q5
    go_wp2
    go_ret
    exact ⟨rfl, hfin.out⟩

set_option maxRecDepth 100000 in
set_option maxHeartbeats 4000000 in
theorem NaturalWords_eq (x y : Nat) (w : World) (hx : x < 9223372036854775808) (hy : y < 9223372036854775808) (ho : x = y) :
    Calls Try.prog 9 #[.int .i64 (x : Int), .int .i64 (y : Int)] w fun e w' => e = .returned (.bool true) ∧ Below w.heap.size w w' := by
  have q1 : decide ((x : Int) < 0) = false := decide_eq_false (by omega)
  have q2 : decide ((y : Int) < 0) = false := decide_eq_false (by omega)
  have CC : Hid (cmp x y = 0) := Lib.hid (by unfold cmp; rw [if_neg (by omega), if_neg (by omega)])
  have t1 : decide (x < y) = false := decide_eq_false (by omega)
  have t2 : decide (y < x) = false := decide_eq_false (by omega)
  have two : ∀ N, N < 18446744073709551616 → len N ≤ 64 := fun N h => Nat.le_trans (len_le_iff.2 (show N < Bp 2 from by rw [show Bp 2 = 18446744073709551616 from rfl]; exact h)) (by omega)
  have L1 := Lib.hid (two x (by omega))
  have L2 := Lib.hid (two y (by omega))
  have HS := Lib.hid (show BV (x + y) (x + y) 0 from Or.inl ⟨two _ (by omega), rfl, rfl⟩)
  have hxy : x * y ≤ 9223372036854775807 * 9223372036854775807 := Nat.mul_le_mul (by omega) (by omega)
  have HP := Lib.hid (show BV (x * y) (x * y) 0 from Or.inl ⟨Nat.le_trans (len_le_iff.2 (show x * y < Bp 4 from by rw [show Bp 4 = 340282366920938463463374607431768211456 from rfl]; omega)) (by omega), rfl, rfl⟩)
  have M1 := Lib.hid (fun W => Try.bits_Mul64 x y (by omega) (by omega) W)
  have e1 : IntKind.u64.wrap (x : Int) = (x : Int) := IntWalk.u64_in _ (by omega)
  have e2 : IntKind.u64.wrap (y : Int) = (y : Int) := IntWalk.u64_in _ (by omega)
  have e3 : IntKind.u64.wrap ((x : Int) + (y : Int)) = ((x + y : Nat) : Int) := by rw [IntWalk.u64_in _ (by omega)]; omega
  have hs : x + y < 18446744073709551616 := by omega
  have hlo : x * y % 18446744073709551616 < 18446744073709551616 := Nat.mod_lt _ (by omega)
  have hhi : x * y / 18446744073709551616 < 18446744073709551616 := by omega
  have hp := Lib.hid (show x * y = x * y % 18446744073709551616 + x * y / 18446744073709551616 * 18446744073709551616 from (Nat.mod_add_div' _ _).symm)
  have LQ := Lib.hid (two (x / y) (Nat.lt_of_le_of_lt (Nat.div_le_self _ _) (by omega)))
  have f1 : (x : Int).tdiv (y : Int) = ((x / y : Nat) : Int) := by rw [Int.tdiv_eq_ediv_of_nonneg (by omega)]; rfl
  have f2 : (x : Int).tmod (y : Int) = ((x % y : Nat) : Int) := by rw [Int.tmod_eq_emod_of_nonneg (by omega)]; rfl
  have hq1 : x / y < 9223372036854775808 := Nat.lt_of_le_of_lt (Nat.div_le_self _ _) hx
  have hr1 : x % y < 9223372036854775808 := Nat.lt_of_le_of_lt (Nat.mod_le _ _) hx
  have f1' : (x : Int) / (y : Int) = ((x / y : Nat) : Int) := rfl
  have f2' : (x : Int) % (y : Int) = ((x % y : Nat) : Int) := rfl
  have DQ : Hid (x / y = x / y) := Lib.hid rfl
  have DR : Hid (x % y = x % y) := Lib.hid rfl
  have E0 := Lib.hid (EnvN.start w)
  clear two hxy ho
  generalize hss : x + y = s at *
  have SS := Lib.hid hss
  generalize hpp : x * y = p at *
  have PP := Lib.hid hpp
  generalize p % 18446744073709551616 = lo at *
  generalize p / 18446744073709551616 = hi at *
  generalize hqq : x / y = q at *
  have QQ := Lib.hid hqq
  generalize hrr : x % y = r at *
  have RR := Lib.hid hrr
  clear hss hpp hqq hrr DQ DR
  have f3 : IntKind.i64.wrap (q : Int) = (q : Int) := IntWalk.i64_in _ (by omega)
  have f4 : IntKind.u64.wrap (q : Int) = (q : Int) := IntWalk.u64_in _ (by omega)
  have f5 : IntKind.u64.wrap (r : Int) = (r : Int) := IntWalk.u64_in _ (by omega)
  go_enter Try.func9, Try.ntmps9
  go_wp2_with fail
  refine (awake_c _).mono ?_
  rintro e w1 ⟨rfl, hb⟩
  have E1 := Lib.hid ((E0.out.below hb))
  clear hb E0
  go_wp2_with fail
  refine (ofRes x _ (by omega)).mono ?_
  rintro e w2 ⟨⟨ua, uk, rfl, hu⟩, hb⟩
  have E2 := Lib.hid (((E1.out.below hb).numN (hu.out : Nt _ _ x)))
  clear hb hu E1
  go_wp2_with fail
  have EB := Lib.hid ((E2.out.push (.slice ua (len x) uk) 24))
  refine (ofRes y _ (by omega)).mono ?_
  rintro e w3 ⟨⟨va, vk, rfl, hv⟩, hb⟩
  have E3 := Lib.hid (((EB.out.below hb).numN (hv.out : Nt _ _ y)))
  clear hb EB hv E2
  obtain ⟨⟨_, ⟨p0, q0⟩, _⟩, _⟩ := E3.out
  go_wp2_with fail
  have EB := Lib.hid ((E3.out.push (.slice va (len y) vk) 24))
  refine (intB hx (EB.out.nt 1 rfl)).mono ?_
  rintro e w4 ⟨rfl, hb⟩
  have E4 := Lib.hid ((EB.out.below hb))
  clear p0 q0 hb EB E3
  obtain ⟨⟨_, ⟨p0, q0⟩, ⟨p1, q1⟩, _⟩, _⟩ := E4.out
  go_wp2_with fail
  refine (addB (Lib.hid (by rw [SS.out]; exact HS.out)) (E4.out.nt 1 rfl) (E4.out.nt 0 rfl) L1.out L2.out).mono ?_
  rintro e w5 ⟨⟨ia, ik, rfl, hi⟩, hb⟩
  have E5 := Lib.hid (((E4.out.below hb).numN (hi.out : Nt _ _ s)))
  clear p0 q0 p1 q1 hb hi E4
  obtain ⟨⟨_, ⟨p0, q0⟩, ⟨p1, q1⟩, _⟩, _⟩ := E5.out
  go_wp2_with fail
  have EB := Lib.hid ((E5.out.push (.slice ia (len s) ik) 24))
  refine (mulB (Lib.hid (by rw [PP.out]; exact HP.out)) (EB.out.nt 2 rfl) (EB.out.nt 1 rfl) L1.out L2.out).mono ?_
  rintro e w6 ⟨⟨ja, jk, rfl, hj⟩, hb⟩
  have E6 := Lib.hid (((EB.out.below hb).numN (hj.out : Nt _ _ p)))
  clear p0 q0 p1 q1 hb EB hj E5
  obtain ⟨⟨_, ⟨p0, q0⟩, ⟨p1, q1⟩, ⟨p2, q2⟩, _⟩, _⟩ := E6.out
  go_wp2_with fail
  have EB := Lib.hid ((E6.out.push (.slice ja (len p) jk) 24))
  refine (compareB CC (EB.out.nt 3 rfl) (EB.out.nt 2 rfl) L1.out L2.out).mono ?_
  rintro e w7 ⟨rfl, hb⟩
  have E7 := Lib.hid ((EB.out.below hb))
  clear p0 q0 p1 q1 p2 q2 hb EB E6
  obtain ⟨⟨_, ⟨p0, q0⟩, ⟨p1, q1⟩, ⟨p2, q2⟩, ⟨p3, q3⟩, _⟩, _⟩ := E7.out
  go_wp2_with fail
  refine (M1.out _).mono ?_
  rintro e wm ⟨rfl, rfl⟩
  go_wp2_with fail
  refine (equal_0 hs (E7.out.nt 1 rfl)).mono ?_
  rintro e w8 ⟨rfl, hb⟩
  have E8 := Lib.hid ((E7.out.below hb))
  clear p0 q0 p1 q1 p2 q2 p3 q3 hb E7
  obtain ⟨⟨_, ⟨p0, q0⟩, ⟨p1, q1⟩, ⟨p2, q2⟩, ⟨p3, q3⟩, _⟩, _⟩ := E8.out
  go_wp2_with fail
  refine (equal_c _ p lo hi _ hp.out hlo hhi (E8.out.nt 0 rfl)).mono ?_
  rintro e w9 ⟨rfl, hb⟩
  have E9 := Lib.hid ((E8.out.below hb))
  clear p0 q0 p1 q1 p2 q2 p3 q3 hb E8
  obtain ⟨⟨_, ⟨p0, q0⟩, ⟨p1, q1⟩, ⟨p2, q2⟩, ⟨p3, q3⟩, _⟩, _⟩ := E9.out
  by_cases h0 : y = 0
  · have t0 : ((y : Int) == 0) = true := by simp; omega
    clear h0 f1 f2 f1' f2'
    have hfin := Lib.hid E9.out.1.1
    clear p0 q0 p1 q1 p2 q2 p3 q3
    go_wp2
    go_ret
    exact ⟨rfl, hfin.out⟩
  · have t0 : ((y : Int) == 0) = false := by simp; omega
    have LR : Hid (len r ≤ 64) := Lib.hid (by rw [← RR.out]; exact Nat.le_trans (len_mono (Nat.le_of_lt (Nat.mod_lt _ (Nat.pos_of_ne_zero h0)))) L2.out)
    have H0 := Lib.hid h0
    go_wp2_with fail
    refine (divB QQ RR (E9.out.nt 3 rfl) (E9.out.nt 2 rfl) L1.out L2.out H0.out).mono ?_
    rintro e w10 ⟨⟨qa, qk, ra, rk, rfl, hq, hr⟩, hb⟩
    have E10 := Lib.hid ((((E9.out.below hb).numN (hq.out : Nt _ _ q)).numN (hr.out : Nt _ _ r)))
    clear p0 q0 p1 q1 p2 q2 p3 q3 hb hq hr E9
    obtain ⟨⟨_, ⟨p0, q0⟩, ⟨p1, q1⟩, ⟨p2, q2⟩, ⟨p3, q3⟩, _⟩, _⟩ := E10.out
    go_wp2_with fail
    have E11 := Lib.hid (((E10.out.push (.slice qa (len q) qk) 24).pushAt (.slice ra (len r) rk) 24 (w10.heap.size + 1) (by simp)))
    clear p0 q0 p1 q1 p2 q2 p3 q3 E10
    generalize (w10.alloc (.cells #[.slice qa (len q) qk] 24)).alloc (.cells #[.slice ra (len r) rk] 24) = w11 at *
    obtain ⟨⟨_, ⟨p0, q0⟩, ⟨p1, q1⟩, ⟨p2, q2⟩, ⟨p3, q3⟩, ⟨p4, q4⟩, ⟨p5, q5⟩, _⟩, _⟩ := E11.out
    have BB : Hid (Below w11.heap.size w11 w11.drew) := Lib.hid (below_drewN (Below.refl _ _) 1)
    obtain ⟨⟨_, ⟨z0, _⟩, ⟨z1, _⟩, ⟨z2, _⟩, ⟨z3, _⟩, ⟨z4, _⟩, ⟨z5, _⟩, _⟩, _⟩ := E11.out.below BB.out
    refine wp_region_held_drew (S := fun w' => w'.cell? ⟨w10.heap.size + 1, 0, none⟩ = some (.slice ra (len r) rk) ∧ w'.cell? ⟨w10.heap.size, 0, none⟩ = some (.slice qa (len q) qk) ∧ w'.cell? ⟨w6.heap.size, 0, none⟩ = some (.slice ja (len p) jk) ∧ w'.cell? ⟨w5.heap.size, 0, none⟩ = some (.slice ia (len s) ik) ∧ w'.cell? ⟨w3.heap.size, 0, none⟩ = some (.slice va (len y) vk) ∧ w'.cell? ⟨w2.heap.size, 0, none⟩ = some (.slice ua (len x) uk) ∧ Hid (Below w11.heap.size w11 w')) (by kernel_rfl) (by exact ⟨z0, z1, z2, z3, z4, z5, BB⟩) (fun hHeld => ?_)
    refine takeW (i := 0) (some 122) (v := ?_) rfl rfl (by kernel_rfl) (by kernel_rfl) (by kernel_rfl) (fun _ _ _ h => h) (by rfl) (by assumption) ?_ ?_
    rotate_left
    · (intro wS hSw; (try dsimp only at hSw); go_simp; try with_reducible rfl)
    try simp only [Act.put, List.setIfInBounds_toArray, List.set_cons_zero, List.set_cons_succ]
    refine takeW (i := 1) (some 123) (v := ?_) rfl rfl (by kernel_rfl) (by kernel_rfl) (by kernel_rfl) (fun _ _ _ h => h) (by rfl) (by assumption) ?_ ?_
    rotate_left
    · (intro wS hSw; (try dsimp only at hSw); go_simp; try with_reducible rfl)
    try simp only [Act.put, List.setIfInBounds_toArray, List.set_cons_zero, List.set_cons_succ]
    refine takeW (i := 2) (some 124) (v := ?_) rfl rfl (by kernel_rfl) (by kernel_rfl) (by kernel_rfl) (fun _ _ _ h => h) (by rfl) (by assumption) ?_ ?_
    rotate_left
    · (intro wS hSw; (try dsimp only at hSw); go_simp; try with_reducible rfl)
    try simp only [Act.put, List.setIfInBounds_toArray, List.set_cons_zero, List.set_cons_succ]
    refine takeW (i := 3) (some 125) (v := ?_) rfl rfl (by kernel_rfl) (by kernel_rfl) (by kernel_rfl) (fun _ _ _ h => h) (by rfl) (by assumption) ?_ ?_
    rotate_left
    · (intro wS hSw; (try dsimp only at hSw); go_simp; try with_reducible rfl)
    try simp only [Act.put, List.setIfInBounds_toArray, List.set_cons_zero, List.set_cons_succ]
    refine takeW (i := 4) (some 126) (v := ?_) rfl rfl (by kernel_rfl) (by kernel_rfl) (by kernel_rfl) (fun _ _ _ h => h) (by rfl) (by assumption) ?_ ?_
    rotate_left
    · (intro wS hSw; (try dsimp only at hSw); go_simp; try with_reducible rfl)
    try simp only [Act.put, List.setIfInBounds_toArray, List.set_cons_zero, List.set_cons_succ]
    refine takeW (i := 5) (some 127) (v := ?_) rfl rfl (by kernel_rfl) (by kernel_rfl) (by kernel_rfl) (fun _ _ _ h => h) (by rfl) (by assumption) ?_ ?_
    rotate_left
    · (intro wS hSw; (try dsimp only at hSw); go_simp; try with_reducible rfl)
    try simp only [Act.put, List.setIfInBounds_toArray, List.set_cons_zero, List.set_cons_succ]
    refine takeW (i := 6) (some 128) (v := ?_) rfl rfl (by kernel_rfl) (by kernel_rfl) (by kernel_rfl) (fun _ _ _ h => h) (by rfl) (by assumption) ?_ ?_
    rotate_left
    · (intro wS hSw; (try dsimp only at hSw); go_simp; try with_reducible rfl)
    try simp only [Act.put, List.setIfInBounds_toArray, List.set_cons_zero, List.set_cons_succ]
    refine takeW (i := 7) (some 129) (v := ?_) rfl rfl (by kernel_rfl) (by kernel_rfl) (by kernel_rfl) (fun _ _ _ h => h) (by rfl) (by assumption) ?_ ?_
    rotate_left
    · (intro wS hSw; (try dsimp only at hSw); go_simp; try with_reducible rfl)
    try simp only [Act.put, List.setIfInBounds_toArray, List.set_cons_zero, List.set_cons_succ]
    refine wpAnyH_ready (rs := [8]) (by kernel_rfl) (by simp) ?_
    refine AllReadyH.cons rfl (fun KK hKK => ?_) AllReadyH.nil
    go_simp
    refine (equal_0 (by omega) ((E11.out.below BB.out).nt 1 rfl)).mono ?_
    rintro e w12r0 ⟨rfl, hbr⟩
    replace BB := Lib.hid (below_step2 BB.out hbr)
    clear z0 z1 z2 z3 z4 z5
    obtain ⟨⟨_, ⟨z0, _⟩, ⟨z1, _⟩, ⟨z2, _⟩, ⟨z3, _⟩, ⟨z4, _⟩, ⟨z5, _⟩, _⟩, _⟩ := E11.out.below BB.out
    (try dsimp only)
    clear hHeld hbr
    refine hKK.out _ _ ?_ (fun hHeld => ?_)
    · exact ⟨z0, z1, z2, z3, z4, z5, BB⟩
    clear hKK KK
    try simp only [Act.put, List.setIfInBounds_toArray, List.set_cons_zero, List.set_cons_succ]
    refine takeW (i := 9) (some 131) (v := ?_) rfl rfl (by kernel_rfl) (by kernel_rfl) (by kernel_rfl) (fun _ _ _ h => h) (by rfl) (by assumption) ?_ ?_
    rotate_left
    · (intro wS hSw; (try dsimp only at hSw); go_simp; try with_reducible rfl)
    try simp only [Act.put, List.setIfInBounds_toArray, List.set_cons_zero, List.set_cons_succ]
    refine takeW (i := 10) (some 132) (v := ?_) rfl rfl (by kernel_rfl) (by kernel_rfl) (by kernel_rfl) (fun _ _ _ h => h) (by rfl) (by assumption) ?_ ?_
    rotate_left
    · (intro wS hSw; (try dsimp only at hSw); go_simp; try with_reducible rfl)
    try simp only [Act.put, List.setIfInBounds_toArray, List.set_cons_zero, List.set_cons_succ]
    refine takeW (i := 11) (some 133) (v := ?_) rfl rfl (by kernel_rfl) (by kernel_rfl) (by kernel_rfl) (fun _ _ _ h => h) (by rfl) (by assumption) ?_ ?_
    rotate_left
    · (intro wS hSw; (try dsimp only at hSw); go_simp; try with_reducible rfl)
    try simp only [Act.put, List.setIfInBounds_toArray, List.set_cons_zero, List.set_cons_succ]
    refine takeW (i := 12) (some 134) (v := ?_) rfl rfl (by kernel_rfl) (by kernel_rfl) (by kernel_rfl) (fun _ _ _ h => h) (by rfl) (by assumption) ?_ ?_
    rotate_left
    · (intro wS hSw; (try dsimp only at hSw); go_simp; try with_reducible rfl)
    try simp only [Act.put, List.setIfInBounds_toArray, List.set_cons_zero, List.set_cons_succ]
    refine takeW (i := 13) (some 135) (v := ?_) rfl rfl (by kernel_rfl) (by kernel_rfl) (by kernel_rfl) (fun _ _ _ h => h) (by rfl) (by assumption) ?_ ?_
    rotate_left
    · (intro wS hSw; (try dsimp only at hSw); go_simp; try with_reducible rfl)
    try simp only [Act.put, List.setIfInBounds_toArray, List.set_cons_zero, List.set_cons_succ]
    refine takeW (i := 14) (some 136) (v := ?_) rfl rfl (by kernel_rfl) (by kernel_rfl) (by kernel_rfl) (fun _ _ _ h => h) (by rfl) (by assumption) ?_ ?_
    rotate_left
    · (intro wS hSw; (try dsimp only at hSw); go_simp; try with_reducible rfl)
    try simp only [Act.put, List.setIfInBounds_toArray, List.set_cons_zero, List.set_cons_succ]
    refine takeW (i := 15) (some 137) (v := ?_) rfl rfl (by kernel_rfl) (by kernel_rfl) (by kernel_rfl) (fun _ _ _ h => h) (by rfl) (by assumption) ?_ ?_
    rotate_left
    · (intro wS hSw; (try dsimp only at hSw); go_simp; try with_reducible rfl)
    try simp only [Act.put, List.setIfInBounds_toArray, List.set_cons_zero, List.set_cons_succ]
    refine wpAnyH_ready (rs := [16]) (by kernel_rfl) (by simp) ?_
    refine AllReadyH.cons rfl (fun KK hKK => ?_) AllReadyH.nil
    go_simp
    refine (equal_0 (by omega) ((E11.out.below BB.out).nt 0 rfl)).mono ?_
    rintro e w12r1 ⟨rfl, hbr⟩
    replace BB := Lib.hid (below_step2 BB.out hbr)
    clear z0 z1 z2 z3 z4 z5
    obtain ⟨⟨_, ⟨z0, _⟩, ⟨z1, _⟩, ⟨z2, _⟩, ⟨z3, _⟩, ⟨z4, _⟩, ⟨z5, _⟩, _⟩, _⟩ := E11.out.below BB.out
    (try dsimp only)
    clear hHeld hbr
    refine hKK.out _ _ ?_ (fun hHeld => ?_)
    · exact ⟨z0, z1, z2, z3, z4, z5, BB⟩
    clear hKK KK
    try simp only [Act.put, List.setIfInBounds_toArray, List.set_cons_zero, List.set_cons_succ]
    refine takeW (i := 17) (some 139) (v := ?_) rfl rfl (by kernel_rfl) (by kernel_rfl) (by kernel_rfl) (fun _ _ _ h => h) (by rfl) (by assumption) ?_ ?_
    rotate_left
    · (intro wS hSw; (try dsimp only at hSw); go_simp; try with_reducible rfl)
    try simp only [Act.put, List.setIfInBounds_toArray, List.set_cons_zero, List.set_cons_succ]
    refine takeW (i := 18) (some 4) (v := ?_) rfl rfl (by kernel_rfl) (by kernel_rfl) (by kernel_rfl) (fun _ _ _ h => h) (by rfl) (by assumption) ?_ ?_
    rotate_left
    · (intro wS hSw; (try dsimp only at hSw); go_simp; try with_reducible rfl)
    try simp only [Act.put, List.setIfInBounds_toArray, List.set_cons_zero, List.set_cons_succ]
    refine wpAnyH_done (by kernel_rfl) ?_ _
    clear hHeld
    have E12 := Lib.hid ((E11.out.below BB.out))
    clear p0 q0 p1 q1 p2 q2 p3 q3 p4 q4 p5 q5 BB z0 z1 z2 z3 z4 z5 E11
    obtain ⟨⟨_, ⟨p0, q0⟩, ⟨p1, q1⟩, ⟨p2, q2⟩, ⟨p3, q3⟩, ⟨p4, q4⟩, ⟨p5, q5⟩, _⟩, _⟩ := E12.out
    have hfin := Lib.hid E12.out.1.1
    clear p0 q0 p1 q1 p2 q2 p3 q3 p4 q4 p5 q5
    go_wp2
    go_ret
    exact ⟨rfl, hfin.out⟩

set_option maxRecDepth 100000 in
set_option maxHeartbeats 4000000 in
theorem NaturalWords_gt (x y : Nat) (w : World) (hx : x < 9223372036854775808) (hy : y < 9223372036854775808) (ho : y < x) :
    Calls Try.prog 9 #[.int .i64 (x : Int), .int .i64 (y : Int)] w fun e w' => e = .returned (.bool true) ∧ Below w.heap.size w w' := by
  have q1 : decide ((x : Int) < 0) = false := decide_eq_false (by omega)
  have q2 : decide ((y : Int) < 0) = false := decide_eq_false (by omega)
  have CC : Hid (cmp x y = 1) := Lib.hid (by unfold cmp; rw [if_neg (by omega), if_pos ho])
  have t1 : decide (x < y) = false := decide_eq_false (by omega)
  have t2 : decide (y < x) = true := decide_eq_true (by omega)
  have two : ∀ N, N < 18446744073709551616 → len N ≤ 64 := fun N h => Nat.le_trans (len_le_iff.2 (show N < Bp 2 from by rw [show Bp 2 = 18446744073709551616 from rfl]; exact h)) (by omega)
  have L1 := Lib.hid (two x (by omega))
  have L2 := Lib.hid (two y (by omega))
  have HS := Lib.hid (show BV (x + y) (x + y) 0 from Or.inl ⟨two _ (by omega), rfl, rfl⟩)
  have hxy : x * y ≤ 9223372036854775807 * 9223372036854775807 := Nat.mul_le_mul (by omega) (by omega)
  have HP := Lib.hid (show BV (x * y) (x * y) 0 from Or.inl ⟨Nat.le_trans (len_le_iff.2 (show x * y < Bp 4 from by rw [show Bp 4 = 340282366920938463463374607431768211456 from rfl]; omega)) (by omega), rfl, rfl⟩)
  have M1 := Lib.hid (fun W => Try.bits_Mul64 x y (by omega) (by omega) W)
  have e1 : IntKind.u64.wrap (x : Int) = (x : Int) := IntWalk.u64_in _ (by omega)
  have e2 : IntKind.u64.wrap (y : Int) = (y : Int) := IntWalk.u64_in _ (by omega)
  have e3 : IntKind.u64.wrap ((x : Int) + (y : Int)) = ((x + y : Nat) : Int) := by rw [IntWalk.u64_in _ (by omega)]; omega
  have hs : x + y < 18446744073709551616 := by omega
  have hlo : x * y % 18446744073709551616 < 18446744073709551616 := Nat.mod_lt _ (by omega)
  have hhi : x * y / 18446744073709551616 < 18446744073709551616 := by omega
  have hp := Lib.hid (show x * y = x * y % 18446744073709551616 + x * y / 18446744073709551616 * 18446744073709551616 from (Nat.mod_add_div' _ _).symm)
  have LQ := Lib.hid (two (x / y) (Nat.lt_of_le_of_lt (Nat.div_le_self _ _) (by omega)))
  have f1 : (x : Int).tdiv (y : Int) = ((x / y : Nat) : Int) := by rw [Int.tdiv_eq_ediv_of_nonneg (by omega)]; rfl
  have f2 : (x : Int).tmod (y : Int) = ((x % y : Nat) : Int) := by rw [Int.tmod_eq_emod_of_nonneg (by omega)]; rfl
  have hq1 : x / y < 9223372036854775808 := Nat.lt_of_le_of_lt (Nat.div_le_self _ _) hx
  have hr1 : x % y < 9223372036854775808 := Nat.lt_of_le_of_lt (Nat.mod_le _ _) hx
  have f1' : (x : Int) / (y : Int) = ((x / y : Nat) : Int) := rfl
  have f2' : (x : Int) % (y : Int) = ((x % y : Nat) : Int) := rfl
  have DQ : Hid (x / y = x / y) := Lib.hid rfl
  have DR : Hid (x % y = x % y) := Lib.hid rfl
  have E0 := Lib.hid (EnvN.start w)
  clear two hxy ho
  generalize hss : x + y = s at *
  have SS := Lib.hid hss
  generalize hpp : x * y = p at *
  have PP := Lib.hid hpp
  generalize p % 18446744073709551616 = lo at *
  generalize p / 18446744073709551616 = hi at *
  generalize hqq : x / y = q at *
  have QQ := Lib.hid hqq
  generalize hrr : x % y = r at *
  have RR := Lib.hid hrr
  clear hss hpp hqq hrr DQ DR
  have f3 : IntKind.i64.wrap (q : Int) = (q : Int) := IntWalk.i64_in _ (by omega)
  have f4 : IntKind.u64.wrap (q : Int) = (q : Int) := IntWalk.u64_in _ (by omega)
  have f5 : IntKind.u64.wrap (r : Int) = (r : Int) := IntWalk.u64_in _ (by omega)
  go_enter Try.func9, Try.ntmps9
  go_wp2_with fail
  refine (awake_c _).mono ?_
  rintro e w1 ⟨rfl, hb⟩
  have E1 := Lib.hid ((E0.out.below hb))
  clear hb E0
  go_wp2_with fail
  refine (ofRes x _ (by omega)).mono ?_
  rintro e w2 ⟨⟨ua, uk, rfl, hu⟩, hb⟩
  have E2 := Lib.hid (((E1.out.below hb).numN (hu.out : Nt _ _ x)))
  clear hb hu E1
  go_wp2_with fail
  have EB := Lib.hid ((E2.out.push (.slice ua (len x) uk) 24))
  refine (ofRes y _ (by omega)).mono ?_
  rintro e w3 ⟨⟨va, vk, rfl, hv⟩, hb⟩
  have E3 := Lib.hid (((EB.out.below hb).numN (hv.out : Nt _ _ y)))
  clear hb EB hv E2
  obtain ⟨⟨_, ⟨p0, q0⟩, _⟩, _⟩ := E3.out
  go_wp2_with fail
  have EB := Lib.hid ((E3.out.push (.slice va (len y) vk) 24))
  refine (intB hx (EB.out.nt 1 rfl)).mono ?_
  rintro e w4 ⟨rfl, hb⟩
  have E4 := Lib.hid ((EB.out.below hb))
  clear p0 q0 hb EB E3
  obtain ⟨⟨_, ⟨p0, q0⟩, ⟨p1, q1⟩, _⟩, _⟩ := E4.out
  go_wp2_with fail
  refine (addB (Lib.hid (by rw [SS.out]; exact HS.out)) (E4.out.nt 1 rfl) (E4.out.nt 0 rfl) L1.out L2.out).mono ?_
  rintro e w5 ⟨⟨ia, ik, rfl, hi⟩, hb⟩
  have E5 := Lib.hid (((E4.out.below hb).numN (hi.out : Nt _ _ s)))
  clear p0 q0 p1 q1 hb hi E4
  obtain ⟨⟨_, ⟨p0, q0⟩, ⟨p1, q1⟩, _⟩, _⟩ := E5.out
  go_wp2_with fail
  have EB := Lib.hid ((E5.out.push (.slice ia (len s) ik) 24))
  refine (mulB (Lib.hid (by rw [PP.out]; exact HP.out)) (EB.out.nt 2 rfl) (EB.out.nt 1 rfl) L1.out L2.out).mono ?_
  rintro e w6 ⟨⟨ja, jk, rfl, hj⟩, hb⟩
  have E6 := Lib.hid (((EB.out.below hb).numN (hj.out : Nt _ _ p)))
  clear p0 q0 p1 q1 hb EB hj E5
  obtain ⟨⟨_, ⟨p0, q0⟩, ⟨p1, q1⟩, ⟨p2, q2⟩, _⟩, _⟩ := E6.out
  go_wp2_with fail
  have EB := Lib.hid ((E6.out.push (.slice ja (len p) jk) 24))
  refine (compareB CC (EB.out.nt 3 rfl) (EB.out.nt 2 rfl) L1.out L2.out).mono ?_
  rintro e w7 ⟨rfl, hb⟩
  have E7 := Lib.hid ((EB.out.below hb))
  clear p0 q0 p1 q1 p2 q2 hb EB E6
  obtain ⟨⟨_, ⟨p0, q0⟩, ⟨p1, q1⟩, ⟨p2, q2⟩, ⟨p3, q3⟩, _⟩, _⟩ := E7.out
  go_wp2_with fail
  refine (M1.out _).mono ?_
  rintro e wm ⟨rfl, rfl⟩
  go_wp2_with fail
  refine (equal_0 hs (E7.out.nt 1 rfl)).mono ?_
  rintro e w8 ⟨rfl, hb⟩
  have E8 := Lib.hid ((E7.out.below hb))
  clear p0 q0 p1 q1 p2 q2 p3 q3 hb E7
  obtain ⟨⟨_, ⟨p0, q0⟩, ⟨p1, q1⟩, ⟨p2, q2⟩, ⟨p3, q3⟩, _⟩, _⟩ := E8.out
  go_wp2_with fail
  refine (equal_c _ p lo hi _ hp.out hlo hhi (E8.out.nt 0 rfl)).mono ?_
  rintro e w9 ⟨rfl, hb⟩
  have E9 := Lib.hid ((E8.out.below hb))
  clear p0 q0 p1 q1 p2 q2 p3 q3 hb E8
  obtain ⟨⟨_, ⟨p0, q0⟩, ⟨p1, q1⟩, ⟨p2, q2⟩, ⟨p3, q3⟩, _⟩, _⟩ := E9.out
  by_cases h0 : y = 0
  · have t0 : ((y : Int) == 0) = true := by simp; omega
    clear h0 f1 f2 f1' f2'
    have hfin := Lib.hid E9.out.1.1
    clear p0 q0 p1 q1 p2 q2 p3 q3
    go_wp2
    go_ret
    exact ⟨rfl, hfin.out⟩
  · have t0 : ((y : Int) == 0) = false := by simp; omega
    have LR : Hid (len r ≤ 64) := Lib.hid (by rw [← RR.out]; exact Nat.le_trans (len_mono (Nat.le_of_lt (Nat.mod_lt _ (Nat.pos_of_ne_zero h0)))) L2.out)
    have H0 := Lib.hid h0
    go_wp2_with fail
    refine (divB QQ RR (E9.out.nt 3 rfl) (E9.out.nt 2 rfl) L1.out L2.out H0.out).mono ?_
    rintro e w10 ⟨⟨qa, qk, ra, rk, rfl, hq, hr⟩, hb⟩
    have E10 := Lib.hid ((((E9.out.below hb).numN (hq.out : Nt _ _ q)).numN (hr.out : Nt _ _ r)))
    clear p0 q0 p1 q1 p2 q2 p3 q3 hb hq hr E9
    obtain ⟨⟨_, ⟨p0, q0⟩, ⟨p1, q1⟩, ⟨p2, q2⟩, ⟨p3, q3⟩, _⟩, _⟩ := E10.out
    go_wp2_with fail
    have E11 := Lib.hid (((E10.out.push (.slice qa (len q) qk) 24).pushAt (.slice ra (len r) rk) 24 (w10.heap.size + 1) (by simp)))
    clear p0 q0 p1 q1 p2 q2 p3 q3 E10
    generalize (w10.alloc (.cells #[.slice qa (len q) qk] 24)).alloc (.cells #[.slice ra (len r) rk] 24) = w11 at *
    obtain ⟨⟨_, ⟨p0, q0⟩, ⟨p1, q1⟩, ⟨p2, q2⟩, ⟨p3, q3⟩, ⟨p4, q4⟩, ⟨p5, q5⟩, _⟩, _⟩ := E11.out
    have BB : Hid (Below w11.heap.size w11 w11.drew) := Lib.hid (below_drewN (Below.refl _ _) 1)
    obtain ⟨⟨_, ⟨z0, _⟩, ⟨z1, _⟩, ⟨z2, _⟩, ⟨z3, _⟩, ⟨z4, _⟩, ⟨z5, _⟩, _⟩, _⟩ := E11.out.below BB.out
    refine wp_region_held_drew (S := fun w' => w'.cell? ⟨w10.heap.size + 1, 0, none⟩ = some (.slice ra (len r) rk) ∧ w'.cell? ⟨w10.heap.size, 0, none⟩ = some (.slice qa (len q) qk) ∧ w'.cell? ⟨w6.heap.size, 0, none⟩ = some (.slice ja (len p) jk) ∧ w'.cell? ⟨w5.heap.size, 0, none⟩ = some (.slice ia (len s) ik) ∧ w'.cell? ⟨w3.heap.size, 0, none⟩ = some (.slice va (len y) vk) ∧ w'.cell? ⟨w2.heap.size, 0, none⟩ = some (.slice ua (len x) uk) ∧ Hid (Below w11.heap.size w11 w')) (by kernel_rfl) (by exact ⟨z0, z1, z2, z3, z4, z5, BB⟩) (fun hHeld => ?_)
    refine takeW (i := 0) (some 122) (v := ?_) rfl rfl (by kernel_rfl) (by kernel_rfl) (by kernel_rfl) (fun _ _ _ h => h) (by rfl) (by assumption) ?_ ?_
    rotate_left
    · (intro wS hSw; (try dsimp only at hSw); go_simp; try with_reducible rfl)
    try simp only [Act.put, List.setIfInBounds_toArray, List.set_cons_zero, List.set_cons_succ]
    refine takeW (i := 1) (some 123) (v := ?_) rfl rfl (by kernel_rfl) (by kernel_rfl) (by kernel_rfl) (fun _ _ _ h => h) (by rfl) (by assumption) ?_ ?_
    rotate_left
    · (intro wS hSw; (try dsimp only at hSw); go_simp; try with_reducible rfl)
    try simp only [Act.put, List.setIfInBounds_toArray, List.set_cons_zero, List.set_cons_succ]
    refine takeW (i := 2) (some 124) (v := ?_) rfl rfl (by kernel_rfl) (by kernel_rfl) (by kernel_rfl) (fun _ _ _ h => h) (by rfl) (by assumption) ?_ ?_
    rotate_left
    · (intro wS hSw; (try dsimp only at hSw); go_simp; try with_reducible rfl)
    try simp only [Act.put, List.setIfInBounds_toArray, List.set_cons_zero, List.set_cons_succ]
    refine takeW (i := 3) (some 125) (v := ?_) rfl rfl (by kernel_rfl) (by kernel_rfl) (by kernel_rfl) (fun _ _ _ h => h) (by rfl) (by assumption) ?_ ?_
    rotate_left
    · (intro wS hSw; (try dsimp only at hSw); go_simp; try with_reducible rfl)
    try simp only [Act.put, List.setIfInBounds_toArray, List.set_cons_zero, List.set_cons_succ]
    refine takeW (i := 4) (some 126) (v := ?_) rfl rfl (by kernel_rfl) (by kernel_rfl) (by kernel_rfl) (fun _ _ _ h => h) (by rfl) (by assumption) ?_ ?_
    rotate_left
    · (intro wS hSw; (try dsimp only at hSw); go_simp; try with_reducible rfl)
    try simp only [Act.put, List.setIfInBounds_toArray, List.set_cons_zero, List.set_cons_succ]
    refine takeW (i := 5) (some 127) (v := ?_) rfl rfl (by kernel_rfl) (by kernel_rfl) (by kernel_rfl) (fun _ _ _ h => h) (by rfl) (by assumption) ?_ ?_
    rotate_left
    · (intro wS hSw; (try dsimp only at hSw); go_simp; try with_reducible rfl)
    try simp only [Act.put, List.setIfInBounds_toArray, List.set_cons_zero, List.set_cons_succ]
    refine takeW (i := 6) (some 128) (v := ?_) rfl rfl (by kernel_rfl) (by kernel_rfl) (by kernel_rfl) (fun _ _ _ h => h) (by rfl) (by assumption) ?_ ?_
    rotate_left
    · (intro wS hSw; (try dsimp only at hSw); go_simp; try with_reducible rfl)
    try simp only [Act.put, List.setIfInBounds_toArray, List.set_cons_zero, List.set_cons_succ]
    refine takeW (i := 7) (some 129) (v := ?_) rfl rfl (by kernel_rfl) (by kernel_rfl) (by kernel_rfl) (fun _ _ _ h => h) (by rfl) (by assumption) ?_ ?_
    rotate_left
    · (intro wS hSw; (try dsimp only at hSw); go_simp; try with_reducible rfl)
    try simp only [Act.put, List.setIfInBounds_toArray, List.set_cons_zero, List.set_cons_succ]
    refine wpAnyH_ready (rs := [8]) (by kernel_rfl) (by simp) ?_
    refine AllReadyH.cons rfl (fun KK hKK => ?_) AllReadyH.nil
    go_simp
    refine (equal_0 (by omega) ((E11.out.below BB.out).nt 1 rfl)).mono ?_
    rintro e w12r0 ⟨rfl, hbr⟩
    replace BB := Lib.hid (below_step2 BB.out hbr)
    clear z0 z1 z2 z3 z4 z5
    obtain ⟨⟨_, ⟨z0, _⟩, ⟨z1, _⟩, ⟨z2, _⟩, ⟨z3, _⟩, ⟨z4, _⟩, ⟨z5, _⟩, _⟩, _⟩ := E11.out.below BB.out
    (try dsimp only)
    clear hHeld hbr
    refine hKK.out _ _ ?_ (fun hHeld => ?_)
    · exact ⟨z0, z1, z2, z3, z4, z5, BB⟩
    clear hKK KK
    try simp only [Act.put, List.setIfInBounds_toArray, List.set_cons_zero, List.set_cons_succ]
    refine takeW (i := 9) (some 131) (v := ?_) rfl rfl (by kernel_rfl) (by kernel_rfl) (by kernel_rfl) (fun _ _ _ h => h) (by rfl) (by assumption) ?_ ?_
    rotate_left
    · (intro wS hSw; (try dsimp only at hSw); go_simp; try with_reducible rfl)
    try simp only [Act.put, List.setIfInBounds_toArray, List.set_cons_zero, List.set_cons_succ]
    refine takeW (i := 10) (some 132) (v := ?_) rfl rfl (by kernel_rfl) (by kernel_rfl) (by kernel_rfl) (fun _ _ _ h => h) (by rfl) (by assumption) ?_ ?_
    rotate_left
    · (intro wS hSw; (try dsimp only at hSw); go_simp; try with_reducible rfl)
    try simp only [Act.put, List.setIfInBounds_toArray, List.set_cons_zero, List.set_cons_succ]
    refine takeW (i := 11) (some 133) (v := ?_) rfl rfl (by kernel_rfl) (by kernel_rfl) (by kernel_rfl) (fun _ _ _ h => h) (by rfl) (by assumption) ?_ ?_
    rotate_left
    · (intro wS hSw; (try dsimp only at hSw); go_simp; try with_reducible rfl)
    try simp only [Act.put, List.setIfInBounds_toArray, List.set_cons_zero, List.set_cons_succ]
    refine takeW (i := 12) (some 134) (v := ?_) rfl rfl (by kernel_rfl) (by kernel_rfl) (by kernel_rfl) (fun _ _ _ h => h) (by rfl) (by assumption) ?_ ?_
    rotate_left
    · (intro wS hSw; (try dsimp only at hSw); go_simp; try with_reducible rfl)
    try simp only [Act.put, List.setIfInBounds_toArray, List.set_cons_zero, List.set_cons_succ]
    refine takeW (i := 13) (some 135) (v := ?_) rfl rfl (by kernel_rfl) (by kernel_rfl) (by kernel_rfl) (fun _ _ _ h => h) (by rfl) (by assumption) ?_ ?_
    rotate_left
    · (intro wS hSw; (try dsimp only at hSw); go_simp; try with_reducible rfl)
    try simp only [Act.put, List.setIfInBounds_toArray, List.set_cons_zero, List.set_cons_succ]
    refine takeW (i := 14) (some 136) (v := ?_) rfl rfl (by kernel_rfl) (by kernel_rfl) (by kernel_rfl) (fun _ _ _ h => h) (by rfl) (by assumption) ?_ ?_
    rotate_left
    · (intro wS hSw; (try dsimp only at hSw); go_simp; try with_reducible rfl)
    try simp only [Act.put, List.setIfInBounds_toArray, List.set_cons_zero, List.set_cons_succ]
    refine takeW (i := 15) (some 137) (v := ?_) rfl rfl (by kernel_rfl) (by kernel_rfl) (by kernel_rfl) (fun _ _ _ h => h) (by rfl) (by assumption) ?_ ?_
    rotate_left
    · (intro wS hSw; (try dsimp only at hSw); go_simp; try with_reducible rfl)
    try simp only [Act.put, List.setIfInBounds_toArray, List.set_cons_zero, List.set_cons_succ]
    refine wpAnyH_ready (rs := [16]) (by kernel_rfl) (by simp) ?_
    refine AllReadyH.cons rfl (fun KK hKK => ?_) AllReadyH.nil
    go_simp
    refine (equal_0 (by omega) ((E11.out.below BB.out).nt 0 rfl)).mono ?_
    rintro e w12r1 ⟨rfl, hbr⟩
    replace BB := Lib.hid (below_step2 BB.out hbr)
    clear z0 z1 z2 z3 z4 z5
    obtain ⟨⟨_, ⟨z0, _⟩, ⟨z1, _⟩, ⟨z2, _⟩, ⟨z3, _⟩, ⟨z4, _⟩, ⟨z5, _⟩, _⟩, _⟩ := E11.out.below BB.out
    (try dsimp only)
    clear hHeld hbr
    refine hKK.out _ _ ?_ (fun hHeld => ?_)
    · exact ⟨z0, z1, z2, z3, z4, z5, BB⟩
    clear hKK KK
    try simp only [Act.put, List.setIfInBounds_toArray, List.set_cons_zero, List.set_cons_succ]
    refine takeW (i := 17) (some 139) (v := ?_) rfl rfl (by kernel_rfl) (by kernel_rfl) (by kernel_rfl) (fun _ _ _ h => h) (by rfl) (by assumption) ?_ ?_
    rotate_left
    · (intro wS hSw; (try dsimp only at hSw); go_simp; try with_reducible rfl)
    try simp only [Act.put, List.setIfInBounds_toArray, List.set_cons_zero, List.set_cons_succ]
    refine takeW (i := 18) (some 4) (v := ?_) rfl rfl (by kernel_rfl) (by kernel_rfl) (by kernel_rfl) (fun _ _ _ h => h) (by rfl) (by assumption) ?_ ?_
    rotate_left
    · (intro wS hSw; (try dsimp only at hSw); go_simp; try with_reducible rfl)
    try simp only [Act.put, List.setIfInBounds_toArray, List.set_cons_zero, List.set_cons_succ]
    refine wpAnyH_done (by kernel_rfl) ?_ _
    clear hHeld
    have E12 := Lib.hid ((E11.out.below BB.out))
    clear p0 q0 p1 q1 p2 q2 p3 q3 p4 q4 p5 q5 BB z0 z1 z2 z3 z4 z5 E11
    obtain ⟨⟨_, ⟨p0, q0⟩, ⟨p1, q1⟩, ⟨p2, q2⟩, ⟨p3, q3⟩, ⟨p4, q4⟩, ⟨p5, q5⟩, _⟩, _⟩ := E12.out
    have hfin := Lib.hid E12.out.1.1
    clear p0 q0 p1 q1 p2 q2 p3 q3 p4 q4 p5 q5
    go_wp2
    go_ret
    exact ⟨rfl, hfin.out⟩

theorem NaturalWords_walk (x y : Int) (hx : (Lit.int IntKind.i64 x).wf = true) (hy : (Lit.int IntKind.i64 y).wf = true) (w : World) :
    Calls Try.prog 9 #[.int .i64 x, .int .i64 y] w fun e w' => e = .returned (.bool true) ∧ Below w.heap.size w w' := by
  simp only [Lit.wf, Bool.and_eq_true, decide_eq_true_eq] at hx hy
  have h1 : x ≤ 9223372036854775807 := hx.2
  have h2 : y ≤ 9223372036854775807 := hy.2
  by_cases hn : 0 ≤ x ∧ 0 ≤ y
  · obtain ⟨n, rfl⟩ := Int.eq_ofNat_of_zero_le hn.1
    obtain ⟨m, rfl⟩ := Int.eq_ofNat_of_zero_le hn.2
    rcases Nat.lt_trichotomy n m with h | h | h
    · exact NaturalWords_lt n m w (by omega) (by omega) h
    · exact NaturalWords_eq n m w (by omega) (by omega) h
    · exact NaturalWords_gt n m w (by omega) (by omega) h
  · by_cases h0 : x < 0
    · have q1 : decide (x < 0) = true := decide_eq_true h0
      clear hn h0 hx hy h1 h2
      go_enter Try.func9, Try.ntmps9
      go_wp2_with fail
      refine (awake_c _).mono ?_
      rintro e w1 ⟨rfl, hb⟩
      have HB := Lib.hid hb
      clear hb
      go_wp2
      go_ret
      exact ⟨rfl, HB.out⟩
    · have q1 : decide (x < 0) = false := decide_eq_false h0
      have q2 : decide (y < 0) = true := decide_eq_true (by omega)
      clear hn h0 hx hy h1 h2
      go_enter Try.func9, Try.ntmps9
      go_wp2_with fail
      refine (awake_c _).mono ?_
      rintro e w1 ⟨rfl, hb⟩
      have HB := Lib.hid hb
      clear hb
      go_wp2
      go_ret
      exact ⟨rfl, HB.out⟩
end Go.Proofs.Ytgogfjehbaiklaa

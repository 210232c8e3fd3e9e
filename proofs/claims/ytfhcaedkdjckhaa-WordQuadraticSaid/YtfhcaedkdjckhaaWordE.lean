/- The contracts of linear congruences and of the Jacobi symbol: package word and the reference. -/
import Derived.Test.YtfhcaedkdjckhaaWordD
namespace Go.Proofs.Ytfhcaedkdjckhaa
open Go.RowKit DivMath WordMath
set_option linter.unusedVariables false

theorem gcdI_nat (a m : Nat) (h0 : 0 < m) (h : m < 9223372036854775808) : gcdI (a : Int) (m : Int) = (Nat.gcd a m : Nat) := by
  unfold gcdI Huge
  have : Nat.gcd a m ≤ m := Nat.gcd_le_right _ h0
  rw [Int.natAbs_natCast, Int.natAbs_natCast, if_neg (by omega)]

theorem Qw.trans {a b c : World} (h : Qw a b) (k : Qw b c) : Qw a c := by
  obtain ⟨n, rfl⟩ := h; obtain ⟨m, rfl⟩ := k; exact ⟨_, World.drewN_drewN ..⟩
theorem Qw.drewN {a b : World} (h : Qw a b) (n : Nat) : Qw a (b.drewN n) := h.trans ⟨n, rfl⟩

/-- a number and a bool -/
def RetB (P : Nat → Prop) (b : Bool) (e : Ending) : Prop := ∃ r : Nat, Hid (P r) ∧ e = .returned (.tuple #[.int .i64 (r : Int), .bool b])

set_option maxHeartbeats 1000000 in
theorem refInverse_ok (a m : Nat) (w : World) (ha : (a : Int) < (m : Int)) (hm : (m : Int) < Top) (hg : Nat.gcd a m = 1) :
    Calls Try.prog 36 #[.int .i64 a, .int .i64 m] w fun e w' => RetB (fun r => r < m ∧ a * r % m = 1 % m) true e ∧ Qw w w' := by
  have hm1 : 1 ≤ (m : Int) := by omega
  have hmz : ((m : Int) == 0) = false := by simp; omega
  have hmz2 : (m == 0) = false := by simp; omega
  have hm' : (m : Int) ≤ 2305843009213693951 := by unfold Top at hm; omega
  have cg := fun w => refGcd_c (a : Int) (m : Int) w (by omega) (by omega) (by omega) (by omega)
  rw [gcdI_nat a m (by omega) (by omega), hg] at cg
  obtain ⟨o, ho⟩ : ∃ o : Nat, o = 1 % m := ⟨_, rfl⟩
  have eo : (1 : Int) % (m : Int) = (o : Int) := by rw [ho]; rfl
  have EO := Lib.hid eo
  have hst : Inv1 a m a m o 0 := by rw [ho]; exact inv1_start (by omega)
  have HST := Lib.hid hst
  have HG := Lib.hid hg
  clear ho eo hst hg
  have hm2 := Lib.hid hm
  clear hm
  go_enter Try.func36, Try.ntmps36
  go_wp2_with fail
  refine (cg _).mono ?_; rintro e w' ⟨rfl, n0, rfl⟩
  clear cg
  go_wp2_with fail
  go_loopw [6, 7, 8, 9, 10] (fun s6 s7 s8 s9 _ wr => ∃ U V X Y : Nat, s6 = .int .i64 U ∧ s7 = .int .i64 V ∧ s8 = .int .i64 X ∧ s9 = .int .i64 Y ∧ (U : Int) ≤ (m : Int) ∧ (V : Int) ≤ (m : Int) ∧ (X : Int) < (m : Int) ∧ (Y : Int) < (m : Int) ∧ Hid (Inv1 a m U V X Y) ∧ Qw w wr) (fun _ s7 _ _ _ _ => (RowKit.intOf s7).toNat)
  case atStart =>
    have := HST.out
    exact ⟨a, m, o, 0, rfl, rfl, congrArg (Value.int .i64) EO.out, rfl, by omega, by omega, by have := this.2.1; omega, by omega, HST, _, rfl⟩
  case round =>
    obtain ⟨U, V, X, Y, rfl, rfl, rfl, rfl, hU, hV, hX, hY, HI, n, rfl⟩ := hrel
    by_cases h0 : V = 0
    · subst h0
      have hd := inv1_done HI.out
      have HD : Hid (X < m ∧ a * X % m = 1 % m) := Lib.hid ⟨hd.2.1, by rw [hd.2.2, hd.1, HG.out]⟩
      clear hd HI
      go_wp2
      go_ret2
      exact ⟨⟨X, HD, rfl⟩, _, rfl⟩
    · have hz1 : ((V : Int) == 0) = false := by simp; omega
      have hz2 : ((V : Int) != 0) = true := by simp; omega
      have hz3 : 1 ≤ (V : Int) := by omega
      have hz4 : (V == 0) = false := by simp; omega
      have hst := inv1_step HI.out h0
      have hqa : U / V * V ≤ U := Nat.div_mul_le_self U V
      have hqb : ((U / V : Nat) : Int) ≤ (U : Int) := by have := Nat.div_le_self U V; omega
      have hmd : U - U / V * V = U % V := by have := Nat.div_add_mod' U V; omega
      have hlt := Nat.mod_lt U (show 0 < V by omega)
      have hf := fun y => inv1_factor (x := X) (y := y) (q := U / V) (m := m)
      obtain ⟨Q, hQ⟩ : ∃ Q, Q = U / V := ⟨_, rfl⟩
      obtain ⟨R, hR⟩ : ∃ R, R = U % V := ⟨_, rfl⟩
      rw [← hQ] at hst hqa hqb hmd hf
      rw [← hR] at hst hmd hlt
      have eQ : (U : Int) / (V : Int) = (Q : Int) := by rw [hQ, Int.natCast_ediv]
      have eQV : wrap64 ((Q : Int) * (V : Int)) = (U : Int) - (R : Int) := by
        rw [← Int.natCast_mul]; rw [IntWalk.wrap64_in _ ⟨by omega, by omega⟩]; omega
      have eR : (U : Int) - ((U : Int) - (R : Int)) = (R : Int) := by omega
      obtain ⟨Z, hZ⟩ : ∃ Z : Nat, (Z : Int) = ((X : Int) - ((Q % m * Y % m : Nat) : Int)) % (m : Int) := ⟨_, Int.toNat_of_nonneg (Int.emod_nonneg _ (by omega))⟩
      have hZm : (Z : Int) < (m : Int) := by rw [hZ]; exact Int.emod_lt_of_pos _ (by omega)
      have hns := hst Z (by omega) (by rw [hZ]; exact hf Y)
      have HNS := Lib.hid hns
      have HZ := Lib.hid hZ
      have hRb : (R : Int) < (V : Int) := by omega
      clear hst hf hQ hR hmd hqa hns hZ HI
      have cr := fun w => refReduce_c (Q : Int) (m : Int) w hm1 hm2.out
      have cr2 := fun p w => refReduce_c ((X : Int) - (p : Int)) (m : Int) w hm1 hm2.out
      obtain ⟨Q2, hQ2⟩ : ∃ Q2 : Nat, Q2 = Q % m := ⟨_, rfl⟩
      rw [← Int.natCast_emod, ← hQ2] at cr
      have bQ2 : (Q2 : Int) ≤ (m : Int) := by rw [hQ2]; have := Nat.mod_lt Q (show 0 < m by omega); omega
      have CR := Lib.hid cr
      have CR2 := Lib.hid cr2
      have HQ2 := Lib.hid hQ2
      clear cr cr2 hQ2
      go_wp2_with fail
      refine (CR.out _).mono ?_; rintro e w1 ⟨rfl, rfl⟩
      go_wp2_with fail
      refine (refMul_c Q2 Y m _ (by omega) (by omega) hm1 hm2.out).mono ?_; rintro e1 w1 ⟨⟨P, hP, rfl⟩, n2, rfl⟩
      have bP : (P : Int) < (m : Int) := by rw [hP.out]; have := Nat.mod_lt (Q2 * Y) (show 0 < m by omega); omega
      go_wp2_with fail
      refine (CR2.out (P : Int) _).mono ?_; rintro e w1 ⟨rfl, rfl⟩
      have HZ2 : Hid (((X : Int) - (P : Int)) % (m : Int) = (Z : Int)) := Lib.hid (by rw [HZ.out, hP.out, HQ2.out])
      clear CR CR2 HZ HQ2 hP
      go_wp2
      go_roundw
      case rel => exact ⟨V, R, Y, Z, rfl, by go_num, rfl, congrArg (Value.int .i64) HZ2.out, by omega, by omega, hY, hZm, HNS, _, rfl⟩
      case measure => simp [RowKit.intOf]; omega

set_option maxHeartbeats 400000 in
theorem refInverse_none (a m : Nat) (w : World) (ha : (a : Int) < (m : Int)) (hm : (m : Int) < Top) (hg : Nat.gcd a m ≠ 1) :
    Calls Try.prog 36 #[.int .i64 a, .int .i64 m] w fun e w' => e = .returned (.tuple #[.int .i64 0, .bool false]) ∧ Qw w w' := by
  have hm' : (m : Int) ≤ 2305843009213693951 := by unfold Top at hm; omega
  have cg := fun w => refGcd_c (a : Int) (m : Int) w (by omega) (by omega) (by omega) (by omega)
  rw [gcdI_nat a m (by omega) (by omega)] at cg
  have hd : (((Nat.gcd a m : Nat) : Int) != 1) = true := by simp; omega
  generalize Nat.gcd a m = d at *
  clear hg ha hm hm'
  go_enter Try.func36, Try.ntmps36
  go_wp2_with fail
  refine (cg _).mono ?_; rintro e w' ⟨rfl, n0, rfl⟩
  go_wp2
  go_ret2
  exact ⟨rfl, _, rfl⟩

/-! ### linear congruences -/

/-- the solution, the step, and no error -/
def RetS (P : Nat → Nat → Prop) (e : Ending) : Prop := ∃ r s : Nat, Hid (P r s) ∧ e = .returned (.tuple #[.int .i64 (r : Int), .int .i64 (s : Int), .int .i64 0])

theorem dvd_bool {b d : Nat} (h : b % d = 0) : ((b : Int) % (d : Int) != 0) = false := by
  have e : (b : Int) % (d : Int) = ((b % d : Nat) : Int) := (Int.natCast_emod b d).symm
  rw [e, h]; rfl
theorem ndvd_bool {b d : Nat} (h : b % d ≠ 0) : ((b : Int) % (d : Int) != 0) = true := by
  have e : (b : Int) % (d : Int) = ((b % d : Nat) : Int) := (Int.natCast_emod b d).symm
  rw [e]; simp only [bne_iff_ne, ne_eq]; omega

set_option maxHeartbeats 1000000 in
theorem Solve_ok (a b m : Nat) (w : World) (ha : (a : Int) < (m : Int)) (hb : (b : Int) < (m : Int)) (hm : (m : Int) < Top) (hg : b % Nat.gcd a m = 0) :
    Calls Try.prog 19 #[.int .i64 a, .int .i64 b, .int .i64 m] w fun e w' => RetS (Sol a b m) e ∧ Qw w w' := by
  have hc : chk (a : Int) (b : Int) (m : Int) = 0 := by
    unfold Top at hm; unfold chk Top; rw [if_neg (by omega), if_pos (by omega)]
  have cc := fun w => check_c (a : Int) (b : Int) (m : Int) w
  rw [hc] at cc
  have ce := fun w => euclid_c a m w ha hm
  have hm' : (m : Int) ≤ 2305843009213693951 := by unfold Top at hm; omega
  have hsol := fun y => sol_word (a := a) (b := b) (m := m) (y := y) (by omega) hg
  have hgp := Nat.gcd_pos_of_pos_right a (show 0 < m by omega)
  have hgm : Nat.gcd a m ≤ m := Nat.gcd_le_right _ (by omega)
  have hnp : 0 < m / Nat.gcd a m := Nat.div_pos hgm hgp
  have hnm : m / Nat.gcd a m ≤ m := Nat.div_le_self _ _
  have hbd : b / Nat.gcd a m ≤ b := Nat.div_le_self _ _
  have hbb := dvd_bool hg
  have e1 : (m : Int) / ((Nat.gcd a m : Nat) : Int) = ((m / Nat.gcd a m : Nat) : Int) := (Int.natCast_ediv _ _).symm
  have e2 : (b : Int) / ((Nat.gcd a m : Nat) : Int) = ((b / Nat.gcd a m : Nat) : Int) := (Int.natCast_ediv _ _).symm
  generalize hd : Nat.gcd a m = d at *
  generalize hn : m / d = n at *
  generalize hq : b / d = q at *
  have hdz : ((d : Int) == 0) = false := by simp; omega
  have hdz2 : (d == 0) = false := by simp; omega
  have hnz : ((n : Int) == 0) = false := by simp; omega
  have hnz2 : (n == 0) = false := by simp; omega
  have hdi : 1 ≤ (d : Int) := by omega
  have hni : 1 ≤ (n : Int) := by omega
  have hni2 : (n : Int) ≤ 2305843009213693951 := by omega
  have hdi2 : (d : Int) ≤ 2305843009213693951 := by omega
  have hnt : (n : Int) < Top := by unfold Top; omega
  have hqi : (q : Int) ≤ 2305843009213693951 := by omega
  have HS := Lib.hid hsol
  have HT := Lib.hid hnt
  have HD := Lib.hid hd
  clear hsol hc hm hd hn hq hg hgp hgm hnp hnm hbd hnt
  go_enter Try.func19, Try.ntmps19
  go_wp2_with fail
  refine (cc _).mono ?_; rintro e w1 ⟨rfl, rfl⟩
  go_wp2_with fail
  refine (ce _).mono ?_; rintro e w1 ⟨⟨d', y, hdx, rfl⟩, hq1⟩
  obtain ⟨rfl, hy1, hy2⟩ := hdx.out
  have hsy := HS.out y hy2
  have hym : (y : Int) < (m : Int) := by omega
  have cm : ∀ w, Calls Try.prog 35 #[.int .i64 ((y : Int) % (n : Int)), .int .i64 ((q : Int) % (n : Int)), .int .i64 n] w fun e w' => e = .returned (.int .i64 ((y % n * (q % n) % n : Nat) : Int)) ∧ Qw w w' := by
    intro w
    have e3 : (y : Int) % (n : Int) = ((y % n : Nat) : Int) := (Int.natCast_emod _ _).symm
    have e4 : (q : Int) % (n : Int) = ((q % n : Nat) : Int) := (Int.natCast_emod _ _).symm
    rw [e3, e4]
    exact mul_v (y % n) (q % n) n w (Nat.mod_lt _ (by omega)) (Nat.mod_lt _ (by omega)) (by omega)
  generalize y % n * (q % n) % n = z at *
  have CM := Lib.hid cm
  have HSY := Lib.hid hsy
  clear cm hsy hy1 hy2 hdx HS HT cc ce
  go_wp2_with fail
  go_quiet ((go_at_call 35; exact Calls.quiet_of (CM.out _)))
  go_wp2
  go_ret3
  exact ⟨⟨z, n, HSY, rfl⟩, hq1.drewN _⟩

set_option maxHeartbeats 1000000 in
theorem Solve_none (a b m : Nat) (w : World) (ha : (a : Int) < (m : Int)) (hb : (b : Int) < (m : Int)) (hm : (m : Int) < Top) (hg : b % Nat.gcd a m ≠ 0) :
    Calls Try.prog 19 #[.int .i64 a, .int .i64 b, .int .i64 m] w fun e w' => e = .returned (.tuple #[.int .i64 0, .int .i64 0, .int .i64 7]) ∧ Qw w w' := by
  have hc : chk (a : Int) (b : Int) (m : Int) = 0 := by
    unfold Top at hm; unfold chk Top; rw [if_neg (by omega), if_pos (by omega)]
  have cc := fun w => check_c (a : Int) (b : Int) (m : Int) w
  rw [hc] at cc
  have ce := fun w => euclid_c a m w ha hm
  have hgp := Nat.gcd_pos_of_pos_right a (show 0 < m by omega)
  have hbb := ndvd_bool hg
  generalize hd : Nat.gcd a m = d at *
  have hdz : ((d : Int) == 0) = false := by simp; omega
  have hdz2 : (d == 0) = false := by simp; omega
  have hdi : 1 ≤ (d : Int) := by omega
  clear hc hm hd hg hgp
  go_enter Try.func19, Try.ntmps19
  go_wp2_with fail
  refine (cc _).mono ?_; rintro e w1 ⟨rfl, rfl⟩
  go_wp2_with fail
  refine (ce _).mono ?_; rintro e w1 ⟨⟨d', y, hdx, rfl⟩, n1, rfl⟩
  obtain ⟨rfl, hy1, hy2⟩ := hdx.out
  clear hdx hy1 hy2 ce cc
  go_wp2
  go_ret3
  exact ⟨rfl, _, rfl⟩

set_option maxHeartbeats 400000 in
theorem Solve_err (a b m : Int) (w : World) (hc : (chk a b m != 0) = true) :
    Calls Try.prog 19 #[.int .i64 a, .int .i64 b, .int .i64 m] w fun e w' => e = .returned (.tuple #[.int .i64 0, .int .i64 0, .int .i64 (chk a b m)]) ∧ w = w' := by
  go_enter Try.func19, Try.ntmps19
  go_wp2_with (first | (go_at_call 32; refine (check_c _ _ _ _).mono ?_; rintro e w' ⟨rfl, rfl⟩))
  go_ret3
  exact ⟨rfl, rfl⟩

set_option maxHeartbeats 1000000 in
theorem refSolve_ok (a b m : Nat) (w : World) (ha : (a : Int) < (m : Int)) (hb : (b : Int) < (m : Int)) (hm : (m : Int) < Top) (hg : b % Nat.gcd a m = 0) :
    Calls Try.prog 20 #[.int .i64 a, .int .i64 b, .int .i64 m] w fun e w' => RetS (Sol a b m) e ∧ Qw w w' := by
  have hm' : (m : Int) ≤ 2305843009213693951 := by unfold Top at hm; omega
  have cg := fun w => refGcd_c (a : Int) (m : Int) w (by omega) (by omega) (by omega) (by omega)
  rw [gcdI_nat a m (by omega) (by omega)] at cg
  have hsol := fun x => sol_ref (a := a) (b := b) (m := m) (x := x) (by omega)
  have hgp := Nat.gcd_pos_of_pos_right a (show 0 < m by omega)
  have hgm : Nat.gcd a m ≤ m := Nat.gcd_le_right _ (by omega)
  have hnp : 0 < m / Nat.gcd a m := Nat.div_pos hgm hgp
  have hnm : m / Nat.gcd a m ≤ m := Nat.div_le_self _ _
  have hbd : b / Nat.gcd a m ≤ b := Nat.div_le_self _ _
  have had : a / Nat.gcd a m ≤ a := Nat.div_le_self _ _
  have hbb := dvd_bool hg
  have hcop : Nat.gcd (a / Nat.gcd a m % (m / Nat.gcd a m)) (m / Nat.gcd a m) = 1 := by
    rw [← Nat.gcd_rec, Nat.gcd_comm]; exact Nat.coprime_div_gcd_div_gcd hgp
  have e1 : (m : Int) / ((Nat.gcd a m : Nat) : Int) = ((m / Nat.gcd a m : Nat) : Int) := (Int.natCast_ediv _ _).symm
  have e2 : (b : Int) / ((Nat.gcd a m : Nat) : Int) = ((b / Nat.gcd a m : Nat) : Int) := (Int.natCast_ediv _ _).symm
  have e5 : (a : Int) / ((Nat.gcd a m : Nat) : Int) = ((a / Nat.gcd a m : Nat) : Int) := (Int.natCast_ediv _ _).symm
  generalize hd : Nat.gcd a m = d at *
  generalize hn : m / d = n at *
  generalize hq : b / d = q at *
  generalize hp : a / d = p at *
  have hdz : ((d : Int) == 0) = false := by simp; omega
  have hdz2 : (d == 0) = false := by simp; omega
  have hnz : ((n : Int) == 0) = false := by simp; omega
  have hnz2 : (n == 0) = false := by simp; omega
  have hdi : 1 ≤ (d : Int) := by omega
  have hni : 1 ≤ (n : Int) := by omega
  have hni2 : (n : Int) ≤ 2305843009213693951 := by omega
  have hdi2 : (d : Int) ≤ 2305843009213693951 := by omega
  have hqi : (q : Int) ≤ 2305843009213693951 := by omega
  have hpi : (p : Int) ≤ 2305843009213693951 := by omega
  have hnt : (n : Int) < Top := by unfold Top; omega
  have ci : ∀ w, Calls Try.prog 36 #[.int .i64 ((p : Int) % (n : Int)), .int .i64 n] w fun e w' => RetB (fun r => r < n ∧ p % n * r % n = 1 % n) true e ∧ Qw w w' := by
    intro w
    have e3 : (p : Int) % (n : Int) = ((p % n : Nat) : Int) := (Int.natCast_emod _ _).symm
    rw [e3]
    exact refInverse_ok (p % n) n w (by have := Nat.mod_lt p (show 0 < n by omega); omega) hnt hcop
  have cm : ∀ (x : Nat) (w : World), (x : Int) < (n : Int) → Calls Try.prog 18 #[.int .i64 x, .int .i64 ((q : Int) % (n : Int)), .int .i64 n] w fun e w' => RetN (fun r => r = x * (q % n) % n) e ∧ Qw w w' := by
    intro x w hx
    have e4 : (q : Int) % (n : Int) = ((q % n : Nat) : Int) := (Int.natCast_emod _ _).symm
    rw [e4]
    exact refMul_c x (q % n) n w (by omega) (by have := Nat.mod_lt q (show 0 < n by omega); omega) hni hnt
  have HS := Lib.hid hsol
  have CI := Lib.hid ci
  have CM := Lib.hid cm
  clear hsol hm hd hn hq hp hg hgp hgm hnp hnm hbd had hcop ci cm hnt
  go_enter Try.func20, Try.ntmps20
  go_wp2_with fail
  refine (cg _).mono ?_; rintro e w1 ⟨rfl, n1, rfl⟩
  clear cg
  go_wp2_with fail
  refine (CI.out _).mono ?_; rintro e w1 ⟨⟨x, hx, rfl⟩, n2, rfl⟩
  have hxn : (x : Int) < (n : Int) := by have := hx.out.1; omega
  go_wp2_with fail
  refine (CM.out x _ hxn).mono ?_; rintro e w1 ⟨⟨z, hz, rfl⟩, n3, rfl⟩
  have HSY : Hid (Sol a b m z n) := Lib.hid (by rw [hz.out]; exact HS.out x hx.out.2)
  clear HS CI CM hx hz
  go_wp2
  go_ret3
  exact ⟨⟨z, n, HSY, rfl⟩, _, rfl⟩

set_option maxHeartbeats 1000000 in
theorem refSolve_none (a b m : Nat) (w : World) (ha : (a : Int) < (m : Int)) (hb : (b : Int) < (m : Int)) (hm : (m : Int) < Top) (hg : b % Nat.gcd a m ≠ 0) :
    Calls Try.prog 20 #[.int .i64 a, .int .i64 b, .int .i64 m] w fun e w' => e = .returned (.tuple #[.int .i64 0, .int .i64 0, .int .i64 7]) ∧ Qw w w' := by
  have hm' : (m : Int) ≤ 2305843009213693951 := by unfold Top at hm; omega
  have cg := fun w => refGcd_c (a : Int) (m : Int) w (by omega) (by omega) (by omega) (by omega)
  rw [gcdI_nat a m (by omega) (by omega)] at cg
  have hgp := Nat.gcd_pos_of_pos_right a (show 0 < m by omega)
  have hbb := ndvd_bool hg
  generalize hd : Nat.gcd a m = d at *
  have hdz : ((d : Int) == 0) = false := by simp; omega
  have hdz2 : (d == 0) = false := by simp; omega
  have hdi : 1 ≤ (d : Int) := by omega
  clear hm hd hg hgp
  go_enter Try.func20, Try.ntmps20
  go_wp2_with fail
  refine (cg _).mono ?_; rintro e w1 ⟨rfl, n1, rfl⟩
  clear cg
  go_wp2
  go_ret3
  exact ⟨rfl, _, rfl⟩
end Go.Proofs.Ytfhcaedkdjckhaa

/- The contracts of package word's functions with loops, and of the reference's. -/
import Derived.Test.YtfhcaedkdjckhaaWordB
import Derived.Test.YtfhcaedkdjckhaaWordMath
namespace Go.Proofs.Ytfhcaedkdjckhaa
open Go.RowKit DivMath WordMath
set_option linter.unusedVariables false

def RetP (P : Nat → Nat → Prop) (e : Ending) : Prop := ∃ r s : Nat, Hid (P r s) ∧ e = .returned (.tuple #[.int .i64 (r : Int), .int .i64 (s : Int)])

set_option maxHeartbeats 1000000 in
theorem euclid_c (a m : Nat) (w : World) (ha : (a : Int) < (m : Int)) (hm : (m : Int) < Top) :
    Calls Try.prog 33 #[.int .i64 a, .int .i64 m] w fun e w' => RetP (fun d x => d = Nat.gcd a m ∧ x < m ∧ a * x % m = Nat.gcd a m % m) e ∧ Qw w w' := by
  unfold Top at hm
  have hm0 : 1 ≤ (m : Int) := by omega
  have hmz : ((m : Int) == 0) = false := by simp; omega
  go_enter Try.func33, Try.ntmps33
  go_wp2
  go_loop [0, 4, 5, 6, 7] (fun s0 s4 s5 s6 _ => ∃ (A D : Nat) (x n : Int), s0 = .int .i64 A ∧ s4 = .int .i64 D ∧ s5 = .int .i64 x ∧ s6 = .int .i64 n ∧ (A : Int) ≤ (m : Int) ∧ (D : Int) ≤ (m : Int) ∧ -(m : Int) ≤ x ∧ x ≤ (m : Int) ∧ -(m : Int) ≤ n ∧ n ≤ (m : Int) ∧ Hid (Euc a m D A x n)) (fun s0 _ _ _ _ => (RowKit.intOf s0).toNat)
  case atStart => exact ⟨a, m, 0, 1, rfl, rfl, rfl, rfl, by omega, by omega, by omega, by omega, by omega, by omega, Lib.hid (euc_start (by omega))⟩
  case round =>
    obtain ⟨A, D, x, n, rfl, rfl, rfl, rfl, hA, hD, hx1, hx2, hn1, hn2, HE⟩ := hrel
    by_cases h0 : A = 0
    · subst h0
      have hd := euc_done HE.out (by omega)
      have hfin := fun (X : Int) (hX : (m : Int) ∣ (a : Int) * X - D) (y : Nat) (hy : (y : Int) = X % m) => euc_final (a := a) (m := m) (x := X) (by omega) (by rw [← hd.1]; exact hX) y hy
      have F := Lib.hid hfin
      have D0 := Lib.hid hd
      clear hfin hd HE
      by_cases hneg : x < 0
      · have hg : decide (x < 0) = true := decide_eq_true hneg
        go_wp2
        go_quiet (fail)
        go_wp2
        go_ret2
        obtain ⟨y, hy⟩ : ∃ y : Nat, (y : Int) = (x + m) % (m : Int) := ⟨((x + m) % (m : Int)).toNat, Int.toNat_of_nonneg (Int.emod_nonneg _ (by omega))⟩
        have hx : (m : Int) ∣ (a : Int) * (x + m) - D := by
          have := D0.out.2.2.2
          have e : (a : Int) * (x + m) - D = ((a : Int) * x - D) + (a : Int) * m := by rw [Int.mul_add]; omega
          rw [e]; exact Int.dvd_add this (Int.dvd_mul_left _ _)
        have hf := F.out (x + m) hx y hy
        exact ⟨⟨D, y, Lib.hid ⟨D0.out.1, hf.1, hf.2⟩, by rw [hy]; rfl⟩, _, rfl⟩
      · have hg : decide (x < 0) = false := decide_eq_false hneg
        go_wp2
        go_quiet (fail)
        go_wp2
        go_ret2
        obtain ⟨y, hy⟩ : ∃ y : Nat, (y : Int) = x % (m : Int) := ⟨(x % (m : Int)).toNat, Int.toNat_of_nonneg (Int.emod_nonneg _ (by omega))⟩
        have hf := F.out x D0.out.2.2.2 y hy
        exact ⟨⟨D, y, Lib.hid ⟨D0.out.1, hf.1, hf.2⟩, by rw [hy]; rfl⟩, _, rfl⟩
    · have hA0 : 0 < (A : Int) := by omega
      have hz : ((A : Int) == 0) = false := by simp; omega
      have hz2 : ((A : Int) != 0) = true := by simp; omega
      obtain ⟨Q, hQ⟩ : ∃ Q, Q = D / A := ⟨_, rfl⟩
      have hst := euc_step HE.out h0
      have hsm := euc_small HE.out h0
      have hqa : D / A * A ≤ D := Nat.div_mul_le_self D A
      have hQb : ((D / A : Nat) : Int) ≤ (D : Int) := by have := Nat.div_le_self D A; omega
      rw [← hQ] at hst hsm hqa hQb
      obtain ⟨A2, hA2⟩ : ∃ A2, A2 = D - Q * A := ⟨_, rfl⟩
      rw [← hA2] at hst
      have eQ : (D : Int) / (A : Int) = (Q : Int) := by rw [hQ, Int.natCast_ediv]
      have eQA : wrap64 ((Q : Int) * (A : Int)) = (D : Int) - (A2 : Int) := by
        rw [hA2, ← Int.natCast_mul]; rw [IntWalk.wrap64_in _ ⟨by omega, by omega⟩]; omega
      obtain ⟨p, hp⟩ : ∃ p : Int, p = (Q : Int) * n := ⟨_, rfl⟩
      rw [← hp] at hst hsm
      have eP : wrap64 ((Q : Int) * n) = p := by
        rw [← hp]; exact IntWalk.wrap64_in _ ⟨by omega, by omega⟩
      have hA2b : (A2 : Int) < (A : Int) := by have := hst.2.1; omega
      have HS := Lib.hid hst
      obtain ⟨hp1, hp2, hp3, hp4⟩ := hsm
      clear hst hQ hA2 hqa hp HE
      go_wp2
      go_round
      case rel => exact ⟨A2, A, n, x - p, by go_num, rfl, rfl, rfl, by omega, by omega, by omega, by omega, by omega, by omega, HS⟩
      case measure => simp [RowKit.intOf]; omega

/-! ### the greatest common divisor -/

/-- 2^63, behind a name -/
def Huge : Nat := 9223372036854775808
/-- the greatest common divisor as both texts give it: 0 in the place of 2^63 -/
def gcdI (a b : Int) : Int := if Nat.gcd a.natAbs b.natAbs = Huge then 0 else (Nat.gcd a.natAbs b.natAbs : Nat)

set_option maxHeartbeats 400000 in
theorem magnitude_c (a : Int) (w : World) (h1 : -9223372036854775808 ≤ a) (h2 : a ≤ 9223372036854775807) :
    Calls Try.prog 38 #[.int .i64 a] w fun e w' => e = .returned (.int .u64 (a.natAbs : Int)) ∧ w = w' := by
  by_cases h : a < 0
  · have hg : decide (a < 0) = true := decide_eq_true h
    have e1 : IntKind.u64.wrap (-IntKind.u64.wrap a) = (a.natAbs : Int) := by simp only [IntKind.wrap_u64]; omega
    generalize (a.natAbs : Int) = r at *
    go_enter Try.func38, Try.ntmps38
    go_wp2
    go_ret
    exact ⟨rfl, rfl⟩
  · have hg : decide (a < 0) = false := decide_eq_false h
    have e1 : a = (a.natAbs : Int) := by omega
    generalize a.natAbs = r at *
    subst e1
    go_enter Try.func38, Try.ntmps38
    go_wp2
    go_ret
    exact ⟨rfl, rfl⟩

set_option maxHeartbeats 400000 in
theorem size_c (a : Int) (w : World) (h1 : -9223372036854775808 ≤ a) (h2 : a ≤ 9223372036854775807) :
    Calls Try.prog 34 #[.int .i64 a] w fun e w' => e = .returned (.int .u64 (a.natAbs : Int)) ∧ w = w' := by
  by_cases h : a < 0
  · have hg : decide (a < 0) = true := decide_eq_true h
    go_enter Try.func34, Try.ntmps34
    go_wp2
    go_ret
    exact ⟨congrArg (fun x => Ending.returned (.int .u64 x)) (show -(a + 1) + 1 = (a.natAbs : Int) by omega), rfl⟩
  · have hg : decide (a < 0) = false := decide_eq_false h
    have e1 : a = (a.natAbs : Int) := by omega
    generalize a.natAbs = r at *
    subst e1
    go_enter Try.func34, Try.ntmps34
    go_wp2
    go_ret
    exact ⟨rfl, rfl⟩

set_option maxHeartbeats 1000000 in
theorem Gcd_c (a b : Int) (w : World) (h1 : -9223372036854775808 ≤ a) (h2 : a ≤ 9223372036854775807) (h3 : -9223372036854775808 ≤ b) (h4 : b ≤ 9223372036854775807) :
    Calls Try.prog 31 #[.int .i64 a, .int .i64 b] w fun e w' => e = .returned (.int .i64 (gcdI a b)) ∧ Qw w w' := by
  have c1 := fun w => magnitude_c a w h1 h2
  have c2 := fun w => magnitude_c b w h3 h4
  have b1 : ((a.natAbs : Nat) : Int) ≤ 9223372036854775808 := by omega
  have b2 : ((b.natAbs : Nat) : Int) ≤ 9223372036854775808 := by omega
  have hfin : ∀ X : Nat, (X : Int) ≤ 9223372036854775808 → X = Nat.gcd a.natAbs b.natAbs → ((X = 9223372036854775808 ∧ gcdI a b = 0) ∨ ((X : Int) ≤ 9223372036854775807 ∧ gcdI a b = (X : Int))) := by
    intro X hX e
    unfold gcdI Huge
    rw [← e]
    by_cases h : X = 9223372036854775808
    · left; rw [if_pos h]; exact ⟨h, rfl⟩
    · right; rw [if_neg h]; exact ⟨by omega, rfl⟩
  clear h1 h2 h3 h4
  generalize gcdI a b = R at *
  generalize a.natAbs = A at *
  generalize b.natAbs = B at *
  have HF := Lib.hid hfin
  clear hfin
  go_enter Try.func31, Try.ntmps31
  go_wp2_with fail
  refine (c1 _).mono ?_; rintro e w1 ⟨rfl, rfl⟩
  go_wp2_with fail
  refine (c2 _).mono ?_; rintro e w1 ⟨rfl, rfl⟩
  clear c1 c2
  go_wp2
  go_loopw [5, 6] (fun s5 s6 wr => ∃ X Y : Nat, s5 = .int .u64 X ∧ s6 = .int .u64 Y ∧ (X : Int) ≤ 9223372036854775808 ∧ (Y : Int) ≤ 9223372036854775808 ∧ Hid (Nat.gcd X Y = Nat.gcd A B) ∧ Qw w wr) (fun _ s6 _ => (RowKit.intOf s6).toNat)
  case atStart => exact ⟨A, B, rfl, rfl, b1, b2, Lib.hid rfl, Qw.refl _⟩
  case round =>
    obtain ⟨X, Y, rfl, rfl, hX, hY, HG, n, rfl⟩ := hrel
    by_cases h0 : Y = 0
    · subst h0
      have hf := HF.out X hX (by rw [← HG.out, Nat.gcd_zero_right])
      clear HF HG
      rcases hf with ⟨k1, rfl⟩ | ⟨k1, rfl⟩
      · have ht : ((X : Int) == 9223372036854775808) = true := by rw [k1]; rfl
        clear k1
        go_wp2
        go_ret
        exact ⟨rfl, _, rfl⟩
      · have ht : ((X : Int) == 9223372036854775808) = false := by rw [beq_eq_false_iff_ne]; omega
        go_wp2
        go_ret
        exact ⟨rfl, _, rfl⟩
    · have hz1 : ((Y : Int) == 0) = false := by simp; omega
      have hz2 : ((Y : Int) != 0) = true := by simp; omega
      have hz3 : decide (0 < Y) = true := decide_eq_true (by omega)
      have hz4 : 1 ≤ (Y : Int) := by omega
      obtain ⟨Z, hZ⟩ : ∃ Z, Z = X % Y := ⟨_, rfl⟩
      have eZ : (X : Int) % (Y : Int) = (Z : Int) := by rw [hZ, Int.natCast_emod]
      have bZ : (Z : Int) < (Y : Int) := by rw [hZ]; have := Nat.mod_lt X (show 0 < Y by omega); omega
      have HG2 : Hid (Nat.gcd Y Z = Nat.gcd A B) := Lib.hid (by rw [← HG.out, hZ, Nat.gcd_comm Y, ← Nat.gcd_rec, Nat.gcd_comm])
      clear hZ HG
      go_wp2
      go_quiet (fail)
      go_wp2
      go_roundw
      case rel => exact ⟨Y, Z, rfl, congrArg (Value.int .u64) eZ, by omega, by omega, HG2, n + nq, World.drewN_drewN ..⟩
      case measure => simp only [RowKit.intOf, eZ]; omega

set_option maxHeartbeats 1000000 in
theorem refGcd_c (a b : Int) (w : World) (h1 : -9223372036854775808 ≤ a) (h2 : a ≤ 9223372036854775807) (h3 : -9223372036854775808 ≤ b) (h4 : b ≤ 9223372036854775807) :
    Calls Try.prog 16 #[.int .i64 a, .int .i64 b] w fun e w' => e = .returned (.int .i64 (gcdI a b)) ∧ Qw w w' := by
  have c1 := fun w => size_c a w h1 h2
  have c2 := fun w => size_c b w h3 h4
  have b1 : ((a.natAbs : Nat) : Int) ≤ 9223372036854775808 := by omega
  have b2 : ((b.natAbs : Nat) : Int) ≤ 9223372036854775808 := by omega
  have hfin : ∀ X : Nat, (X : Int) ≤ 9223372036854775808 → X = Nat.gcd a.natAbs b.natAbs → ((X = 9223372036854775808 ∧ gcdI a b = 0) ∨ ((X : Int) ≤ 9223372036854775807 ∧ gcdI a b = (X : Int))) := by
    intro X hX e
    unfold gcdI Huge
    rw [← e]
    by_cases h : X = 9223372036854775808
    · left; rw [if_pos h]; exact ⟨h, rfl⟩
    · right; rw [if_neg h]; exact ⟨by omega, rfl⟩
  clear h1 h2 h3 h4
  generalize gcdI a b = R at *
  generalize a.natAbs = A at *
  generalize b.natAbs = B at *
  have HF := Lib.hid hfin
  clear hfin
  go_enter Try.func16, Try.ntmps16
  go_wp2_with fail
  refine (c1 _).mono ?_; rintro e w1 ⟨rfl, rfl⟩
  go_wp2_with fail
  refine (c2 _).mono ?_; rintro e w1 ⟨rfl, rfl⟩
  clear c1 c2
  go_wp2
  go_loopw [5, 6] (fun s5 s6 wr => ∃ X Y : Nat, s5 = .int .u64 X ∧ s6 = .int .u64 Y ∧ (X : Int) ≤ 9223372036854775808 ∧ (Y : Int) ≤ 9223372036854775808 ∧ Hid (Nat.gcd X Y = Nat.gcd A B) ∧ Qw w wr) (fun _ s6 _ => (RowKit.intOf s6).toNat)
  case atStart => exact ⟨A, B, rfl, rfl, b1, b2, Lib.hid rfl, Qw.refl _⟩
  case round =>
    obtain ⟨X, Y, rfl, rfl, hX, hY, HG, n, rfl⟩ := hrel
    by_cases h0 : Y = 0
    · subst h0
      have hf := HF.out X hX (by rw [← HG.out, Nat.gcd_zero_right])
      clear HF HG
      rcases hf with ⟨k1, rfl⟩ | ⟨k1, rfl⟩
      · have ht : ((X : Int) == 9223372036854775808) = true := by rw [k1]; rfl
        clear k1
        go_wp2
        go_ret
        exact ⟨rfl, _, rfl⟩
      · have ht : ((X : Int) == 9223372036854775808) = false := by rw [beq_eq_false_iff_ne]; omega
        go_wp2
        go_ret
        exact ⟨rfl, _, rfl⟩
    · have hz1 : ((Y : Int) == 0) = false := by simp; omega
      have hz2 : ((Y : Int) != 0) = true := by simp; omega
      have hz3 : decide (0 < Y) = true := decide_eq_true (by omega)
      have hz4 : 1 ≤ (Y : Int) := by omega
      obtain ⟨Z, hZ⟩ : ∃ Z, Z = X % Y := ⟨_, rfl⟩
      have eZ : (X : Int) % (Y : Int) = (Z : Int) := by rw [hZ, Int.natCast_emod]
      have bZ : (Z : Int) < (Y : Int) := by rw [hZ]; have := Nat.mod_lt X (show 0 < Y by omega); omega
      have HG2 : Hid (Nat.gcd Y Z = Nat.gcd A B) := Lib.hid (by rw [← HG.out, hZ, Nat.gcd_comm Y, ← Nat.gcd_rec, Nat.gcd_comm])
      clear hZ HG
      go_wp2
      go_quiet (fail)
      go_wp2
      go_roundw
      case rel => exact ⟨Y, Z, rfl, congrArg (Value.int .u64) eZ, by omega, by omega, HG2, n + nq, World.drewN_drewN ..⟩
      case measure => simp only [RowKit.intOf, eZ]; omega

end Go.Proofs.Ytfhcaedkdjckhaa

/- The contracts of the strong test: package prime. -/
import Derived.Test.YteipbcpnnojclaaDoorPWord
import Derived.Test.YteipbcpnnojclaaDoorPriM
import Derived.Lib.TrailingZeros
import Derived.Shelf.Spec.TrailingZeros
namespace Go.Proofs.YteipbcpnnojclaaDoor
open Go.RowKit DivMath WordMath
set_option linter.unusedVariables false

/-- the two tables lie in their variables -/
def Laid (w : World) : Prop := (∀ i, i < 12 → w.cell? ⟨0, i, none⟩ = some (.int .u64 (Pri.bases.getD i 0 : Nat))) ∧ TabAt 1 Lib.deBruijn64tab w ∧ 2 ≤ w.heap.size
theorem cell_drewN (w : World) (n : Nat) (a : Addr) : (w.drewN n).cell? a = w.cell? a := rfl
theorem Laid.drewN {w : World} (h : Laid w) (n : Nat) : Laid (w.drewN n) := h
theorem Laid.qw {w w' : World} (h : Laid w) (q : Qw w w') : Laid w' := by obtain ⟨n, rfl⟩ := q; exact h
theorem Laid.below {w w' : World} (h : Laid w) (hb : Below w.heap.size w w') : Laid w' :=
  ⟨fun i hi => (hb.cell (p := ⟨0, i, none⟩) (show (0 : Nat) < _ by have := h.2.2; omega)).trans (h.1 i hi), fun j hj => (hb.cell (p := ⟨1, j, none⟩) (show (1 : Nat) < _ by have := h.2.2; omega)).trans (h.2.1 j hj), by have := hb.size; have := h.2.2; omega⟩
def RetU (P : Nat → Prop) (e : Ending) : Prop := ∃ r : Nat, Hid (P r) ∧ e = .returned (.int .u64 (r : Int))
theorem and_one_u64 (E : Nat) (h : E < 18446744073709551616) : bits .and .u64 (E : Int) 1 = ((E % 2 : Nat) : Int) := by
  have := bits_and_u64_nat E 1 h (by decide)
  rw [show ((1 : Nat) : Int) = 1 from rfl] at this
  rw [this, Nat.and_one_is_mod]

set_option maxHeartbeats 400000 in
theorem tz64_core (x k idx : Nat) (w : World) (hx0 : ((x : Int) == 0) = false)
    (key : IntKind.u64.wrap (bits BinOp.and IntKind.u64 (x : Int) (IntKind.u64.wrap (-(x : Int))) * 285870213051353865) / 288230376151711744 = (idx : Int))
    (hi : idx < 64) (hk : k < 64) (hcell : w.cell? ⟨1, idx, none⟩ = some (.int .u8 k)) :
    Calls Tryd.prog 101 #[.int .u64 x] w fun e w' => e = .returned (.int .i64 k) ∧ w' = w := by
  go_enter Tryd.func101, Tryd.ntmps101
  go_wp2_with (simp only [key])
  go_ret
  exact ⟨rfl, rfl⟩
theorem tz64_c (x : Nat) (hx : x < 18446744073709551616) (h0 : 0 < x) (w : World) (hl : Laid w) :
    Calls Tryd.prog 101 #[.int .u64 x] w fun e w' => e = .returned (.int .i64 (Lib.ctz 64 x : Nat)) ∧ w' = w := by
  have hx0 : x ≠ 0 := by omega
  obtain ⟨hlow, hk⟩ := Lib.lowest_bit 64 x hx0 hx
  obtain ⟨hi, htab⟩ := Lib.deBruijn64_at _ hk
  have hcell := hl.2.1 _ hi
  rw [htab] at hcell
  exact tz64_core x _ _ w (by simp; omega) (tz64_key x _ hx hx0 hlow) hi hk hcell

set_option maxHeartbeats 400000 in
theorem pmul_core (a b m hi lo d r : Nat) (w : World)
    (c1 : ∀ w, Calls Tryd.prog 114 #[.int .u64 a, .int .u64 b] w fun e w' => e = .returned (.tuple #[.int .u64 hi, .int .u64 lo]) ∧ w' = w)
    (c2 : ∀ w, Calls Tryd.prog 115 #[.int .u64 hi, .int .u64 lo, .int .u64 m] w fun e w' => e = .returned (.tuple #[.int .u64 d, .int .u64 r]) ∧ ∃ n, w' = w.drewN n) :
    Calls Tryd.prog 143 #[.int .u64 a, .int .u64 b, .int .u64 m] w fun e w' => e = .returned (.int .u64 (r : Int)) ∧ Qw w w' := by
  go_enter Tryd.func143, Tryd.ntmps143
  go_wp2_with (first | (go_at_call 114; refine (c1 _).mono ?_; rintro e w' ⟨rfl, rfl⟩) | (go_at_call 115; refine (c2 _).mono ?_; rintro e w' ⟨rfl, n, rfl⟩))
  go_ret
  exact ⟨rfl, _, rfl⟩
theorem pmul_c (a b m : Nat) (w : World) (ha : (a : Int) < (m : Int)) (hb : (b : Int) < (m : Int)) (hm : (m : Int) ≤ 18446744073709551615) :
    Calls Tryd.prog 143 #[.int .u64 a, .int .u64 b, .int .u64 m] w fun e w' => RetU (fun r => r = a * b % m) e ∧ Qw w w' := by
  have hab : a * b < m * m := Nat.mul_lt_mul'' (by omega) (by omega)
  have hmm : m * m ≤ 18446744073709551616 * m := Nat.mul_le_mul_right _ (by omega)
  have hq : a * b / 18446744073709551616 < m := by
    rw [Nat.div_lt_iff_lt_mul (by omega)]; omega
  have hr : a * b % m < m := Nat.mod_lt _ (by omega)
  have hdm : a * b / 18446744073709551616 * 18446744073709551616 + a * b % 18446744073709551616 = a * b := by
    have := Nat.div_add_mod (a * b) 18446744073709551616; omega
  refine (pmul_core a b m _ _ (a * b / m) (a * b % m) w (fun w => Tryd.bits_Mul64 a b (by omega) (by omega) w) (fun w => ?_)).mono fun e w' ⟨he, hw⟩ => ⟨⟨_, Lib.hid rfl, he⟩, hw⟩
  have c := div64_c (a * b / 18446744073709551616) (a * b % 18446744073709551616) m w hq (Nat.mod_lt _ (by decide)) (by omega)
  rw [hdm] at c
  exact c

set_option maxHeartbeats 1000000 in
theorem ppow_c (a e m : Nat) (w : World) (ha : (a : Int) < (m : Int)) (he : (e : Int) ≤ 18446744073709551615) (h1 : 1 < (m : Int)) (hm : (m : Int) ≤ 18446744073709551615) :
    Calls Tryd.prog 142 #[.int .u64 a, .int .u64 e, .int .u64 m] w fun e' w' => RetU (fun r => r = a ^ e % m) e' ∧ Qw w w' := by
  have hst : Hid (1 * a ^ e % m = a ^ e % m) := Lib.hid (by rw [Nat.one_mul])
  have hm2 := Lib.hid hm
  clear hm
  go_enter Tryd.func142, Tryd.ntmps142
  go_wp2
  go_loopw [0, 1, 7] (fun s0 s1 s9 wr => ∃ A E X : Nat, s0 = .int .u64 A ∧ s1 = .int .u64 E ∧ s9 = .int .u64 X ∧ (A : Int) < (m : Int) ∧ (E : Int) ≤ 18446744073709551615 ∧ (X : Int) < (m : Int) ∧ Hid (X * A ^ E % m = a ^ e % m) ∧ Qw w wr) (fun _ s1 _ _ => (RowKit.intOf s1).toNat)
  case atStart => exact ⟨a, e, 1, rfl, rfl, rfl, ha, he, h1, hst, Qw.refl _⟩
  case round =>
    obtain ⟨A, E, X, rfl, rfl, rfl, hA, hE, hX, HI, n, rfl⟩ := hrel
    by_cases h0 : E = 0
    · have hdone : Hid (X = a ^ e % m) := Lib.hid (by
        have := HI.out
        rw [h0, Nat.pow_zero, Nat.mul_one, Nat.mod_eq_of_lt (by omega)] at this
        exact this)
      subst h0
      clear HI
      go_wp2
      go_ret
      exact ⟨⟨X, hdone, rfl⟩, _, rfl⟩
    · have hg : decide (0 < E) = true := decide_eq_true (by omega)
      have hp := pow_half X A E m
      rw [HI.out] at hp
      have eb := and_one_u64 E (by omega)
      by_cases h2 : E % 2 = 1
      · rw [if_pos h2] at hp
        rw [h2] at eb
        have HP := Lib.hid hp
        clear hp HI h2
        go_wp2_with fail
        refine (pmul_c X A m _ hX hA hm2.out).mono ?_; rintro e1 w1 ⟨⟨X2, hX2, rfl⟩, n1, rfl⟩
        have bX2 : (X2 : Int) < (m : Int) := by rw [hX2.out]; have := Nat.mod_lt (X * A) (show 0 < m by omega); omega
        go_wp2_with fail
        refine (pmul_c A A m _ hA hA hm2.out).mono ?_; rintro e1 w1 ⟨⟨A2, hA2, rfl⟩, n2, rfl⟩
        have bA2 : (A2 : Int) < (m : Int) := by rw [hA2.out]; have := Nat.mod_lt (A * A) (show 0 < m by omega); omega
        have HR : Hid (X2 * A2 ^ (E / 2) % m = a ^ e % m) := Lib.hid (by rw [hX2.out, hA2.out]; exact HP.out)
        clear HP hX2 hA2
        go_wp2
        go_roundw
        case rel => exact ⟨A2, E / 2, X2, rfl, by go_num, rfl, bA2, by omega, bX2, HR, _, rfl⟩
        case measure => simp [RowKit.intOf]; omega
      · rw [if_neg h2] at hp
        rw [show E % 2 = 0 by omega] at eb
        have HP := Lib.hid hp
        clear hp HI h2
        go_wp2_with fail
        refine (pmul_c A A m _ hA hA hm2.out).mono ?_; rintro e1 w1 ⟨⟨A2, hA2, rfl⟩, n2, rfl⟩
        have bA2 : (A2 : Int) < (m : Int) := by rw [hA2.out]; have := Nat.mod_lt (A * A) (show 0 < m by omega); omega
        have HR : Hid (X * A2 ^ (E / 2) % m = a ^ e % m) := Lib.hid (by rw [hA2.out]; exact HP.out)
        clear HP hA2
        go_wp2
        go_roundw
        case rel => exact ⟨A2, E / 2, X, rfl, by go_num, rfl, bA2, by omega, hX, HR, _, rfl⟩
        case measure => simp [RowKit.intOf]; omega
end Go.Proofs.YteipbcpnnojclaaDoor

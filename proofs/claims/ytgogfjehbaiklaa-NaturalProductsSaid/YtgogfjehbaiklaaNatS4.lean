/- Shift, for the walks of statements. -/
import Derived.Test.YtgogfjehbaiklaaNatS3
namespace Go.Proofs.Ytgogfjehbaiklaa
open Go.RowKit NatMath
set_option linter.unusedVariables false

theorem shlB {a : Value} {N n V : Nat} {c : Int} {w : World} (h : Hid (BV (N * 2 ^ n) V c)) (ha : Nt w a N) (hl : len N ≤ 64) (h2 : (n : Int) ≤ 10000) :
    Calls Try.prog 15 #[.agg #[a], .int .i64 (n : Int)] w fun e w' => ResN V c e w' ∧ Below w.heap.size w w' := by
  by_cases h0 : N = 0
  · subst h0
    rw [Nat.zero_mul] at h
    rcases h.out with ⟨_, rfl, rfl⟩ | ⟨h, _⟩
    · refine (Shift_zero a n w ha (by omega) h2).mono ?_
      rintro e w' ⟨rfl, hb⟩
      exact ⟨errN.res _ _, hb⟩
    · exact absurd (by rw [len_zero]; omega) h
  · exact (Shift_left a N n w ha hl h0 h2).mono (fun e w' k => And.intro (BV.post h k.1) k.2)
theorem shrB {a : Value} {N n R : Nat} {w : World} (h : Hid (N / 2 ^ n = R)) (ha : Nt w a N) (hl : len N ≤ 64) (h2 : (n : Int) ≤ 10000) :
    Calls Try.prog 15 #[.agg #[a], .int .i64 (-(n : Int))] w fun e w' => ResN R 0 e w' ∧ Below w.heap.size w w' := by
  by_cases h0 : N = 0
  · subst h0
    have : R = 0 := by rw [← h.out, Nat.zero_div]
    subst this
    refine (Shift_zero a (-(n : Int)) w ha (by omega) (by omega)).mono ?_
    rintro e w' ⟨rfl, hb⟩
    exact ⟨errN.res _ _, hb⟩
  · by_cases hn : n = 0
    · subst hn
      have e1 : R = N := by rw [← h.out, Nat.pow_zero, Nat.div_one]
      subst e1
      exact shlB (n := 0) (Lib.hid (Or.inl ⟨by rw [Nat.pow_zero, Nat.mul_one]; exact hl, by rw [Nat.pow_zero, Nat.mul_one], rfl⟩)) ha hl (by omega)
    · rw [← h.out]
      exact (Shift_right a N n w ha hl h0 (by omega) h2).mono (fun e w' k => And.intro k.1.res k.2)
theorem bitsB {a : Value} {N b : Nat} {w : World} (h : Hid (bl N = b)) (ha : Nt w a N) (hl : len N ≤ 64) :
    Calls Try.prog 28 #[.agg #[a]] w fun e w' => e = .returned (.int .i64 (b : Int)) ∧ Below w.heap.size w w' := by
  rw [← h.out]; exact Bits_c a N w ha hl
theorem bitB {a : Value} {N i : Nat} {t : Bool} {w : World} (h : Hid (bt N i = t)) (ha : Nt w a N) (hl : len N ≤ 64) (hi : (i : Int) ≤ 1000000) :
    Calls Try.prog 29 #[.agg #[a], .int .i64 (i : Int)] w fun e w' => e = .returned (.bool t) ∧ Below w.heap.size w w' := by
  rw [← h.out]; exact Bit_c a N i w ha hl (by omega)
theorem bt_shift (N k i : Nat) : bt (N / 2 ^ k) i = bt N (i + k) := by
  unfold bt; rw [Nat.div_div_eq_div_mul, ← Nat.pow_add, Nat.add_comm]
theorem len_pow (k : Nat) : len (2 ^ k) ≤ 64 ↔ k < 2048 := by
  have h1 : bl (2 ^ k) = 1 + k := by
    have := bl_shift (n := 1) (k := k) (by omega)
    rwa [Nat.one_mul, show bl 1 = 1 from rfl] at this
  rw [len_bl, h1]; omega
theorem one_len : len 1 = 1 := by rw [len_pos (by omega), show 1 / 4294967296 = 0 from rfl, len_zero]
end Go.Proofs.Ytgogfjehbaiklaa

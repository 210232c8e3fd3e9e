/- math/bits.Div64 and package word's mul, by contract: for every input in range they return the quotient and the remainder, and the product's residue. -/
import Derived.Test.YteipbcpnnojclaaDoorDiv64
import Derived.Lib.ItoaNum
import Derived.RowKit3
namespace Go.Proofs.YteipbcpnnojclaaDoor
open Go.RowKit DivMath
set_option linter.unusedVariables false

theorem int_pow (s : Nat) : (2 : Int) ^ s = ((2 ^ s : Nat) : Int) := by rw [Int.natCast_pow]; rfl
theorem and_mask (a : Nat) (ha : a < 18446744073709551616) : bits .and .u64 (a : Int) 4294967295 = ((a % 4294967296 : Nat) : Int) := by
  have h := bits_and_u64_nat a 4294967295 ha (by omega)
  have e : a &&& 4294967295 = a % 4294967296 := Nat.and_two_pow_sub_one_eq_mod a 32
  rw [e] at h
  exact h
theorem wrap_is (n : Nat) : IntKind.u64.wrap (n : Int) = ((n % 18446744073709551616 : Nat) : Int) := by rw [IntKind.wrap_u64]; omega
theorem or_add (h s l : Nat) (hl : l < 2 ^ s) : h * 2 ^ s ||| l = h * 2 ^ s + l := by
  have := Nat.shiftLeft_add_eq_or_of_lt hl h
  rw [Nat.shiftLeft_eq] at this
  exact this.symm
theorem sub_wrap (a b : Nat) (h : b ≤ a) (hd : a - b < 18446744073709551616) :
    IntKind.u64.wrap (((a % 18446744073709551616 : Nat) : Int) - ((b % 18446744073709551616 : Nat) : Int)) = ((a - b : Nat) : Int) := by
  rw [IntKind.wrap_u64]; omega

theorem rem_wrap (u d q v r : Nat) (h : v * q + r = u * 4294967296 + d) (hr : r < 18446744073709551616) :
    IntKind.u64.wrap (IntKind.u64.wrap (IntKind.u64.wrap ((u : Int) * 4294967296) + (d : Int)) - IntKind.u64.wrap ((q : Int) * (v : Int))) = (r : Int) := by
  have e : (q : Int) * (v : Int) = (u : Int) * 4294967296 + (d : Int) - (r : Int) := by
    rw [← Int.natCast_mul, Nat.mul_comm]; omega
  rw [e]
  simp only [IntKind.wrap_u64]
  omega

/-- the shift that makes the divisor's upper bit 1 -/
theorem shift_of (y : Nat) (h0 : 0 < y) (hy : y < 18446744073709551616) :
    Lib.bitLen y ≤ 64 ∧ 1 ≤ Lib.bitLen y ∧ 9223372036854775808 ≤ y * 2 ^ (64 - Lib.bitLen y) ∧ y * 2 ^ (64 - Lib.bitLen y) < 18446744073709551616 := by
  have hb := Lib.bitLenAux_bounds 64 y hy (by omega)
  have hle : Lib.bitLen y ≤ 64 := Lib.bitLen_le y 64 (Nat.le_refl _) hy
  unfold Lib.bitLen at *
  generalize Lib.bitLenAux 64 y = L at *
  obtain ⟨h1, h2, h3⟩ := hb
  refine ⟨hle, h1, ?_, ?_⟩
  · have : (9223372036854775808 : Nat) = 2 ^ (L - 1) * 2 ^ (64 - L) := by
      rw [← Nat.pow_add, show L - 1 + (64 - L) = 63 by omega]
    rw [this]; exact Nat.mul_le_mul_right _ h2
  · have : (18446744073709551616 : Nat) = 2 ^ L * 2 ^ (64 - L) := by
      rw [← Nat.pow_add, show L + (64 - L) = 64 by omega]
    rw [this]; exact Nat.mul_lt_mul_of_pos_right h3 (Nat.two_pow_pos _)

/-- the division by digits, on plain numbers -/
theorem digits_math (hi lo y s : Nat) (hlt : hi < y) (hlo : lo < 18446744073709551616) (hs : s < 64) (hv1 : 9223372036854775808 ≤ y * 2 ^ s) (hv2 : y * 2 ^ s < 18446744073709551616) :
    ∃ v v1 v0 u t d1 d0 : Nat, v = y * 2 ^ s ∧ v1 = v / 4294967296 ∧ v0 = v % 4294967296 ∧ v = v1 * 4294967296 + v0 ∧ 2147483648 ≤ v1 ∧ v1 < 4294967296 ∧ v0 < 4294967296 ∧
      hi * 2 ^ s < 18446744073709551616 ∧ u = hi * 2 ^ s + lo / 2 ^ (64 - s) ∧ u < v ∧ lo / 2 ^ (64 - s) < 2 ^ s ∧ t = lo * 2 ^ s % 18446744073709551616 ∧ d1 = t / 4294967296 ∧ d0 = t % 4294967296 ∧ d1 < 4294967296 ∧ d0 < 4294967296 ∧
      (u * 4294967296 + d1) * 4294967296 + d0 = (hi * 18446744073709551616 + lo) * 2 ^ s := by
  refine ⟨_, _, _, _, _, _, _, rfl, rfl, rfl, by omega, by omega, by omega, by omega, ?_, rfl, ?_, ?_, rfl, rfl, rfl, by omega, by omega, ?_⟩
  · exact Nat.lt_of_le_of_lt (Nat.mul_le_mul_right _ (Nat.le_of_lt hlt)) hv2
  · have hl : lo / 2 ^ (64 - s) < 2 ^ s := by
      rw [Nat.div_lt_iff_lt_mul (Nat.two_pow_pos _), ← Nat.pow_add, show s + (64 - s) = 64 by omega]; exact hlo
    have : (hi + 1) * 2 ^ s ≤ y * 2 ^ s := Nat.mul_le_mul_right _ hlt
    rw [Nat.add_mul] at this; omega
  · rw [Nat.div_lt_iff_lt_mul (Nat.two_pow_pos _), ← Nat.pow_add, show s + (64 - s) = 64 by omega]; exact hlo
  · have h := shifted hi lo y s hs hlo
    rw [← h]
    clear h hv1 hv2
    generalize hi * 2 ^ s + lo / 2 ^ (64 - s) = a
    generalize lo * 2 ^ s % 18446744073709551616 = b
    omega

set_option maxRecDepth 100000 in
set_option maxHeartbeats 1000000 in
theorem div64_c (hi lo y : Nat) (w : World) (hlt : hi < y) (hlo : lo < 18446744073709551616) (hy : y < 18446744073709551616) :
    Calls Tryd.prog 115 #[.int .u64 hi, .int .u64 lo, .int .u64 y] w fun e w' => e = .returned (.tuple #[.int .u64 (((hi * 18446744073709551616 + lo) / y : Nat) : Int),
      .int .u64 (((hi * 18446744073709551616 + lo) % y : Nat) : Int)]) ∧ ∃ n, w' = w.drewN n := by
  by_cases hz : hi = 0
  · subst hz
    have hyz : ((y : Int) == 0) = false := by simp; omega
    have hge : decide (y ≤ 0) = false := decide_eq_false (by omega)
    have ey : IntKind.u64.wrap ((lo : Int) / (y : Int)) = ((lo / y : Nat) : Int) := by
      rw [← Int.natCast_ediv]; exact wrap_fits _ (Nat.lt_of_le_of_lt (Nat.div_le_self _ _) hlo)
    have er : IntKind.u64.wrap ((lo : Int) % (y : Int)) = ((lo % y : Nat) : Int) := by
      rw [← Int.natCast_emod]; exact wrap_fits _ (Nat.lt_of_le_of_lt (Nat.mod_le _ _) hlo)
    have hlt' : 0 < (y : Int) := by omega
    clear hlo hy hlt
    go_enter Tryd.func115, Tryd.ntmps115
    go_wp2
    go_quiet (fail)
    go_wp2
    go_ret2
    refine ⟨by simp, _, rfl⟩
  · obtain ⟨k1, k2, k3, k4⟩ := shift_of y (by omega) hy
    have HL : Calls Tryd.prog 149 #[.int .u64 y] w fun e w' => e = .returned (.int .i64 ((64 - Lib.bitLen y : Nat) : Int)) ∧ w = w' :=
      (Tryd.bits_LeadingZeros64 (y : Int) w (by omega) (by omega)).mono fun e w' ⟨he, hw⟩ => ⟨by rw [he, Int.toNat_natCast]; congr 2; omega, hw.symm⟩
    have hs : 64 - Lib.bitLen y < 64 := by omega
    generalize 64 - Lib.bitLen y = s at *
    obtain ⟨v, v1, v0, u, t, d1, d0, hv, hv1, hv0, hvv, b1, b1', b0, hH, hu, huv, hL, ht, hd1, hd0, b2, b3, hN⟩ := digits_math hi lo y s hlt hlo hs k3 k4
    have hvlt : v < 18446744073709551616 := by omega
    have hvpos : 0 < v := by omega
    have huv' : u < v1 * 4294967296 + v0 := by omega
    have hult : u < 18446744073709551616 := by omega
    have i0 := inv_start b1 b1' b0 b2 huv'
    -- the first digit and its rest
    have hq1 := lt_base b2 huv'
    have hmod1 := Nat.div_add_mod (u * 4294967296 + d1) v
    have hlt1 := Nat.mod_lt (u * 4294967296 + d1) hvpos
    rw [← hvv] at hq1
    obtain ⟨un, hun⟩ : ∃ un, un = (u * 4294967296 + d1) % v := ⟨_, rfl⟩
    obtain ⟨q1, hq1d⟩ : ∃ q1, q1 = (u * 4294967296 + d1) / v := ⟨_, rfl⟩
    have hunv : un < v1 * 4294967296 + v0 := by rw [← hvv, hun]; exact hlt1
    have i1 := inv_start b1 b1' b0 b3 hunv
    have hq2 := lt_base b3 hunv
    rw [← hvv] at hq2
    obtain ⟨q2, hq2d⟩ : ∃ q2, q2 = (un * 4294967296 + d0) / v := ⟨_, rfl⟩
    have hmod2 := Nat.div_add_mod (un * 4294967296 + d0) v
    have hlt2 := Nat.mod_lt (un * 4294967296 + d0) hvpos
    obtain ⟨td1, td2⟩ := two_digits v u d1 d0 hvpos b3
    rw [hN] at td1 td2
    obtain ⟨ush1, ush2⟩ := unshift (hi * 18446744073709551616 + lo) y s
    rw [← hv] at ush1 ush2
    rw [ush1] at td1
    have hfin1 : q1 * 4294967296 + q2 = (hi * 18446744073709551616 + lo) / y := by rw [hq1d, hq2d, hun]; exact td1
    have hfin2 : (un * 4294967296 + d0) % v / 2 ^ s = (hi * 18446744073709551616 + lo) % y := by rw [hun, td2]; exact ush2
    have hq1lt : q1 < 4294967296 := by rw [hq1d]; exact hq1
    have hq2lt : q2 < 4294967296 := by rw [hq2d]; exact hq2
    have hu1 : u / v1 < 18446744073709551616 := Nat.lt_of_le_of_lt (Nat.div_le_self _ _) hult
    have hunlt : un < 18446744073709551616 := by omega
    have hun1 : un / v1 < 18446744073709551616 := Nat.lt_of_le_of_lt (Nat.div_le_self _ _) hunlt
    rw [← hq1d, ← hun] at hmod1
    rw [← hq2d] at hmod2
    have main := div64_long hi lo y s (hi * 2 ^ s) (lo / 2 ^ (64 - s)) v v1 v0 u t d1 d0 (u / v1) (u % v1) q1 un (un / v1) (un % v1) q2 w (decide_eq_false (by omega)) (by simp; omega) (by simp; omega) hs HL
      (by rw [int_pow, ← Int.natCast_mul, ← hv]; exact wrap_fits _ hvlt)
      (by rw [hv1]; rfl) (by rw [and_mask _ hvlt, hv0])
      (by rw [int_pow, ← Int.natCast_mul]; exact wrap_fits _ hH)
      (by rw [int_pow, ← Int.natCast_ediv])
      (by rw [bits_or_u64_nat _ _ hH (Nat.lt_of_lt_of_le hL (by calc 2 ^ s ≤ 2 ^ 64 := Nat.pow_le_pow_right (by omega) (by omega)
            _ = _ := rfl)), or_add _ _ _ hL, ← hu])
      (by rw [int_pow, ← Int.natCast_mul, wrap_is, ← ht])
      (by rw [hd1]; rfl) (by rw [and_mask _ (by omega), hd0])
      (by omega) (by omega) (by omega) (by omega) (by omega)
      (by rw [← Int.natCast_ediv]; exact wrap_fits _ hu1)
      (by
        have hm := Nat.div_add_mod u v1
        have hmul : u / v1 * v1 ≤ u := Nat.div_mul_le_self u v1
        rw [← Int.natCast_mul, wrap_is, Nat.mod_eq_of_lt (Nat.lt_of_le_of_lt hmul hult)]
        rw [IntKind.wrap_u64]
        rw [Nat.mul_comm] at hm
        omega)
      (by omega) (by omega) (Lib.hid huv') (Lib.hid i0) (Lib.hid (by rw [← hvv]; exact hq1d))
      (rem_wrap u d1 q1 v un hmod1 hunlt)
      (by rw [← Int.natCast_ediv]; exact wrap_fits _ hun1)
      (by
        have hm := Nat.div_add_mod un v1
        have hmul : un / v1 * v1 ≤ un := Nat.div_mul_le_self un v1
        rw [← Int.natCast_mul, wrap_is, Nat.mod_eq_of_lt (Nat.lt_of_le_of_lt hmul hunlt)]
        rw [IntKind.wrap_u64]
        rw [Nat.mul_comm] at hm
        omega)
      (Lib.hid i1) (Lib.hid hunv) (Lib.hid (by rw [← hvv]; exact hq2d))
    refine main.mono fun e w' ⟨he, hw⟩ => ⟨?_, 0, by rw [← hw]; rfl⟩
    rw [he, rem_wrap un d0 q2 v _ hmod2 (Nat.lt_trans hlt2 hvlt), int_pow, ← Int.natCast_ediv, hfin2, ← hfin1]
    rfl
end Go.Proofs.YteipbcpnnojclaaDoor

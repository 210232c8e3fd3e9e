/- The contract of math/bits.Div64: quotient and remainder of two words by one, where the upper word is less than the divisor. -/
import Derived.Test.YteipbcpnnojclaaDoorProg
import Derived.WalkKit
import Derived.WalkLawsBesides
import Derived.Lib.Hide
import Derived.Outline
import Derived.BigQuiet
import Derived.Deep.QuietTactic
import Derived.Laws.Bits64b
import Derived.Test.YteipbcpnnojclaaDoorShelf
import Derived.Test.YteipbcpnnojclaaDoorDivMath
namespace Go.Proofs.YteipbcpnnojclaaDoor
open Go.RowKit

open DivMath Lib

theorem wrap_fits (n : Nat) (h : n < 18446744073709551616) : IntKind.u64.wrap (n : Int) = (n : Int) := by rw [IntKind.wrap_u64]; omega

/-- what one round of the loop does: three ways, each with what the walk asks -/
theorem round_ways {v1 v0 u d q r q1 : Nat} (hd : d < 4294967296) (h1 : 2147483648 ≤ v1) (h0 : v0 < 4294967296) (hu : u < v1 * 4294967296 + v0) (Q1 : q1 = (u * 4294967296 + d) / (v1 * 4294967296 + v0)) (I : Inv v1 v0 u d q r) :
    ∃ m : Nat, (((q : Int) < 4294967296 ∧ IntKind.u64.wrap ((q : Int) * (v0 : Int)) = (m : Int) ∧ 0 ≤ (r : Int) ∧ (r : Int) < 4294967296) ∧
      (((m : Int) ≤ 4294967296 * (r : Int) + (d : Int) ∧ q = q1) ∨ (4294967296 * (r : Int) + (d : Int) < (m : Int) ∧ 1 ≤ (q : Int) ∧
        (((r : Int) + (v1 : Int) < 4294967296 ∧ Inv v1 v0 u d (q - 1) (r + v1)) ∨ (4294967296 ≤ (r : Int) + (v1 : Int) ∧ (q : Int) - 1 = (q1 : Int)))))) ∨
      ((4294967296 ≤ (q : Int) ∧ (q : Int) ≤ 4294967297 ∧ 0 ≤ (r : Int) ∧ (r : Int) < 4294967296) ∧
        (((r : Int) + (v1 : Int) < 4294967296 ∧ Inv v1 v0 u d (q - 1) (r + v1)) ∨ (4294967296 ≤ (r : Int) + (v1 : Int) ∧ (q : Int) - 1 = (q1 : Int)))) := by
  have hr : r < 4294967296 := I.2.2.2
  have hq : q ≤ 4294967297 := I.2.1
  refine ⟨q * v0, ?_⟩
  rcases Nat.lt_or_ge q 4294967296 with c1 | c1
  · refine Or.inl ⟨⟨by omega, ?_, by omega, by omega⟩, ?_⟩
    · rw [← Int.natCast_mul]; apply wrap_fits
      exact Nat.lt_of_le_of_lt (Nat.mul_le_mul (Nat.le_of_lt_succ c1) (Nat.le_of_lt h0)) (by decide)
    · rcases Nat.lt_or_ge (4294967296 * r + d) (q * v0) with c2 | c2
      · have hm := inv_more hd h1 hu I (Or.inr c2)
        have h2 : 1 ≤ q := Nat.le_trans (Nat.le_add_left 1 _) hm
        refine Or.inr ⟨by omega, by omega, ?_⟩
        rcases Nat.lt_or_ge (r + v1) 4294967296 with c3 | c3
        · exact Or.inl ⟨by omega, inv_step hd h1 hu I (Or.inr c2) c3⟩
        · have hl := inv_last hd h1 h0 hu I (Or.inr c2) c3
          rw [← Q1] at hl
          exact Or.inr ⟨by omega, by omega⟩
      · exact Or.inl ⟨by omega, (inv_done hd h1 I c2).trans Q1.symm⟩
  · refine Or.inr ⟨⟨by omega, by omega, by omega, by omega⟩, ?_⟩
    have hm := inv_more hd h1 hu I (Or.inl c1)
    rcases Nat.lt_or_ge (r + v1) 4294967296 with c3 | c3
    · exact Or.inl ⟨by omega, inv_step hd h1 hu I (Or.inl c1) c3⟩
    · have hl := inv_last hd h1 h0 hu I (Or.inl c1) c3
      rw [← Q1] at hl
      exact Or.inr ⟨by omega, by omega⟩

set_option maxRecDepth 100000 in
set_option maxHeartbeats 1000000 in
theorem div64_long (hi lo y s H L v v1 v0 u t d1 d0 q0 r0 q1 un p0 z0 q2 : Nat) (w : World) (hlt : decide (y ≤ hi) = false) (h0 : ((hi : Int) == 0) = false) (hyz : ((y : Int) == 0) = false) (hs : s < 64)
    (HL : Calls Tryd.prog 149 #[.int .u64 y] w fun e w' => e = .returned (.int .i64 (s : Int)) ∧ w = w')
    (e1 : IntKind.u64.wrap ((y : Int) * 2 ^ s) = (v : Int)) (e2 : (v : Int) / 4294967296 = (v1 : Int)) (e3 : bits .and .u64 (v : Int) 4294967295 = (v0 : Int))
    (e4 : IntKind.u64.wrap ((hi : Int) * 2 ^ s) = (H : Int)) (e5 : (lo : Int) / 2 ^ (64 - s) = (L : Int)) (e6 : bits .or .u64 (H : Int) (L : Int) = (u : Int))
    (e7 : IntKind.u64.wrap ((lo : Int) * 2 ^ s) = (t : Int)) (e8 : (t : Int) / 4294967296 = (d1 : Int)) (e9 : bits .and .u64 (t : Int) 4294967295 = (d0 : Int))
    (b1 : 2147483648 ≤ (v1 : Int)) (b1' : (v1 : Int) < 4294967296) (b0 : (v0 : Int) < 4294967296) (hd1 : (d1 : Int) < 4294967296) (hd0 : (d0 : Int) < 4294967296)
    (eA : IntKind.u64.wrap ((u : Int) / (v1 : Int)) = (q0 : Int)) (eB : IntKind.u64.wrap ((u : Int) - IntKind.u64.wrap ((q0 : Int) * (v1 : Int))) = (r0 : Int))
    (bq1 : (q1 : Int) < 4294967296) (bq2 : (q2 : Int) < 4294967296) (hu : Hid (u < v1 * 4294967296 + v0)) (I0 : Hid (Inv v1 v0 u d1 q0 r0)) (Q1 : Hid (q1 = (u * 4294967296 + d1) / (v1 * 4294967296 + v0)))
    (eC : IntKind.u64.wrap (IntKind.u64.wrap (IntKind.u64.wrap ((u : Int) * 4294967296) + (d1 : Int)) - IntKind.u64.wrap ((q1 : Int) * (v : Int))) = (un : Int))
    (eD : IntKind.u64.wrap ((un : Int) / (v1 : Int)) = (p0 : Int)) (eE : IntKind.u64.wrap ((un : Int) - IntKind.u64.wrap ((p0 : Int) * (v1 : Int))) = (z0 : Int))
    (I1 : Hid (Inv v1 v0 un d0 p0 z0)) (hun : Hid (un < v1 * 4294967296 + v0)) (Q2 : Hid (q2 = (un * 4294967296 + d0) / (v1 * 4294967296 + v0))) :
    Calls Tryd.prog 115 #[.int .u64 hi, .int .u64 lo, .int .u64 y] w fun e w' => e = .returned (.tuple #[.int .u64 ((q1 : Int) * 4294967296 + (q2 : Int)),
      .int .u64 (IntKind.u64.wrap (IntKind.u64.wrap (IntKind.u64.wrap ((un : Int) * 4294967296) + (d0 : Int)) - IntKind.u64.wrap ((q2 : Int) * (v : Int))) / 2 ^ s)]) ∧ w = w' := by
  go_enter Tryd.func115, Tryd.ntmps115
  go_wp2_with (first | (go_at_call 149; refine HL.mono ?_; rintro e w' ⟨rfl, rfl⟩))
  go_loop [15, 16] (fun a b => ∃ q r : Nat, a = .int .u64 q ∧ b = .int .u64 r ∧ Hid (Inv v1 v0 u d1 q r)) (fun a _ => (RowKit.intOf a).toNat)
  case atStart => exact ⟨q0, r0, rfl, rfl, I0⟩
  case round =>
    obtain ⟨q, r, rfl, rfl, J⟩ := hrel
    obtain ⟨m, ⟨⟨a1, em, a2, a3⟩, ⟨a4, rfl⟩ | ⟨a4, a5, ⟨a6, a7⟩ | ⟨a6, a7⟩⟩⟩ | ⟨⟨a1, a2, a3, a4⟩, ⟨a6, a7⟩ | ⟨a6, a7⟩⟩⟩ := round_ways (by omega) (by omega) (by omega) hu.out Q1.out J.out
    · have a0 : decide (4294967296 ≤ (q : Int)) = false := decide_eq_false (by omega)
      have a6 : decide (4294967296 * (r : Int) + (d1 : Int) < (m : Int)) = false := decide_eq_false (by omega)
      go_wp2
      go_loop [18, 16] (fun a b => ∃ q r : Nat, a = .int .u64 q ∧ b = .int .u64 r ∧ Hid (Inv v1 v0 un d0 q r)) (fun a _ => (RowKit.intOf a).toNat)
      case atStart => exact ⟨p0, z0, rfl, rfl, I1⟩
      case round =>
        obtain ⟨p, z, rfl, rfl, Jz⟩ := hrel
        obtain ⟨mz, ⟨⟨f1, emz, f2, f3⟩, ⟨f4, f5⟩ | ⟨f4, f5, ⟨f6, f7⟩ | ⟨f6, f7⟩⟩⟩ | ⟨⟨f1, f2, f3, f4⟩, ⟨f6, f7⟩ | ⟨f6, f7⟩⟩⟩ := round_ways (by omega) (by omega) (by omega) hun.out Q2.out Jz.out
        · subst f5
          have f0 : decide (4294967296 ≤ (p : Int)) = false := decide_eq_false (by omega)
          have f6 : decide (4294967296 * (z : Int) + (d0 : Int) < (mz : Int)) = false := decide_eq_false (by omega)
          go_wp2
          go_ret2
          exact ⟨rfl, rfl⟩
        · have f8 := Lib.hid f7
          clear f7
          have f9 : decide (4294967296 ≤ (z : Int) + (v1 : Int)) = false := decide_eq_false (by omega)
          go_wp2
          go_round
          case rel => exact ⟨p - 1, z + v1, by go_num, by go_num, f8⟩
          case measure => simp [RowKit.intOf]; omega
        · have f9 : decide (4294967296 ≤ (z : Int) + (v1 : Int)) = true := decide_eq_true f6
          go_wp2
          go_ret2
          exact ⟨rfl, rfl⟩
        · have f8 := Lib.hid f7
          clear f7
          have f9 : decide (4294967296 ≤ (z : Int) + (v1 : Int)) = false := decide_eq_false (by omega)
          go_wp2
          go_round
          case rel => exact ⟨p - 1, z + v1, by go_num, by go_num, f8⟩
          case measure => simp [RowKit.intOf]; omega
        · have f9 : decide (4294967296 ≤ (z : Int) + (v1 : Int)) = true := decide_eq_true f6
          go_wp2
          go_ret2
          exact ⟨rfl, rfl⟩
    · have a8 := Lib.hid a7
      clear a7
      have a9 : decide (4294967296 ≤ (r : Int) + (v1 : Int)) = false := decide_eq_false (by omega)
      go_wp2
      go_round
      case rel => exact ⟨q - 1, r + v1, by go_num, by go_num, a8⟩
      case measure => simp [RowKit.intOf]; omega
    · have a9 : decide (4294967296 ≤ (r : Int) + (v1 : Int)) = true := decide_eq_true a6
      go_wp2
      go_loop [18, 16] (fun a b => ∃ q r : Nat, a = .int .u64 q ∧ b = .int .u64 r ∧ Hid (Inv v1 v0 un d0 q r)) (fun a _ => (RowKit.intOf a).toNat)
      case atStart => exact ⟨p0, z0, rfl, rfl, I1⟩
      case round =>
        obtain ⟨p, z, rfl, rfl, Jz⟩ := hrel
        obtain ⟨mz, ⟨⟨f1, emz, f2, f3⟩, ⟨f4, f5⟩ | ⟨f4, f5, ⟨f6, f7⟩ | ⟨f6, f7⟩⟩⟩ | ⟨⟨f1, f2, f3, f4⟩, ⟨f6, f7⟩ | ⟨f6, f7⟩⟩⟩ := round_ways (by omega) (by omega) (by omega) hun.out Q2.out Jz.out
        · subst f5
          have f0 : decide (4294967296 ≤ (p : Int)) = false := decide_eq_false (by omega)
          have f6 : decide (4294967296 * (z : Int) + (d0 : Int) < (mz : Int)) = false := decide_eq_false (by omega)
          go_wp2
          go_ret2
          exact ⟨rfl, rfl⟩
        · have f8 := Lib.hid f7
          clear f7
          have f9 : decide (4294967296 ≤ (z : Int) + (v1 : Int)) = false := decide_eq_false (by omega)
          go_wp2
          go_round
          case rel => exact ⟨p - 1, z + v1, by go_num, by go_num, f8⟩
          case measure => simp [RowKit.intOf]; omega
        · have f9 : decide (4294967296 ≤ (z : Int) + (v1 : Int)) = true := decide_eq_true f6
          go_wp2
          go_ret2
          exact ⟨rfl, rfl⟩
        · have f8 := Lib.hid f7
          clear f7
          have f9 : decide (4294967296 ≤ (z : Int) + (v1 : Int)) = false := decide_eq_false (by omega)
          go_wp2
          go_round
          case rel => exact ⟨p - 1, z + v1, by go_num, by go_num, f8⟩
          case measure => simp [RowKit.intOf]; omega
        · have f9 : decide (4294967296 ≤ (z : Int) + (v1 : Int)) = true := decide_eq_true f6
          go_wp2
          go_ret2
          exact ⟨rfl, rfl⟩
    · have a8 := Lib.hid a7
      clear a7
      have a9 : decide (4294967296 ≤ (r : Int) + (v1 : Int)) = false := decide_eq_false (by omega)
      go_wp2
      go_round
      case rel => exact ⟨q - 1, r + v1, by go_num, by go_num, a8⟩
      case measure => simp [RowKit.intOf]; omega
    · have a9 : decide (4294967296 ≤ (r : Int) + (v1 : Int)) = true := decide_eq_true a6
      go_wp2
      go_loop [18, 16] (fun a b => ∃ q r : Nat, a = .int .u64 q ∧ b = .int .u64 r ∧ Hid (Inv v1 v0 un d0 q r)) (fun a _ => (RowKit.intOf a).toNat)
      case atStart => exact ⟨p0, z0, rfl, rfl, I1⟩
      case round =>
        obtain ⟨p, z, rfl, rfl, Jz⟩ := hrel
        obtain ⟨mz, ⟨⟨f1, emz, f2, f3⟩, ⟨f4, f5⟩ | ⟨f4, f5, ⟨f6, f7⟩ | ⟨f6, f7⟩⟩⟩ | ⟨⟨f1, f2, f3, f4⟩, ⟨f6, f7⟩ | ⟨f6, f7⟩⟩⟩ := round_ways (by omega) (by omega) (by omega) hun.out Q2.out Jz.out
        · subst f5
          have f0 : decide (4294967296 ≤ (p : Int)) = false := decide_eq_false (by omega)
          have f6 : decide (4294967296 * (z : Int) + (d0 : Int) < (mz : Int)) = false := decide_eq_false (by omega)
          go_wp2
          go_ret2
          exact ⟨rfl, rfl⟩
        · have f8 := Lib.hid f7
          clear f7
          have f9 : decide (4294967296 ≤ (z : Int) + (v1 : Int)) = false := decide_eq_false (by omega)
          go_wp2
          go_round
          case rel => exact ⟨p - 1, z + v1, by go_num, by go_num, f8⟩
          case measure => simp [RowKit.intOf]; omega
        · have f9 : decide (4294967296 ≤ (z : Int) + (v1 : Int)) = true := decide_eq_true f6
          go_wp2
          go_ret2
          exact ⟨rfl, rfl⟩
        · have f8 := Lib.hid f7
          clear f7
          have f9 : decide (4294967296 ≤ (z : Int) + (v1 : Int)) = false := decide_eq_false (by omega)
          go_wp2
          go_round
          case rel => exact ⟨p - 1, z + v1, by go_num, by go_num, f8⟩
          case measure => simp [RowKit.intOf]; omega
        · have f9 : decide (4294967296 ≤ (z : Int) + (v1 : Int)) = true := decide_eq_true f6
          go_wp2
          go_ret2
          exact ⟨rfl, rfl⟩
end Go.Proofs.YteipbcpnnojclaaDoor

/- Picked declarations of VpA, VpB. -/
import Derived.Test.YtikopkkebdobdaaGreatDoorVwU
import Derived.Below
import Derived.BigQuiet
import Derived.Deep.AppendSrc
import Derived.Deep.CutBlock
import Derived.Deep.DeepCutAuto
import Derived.Deep.QuietTactic
import Derived.Deep.RegionHeld
import Derived.Deep.RegionHeld3
import Derived.Deep.Upon
import Derived.Laws.Bits64b
import Derived.Lib.Hide
import Derived.Lib.ItoaNum
import Derived.Lib.TrailingZeros
import Derived.LoopN
import Derived.Maps.AppendAt
import Derived.Outline
import Derived.RowKit3
import Derived.Shelf.SlicesE.Clone
import Derived.Shelf.Spec.TrailingZeros
import Derived.WalkKit
import Derived.WalkLawsBesides
import Derived.WalkSmall
import Derived.Test.YtikopkkebdobdaaGreatDoorWordA
import Derived.Test.YtikopkkebdobdaaGreatDoorWordMath
import Derived.Test.YtikopkkebdobdaaGreatDoorVw0
import Derived.Test.YtikopkkebdobdaaGreatDoorShelf
import Derived.Deep.LoopGhost
import Derived.Deep.RegionWith
import Derived.IntWalk
import Derived.Laws.BitsAllLaws
import Derived.Laws.NewBlocks
import Derived.Laws.OwnMore
import Derived.Lib.BitFns
import Derived.OneCell
import Derived.OwnWalk
import Derived.RegionTactic
import Derived.Test.YtikopkkebdobdaaGreatDoorVwC
namespace Go.Proofs.YtikopkkebdobdaaGreatDoor
set_option linter.unusedVariables false
set_option linter.unusedSimpArgs false
open Go.RowKit DivMath WordMath
/-- the world has drawn, no more -/
def Qw (w w' : World) : Prop := ∃ n, w' = w.drewN n
theorem Qw.refl (w : World) : Qw w w := ⟨0, rfl⟩
/-- a number came back, of which P is known -/
def RetN (P : Nat → Prop) (e : Ending) : Prop := ∃ r : Nat, Hid (P r) ∧ e = .returned (.int .i64 (r : Int))
/-- a number and an error number -/
def RetE (P : Nat → Prop) (e : Ending) : Prop := ∃ r : Nat, Hid (P r) ∧ e = .returned (.tuple #[.int .i64 (r : Int), .int .i64 0])
theorem conv_u64 (a : Nat) (h : a < 2305843009213693952) : IntKind.u64.wrap (a : Int) = (a : Int) := wrap_fits a (by omega)
set_option maxHeartbeats 400000 in
theorem mul_core (a b m hi lo d r : Nat) (w : World) (e1 : IntKind.u64.wrap (a : Int) = (a : Int)) (e2 : IntKind.u64.wrap (b : Int) = (b : Int)) (e3 : IntKind.u64.wrap (m : Int) = (m : Int)) (hr : (r : Int) ≤ 2305843009213693952)
  (c1 : ∀ w, Calls Tryz.prog 134 #[.int .u64 a, .int .u64 b] w fun e w' => e = .returned (.tuple #[.int .u64 hi, .int .u64 lo]) ∧ w' = w)
  (c2 : ∀ w, Calls Tryz.prog 135 #[.int .u64 hi, .int .u64 lo, .int .u64 m] w fun e w' => e = .returned (.tuple #[.int .u64 d, .int .u64 r]) ∧ ∃ n, w' = w.drewN n) :
  Calls Tryz.prog 123 #[.int .i64 a, .int .i64 b, .int .i64 m] w fun e w' => e = .returned (.int .i64 (r : Int)) ∧ Qw w w' := by
 go_enter Tryz.func123, Tryz.ntmps123
 go_wp2_with (first | (go_at_call 134; refine (c1 _).mono ?_; rintro e w' ⟨rfl, rfl⟩) | (go_at_call 135; refine (c2 _).mono ?_; rintro e w' ⟨rfl, n, rfl⟩))
 go_ret
 exact ⟨rfl, _, rfl⟩
theorem mul_v (a b m : Nat) (w : World) (ha : a < m) (hb : b < m) (hm : m < 2305843009213693952) :
  Calls Tryz.prog 123 #[.int .i64 a, .int .i64 b, .int .i64 m] w fun e w' => e = .returned (.int .i64 ((a * b % m : Nat) : Int)) ∧ Qw w w' := by
 have hab : a * b < m * m := Nat.mul_lt_mul'' ha hb
 have hmm : m * m ≤ 2305843009213693952 * m := Nat.mul_le_mul_right _ (Nat.le_of_lt hm)
 have hq : a * b / 18446744073709551616 < m := by
  rw [Nat.div_lt_iff_lt_mul (by omega)]; omega
 have hr : a * b % m < m := Nat.mod_lt _ (by omega)
 have hdm : a * b / 18446744073709551616 * 18446744073709551616 + a * b % 18446744073709551616 = a * b := by
  have := Nat.div_add_mod (a * b) 18446744073709551616; omega
 refine mul_core a b m _ _ (a * b / m) _ w (conv_u64 a (by omega)) (conv_u64 b (by omega)) (conv_u64 m hm) (by omega) (fun w => Tryz.bits_Mul64 a b (by omega) (by omega) w) (fun w => ?_)
 have c := div64_c (a * b / 18446744073709551616) (a * b % 18446744073709551616) m w hq (Nat.mod_lt _ (by decide)) (by omega)
 rw [hdm] at c
 exact c
/-- word.mul: the residue of the product -/
theorem mul_c (a b m : Nat) (w : World) (ha : (a : Int) < (m : Int)) (hb : (b : Int) < (m : Int)) (hm : (m : Int) < Top) :
  Calls Tryz.prog 123 #[.int .i64 a, .int .i64 b, .int .i64 m] w fun e w' => RetN (fun r => r = a * b % m) e ∧ Qw w w' :=
 (mul_v a b m w (by omega) (by omega) (by unfold Top at hm; omega)).mono fun e w' ⟨he, hw⟩ => ⟨⟨_, Zh rfl, he⟩, hw⟩
/-! ### the exported functions -/
/-! ### the reference -/
/-! ### the greatest common divisor -/
theorem and_one_i64 (E : Nat) (h : E < 9223372036854775808) : bits .and .i64 (E : Int) 1 = ((E % 2 : Nat) : Int) := by
 have h1 : (BitVec.ofInt 64 (E : Int)).toNat = E := by
  rw [BitVec.ofInt_natCast, BitVec.toNat_ofNat]; exact Nat.mod_eq_of_lt (by omega)
 show IntKind.i64.wrap ((BitVec.ofInt 64 (E : Int) &&& BitVec.ofInt 64 (1 : Int)).toNat : Int) = _
 have h2 : (BitVec.ofInt 64 (1 : Int)).toNat = 1 := by decide
 rw [BitVec.toNat_and, h1, h2, Nat.and_one_is_mod, IntKind.wrap_i64]
 omega
set_option maxHeartbeats 1000000 in
theorem Pow_ok (a e m : Nat) (w : World) (ha : (a : Int) < (m : Int)) (he : (e : Int) ≤ 9223372036854775807) (hm : (m : Int) < Top) :
  Calls Tryz.prog 98 #[.int .i64 a, .int .i64 e, .int .i64 m] w fun e' w' => RetE (fun r => r = a ^ e % m) e' ∧ Qw w w' := by
 have hc : chk (a : Int) (a : Int) (m : Int) = 0 := by
  unfold Top at hm; unfold chk Top; rw [if_neg (by omega), if_pos (by omega)]
 have hm0 : 1 ≤ (m : Int) := by omega
 have hmz : ((m : Int) == 0) = false := by simp; omega
 have hmz2 : (m == 0) = false := by simp; omega
 have hm' : (m : Int) ≤ 2305843009213693951 := by unfold Top at hm; omega
 obtain ⟨o, ho⟩ : ∃ o : Nat, o = 1 % m := ⟨_, rfl⟩
 have eo : (1 : Int) % (m : Int) = (o : Int) := by rw [ho]; rfl
 have bo : (o : Int) < (m : Int) := by rw [ho]; have := Nat.mod_lt 1 (show 0 < m by omega); omega
 have hst : Hid (o * a ^ e % m = a ^ e % m) := Zh (by rw [ho, Nat.mul_mod, Nat.mod_mod, ← Nat.mul_mod, Nat.one_mul])
 have hen : decide ((e : Int) < 0) = false := decide_eq_false (by omega)
 have EO := Zh eo
 clear ho eo
 have hm2 := Zh hm
 clear hm
 have cc := fun w => check_c (a : Int) (a : Int) (m : Int) w
 rw [hc] at cc
 clear hc
 go_enter Tryz.func98, Tryz.ntmps98
 go_wp2_with (first | (go_at_call 122; refine (cc _).mono ?_; rintro e w' ⟨rfl, rfl⟩))
 clear cc
 go_loopw [0, 1, 9] (fun s0 s1 s9 wr => ∃ A E X : Nat, s0 = .int .i64 A ∧ s1 = .int .i64 E ∧ s9 = .int .i64 X ∧ (A : Int) < (m : Int) ∧ (E : Int) ≤ 9223372036854775807 ∧ (X : Int) < (m : Int) ∧ Hid (X * A ^ E % m = a ^ e % m) ∧ Qw w wr) (fun _ s1 _ _ => (RowKit.intOf s1).toNat)
 case atStart => exact ⟨a, e, o, rfl, rfl, congrArg (Value.int .i64) EO.out, ha, he, bo, hst, Qw.refl _⟩
 case round =>
  obtain ⟨A, E, X, rfl, rfl, rfl, hA, hE, hX, HI, n, rfl⟩ := hrel
  by_cases h0 : E = 0
  ·have hdone : Hid (X = a ^ e % m) := Zh (by
    have := HI.out
    rw [h0, Nat.pow_zero, Nat.mul_one, Nat.mod_eq_of_lt (by omega)] at this
    exact this)
   subst h0
   clear HI
   go_wp2
   go_ret2
   exact ⟨⟨X, hdone, rfl⟩, _, rfl⟩
  ·have hg : decide (0 < E) = true := decide_eq_true (by omega)
   have hp := pow_half X A E m
   rw [HI.out] at hp
   have eb := and_one_i64 E (by omega)
   by_cases h2 : E % 2 = 1
   ·rw [if_pos h2] at hp
    rw [h2] at eb
    have HP := Zh hp
    clear hp HI h2
    go_wp2_with fail
    refine (mul_c X A m _ hX hA hm2.out).mono ?_; rintro e1 w1 ⟨⟨X2, hX2, rfl⟩, n1, rfl⟩
    have bX2 : (X2 : Int) < (m : Int) := by rw [hX2.out]; have := Nat.mod_lt (X * A) (show 0 < m by omega); omega
    go_wp2_with fail
    refine (mul_c A A m _ hA hA hm2.out).mono ?_; rintro e1 w1 ⟨⟨A2, hA2, rfl⟩, n2, rfl⟩
    have bA2 : (A2 : Int) < (m : Int) := by rw [hA2.out]; have := Nat.mod_lt (A * A) (show 0 < m by omega); omega
    have HR : Hid (X2 * A2 ^ (E / 2) % m = a ^ e % m) := Zh (by rw [hX2.out, hA2.out]; exact HP.out)
    clear HP hX2 hA2
    go_wp2
    go_roundw
    case rel => exact ⟨A2, E / 2, X2, rfl, by go_num, rfl, bA2, by omega, bX2, HR, _, rfl⟩
    case measure => simp [RowKit.intOf]; omega
   ·rw [if_neg h2] at hp
    rw [show E % 2 = 0 by omega] at eb
    have HP := Zh hp
    clear hp HI h2
    go_wp2_with fail
    refine (mul_c A A m _ hA hA hm2.out).mono ?_; rintro e1 w1 ⟨⟨A2, hA2, rfl⟩, n2, rfl⟩
    have bA2 : (A2 : Int) < (m : Int) := by rw [hA2.out]; have := Nat.mod_lt (A * A) (show 0 < m by omega); omega
    have HR : Hid (X * A2 ^ (E / 2) % m = a ^ e % m) := Zh (by rw [hA2.out]; exact HP.out)
    clear HP hA2
    go_wp2
    go_roundw
    case rel => exact ⟨A2, E / 2, X, rfl, by go_num, rfl, bA2, by omega, hX, HR, _, rfl⟩
    case measure => simp [RowKit.intOf]; omega
set_option maxHeartbeats 400000 in
theorem Pow_err (a e m : Int) (w : World) (hc : (chk a a m != 0) = true) :
  Calls Tryz.prog 98 #[.int .i64 a, .int .i64 e, .int .i64 m] w fun e' w' => e' = .returned (.tuple #[.int .i64 0, .int .i64 (chk a a m)]) ∧ w = w' := by
 go_enter Tryz.func98, Tryz.ntmps98
 go_wp2_with (first | (go_at_call 122; refine (check_c _ _ _ _).mono ?_; rintro e w' ⟨rfl, rfl⟩))
 go_ret2
 exact ⟨rfl, rfl⟩
/-! ### inverses -/
theorem Qw.trans {a b c : World} (h : Qw a b) (k : Qw b c) : Qw a c := by
 obtain ⟨n, rfl⟩ := h; obtain ⟨m, rfl⟩ := k; exact ⟨_, World.drewN_drewN ..⟩
theorem Qw.drewN {a b : World} (h : Qw a b) (n : Nat) : Qw a (b.drewN n) := h.trans ⟨n, rfl⟩
/-! ### linear congruences -/
namespace Pri
/-- one of the next k squares is n - 1 -/
def hits (n : Nat) : Nat → Nat → Bool
 | 0, _ => false
 | k + 1, x => x * x % n == n - 1 || hits n k (x * x % n)
/-- how often 2 divides, at most so often as the first number says -/
def tzF : Nat → Nat → Nat
 | 0, _ => 0
 | f + 1, n => if n % 2 = 0 then tzF f (n / 2) + 1 else 0
def tz (n : Nat) : Nat := tzF 64 n
def od (n : Nat) : Nat := n / 2 ^ tz n
/-- the base a does not show that n is composite -/
def strong (n a : Nat) : Bool := a ^ od (n - 1) % n == 1 || (a ^ od (n - 1) % n == n - 1 || hits n (tz (n - 1) - 1) (a ^ od (n - 1) % n))
def bases : List Nat := [2, 3, 5, 7, 11, 13, 17, 19, 23, 29, 31, 37]
/-- what division by these says -/
def sieve (n : Nat) : List Nat → Option Bool
 | [] => none
 | p :: l => if n % p = 0 then some (n == p) else sieve n l
def isP (n : Nat) : Bool := if n < 2 then false else match sieve n bases with
 | some b => b
 | none => bases.all (strong n)
/-- the power of 2 divides; what is left is odd, if there was room -/
theorem tzF_spec (f n : Nat) (h0 : 0 < n) (h : n < 2 ^ f) : n = n / 2 ^ tzF f n * 2 ^ tzF f n ∧ n / 2 ^ tzF f n % 2 = 1 := by
 induction f generalizing n with
 | zero => simp at h; omega
 | succ f ih =>
  unfold tzF
  split
  ·next h2 =>
   have h3 := ih (n / 2) (by omega) (by rw [Nat.pow_succ] at h; omega)
   rw [Nat.div_div_eq_div_mul, Nat.mul_comm 2, ← Nat.pow_succ] at h3
   refine ⟨?_, h3.2⟩
   have h4 := h3.1
   generalize n / 2 ^ (tzF f (n / 2) + 1) = q at *
   rw [Nat.pow_succ, ← Nat.mul_assoc]
   omega
  ·simp; omega
theorem tz_spec {n : Nat} (h0 : 0 < n) (h : n < 2 ^ 64) : n = od n * 2 ^ tz n ∧ od n % 2 = 1 := tzF_spec 64 n h0 h
theorem odd_unique {d s e t : Nat} (h : d * 2 ^ s = e * 2 ^ t) (hd : d % 2 = 1) (he : e % 2 = 1) : d = e ∧ s = t := by
 induction s generalizing t with
 | zero =>
  rcases t with _ | t
  ·simpa using h
  ·exfalso; rw [Nat.pow_succ, ← Nat.mul_assoc] at h; simp at h; omega
 | succ s ih =>
  rcases t with _ | t
  ·exfalso; rw [Nat.pow_succ, ← Nat.mul_assoc] at h; simp at h; omega
  ·rw [Nat.pow_succ, Nat.pow_succ, ← Nat.mul_assoc, ← Nat.mul_assoc] at h
   have := ih (t := t) (by omega)
   omega
theorem tz_unique {n d s : Nat} (h0 : 0 < n) (h : n < 2 ^ 64) (e : n = d * 2 ^ s) (hd : d % 2 = 1) : d = od n ∧ s = tz n := by
 obtain ⟨h1, h2⟩ := tz_spec h0 h
 exact odd_unique (by rw [← e]; exact h1) hd h2
theorem tz_pos {n : Nat} (h0 : 0 < n) (h : n < 2 ^ 64) (he : n % 2 = 0) : 1 ≤ tz n := by
 obtain ⟨h1, h2⟩ := tz_spec h0 h
 rcases Nat.eq_zero_or_pos (tz n) with hz | hz
 ·rw [hz] at h1; simp at h1; rw [← h1] at h2; omega
 ·exact hz
theorem sieve_none {n : Nat} {l : List Nat} (h : sieve n l = none) : ∀ p ∈ l, n % p ≠ 0 := by
 induction l with
 | nil => simp
 | cons p l ih =>
  unfold sieve at h
  split at h
  ·cases h
  ·next hp => intro q hq; rcases List.mem_cons.1 hq with rfl | hq; exact hp; exact ih h q hq
/-- a number that no base divides is greater than all of them -/
theorem sieve_big {n : Nat} (h2 : 2 ≤ n) (h : sieve n bases = none) : 37 < n ∧ n % 2 = 1 := by
 have := sieve_none h
 have h2' := this 2 (by decide)
 refine ⟨?_, by omega⟩
 apply Classical.byContradiction
 intro hc
 have hn : n ≤ 37 := by omega
 have key : ∀ m, m ≤ 37 → 2 ≤ m → sieve m bases ≠ none := by decide
 exact key n hn h2 h
end Pri
/-- the two tables lie in their variables -/
def Laid (w : World) : Prop := (∀ i, i < 12 → w.cell? ⟨1, i, none⟩ = some (.int .u64 (Pri.bases.getD i 0 : Nat))) ∧ TabAt 4 Lib.deBruijn64tab w ∧ 4 < w.heap.size ∧ 1 < w.heap.size
theorem Laid.drewN {w : World} (h : Laid w) (n : Nat) : Laid (w.drewN n) := h
theorem Laid.qw {w w' : World} (h : Laid w) (q : Qw w w') : Laid w' := by obtain ⟨n, rfl⟩ := q; exact h
theorem Laid.below {w w' : World} (h : Laid w) (hb : Below w.heap.size w w') : Laid w' :=
 ⟨fun i hi => (hb.cell (p := ⟨1, i, none⟩) (show (1 : Nat) < _ by have := h.2.2; omega)).trans (h.1 i hi), fun j hj => (hb.cell (p := ⟨4, j, none⟩) (show (4 : Nat) < _ by have := h.2.2; omega)).trans (h.2.1 j hj), by have := hb.size; have := h.2.2; omega⟩
def RetU (P : Nat → Prop) (e : Ending) : Prop := ∃ r : Nat, Hid (P r) ∧ e = .returned (.int .u64 (r : Int))
theorem and_one_u64 (E : Nat) (h : E < 18446744073709551616) : bits .and .u64 (E : Int) 1 = ((E % 2 : Nat) : Int) := by
 have := bits_and_u64_nat E 1 h (by decide)
 rw [show ((1 : Nat) : Int) = 1 from rfl] at this
 rw [this, Nat.and_one_is_mod]
set_option maxHeartbeats 400000 in
theorem tz64_core (x k idx : Nat) (w : World) (hx0 : ((x : Int) == 0) = false)
  (key : IntKind.u64.wrap (bits BinOp.and IntKind.u64 (x : Int) (IntKind.u64.wrap (-(x : Int))) * 285870213051353865) / 288230376151711744 = (idx : Int))
  (hi : idx < 64) (hk : k < 64) (hcell : w.cell? ⟨4, idx, none⟩ = some (.int .u8 k)) :
  Calls Tryz.prog 119 #[.int .u64 x] w fun e w' => e = .returned (.int .i64 k) ∧ w' = w := by
 go_enter Tryz.func119, Tryz.ntmps119
 go_wp2_with (simp only [key])
 go_ret
 exact ⟨rfl, rfl⟩
theorem tz64_c (x : Nat) (hx : x < 18446744073709551616) (h0 : 0 < x) (w : World) (hl : Laid w) :
  Calls Tryz.prog 119 #[.int .u64 x] w fun e w' => e = .returned (.int .i64 (Lib.ctz 64 x : Nat)) ∧ w' = w := by
 have hx0 : x ≠ 0 := by omega
 obtain ⟨hlow, hk⟩ := Lib.lowest_bit 64 x hx0 hx
 obtain ⟨hi, htab⟩ := Lib.deBruijn64_at _ hk
 have hcell := hl.2.1 _ hi
 rw [htab] at hcell
 exact tz64_core x _ _ w (by simp; omega) (tz64_key x _ hx hx0 hlow) hi hk hcell
set_option maxHeartbeats 400000 in
theorem pmul_core (a b m hi lo d r : Nat) (w : World)
  (c1 : ∀ w, Calls Tryz.prog 134 #[.int .u64 a, .int .u64 b] w fun e w' => e = .returned (.tuple #[.int .u64 hi, .int .u64 lo]) ∧ w' = w)
  (c2 : ∀ w, Calls Tryz.prog 135 #[.int .u64 hi, .int .u64 lo, .int .u64 m] w fun e w' => e = .returned (.tuple #[.int .u64 d, .int .u64 r]) ∧ ∃ n, w' = w.drewN n) :
  Calls Tryz.prog 132 #[.int .u64 a, .int .u64 b, .int .u64 m] w fun e w' => e = .returned (.int .u64 (r : Int)) ∧ Qw w w' := by
 go_enter Tryz.func132, Tryz.ntmps132
 go_wp2_with (first | (go_at_call 134; refine (c1 _).mono ?_; rintro e w' ⟨rfl, rfl⟩) | (go_at_call 135; refine (c2 _).mono ?_; rintro e w' ⟨rfl, n, rfl⟩))
 go_ret
 exact ⟨rfl, _, rfl⟩
theorem pmul_c (a b m : Nat) (w : World) (ha : (a : Int) < (m : Int)) (hb : (b : Int) < (m : Int)) (hm : (m : Int) ≤ 18446744073709551615) :
  Calls Tryz.prog 132 #[.int .u64 a, .int .u64 b, .int .u64 m] w fun e w' => RetU (fun r => r = a * b % m) e ∧ Qw w w' := by
 have hab : a * b < m * m := Nat.mul_lt_mul'' (by omega) (by omega)
 have hmm : m * m ≤ 18446744073709551616 * m := Nat.mul_le_mul_right _ (by omega)
 have hq : a * b / 18446744073709551616 < m := by
  rw [Nat.div_lt_iff_lt_mul (by omega)]; omega
 have hr : a * b % m < m := Nat.mod_lt _ (by omega)
 have hdm : a * b / 18446744073709551616 * 18446744073709551616 + a * b % 18446744073709551616 = a * b := by
  have := Nat.div_add_mod (a * b) 18446744073709551616; omega
 refine (pmul_core a b m _ _ (a * b / m) (a * b % m) w (fun w => Tryz.bits_Mul64 a b (by omega) (by omega) w) (fun w => ?_)).mono fun e w' ⟨he, hw⟩ => ⟨⟨_, Zh rfl, he⟩, hw⟩
 have c := div64_c (a * b / 18446744073709551616) (a * b % 18446744073709551616) m w hq (Nat.mod_lt _ (by decide)) (by omega)
 rw [hdm] at c
 exact c
set_option maxHeartbeats 1000000 in
theorem ppow_c (a e m : Nat) (w : World) (ha : (a : Int) < (m : Int)) (he : (e : Int) ≤ 18446744073709551615) (h1 : 1 < (m : Int)) (hm : (m : Int) ≤ 18446744073709551615) :
  Calls Tryz.prog 131 #[.int .u64 a, .int .u64 e, .int .u64 m] w fun e' w' => RetU (fun r => r = a ^ e % m) e' ∧ Qw w w' := by
 have hst : Hid (1 * a ^ e % m = a ^ e % m) := Zh (by rw [Nat.one_mul])
 have hm2 := Zh hm
 clear hm
 go_enter Tryz.func131, Tryz.ntmps131
 go_wp2
 go_loopw [0, 1, 7] (fun s0 s1 s9 wr => ∃ A E X : Nat, s0 = .int .u64 A ∧ s1 = .int .u64 E ∧ s9 = .int .u64 X ∧ (A : Int) < (m : Int) ∧ (E : Int) ≤ 18446744073709551615 ∧ (X : Int) < (m : Int) ∧ Hid (X * A ^ E % m = a ^ e % m) ∧ Qw w wr) (fun _ s1 _ _ => (RowKit.intOf s1).toNat)
 case atStart => exact ⟨a, e, 1, rfl, rfl, rfl, ha, he, h1, hst, Qw.refl _⟩
 case round =>
  obtain ⟨A, E, X, rfl, rfl, rfl, hA, hE, hX, HI, n, rfl⟩ := hrel
  by_cases h0 : E = 0
  ·have hdone : Hid (X = a ^ e % m) := Zh (by
    have := HI.out
    rw [h0, Nat.pow_zero, Nat.mul_one, Nat.mod_eq_of_lt (by omega)] at this
    exact this)
   subst h0
   clear HI
   go_wp2
   go_ret
   exact ⟨⟨X, hdone, rfl⟩, _, rfl⟩
  ·have hg : decide (0 < E) = true := decide_eq_true (by omega)
   have hp := pow_half X A E m
   rw [HI.out] at hp
   have eb := and_one_u64 E (by omega)
   by_cases h2 : E % 2 = 1
   ·rw [if_pos h2] at hp
    rw [h2] at eb
    have HP := Zh hp
    clear hp HI h2
    go_wp2_with fail
    refine (pmul_c X A m _ hX hA hm2.out).mono ?_; rintro e1 w1 ⟨⟨X2, hX2, rfl⟩, n1, rfl⟩
    have bX2 : (X2 : Int) < (m : Int) := by rw [hX2.out]; have := Nat.mod_lt (X * A) (show 0 < m by omega); omega
    go_wp2_with fail
    refine (pmul_c A A m _ hA hA hm2.out).mono ?_; rintro e1 w1 ⟨⟨A2, hA2, rfl⟩, n2, rfl⟩
    have bA2 : (A2 : Int) < (m : Int) := by rw [hA2.out]; have := Nat.mod_lt (A * A) (show 0 < m by omega); omega
    have HR : Hid (X2 * A2 ^ (E / 2) % m = a ^ e % m) := Zh (by rw [hX2.out, hA2.out]; exact HP.out)
    clear HP hX2 hA2
    go_wp2
    go_roundw
    case rel => exact ⟨A2, E / 2, X2, rfl, by go_num, rfl, bA2, by omega, bX2, HR, _, rfl⟩
    case measure => simp [RowKit.intOf]; omega
   ·rw [if_neg h2] at hp
    rw [show E % 2 = 0 by omega] at eb
    have HP := Zh hp
    clear hp HI h2
    go_wp2_with fail
    refine (pmul_c A A m _ hA hA hm2.out).mono ?_; rintro e1 w1 ⟨⟨A2, hA2, rfl⟩, n2, rfl⟩
    have bA2 : (A2 : Int) < (m : Int) := by rw [hA2.out]; have := Nat.mod_lt (A * A) (show 0 < m by omega); omega
    have HR : Hid (X * A2 ^ (E / 2) % m = a ^ e % m) := Zh (by rw [hA2.out]; exact HP.out)
    clear HP hA2
    go_wp2
    go_roundw
    case rel => exact ⟨A2, E / 2, X, rfl, by go_num, rfl, bA2, by omega, hX, HR, _, rfl⟩
    case measure => simp [RowKit.intOf]; omega
set_option maxHeartbeats 1000000 in
theorem composite_c (a n d s x0 l : Nat) (b : Bool) (w : World) (ha : (a : Int) < (n : Int)) (hd : (d : Int) ≤ 18446744073709551615) (h1 : 1 < (n : Int)) (hn : (n : Int) ≤ 18446744073709551615) (hs1 : 1 ≤ s) (hs : (s : Int) ≤ 64)
  (hx0 : x0 = a ^ d % n) (hl : l = n - 1) (hb : Hid ((x0 == 1 || (x0 == l || Pri.hits n (s - 1) x0)) = b)) :
  Calls Tryz.prog 120 #[.int .u64 a, .int .u64 n, .int .u64 d, .int .i64 s] w fun e w' => e = .returned (.bool (!b)) ∧ Qw w w' := by
 have hx0n : (x0 : Int) < (n : Int) := by rw [hx0]; have := Nat.mod_lt (a ^ d) (show 0 < n by omega); omega
 have el : IntKind.u64.wrap ((n : Int) - 1) = (l : Int) := by rw [IntKind.wrap_u64]; omega
 have es : wrap64 ((s : Int) - 1) = ((s - 1 : Nat) : Int) := by rw [IntWalk.wrap64_in _ (by omega)]; omega
 have HX := Zh hx0
 have HL := Zh hl
 clear hl hx0
 go_enter Tryz.func120, Tryz.ntmps120
 go_wp2_with fail
 refine (ppow_c a d n _ ha hd h1 hn).mono ?_; rintro e1 w1 ⟨⟨y, hy, rfl⟩, n1, rfl⟩
 obtain rfl : y = x0 := hy.out.trans HX.out.symm
 clear hy HX
 by_cases q1 : y = 1
 ·have hb2 : b = true := by rw [← hb.out, q1]; rfl
  subst q1 hb2
  go_wp2
  go_ret
  exact ⟨rfl, _, rfl⟩
 have t1 : ((y : Int) == 1) = false := by simp; omega
 have t1' : (y == 1) = false := by simp; omega
 by_cases q2 : y = l
 ·have hb2 : b = true := by rw [← hb.out, q2]; simp
  subst hb2
  have t2 : ((y : Int) == (l : Int)) = true := by simp; omega
  have t2' : (y == l) = true := by simp; omega
  clear q2
  go_wp2
  all_goals (go_ret; exact ⟨rfl, _, rfl⟩)
 have t2 : ((y : Int) == (l : Int)) = false := by simp; omega
 have t2' : (y == l) = false := by simp; omega
 have hst : Hid (Pri.hits n (s - 1 - 0) y = b) := Zh (by have := hb.out; rw [t1', t2'] at this; simpa using this)
 clear q1 q2 t1' hb
 obtain ⟨sm, hsm⟩ : ∃ sm, sm = s - 1 := ⟨_, rfl⟩
 rw [← hsm] at es hst
 have HSM := Zh hsm
 have h64 : (sm : Int) ≤ 64 := by omega
 clear hsm es
 go_wp2
 go_loopw [9, 24] (fun s0 s1 wr => ∃ X i : Nat, s0 = .int .u64 X ∧ s1 = .int .i64 i ∧ (X : Int) < (n : Int) ∧ (i : Int) ≤ (sm : Int) ∧ Hid (Pri.hits n (sm - i) X = b) ∧ Qw w wr) (fun _ s1 _ => sm - (RowKit.intOf s1).toNat)
 case atStart => exact ⟨y, 0, rfl, rfl, hx0n, by omega, hst, _, rfl⟩
 case round =>
  obtain ⟨X, i, rfl, rfl, hX, hi, HI, n2, rfl⟩ := hrel
  have hi64 : (i : Int) ≤ 64 := by omega
  by_cases h0 : i = sm
  ·have hb2 : b = false := by rw [← HI.out, h0, Nat.sub_self]; rfl
   subst hb2
   have hg : decide (i < sm) = false := decide_eq_false (by omega)
   have hg2 : decide ((i : Int) < (s : Int) - 1) = false := decide_eq_false (by have := HSM.out; omega)
   clear h0
   go_wp2
   go_ret
   exact ⟨rfl, _, rfl⟩
  ·have hg : decide (i < sm) = true := decide_eq_true (by omega)
   have hg2 : decide ((i : Int) < (s : Int) - 1) = true := decide_eq_true (by have := HSM.out; omega)
   have hstep : Hid ((X * X % n == l || Pri.hits n (sm - (i + 1)) (X * X % n)) = b) := Zh (by
    have := HI.out
    rw [show sm - i = sm - (i + 1) + 1 by omega] at this
    rw [HL.out]; exact this)
   clear HI
   go_wp2_with fail
   refine (pmul_c X X n _ hX hX hn).mono ?_; rintro e1 w1 ⟨⟨X2, hX2, rfl⟩, n3, rfl⟩
   have bX2 : (X2 : Int) < (n : Int) := by rw [hX2.out]; have := Nat.mod_lt (X * X) (show 0 < n by omega); omega
   have hq : Hid ((X2 == l || Pri.hits n (sm - (i + 1)) X2) = b) := Zh (by rw [hX2.out]; exact hstep.out)
   clear hX2 hstep
   by_cases q : X2 = l
   ·have hb2 : b = true := by rw [← hq.out, q]; simp
    have t3 : ((X2 : Int) == (l : Int)) = true := by simp; omega
    have t3' : (X2 == l) = true := by simp; omega
    subst hb2
    clear q
    go_wp2
    go_ret
    exact ⟨rfl, _, rfl⟩
   ·have t3 : ((X2 : Int) == (l : Int)) = false := by simp; omega
    have t3' : (X2 == l) = false := by simp; omega
    have HR : Hid (Pri.hits n (sm - (i + 1)) X2 = b) := Zh (by have := hq.out; rw [t3'] at this; simpa using this)
    clear q hq
    go_wp2
    go_roundw
    case rel => exact ⟨X2, i + 1, rfl, by go_num, bX2, by omega, HR, _, rfl⟩
    case measure => simp [RowKit.intOf]; omega
namespace Pri
theorem isP_some {m : Nat} {b : Bool} (h2 : 2 ≤ m) (h : sieve m bases = some b) : isP m = b := by unfold isP; rw [if_neg (by omega), h]
theorem isP_none {m : Nat} (h2 : 2 ≤ m) (h : sieve m bases = none) : isP m = bases.all (strong m) := by unfold isP; rw [if_neg (by omega), h]
theorem ctz_tz {n : Nat} (h0 : 0 < n) (h : n < 2 ^ 64) : Lib.ctz 64 n = tz n ∧ tz n < 64 := by
 obtain ⟨m, e, hl⟩ := Lib.ctzFrom_spec 64 n h0 h
 obtain ⟨h1, h2⟩ := tz_unique (d := 2 * m + 1) (s := Lib.ctzFrom 64 n) h0 h (by rw [Nat.mul_comm]; exact e) (by omega)
 unfold Lib.ctz
 rw [if_neg (by omega), ← h2]
 exact ⟨rfl, hl⟩
end Pri
set_option maxRecDepth 100000 in
set_option maxHeartbeats 4000000 in
theorem Is_big (m : Nat) (r : Bool) (w : World) (hl0 : Laid w) (h2 : 2 ≤ (m : Int)) (hm : (m : Int) ≤ 9223372036854775807) (hr0 : Pri.isP m = r) :
  Calls Tryz.prog 92 #[.int .i64 m] w fun e w' => e = .returned (.bool r) ∧ Qw w w' := by
 have hl := hl0
 have v0 : w.cell? ⟨1, 0, none⟩ = some (.int .u64 2) := hl.1 0 (by decide)
 have v1 : w.cell? ⟨1, 1, none⟩ = some (.int .u64 3) := hl.1 1 (by decide)
 have v2 : w.cell? ⟨1, 2, none⟩ = some (.int .u64 5) := hl.1 2 (by decide)
 have v3 : w.cell? ⟨1, 3, none⟩ = some (.int .u64 7) := hl.1 3 (by decide)
 have v4 : w.cell? ⟨1, 4, none⟩ = some (.int .u64 11) := hl.1 4 (by decide)
 have v5 : w.cell? ⟨1, 5, none⟩ = some (.int .u64 13) := hl.1 5 (by decide)
 have v6 : w.cell? ⟨1, 6, none⟩ = some (.int .u64 17) := hl.1 6 (by decide)
 have v7 : w.cell? ⟨1, 7, none⟩ = some (.int .u64 19) := hl.1 7 (by decide)
 have v8 : w.cell? ⟨1, 8, none⟩ = some (.int .u64 23) := hl.1 8 (by decide)
 have v9 : w.cell? ⟨1, 9, none⟩ = some (.int .u64 29) := hl.1 9 (by decide)
 have v10 : w.cell? ⟨1, 10, none⟩ = some (.int .u64 31) := hl.1 10 (by decide)
 have v11 : w.cell? ⟨1, 11, none⟩ = some (.int .u64 37) := hl.1 11 (by decide)
 have HLD := Zh hl0
 clear hl hl0
 have hr := Zh hr0
 have h2' : 2 ≤ m := by omega
 have H2 := Zh h2'
 have ec : IntKind.u64.wrap (m : Int) = (m : Int) := by rw [IntKind.wrap_u64]; omega
 have hn2 : decide ((m : Int) < 2) = false := decide_eq_false (by omega)
 have hst : Hid (Pri.sieve m (Pri.bases.drop 0) = Pri.sieve m Pri.bases) := Zh rfl
 clear hr0 h2'
 go_enter Tryz.func92, Tryz.ntmps92
 go_wp2
 go_loopw [14] (fun s0 wr => ∃ i : Int, s0 = .int .i64 i ∧ (0 ≤ i ∧ i ≤ 12) ∧ Hid (Pri.sieve m (Pri.bases.drop i.toNat) = Pri.sieve m Pri.bases) ∧ Qw w wr) (fun s0 _ => 12 - (RowKit.intOf s0).toNat)
 case atStart => exact ⟨0, rfl, by omega, hst, Qw.refl _⟩
 case round =>
  obtain ⟨i, rfl, hi, HI, n2, rfl⟩ := hrel
  clear hst
  have hi' : i = 0 ∨ i = 1 ∨ i = 2 ∨ i = 3 ∨ i = 4 ∨ i = 5 ∨ i = 6 ∨ i = 7 ∨ i = 8 ∨ i = 9 ∨ i = 10 ∨ i = 11 ∨ i = 12 := by omega
  clear hi
  rcases hi' with rfl | rfl | rfl | rfl | rfl | rfl | rfl | rfl | rfl | rfl | rfl | rfl | rfl
  ·by_cases hp : m % 2 = 0
   ·have HR : Hid (r = (m == 2)) := Zh (by
     have h := HI.out
     rw [show Pri.bases.drop (Int.toNat 0) = 2 :: Pri.bases.drop (Int.toNat 1) from rfl] at h
     unfold Pri.sieve at h
     rw [if_pos hp] at h
     rw [← hr.out]; exact Pri.isP_some H2.out h.symm)
    have t1 : ((m : Int) % 2 == 0) = true := by simp; omega
    have tm : ((m : Int) == 2) = r := by rw [HR.out, Bool.eq_iff_iff]; simp; omega
    clear HI hp HR
    have ix : ∀ w, (Instr.index 124 (.agg #[.int .u64 2, .int .u64 3, .int .u64 5, .int .u64 7, .int .u64 11, .int .u64 13, .int .u64 17, .int .u64 19, .int .u64 23, .int .u64 29, .int .u64 31, .int .u64 37]) (.int .i64 0)).run Tryz.prog w = .ok (.int .u64 2) w := fun _ => by kernel_rfl
    go_wp2
    go_ret
    exact ⟨rfl, _, rfl⟩
   ·have HR : Hid (Pri.sieve m (Pri.bases.drop (Int.toNat 1)) = Pri.sieve m Pri.bases) := Zh (by
     have h := HI.out
     rw [show Pri.bases.drop (Int.toNat 0) = 2 :: Pri.bases.drop (Int.toNat 1) from rfl] at h
     unfold Pri.sieve at h
     rw [if_neg hp] at h
     exact h)
    have t1 : ((m : Int) % 2 == 0) = false := by simp; omega
    clear HI hp
    have ix : ∀ w, (Instr.index 124 (.agg #[.int .u64 2, .int .u64 3, .int .u64 5, .int .u64 7, .int .u64 11, .int .u64 13, .int .u64 17, .int .u64 19, .int .u64 23, .int .u64 29, .int .u64 31, .int .u64 37]) (.int .i64 0)).run Tryz.prog w = .ok (.int .u64 2) w := fun _ => by kernel_rfl
    go_wp2
    go_roundw
    case rel => exact ⟨1, rfl, by omega, HR, _, rfl⟩
    case measure => simp [RowKit.intOf]
  ·by_cases hp : m % 3 = 0
   ·have HR : Hid (r = (m == 3)) := Zh (by
     have h := HI.out
     rw [show Pri.bases.drop (Int.toNat 1) = 3 :: Pri.bases.drop (Int.toNat 2) from rfl] at h
     unfold Pri.sieve at h
     rw [if_pos hp] at h
     rw [← hr.out]; exact Pri.isP_some H2.out h.symm)
    have t1 : ((m : Int) % 3 == 0) = true := by simp; omega
    have tm : ((m : Int) == 3) = r := by rw [HR.out, Bool.eq_iff_iff]; simp; omega
    clear HI hp HR
    have ix : ∀ w, (Instr.index 124 (.agg #[.int .u64 2, .int .u64 3, .int .u64 5, .int .u64 7, .int .u64 11, .int .u64 13, .int .u64 17, .int .u64 19, .int .u64 23, .int .u64 29, .int .u64 31, .int .u64 37]) (.int .i64 1)).run Tryz.prog w = .ok (.int .u64 3) w := fun _ => by kernel_rfl
    go_wp2
    go_ret
    exact ⟨rfl, _, rfl⟩
   ·have HR : Hid (Pri.sieve m (Pri.bases.drop (Int.toNat 2)) = Pri.sieve m Pri.bases) := Zh (by
     have h := HI.out
     rw [show Pri.bases.drop (Int.toNat 1) = 3 :: Pri.bases.drop (Int.toNat 2) from rfl] at h
     unfold Pri.sieve at h
     rw [if_neg hp] at h
     exact h)
    have t1 : ((m : Int) % 3 == 0) = false := by simp; omega
    clear HI hp
    have ix : ∀ w, (Instr.index 124 (.agg #[.int .u64 2, .int .u64 3, .int .u64 5, .int .u64 7, .int .u64 11, .int .u64 13, .int .u64 17, .int .u64 19, .int .u64 23, .int .u64 29, .int .u64 31, .int .u64 37]) (.int .i64 1)).run Tryz.prog w = .ok (.int .u64 3) w := fun _ => by kernel_rfl
    go_wp2
    go_roundw
    case rel => exact ⟨2, rfl, by omega, HR, _, rfl⟩
    case measure => simp [RowKit.intOf]
  ·by_cases hp : m % 5 = 0
   ·have HR : Hid (r = (m == 5)) := Zh (by
     have h := HI.out
     rw [show Pri.bases.drop (Int.toNat 2) = 5 :: Pri.bases.drop (Int.toNat 3) from rfl] at h
     unfold Pri.sieve at h
     rw [if_pos hp] at h
     rw [← hr.out]; exact Pri.isP_some H2.out h.symm)
    have t1 : ((m : Int) % 5 == 0) = true := by simp; omega
    have tm : ((m : Int) == 5) = r := by rw [HR.out, Bool.eq_iff_iff]; simp; omega
    clear HI hp HR
    have ix : ∀ w, (Instr.index 124 (.agg #[.int .u64 2, .int .u64 3, .int .u64 5, .int .u64 7, .int .u64 11, .int .u64 13, .int .u64 17, .int .u64 19, .int .u64 23, .int .u64 29, .int .u64 31, .int .u64 37]) (.int .i64 2)).run Tryz.prog w = .ok (.int .u64 5) w := fun _ => by kernel_rfl
    go_wp2
    go_ret
    exact ⟨rfl, _, rfl⟩
   ·have HR : Hid (Pri.sieve m (Pri.bases.drop (Int.toNat 3)) = Pri.sieve m Pri.bases) := Zh (by
     have h := HI.out
     rw [show Pri.bases.drop (Int.toNat 2) = 5 :: Pri.bases.drop (Int.toNat 3) from rfl] at h
     unfold Pri.sieve at h
     rw [if_neg hp] at h
     exact h)
    have t1 : ((m : Int) % 5 == 0) = false := by simp; omega
    clear HI hp
    have ix : ∀ w, (Instr.index 124 (.agg #[.int .u64 2, .int .u64 3, .int .u64 5, .int .u64 7, .int .u64 11, .int .u64 13, .int .u64 17, .int .u64 19, .int .u64 23, .int .u64 29, .int .u64 31, .int .u64 37]) (.int .i64 2)).run Tryz.prog w = .ok (.int .u64 5) w := fun _ => by kernel_rfl
    go_wp2
    go_roundw
    case rel => exact ⟨3, rfl, by omega, HR, _, rfl⟩
    case measure => simp [RowKit.intOf]
  ·by_cases hp : m % 7 = 0
   ·have HR : Hid (r = (m == 7)) := Zh (by
     have h := HI.out
     rw [show Pri.bases.drop (Int.toNat 3) = 7 :: Pri.bases.drop (Int.toNat 4) from rfl] at h
     unfold Pri.sieve at h
     rw [if_pos hp] at h
     rw [← hr.out]; exact Pri.isP_some H2.out h.symm)
    have t1 : ((m : Int) % 7 == 0) = true := by simp; omega
    have tm : ((m : Int) == 7) = r := by rw [HR.out, Bool.eq_iff_iff]; simp; omega
    clear HI hp HR
    have ix : ∀ w, (Instr.index 124 (.agg #[.int .u64 2, .int .u64 3, .int .u64 5, .int .u64 7, .int .u64 11, .int .u64 13, .int .u64 17, .int .u64 19, .int .u64 23, .int .u64 29, .int .u64 31, .int .u64 37]) (.int .i64 3)).run Tryz.prog w = .ok (.int .u64 7) w := fun _ => by kernel_rfl
    go_wp2
    go_ret
    exact ⟨rfl, _, rfl⟩
   ·have HR : Hid (Pri.sieve m (Pri.bases.drop (Int.toNat 4)) = Pri.sieve m Pri.bases) := Zh (by
     have h := HI.out
     rw [show Pri.bases.drop (Int.toNat 3) = 7 :: Pri.bases.drop (Int.toNat 4) from rfl] at h
     unfold Pri.sieve at h
     rw [if_neg hp] at h
     exact h)
    have t1 : ((m : Int) % 7 == 0) = false := by simp; omega
    clear HI hp
    have ix : ∀ w, (Instr.index 124 (.agg #[.int .u64 2, .int .u64 3, .int .u64 5, .int .u64 7, .int .u64 11, .int .u64 13, .int .u64 17, .int .u64 19, .int .u64 23, .int .u64 29, .int .u64 31, .int .u64 37]) (.int .i64 3)).run Tryz.prog w = .ok (.int .u64 7) w := fun _ => by kernel_rfl
    go_wp2
    go_roundw
    case rel => exact ⟨4, rfl, by omega, HR, _, rfl⟩
    case measure => simp [RowKit.intOf]
  ·by_cases hp : m % 11 = 0
   ·have HR : Hid (r = (m == 11)) := Zh (by
     have h := HI.out
     rw [show Pri.bases.drop (Int.toNat 4) = 11 :: Pri.bases.drop (Int.toNat 5) from rfl] at h
     unfold Pri.sieve at h
     rw [if_pos hp] at h
     rw [← hr.out]; exact Pri.isP_some H2.out h.symm)
    have t1 : ((m : Int) % 11 == 0) = true := by simp; omega
    have tm : ((m : Int) == 11) = r := by rw [HR.out, Bool.eq_iff_iff]; simp; omega
    clear HI hp HR
    have ix : ∀ w, (Instr.index 124 (.agg #[.int .u64 2, .int .u64 3, .int .u64 5, .int .u64 7, .int .u64 11, .int .u64 13, .int .u64 17, .int .u64 19, .int .u64 23, .int .u64 29, .int .u64 31, .int .u64 37]) (.int .i64 4)).run Tryz.prog w = .ok (.int .u64 11) w := fun _ => by kernel_rfl
    go_wp2
    go_ret
    exact ⟨rfl, _, rfl⟩
   ·have HR : Hid (Pri.sieve m (Pri.bases.drop (Int.toNat 5)) = Pri.sieve m Pri.bases) := Zh (by
     have h := HI.out
     rw [show Pri.bases.drop (Int.toNat 4) = 11 :: Pri.bases.drop (Int.toNat 5) from rfl] at h
     unfold Pri.sieve at h
     rw [if_neg hp] at h
     exact h)
    have t1 : ((m : Int) % 11 == 0) = false := by simp; omega
    clear HI hp
    have ix : ∀ w, (Instr.index 124 (.agg #[.int .u64 2, .int .u64 3, .int .u64 5, .int .u64 7, .int .u64 11, .int .u64 13, .int .u64 17, .int .u64 19, .int .u64 23, .int .u64 29, .int .u64 31, .int .u64 37]) (.int .i64 4)).run Tryz.prog w = .ok (.int .u64 11) w := fun _ => by kernel_rfl
    go_wp2
    go_roundw
    case rel => exact ⟨5, rfl, by omega, HR, _, rfl⟩
    case measure => simp [RowKit.intOf]
  ·by_cases hp : m % 13 = 0
   ·have HR : Hid (r = (m == 13)) := Zh (by
     have h := HI.out
     rw [show Pri.bases.drop (Int.toNat 5) = 13 :: Pri.bases.drop (Int.toNat 6) from rfl] at h
     unfold Pri.sieve at h
     rw [if_pos hp] at h
     rw [← hr.out]; exact Pri.isP_some H2.out h.symm)
    have t1 : ((m : Int) % 13 == 0) = true := by simp; omega
    have tm : ((m : Int) == 13) = r := by rw [HR.out, Bool.eq_iff_iff]; simp; omega
    clear HI hp HR
    have ix : ∀ w, (Instr.index 124 (.agg #[.int .u64 2, .int .u64 3, .int .u64 5, .int .u64 7, .int .u64 11, .int .u64 13, .int .u64 17, .int .u64 19, .int .u64 23, .int .u64 29, .int .u64 31, .int .u64 37]) (.int .i64 5)).run Tryz.prog w = .ok (.int .u64 13) w := fun _ => by kernel_rfl
    go_wp2
    go_ret
    exact ⟨rfl, _, rfl⟩
   ·have HR : Hid (Pri.sieve m (Pri.bases.drop (Int.toNat 6)) = Pri.sieve m Pri.bases) := Zh (by
     have h := HI.out
     rw [show Pri.bases.drop (Int.toNat 5) = 13 :: Pri.bases.drop (Int.toNat 6) from rfl] at h
     unfold Pri.sieve at h
     rw [if_neg hp] at h
     exact h)
    have t1 : ((m : Int) % 13 == 0) = false := by simp; omega
    clear HI hp
    have ix : ∀ w, (Instr.index 124 (.agg #[.int .u64 2, .int .u64 3, .int .u64 5, .int .u64 7, .int .u64 11, .int .u64 13, .int .u64 17, .int .u64 19, .int .u64 23, .int .u64 29, .int .u64 31, .int .u64 37]) (.int .i64 5)).run Tryz.prog w = .ok (.int .u64 13) w := fun _ => by kernel_rfl
    go_wp2
    go_roundw
    case rel => exact ⟨6, rfl, by omega, HR, _, rfl⟩
    case measure => simp [RowKit.intOf]
  ·by_cases hp : m % 17 = 0
   ·have HR : Hid (r = (m == 17)) := Zh (by
     have h := HI.out
     rw [show Pri.bases.drop (Int.toNat 6) = 17 :: Pri.bases.drop (Int.toNat 7) from rfl] at h
     unfold Pri.sieve at h
     rw [if_pos hp] at h
     rw [← hr.out]; exact Pri.isP_some H2.out h.symm)
    have t1 : ((m : Int) % 17 == 0) = true := by simp; omega
    have tm : ((m : Int) == 17) = r := by rw [HR.out, Bool.eq_iff_iff]; simp; omega
    clear HI hp HR
    have ix : ∀ w, (Instr.index 124 (.agg #[.int .u64 2, .int .u64 3, .int .u64 5, .int .u64 7, .int .u64 11, .int .u64 13, .int .u64 17, .int .u64 19, .int .u64 23, .int .u64 29, .int .u64 31, .int .u64 37]) (.int .i64 6)).run Tryz.prog w = .ok (.int .u64 17) w := fun _ => by kernel_rfl
    go_wp2
    go_ret
    exact ⟨rfl, _, rfl⟩
   ·have HR : Hid (Pri.sieve m (Pri.bases.drop (Int.toNat 7)) = Pri.sieve m Pri.bases) := Zh (by
     have h := HI.out
     rw [show Pri.bases.drop (Int.toNat 6) = 17 :: Pri.bases.drop (Int.toNat 7) from rfl] at h
     unfold Pri.sieve at h
     rw [if_neg hp] at h
     exact h)
    have t1 : ((m : Int) % 17 == 0) = false := by simp; omega
    clear HI hp
    have ix : ∀ w, (Instr.index 124 (.agg #[.int .u64 2, .int .u64 3, .int .u64 5, .int .u64 7, .int .u64 11, .int .u64 13, .int .u64 17, .int .u64 19, .int .u64 23, .int .u64 29, .int .u64 31, .int .u64 37]) (.int .i64 6)).run Tryz.prog w = .ok (.int .u64 17) w := fun _ => by kernel_rfl
    go_wp2
    go_roundw
    case rel => exact ⟨7, rfl, by omega, HR, _, rfl⟩
    case measure => simp [RowKit.intOf]
  ·by_cases hp : m % 19 = 0
   ·have HR : Hid (r = (m == 19)) := Zh (by
     have h := HI.out
     rw [show Pri.bases.drop (Int.toNat 7) = 19 :: Pri.bases.drop (Int.toNat 8) from rfl] at h
     unfold Pri.sieve at h
     rw [if_pos hp] at h
     rw [← hr.out]; exact Pri.isP_some H2.out h.symm)
    have t1 : ((m : Int) % 19 == 0) = true := by simp; omega
    have tm : ((m : Int) == 19) = r := by rw [HR.out, Bool.eq_iff_iff]; simp; omega
    clear HI hp HR
    have ix : ∀ w, (Instr.index 124 (.agg #[.int .u64 2, .int .u64 3, .int .u64 5, .int .u64 7, .int .u64 11, .int .u64 13, .int .u64 17, .int .u64 19, .int .u64 23, .int .u64 29, .int .u64 31, .int .u64 37]) (.int .i64 7)).run Tryz.prog w = .ok (.int .u64 19) w := fun _ => by kernel_rfl
    go_wp2
    go_ret
    exact ⟨rfl, _, rfl⟩
   ·have HR : Hid (Pri.sieve m (Pri.bases.drop (Int.toNat 8)) = Pri.sieve m Pri.bases) := Zh (by
     have h := HI.out
     rw [show Pri.bases.drop (Int.toNat 7) = 19 :: Pri.bases.drop (Int.toNat 8) from rfl] at h
     unfold Pri.sieve at h
     rw [if_neg hp] at h
     exact h)
    have t1 : ((m : Int) % 19 == 0) = false := by simp; omega
    clear HI hp
    have ix : ∀ w, (Instr.index 124 (.agg #[.int .u64 2, .int .u64 3, .int .u64 5, .int .u64 7, .int .u64 11, .int .u64 13, .int .u64 17, .int .u64 19, .int .u64 23, .int .u64 29, .int .u64 31, .int .u64 37]) (.int .i64 7)).run Tryz.prog w = .ok (.int .u64 19) w := fun _ => by kernel_rfl
    go_wp2
    go_roundw
    case rel => exact ⟨8, rfl, by omega, HR, _, rfl⟩
    case measure => simp [RowKit.intOf]
  ·by_cases hp : m % 23 = 0
   ·have HR : Hid (r = (m == 23)) := Zh (by
     have h := HI.out
     rw [show Pri.bases.drop (Int.toNat 8) = 23 :: Pri.bases.drop (Int.toNat 9) from rfl] at h
     unfold Pri.sieve at h
     rw [if_pos hp] at h
     rw [← hr.out]; exact Pri.isP_some H2.out h.symm)
    have t1 : ((m : Int) % 23 == 0) = true := by simp; omega
    have tm : ((m : Int) == 23) = r := by rw [HR.out, Bool.eq_iff_iff]; simp; omega
    clear HI hp HR
    have ix : ∀ w, (Instr.index 124 (.agg #[.int .u64 2, .int .u64 3, .int .u64 5, .int .u64 7, .int .u64 11, .int .u64 13, .int .u64 17, .int .u64 19, .int .u64 23, .int .u64 29, .int .u64 31, .int .u64 37]) (.int .i64 8)).run Tryz.prog w = .ok (.int .u64 23) w := fun _ => by kernel_rfl
    go_wp2
    go_ret
    exact ⟨rfl, _, rfl⟩
   ·have HR : Hid (Pri.sieve m (Pri.bases.drop (Int.toNat 9)) = Pri.sieve m Pri.bases) := Zh (by
     have h := HI.out
     rw [show Pri.bases.drop (Int.toNat 8) = 23 :: Pri.bases.drop (Int.toNat 9) from rfl] at h
     unfold Pri.sieve at h
     rw [if_neg hp] at h
     exact h)
    have t1 : ((m : Int) % 23 == 0) = false := by simp; omega
    clear HI hp
    have ix : ∀ w, (Instr.index 124 (.agg #[.int .u64 2, .int .u64 3, .int .u64 5, .int .u64 7, .int .u64 11, .int .u64 13, .int .u64 17, .int .u64 19, .int .u64 23, .int .u64 29, .int .u64 31, .int .u64 37]) (.int .i64 8)).run Tryz.prog w = .ok (.int .u64 23) w := fun _ => by kernel_rfl
    go_wp2
    go_roundw
    case rel => exact ⟨9, rfl, by omega, HR, _, rfl⟩
    case measure => simp [RowKit.intOf]
  ·by_cases hp : m % 29 = 0
   ·have HR : Hid (r = (m == 29)) := Zh (by
     have h := HI.out
     rw [show Pri.bases.drop (Int.toNat 9) = 29 :: Pri.bases.drop (Int.toNat 10) from rfl] at h
     unfold Pri.sieve at h
     rw [if_pos hp] at h
     rw [← hr.out]; exact Pri.isP_some H2.out h.symm)
    have t1 : ((m : Int) % 29 == 0) = true := by simp; omega
    have tm : ((m : Int) == 29) = r := by rw [HR.out, Bool.eq_iff_iff]; simp; omega
    clear HI hp HR
    have ix : ∀ w, (Instr.index 124 (.agg #[.int .u64 2, .int .u64 3, .int .u64 5, .int .u64 7, .int .u64 11, .int .u64 13, .int .u64 17, .int .u64 19, .int .u64 23, .int .u64 29, .int .u64 31, .int .u64 37]) (.int .i64 9)).run Tryz.prog w = .ok (.int .u64 29) w := fun _ => by kernel_rfl
    go_wp2
    go_ret
    exact ⟨rfl, _, rfl⟩
   ·have HR : Hid (Pri.sieve m (Pri.bases.drop (Int.toNat 10)) = Pri.sieve m Pri.bases) := Zh (by
     have h := HI.out
     rw [show Pri.bases.drop (Int.toNat 9) = 29 :: Pri.bases.drop (Int.toNat 10) from rfl] at h
     unfold Pri.sieve at h
     rw [if_neg hp] at h
     exact h)
    have t1 : ((m : Int) % 29 == 0) = false := by simp; omega
    clear HI hp
    have ix : ∀ w, (Instr.index 124 (.agg #[.int .u64 2, .int .u64 3, .int .u64 5, .int .u64 7, .int .u64 11, .int .u64 13, .int .u64 17, .int .u64 19, .int .u64 23, .int .u64 29, .int .u64 31, .int .u64 37]) (.int .i64 9)).run Tryz.prog w = .ok (.int .u64 29) w := fun _ => by kernel_rfl
    go_wp2
    go_roundw
    case rel => exact ⟨10, rfl, by omega, HR, _, rfl⟩
    case measure => simp [RowKit.intOf]
  ·by_cases hp : m % 31 = 0
   ·have HR : Hid (r = (m == 31)) := Zh (by
     have h := HI.out
     rw [show Pri.bases.drop (Int.toNat 10) = 31 :: Pri.bases.drop (Int.toNat 11) from rfl] at h
     unfold Pri.sieve at h
     rw [if_pos hp] at h
     rw [← hr.out]; exact Pri.isP_some H2.out h.symm)
    have t1 : ((m : Int) % 31 == 0) = true := by simp; omega
    have tm : ((m : Int) == 31) = r := by rw [HR.out, Bool.eq_iff_iff]; simp; omega
    clear HI hp HR
    have ix : ∀ w, (Instr.index 124 (.agg #[.int .u64 2, .int .u64 3, .int .u64 5, .int .u64 7, .int .u64 11, .int .u64 13, .int .u64 17, .int .u64 19, .int .u64 23, .int .u64 29, .int .u64 31, .int .u64 37]) (.int .i64 10)).run Tryz.prog w = .ok (.int .u64 31) w := fun _ => by kernel_rfl
    go_wp2
    go_ret
    exact ⟨rfl, _, rfl⟩
   ·have HR : Hid (Pri.sieve m (Pri.bases.drop (Int.toNat 11)) = Pri.sieve m Pri.bases) := Zh (by
     have h := HI.out
     rw [show Pri.bases.drop (Int.toNat 10) = 31 :: Pri.bases.drop (Int.toNat 11) from rfl] at h
     unfold Pri.sieve at h
     rw [if_neg hp] at h
     exact h)
    have t1 : ((m : Int) % 31 == 0) = false := by simp; omega
    clear HI hp
    have ix : ∀ w, (Instr.index 124 (.agg #[.int .u64 2, .int .u64 3, .int .u64 5, .int .u64 7, .int .u64 11, .int .u64 13, .int .u64 17, .int .u64 19, .int .u64 23, .int .u64 29, .int .u64 31, .int .u64 37]) (.int .i64 10)).run Tryz.prog w = .ok (.int .u64 31) w := fun _ => by kernel_rfl
    go_wp2
    go_roundw
    case rel => exact ⟨11, rfl, by omega, HR, _, rfl⟩
    case measure => simp [RowKit.intOf]
  ·by_cases hp : m % 37 = 0
   ·have HR : Hid (r = (m == 37)) := Zh (by
     have h := HI.out
     rw [show Pri.bases.drop (Int.toNat 11) = 37 :: Pri.bases.drop (Int.toNat 12) from rfl] at h
     unfold Pri.sieve at h
     rw [if_pos hp] at h
     rw [← hr.out]; exact Pri.isP_some H2.out h.symm)
    have t1 : ((m : Int) % 37 == 0) = true := by simp; omega
    have tm : ((m : Int) == 37) = r := by rw [HR.out, Bool.eq_iff_iff]; simp; omega
    clear HI hp HR
    have ix : ∀ w, (Instr.index 124 (.agg #[.int .u64 2, .int .u64 3, .int .u64 5, .int .u64 7, .int .u64 11, .int .u64 13, .int .u64 17, .int .u64 19, .int .u64 23, .int .u64 29, .int .u64 31, .int .u64 37]) (.int .i64 11)).run Tryz.prog w = .ok (.int .u64 37) w := fun _ => by kernel_rfl
    go_wp2
    go_ret
    exact ⟨rfl, _, rfl⟩
   ·have HR : Hid (Pri.sieve m (Pri.bases.drop (Int.toNat 12)) = Pri.sieve m Pri.bases) := Zh (by
     have h := HI.out
     rw [show Pri.bases.drop (Int.toNat 11) = 37 :: Pri.bases.drop (Int.toNat 12) from rfl] at h
     unfold Pri.sieve at h
     rw [if_neg hp] at h
     exact h)
    have t1 : ((m : Int) % 37 == 0) = false := by simp; omega
    clear HI hp
    have ix : ∀ w, (Instr.index 124 (.agg #[.int .u64 2, .int .u64 3, .int .u64 5, .int .u64 7, .int .u64 11, .int .u64 13, .int .u64 17, .int .u64 19, .int .u64 23, .int .u64 29, .int .u64 31, .int .u64 37]) (.int .i64 11)).run Tryz.prog w = .ok (.int .u64 37) w := fun _ => by kernel_rfl
    go_wp2
    go_roundw
    case rel => exact ⟨12, rfl, by omega, HR, _, rfl⟩
    case measure => simp [RowKit.intOf]
  ·have hno : Pri.sieve m Pri.bases = none := HI.out.symm
   obtain ⟨hbig, hodd⟩ := Pri.sieve_big H2.out hno
   have hall := Pri.isP_none H2.out hno
   obtain ⟨hz, hz64⟩ := Pri.ctz_tz (n := m - 1) (by omega) (by omega)
   have hz1 := Pri.tz_pos (n := m - 1) (by omega) (by omega) (by omega)
   obtain ⟨s, hs⟩ : ∃ s, s = Pri.tz (m - 1) := ⟨_, rfl⟩
   obtain ⟨d, hd⟩ : ∃ d, d = Pri.od (m - 1) := ⟨_, rfl⟩
   have hdd : d = (m - 1) / 2 ^ s := by rw [hd, hs]; rfl
   have hdm : d ≤ m - 1 := by rw [hdd]; exact Nat.div_le_self _ _
   have tz := fun w hl => tz64_c (m - 1) (by omega) (by omega) w hl
   rw [hz, ← hs] at tz
   rw [← hs] at hz64 hz1
   have TZ := Zh tz
   have el : IntKind.u64.wrap ((m : Int) - 1) = ((m - 1 : Nat) : Int) := by rw [IntKind.wrap_u64]; omega
   have HS := Zh hs
   have HD := Zh hd
   have HDD := Zh hdd
   have HDM := Zh hdm
   have hst : Hid ((Pri.bases.drop 0).all (Pri.strong m) = r) := Zh (by rw [← hr.out, hall]; rfl)
   have HB := Zh hbig
   have HZ := Zh (show 1 ≤ s ∧ (s : Int) ≤ 64 by omega)
   have esh : ((m - 1 : Nat) : Int) / 2 ^ s = (d : Int) := by rw [hdd]; simp [Int.natCast_pow]
   clear hno hall hz hz1 hs hd hdd hdm tz HI hbig hodd
   go_wp2_with fail
   refine (TZ.out _ (HLD.out.drewN _)).mono ?_; rintro e1 w1 ⟨rfl, rfl⟩
   go_wp2
   go_loopw [29] (fun s0 wr => ∃ i : Int, s0 = .int .i64 i ∧ (0 ≤ i ∧ i ≤ 12) ∧ Hid ((Pri.bases.drop i.toNat).all (Pri.strong m) = r) ∧ Qw w wr) (fun s0 _ => 12 - (RowKit.intOf s0).toNat)
   case atStart => exact ⟨0, rfl, by omega, hst, _, rfl⟩
   case round =>
    obtain ⟨i, rfl, hi, HI, n3, rfl⟩ := hrel
    clear hst
    have hi' : i = 0 ∨ i = 1 ∨ i = 2 ∨ i = 3 ∨ i = 4 ∨ i = 5 ∨ i = 6 ∨ i = 7 ∨ i = 8 ∨ i = 9 ∨ i = 10 ∨ i = 11 ∨ i = 12 := by omega
    clear hi
    rcases hi' with rfl | rfl | rfl | rfl | rfl | rfl | rfl | rfl | rfl | rfl | rfl | rfl | rfl
    ·obtain ⟨b, hb⟩ : ∃ b, b = Pri.strong m 2 := ⟨_, rfl⟩
     have HR : Hid ((b && (Pri.bases.drop (Int.toNat 1)).all (Pri.strong m)) = r) := Zh (by
      have h := HI.out
      rw [show Pri.bases.drop (Int.toNat 0) = 2 :: Pri.bases.drop (Int.toNat 1) from rfl, List.all_cons, ← hb] at h
      exact h)
     have cc := fun w => composite_c 2 m d s (2 ^ d % m) (m - 1) b w (by have := HB.out; omega) (by have := HDM.out; omega) (by omega) (by omega) HZ.out.1 HZ.out.2 rfl rfl (Zh (by rw [hb, HD.out, HS.out]; rfl))
     have CC := Zh cc
     clear HI hb cc
     have ix : ∀ w, (Instr.index 124 (.agg #[.int .u64 2, .int .u64 3, .int .u64 5, .int .u64 7, .int .u64 11, .int .u64 13, .int .u64 17, .int .u64 19, .int .u64 23, .int .u64 29, .int .u64 31, .int .u64 37]) (.int .i64 0)).run Tryz.prog w = .ok (.int .u64 2) w := fun _ => by kernel_rfl
     go_wp2_with fail
     refine (CC.out _).mono ?_; rintro e1 w1 ⟨rfl, n4, rfl⟩
     clear CC
     cases b
     ·have hrr : r = false := by rw [← HR.out]; rfl
      subst hrr
      go_wp2
      go_ret
      exact ⟨rfl, _, rfl⟩
     ·have HR2 : Hid ((Pri.bases.drop (Int.toNat 1)).all (Pri.strong m) = r) := Zh (by have h := HR.out; rw [Bool.true_and] at h; exact h)
      clear HR
      go_wp2
      go_roundw
      case rel => exact ⟨1, rfl, by omega, HR2, _, rfl⟩
      case measure => simp [RowKit.intOf]
    ·obtain ⟨b, hb⟩ : ∃ b, b = Pri.strong m 3 := ⟨_, rfl⟩
     have HR : Hid ((b && (Pri.bases.drop (Int.toNat 2)).all (Pri.strong m)) = r) := Zh (by
      have h := HI.out
      rw [show Pri.bases.drop (Int.toNat 1) = 3 :: Pri.bases.drop (Int.toNat 2) from rfl, List.all_cons, ← hb] at h
      exact h)
     have cc := fun w => composite_c 3 m d s (3 ^ d % m) (m - 1) b w (by have := HB.out; omega) (by have := HDM.out; omega) (by omega) (by omega) HZ.out.1 HZ.out.2 rfl rfl (Zh (by rw [hb, HD.out, HS.out]; rfl))
     have CC := Zh cc
     clear HI hb cc
     have ix : ∀ w, (Instr.index 124 (.agg #[.int .u64 2, .int .u64 3, .int .u64 5, .int .u64 7, .int .u64 11, .int .u64 13, .int .u64 17, .int .u64 19, .int .u64 23, .int .u64 29, .int .u64 31, .int .u64 37]) (.int .i64 1)).run Tryz.prog w = .ok (.int .u64 3) w := fun _ => by kernel_rfl
     go_wp2_with fail
     refine (CC.out _).mono ?_; rintro e1 w1 ⟨rfl, n4, rfl⟩
     clear CC
     cases b
     ·have hrr : r = false := by rw [← HR.out]; rfl
      subst hrr
      go_wp2
      go_ret
      exact ⟨rfl, _, rfl⟩
     ·have HR2 : Hid ((Pri.bases.drop (Int.toNat 2)).all (Pri.strong m) = r) := Zh (by have h := HR.out; rw [Bool.true_and] at h; exact h)
      clear HR
      go_wp2
      go_roundw
      case rel => exact ⟨2, rfl, by omega, HR2, _, rfl⟩
      case measure => simp [RowKit.intOf]
    ·obtain ⟨b, hb⟩ : ∃ b, b = Pri.strong m 5 := ⟨_, rfl⟩
     have HR : Hid ((b && (Pri.bases.drop (Int.toNat 3)).all (Pri.strong m)) = r) := Zh (by
      have h := HI.out
      rw [show Pri.bases.drop (Int.toNat 2) = 5 :: Pri.bases.drop (Int.toNat 3) from rfl, List.all_cons, ← hb] at h
      exact h)
     have cc := fun w => composite_c 5 m d s (5 ^ d % m) (m - 1) b w (by have := HB.out; omega) (by have := HDM.out; omega) (by omega) (by omega) HZ.out.1 HZ.out.2 rfl rfl (Zh (by rw [hb, HD.out, HS.out]; rfl))
     have CC := Zh cc
     clear HI hb cc
     have ix : ∀ w, (Instr.index 124 (.agg #[.int .u64 2, .int .u64 3, .int .u64 5, .int .u64 7, .int .u64 11, .int .u64 13, .int .u64 17, .int .u64 19, .int .u64 23, .int .u64 29, .int .u64 31, .int .u64 37]) (.int .i64 2)).run Tryz.prog w = .ok (.int .u64 5) w := fun _ => by kernel_rfl
     go_wp2_with fail
     refine (CC.out _).mono ?_; rintro e1 w1 ⟨rfl, n4, rfl⟩
     clear CC
     cases b
     ·have hrr : r = false := by rw [← HR.out]; rfl
      subst hrr
      go_wp2
      go_ret
      exact ⟨rfl, _, rfl⟩
     ·have HR2 : Hid ((Pri.bases.drop (Int.toNat 3)).all (Pri.strong m) = r) := Zh (by have h := HR.out; rw [Bool.true_and] at h; exact h)
      clear HR
      go_wp2
      go_roundw
      case rel => exact ⟨3, rfl, by omega, HR2, _, rfl⟩
      case measure => simp [RowKit.intOf]
    ·obtain ⟨b, hb⟩ : ∃ b, b = Pri.strong m 7 := ⟨_, rfl⟩
     have HR : Hid ((b && (Pri.bases.drop (Int.toNat 4)).all (Pri.strong m)) = r) := Zh (by
      have h := HI.out
      rw [show Pri.bases.drop (Int.toNat 3) = 7 :: Pri.bases.drop (Int.toNat 4) from rfl, List.all_cons, ← hb] at h
      exact h)
     have cc := fun w => composite_c 7 m d s (7 ^ d % m) (m - 1) b w (by have := HB.out; omega) (by have := HDM.out; omega) (by omega) (by omega) HZ.out.1 HZ.out.2 rfl rfl (Zh (by rw [hb, HD.out, HS.out]; rfl))
     have CC := Zh cc
     clear HI hb cc
     have ix : ∀ w, (Instr.index 124 (.agg #[.int .u64 2, .int .u64 3, .int .u64 5, .int .u64 7, .int .u64 11, .int .u64 13, .int .u64 17, .int .u64 19, .int .u64 23, .int .u64 29, .int .u64 31, .int .u64 37]) (.int .i64 3)).run Tryz.prog w = .ok (.int .u64 7) w := fun _ => by kernel_rfl
     go_wp2_with fail
     refine (CC.out _).mono ?_; rintro e1 w1 ⟨rfl, n4, rfl⟩
     clear CC
     cases b
     ·have hrr : r = false := by rw [← HR.out]; rfl
      subst hrr
      go_wp2
      go_ret
      exact ⟨rfl, _, rfl⟩
     ·have HR2 : Hid ((Pri.bases.drop (Int.toNat 4)).all (Pri.strong m) = r) := Zh (by have h := HR.out; rw [Bool.true_and] at h; exact h)
      clear HR
      go_wp2
      go_roundw
      case rel => exact ⟨4, rfl, by omega, HR2, _, rfl⟩
      case measure => simp [RowKit.intOf]
    ·obtain ⟨b, hb⟩ : ∃ b, b = Pri.strong m 11 := ⟨_, rfl⟩
     have HR : Hid ((b && (Pri.bases.drop (Int.toNat 5)).all (Pri.strong m)) = r) := Zh (by
      have h := HI.out
      rw [show Pri.bases.drop (Int.toNat 4) = 11 :: Pri.bases.drop (Int.toNat 5) from rfl, List.all_cons, ← hb] at h
      exact h)
     have cc := fun w => composite_c 11 m d s (11 ^ d % m) (m - 1) b w (by have := HB.out; omega) (by have := HDM.out; omega) (by omega) (by omega) HZ.out.1 HZ.out.2 rfl rfl (Zh (by rw [hb, HD.out, HS.out]; rfl))
     have CC := Zh cc
     clear HI hb cc
     have ix : ∀ w, (Instr.index 124 (.agg #[.int .u64 2, .int .u64 3, .int .u64 5, .int .u64 7, .int .u64 11, .int .u64 13, .int .u64 17, .int .u64 19, .int .u64 23, .int .u64 29, .int .u64 31, .int .u64 37]) (.int .i64 4)).run Tryz.prog w = .ok (.int .u64 11) w := fun _ => by kernel_rfl
     go_wp2_with fail
     refine (CC.out _).mono ?_; rintro e1 w1 ⟨rfl, n4, rfl⟩
     clear CC
     cases b
     ·have hrr : r = false := by rw [← HR.out]; rfl
      subst hrr
      go_wp2
      go_ret
      exact ⟨rfl, _, rfl⟩
     ·have HR2 : Hid ((Pri.bases.drop (Int.toNat 5)).all (Pri.strong m) = r) := Zh (by have h := HR.out; rw [Bool.true_and] at h; exact h)
      clear HR
      go_wp2
      go_roundw
      case rel => exact ⟨5, rfl, by omega, HR2, _, rfl⟩
      case measure => simp [RowKit.intOf]
    ·obtain ⟨b, hb⟩ : ∃ b, b = Pri.strong m 13 := ⟨_, rfl⟩
     have HR : Hid ((b && (Pri.bases.drop (Int.toNat 6)).all (Pri.strong m)) = r) := Zh (by
      have h := HI.out
      rw [show Pri.bases.drop (Int.toNat 5) = 13 :: Pri.bases.drop (Int.toNat 6) from rfl, List.all_cons, ← hb] at h
      exact h)
     have cc := fun w => composite_c 13 m d s (13 ^ d % m) (m - 1) b w (by have := HB.out; omega) (by have := HDM.out; omega) (by omega) (by omega) HZ.out.1 HZ.out.2 rfl rfl (Zh (by rw [hb, HD.out, HS.out]; rfl))
     have CC := Zh cc
     clear HI hb cc
     have ix : ∀ w, (Instr.index 124 (.agg #[.int .u64 2, .int .u64 3, .int .u64 5, .int .u64 7, .int .u64 11, .int .u64 13, .int .u64 17, .int .u64 19, .int .u64 23, .int .u64 29, .int .u64 31, .int .u64 37]) (.int .i64 5)).run Tryz.prog w = .ok (.int .u64 13) w := fun _ => by kernel_rfl
     go_wp2_with fail
     refine (CC.out _).mono ?_; rintro e1 w1 ⟨rfl, n4, rfl⟩
     clear CC
     cases b
     ·have hrr : r = false := by rw [← HR.out]; rfl
      subst hrr
      go_wp2
      go_ret
      exact ⟨rfl, _, rfl⟩
     ·have HR2 : Hid ((Pri.bases.drop (Int.toNat 6)).all (Pri.strong m) = r) := Zh (by have h := HR.out; rw [Bool.true_and] at h; exact h)
      clear HR
      go_wp2
      go_roundw
      case rel => exact ⟨6, rfl, by omega, HR2, _, rfl⟩
      case measure => simp [RowKit.intOf]
    ·obtain ⟨b, hb⟩ : ∃ b, b = Pri.strong m 17 := ⟨_, rfl⟩
     have HR : Hid ((b && (Pri.bases.drop (Int.toNat 7)).all (Pri.strong m)) = r) := Zh (by
      have h := HI.out
      rw [show Pri.bases.drop (Int.toNat 6) = 17 :: Pri.bases.drop (Int.toNat 7) from rfl, List.all_cons, ← hb] at h
      exact h)
     have cc := fun w => composite_c 17 m d s (17 ^ d % m) (m - 1) b w (by have := HB.out; omega) (by have := HDM.out; omega) (by omega) (by omega) HZ.out.1 HZ.out.2 rfl rfl (Zh (by rw [hb, HD.out, HS.out]; rfl))
     have CC := Zh cc
     clear HI hb cc
     have ix : ∀ w, (Instr.index 124 (.agg #[.int .u64 2, .int .u64 3, .int .u64 5, .int .u64 7, .int .u64 11, .int .u64 13, .int .u64 17, .int .u64 19, .int .u64 23, .int .u64 29, .int .u64 31, .int .u64 37]) (.int .i64 6)).run Tryz.prog w = .ok (.int .u64 17) w := fun _ => by kernel_rfl
     go_wp2_with fail
     refine (CC.out _).mono ?_; rintro e1 w1 ⟨rfl, n4, rfl⟩
     clear CC
     cases b
     ·have hrr : r = false := by rw [← HR.out]; rfl
      subst hrr
      go_wp2
      go_ret
      exact ⟨rfl, _, rfl⟩
     ·have HR2 : Hid ((Pri.bases.drop (Int.toNat 7)).all (Pri.strong m) = r) := Zh (by have h := HR.out; rw [Bool.true_and] at h; exact h)
      clear HR
      go_wp2
      go_roundw
      case rel => exact ⟨7, rfl, by omega, HR2, _, rfl⟩
      case measure => simp [RowKit.intOf]
    ·obtain ⟨b, hb⟩ : ∃ b, b = Pri.strong m 19 := ⟨_, rfl⟩
     have HR : Hid ((b && (Pri.bases.drop (Int.toNat 8)).all (Pri.strong m)) = r) := Zh (by
      have h := HI.out
      rw [show Pri.bases.drop (Int.toNat 7) = 19 :: Pri.bases.drop (Int.toNat 8) from rfl, List.all_cons, ← hb] at h
      exact h)
     have cc := fun w => composite_c 19 m d s (19 ^ d % m) (m - 1) b w (by have := HB.out; omega) (by have := HDM.out; omega) (by omega) (by omega) HZ.out.1 HZ.out.2 rfl rfl (Zh (by rw [hb, HD.out, HS.out]; rfl))
     have CC := Zh cc
     clear HI hb cc
     have ix : ∀ w, (Instr.index 124 (.agg #[.int .u64 2, .int .u64 3, .int .u64 5, .int .u64 7, .int .u64 11, .int .u64 13, .int .u64 17, .int .u64 19, .int .u64 23, .int .u64 29, .int .u64 31, .int .u64 37]) (.int .i64 7)).run Tryz.prog w = .ok (.int .u64 19) w := fun _ => by kernel_rfl
     go_wp2_with fail
     refine (CC.out _).mono ?_; rintro e1 w1 ⟨rfl, n4, rfl⟩
     clear CC
     cases b
     ·have hrr : r = false := by rw [← HR.out]; rfl
      subst hrr
      go_wp2
      go_ret
      exact ⟨rfl, _, rfl⟩
     ·have HR2 : Hid ((Pri.bases.drop (Int.toNat 8)).all (Pri.strong m) = r) := Zh (by have h := HR.out; rw [Bool.true_and] at h; exact h)
      clear HR
      go_wp2
      go_roundw
      case rel => exact ⟨8, rfl, by omega, HR2, _, rfl⟩
      case measure => simp [RowKit.intOf]
    ·obtain ⟨b, hb⟩ : ∃ b, b = Pri.strong m 23 := ⟨_, rfl⟩
     have HR : Hid ((b && (Pri.bases.drop (Int.toNat 9)).all (Pri.strong m)) = r) := Zh (by
      have h := HI.out
      rw [show Pri.bases.drop (Int.toNat 8) = 23 :: Pri.bases.drop (Int.toNat 9) from rfl, List.all_cons, ← hb] at h
      exact h)
     have cc := fun w => composite_c 23 m d s (23 ^ d % m) (m - 1) b w (by have := HB.out; omega) (by have := HDM.out; omega) (by omega) (by omega) HZ.out.1 HZ.out.2 rfl rfl (Zh (by rw [hb, HD.out, HS.out]; rfl))
     have CC := Zh cc
     clear HI hb cc
     have ix : ∀ w, (Instr.index 124 (.agg #[.int .u64 2, .int .u64 3, .int .u64 5, .int .u64 7, .int .u64 11, .int .u64 13, .int .u64 17, .int .u64 19, .int .u64 23, .int .u64 29, .int .u64 31, .int .u64 37]) (.int .i64 8)).run Tryz.prog w = .ok (.int .u64 23) w := fun _ => by kernel_rfl
     go_wp2_with fail
     refine (CC.out _).mono ?_; rintro e1 w1 ⟨rfl, n4, rfl⟩
     clear CC
     cases b
     ·have hrr : r = false := by rw [← HR.out]; rfl
      subst hrr
      go_wp2
      go_ret
      exact ⟨rfl, _, rfl⟩
     ·have HR2 : Hid ((Pri.bases.drop (Int.toNat 9)).all (Pri.strong m) = r) := Zh (by have h := HR.out; rw [Bool.true_and] at h; exact h)
      clear HR
      go_wp2
      go_roundw
      case rel => exact ⟨9, rfl, by omega, HR2, _, rfl⟩
      case measure => simp [RowKit.intOf]
    ·obtain ⟨b, hb⟩ : ∃ b, b = Pri.strong m 29 := ⟨_, rfl⟩
     have HR : Hid ((b && (Pri.bases.drop (Int.toNat 10)).all (Pri.strong m)) = r) := Zh (by
      have h := HI.out
      rw [show Pri.bases.drop (Int.toNat 9) = 29 :: Pri.bases.drop (Int.toNat 10) from rfl, List.all_cons, ← hb] at h
      exact h)
     have cc := fun w => composite_c 29 m d s (29 ^ d % m) (m - 1) b w (by have := HB.out; omega) (by have := HDM.out; omega) (by omega) (by omega) HZ.out.1 HZ.out.2 rfl rfl (Zh (by rw [hb, HD.out, HS.out]; rfl))
     have CC := Zh cc
     clear HI hb cc
     have ix : ∀ w, (Instr.index 124 (.agg #[.int .u64 2, .int .u64 3, .int .u64 5, .int .u64 7, .int .u64 11, .int .u64 13, .int .u64 17, .int .u64 19, .int .u64 23, .int .u64 29, .int .u64 31, .int .u64 37]) (.int .i64 9)).run Tryz.prog w = .ok (.int .u64 29) w := fun _ => by kernel_rfl
     go_wp2_with fail
     refine (CC.out _).mono ?_; rintro e1 w1 ⟨rfl, n4, rfl⟩
     clear CC
     cases b
     ·have hrr : r = false := by rw [← HR.out]; rfl
      subst hrr
      go_wp2
      go_ret
      exact ⟨rfl, _, rfl⟩
     ·have HR2 : Hid ((Pri.bases.drop (Int.toNat 10)).all (Pri.strong m) = r) := Zh (by have h := HR.out; rw [Bool.true_and] at h; exact h)
      clear HR
      go_wp2
      go_roundw
      case rel => exact ⟨10, rfl, by omega, HR2, _, rfl⟩
      case measure => simp [RowKit.intOf]
    ·obtain ⟨b, hb⟩ : ∃ b, b = Pri.strong m 31 := ⟨_, rfl⟩
     have HR : Hid ((b && (Pri.bases.drop (Int.toNat 11)).all (Pri.strong m)) = r) := Zh (by
      have h := HI.out
      rw [show Pri.bases.drop (Int.toNat 10) = 31 :: Pri.bases.drop (Int.toNat 11) from rfl, List.all_cons, ← hb] at h
      exact h)
     have cc := fun w => composite_c 31 m d s (31 ^ d % m) (m - 1) b w (by have := HB.out; omega) (by have := HDM.out; omega) (by omega) (by omega) HZ.out.1 HZ.out.2 rfl rfl (Zh (by rw [hb, HD.out, HS.out]; rfl))
     have CC := Zh cc
     clear HI hb cc
     have ix : ∀ w, (Instr.index 124 (.agg #[.int .u64 2, .int .u64 3, .int .u64 5, .int .u64 7, .int .u64 11, .int .u64 13, .int .u64 17, .int .u64 19, .int .u64 23, .int .u64 29, .int .u64 31, .int .u64 37]) (.int .i64 10)).run Tryz.prog w = .ok (.int .u64 31) w := fun _ => by kernel_rfl
     go_wp2_with fail
     refine (CC.out _).mono ?_; rintro e1 w1 ⟨rfl, n4, rfl⟩
     clear CC
     cases b
     ·have hrr : r = false := by rw [← HR.out]; rfl
      subst hrr
      go_wp2
      go_ret
      exact ⟨rfl, _, rfl⟩
     ·have HR2 : Hid ((Pri.bases.drop (Int.toNat 11)).all (Pri.strong m) = r) := Zh (by have h := HR.out; rw [Bool.true_and] at h; exact h)
      clear HR
      go_wp2
      go_roundw
      case rel => exact ⟨11, rfl, by omega, HR2, _, rfl⟩
      case measure => simp [RowKit.intOf]
    ·obtain ⟨b, hb⟩ : ∃ b, b = Pri.strong m 37 := ⟨_, rfl⟩
     have HR : Hid ((b && (Pri.bases.drop (Int.toNat 12)).all (Pri.strong m)) = r) := Zh (by
      have h := HI.out
      rw [show Pri.bases.drop (Int.toNat 11) = 37 :: Pri.bases.drop (Int.toNat 12) from rfl, List.all_cons, ← hb] at h
      exact h)
     have cc := fun w => composite_c 37 m d s (37 ^ d % m) (m - 1) b w (by have := HB.out; omega) (by have := HDM.out; omega) (by omega) (by omega) HZ.out.1 HZ.out.2 rfl rfl (Zh (by rw [hb, HD.out, HS.out]; rfl))
     have CC := Zh cc
     clear HI hb cc
     have ix : ∀ w, (Instr.index 124 (.agg #[.int .u64 2, .int .u64 3, .int .u64 5, .int .u64 7, .int .u64 11, .int .u64 13, .int .u64 17, .int .u64 19, .int .u64 23, .int .u64 29, .int .u64 31, .int .u64 37]) (.int .i64 11)).run Tryz.prog w = .ok (.int .u64 37) w := fun _ => by kernel_rfl
     go_wp2_with fail
     refine (CC.out _).mono ?_; rintro e1 w1 ⟨rfl, n4, rfl⟩
     clear CC
     cases b
     ·have hrr : r = false := by rw [← HR.out]; rfl
      subst hrr
      go_wp2
      go_ret
      exact ⟨rfl, _, rfl⟩
     ·have HR2 : Hid ((Pri.bases.drop (Int.toNat 12)).all (Pri.strong m) = r) := Zh (by have h := HR.out; rw [Bool.true_and] at h; exact h)
      clear HR
      go_wp2
      go_roundw
      case rel => exact ⟨12, rfl, by omega, HR2, _, rfl⟩
      case measure => simp [RowKit.intOf]
    ·have hrr : r = true := HI.out.symm
     subst hrr
     go_wp2
     go_ret
     exact ⟨rfl, _, rfl⟩
theorem Is_c (n : Int) (w : World) (hl : Laid w) (hn : -9223372036854775808 ≤ n ∧ n ≤ 9223372036854775807) :
  Calls Tryz.prog 92 #[.int .i64 n] w fun e w' => e = .returned (.bool (Pri.isP n.toNat)) ∧ Qw w w' := by
 by_cases h : n < 2
 ·have hr : Pri.isP n.toNat = false := by unfold Pri.isP; rw [if_pos (by omega)]
  rw [hr]
  have hn2 : decide (n < 2) = true := decide_eq_true h
  clear hl hr
  go_enter Tryz.func92, Tryz.ntmps92
  go_wp2
  go_ret
  exact ⟨rfl, Qw.refl _⟩
 ·obtain ⟨m, rfl⟩ : ∃ m : Nat, n = (m : Int) := ⟨n.toNat, by omega⟩
  exact Is_big m _ w hl (by omega) hn.2 rfl
theorem Qw.below {w w' : World} (h : Qw w w') : Below w.heap.size w w' := by obtain ⟨n, rfl⟩ := h; exact below_drewN (Below.refl _ _) n
namespace Pri
/-- p divided out of n: as often as it is listed; and what is left -/
def pull (p n : Nat) : List Nat × Nat := if h : 2 ≤ p ∧ 0 < n ∧ n % p = 0 then
  have _hd : n / p < n := Nat.div_lt_self h.2.1 h.1
  (p :: (pull p (n / p)).1, (pull p (n / p)).2) else ([], n)
termination_by n
/-- all numbers from p on divided out of n, as long as their square is not greater -/
def facs (p n : Nat) : List Nat × Nat := if p ≤ 1048576 ∧ p * p ≤ n then ((pull p n).1 ++ (facs (p + 1) (pull p n).2).1, (facs (p + 1) (pull p n).2).2) else ([], n)
termination_by 1048577 - p
decreasing_by all_goals omega
/-- the factors of a number, if what is left is 1 or passes the test -/
def facN (n : Nat) : Option (List Nat) := if (facs 2 n).2 = 1 then some (facs 2 n).1 else if isP (facs 2 n).2 = true then some ((facs 2 n).1 ++ [(facs 2 n).2]) else none
theorem pull_yes {p n : Nat} (h2 : 2 ≤ p) (h0 : 0 < n) (h : n % p = 0) : pull p n = (p :: (pull p (n / p)).1, (pull p (n / p)).2) := by
 conv => lhs; rw [pull]
 rw [dif_pos ⟨h2, h0, h⟩]
theorem pull_no {p n : Nat} (h : n % p ≠ 0) : pull p n = ([], n) := by
 rw [pull, dif_neg (fun c => h c.2.2)]
theorem facs_in {p n : Nat} (h1 : p ≤ 1048576) (h2 : p * p ≤ n) : facs p n = ((pull p n).1 ++ (facs (p + 1) (pull p n).2).1, (facs (p + 1) (pull p n).2).2) := by
 conv => lhs; rw [facs]
 rw [if_pos ⟨h1, h2⟩]
theorem facs_out {p n : Nat} (h : ¬ (p ≤ 1048576 ∧ p * p ≤ n)) : facs p n = ([], n) := by
 rw [facs, if_neg h]
theorem pull_all (p n : Nat) (hn : 0 < n) : 0 < (pull p n).2 ∧ (pull p n).2 ∣ n ∧ (∀ f ∈ (pull p n).1, 2 ≤ f ∧ f ∣ n) ∧ 2 ^ (pull p n).1.length * (pull p n).2 ≤ n := by
 induction n using Nat.strongRecOn with
 | ind n ih =>
  by_cases h : 2 ≤ p ∧ 0 < n ∧ n % p = 0
  ·have hd : p ∣ n := Nat.dvd_of_mod_eq_zero h.2.2
   have hlt := Nat.div_lt_self h.2.1 h.1
   have hpos : 0 < n / p := Nat.div_pos (Nat.le_of_dvd h.2.1 hd) (by omega)
   obtain ⟨a, b, c, d⟩ := ih _ hlt hpos
   have hq : n / p ∣ n := Nat.div_dvd_of_dvd hd
   rw [pull_yes h.1 h.2.1 h.2.2]
   refine ⟨a, Nat.dvd_trans b hq, ?_, ?_⟩
   ·intro f hf
    rcases List.mem_cons.1 hf with rfl | hf
    ·exact ⟨h.1, hd⟩
    ·exact ⟨(c f hf).1, Nat.dvd_trans (c f hf).2 hq⟩
   ·simp only [List.length_cons, Nat.pow_succ]
    have e : n = n / p * p := (Nat.div_mul_cancel hd).symm
    have h3 : n / p * 2 ≤ n / p * p := Nat.mul_le_mul_left _ h.1
    generalize 2 ^ (pull p (n / p)).1.length = t at *
    generalize (pull p (n / p)).2 = u at *
    rw [show t * 2 * u = t * u * 2 by rw [Nat.mul_assoc, Nat.mul_assoc, Nat.mul_comm 2 u]]
    omega
  ·have e : pull p n = ([], n) := by rw [pull, dif_neg h]
   rw [e]
   exact ⟨hn, Nat.dvd_refl _, by simp, by simp⟩
theorem facs_skip {p n : Nat} (ho : n % 2 = 1) (hp : p % 2 = 1) : facs (p + 1) n = facs (p + 2) n := by
 by_cases h : p + 1 ≤ 1048576 ∧ (p + 1) * (p + 1) ≤ n
 ·have hno : n % (p + 1) ≠ 0 := by
   intro hc
   obtain ⟨k, hk⟩ := Nat.dvd_of_mod_eq_zero hc
   have : (p + 1) % 2 = 0 := by omega
   rw [hk, Nat.mul_mod, this] at ho
   simp at ho
  rw [facs_in h.1 h.2, pull_no hno]
  rfl
 ·rw [facs_out h, facs_out]
  intro hc
  apply h
  have h4 : (p + 1) * (p + 1) ≤ (p + 2) * (p + 2) := Nat.mul_le_mul (by omega) (by omega)
  exact ⟨by omega, Nat.le_trans h4 hc.2⟩
theorem facs_all (k : Nat) : ∀ p n : Nat, 1048577 - p = k → 0 < n → 0 < (facs p n).2 ∧ (facs p n).2 ∣ n ∧ (∀ f ∈ (facs p n).1, 2 ≤ f ∧ f ∣ n) ∧ 2 ^ (facs p n).1.length * (facs p n).2 ≤ n := by
 induction k with
 | zero =>
  intro p n hk hn
  rw [facs_out (by omega)]
  exact ⟨hn, Nat.dvd_refl _, by simp, by simp⟩
 | succ k ih =>
  intro p n hk hn
  by_cases h : p ≤ 1048576 ∧ p * p ≤ n
  ·obtain ⟨a, b, c, d⟩ := pull_all p n hn
   obtain ⟨a', b', c', d'⟩ := ih (p + 1) _ (by omega) a
   rw [facs_in h.1 h.2]
   refine ⟨a', Nat.dvd_trans b' b, ?_, ?_⟩
   ·intro f hf
    rcases List.mem_append.1 hf with hf | hf
    ·exact c f hf
    ·exact ⟨(c' f hf).1, Nat.dvd_trans (c' f hf).2 b⟩
   ·simp only [List.length_append, Nat.pow_add]
    generalize (pull p n).2 = m at *
    generalize 2 ^ (pull p n).1.length = t at *
    rw [Nat.mul_assoc]
    exact Nat.le_trans (Nat.mul_le_mul_left t d') d
  ·rw [facs_out h]
   exact ⟨hn, Nat.dvd_refl _, by simp, by simp⟩
theorem facs_len {n : Nat} (hn : 0 < n) (h : n < 2305843009213693952) : (facs 2 n).1.length ≤ 60 := by
 obtain ⟨a, _, _, d⟩ := facs_all _ 2 n rfl hn
 apply Classical.byContradiction
 intro hc
 have h1 : 2 ^ 61 ≤ 2 ^ (facs 2 n).1.length := Nat.pow_le_pow_right (by decide) (by omega)
 have h2 : 2 ^ (facs 2 n).1.length * 1 ≤ 2 ^ (facs 2 n).1.length * (facs 2 n).2 := Nat.mul_le_mul_left _ a
 omega
theorem facN_all {n : Nat} {l : List Nat} (hn : 0 < n) (h : n < 2305843009213693952) (hf : facN n = some l) : l.length ≤ 61 ∧ ∀ f ∈ l, 2 ≤ f ∧ f ∣ n ∧ f ≤ n := by
 obtain ⟨a, b, c, d⟩ := facs_all _ 2 n rfl hn
 have hl := facs_len hn h
 unfold facN at hf
 by_cases h1 : (facs 2 n).2 = 1
 ·rw [if_pos h1] at hf
  cases hf
  exact ⟨by omega, fun f hf => ⟨(c f hf).1, (c f hf).2, Nat.le_of_dvd hn (c f hf).2⟩⟩
 ·rw [if_neg h1] at hf
  by_cases h2 : isP (facs 2 n).2 = true
  ·rw [if_pos h2] at hf
   cases hf
   refine ⟨by simp; omega, fun f hf => ?_⟩
   rcases List.mem_append.1 hf with hf | hf
   ·exact ⟨(c f hf).1, (c f hf).2, Nat.le_of_dvd hn (c f hf).2⟩
   ·rw [List.mem_singleton.1 hf]
    exact ⟨by omega, b, Nat.le_of_dvd hn b⟩
  ·rw [if_neg h2] at hf
   cases hf
theorem facN_one {n : Nat} (h : (facs 2 n).2 = 1) : facN n = some (facs 2 n).1 := by unfold facN; rw [if_pos h]
theorem facN_more {n : Nat} (h : ¬ (facs 2 n).2 = 1) (hp : isP (facs 2 n).2 = true) : facN n = some ((facs 2 n).1 ++ [(facs 2 n).2]) := by unfold facN; rw [if_neg h, if_pos hp]
theorem facN_none {n : Nat} (h : ¬ (facs 2 n).2 = 1) (hp : isP (facs 2 n).2 = false) : facN n = none := by unfold facN; rw [if_neg h, hp]; rfl
/-- a loop's state: o is found, m is left, p is next -/
def Fac (N p m : Nat) (o : List Nat) : Prop := o ++ (facs p m).1 = (facs 2 N).1 ∧ (facs p m).2 = (facs 2 N).2 ∧ 0 < m ∧ m ≤ N
/-- .. p is being divided out -/
def Pul (N p m : Nat) (o : List Nat) : Prop := o ++ ((pull p m).1 ++ (facs (p + 1) (pull p m).2).1) = (facs 2 N).1 ∧ (facs (p + 1) (pull p m).2).2 = (facs 2 N).2 ∧ 0 < m ∧ m ≤ N
theorem Fac.start {N : Nat} (h : 0 < N) : Fac N 2 N [] := ⟨rfl, rfl, h, Nat.le_refl _⟩
theorem Fac.go {N p m : Nat} {o : List Nat} (h : Fac N p m o) (h1 : p ≤ 1048576) (h2 : p * p ≤ m) : Pul N p m o := by
 obtain ⟨a, b, c, d⟩ := h
 rw [facs_in h1 h2] at a b
 exact ⟨a, b, c, d⟩
theorem Pul.step {N p m : Nat} {o : List Nat} (h : Pul N p m o) (h2 : 2 ≤ p) (hm : m % p = 0) : Pul N p (m / p) (o ++ [p]) := by
 obtain ⟨a, b, c, d⟩ := h
 rw [pull_yes h2 c hm] at a b
 refine ⟨by rw [← a]; simp, b, Nat.div_pos (Nat.le_of_dvd c (Nat.dvd_of_mod_eq_zero hm)) (by omega), Nat.le_trans (Nat.div_le_self _ _) d⟩
theorem Pul.stop {N p m : Nat} {o : List Nat} (h : Pul N p m o) (hm : ¬ m % p = 0) : Fac N (p + 1) m o := by
 obtain ⟨a, b, c, d⟩ := h
 rw [pull_no hm] at a b
 exact ⟨a, b, c, d⟩
theorem Fac.skip {N p m : Nat} {o : List Nat} (h : Fac N (p + 1) m o) (ho : m % 2 = 1) (hp : p % 2 = 1) : Fac N (p + 2) m o := by
 obtain ⟨a, b, c, d⟩ := h
 rw [facs_skip ho hp] at a b
 exact ⟨a, b, c, d⟩
theorem Fac.done {N p m : Nat} {o : List Nat} (h : Fac N p m o) (hc : ¬ (p ≤ 1048576 ∧ p * p ≤ m)) : o = (facs 2 N).1 ∧ m = (facs 2 N).2 := by
 obtain ⟨a, b, _, _⟩ := h
 rw [facs_out hc] at a b
 exact ⟨by simpa using a, b⟩
theorem Fac.len {N p m : Nat} {o : List Nat} (h : Fac N p m o) (h0 : 0 < N) (hN : N < 2305843009213693952) : o.length ≤ 60 := by
 have := facs_len h0 hN
 rw [← h.1] at this
 simp at this; omega
theorem Pul.len {N p m : Nat} {o : List Nat} (h : Pul N p m o) (h0 : 0 < N) (hN : N < 2305843009213693952) : o.length ≤ 60 := by
 have := facs_len h0 hN
 rw [← h.1] at this
 simp at this; omega
theorem div_odd {m p : Nat} (h : m % p = 0) (ho : m % 2 = 1) : m / p % 2 = 1 := by
 obtain ⟨k, hk⟩ := Nat.dvd_of_mod_eq_zero h
 rcases Nat.mod_two_eq_zero_or_one (m / p) with h2 | h2
 ·exfalso
  have e : m / p * p = m := Nat.div_mul_cancel ⟨k, hk⟩
  rw [← e, Nat.mul_mod, h2] at ho
  simp at ho
 ·exact h2
end Pri
/-- residues, as ints -/
def nl (l : List Nat) : List Int := l.map (fun n : Nat => (n : Int))
theorem nl_len (l : List Nat) : (nl l).length = l.length := by simp [nl]
/-- a row of residues: its cells -/
def ncl (l : List Nat) : List Value := icl (nl l)
theorem ncl_len (l : List Nat) : (ncl l).length = l.length * 1 := by rw [ncl, icl_len, nl_len]
theorem ncl_get (l : List Nat) (i : Nat) (h : i < l.length) : (ncl l)[i]? = some (.int .i64 (l[i] : Nat)) := by
 rw [ncl, icl_get _ i (by rw [nl_len]; exact h)]; simp [nl]
theorem ncl_one (l : List Nat) : ∀ u ∈ ncl l, u.oneCell' = true := icl_one _
/-- the cell of a residue of a row -/
theorem Env.elN {D0 : Nat → Prop} {w W : World} {F : List Bx} {G : List Fct} (h : Env D0 w F G W) (i : Nat) {b off n j : Nat} {l : List Nat} (e : G[i]? = some (.rw (.slice (some ⟨b, off, none⟩) n j) n 1 (ncl l))) (hn : n = l.length) (k : Nat) (hk : k < l.length) :
  Env D0 w F (.ce b (off + k) (.int .i64 (l[k] : Nat)) :: G) W := by
 have hm : Rw W (DF D0 w.heap.size F) (.slice (some ⟨b, off, none⟩) n j) n 1 (ncl l) := h.fct.get i e
 exact h.note _ (hm.el (by omega) (ncl_get l k hk))
/-- a row of residues came back -/
def RetI (D : Nat → Prop) (l : List Nat) (e : Ending) (W : World) : Prop := ∃ ao k, e = .returned (.slice ao l.length k) ∧ Hid (Rw W D (.slice ao l.length k) l.length 1 (ncl l))
/-- and an error number -/
def RetIE (D : Nat → Prop) (l : List Nat) (c : Int) (e : Ending) (W : World) : Prop := ∃ ao k, e = .returned (.tuple #[.slice ao l.length k, .int .i64 c]) ∧ Hid (Rw W D (.slice ao l.length k) l.length 1 (ncl l))
theorem Fct.any {W : World} {D : Nat → Prop} {f : Fct} (h : Fct.at W D f) : Fct.at W (fun _ => True) f := Fct.turn h (Nat.le_refl _) (fun _ _ _ => trivial) (fun _ _ _ _ => rfl)
theorem RetEq {a b : Int} (h : a = b) : Ending.returned (.int .i64 a) = Ending.returned (.int .i64 b) := by rw [h]
theorem first_any {α : Type} (l : List α) (p : α → Bool) : ∃ r : Int, ((r = -1 ∧ ∀ k (h : k < l.length), p l[k] = false) ∨ ∃ k : Nat, r = (k : Int) ∧ ∃ h : k < l.length, p l[k] = true ∧ ∀ j (h : j < l.length), j < k → p l[j] = false) := by
 induction l with
 | nil => exact ⟨-1, .inl ⟨rfl, fun k h => absurd h (Nat.not_lt_zero _)⟩⟩
 | cons a l ih =>
  by_cases ha : p a = true
  ·exact ⟨0, .inr ⟨0, rfl, Nat.zero_lt_succ _, ha, fun j _ h => absurd h (Nat.not_lt_zero _)⟩⟩
  ·have ha' : p a = false := by simpa using ha
   obtain ⟨r, h | ⟨k, rfl, hk, h1, h2⟩⟩ := ih
   ·refine ⟨-1, .inl ⟨rfl, fun k hk => ?_⟩⟩
    rcases k with _ | k
    ·exact ha'
    ·exact h.2 k (by simpa using hk)
   ·refine ⟨((k + 1 : Nat) : Int), .inr ⟨k + 1, rfl, by simpa using hk, h1, fun j hj hjk => ?_⟩⟩
    rcases j with _ | j
    ·exact ha'
    ·exact h2 j (by simpa using hj) (by omega)
theorem first_dec {α : Type} {l : List α} {p : α → Bool} {r : Int} (h : (r = -1 ∧ ∀ k (h : k < l.length), p l[k] = false) ∨ ∃ k : Nat, r = (k : Int) ∧ ∃ h : k < l.length, p l[k] = true ∧ ∀ j (h : j < l.length), j < k → p l[j] = false) : decide (0 ≤ r) = l.any p := by
 rcases h with ⟨rfl, h⟩ | ⟨k, rfl, hk, h1, _⟩
 ·symm
  show l.any p = false
  rw [List.any_eq_false]
  intro x hx
  obtain ⟨k, hk, rfl⟩ := List.getElem_of_mem hx
  rw [h k hk]; simp
 ·have : l.any p = true := List.any_eq_true.2 ⟨l[k], List.getElem_mem hk, h1⟩
  rw [this]; exact decide_eq_true (by omega)
theorem Rw.cap {W : World} {D : Nat → Prop} {a : Option Addr} {n k c : Nat} {cs : List Value} (h : Rw W D (.slice a n c) n k cs) : n ≤ c ∧ (c : Int) ≤ 9223372036854775807 := by
 obtain ⟨ao, cap, h1, h2, h3, _⟩ := h
 simp only [Value.slice.injEq, true_and] at h1
 obtain ⟨_, rfl⟩ := h1
 exact ⟨h2, by omega⟩
theorem RetI.mono {D D' : Nat → Prop} {l : List Nat} {e : Ending} {W : World} (h : RetI D l e W) (hD : ∀ b, D b → D' b) : RetI D' l e W := by
 obtain ⟨ao, k, h1, h2⟩ := h
 exact ⟨ao, k, h1, Zh (h2.out.turn (Nat.le_refl _) (fun b _ hb => hD b hb) (fun _ _ _ _ => rfl))⟩
theorem cloneN_c {D : Nat → Prop} {v : Value} {l : List Nat} {w : World} (h : Fct.at w D (.rw v l.length 1 (ncl l))) (hl : l.length ≤ 1000000) :
  Calls Tryz.prog 95 #[v] w fun e w' => RetI (fun b => w.heap.size ≤ b) l e w' ∧ Below w.heap.size w w' :=
 (cloneRInt h hl).mono fun e w' ⟨⟨v', h1, h2⟩, hb⟩ => by
  have h3 := Rw.ofOwns h2 (ncl_one l)
  obtain ⟨ao, k, rfl⟩ := h3.len
  exact ⟨⟨ao, k, h1, Zh h3⟩, hb⟩
theorem Rw.ge {W : World} {D : Nat → Prop} {B n k : Nat} {v : Value} {cs : List Value} (h : Rw W (fun b => B ≤ b) v n k cs) : Rw W (fun b => D b ∨ B ≤ b) v n k cs := h.turn (Nat.le_refl _) (fun _ _ h => .inr h) (fun _ _ _ _ => rfl)
theorem cloneBox_c {D : Nat → Prop} {v : Value} {l : List Nat} {w : World} (h : Fct.at w D (.rw v l.length 1 (ncl l))) (hl : l.length ≤ 1000000) (h0 : 0 < l.length) :
  Calls Tryz.prog 95 #[v] w fun e w' => (∃ g cap rs, e = .returned (.slice (some ⟨g, 0, none⟩) l.length cap) ∧ Hid (Box w.heap.size g 3 (ncl l ++ rs) w') ∧ Hid (l.length ≤ cap ∧ cap ≤ 9223372036854775807)) ∧ Below w.heap.size w w' :=
 (cloneRInt h hl).mono fun e w' ⟨⟨v', h1, h2⟩, hb⟩ => by
  rcases h2.2 with ⟨rfl, hz⟩ | ⟨g, cap, cur, rfl, hge, hg, hn, hm, hs, ht⟩
  ·omega
  ·refine ⟨⟨g, cap, cur.toList.drop l.length, h1, Zh ⟨hge, ?_⟩, Zh ⟨hn, by unfold maxLen at hm; omega⟩⟩, hb⟩
   have e1 : ncl l ++ cur.toList.drop l.length = cur.toList := by
    rw [← ht]; simp
   rw [e1, Array.toArray_toList]; exact hg
/-- a list of the call's own, as a caller reads it -/
theorem OI.rwN {sg : List Bx} {cs : List Value} {v : Value} {o : List Nat} {D0 : Nat → Prop} {w W : World} {F : List Bx} {G : List Fct} (h : OI sg cs v (nl o)) (E : Env D0 w F G W) (hs : ∀ p ∈ sg, p ∈ F) : Rw W (fun b => w.heap.size ≤ b) v o.length 1 (ncl o) := by
 obtain ⟨h, ht⟩ := h
 rw [nl_len] at h ht
 rcases h with ⟨rfl, rfl, rfl, h0⟩ | ⟨g, cap, rfl, rfl, h1, h2, h3⟩
 ·have : o = [] := List.length_eq_zero_iff.1 h0
  subst this; exact Rw.nil _ _ _
 ·have hB := (held_iff.1 E.box).1 (g, 3, cs) (hs _ (by simp))
  refine ⟨_, cap, rfl, h1, h2, ncl_len o, ncl_one o, fun _ => ⟨g, 0, rfl, ⟨hB.lt, hB.1⟩, fun i u hu => ?_⟩⟩
  rw [Nat.zero_add]
  rw [show ncl o = cs.take o.length from ht.symm, List.getElem?_take] at hu
  split at hu
  ·exact hB.cell _ hu
  ·cases hu
theorem OI.snoc {g p : Nat} {cs : List Value} {o : List Nat} {x : Nat} (h : OI [(g, 3, cs)] cs (.slice (some ⟨g, 0, none⟩) ((nl o).length + 1) p) (nl o ++ [(x : Int)])) : OI [(g, 3, cs)] cs (.slice (some ⟨g, 0, none⟩) (nl (o ++ [x])).length p) (nl (o ++ [x])) := by
 have e : nl (o ++ [x]) = nl o ++ [(x : Int)] := by simp [nl]
 rw [e]; simpa using h
theorem OI.v {g p : Nat} {o : List Nat} {x : Nat} : Value.slice (some ⟨g, 0, none⟩) ((nl o).length + 1) p = .slice (some ⟨g, 0, none⟩) (nl (o ++ [x])).length p := by simp [nl]
theorem OI.nlnil : OI [] [] (.slice none (nl []).length 0) (nl []) := OI.nil
theorem IsB (n : Int) (w : World) {t : Bool} (hl : Laid w) (hn : -9223372036854775808 ≤ n ∧ n ≤ 9223372036854775807) (ht : Pri.isP n.toNat = t) :
  Calls Tryz.prog 92 #[.int .i64 n] w fun e w' => e = .returned (.bool t) ∧ Below w.heap.size w w' := by
 refine (Is_c n w hl hn).mono ?_
 rintro e w' ⟨rfl, n, rfl⟩
 exact ⟨by rw [ht], below_drewN (Below.refl _ _) _⟩
theorem Rw.eqN {W : World} {D : Nat → Prop} {a : Option Addr} {k : Nat} {l m : List Nat} (h : Rw W D (.slice a (nl l).length k) l.length 1 (ncl l)) (e : l = m) : Rw W D (.slice a m.length k) m.length 1 (ncl m) := by
 subst e; rw [nl_len] at h; exact h
set_option maxRecDepth 100000 in
set_option maxHeartbeats 2000000 in
theorem Fac_one {D : Nat → Prop} (N : Nat) {w : World}  (hl0 : Laid w) (h0 : 1 ≤ (N : Int)) (hT : (N : Int) ≤ 2305843009213693951) (hz0 : (Pri.facs 2 N).2 = 1) :
  Calls Tryz.prog 60 #[.int .i64 (N : Nat)] w fun e w' => RetIE (fun b => w.heap.size ≤ b) (Pri.facs 2 N).1 0 e w' ∧ Below w.heap.size w w' := by
 have E0 := Zh (Env.start D w)
 go_enter Tryz.func60, Tryz.ntmps60
 have hz := Zh hz0
 clear hz0
 have hl := Zh hl0
 clear hl0
 have hst := Pri.Fac.start (N := N) (by omega)
 have HST := Zh hst
 clear hst
 have d1 : decide ((N : Int) < 1) = false := decide_eq_false (by omega)
 have d2 : decide ((2305843009213693952 : Int) ≤ (N : Int)) = false := decide_eq_false (by omega)
 have d3 : decide (N < 1) = false := decide_eq_false (by omega)
 have d3b : decide (2305843009213693952 ≤ N) = false := decide_eq_false (by omega)
 have HN := Zh h0
 have HT := Zh hT
 go_wp2_with fail
 go_loopg [5, 0, 4] (1048576) (fun gk s5 s0 s4 wr => ∃ (p m : Nat) (sg : List Bx) (cs : List Value) (va : Option Addr) (vk : Nat) (o : List Nat), s5 = .int .i64 (p : Int) ∧ s0 = .int .i64 (m : Int) ∧ s4 = .slice va (nl o).length vk ∧ Hid (Env D w (sg) [] wr) ∧ Hid (OI sg cs (.slice va (nl o).length vk) (nl o)) ∧ Hid ((2 ≤ p ∧ p ≤ 1048578 ∧ gk = 1048578 - p) ∧ (p = 2 ∨ p % 2 = 1 ∧ m % 2 = 1) ∧ Pri.Fac N p m o))
 case atStart => exact ⟨2, N, [], [], none, 0, [], rfl, rfl, rfl, Zh (E0.out.cast (by simp)), Zh OI.nlnil, Zh ⟨⟨by omega, by omega, rfl⟩, .inl rfl, HST.out⟩⟩
 case round =>
  clear E0
  obtain ⟨p, m, sg, cs, va, vk, o, rfl, rfl, rfl, EL, hO, HA⟩ := hrel
  clear d1 d2 d3 d3b
  clear h0 hT
  obtain ⟨⟨a1, a2, a4⟩, a5, a6⟩ := HA.out
  have HF := Zh a6
  have HP := Zh a5
  have hm1 := a6.2.2.1
  have hm2 : (m : Int) ≤ 2305843009213693951 := by have := a6.2.2.2; have := HT.out; omega
  clear a5 a6 HA HST
  obtain ⟨pp, hpp⟩ : ∃ pp, pp = p * p := ⟨_, rfl⟩
  have hpb : (pp : Int) ≤ 1099515822084 := by have : p * p ≤ 1048578 * 1048578 := Nat.mul_le_mul a2 a2; omega
  have e2 : (p : Int) * (p : Int) = (pp : Int) := by rw [hpp]; rfl
  have e1 : wrap64 ((p : Int) * (p : Int)) = (pp : Int) := by rw [e2, IntWalk.wrap64_in _ (by omega)]
  have HPP := Zh hpp
  clear hpp
  have hp9 : (p : Int) ≤ 1048578 := by omega
  by_cases hc : p ≤ 1048576 ∧ pp ≤ m
  ·have t1 : decide ((p : Int) ≤ 1048576) = true := decide_eq_true (by omega)
   have t1n : decide (p ≤ 1048576) = true := decide_eq_true hc.1
   have t2 : decide ((pp : Int) ≤ (m : Int)) = true := decide_eq_true (by omega)
   have t2n : decide (pp ≤ m) = true := decide_eq_true hc.2
   have HPL := Zh (HF.out.go hc.1 (by rw [← HPP.out]; exact hc.2))
   have hp8 := hc.1
   clear hc HF
   go_wp2_with fail
   go_loopg [0, 4] (m) (fun gk s0 s4 wr => ∃ (n : Nat) (sgi : List Bx) (csi : List Value) (vai : Option Addr) (vki : Nat) (oi : List Nat), s0 = .int .i64 (n : Int) ∧ s4 = .slice vai (nl oi).length vki ∧ Hid (Env D w (sgi) [] wr) ∧ Hid (OI sgi csi (.slice vai (nl oi).length vki) (nl oi)) ∧ Hid (gk = n ∧ (p = 2 ∨ p % 2 = 1 ∧ n % 2 = 1) ∧ Pri.Pul N p n oi))
   case atStart => exact ⟨m, sg, cs, va, vk, o, rfl, rfl, Zh (EL.out.cast (by simp)), Zh hO.out, Zh ⟨rfl, HP.out, HPL.out⟩⟩
   case round =>
    clear EL
    obtain ⟨n, sgi, csi, vai, vki, oi, rfl, rfl, EL, hOi, HA⟩ := hrel
    clear t1 t1n t2 t2n e1 e2 hpb
    obtain ⟨b1, b2, b3⟩ := HA.out
    have HQ := Zh b3
    have HP2 := Zh b2
    have hn1 := b3.2.2.1
    have hn2 : (n : Int) ≤ 2305843009213693951 := by have := b3.2.2.2; have := HT.out; omega
    clear b2 b3 HA HPL HP
    have hpz : ((p : Int) == 0) = false := beq_eq_false_iff_ne.2 (by omega)
    have hol : (nl oi).length + 1 ≤ 1000000 := by rw [nl_len]; have := HQ.out.len (by have := HN.out; omega) (by have := HT.out; omega); omega
    have HOL := Zh hol
    clear hol
    by_cases hd : n % p = 0
    ·have t3 : ((n : Int) % (p : Int) == 0) = true := by rw [beq_iff_eq, ← Int.natCast_emod, hd]; rfl
     obtain ⟨d, hdd⟩ : ∃ d, d = n / p := ⟨_, rfl⟩
     have e4 : (n : Int) / (p : Int) = (d : Int) := by rw [hdd]; rfl
     have hlt : d < n := by rw [hdd]; exact Nat.div_lt_self hn1 (by omega)
     have HS := Zh (HQ.out.step (by omega) hd)
     have HP3 : Hid (p = 2 ∨ p % 2 = 1 ∧ d % 2 = 1) := Zh (by rcases HP2.out with h | h; (· exact .inl h); exact .inr ⟨h.1, by rw [hdd]; exact Pri.div_odd hd h.2⟩)
     rw [← hdd] at HS
     clear hdd hd HQ HP2
     have E1 := Zh ((EL.out.push 3 [.int .i64 (p : Int)] (wr.heap.size) (by simp)))
     go_wp2_with (at_builtin; refine wpl_app1 (c := 1) tiI rfl _ _ rfl E1.out (A := [(wr.heap.size, 3, [.int .i64 (p : Int)])]) (sg := sgi) (B' := []) (F := ((wr.heap.size, 3, [.int .i64 (p : Int)]) :: sgi)) (by simp) (hOi.out.os rfl) rfl rfl (SrcN.int (E1.out.bx 0 rfl)) HOL.out ?_)
     intro zg zp zc w1 zH zT zE
     have zO := Zh (OI.app (x := ((p : Nat) : Int)) (g' := zg) (cs' := zc) (cap' := zp) hOi.out rfl (by simpa using zH.out) (by simpa using zT.out))
     have E2 : Hid (Env D w ((wr.heap.size, 3, [.int .i64 (p : Int)]) :: [(zg, 3, zc)]) [] w1) := Zh (zE.out.cast (by simp))
     clear EL E1 zE zH zT hOi
     have EZ := Zh (E2.out.drop)
     have OZ := Zh (OI.snoc (x := p) zO.out)
     go_wp2
     go_roundg (d)
     case rel => exact ⟨d, [(zg, 3, zc)], zc, some ⟨zg, 0, none⟩, zp, (oi ++ [p]), rfl, OI.v, EZ, OZ, Zh ⟨rfl, HP3.out, HS.out⟩⟩
     case measure => exact by omega
    have t3 : ((n : Int) % (p : Int) == 0) = false := by rw [beq_eq_false_iff_ne, ← Int.natCast_emod]; exact fun h => hd (by omega)
    have HS := Zh (HQ.out.stop hd)
    have hodd : n % 2 = 1 := by rcases HP2.out with h | h; (· rw [h] at hd; omega); exact h.2
    have HO := Zh hodd
    clear hodd
    obtain ⟨b, hb⟩ : ∃ b, b = p % 2 := ⟨_, rfl⟩
    have hb1 : (b : Int) ≤ 1 := by omega
    have e5 : bits .and .i64 (p : Int) 1 = (b : Int) := by rw [and_one_i64 p (by omega), hb]
    obtain ⟨p2, hp2⟩ : ∃ p2, p2 = p + 1 + b := ⟨_, rfl⟩
    have e6 : (p : Int) + (1 + (b : Int)) = (p2 : Int) := by omega
    have HS2 : Hid (Pri.Fac N p2 n oi) := Zh (by rcases HP2.out with h | h; (· rw [hp2, hb, h]; rw [h] at HS; exact HS.out); rw [hp2, hb, h.1]; exact HS.out.skip h.2 h.1)
    have hpo : p2 % 2 = 1 := by rcases HP2.out with h | h; (· subst h; omega); omega
    have HPO := Zh hpo
    have hp7 : p < p2 ∧ p2 ≤ 1048578 := by omega
    have HX := Zh hd
    clear hpo hb hd HS HP2 HQ hp2
    have EZ := Zh EL.out
    go_wp2
    go_roundg (1048578 - p2)
    case rel => exact ⟨p2, n, sgi, csi, vai, vki, oi, rfl, rfl, rfl, EZ, hOi, Zh ⟨⟨by omega, by omega, rfl⟩, .inr ⟨HPO.out, HO.out⟩, HS2.out⟩⟩
    case measure => exact by omega
  have hd := HF.out.done (by rw [← HPP.out]; exact hc)
  obtain ⟨ho9, hm9⟩ := hd
  have HO := Zh ho9
  have hol : (nl o).length + 1 ≤ 1000000 := by rw [nl_len]; have := HF.out.len (by have := HN.out; omega) (by have := HT.out; omega); omega
  have HOL := Zh hol
  clear hol ho9 HF HP
  have HZ : Hid (m = (Pri.facs 2 N).2) := Zh hm9
  clear hm9
  have hm5 : m = 1 := by rw [HZ.out]; exact hz.out
  have t5 : ((m : Int) == 1) = true := by rw [beq_iff_eq]; omega
  have t5n : (m == 1) = true := by rw [beq_iff_eq]; omega
  clear hm5
  by_cases hc1 : p ≤ 1048576
  ·have t1 : decide ((p : Int) ≤ 1048576) = true := decide_eq_true (by omega)
   have t1n : decide (p ≤ 1048576) = true := decide_eq_true hc1
   have t2 : decide ((pp : Int) ≤ (m : Int)) = false := decide_eq_false (by omega)
   have t2n : decide (pp ≤ m) = false := decide_eq_false (by omega)
   have HC := Zh hc
   clear hc hc1
   have HD : Hid (o = (Pri.facs 2 N).1) := HO
   have hres := Zh (hO.out.rwN EL.out (by intro p hp; exact hp))
   have hbel := Zh EL.out.bel
   go_wp2
   go_ret2
   refine ⟨⟨va, vk, ?_, Zh (hres.out.eqN HD.out)⟩, hbel.out⟩
   rw [← HD.out]; simp [nl_len]
  ·have t1 : decide ((p : Int) ≤ 1048576) = false := decide_eq_false (by omega)
   have t1n : decide (p ≤ 1048576) = false := decide_eq_false hc1
   have HC := Zh hc
   clear hc hc1
   have HD : Hid (o = (Pri.facs 2 N).1) := HO
   have hres := Zh (hO.out.rwN EL.out (by intro p hp; exact hp))
   have hbel := Zh EL.out.bel
   go_wp2
   go_ret2
   refine ⟨⟨va, vk, ?_, Zh (hres.out.eqN HD.out)⟩, hbel.out⟩
   rw [← HD.out]; simp [nl_len]
set_option maxRecDepth 100000 in
set_option maxHeartbeats 2000000 in
theorem Fac_more {D : Nat → Prop} (N : Nat) {w : World}  (hl0 : Laid w) (h0 : 1 ≤ (N : Int)) (hT : (N : Int) ≤ 2305843009213693951) (hz0 : ¬ (Pri.facs 2 N).2 = 1) (hp0 : Pri.isP (Pri.facs 2 N).2 = true) :
  Calls Tryz.prog 60 #[.int .i64 (N : Nat)] w fun e w' => RetIE (fun b => w.heap.size ≤ b) ((Pri.facs 2 N).1 ++ [(Pri.facs 2 N).2]) 0 e w' ∧ Below w.heap.size w w' := by
 have E0 := Zh (Env.start D w)
 go_enter Tryz.func60, Tryz.ntmps60
 have hz := Zh hz0
 clear hz0
 have hp := Zh hp0
 clear hp0
 have hl := Zh hl0
 clear hl0
 have hst := Pri.Fac.start (N := N) (by omega)
 have HST := Zh hst
 clear hst
 have d1 : decide ((N : Int) < 1) = false := decide_eq_false (by omega)
 have d2 : decide ((2305843009213693952 : Int) ≤ (N : Int)) = false := decide_eq_false (by omega)
 have d3 : decide (N < 1) = false := decide_eq_false (by omega)
 have d3b : decide (2305843009213693952 ≤ N) = false := decide_eq_false (by omega)
 have HN := Zh h0
 have HT := Zh hT
 go_wp2_with fail
 go_loopg [5, 0, 4] (1048576) (fun gk s5 s0 s4 wr => ∃ (p m : Nat) (sg : List Bx) (cs : List Value) (va : Option Addr) (vk : Nat) (o : List Nat), s5 = .int .i64 (p : Int) ∧ s0 = .int .i64 (m : Int) ∧ s4 = .slice va (nl o).length vk ∧ Hid (Env D w (sg) [] wr) ∧ Hid (OI sg cs (.slice va (nl o).length vk) (nl o)) ∧ Hid ((2 ≤ p ∧ p ≤ 1048578 ∧ gk = 1048578 - p) ∧ (p = 2 ∨ p % 2 = 1 ∧ m % 2 = 1) ∧ Pri.Fac N p m o))
 case atStart => exact ⟨2, N, [], [], none, 0, [], rfl, rfl, rfl, Zh (E0.out.cast (by simp)), Zh OI.nlnil, Zh ⟨⟨by omega, by omega, rfl⟩, .inl rfl, HST.out⟩⟩
 case round =>
  clear E0
  obtain ⟨p, m, sg, cs, va, vk, o, rfl, rfl, rfl, EL, hO, HA⟩ := hrel
  clear d1 d2 d3 d3b
  clear h0 hT
  obtain ⟨⟨a1, a2, a4⟩, a5, a6⟩ := HA.out
  have HF := Zh a6
  have HP := Zh a5
  have hm1 := a6.2.2.1
  have hm2 : (m : Int) ≤ 2305843009213693951 := by have := a6.2.2.2; have := HT.out; omega
  clear a5 a6 HA HST
  obtain ⟨pp, hpp⟩ : ∃ pp, pp = p * p := ⟨_, rfl⟩
  have hpb : (pp : Int) ≤ 1099515822084 := by have : p * p ≤ 1048578 * 1048578 := Nat.mul_le_mul a2 a2; omega
  have e2 : (p : Int) * (p : Int) = (pp : Int) := by rw [hpp]; rfl
  have e1 : wrap64 ((p : Int) * (p : Int)) = (pp : Int) := by rw [e2, IntWalk.wrap64_in _ (by omega)]
  have HPP := Zh hpp
  clear hpp
  have hp9 : (p : Int) ≤ 1048578 := by omega
  by_cases hc : p ≤ 1048576 ∧ pp ≤ m
  ·have t1 : decide ((p : Int) ≤ 1048576) = true := decide_eq_true (by omega)
   have t1n : decide (p ≤ 1048576) = true := decide_eq_true hc.1
   have t2 : decide ((pp : Int) ≤ (m : Int)) = true := decide_eq_true (by omega)
   have t2n : decide (pp ≤ m) = true := decide_eq_true hc.2
   have HPL := Zh (HF.out.go hc.1 (by rw [← HPP.out]; exact hc.2))
   have hp8 := hc.1
   clear hc HF
   go_wp2_with fail
   go_loopg [0, 4] (m) (fun gk s0 s4 wr => ∃ (n : Nat) (sgi : List Bx) (csi : List Value) (vai : Option Addr) (vki : Nat) (oi : List Nat), s0 = .int .i64 (n : Int) ∧ s4 = .slice vai (nl oi).length vki ∧ Hid (Env D w (sgi) [] wr) ∧ Hid (OI sgi csi (.slice vai (nl oi).length vki) (nl oi)) ∧ Hid (gk = n ∧ (p = 2 ∨ p % 2 = 1 ∧ n % 2 = 1) ∧ Pri.Pul N p n oi))
   case atStart => exact ⟨m, sg, cs, va, vk, o, rfl, rfl, Zh (EL.out.cast (by simp)), Zh hO.out, Zh ⟨rfl, HP.out, HPL.out⟩⟩
   case round =>
    clear EL
    obtain ⟨n, sgi, csi, vai, vki, oi, rfl, rfl, EL, hOi, HA⟩ := hrel
    clear t1 t1n t2 t2n e1 e2 hpb
    obtain ⟨b1, b2, b3⟩ := HA.out
    have HQ := Zh b3
    have HP2 := Zh b2
    have hn1 := b3.2.2.1
    have hn2 : (n : Int) ≤ 2305843009213693951 := by have := b3.2.2.2; have := HT.out; omega
    clear b2 b3 HA HPL HP
    have hpz : ((p : Int) == 0) = false := beq_eq_false_iff_ne.2 (by omega)
    have hol : (nl oi).length + 1 ≤ 1000000 := by rw [nl_len]; have := HQ.out.len (by have := HN.out; omega) (by have := HT.out; omega); omega
    have HOL := Zh hol
    clear hol
    by_cases hd : n % p = 0
    ·have t3 : ((n : Int) % (p : Int) == 0) = true := by rw [beq_iff_eq, ← Int.natCast_emod, hd]; rfl
     obtain ⟨d, hdd⟩ : ∃ d, d = n / p := ⟨_, rfl⟩
     have e4 : (n : Int) / (p : Int) = (d : Int) := by rw [hdd]; rfl
     have hlt : d < n := by rw [hdd]; exact Nat.div_lt_self hn1 (by omega)
     have HS := Zh (HQ.out.step (by omega) hd)
     have HP3 : Hid (p = 2 ∨ p % 2 = 1 ∧ d % 2 = 1) := Zh (by rcases HP2.out with h | h; (· exact .inl h); exact .inr ⟨h.1, by rw [hdd]; exact Pri.div_odd hd h.2⟩)
     rw [← hdd] at HS
     clear hdd hd HQ HP2
     have E1 := Zh ((EL.out.push 3 [.int .i64 (p : Int)] (wr.heap.size) (by simp)))
     go_wp2_with (at_builtin; refine wpl_app1 (c := 1) tiI rfl _ _ rfl E1.out (A := [(wr.heap.size, 3, [.int .i64 (p : Int)])]) (sg := sgi) (B' := []) (F := ((wr.heap.size, 3, [.int .i64 (p : Int)]) :: sgi)) (by simp) (hOi.out.os rfl) rfl rfl (SrcN.int (E1.out.bx 0 rfl)) HOL.out ?_)
     intro zg zp zc w1 zH zT zE
     have zO := Zh (OI.app (x := ((p : Nat) : Int)) (g' := zg) (cs' := zc) (cap' := zp) hOi.out rfl (by simpa using zH.out) (by simpa using zT.out))
     have E2 : Hid (Env D w ((wr.heap.size, 3, [.int .i64 (p : Int)]) :: [(zg, 3, zc)]) [] w1) := Zh (zE.out.cast (by simp))
     clear EL E1 zE zH zT hOi
     have EZ := Zh (E2.out.drop)
     have OZ := Zh (OI.snoc (x := p) zO.out)
     go_wp2
     go_roundg (d)
     case rel => exact ⟨d, [(zg, 3, zc)], zc, some ⟨zg, 0, none⟩, zp, (oi ++ [p]), rfl, OI.v, EZ, OZ, Zh ⟨rfl, HP3.out, HS.out⟩⟩
     case measure => exact by omega
    have t3 : ((n : Int) % (p : Int) == 0) = false := by rw [beq_eq_false_iff_ne, ← Int.natCast_emod]; exact fun h => hd (by omega)
    have HS := Zh (HQ.out.stop hd)
    have hodd : n % 2 = 1 := by rcases HP2.out with h | h; (· rw [h] at hd; omega); exact h.2
    have HO := Zh hodd
    clear hodd
    obtain ⟨b, hb⟩ : ∃ b, b = p % 2 := ⟨_, rfl⟩
    have hb1 : (b : Int) ≤ 1 := by omega
    have e5 : bits .and .i64 (p : Int) 1 = (b : Int) := by rw [and_one_i64 p (by omega), hb]
    obtain ⟨p2, hp2⟩ : ∃ p2, p2 = p + 1 + b := ⟨_, rfl⟩
    have e6 : (p : Int) + (1 + (b : Int)) = (p2 : Int) := by omega
    have HS2 : Hid (Pri.Fac N p2 n oi) := Zh (by rcases HP2.out with h | h; (· rw [hp2, hb, h]; rw [h] at HS; exact HS.out); rw [hp2, hb, h.1]; exact HS.out.skip h.2 h.1)
    have hpo : p2 % 2 = 1 := by rcases HP2.out with h | h; (· subst h; omega); omega
    have HPO := Zh hpo
    have hp7 : p < p2 ∧ p2 ≤ 1048578 := by omega
    have HX := Zh hd
    clear hpo hb hd HS HP2 HQ hp2
    have EZ := Zh EL.out
    go_wp2
    go_roundg (1048578 - p2)
    case rel => exact ⟨p2, n, sgi, csi, vai, vki, oi, rfl, rfl, rfl, EZ, hOi, Zh ⟨⟨by omega, by omega, rfl⟩, .inr ⟨HPO.out, HO.out⟩, HS2.out⟩⟩
    case measure => exact by omega
  have hd := HF.out.done (by rw [← HPP.out]; exact hc)
  obtain ⟨ho9, hm9⟩ := hd
  have HO := Zh ho9
  have hol : (nl o).length + 1 ≤ 1000000 := by rw [nl_len]; have := HF.out.len (by have := HN.out; omega) (by have := HT.out; omega); omega
  have HOL := Zh hol
  clear hol ho9 HF HP
  have HZ : Hid (m = (Pri.facs 2 N).2) := Zh hm9
  clear hm9
  have hm5 : ¬ m = 1 := by rw [HZ.out]; exact hz.out
  have t5 : ((m : Int) == 1) = false := by rw [beq_eq_false_iff_ne]; omega
  have t5n : (m == 1) = false := by rw [beq_eq_false_iff_ne]; omega
  clear hm5
  have HI : Hid (Pri.isP ((m : Int).toNat) = true) := Zh (by rw [Int.toNat_natCast, HZ.out]; exact hp.out)
  by_cases hc1 : p ≤ 1048576
  ·have t1 : decide ((p : Int) ≤ 1048576) = true := decide_eq_true (by omega)
   have t1n : decide (p ≤ 1048576) = true := decide_eq_true hc1
   have t2 : decide ((pp : Int) ≤ (m : Int)) = false := decide_eq_false (by omega)
   have t2n : decide (pp ≤ m) = false := decide_eq_false (by omega)
   have HC := Zh hc
   clear hc hc1
   go_wp2_with fail
   refine (IsB (m : Int) _ (hl.out.below EL.out.bel) (by omega) HI.out).mono ?_
   rintro e w1 ⟨rfl, hb⟩
   have E1 := Zh (EL.out.below hb)
   clear EL hb
   have HD : Hid (o ++ [m] = (Pri.facs 2 N).1 ++ [(Pri.facs 2 N).2]) := Zh (by rw [HO.out, HZ.out])
   have E2 := Zh ((E1.out.push 3 [.int .i64 (m : Int)] (w1.heap.size) (by simp)))
   go_wp2_with (at_builtin; refine wpl_app1 (c := 1) tiI rfl _ _ rfl E2.out (A := [(w1.heap.size, 3, [.int .i64 (m : Int)])]) (sg := sg) (B' := []) (F := ((w1.heap.size, 3, [.int .i64 (m : Int)]) :: sg)) (by simp) (hO.out.os rfl) rfl rfl (SrcN.int (E2.out.bx 0 rfl)) HOL.out ?_)
   intro zg zp zc w2 zH zT zE
   have zO := Zh (OI.app (x := ((m : Nat) : Int)) (g' := zg) (cs' := zc) (cap' := zp) hO.out rfl (by simpa using zH.out) (by simpa using zT.out))
   have E3 : Hid (Env D w ((w1.heap.size, 3, [.int .i64 (m : Int)]) :: [(zg, 3, zc)]) [] w2) := Zh (zE.out.cast (by simp))
   clear E1 E2 zE zH zT hO
   have OZ := Zh (OI.snoc (x := m) zO.out)
   have hres := Zh (OZ.out.rwN E3.out (by intro p hp; simp at hp ⊢; simp [hp]))
   have hbel := Zh E3.out.bel
   go_wp2
   go_ret2
   refine ⟨⟨some ⟨zg, 0, none⟩, zp, ?_, Zh (hres.out.eqN HD.out)⟩, hbel.out⟩
   rw [← HD.out]; simp [nl_len]
  ·have t1 : decide ((p : Int) ≤ 1048576) = false := decide_eq_false (by omega)
   have t1n : decide (p ≤ 1048576) = false := decide_eq_false hc1
   have HC := Zh hc
   clear hc hc1
   go_wp2_with fail
   refine (IsB (m : Int) _ (hl.out.below EL.out.bel) (by omega) HI.out).mono ?_
   rintro e w1 ⟨rfl, hb⟩
   have E1 := Zh (EL.out.below hb)
   clear EL hb
   have HD : Hid (o ++ [m] = (Pri.facs 2 N).1 ++ [(Pri.facs 2 N).2]) := Zh (by rw [HO.out, HZ.out])
   have E2 := Zh ((E1.out.push 3 [.int .i64 (m : Int)] (w1.heap.size) (by simp)))
   go_wp2_with (at_builtin; refine wpl_app1 (c := 1) tiI rfl _ _ rfl E2.out (A := [(w1.heap.size, 3, [.int .i64 (m : Int)])]) (sg := sg) (B' := []) (F := ((w1.heap.size, 3, [.int .i64 (m : Int)]) :: sg)) (by simp) (hO.out.os rfl) rfl rfl (SrcN.int (E2.out.bx 0 rfl)) HOL.out ?_)
   intro zg zp zc w2 zH zT zE
   have zO := Zh (OI.app (x := ((m : Nat) : Int)) (g' := zg) (cs' := zc) (cap' := zp) hO.out rfl (by simpa using zH.out) (by simpa using zT.out))
   have E3 : Hid (Env D w ((w1.heap.size, 3, [.int .i64 (m : Int)]) :: [(zg, 3, zc)]) [] w2) := Zh (zE.out.cast (by simp))
   clear E1 E2 zE zH zT hO
   have OZ := Zh (OI.snoc (x := m) zO.out)
   have hres := Zh (OZ.out.rwN E3.out (by intro p hp; simp at hp ⊢; simp [hp]))
   have hbel := Zh E3.out.bel
   go_wp2
   go_ret2
   refine ⟨⟨some ⟨zg, 0, none⟩, zp, ?_, Zh (hres.out.eqN HD.out)⟩, hbel.out⟩
   rw [← HD.out]; simp [nl_len]
namespace Pri
/-- m is the next number that passes the test -/
def Nx (n m : Nat) : Prop := n < m ∧ isP m = true ∧ ∀ k, n < k → k < m → isP k = false
/-- no power of r by a factor is 1 -/
def rok (p : Nat) (l : List Nat) (r : Nat) : Bool := l.all fun f => !decide (r ^ ((p - 1) / f) % p = 1)
/-- r is the least number from 1 on of which no power by a factor is 1 -/
def RootR (p : Nat) (l : List Nat) (r : Nat) : Prop := 1 ≤ r ∧ r ≤ p ∧ rok p l r = true ∧ ∀ j, 1 ≤ j → j < r → rok p l j = false
/-- the program's test: some power is 1 -/
def small (p r : Nat) (x : Int) : Bool := decide (r ^ ((p - 1) / x.toNat) % p = 1)
theorem any_small (p r : Nat) (l : List Nat) : (nl l).any (small p r) = !rok p l r := by
 unfold rok nl
 rw [List.not_all_eq_any_not, List.any_map]
 congr 1
 funext f
 simp [small]
theorem mem_compact {zs : List Int} {x : Int} : x ∈ Lib.compact zs ↔ x ∈ zs := by
 unfold Lib.compact Lib.compactUpTo
 rw [List.mem_map]
 constructor
 ·rintro ⟨j, hj, rfl⟩
  have := List.mem_range.1 (List.mem_filter.1 hj).1
  simp [this]
 ·intro hx
  have key : ∀ k, ∀ h : k < zs.length, zs[k] = x → ∃ a, a ∈ List.filter (Lib.keeps zs.toArray) (List.range zs.length) ∧ zs.toArray[a]! = x := by
   intro k
   induction k with
   | zero => intro h e; exact ⟨0, List.mem_filter.2 ⟨List.mem_range.2 h, by simp [Lib.keeps]⟩, by simp [h, e]⟩
   | succ k ih =>
    intro h e
    by_cases he : zs[k] = x
    ·exact ih (by omega) he
    ·refine ⟨k + 1, List.mem_filter.2 ⟨List.mem_range.2 h, ?_⟩, by simp [h, e]⟩
     have hk : k < zs.length := by omega
     simp [Lib.keeps, h, hk, e]
     exact fun c => he c.symm
  obtain ⟨k, hk, rfl⟩ := List.getElem_of_mem hx
  exact key k hk rfl
theorem any_compact (zs : List Int) (p : Int → Bool) : (Lib.compact zs).any p = zs.any p := by
 rw [Bool.eq_iff_iff, List.any_eq_true, List.any_eq_true]
 constructor
 ·rintro ⟨x, h, e⟩; exact ⟨x, mem_compact.1 h, e⟩
 ·rintro ⟨x, h, e⟩; exact ⟨x, mem_compact.2 h, e⟩
end Pri
theorem Box.sets {B b : Nat} {T : TypeId} : ∀ (vs ws rs pre : List Value) (W : World), vs.length = ws.length → Box B b T (pre ++ ws ++ rs) W → Box B b T (pre ++ vs ++ rs) (W.setCells b pre.length vs)
 | [], ws, rs, pre, W, hl, h => by
  have : ws = [] := List.length_eq_zero_iff.1 hl.symm
  subst this; exact h
 | v :: vs, [], rs, pre, W, hl, h => by cases hl
 | v :: vs, u :: ws, rs, pre, W, hl, h => by
  have h1 := h.set pre.length v
  rw [show (pre ++ u :: ws ++ rs).set pre.length v = (pre ++ [v]) ++ ws ++ rs by simp] at h1
  have h2 := Box.sets vs ws rs (pre ++ [v]) _ (by simpa using hl) h1
  rw [show (pre ++ [v]).length = pre.length + 1 by simp] at h2
  rw [World.setCells]
  simpa using h2
theorem compact_len (zs : List Int) : (Lib.compact zs).length ≤ zs.length := by
 unfold Lib.compact Lib.compactUpTo
 rw [List.length_map]
 exact Nat.le_trans (List.length_filter_le _ _) (by simp)
/-- slices.Compact, on a row of the call's own -/
theorem compactE {D0 : Nat → Prop} {w W : World} {F : List Bx} {G : List Fct} {g cap : Nat} {zs : List Int} {rs : List Value} {n : Nat} (hn : n = zs.length) (E : Env D0 w ((g, 3, icl zs ++ rs) :: F) G W) (hc : n ≤ cap) (hl : n ≤ 1000000) :
  Calls Tryz.prog 94 #[.slice (some ⟨g, 0, none⟩) n cap] W fun e W' => e = .returned (.slice (some ⟨g, 0, none⟩) (Lib.compact zs).length cap) ∧ ∃ rs', Hid (Env D0 w ((g, 3, icl (Lib.compact zs) ++ rs') :: F) G W') := by
 subst hn
 have hB := E.bx 0 rfl
 refine (Tryz.slices_Compact_int_cells g 0 zs.length cap zs W (Nat.le_refl _) (by omega) hc (fun j hj => ?_) (fun j _ => ?_)).mono ?_
 ·rw [Nat.zero_add]
  refine hB.cell j ?_
  rw [List.getElem?_append_left (by rw [icl_len]; omega), icl_get _ _ hj]
  simp [hj]
 ·rw [Nat.zero_add]; exact hB.frozen j
 ·rintro e W' ⟨rfl, q, rfl⟩
  rw [List.take_length] 
  refine ⟨rfl, icl (List.replicate (zs.length - (Lib.compact zs).length) 0) ++ rs, Zh ?_⟩
  have E1 : Env D0 w ((g, 3, icl zs ++ rs) :: F) G (W.drewN q) := E.below (below_drewN (Below.refl _ _) q)
  have hB1 := E1.bx 0 rfl
  have hv : ((Lib.compact zs ++ List.replicate (zs.length - (Lib.compact zs).length) 0).map (Value.int .i64)).length = (icl zs).length := by
   have := compact_len zs
   simp [icl]; omega
  have h2 := Box.sets _ (icl zs) rs [] _ hv (by simpa using hB1)
  have e3 : [] ++ (Lib.compact zs ++ List.replicate (zs.length - (Lib.compact zs).length) 0).map (Value.int .i64) ++ rs = icl (Lib.compact zs) ++ (icl (List.replicate (zs.length - (Lib.compact zs).length) 0) ++ rs) := by simp [icl]
  rw [e3] at h2
  exact E1.ins 0 rfl (Off.sets _ 0 _ (Off.below (Below.refl _ _))) (.inl rfl) h2.2
theorem Env.freezeI {D0 : Nat → Prop} {w W : World} {F : List Bx} {G : List Fct} {g cap : Nat} {T : TypeId} {rs : List Value} (l : List Int) (E : Env D0 w ((g, T, icl l ++ rs) :: F) G W) (hn : l.length ≤ cap) (hc : cap ≤ 9223372036854775807) : Env D0 w F (.rw (.slice (some ⟨g, 0, none⟩) l.length cap) l.length 1 (icl l) :: G) W := by
 have hB := E.box.1
 refine E.drop.note _ ⟨some ⟨g, 0, none⟩, cap, rfl, hn, by omega, icl_len l, icl_one l, fun _ => ⟨g, 0, rfl, ⟨hB.lt, fun p hp => E.box.2.1 p hp, .inr hB.1⟩, fun i u hu => ?_⟩⟩
 rw [Nat.zero_add]
 refine hB.cell i ?_
 have hi : i < (icl l).length := (List.getElem?_eq_some_iff.1 hu).1
 rw [List.getElem?_append_left hi]; exact hu
theorem erase_perm : ∀ (F : List Bx) (i : Nat) (h : i < F.length), F.Perm (F[i] :: F.eraseIdx i)
 | x :: F, 0, _ => List.Perm.refl _
 | x :: F, i + 1, h => ((erase_perm F i (by simpa using h)).cons x).trans (List.Perm.swap _ _ _)
theorem Env.dropAt {D0 : Nat → Prop} {w W : World} {G : List Fct} : ∀ (i : Nat) {F : List Bx}, Env D0 w F G W → Env D0 w (F.eraseIdx i) G W := fun i F E => by
 by_cases h : i < F.length
 ·have hp : F.Perm (F[i] :: F.eraseIdx i) := erase_perm F i h
  exact (E.perm hp).drop
 ·rw [List.eraseIdx_of_length_le (by omega)]; exact E
theorem below_c (q : Int) (w : World) {t : Bool} (hl : Laid w) (hn : -9223372036854775808 ≤ q ∧ q ≤ 9223372036854775807) (ht : (decide (q < 2305843009213693952) && Pri.isP q.toNat) = t) :
  Calls Tryz.prog 59 #[.int .i64 q] w fun e w' => e = .returned (.bool t) ∧ Below w.heap.size w w' := by
 by_cases h : q < 2305843009213693952
 ·have d1 : decide (q < 2305843009213693952) = true := decide_eq_true h
  rw [d1, Bool.true_and] at ht
  have cc := IsB q w hl hn ht
  have CC := Zh cc
  clear ht cc hn h hl
  go_enter Tryz.func59, Tryz.ntmps59
  go_wp2_with fail
  refine CC.out.mono ?_
  rintro e w1 ⟨rfl, hb⟩
  go_wp2
  go_ret
  exact ⟨rfl, hb⟩
 ·have d1 : decide (q < 2305843009213693952) = false := decide_eq_false h
  rw [d1, Bool.false_and] at ht
  subst ht
  clear hl
  go_enter Tryz.func59, Tryz.ntmps59
  go_wp2
  go_ret
  exact ⟨rfl, Below.refl _ _⟩
set_option maxRecDepth 100000 in
set_option maxHeartbeats 1000000 in
theorem root1_a {D : Nat → Prop} (p r f x e g1 g2 : Nat) {w : World} (h1 : Fct.at w D (.ce g1 0 (.int .i64 (r : Nat)))) (h2 : Fct.at w D (.ce g2 0 (.int .i64 (p : Nat)))) (hp : 2 ≤ (p : Int)) (hT : (p : Int) < Top) (hf : 2 ≤ (f : Int)) (he : (p - 1) / f = e) (hx : (r < p ∧ r ^ e % p = x) ∨ (r = p ∧ x = 0)) {t : Bool} (ht : decide (x = 1) = t) :
  Calls Tryz.prog 97 #[.int .i64 (f : Nat), .pointer (some ⟨g1, 0, none⟩), .pointer (some ⟨g2, 0, none⟩)] w fun e w' => e = .returned (.bool t) ∧ Below w.heap.size w w' := by
 have E0 := Zh (((Env.start D w).arg (.ce g1 0 (.int .i64 (r : Nat))) h1).arg (.ce g2 0 (.int .i64 (p : Nat))) h2)
 clear h1 h2
 go_enter Tryz.func97, Tryz.ntmps97
 have hT9 : (p : Int) ≤ 2305843009213693951 := by unfold Top at hT; omega
 have d1 : (p : Int) - 1 = ((p - 1 : Nat) : Int) := by omega
 obtain ⟨p1, hp1⟩ : ∃ p1, p1 = p - 1 := ⟨_, rfl⟩
 rw [← hp1] at d1 he
 have d2 : (p1 : Int) / (f : Int) = (e : Int) := by rw [← he]; rfl
 have d3 : ((f : Int) == 0) = false := beq_eq_false_iff_ne.2 (by omega)
 have hp9 : (p1 : Int) ≤ 2305843009213693951 := by omega
 have w1 : IntKind.i64.wrap (p1 : Int) = (p1 : Int) := by rw [IntKind.wrap_i64]; omega
 have hee : (e : Int) ≤ 9223372036854775807 := by have := Nat.div_le_self p1 f; omega
 have w2 : IntKind.i64.wrap ((p1 : Int).tdiv (f : Int)) = (e : Int) := by rw [Int.tdiv_eq_ediv_of_nonneg (by omega), d2, IntKind.wrap_i64]; omega
 have hf0 : ¬ (f = 0) := by omega
 have w3 : IntKind.i64.wrap (e : Int) = (e : Int) := by rw [IntKind.wrap_i64]; omega
 have tx : ((x : Int) == 1) = t := by rw [← ht, Bool.eq_iff_iff, beq_iff_eq, decide_eq_true_eq]; omega
 have PW : ∀ w : World, Calls Tryz.prog 98 #[.int .i64 (r : Nat), .int .i64 (e : Nat), .int .i64 (p : Nat)] w fun e w' => (∃ c, e = .returned (.tuple #[.int .i64 (x : Nat), .int .i64 c])) ∧ Below w.heap.size w w' := by
  intro w
  rcases hx with ⟨hr, hx⟩ | ⟨rfl, rfl⟩
  ·refine (Pow_ok r e p w (by omega) hee hT).mono ?_
   rintro e' w' ⟨⟨y, hy, rfl⟩, hq⟩
   exact ⟨⟨0, by rw [← hx, ← hy.out]⟩, hq.below⟩
  ·refine (Pow_err r e r w (by unfold chk; simp; omega)).mono ?_
   rintro e' w' ⟨rfl, rfl⟩
   exact ⟨⟨_, rfl⟩, Below.refl _ _⟩
 have PP := Zh PW
 have HP := Zh hp1
 have HT := Zh hT
 clear hx PW he hT ht hp1
 go_wp2_with fail
 have E1 := Zh E0.out.drew
 clear E0
 refine wp_regionU (S := fun w' => w'.cell? ⟨g1, 0, none⟩ = some (.int .i64 (r : Nat)) ∧ w'.cell? ⟨g2, 0, none⟩ = some (.int .i64 (p : Nat))) [] (by kernel_rfl) (⟨(E1.out.fc 1 rfl).2, (E1.out.fc 0 rfl).2⟩) (fun hHeld => ?_)
 generalize w.drew = w1 at *
 refine uPl [0, 1, 2, 3, 4, 5] ?_
 iterate 6 (refine uTl (v := ?_) ?_ ?_; rotate_left; (focus (intro wS hSw; (try dsimp only at hSw); go_simp; try with_reducible rfl)); try simp only [Act.put, pq0, pq1, pq2])
 refine Pl.z ?_
 refine uRd 6 (fun KK hKK => ?_)
 go_simp
 refine (PP.out _).mono ?_
 rintro e w2 ⟨⟨c, rfl⟩, hb⟩
 have E2 := Zh (E1.out.below hb)
 clear E1 hb
 (try dsimp only)
 clear hHeld
 refine hKK.out _ _ (⟨(E2.out.fc 1 rfl).2, (E2.out.fc 0 rfl).2⟩) (fun hHeld => ?_)
 clear hKK KK
 try simp only [Act.put, pq0, pq1, pq2]
 refine uPl [7, 8, 9, 10, 11] ?_
 iterate 5 (refine uTl (v := ?_) ?_ ?_; rotate_left; (focus (intro wS hSw; (try dsimp only at hSw); go_simp; try with_reducible rfl)); try simp only [Act.put, pq0, pq1, pq2])
 refine Pl.z ?_
 refine uDone (by kernel_rfl) ?_ _
 have hfin := Zh E2.out.bel
 go_wp2
 go_ret
 exact ⟨rfl, hfin.out⟩
def LtTop (p : Nat) : Prop := (p : Int) < Top
def InP (p : Nat) (l : List Int) : Prop := ∀ x ∈ l, 2 ≤ x ∧ x ≤ (p : Int) - 1
theorem root1_c {D : Nat → Prop} (p r : Nat) (x : Int) (g1 g2 : Nat) (w : World) (h1 : Fct.at w D (.ce g1 0 (.int .i64 (r : Nat)))) (h2 : Fct.at w D (.ce g2 0 (.int .i64 (p : Nat)))) (hp : 2 ≤ p) (hT : (p : Int) < Top) (hrp : r ≤ p) (hf : 2 ≤ x ∧ x ≤ (p : Int) - 1) {t : Bool} (ht : Pri.small p r x = t) :
  Calls Tryz.prog 97 #[.int .i64 x, .pointer (some ⟨g1, 0, none⟩), .pointer (some ⟨g2, 0, none⟩)] w fun e w' => e = .returned (.bool t) ∧ Below w.heap.size w w' := by
 obtain ⟨f, rfl⟩ : ∃ f : Nat, x = (f : Int) := ⟨x.toNat, by omega⟩
 unfold Pri.small at ht
 rw [Int.toNat_natCast] at ht
 by_cases h : r < p
 ·exact root1_a p r f _ _ g1 g2 h1 h2 (by omega) hT hf.1 rfl (.inl ⟨h, rfl⟩) ht
 ·have e : r = p := by omega
  subst e
  have he : 0 < (r - 1) / f := Nat.div_pos (by omega) (by omega)
  obtain ⟨e, he2⟩ : ∃ e, (r - 1) / f = e + 1 := ⟨(r - 1) / f - 1, by omega⟩
  rw [he2, Nat.pow_succ, Nat.mul_mod_left] at ht
  exact root1_a r r f 0 _ g1 g2 h1 h2 (by omega) hT hf.1 rfl (.inr ⟨rfl, rfl⟩) ht
set_option maxRecDepth 100000 in
set_option maxHeartbeats 1000000 in
theorem rtI {D : Nat → Prop} (l : List Int) (p : Nat) (ro : Nat) (g1 : Nat) (g2 : Nat) {xa : Option Addr} {xk : Nat} {w : World} (hx : Fct.at w D (.rw (.slice xa l.length xk) l.length 1 (icl l))) (h1 : Fct.at w D (.ce g1 0 (.int .i64 (ro : Nat)))) (h2 : Fct.at w D (.ce g2 0 (.int .i64 (p : Nat)))) (hp : 2 ≤ p) (hT : LtTop p) (hrp : ro ≤ p) (hall : Hid (InP p l)) {r : Int} (hr0 : (r = -1 ∧ ∀ k (h : k < l.length), Pri.small p ro l[k] = false) ∨ ∃ k : Nat, r = (k : Int) ∧ ∃ h : k < l.length, Pri.small p ro l[k] = true ∧ ∀ j (h : j < l.length), j < k → Pri.small p ro l[j] = false) (hm : l.length ≤ 1000000) :
  Calls Tryz.prog 121 #[.slice xa l.length xk, .func (.func 97) #[] #[.pointer (some ⟨g1, 0, none⟩), .pointer (some ⟨g2, 0, none⟩)]] w fun e w' => e = .returned (.int .i64 r) ∧ Below w.heap.size w w' := by
 have E0 := Zh ((((Env.start D w).arg (.rw (.slice xa l.length xk) l.length 1 (icl l)) hx).arg (.ce g1 0 (.int .i64 (ro : Nat))) h1).arg (.ce g2 0 (.int .i64 (p : Nat))) h2)
 clear hx h1 h2
 go_enter Tryz.func121, Tryz.ntmps121
 have hr := Zh hr0
 clear hr0
 go_wp2_with fail
 go_loopg [8] (l.length) (fun gk s8 wr => ∃ (k : Nat), s8 = .int .i64 (k : Int) ∧ Hid (Env D w [] [.ce g2 0 (.int .i64 (p : Nat)), .ce g1 0 (.int .i64 (ro : Nat)), .rw (.slice xa l.length xk) l.length 1 (icl l)] wr) ∧ Hid ((k ≤ l.length ∧ gk = l.length - k) ∧ ∀ j (h : j < l.length), j < k → Pri.small p ro l[j] = false))
 case atStart => exact ⟨0, rfl, Zh E0.out, Zh ⟨⟨Nat.zero_le _, rfl⟩, fun j _ h => absurd h (Nat.not_lt_zero _)⟩⟩
 case round =>
  clear E0
  obtain ⟨k, rfl, EL, HA⟩ := hrel
  obtain ⟨⟨a1, a2⟩, a3⟩ := HA.out
  have HS := Zh a3
  clear a3 HA
  by_cases hy : k = l.length
  rotate_left
  ·have hk : k < l.length := by omega
   have t6 : decide ((k : Int) < (l.length : Int)) = true := decide_eq_true (by omega)
   have t7 : decide (k < l.length) = true := decide_eq_true hk
   clear hy
   obtain ⟨xab, xao, rfl⟩ := Rw.addr (EL.out.fc 2 rfl) (by omega)
   have E1 := Zh (EL.out.elI 2 rfl rfl (k) hk)
   clear EL
   have u0 := (E1.out.fc 0 rfl).2
   by_cases hb : Pri.small p ro l[k] = true
   ·have HB := Zh hb
    have HR : Hid (r = (k : Int)) := Zh (by rcases hr.out with ⟨_, h9⟩ | ⟨j, rfl, hj, h8, h7⟩; (· have := h9 k hk; rw [hb] at this; cases this); rcases Nat.lt_trichotomy j k with e | e | e; (· have := HS.out j hj e; rw [h8] at this; cases this); (· rw [e]); (· have := h7 k hk e; rw [hb] at this; cases this))
    clear hb
    go_wp2_with fail
    refine (root1_c p ro l[k] g1 g2 _ (E1.out.fc 2 rfl) (E1.out.fc 1 rfl) hp hT hrp (hall.out _ (List.getElem_mem hk)) HB.out).mono ?_
    rintro e w1 ⟨rfl, hb⟩
    have E2 := Zh (E1.out.below hb)
    clear u0 E1 hb
    have hfin := Zh E2.out.bel
    go_wp2
    go_ret
    exact ⟨RetEq HR.out.symm, hfin.out⟩
   ·have HB := Zh (Bool.eq_false_iff.2 hb)
    clear hb
    go_wp2_with fail
    refine (root1_c p ro l[k] g1 g2 _ (E1.out.fc 2 rfl) (E1.out.fc 1 rfl) hp hT hrp (hall.out _ (List.getElem_mem hk)) HB.out).mono ?_
    rintro e w1 ⟨rfl, hb⟩
    have E2 := Zh (E1.out.below hb)
    clear u0 E1 hb
    have EZ := Zh (E2.out.forget)
    go_wp2
    go_roundg (l.length - (k + 1))
    case rel => exact ⟨k + 1, rfl, EZ, Zh ⟨⟨by omega, rfl⟩, fun j h hj => by by_cases e : j = k; (· subst e; exact HB.out); exact HS.out j h (by omega)⟩⟩
    case measure => exact by omega
  have t6 : decide ((k : Int) < (l.length : Int)) = false := decide_eq_false (by omega)
  have t7 : decide (k < l.length) = false := decide_eq_false (by omega)
  have HR : Hid (r = -1) := Zh (by rcases hr.out with ⟨h9, _⟩ | ⟨j, rfl, hj, h8, h7⟩; (· exact h9); have := HS.out j hj (by omega); rw [h8] at this; cases this)
  have HY := Zh hy
  clear hy
  have hfin := Zh EL.out.bel
  go_wp2
  go_ret
  exact ⟨RetEq HR.out.symm, hfin.out⟩
set_option maxRecDepth 100000 in
set_option maxHeartbeats 1000000 in
theorem rtC {D : Nat → Prop} (l : List Int) (p : Nat) (ro : Nat) (g1 : Nat) (g2 : Nat) {xa : Option Addr} {xk : Nat} {w : World} (hx : Fct.at w D (.rw (.slice xa l.length xk) l.length 1 (icl l))) (h1 : Fct.at w D (.ce g1 0 (.int .i64 (ro : Nat)))) (h2 : Fct.at w D (.ce g2 0 (.int .i64 (p : Nat)))) (hp : 2 ≤ p) (hT : LtTop p) (hrp : ro ≤ p) (hall : Hid (InP p l)) {t : Bool} (ht0 : l.any (fun x => Pri.small p ro x) = t) (hm : l.length ≤ 1000000) :
  Calls Tryz.prog 96 #[.slice xa l.length xk, .func (.func 97) #[] #[.pointer (some ⟨g1, 0, none⟩), .pointer (some ⟨g2, 0, none⟩)]] w fun e w' => e = .returned (.bool t) ∧ Below w.heap.size w w' := by
 have E0 := Zh ((((Env.start D w).arg (.rw (.slice xa l.length xk) l.length 1 (icl l)) hx).arg (.ce g1 0 (.int .i64 (ro : Nat))) h1).arg (.ce g2 0 (.int .i64 (p : Nat))) h2)
 clear hx h1 h2
 go_enter Tryz.func96, Tryz.ntmps96
 have ht := Zh ht0
 clear ht0
 obtain ⟨r, hr⟩ : ∃ r : Int, ((r = -1 ∧ ∀ k (h : k < l.length), Pri.small p ro l[k] = false) ∨ ∃ k : Nat, r = (k : Int) ∧ ∃ h : k < l.length, Pri.small p ro l[k] = true ∧ ∀ j (h : j < l.length), j < k → Pri.small p ro l[j] = false) := first_any l (fun x => Pri.small p ro x)
 have hd : Hid (decide (0 ≤ r) = t) := Zh (by rw [← ht.out]; exact first_dec hr)
 have HR := Zh hr
 clear hr ht
 go_wp2_with fail
 refine (rtI l p ro g1 g2 (E0.out.fc 2 rfl) (E0.out.fc 1 rfl) (E0.out.fc 0 rfl) hp hT hrp hall (hr0 := HR.out) (hm := hm)).mono ?_
 rintro e w1 ⟨rfl, hb⟩
 have E1 := Zh (E0.out.below hb)
 clear E0 hb
 have HD := hd.out
 have hfin := Zh E1.out.bel
 go_wp2
 go_ret
 exact ⟨rfl, hfin.out⟩
set_option maxRecDepth 100000 in
set_option maxHeartbeats 2000000 in
theorem root_some {D : Nat → Prop} (p r : Nat) (l : List Nat) {xa : Option Addr} {xk : Nat} {w : World} (hx : Fct.at w D (.rw (.slice xa l.length xk) l.length 1 (ncl l))) (hp : 2 ≤ p) (hT : (p : Int) < Top) (hl0 : ∀ f ∈ l, 2 ≤ f ∧ f ≤ p - 1) (hm : l.length ≤ 1000) (hr0 : Pri.RootR p l r) (h00 : 0 < l.length) :
  Calls Tryz.prog 62 #[.int .i64 (p : Nat), .slice xa l.length xk] w fun e w' => e = .returned (.int .i64 (r : Nat)) ∧ Below w.heap.size w w' := by
 have E0 := Zh ((Env.start D w).arg (.rw (.slice xa l.length xk) l.length 1 (ncl l)) hx)
 clear hx
 go_enter Tryz.func62, Tryz.ntmps62
 have hl := Zh hl0
 have hr := Zh hr0
 clear hl0 hr0
 have HT : Hid (LtTop p) := Zh hT
 have hT9 : (p : Int) ≤ 2305843009213693951 := by unfold Top at hT; omega
 have HP := Zh hp
 have hr1 := hr.out.1
 have hr2 := hr.out.2.1
 clear hT hp
 go_wp2_with fail
 have E1 := Zh ((E0.out.push 3 [.int .i64 (p : Nat)] (w.heap.size) (by simp)))
 refine (cloneBox_c (E1.out.fc 0 rfl) (by omega) h00).mono ?_
 rintro e w1 ⟨⟨yg, yc, yr, rfl, yb, yl⟩, hb⟩
 have E2 := Zh (E1.out.gotBox hb yb.out)
 clear E0 E1 hb yb
 obtain ⟨yl1, yl2⟩ := yl.out
 have hcl := compact_len (nl l)
 rw [nl_len] at hcl
 go_wp2_with fail
 refine (compactE (n := l.length) (nl_len l).symm E2.out yl1 (by omega)).mono ?_
 rintro e wq ⟨rfl, yr2, E90⟩
 clear E2
 obtain ⟨zs, hzs⟩ : ∃ zs, Lib.compact (nl l) = zs := ⟨_, rfl⟩
 rw [hzs] at E90 hcl ⊢
 have HZ : Hid (InP p zs) := Zh (by intro x hx; rw [← hzs] at hx; obtain ⟨f, hf, rfl⟩ := List.mem_map.1 (Pri.mem_compact.1 hx); obtain ⟨h1, h2⟩ := hl.out f hf; have := HP.out; omega)
 have HA9 : Hid (∀ s, zs.any (Pri.small p s) = !Pri.rok p l s) := Zh (fun s => by rw [← hzs, Pri.any_compact, Pri.any_small])
 have hfr := Zh (E90.out.freezeI zs (cap := yc) (by omega) (by omega))
 clear hzs E90
 have E91 := Zh hfr.out
 clear hfr
 go_wp2_with fail
 have E92 := Zh ((E91.out.push 3 [.int .i64 1] (wq.heap.size) (by simp)))
 clear E91
 generalize wq.alloc (.cells #[.int .i64 1] 3) = w2 at *
 go_loopg [6] (p - 1) (fun gk s6 wr => ∃ (k gr : Nat), s6 = .pointer (some ⟨gr, 0, none⟩) ∧ Hid (Env D w [(gr, 3, [.int .i64 (k : Int)]), (w.heap.size, 3, [.int .i64 (p : Nat)])] [.rw (.slice (some ⟨yg, 0, none⟩) zs.length yc) zs.length 1 (icl zs), .rw (.slice xa l.length xk) l.length 1 (ncl l)] wr) ∧ Hid (1 ≤ k ∧ k ≤ r ∧ gk = p - k))
 case atStart => exact ⟨1, _, rfl, Zh E92.out, Zh ⟨by omega, by omega, rfl⟩⟩
 case round =>
  clear E92
  obtain ⟨k, gr, rfl, EL, HA⟩ := hrel
  obtain ⟨a1, a2, a3⟩ := HA.out
  clear HA
  by_cases hy : k = r
  ·have HI : Hid (zs.any (Pri.small p k) = false) := Zh (by rw [HA9.out, hy, hr.out.2.2.1]; rfl)
   subst hy
   go_wp2_with fail
   refine (rtC zs p k (gr) (w.heap.size) (Fct.any (EL.out.fc 0 rfl)) ⟨⟨(EL.out.bx 0 rfl).lt, trivial⟩, (EL.out.bx 0 rfl).cell 0 rfl⟩ ⟨⟨(EL.out.bx 1 rfl).lt, trivial⟩, (EL.out.bx 1 rfl).cell 0 rfl⟩ HP.out HT.out (by omega) HZ HI.out (by omega)).mono ?_
   rintro e w3 ⟨rfl, hb⟩
   have E93 := Zh (EL.out.below hb)
   clear EL hb
   have b1 := E93.out.bx 0 rfl
   have c1_0 := b1.cell 0 rfl
   clear b1
   have hfin := Zh E93.out.bel
   go_wp2
   go_ret
   exact ⟨rfl, hfin.out⟩
  have hk : k < r := by omega
  have HI : Hid (zs.any (Pri.small p k) = true) := Zh (by rw [HA9.out, hr.out.2.2.2 k a1 hk]; rfl)
  clear hy
  obtain ⟨k1, hk1⟩ : ∃ k1, k1 = k + 1 := ⟨_, rfl⟩
  have e7 : (k : Int) + 1 = (k1 : Int) := by omega
  have HK1 : Hid (k < k1 ∧ k1 ≤ r) := Zh (by omega)
  clear hk1
  go_wp2_with fail
  refine (rtC zs p k (gr) (w.heap.size) (Fct.any (EL.out.fc 0 rfl)) ⟨⟨(EL.out.bx 0 rfl).lt, trivial⟩, (EL.out.bx 0 rfl).cell 0 rfl⟩ ⟨⟨(EL.out.bx 1 rfl).lt, trivial⟩, (EL.out.bx 1 rfl).cell 0 rfl⟩ HP.out HT.out (by omega) HZ HI.out (by omega)).mono ?_
  rintro e w3 ⟨rfl, hb⟩
  have E93 := Zh (EL.out.below hb)
  clear EL hb
  have b1 := E93.out.bx 0 rfl
  have c1_0 := b1.cell 0 rfl
  clear b1
  have E94 := Zh ((E93.out.push 3 [.int .i64 (k1 : Int)] (w3.heap.size) (by simp)))
  have EZ := Zh (E94.out.dropAt 1)
  go_wp2
  go_roundg (p - k1)
  case rel => exact ⟨k1, _, rfl, Zh (EZ.out.cast (by simp)), Zh ⟨by have := HK1.out; omega, HK1.out.2, rfl⟩⟩
  case measure => (have := HK1.out; omega)
set_option maxRecDepth 100000 in
set_option maxHeartbeats 2000000 in
theorem root_none {D : Nat → Prop} (p r : Nat) (l : List Nat) {xa : Option Addr} {xk : Nat} {w : World} (hx : Fct.at w D (.rw (.slice xa l.length xk) l.length 1 (ncl l))) (hp : 2 ≤ p) (hT : (p : Int) < Top) (hl0 : ∀ f ∈ l, 2 ≤ f ∧ f ≤ p - 1) (hm : l.length ≤ 1000) (hr0 : Pri.RootR p l r) (h00 : l.length = 0) :
  Calls Tryz.prog 62 #[.int .i64 (p : Nat), .slice xa l.length xk] w fun e w' => e = .returned (.int .i64 (r : Nat)) ∧ Below w.heap.size w w' := by
 have E0 := Zh ((Env.start D w).arg (.rw (.slice xa l.length xk) l.length 1 (ncl l)) hx)
 clear hx
 go_enter Tryz.func62, Tryz.ntmps62
 have hl := Zh hl0
 have hr := Zh hr0
 clear hl0 hr0
 have HT : Hid (LtTop p) := Zh hT
 have hT9 : (p : Int) ≤ 2305843009213693951 := by unfold Top at hT; omega
 have HP := Zh hp
 have hr1 := hr.out.1
 have hr2 := hr.out.2.1
 clear hT hp
 obtain rfl := List.length_eq_zero_iff.1 h00
 clear h00 hm
 go_wp2_with fail
 have E1 := Zh ((E0.out.push 3 [.int .i64 (p : Nat)] (w.heap.size) (by simp)))
 refine (cloneN_c (E1.out.fc 0 rfl) (by simp)).mono ?_
 rintro e w1 ⟨⟨ya, yk, rfl, yh⟩, hb⟩
 have E2 := Zh (E1.out.got (E1.out.below hb) (.rw (.slice ya (([] : List Nat)).length yk) (([] : List Nat)).length 1 (ncl (([] : List Nat)))) (Zh (Rw.ge yh.out)).out)
 clear E0 E1 hb
 go_wp2_with fail
 refine (Tryz.slices_Compact_int_empty ya yk _).mono ?_
 rintro e wq ⟨rfl, rfl⟩
 have E91 : Hid (Env D w [(w.heap.size, 3, [.int .i64 (p : Nat)])] [.rw (.slice ya ([] : List Int).length yk) ([] : List Int).length 1 (icl []), .rw (.slice xa ([] : List Nat).length xk) ([] : List Nat).length 1 (ncl ([] : List Nat))] _) := Zh E2.out
 clear E2
 have HZ : Hid (InP p []) := Zh (by intro x hx; cases hx)
 have HA9 : Hid (∀ s, ([] : List Int).any (Pri.small p s) = !Pri.rok p [] s) := Zh (fun s => rfl)
 go_wp2_with fail
 have E92 := Zh ((E91.out.push 3 [.int .i64 1] (wq.heap.size) (by simp)))
 clear E91
 generalize wq.alloc (.cells #[.int .i64 1] 3) = w2 at *
 go_loopg [6] (p - 1) (fun gk s6 wr => ∃ (k gr : Nat), s6 = .pointer (some ⟨gr, 0, none⟩) ∧ Hid (Env D w [(gr, 3, [.int .i64 (k : Int)]), (w.heap.size, 3, [.int .i64 (p : Nat)])] [.rw (.slice ya ([] : List Int).length yk) ([] : List Int).length 1 (icl []), .rw (.slice xa ([] : List Nat).length xk) ([] : List Nat).length 1 (ncl ([] : List Nat))] wr) ∧ Hid (1 ≤ k ∧ k ≤ r ∧ gk = p - k))
 case atStart => exact ⟨1, _, rfl, Zh E92.out, Zh ⟨by omega, by omega, rfl⟩⟩
 case round =>
  clear E92
  obtain ⟨k, gr, rfl, EL, HA⟩ := hrel
  obtain ⟨a1, a2, a3⟩ := HA.out
  clear HA
  by_cases hy : k = r
  ·have HI : Hid (([] : List Int).any (Pri.small p k) = false) := Zh (by rw [HA9.out, hy, hr.out.2.2.1]; rfl)
   subst hy
   go_wp2_with fail
   refine (rtC ([] : List Int) p k (gr) (w.heap.size) (Fct.any (EL.out.fc 0 rfl)) ⟨⟨(EL.out.bx 0 rfl).lt, trivial⟩, (EL.out.bx 0 rfl).cell 0 rfl⟩ ⟨⟨(EL.out.bx 1 rfl).lt, trivial⟩, (EL.out.bx 1 rfl).cell 0 rfl⟩ HP.out HT.out (by omega) HZ HI.out (by simp)).mono ?_
   rintro e w3 ⟨rfl, hb⟩
   have E93 := Zh (EL.out.below hb)
   clear EL hb
   have b1 := E93.out.bx 0 rfl
   have c1_0 := b1.cell 0 rfl
   clear b1
   have hfin := Zh E93.out.bel
   go_wp2
   go_ret
   exact ⟨rfl, hfin.out⟩
  have hk : k < r := by omega
  have HI : Hid (([] : List Int).any (Pri.small p k) = true) := Zh (by rw [HA9.out, hr.out.2.2.2 k a1 hk]; rfl)
  clear hy
  obtain ⟨k1, hk1⟩ : ∃ k1, k1 = k + 1 := ⟨_, rfl⟩
  have e7 : (k : Int) + 1 = (k1 : Int) := by omega
  have HK1 : Hid (k < k1 ∧ k1 ≤ r) := Zh (by omega)
  clear hk1
  go_wp2_with fail
  refine (rtC ([] : List Int) p k (gr) (w.heap.size) (Fct.any (EL.out.fc 0 rfl)) ⟨⟨(EL.out.bx 0 rfl).lt, trivial⟩, (EL.out.bx 0 rfl).cell 0 rfl⟩ ⟨⟨(EL.out.bx 1 rfl).lt, trivial⟩, (EL.out.bx 1 rfl).cell 0 rfl⟩ HP.out HT.out (by omega) HZ HI.out (by simp)).mono ?_
  rintro e w3 ⟨rfl, hb⟩
  have E93 := Zh (EL.out.below hb)
  clear EL hb
  have b1 := E93.out.bx 0 rfl
  have c1_0 := b1.cell 0 rfl
  clear b1
  have E94 := Zh ((E93.out.push 3 [.int .i64 (k1 : Int)] (w3.heap.size) (by simp)))
  have EZ := Zh (E94.out.dropAt 1)
  go_wp2
  go_roundg (p - k1)
  case rel => exact ⟨k1, _, rfl, Zh (EZ.out.cast (by simp)), Zh ⟨by have := HK1.out; omega, HK1.out.2, rfl⟩⟩
  case measure => (have := HK1.out; omega)
theorem root_c {D : Nat → Prop} (p r : Nat) (l : List Nat) {xa : Option Addr} {xk : Nat} {w : World} (hx : Fct.at w D (.rw (.slice xa l.length xk) l.length 1 (ncl l))) (hp : 2 ≤ p) (hT : (p : Int) < Top) (hl0 : ∀ f ∈ l, 2 ≤ f ∧ f ≤ p - 1) (hm : l.length ≤ 1000) (hr0 : Pri.RootR p l r) :
  Calls Tryz.prog 62 #[.int .i64 (p : Nat), .slice xa l.length xk] w fun e w' => e = .returned (.int .i64 (r : Nat)) ∧ Below w.heap.size w w' := by
 by_cases h : 0 < l.length
 ·exact root_some p r l hx hp hT hl0 hm hr0 h
 ·exact root_none p r l hx hp hT hl0 hm hr0 (by omega)
theorem Fac_some {D : Nat → Prop} (N : Nat) (l : List Nat) {w : World} (hl0 : Laid w) (h0 : 1 ≤ (N : Int)) (hT : (N : Int) ≤ 2305843009213693951) (h : Pri.facN N = some l) :
  Calls Tryz.prog 60 #[.int .i64 (N : Nat)] w fun e w' => RetIE (fun b => w.heap.size ≤ b) l 0 e w' ∧ Below w.heap.size w w' := by
 by_cases h1 : (Pri.facs 2 N).2 = 1
 ·rw [Pri.facN_one h1] at h; cases h; exact Fac_one (D := D) N hl0 h0 hT h1
 ·cases hp : Pri.isP (Pri.facs 2 N).2 with
  | false => rw [Pri.facN_none h1 hp] at h; cases h
  | true => rw [Pri.facN_more h1 hp] at h; cases h; exact Fac_more (D := D) N hl0 h0 hT h1 hp
/-- a prime below 2^61, as both texts test it -/
def belowB (q : Int) : Bool := decide (q < 2305843009213693952) && Pri.isP q.toNat
theorem belowB_of {n : Nat} (h : Pri.isP n = true) (hT : (n : Int) < Top) : belowB (n : Int) = true := by
 unfold belowB; unfold Top at hT
 rw [decide_eq_true (by omega), Int.toNat_natCast, h]; rfl
theorem fac_good {p : Nat} {l : List Nat} (hp : 2 ≤ p) (hT : (p : Int) < Top) (hf : Pri.facN (p - 1) = some l) : l.length ≤ 1000 ∧ ∀ f ∈ l, 2 ≤ f ∧ f ≤ p - 1 := by
 obtain ⟨h1, h2⟩ := Pri.facN_all (by omega) (by unfold Top at hT; omega) hf
 exact ⟨by omega, fun f h => ⟨(h2 f h).1, (h2 f h).2.2⟩⟩
open Go.RowKit DivMath WordMath
/-- the cells of a number of one word -/
def wd (N : Nat) : List Value := [.int .u32 (N : Int)]
/-- a number of one word that is not 0 -/
def One (N : Nat) : Prop := 0 < N ∧ N < 4294967296
theorem digs_one {N : Nat} (h : One N) : Nn.NatMath.digs N = [N] := by
 rw [Nn.NatMath.digs_pos (by have := h.1; omega), Nat.mod_eq_of_lt h.2, Nat.div_eq_of_lt h.2, Nn.NatMath.digs_zero]
theorem len_one' {N : Nat} (h : One N) : Nn.NatMath.len N = 1 := by unfold Nn.NatMath.len; rw [digs_one h]; rfl
theorem len_le {N : Nat} (h : One N) : Nn.NatMath.len N ≤ 64 := by rw [len_one' h]; omega
theorem nt_of {W : World} {D : Nat → Prop} {a : Option Addr} {k N : Nat} (h : Fct.at W D (.rw (.slice a 1 k) 1 1 (wd N))) (hN : One N) : Nn.Nt W (.slice a 1 k) N := by
 obtain ⟨ao, cap, e, h1, h2, h3, h4, h5⟩ := h
 obtain ⟨b, off, h6, h7, h8⟩ := h5 (by omega)
 cases e
 unfold Nn.Nt
 rw [digs_one hN]
 refine ⟨a, k, rfl, h1, h2, by simpa using hN.2, fun _ => ⟨b, off, h6, h7.1, fun i hi => ?_⟩, fun x hx => by rw [h6] at hx; cases hx; rfl⟩
 have : i = 0 := by simp at hi; omega
 subst this
 exact h8 0 _ rfl
theorem rw_of {W : World} {v : Value} {N : Nat} (h : Nn.Nt W v N) (hN : One N) : ∃ b off k, v = .slice (some ⟨b, off, none⟩) 1 k ∧ 1 ≤ k ∧ k ≤ 9223372036854775807 ∧ b < W.heap.size ∧ W.cell? ⟨b, off, none⟩ = some (.int .u32 (N : Int)) := by
 unfold Nn.Nt at h
 rw [digs_one hN] at h
 obtain ⟨ao, cap, rfl, h1, h2, _, h4, _⟩ := h
 obtain ⟨b, off, rfl, h5, h6⟩ := h4 (by simp)
 exact ⟨b, off, cap, rfl, h1, h2, h5, h6 0 (by simp)⟩
theorem Rw.one {W : World} {D : Nat → Prop} {b off k N : Nat} (h1 : 1 ≤ k) (h2 : k ≤ 9223372036854775807) (h3 : b < W.heap.size) (hD : D b) (h4 : W.cell? ⟨b, off, none⟩ = some (.int .u32 (N : Int))) : Rw W D (.slice (some ⟨b, off, none⟩) 1 k) 1 1 (wd N) :=
 ⟨_, k, rfl, h1, h2, rfl, by intro u hu; simp [wd] at hu; subst hu; rfl, fun _ => ⟨b, off, rfl, ⟨h3, hD⟩, fun i u hu => by
  rcases i with _ | i
  ·simp [wd] at hu; subst hu; exact h4
  ·simp [wd] at hu⟩⟩
/-- a number of one word came back -/
def RetA1 (D : Nat → Prop) (N : Nat) (e : Ending) (W : World) : Prop := ∃ ao k, e = .returned (.agg #[.slice ao 1 k]) ∧ Hid (Rw W D (.slice ao 1 k) 1 1 (wd N))
/-- and the error 0 -/
def RetT1 (D : Nat → Prop) (N : Nat) (e : Ending) (W : World) : Prop := ∃ ao k, e = .returned (.tuple #[.agg #[.slice ao 1 k], .int .i64 0]) ∧ Hid (Rw W D (.slice ao 1 k) 1 1 (wd N))
theorem ret_of {W : World} {B N : Nat} {e : Ending} (h : Nn.RetN (fun w' v' => Nn.Nt w' v' N ∧ Nn.Fr B v') e W) (hN : One N) : RetT1 (fun b => B ≤ b) N e W := by
 obtain ⟨v, hv, rfl⟩ := h
 obtain ⟨b, off, k, rfl, h1, h2, h3, h4⟩ := rw_of hv.out.1 hN
 exact ⟨_, k, rfl, Zh (Rw.one h1 h2 h3 (hv.out.2 _ _ _ rfl) h4)⟩
section
variable {D : Nat → Prop} {xa ya za : Option Addr} {xk yk zk : Nat} {w : World} {N M K : Nat}
theorem valid1 (hN : One N) (ha : Fct.at w D (.rw (.slice xa 1 xk) 1 1 (wd N))) : Calls Tryz.prog 57 #[.agg #[.slice xa 1 xk]] w fun e w' => e = .returned (.bool true) ∧ Below w.heap.size w w' :=
 Nn.validN (len_le hN) (nt_of ha hN)
theorem bits1 {n : Nat} (hn : Nn.NatMath.bl N = n) (hN : One N) (ha : Fct.at w D (.rw (.slice xa 1 xk) 1 1 (wd N))) : Calls Tryz.prog 67 #[.agg #[.slice xa 1 xk]] w fun e w' => e = .returned (.int .i64 (n : Nat)) ∧ Below w.heap.size w w' :=
 Nn.bitsF hn (len_le hN) (nt_of ha hN)
theorem cmp1 {c : Int} (hc : Nn.NatMath.cmp N M = c) (hN : One N) (hM : One M) (ha : Fct.at w D (.rw (.slice xa 1 xk) 1 1 (wd N))) (hb : Fct.at w D (.rw (.slice ya 1 yk) 1 1 (wd M))) : Calls Tryz.prog 28 #[.agg #[.slice xa 1 xk], .agg #[.slice ya 1 yk]] w fun e w' => e = .returned (.int .i64 c) ∧ Below w.heap.size w w' :=
 Nn.compareF hc (nt_of ha hN) (nt_of hb hM) (len_le hN) (len_le hM)
theorem sub1 {S : Nat} (hS : N - M = S) (h0 : One S) (hN : One N) (hM : One M) (ha : Fct.at w D (.rw (.slice xa 1 xk) 1 1 (wd N))) (hb : Fct.at w D (.rw (.slice ya 1 yk) 1 1 (wd M))) : Calls Tryz.prog 68 #[.agg #[.slice xa 1 xk], .agg #[.slice ya 1 yk]] w fun e w' => RetT1 (fun b => w.heap.size ≤ b) S e w' ∧ Below w.heap.size w w' := by
 subst hS
 exact (Nn.Sub_ok _ _ N M w (nt_of ha hN) (nt_of hb hM) (len_le hN) (len_le hM) (by have := h0.1; omega)).mono (fun e w' h => ⟨ret_of h.1 h0, h.2⟩)
theorem mul1 {S : Nat} (hS : N * M = S) (h0 : One S) (hN : One N) (hM : One M) (ha : Fct.at w D (.rw (.slice xa 1 xk) 1 1 (wd N))) (hb : Fct.at w D (.rw (.slice ya 1 yk) 1 1 (wd M))) : Calls Tryz.prog 66 #[.agg #[.slice xa 1 xk], .agg #[.slice ya 1 yk]] w fun e w' => RetT1 (fun b => w.heap.size ≤ b) S e w' ∧ Below w.heap.size w w' := by
 subst hS
 refine (Nn.Mul_ok _ _ N M w (nt_of ha hN) (nt_of hb hM) (len_le hN) (len_le hM)).mono (fun e w' h => ⟨?_, h.2⟩)
 rcases h.1 with h1 | h1
 ·exact ret_of h1.2 h0
 ·exact absurd (len_le h0) h1.1
/-- the quotient is of one word; nothing is said of the rest -/
theorem div1 {q : Nat} (hq : N / M = q) (h0 : One q) (hN : One N) (hM : One M) (ha : Fct.at w D (.rw (.slice xa 1 xk) 1 1 (wd N))) (hb : Fct.at w D (.rw (.slice ya 1 yk) 1 1 (wd M))) : Calls Tryz.prog 45 #[.agg #[.slice xa 1 xk], .agg #[.slice ya 1 yk]] w fun e w' => (∃ ao k bo n j, e = .returned (.tuple #[.agg #[.slice ao 1 k], .agg #[.slice bo n j], .int .i64 0]) ∧ Hid (Rw w' (fun b => w.heap.size ≤ b) (.slice ao 1 k) 1 1 (wd q))) ∧ Below w.heap.size w w' := by
 subst hq
 refine (Nn.Div_c _ _ N M w (nt_of ha hN) (nt_of hb hM) (len_le hN) (len_le hM) (by have := hM.1; omega)).mono (fun e w' h => ⟨?_, h.2⟩)
 obtain ⟨u, v, hv, rfl⟩ := h.1
 obtain ⟨k1, k2, k3, k4⟩ := hv.out
 obtain ⟨b, off, k, rfl, h1, h2, h3, h4⟩ := rw_of k1 h0
 obtain ⟨bo, j, rfl, _⟩ := k3.open
 exact ⟨_, k, bo, _, j, rfl, Zh (Rw.one h1 h2 h3 (k2 _ _ _ rfl) h4)⟩
theorem of1 (hN : One N) : Calls Tryz.prog 93 #[.int .i64 (N : Nat)] w fun e w' => RetT1 (fun b => w.heap.size ≤ b) N e w' ∧ Below w.heap.size w w' :=
 (Nn.Of_ok N w (by have := hN.2; omega)).mono (fun e w' h => ⟨ret_of h.1 hN, h.2⟩)
/-- where the power's words lie is not said -/
theorem pow1 {S : Nat} (hS : N ^ M % K = S) (h0 : One S) (hN : One N) (hM : One M) (hK : One K) (hlt : N < K) (ha : Fct.at w D (.rw (.slice xa 1 xk) 1 1 (wd N))) (hb : Fct.at w D (.rw (.slice ya 1 yk) 1 1 (wd M))) (hc : Fct.at w D (.rw (.slice za 1 zk) 1 1 (wd K))) : Calls Tryz.prog 36 #[.agg #[.slice xa 1 xk], .agg #[.slice ya 1 yk], .agg #[.slice za 1 zk]] w fun e w' => RetT1 (fun _ => True) S e w' ∧ Below w.heap.size w w' := by
 subst hS
 have h := Nn.Pow_w xa xk ya yk za zk N M K w (by rw [len_one' hN]; exact nt_of ha hN) (by rw [len_one' hM]; exact nt_of hb hM) (by rw [len_one' hK]; exact nt_of hc hK) (len_le hM) hlt (by rw [len_one' hK]; omega)
 rw [len_one' hN, len_one' hM, len_one' hK] at h
 refine h.mono (fun e w' h => ⟨?_, h.2⟩)
 obtain ⟨ao, k, rfl, hv⟩ := h.1
 rw [len_one' h0] at hv ⊢
 obtain ⟨b, off, k', e, h1, h2, h3, h4⟩ := rw_of hv.out h0
 cases e
 exact ⟨_, _, rfl, Zh (Rw.one h1 h2 h3 trivial h4)⟩
end
theorem Rw.from2 {W : World} {B n k : Nat} {v : Value} {cs : List Value} (h : Fct.at W (fun b => False ∨ B ≤ b) (.rw v n k cs)) : Rw W (fun b => B ≤ b) v n k cs := Rw.turn h (Nat.le_refl _) (fun _ _ h => h.resolve_left id) (fun _ _ _ _ => rfl)
/-- a number lies in no box of slices -/
theorem Env.gotW {w W W' : World} {F : List Bx} {G : List Fct} (h : Env (fun _ => True) w F G W) (hb : Below W.heap.size W W') {a : Option Addr} {k N : Nat} (hn : Rw W' (fun _ => True) (.slice a 1 k) 1 1 (wd N)) (hF : ∀ p ∈ F, ∀ u ∈ p.2.2, ∃ x y z, u = .slice x y z) : Env (fun _ => True) w F (.rw (.slice a 1 k) 1 1 (wd N) :: G) W' := by
 have h' := h.below hb
 obtain ⟨ao, cap, e, h1, h2, h3, h4, h5⟩ := hn
 obtain ⟨b, off, h6, h7, h8⟩ := h5 (by omega)
 cases e
 subst h6
 refine h'.note _ (Rw.one h1 h2 h7.1 ⟨fun p hp e => ?_, .inl trivial⟩ (h8 0 _ rfl))
 subst e
 have hB := (held_iff.1 h'.box).1 p hp
 have hc := h8 0 _ rfl
 rw [cell_of_row W' p.1 _ p.2.2.toArray p.2.1 (0, 0) hB.2] at hc
 simp only [Nat.add_zero, List.getElem?_toArray] at hc
 obtain ⟨x, y, z, hu⟩ := hF p hp _ (List.mem_of_getElem? hc)
 cases hu
set_option maxRecDepth 100000 in
set_option maxHeartbeats 1000000 in
theorem nat1 (N : Nat) {w : World}  (hN0 : One N) :
  Calls Tryz.prog 61 #[.int .i64 (N : Nat)] w fun e w' => RetA1 (fun b => w.heap.size ≤ b) N e w' ∧ Below w.heap.size w w' := by
 have E0 := Zh (Env.start (fun _ => False) w)
 go_enter Tryz.func61, Tryz.ntmps61
 have hN := Zh hN0
 clear hN0
 go_wp2_with fail
 have E1 := Zh ((E0.out.push 24 [.slice none 0 0] (w.heap.size) (by simp)))
 refine (of1 hN.out).mono ?_
 rintro e w1 ⟨⟨ya, yk, rfl, yh⟩, hb⟩
 have E2 := Zh (E1.out.got (E1.out.below hb) (.rw (.slice ya 1 yk) 1 1 (wd N)) (Zh (Rw.ge yh.out)).out)
 clear E0 E1 hb
 have E3 := Zh ((E2.out.push 24 [.slice ya 1 yk] (w1.heap.size) (by simp)))
 have b1 := E3.out.bx 1 rfl
 have c1_0 := b1.cell 0 rfl
 have f1_0 := b1.frozen 0
 clear b1
 go_wp2
 have E4 : Hid (Env (fun _ => False) w [(w1.heap.size, 24, [.slice ya 1 yk]), (w.heap.size, 24, [.slice ya 1 yk])] [.rw (.slice ya 1 yk) 1 1 (wd N)] _) := Zh ((E3.out.set 1 0 (.slice ya 1 yk) rfl))
 have hfin := E4.out
 have q2 := (hfin.bx 1 rfl).cell 0 rfl
 exact bodyPost_ret (v := .agg #[.slice ya 1 yk]) (by simp [results, Tryz.results61, go_sem, q2]) rfl ⟨⟨ya, yk, rfl, Zh (Rw.from2 (hfin.out 0 rfl))⟩, hfin.bel⟩
set_option maxRecDepth 100000 in
set_option maxHeartbeats 1000000 in
theorem one1 (N R X : Nat) {xa ya za ua : Option Addr} {xk yk zn zk uk : Nat} {w : World} (hx : Fct.at w (fun _ => True) (.rw (.slice xa 1 xk) 1 1 (wd N))) (hy : Fct.at w (fun _ => True) (.rw (.slice ya 1 yk) 1 1 (wd R))) (hu : Fct.at w (fun _ => True) (.rw (.slice ua 1 uk) 1 1 (wd X))) (S : Nat) (hS0 : R ^ X % N = S) (h00 : One S) (hN0 : One N) (hR0 : One R) (hX0 : One X) (hlt : R < N) {t : Bool} (ht0 : decide (S = 1) = t) :
  Calls Tryz.prog 125 #[.agg #[.slice xa 1 xk, .slice ya 1 yk, .slice za zn zk], .agg #[.slice ua 1 uk]] w fun e w' => e = .returned (.bool t) ∧ Below w.heap.size w w' := by
 have E0 := Zh ((((Env.start (fun _ => True) w).arg (.rw (.slice xa 1 xk) 1 1 (wd N)) hx).arg (.rw (.slice ya 1 yk) 1 1 (wd R)) hy).arg (.rw (.slice ua 1 uk) 1 1 (wd X)) hu)
 clear hx hy hu
 go_enter Tryz.func125, Tryz.ntmps125
 have hS := Zh hS0
 have h0 := Zh h00
 have hN := Zh hN0
 have hR := Zh hR0
 have hX := Zh hX0
 have ht := Zh ht0
 clear hS0 h00 hN0 hR0 hX0 ht0
 obtain ⟨c, hc⟩ : ∃ c, Nn.NatMath.cmp S 1 = c := ⟨_, rfl⟩
 have HC := Zh hc
 have t1 : (c == 0) = t := by rw [← hc, Nn.NatMath.cmp_zero_iff, ht.out]
 clear hc
 have hlt2 := Zh hlt
 clear hlt
 go_wp2_with fail
 have E1 := Zh (((E0.out.push 57 [.slice xa 1 xk, .slice ya 1 yk, .slice za zn zk] (w.heap.size) (by simp)).push 24 [.slice ua 1 uk] (w.heap.size + 1) (by simp)))
 refine (pow1 hS.out h0.out hR.out hX.out hN.out hlt2.out (E1.out.fc 1 rfl) (E1.out.fc 0 rfl) (E1.out.fc 2 rfl)).mono ?_
 rintro e w1 ⟨⟨va, vk, rfl, vh⟩, hb⟩
 have E2 := Zh (E1.out.gotW hb vh.out (by intro p hp u hu; simp at hp; rcases hp with rfl | rfl <;> (simp at hu; (try rcases hu with rfl | rfl | rfl) <;> (try subst hu) <;> exact ⟨_, _, _, rfl⟩)))
 clear E0 E1 hb vh
 go_wp2_with fail
 have E3 := Zh ((E2.out.push 24 [.slice va 1 vk] (w1.heap.size) (by simp)))
 clear E2
 generalize w1.alloc (.cells #[.slice va 1 vk] 24) = w2 at *
 have E4 := Zh E3.out.drew
 clear E3
 refine wp_regionU (S := fun w' => w'.cell? ⟨w1.heap.size, 0, none⟩ = some (.slice va 1 vk)) [] (by kernel_rfl) (((E4.out.bx 0 rfl).cell 0 rfl)) (fun hHeld => ?_)
 generalize w2.drew = w3 at *
 refine uPl [0, 1, 2, 3] ?_
 iterate 4 (refine uTl (v := ?_) ?_ ?_; rotate_left; (focus (intro wS hSw; (try dsimp only at hSw); go_simp; try with_reducible rfl)); try simp only [Act.put, pq0, pq1, pq2])
 refine Pl.z ?_
 refine uRd 4 (fun KK hKK => ?_)
 go_simp
 refine (nat1 1 ⟨by decide, by decide⟩).mono ?_
 rintro e w4 ⟨⟨ia, ik, rfl, ih⟩, hb⟩
 have E5 := Zh (E4.out.got (E4.out.below hb) (.rw (.slice ia 1 ik) 1 1 (wd 1)) (Zh (Rw.ge ih.out)).out)
 clear E4 hb
 (try dsimp only)
 clear hHeld
 refine hKK.out _ _ (((E5.out.bx 0 rfl).cell 0 rfl)) (fun hHeld => ?_)
 clear hKK KK
 try simp only [Act.put, pq0, pq1, pq2]
 refine uRd 5 (fun KK hKK => ?_)
 go_simp
 refine (cmp1 HC.out h0.out ⟨by decide, by decide⟩ (E5.out.fc 1 rfl) (E5.out.fc 0 rfl)).mono ?_
 rintro e w5 ⟨rfl, hb⟩
 have E6 := Zh (E5.out.below hb)
 clear E5 hb
 (try dsimp only)
 clear hHeld
 refine hKK.out _ _ (((E6.out.bx 0 rfl).cell 0 rfl)) (fun hHeld => ?_)
 clear hKK KK
 try simp only [Act.put, pq0, pq1, pq2]
 refine uPl [6, 7, 8] ?_
 iterate 3 (refine uTl (v := ?_) ?_ ?_; rotate_left; (focus (intro wS hSw; (try dsimp only at hSw); go_simp; try with_reducible rfl)); try simp only [Act.put, pq0, pq1, pq2])
 refine Pl.z ?_
 refine uDone (by kernel_rfl) ?_ _
 have hfin := Zh E6.out.bel
 go_wp2
 go_ret
 exact ⟨rfl, hfin.out⟩
set_option maxRecDepth 100000 in
set_option maxHeartbeats 1000000 in
theorem right1 {D : Nat → Prop} (N R L M q : Nat) (g1 g2 : Nat) {xa ya za la pa qa sa : Option Addr} {xk yk zn zk lk pk qn qk sn sk : Nat} {w : World} (hx : Fct.at w D (.rw (.slice xa 1 xk) 1 1 (wd N))) (hy : Fct.at w D (.rw (.slice ya 1 yk) 1 1 (wd R))) (hl : Fct.at w D (.rw (.slice la 1 lk) 1 1 (wd L))) (hp : Fct.at w D (.rw (.slice pa 1 pk) 1 1 (wd M))) (h1 : Fct.at w D (.ce g1 0 (.slice la 1 lk))) (h20 : Fct.at w D (.ce g2 0 (.slice xa 1 xk))) (h21 : Fct.at w D (.ce g2 1 (.slice ya 1 yk))) (h22 : Fct.at w D (.ce g2 2 (.slice za zn zk))) (S : Nat) (hq0 : L / M = q) (hS0 : R ^ q % N = S) (h00 : One S) (hN0 : One N) (hR0 : One R) (hL0 : One L) (hM0 : One M) (hQ0 : One q) (hlt : R < N) {t : Bool} (ht0 : decide (S = 1) = t) :
  Calls Tryz.prog 127 #[.agg #[.slice pa 1 pk, .slice qa qn qk, .slice sa sn sk], .pointer (some ⟨g1, 0, none⟩), .pointer (some ⟨g2, 0, none⟩)] w fun e w' => e = .returned (.bool t) ∧ Below w.heap.size w w' := by
 have E0 := Zh (((((((((Env.start D w).arg (.rw (.slice xa 1 xk) 1 1 (wd N)) hx).arg (.rw (.slice ya 1 yk) 1 1 (wd R)) hy).arg (.rw (.slice la 1 lk) 1 1 (wd L)) hl).arg (.rw (.slice pa 1 pk) 1 1 (wd M)) hp).arg (.ce g1 0 (.slice la 1 lk)) h1).arg (.ce g2 0 (.slice xa 1 xk)) h20).arg (.ce g2 1 (.slice ya 1 yk)) h21).arg (.ce g2 2 (.slice za zn zk)) h22)
 clear hx hy hl hp h1 h20 h21 h22
 go_enter Tryz.func127, Tryz.ntmps127
 have hS := Zh hS0
 have h0 := Zh h00
 have hN := Zh hN0
 have hR := Zh hR0
 have hL := Zh hL0
 have hM := Zh hM0
 have hQ := Zh hQ0
 have ht := Zh ht0
 have hq := Zh hq0
 clear hS0 h00 hN0 hR0 hL0 hM0 hQ0 ht0 hq0
 have hlt2 := Zh hlt
 clear hlt
 have E1 := Zh ((E0.out.push 57 [.slice pa 1 pk, .slice qa qn qk, .slice sa sn sk] (w.heap.size) (by simp)))
 have z1 := (E1.out.fc 3 rfl).2
 have b2 := E1.out.bx 0 rfl
 have c2_0 := b2.cell 0 rfl
 clear b2
 go_wp2_with fail
 refine (div1 hq.out hQ.out hL.out hM.out (E1.out.fc 5 rfl) (E1.out.fc 4 rfl)).mono ?_
 rintro e w1 ⟨⟨ua, uk, va, vn, vk, rfl, uh⟩, hb⟩
 have E2 := Zh (E1.out.got (E1.out.below hb) (.rw (.slice ua 1 uk) 1 1 (wd q)) (Zh (Rw.ge uh.out)).out)
 clear z1 c2_0 E0 E1 hb
 have E3 := Zh (((E2.out.push 24 [.slice ua 1 uk] (w1.heap.size) (by simp)).push 24 [.slice va vn vk] (w1.heap.size + 1) (by simp)))
 have z3 := (E3.out.fc 3 rfl).2
 have z4 := (E3.out.fc 2 rfl).2
 have z5 := (E3.out.fc 1 rfl).2
 have b6 := E3.out.bx 1 rfl
 have c6_0 := b6.cell 0 rfl
 clear b6
 go_wp2_with fail
 refine (one1 N R q (Fct.any (E3.out.fc 8 rfl)) (Fct.any (E3.out.fc 7 rfl)) (Fct.any (E3.out.fc 0 rfl)) S hS.out h0.out hN.out hR.out hQ.out hlt2.out ht.out).mono ?_
 rintro e w2 ⟨rfl, hb⟩
 have E4 := Zh (E3.out.below hb)
 clear z3 z4 z5 c6_0 E2 E3 hb
 have hfin := Zh E4.out.bel
 go_wp2
 go_ret
 exact ⟨rfl, hfin.out⟩
end Go.Proofs.YtikopkkebdobdaaGreatDoor

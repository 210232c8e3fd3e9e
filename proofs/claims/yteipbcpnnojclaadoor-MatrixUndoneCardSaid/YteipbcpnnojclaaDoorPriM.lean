/- The strong test for primes, as both texts compute it: plain. -/
import Derived.Lib.Hide
namespace Go.Proofs.YteipbcpnnojclaaDoor
namespace Pri
/-- one of the next k squares is n - 1 -/
def hits (n : Nat) : Nat → Nat → Bool
  | 0, _ => false
  | k + 1, x => x * x % n == n - 1 || hits n k (x * x % n)
/-- how often 2 divides, at most so often as the first number says -/
def tzF : Nat → Nat → Nat
  | 0, _ => 0
  | f + 1, n => if n % 2 = 0 then tzF f (n / 2) + 1 else 0
def tz (n : Nat) : Nat := tzF 64 n
def od (n : Nat) : Nat := n / 2 ^ tz n
/-- the base a does not show that n is composite -/
def strong (n a : Nat) : Bool := a ^ od (n - 1) % n == 1 || (a ^ od (n - 1) % n == n - 1 || hits n (tz (n - 1) - 1) (a ^ od (n - 1) % n))
def bases : List Nat := [2, 3, 5, 7, 11, 13, 17, 19, 23, 29, 31, 37]
/-- what division by these says -/
def sieve (n : Nat) : List Nat → Option Bool
  | [] => none
  | p :: l => if n % p = 0 then some (n == p) else sieve n l
def isP (n : Nat) : Bool := if n < 2 then false else match sieve n bases with
  | some b => b
  | none => bases.all (strong n)
theorem tzF_le (f n : Nat) : tzF f n ≤ f := by
  induction f generalizing n with
  | zero => simp [tzF]
  | succ f ih => unfold tzF; split <;> simp [ih]
/-- the power of 2 divides; what is left is odd, if there was room -/
theorem tzF_spec (f n : Nat) (h0 : 0 < n) (h : n < 2 ^ f) : n = n / 2 ^ tzF f n * 2 ^ tzF f n ∧ n / 2 ^ tzF f n % 2 = 1 := by
  induction f generalizing n with
  | zero => simp at h; omega
  | succ f ih =>
    unfold tzF
    split
    · next h2 =>
      have h3 := ih (n / 2) (by omega) (by rw [Nat.pow_succ] at h; omega)
      rw [Nat.div_div_eq_div_mul, Nat.mul_comm 2, ← Nat.pow_succ] at h3
      refine ⟨?_, h3.2⟩
      have h4 := h3.1
      generalize n / 2 ^ (tzF f (n / 2) + 1) = q at *
      rw [Nat.pow_succ, ← Nat.mul_assoc]
      omega
    · simp; omega
theorem tz_spec {n : Nat} (h0 : 0 < n) (h : n < 2 ^ 64) : n = od n * 2 ^ tz n ∧ od n % 2 = 1 := tzF_spec 64 n h0 h
theorem odd_unique {d s e t : Nat} (h : d * 2 ^ s = e * 2 ^ t) (hd : d % 2 = 1) (he : e % 2 = 1) : d = e ∧ s = t := by
  induction s generalizing t with
  | zero =>
    rcases t with _ | t
    · simpa using h
    · exfalso; rw [Nat.pow_succ, ← Nat.mul_assoc] at h; simp at h; omega
  | succ s ih =>
    rcases t with _ | t
    · exfalso; rw [Nat.pow_succ, ← Nat.mul_assoc] at h; simp at h; omega
    · rw [Nat.pow_succ, Nat.pow_succ, ← Nat.mul_assoc, ← Nat.mul_assoc] at h
      have := ih (t := t) (by omega)
      omega
theorem tz_unique {n d s : Nat} (h0 : 0 < n) (h : n < 2 ^ 64) (e : n = d * 2 ^ s) (hd : d % 2 = 1) : d = od n ∧ s = tz n := by
  obtain ⟨h1, h2⟩ := tz_spec h0 h
  exact odd_unique (by rw [← e]; exact h1) hd h2
theorem tz_pos {n : Nat} (h0 : 0 < n) (h : n < 2 ^ 64) (he : n % 2 = 0) : 1 ≤ tz n := by
  obtain ⟨h1, h2⟩ := tz_spec h0 h
  rcases Nat.eq_zero_or_pos (tz n) with hz | hz
  · rw [hz] at h1; simp at h1; rw [← h1] at h2; omega
  · exact hz
theorem sieve_none {n : Nat} {l : List Nat} (h : sieve n l = none) : ∀ p ∈ l, n % p ≠ 0 := by
  induction l with
  | nil => simp
  | cons p l ih =>
    unfold sieve at h
    split at h
    · cases h
    · next hp => intro q hq; rcases List.mem_cons.1 hq with rfl | hq; exact hp; exact ih h q hq
/-- a number that no base divides is greater than all of them -/
theorem sieve_big {n : Nat} (h2 : 2 ≤ n) (h : sieve n bases = none) : 37 < n ∧ n % 2 = 1 := by
  have := sieve_none h
  have h2' := this 2 (by decide)
  refine ⟨?_, by omega⟩
  apply Classical.byContradiction
  intro hc
  have hn : n ≤ 37 := by omega
  have key : ∀ m, m ≤ 37 → 2 ≤ m → sieve m bases ≠ none := by decide
  exact key n hn h2 h
end Pri
end Go.Proofs.YteipbcpnnojclaaDoor

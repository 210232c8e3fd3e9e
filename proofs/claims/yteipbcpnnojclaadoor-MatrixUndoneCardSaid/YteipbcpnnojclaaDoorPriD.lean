/- The contract of the reference's test for primes, below 2^61. -/
import Derived.Test.YteipbcpnnojclaaDoorPriC
namespace Go.Proofs.YteipbcpnnojclaaDoor
open Go.RowKit DivMath WordMath
set_option linter.unusedVariables false
theorem Qw.below {w w' : World} (h : Qw w w') : Below w.heap.size w w' := by obtain ⟨n, rfl⟩ := h; exact below_drewN (Below.refl _ _) n
set_option maxHeartbeats 2000000 in
theorem strong_c (n a : Nat) (b : Bool) (w : World) (ha : (a : Int) < (n : Int)) (h1 : 2 < (n : Int)) (hn : (n : Int) < Top) (hb : Hid (Pri.strong n a = b)) :
    Calls Tryd.prog 95 #[.int .i64 n, .int .i64 a] w fun e w' => e = .returned (.bool b) ∧ Qw w w' := by
  have hn' : (n : Int) ≤ 2305843009213693951 := by unfold Top at hn; omega
  have el : wrap64 ((n : Int) - 1) = ((n - 1 : Nat) : Int) := by rw [IntWalk.wrap64_in _ (by omega)]; omega
  obtain ⟨l, hl⟩ : ∃ l, l = n - 1 := ⟨_, rfl⟩
  rw [← hl] at el
  have hl0 : 0 < (l : Int) := by omega
  have hl9 : (l : Int) ≤ 2305843009213693951 := by omega
  have eli : (n : Int) - 1 = (l : Int) := by omega
  have hst : Hid (l * 2 ^ 0 = l) := Lib.hid (by simp)
  have HL := Lib.hid hl
  have HN := Lib.hid hn
  clear hl hn
  go_enter Tryd.func95, Tryd.ntmps95
  go_wp2
  go_loopw [5, 6] (fun s0 s1 wr => ∃ D S : Nat, s0 = .int .i64 D ∧ s1 = .int .i64 S ∧ 0 < (D : Int) ∧ (D : Int) ≤ 2305843009213693951 ∧ Hid (D * 2 ^ S = l) ∧ Qw w wr) (fun s0 _ _ => (RowKit.intOf s0).toNat)
  case atStart => exact ⟨l, 0, rfl, rfl, hl0, hl9, hst, Qw.refl _⟩
  case round =>
    obtain ⟨D, S, rfl, rfl, hD0, hD9, HI, n1, rfl⟩ := hrel
    clear hst
    have hS : (S : Int) < 64 := by
      have h1 := HI.out
      have h2 : 2 ^ S ≤ l := by rw [← h1]; exact Nat.le_mul_of_pos_left _ (by omega)
      have h3 : 2 ^ S < 2 ^ 64 := by omega
      have := (Nat.pow_lt_pow_iff_right (a := 2) (by decide)).1 h3
      omega
    by_cases h2 : D % 2 = 0
    · have t1 : ((D : Int) % 2 == 0) = true := by simp; omega
      have HR : Hid (D / 2 * 2 ^ (S + 1) = l) := Lib.hid (by rw [← HI.out, Nat.pow_succ, Nat.mul_comm (2 ^ S), ← Nat.mul_assoc]; congr 1; omega)
      have hd0 : 0 < ((D / 2 : Nat) : Int) := by omega
      have hd9 : ((D / 2 : Nat) : Int) ≤ 2305843009213693951 := by omega
      have hdd : (D / 2 : Nat) < D := by omega
      clear HI
      go_wp2
      go_roundw
      case rel => exact ⟨D / 2, S + 1, by go_num, by go_num, hd0, hd9, HR, _, rfl⟩
      case measure => simp [RowKit.intOf]; omega
    · have t1 : ((D : Int) % 2 == 0) = false := by simp; omega
      obtain ⟨hd, hs⟩ := Pri.tz_unique (n := l) (d := D) (s := S) (by omega) (by omega) HI.out.symm (by omega)
      have hb2 := hb.out
      unfold Pri.strong at hb2
      rw [← HL.out, ← hd, ← hs] at hb2
      obtain ⟨x0, hx0⟩ : ∃ x0, x0 = a ^ D % n := ⟨_, rfl⟩
      rw [← hx0] at hb2
      have HX := Lib.hid hx0
      have HB := Lib.hid hb2
      clear hb hb2 hx0 hd hs HI h2
      go_wp2_with fail
      refine (refPow_c a D n _ (by omega) (by omega) (by omega) HN.out).mono ?_; rintro e1 w1 ⟨⟨y, hy, rfl⟩, n2, rfl⟩
      obtain rfl : y = x0 := hy.out.trans HX.out.symm
      have hx0n : (y : Int) < (n : Int) := by rw [HX.out]; have := Nat.mod_lt (a ^ D) (show 0 < n by omega); omega
      clear hy HX
      by_cases q1 : y = 1
      · have hb2 : b = true := by rw [← HB.out, q1]; rfl
        subst q1 hb2
        go_wp2
        go_ret
        exact ⟨rfl, _, rfl⟩
      have t1 : ((y : Int) == 1) = false := by simp; omega
      have t1' : (y == 1) = false := by simp; omega
      by_cases q2 : y = l
      · have hb2 : b = true := by rw [← HB.out, q2]; simp
        subst hb2
        have t2 : ((y : Int) == (l : Int)) = true := by simp; omega
        have t2' : (y == l) = true := by simp; omega
        clear q2
        go_wp2
        all_goals (go_ret; exact ⟨rfl, _, rfl⟩)
      have t2 : ((y : Int) == (l : Int)) = false := by simp; omega
      have t2' : (y == l) = false := by simp; omega
      have hst : Hid (Pri.hits n (S - 1) y = b) := Lib.hid (by have := HB.out; rw [t1', t2'] at this; simpa using this)
      clear q1 q2 t1' HB
      go_wp2
      go_loopw [7, 8] (fun s0 s1 wr => ∃ X i : Nat, s0 = .int .i64 X ∧ s1 = .int .i64 i ∧ (X : Int) < (n : Int) ∧ 1 ≤ (i : Int) ∧ (i : Int) ≤ 64 ∧ Hid (Pri.hits n (S - i) X = b) ∧ Qw w wr) (fun _ s1 _ => 64 - (RowKit.intOf s1).toNat)
      case atStart => exact ⟨y, 1, rfl, rfl, hx0n, by omega, by omega, hst, _, rfl⟩
      case round =>
        obtain ⟨X, i, rfl, rfl, hX, hi1, hi, HI, n3, rfl⟩ := hrel
        clear hst
        by_cases h0 : S ≤ i
        · have hb2 : b = false := by rw [← HI.out, Nat.sub_eq_zero_of_le h0]; rfl
          subst hb2
          have hg : decide (i < S) = false := decide_eq_false (by omega)
          have hg2 : decide ((i : Int) < (S : Int)) = false := decide_eq_false (by omega)
          clear h0
          go_wp2
          go_ret
          exact ⟨rfl, _, rfl⟩
        · have hg : decide (i < S) = true := decide_eq_true (by omega)
          have hg2 : decide ((i : Int) < (S : Int)) = true := decide_eq_true (by omega)
          have hstep : Hid ((X * X % n == l || Pri.hits n (S - (i + 1)) (X * X % n)) = b) := Lib.hid (by
            have := HI.out
            rw [show S - i = S - (i + 1) + 1 by omega] at this
            rw [HL.out]; exact this)
          have hi63 : (i : Int) ≤ 63 := by omega
          clear HI h0
          go_wp2_with fail
          refine (refMul_c X X n _ (by omega) (by omega) (by omega) HN.out).mono ?_; rintro e1 w1 ⟨⟨X2, hX2, rfl⟩, n4, rfl⟩
          have bX2 : (X2 : Int) < (n : Int) := by rw [hX2.out]; have := Nat.mod_lt (X * X) (show 0 < n by omega); omega
          have hq : Hid ((X2 == l || Pri.hits n (S - (i + 1)) X2) = b) := Lib.hid (by rw [hX2.out]; exact hstep.out)
          clear hX2 hstep
          by_cases q : X2 = l
          · have hb2 : b = true := by rw [← hq.out, q]; simp
            have t3 : ((X2 : Int) == (l : Int)) = true := by simp; omega
            have t3' : (X2 == l) = true := by simp; omega
            subst hb2
            clear q
            go_wp2
            go_ret
            exact ⟨rfl, _, rfl⟩
          · have t3 : ((X2 : Int) == (l : Int)) = false := by simp; omega
            have t3' : (X2 == l) = false := by simp; omega
            have HR : Hid (Pri.hits n (S - (i + 1)) X2 = b) := Lib.hid (by have := hq.out; rw [t3'] at this; simpa using this)
            clear q hq
            go_wp2
            go_roundw
            case rel => exact ⟨X2, i + 1, rfl, by go_num, bX2, by omega, by omega, HR, _, rfl⟩
            case measure => simp [RowKit.intOf]; omega

end Go.Proofs.YteipbcpnnojclaaDoor

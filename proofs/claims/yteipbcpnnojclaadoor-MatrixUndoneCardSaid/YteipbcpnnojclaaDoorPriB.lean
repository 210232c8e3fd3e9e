/- The contract of the test of one base: package prime. -/
import Derived.Test.YteipbcpnnojclaaDoorPriA
namespace Go.Proofs.YteipbcpnnojclaaDoor
open Go.RowKit DivMath WordMath
set_option linter.unusedVariables false

set_option maxHeartbeats 1000000 in
theorem composite_c (a n d s x0 l : Nat) (b : Bool) (w : World) (ha : (a : Int) < (n : Int)) (hd : (d : Int) ≤ 18446744073709551615) (h1 : 1 < (n : Int)) (hn : (n : Int) ≤ 18446744073709551615) (hs1 : 1 ≤ s) (hs : (s : Int) ≤ 64)
    (hx0 : x0 = a ^ d % n) (hl : l = n - 1) (hb : Hid ((x0 == 1 || (x0 == l || Pri.hits n (s - 1) x0)) = b)) :
    Calls Tryd.prog 102 #[.int .u64 a, .int .u64 n, .int .u64 d, .int .i64 s] w fun e w' => e = .returned (.bool (!b)) ∧ Qw w w' := by
  have hx0n : (x0 : Int) < (n : Int) := by rw [hx0]; have := Nat.mod_lt (a ^ d) (show 0 < n by omega); omega
  have el : IntKind.u64.wrap ((n : Int) - 1) = (l : Int) := by rw [IntKind.wrap_u64]; omega
  have es : wrap64 ((s : Int) - 1) = ((s - 1 : Nat) : Int) := by rw [IntWalk.wrap64_in _ (by omega)]; omega
  have HX := Lib.hid hx0
  have HL := Lib.hid hl
  clear hl hx0
  go_enter Tryd.func102, Tryd.ntmps102
  go_wp2_with fail
  refine (ppow_c a d n _ ha hd h1 hn).mono ?_; rintro e1 w1 ⟨⟨y, hy, rfl⟩, n1, rfl⟩
  obtain rfl : y = x0 := hy.out.trans HX.out.symm
  clear hy HX
  by_cases q1 : y = 1
  · have hb2 : b = true := by rw [← hb.out, q1]; rfl
    subst q1 hb2
    go_wp2
    go_ret
    exact ⟨rfl, _, rfl⟩
  have t1 : ((y : Int) == 1) = false := by simp; omega
  have t1' : (y == 1) = false := by simp; omega
  by_cases q2 : y = l
  · have hb2 : b = true := by rw [← hb.out, q2]; simp
    subst hb2
    have t2 : ((y : Int) == (l : Int)) = true := by simp; omega
    have t2' : (y == l) = true := by simp; omega
    clear q2
    go_wp2
    all_goals (go_ret; exact ⟨rfl, _, rfl⟩)
  have t2 : ((y : Int) == (l : Int)) = false := by simp; omega
  have t2' : (y == l) = false := by simp; omega
  have hst : Hid (Pri.hits n (s - 1 - 0) y = b) := Lib.hid (by have := hb.out; rw [t1', t2'] at this; simpa using this)
  clear q1 q2 t1' hb
  obtain ⟨sm, hsm⟩ : ∃ sm, sm = s - 1 := ⟨_, rfl⟩
  rw [← hsm] at es hst
  have HSM := Lib.hid hsm
  have h64 : (sm : Int) ≤ 64 := by omega
  clear hsm es
  go_wp2
  go_loopw [9, 24] (fun s0 s1 wr => ∃ X i : Nat, s0 = .int .u64 X ∧ s1 = .int .i64 i ∧ (X : Int) < (n : Int) ∧ (i : Int) ≤ (sm : Int) ∧ Hid (Pri.hits n (sm - i) X = b) ∧ Qw w wr) (fun _ s1 _ => sm - (RowKit.intOf s1).toNat)
  case atStart => exact ⟨y, 0, rfl, rfl, hx0n, by omega, hst, _, rfl⟩
  case round =>
    obtain ⟨X, i, rfl, rfl, hX, hi, HI, n2, rfl⟩ := hrel
    have hi64 : (i : Int) ≤ 64 := by omega
    by_cases h0 : i = sm
    · have hb2 : b = false := by rw [← HI.out, h0, Nat.sub_self]; rfl
      subst hb2
      have hg : decide (i < sm) = false := decide_eq_false (by omega)
      have hg2 : decide ((i : Int) < (s : Int) - 1) = false := decide_eq_false (by have := HSM.out; omega)
      clear h0
      go_wp2
      go_ret
      exact ⟨rfl, _, rfl⟩
    · have hg : decide (i < sm) = true := decide_eq_true (by omega)
      have hg2 : decide ((i : Int) < (s : Int) - 1) = true := decide_eq_true (by have := HSM.out; omega)
      have hstep : Hid ((X * X % n == l || Pri.hits n (sm - (i + 1)) (X * X % n)) = b) := Lib.hid (by
        have := HI.out
        rw [show sm - i = sm - (i + 1) + 1 by omega] at this
        rw [HL.out]; exact this)
      clear HI
      go_wp2_with fail
      refine (pmul_c X X n _ hX hX hn).mono ?_; rintro e1 w1 ⟨⟨X2, hX2, rfl⟩, n3, rfl⟩
      have bX2 : (X2 : Int) < (n : Int) := by rw [hX2.out]; have := Nat.mod_lt (X * X) (show 0 < n by omega); omega
      have hq : Hid ((X2 == l || Pri.hits n (sm - (i + 1)) X2) = b) := Lib.hid (by rw [hX2.out]; exact hstep.out)
      clear hX2 hstep
      by_cases q : X2 = l
      · have hb2 : b = true := by rw [← hq.out, q]; simp
        have t3 : ((X2 : Int) == (l : Int)) = true := by simp; omega
        have t3' : (X2 == l) = true := by simp; omega
        subst hb2
        clear q
        go_wp2
        go_ret
        exact ⟨rfl, _, rfl⟩
      · have t3 : ((X2 : Int) == (l : Int)) = false := by simp; omega
        have t3' : (X2 == l) = false := by simp; omega
        have HR : Hid (Pri.hits n (sm - (i + 1)) X2 = b) := Lib.hid (by have := hq.out; rw [t3'] at this; simpa using this)
        clear q hq
        go_wp2
        go_roundw
        case rel => exact ⟨X2, i + 1, rfl, by go_num, bX2, by omega, HR, _, rfl⟩
        case measure => simp [RowKit.intOf]; omega
end Go.Proofs.YteipbcpnnojclaaDoor

/- The walk of the statement WordSolutions: it returns true at every input. -/
import Derived.Test.YtfhcaedkdjckhaaWordG
import Derived.OpenShut
namespace Go.Proofs.Ytfhcaedkdjckhaa
open Go.RowKit DivMath WordMath
set_option linter.unusedVariables false

/-- a number solves the congruence exactly if it leaves the rest x by the step -/
theorem sol_iff {p q n x s k : Nat} (hn : 0 < n) (hq : q < n) (hg : q % Nat.gcd p n = 0) (h : Sol p q n x s) : (k % s = x ↔ p * k % n = q) := by
  obtain ⟨e1, e2, e3⟩ := h
  have hgp := Nat.gcd_pos_of_pos_right p hn
  have hcop := Nat.coprime_div_gcd_div_gcd hgp
  obtain ⟨P, hP⟩ := Nat.gcd_dvd_left p n
  obtain ⟨N, hN⟩ := Nat.gcd_dvd_right p n
  obtain ⟨Q, hQ⟩ := Nat.dvd_of_mod_eq_zero hg
  generalize Nat.gcd p n = d at *
  have hP' : p / d = P := by rw [hP]; exact Nat.mul_div_cancel_left _ hgp
  have hN' : n / d = N := by rw [hN]; exact Nat.mul_div_cancel_left _ hgp
  have hQ' : q / d = Q := by rw [hQ]; exact Nat.mul_div_cancel_left _ hgp
  rw [hN'] at e1 hcop
  rw [hP', hQ'] at e3
  rw [hP'] at hcop
  subst e1
  have hNp : 0 < s := by omega
  have hQs : Q < s := by
    rw [hQ, hN] at hq
    exact Nat.lt_of_mul_lt_mul_left hq
  have key : p * k % n = d * (P * k % s) := by rw [hP, hN, Nat.mul_assoc, Nat.mul_mod_mul_left]
  rw [key]
  have hQm : Q % s = Q := Nat.mod_eq_of_lt hQs
  rw [hQm] at e3
  have e4 : P * k % s = P * (k % s) % s := by rw [Nat.mul_mod_mod]
  constructor
  · intro hk
    rw [e4, hk, e3]; exact hQ.symm
  · intro hk
    rw [hQ] at hk
    have h2 := Nat.eq_of_mul_eq_mul_left hgp hk
    rw [e4, ← e3] at h2
    exact cancel hcop (Nat.mod_lt _ hNp) e2 h2

theorem sol_never {p q n k : Nat} (hn : 0 < n) (hg : q % Nat.gcd p n ≠ 0) : p * k % n ≠ q := by
  intro h
  apply hg
  have hd := Nat.gcd_dvd_left p n
  have hd2 := Nat.gcd_dvd_right p n
  have : Nat.gcd p n ∣ q := by
    rw [← h]
    exact (Nat.dvd_mod_iff hd2).2 (Nat.dvd_trans hd (Nat.dvd_mul_right _ _))
  exact Nat.mod_eq_zero_of_dvd this

set_option maxRecDepth 100000 in
set_option maxHeartbeats 2000000 in
theorem WordSolutions_walk (a b m : Int) (wa : (Lit.int .u16 a).wf = true) (wb : (Lit.int .u16 b).wf = true) (wm : (Lit.int .u16 m).wf = true) (w : World) :
    Calls Try.prog 6 #[.int .u16 a, .int .u16 b, .int .u16 m] w fun e w' => e = .returned (.bool true) ∧ Grown w w' := by
  have ba := bounds_u16 wa
  have bb := bounds_u16 wb
  have bm := bounds_u16 wm
  clear wa wb wm
  obtain ⟨a, rfl⟩ := Int.eq_ofNat_of_zero_le ba.1
  obtain ⟨b, rfl⟩ := Int.eq_ofNat_of_zero_le bb.1
  obtain ⟨m, rfl⟩ := Int.eq_ofNat_of_zero_le bm.1
  have a1 : (a : Int) ≤ 65535 := ba.2
  have b1 : (b : Int) ≤ 65535 := bb.2
  have m1 : (m : Int) ≤ 65535 := bm.2
  obtain ⟨n, hn⟩ : ∃ n, n = 1 + m % 300 := ⟨_, rfl⟩
  have en : 1 + (m : Int) % 300 = (n : Int) := by omega
  have n1 : 1 ≤ (n : Int) := by omega
  have n2 : (n : Int) ≤ 300 := by omega
  have nz1 : ((n : Int) == 0) = false := by simp; omega
  have nz2 : (n == 0) = false := by simp; omega
  obtain ⟨p, hp⟩ : ∃ p, p = a % n := ⟨_, rfl⟩
  obtain ⟨q, hq⟩ : ∃ q, q = b % n := ⟨_, rfl⟩
  have ep : (a : Int) % (n : Int) = (p : Int) := by rw [hp, Int.natCast_emod]
  have eq' : (b : Int) % (n : Int) = (q : Int) := by rw [hq, Int.natCast_emod]
  have p1 : (p : Int) < (n : Int) := by rw [hp]; have := Nat.mod_lt a (show 0 < n by omega); omega
  have q1 : (q : Int) < (n : Int) := by rw [hq]; have := Nat.mod_lt b (show 0 < n by omega); omega
  have ht : (n : Int) < Top := by unfold Top; omega
  clear hn hp hq ba bb bm
  have hf : ∀ k : Nat, ((k : Int) == (q : Int)) = decide (k = q) := by intro k; rw [Bool.eq_iff_iff]; simp; omega
  by_cases hg : q % Nat.gcd p n = 0
  · have c1 := fun w => Solve_ok p q n w p1 q1 ht hg
    have hiff := fun x s k => sol_iff (p := p) (q := q) (n := n) (x := x) (s := s) (k := k) (by omega) (by omega) hg
    have hsn : ∀ x s, Sol p q n x s → x < s ∧ 1 ≤ s ∧ s ≤ n := by
      intro x s h
      obtain ⟨e1, e2, e3⟩ := h
      exact ⟨e2, by omega, by rw [e1]; exact Nat.div_le_self _ _⟩
    have HI := Lib.hid hiff
    have HT := Lib.hid ht
    have HF := Lib.hid hf
    have C1 := Lib.hid c1
    have HSN := Lib.hid hsn
    clear hiff ht hf c1 hg hsn
    go_enter Try.func6, Try.ntmps6
    go_wp2_with fail
    refine (awake_c _).mono ?_; rintro e w1 ⟨rfl, k1⟩
    go_wp2_with fail
    go_quiet (fail)
    go_wp2_with fail
    refine (C1.out _).mono ?_; rintro e w2 ⟨⟨x, s, hx, rfl⟩, k2⟩
    obtain ⟨x1, s1, s2⟩ := HSN.out x s hx.out
    have xs1 : decide (s ≤ x) = false := decide_eq_false (by omega)
    have xs2 : decide ((s : Int) < 1) = false := decide_eq_false (by omega)
    have xs3 : decide (n < s) = false := decide_eq_false (by omega)
    have xs4 : decide ((x : Int) < 0) = false := decide_eq_false (by omega)
    go_wp2_with fail
    have HX := Lib.hid hx.out
    have sz1 : ((s : Int) == 0) = false := by simp; omega
    have sz2 : (s == 0) = false := by simp; omega
    have si : 1 ≤ (s : Int) := by omega
    clear hx C1 HSN en ep eq' a1 b1 m1 x1 s1 s2 xs1 xs2 xs3 xs4
    have K2 := (k1.drewN nq).trans k2
    clear k1 k2
    go_loopw [74] (fun s74 wr => ∃ k : Nat, s74 = .int .i64 k ∧ (k : Int) ≤ (n : Int) ∧ Qw w wr) (fun s74 _ => n - (RowKit.intOf s74).toNat)
    case atStart => exact ⟨0, rfl, by omega, K2⟩
    case round =>
      obtain ⟨k, rfl, hk, hw⟩ := hrel
      by_cases hlt : k < n
      · have g1 : decide (k < n) = true := decide_eq_true hlt
        have g1' : (k : Int) < (n : Int) := by omega
        go_wp2_with fail
        refine (Mul_ok p k n _ p1 g1' HT.out).mono ?_; rintro e w3 ⟨⟨y, hy, rfl⟩, k3⟩
        have hiff := HI.out x s k HX.out
        have hfy := HF.out y
        by_cases hc : k % s = x
        · have t1 : ((k : Int) % (s : Int) == (x : Int)) = true := by
            rw [← Int.natCast_emod, hc]; simp
          have t2 : ((y : Int) == (q : Int)) = true := by rw [hfy]; exact decide_eq_true (by rw [hy.out]; exact hiff.1 hc)
          clear hiff hfy hc hy
          go_wp2
          go_roundw
          case rel => exact ⟨k + 1, by go_num, by omega, hw.trans k3⟩
          case measure => simp [RowKit.intOf]; omega
        · have t1 : ((k : Int) % (s : Int) == (x : Int)) = false := by
            rw [← Int.natCast_emod, beq_eq_false_iff_ne]; omega
          have t2 : ((y : Int) == (q : Int)) = false := by rw [hfy]; exact decide_eq_false (by rw [hy.out]; exact fun h => hc (hiff.2 h))
          clear hiff hfy hc hy
          go_wp2
          go_roundw
          case rel => exact ⟨k + 1, by go_num, by omega, hw.trans k3⟩
          case measure => simp [RowKit.intOf]; omega
      · have g1 : decide (k < n) = false := decide_eq_false hlt
        go_wp2
        go_ret
        exact ⟨rfl, hw.grown⟩
  · have c1 := fun w => Solve_none p q n w p1 q1 ht hg
    have hnev := fun k => sol_never (p := p) (q := q) (n := n) (k := k) (by omega) hg
    have HN := Lib.hid hnev
    have HT := Lib.hid ht
    have HF := Lib.hid hf
    have C1 := Lib.hid c1
    clear hnev ht hf c1 hg
    go_enter Try.func6, Try.ntmps6
    go_wp2_with fail
    refine (awake_c _).mono ?_; rintro e w1 ⟨rfl, k1⟩
    go_wp2_with fail
    go_quiet (fail)
    go_wp2_with fail
    refine (C1.out _).mono ?_; rintro e w2 ⟨rfl, k2⟩
    go_wp2_with fail
    clear C1 en ep eq' a1 b1 m1
    have K2 := (k1.drewN nq).trans k2
    clear k1 k2
    go_loopw [74] (fun s74 wr => ∃ k : Nat, s74 = .int .i64 k ∧ (k : Int) ≤ (n : Int) ∧ Qw w wr) (fun s74 _ => n - (RowKit.intOf s74).toNat)
    case atStart => exact ⟨0, rfl, by omega, K2⟩
    case round =>
      obtain ⟨k, rfl, hk, hw⟩ := hrel
      by_cases hlt : k < n
      · have g1 : decide (k < n) = true := decide_eq_true hlt
        have g1' : (k : Int) < (n : Int) := by omega
        go_wp2_with fail
        refine (Mul_ok p k n _ p1 g1' HT.out).mono ?_; rintro e w3 ⟨⟨y, hy, rfl⟩, k3⟩
        have t2 : ((y : Int) == (q : Int)) = false := by rw [HF.out y]; exact decide_eq_false (by rw [hy.out]; exact HN.out k)
        clear hy
        go_wp2
        go_roundw
        case rel => exact ⟨k + 1, by go_num, by omega, hw.trans k3⟩
        case measure => simp [RowKit.intOf]; omega
      · have g1 : decide (k < n) = false := decide_eq_false hlt
        go_wp2
        go_ret
        exact ⟨rfl, hw.grown⟩
end Go.Proofs.Ytfhcaedkdjckhaa

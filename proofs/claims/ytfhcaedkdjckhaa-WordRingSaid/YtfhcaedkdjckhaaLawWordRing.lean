/- The walk of the statement WordRing: it returns true at every input. -/
import Derived.Test.YtfhcaedkdjckhaaWordG
import Derived.OpenShut
namespace Go.Proofs.Ytfhcaedkdjckhaa
open Go.RowKit DivMath WordMath
set_option linter.unusedVariables false

/-- the laws of residues, on plain numbers -/
theorem ring_laws (x y z m xy yx xz yz left right back p q one none : Nat) (hm : 0 < m) (hx : x < m) (hy : y < m) (hz : z < m)
    (e1 : xy = x * y % m) (e2 : yx = y * x % m) (e3 : xz = x * z % m) (e4 : yz = (y + z) % m) (e5 : left = x * yz % m) (e6 : right = (xy + xz) % m)
    (e7 : back = (yz + (m - z)) % m) (e8 : p = xy * z % m) (e9 : q = xz * y % m) (e10 : one = x * (1 % m) % m) (e11 : none = (x + 0) % m) :
    xy = yx ∧ left = right ∧ back = y ∧ p = q ∧ one = x ∧ none = x := by
  refine ⟨by rw [e1, e2, Nat.mul_comm], ?_, ?_, ?_, ?_, by rw [e11, Nat.add_zero, Nat.mod_eq_of_lt hx]⟩
  · rw [e5, e6, e4, e1, e3, ← Nat.add_mod, ← Nat.mul_add, Nat.mul_mod, Nat.mod_mod, ← Nat.mul_mod]
  · rw [e7, e4, Nat.mod_add_mod, show y + z + (m - z) = y + m by omega, Nat.add_mod_right, Nat.mod_eq_of_lt hy]
  · rw [e8, e9, e1, e3, Nat.mod_mul_mod, Nat.mod_mul_mod, Nat.mul_right_comm]
  · rw [e10, Nat.mul_mod_mod, Nat.mul_one, Nat.mod_eq_of_lt hx]

set_option maxRecDepth 100000 in
set_option maxHeartbeats 2000000 in
theorem WordRing_walk (a b c m : Int) (wa : (Lit.int .i64 a).wf = true) (wb : (Lit.int .i64 b).wf = true) (wc : (Lit.int .i64 c).wf = true) (wm : (Lit.int .i64 m).wf = true) (w : World) :
    Calls Try.prog 10 #[.int .i64 a, .int .i64 b, .int .i64 c, .int .i64 m] w fun e w' => e = .returned (.bool true) ∧ Grown w w' := by
  clear wa wb wc wm
  by_cases h1 : m < 1
  · have k1 : decide (m < 1) = true := decide_eq_true h1
    go_enter Try.func10, Try.ntmps10
    go_wp2_with fail
    refine (awake_c _).mono ?_; rintro e w1 ⟨rfl, q1⟩
    go_wp2
    go_ret
    exact ⟨rfl, q1.grown⟩
  · have k1 : decide (m < 1) = false := decide_eq_false h1
    by_cases h2 : Top ≤ m
    · have k2 : decide (2305843009213693952 ≤ m) = true := decide_eq_true h2
      clear h1 h2
      go_enter Try.func10, Try.ntmps10
      go_wp2_with fail
      refine (awake_c _).mono ?_; rintro e w1 ⟨rfl, q1⟩
      go_wp2
      go_ret
      exact ⟨rfl, q1.grown⟩
    · have k2 : decide (2305843009213693952 ≤ m) = false := decide_eq_false h2
      have hm1 : 1 ≤ m := by omega
      have hm2 : m < Top := by omega
      have r1 := fun w => Reduce_ok a m w hm1 hm2
      have r2 := fun w => Reduce_ok b m w hm1 hm2
      have r3 := fun w => Reduce_ok c m w hm1 hm2
      obtain ⟨x, hx⟩ : ∃ x : Nat, (x : Int) = a % m := ⟨_, Int.toNat_of_nonneg (Int.emod_nonneg _ (by omega))⟩
      obtain ⟨y, hy⟩ : ∃ y : Nat, (y : Int) = b % m := ⟨_, Int.toNat_of_nonneg (Int.emod_nonneg _ (by omega))⟩
      obtain ⟨z, hz⟩ : ∃ z : Nat, (z : Int) = c % m := ⟨_, Int.toNat_of_nonneg (Int.emod_nonneg _ (by omega))⟩
      rw [← hx] at r1
      rw [← hy] at r2
      rw [← hz] at r3
      have bx : (x : Int) < m := by rw [hx]; exact Int.emod_lt_of_pos _ (by omega)
      have by' : (y : Int) < m := by rw [hy]; exact Int.emod_lt_of_pos _ (by omega)
      have bz : (z : Int) < m := by rw [hz]; exact Int.emod_lt_of_pos _ (by omega)
      obtain ⟨m, rfl⟩ := Int.eq_ofNat_of_zero_le (show 0 ≤ m by omega)
      have hm3 : (m : Int) ≤ 2305843009213693951 := by unfold Top at hm2; omega
      have hmz : ((m : Int) == 0) = false := by simp; omega
      have hmz2 : (m == 0) = false := by simp; omega
      have HM := Lib.hid hm2
      obtain ⟨o, ho⟩ : ∃ o : Nat, o = 1 % m := ⟨_, rfl⟩
      have eo : (1 : Int) % (m : Int) = (o : Int) := by rw [ho]; rfl
      have bo : (o : Int) < (m : Int) := by rw [ho]; have := Nat.mod_lt 1 (show 0 < m by omega); omega
      have HO := Lib.hid ho
      have lt_of : ∀ (r t : Nat), r = t % m → (r : Int) < (m : Int) := by
        intro r t h; rw [h]; have := Nat.mod_lt t (show 0 < m by omega); omega
      have LT := Lib.hid lt_of
      have h0m : (0 : Nat) < m := by omega
      have H0 := Lib.hid h0m
      clear hx hy hz ho h1 h2 hm2 h0m lt_of
      go_enter Try.func10, Try.ntmps10
      go_wp2_with fail
      refine (awake_c _).mono ?_; rintro e w1 ⟨rfl, q1⟩
      go_wp2_with fail
      refine (r1 _).mono ?_; rintro e w2 ⟨rfl, q2⟩
      go_wp2_with fail
      refine (r2 _).mono ?_; rintro e w3 ⟨rfl, q3⟩
      go_wp2_with fail
      refine (r3 _).mono ?_; rintro e w4 ⟨rfl, q4⟩
      have Q1 := ((q1.trans q2).trans q3).trans q4
      clear q1 q2 q3 q4 r1 r2 r3
      go_wp2_with fail
      refine (Mul_ok x y m _ bx by' HM.out).mono ?_; rintro e w2 ⟨⟨xy, e1, rfl⟩, q1⟩
      go_wp2_with fail
      refine (Mul_ok y x m _ by' bx HM.out).mono ?_; rintro e w3 ⟨⟨yx, e2, rfl⟩, q2⟩
      go_wp2_with fail
      refine (Mul_ok x z m _ bx bz HM.out).mono ?_; rintro e w5 ⟨⟨xz, e3, rfl⟩, q3⟩
      go_wp2_with fail
      refine (Add_ok y z m _ by' bz HM.out).mono ?_; rintro e w6 ⟨⟨yz, e4, rfl⟩, q4⟩
      have Q2 := (((Q1.trans q1).trans q2).trans q3).trans q4
      clear q1 q2 q3 q4 Q1
      have b1 := LT.out _ _ e1.out
      have b3 := LT.out _ _ e3.out
      have b4 := LT.out _ _ e4.out
      have exy : xy = yx := by rw [e1.out, e2.out, Nat.mul_comm]
      subst exy
      clear e2
      go_wp2_with fail
      refine (Mul_ok x yz m _ bx b4 HM.out).mono ?_; rintro e w2 ⟨⟨left, e5, rfl⟩, q1⟩
      go_wp2_with fail
      refine (Add_ok xy xz m _ b1 b3 HM.out).mono ?_; rintro e w3 ⟨⟨right, e6, rfl⟩, q2⟩
      go_wp2_with fail
      refine (Sub_ok yz z m _ b4 bz HM.out).mono ?_; rintro e w5 ⟨⟨back, e7, rfl⟩, q3⟩
      have Q3 := ((Q2.trans q1).trans q2).trans q3
      clear q1 q2 q3 Q2
      have hl := (ring_laws x y z m _ _ _ _ _ _ _ _ _ _ _ H0.out (by omega) (by omega) (by omega) e1.out rfl e3.out e4.out e5.out e6.out e7.out rfl rfl rfl rfl).2
      obtain ⟨hl1, hl2, hl3, _⟩ := hl
      have HL := Lib.hid hl3
      clear hl3
      subst hl1
      have hl2' := hl2.symm
      clear hl2
      subst hl2'
      clear e5 e6 e7
      go_wp2_with fail
      refine (Mul_ok xy z m _ b1 bz HM.out).mono ?_; rintro e w2 ⟨⟨p, e8, rfl⟩, q1⟩
      go_wp2_with fail
      refine (Mul_ok xz _ m _ b3 by' HM.out).mono ?_; rintro e w3 ⟨⟨q, e9, rfl⟩, q2⟩
      go_wp2_with fail
      refine (Mul_ok x o m _ bx bo HM.out).mono ?_; rintro e w5 ⟨⟨one, e10, rfl⟩, q3⟩
      go_wp2_with fail
      refine (Add_ok x 0 m _ bx (by omega) HM.out).mono ?_; rintro e w6 ⟨⟨none, e11, rfl⟩, q4⟩
      have hpq : p = q := e8.out.trans (HL.out.trans e9.out.symm)
      have h1x : one = x := by rw [e10.out, HO.out, Nat.mul_mod_mod, Nat.mul_one, Nat.mod_eq_of_lt (by omega)]
      have h0x : none = x := by rw [e11.out, Nat.add_zero, Nat.mod_eq_of_lt (by omega)]
      subst hpq h1x h0x
      have Q4 := (((Q3.trans q1).trans q2).trans q3).trans q4
      clear q1 q2 q3 q4 Q3 e8 e9 e10 e11 e1 e3 e4
      go_wp2
      go_ret
      exact ⟨by simp, Q4.grown⟩
end Go.Proofs.Ytfhcaedkdjckhaa

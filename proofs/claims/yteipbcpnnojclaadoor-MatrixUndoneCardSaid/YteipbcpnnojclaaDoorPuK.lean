/- Merged: PtS, PtZ, PtP. -/
import Derived.Test.YteipbcpnnojclaaDoorPuD
import Derived.Test.YteipbcpnnojclaaDoorPuE
import Derived.Test.YteipbcpnnojclaaDoorPuG
import Derived.Test.YteipbcpnnojclaaDoorPuH
import Derived.Test.YteipbcpnnojclaaDoorPuI
import Derived.Test.YteipbcpnnojclaaDoorPuJ
/- The strong test below 2^61, plain: no number of two prime factors passes. -/
namespace Go.Proofs.YteipbcpnnojclaaDoor
set_option linter.unusedVariables false
namespace Pt
open QuadMath (Prime)
theorem mcons {a M : Nat} (h : Fam a) (t : ∀ m, a + 1 ≤ m → m < M → Fam m) : ∀ m, a ≤ m → m < M → Fam m := fun m h1 h2 => by
  by_cases e : m = a
  · rw [e]; exact h
  · exact t m (by omega) h2
noncomputable def mloop (m0 n : Nat) : Nat := Nat.rec 1 (fun i ih => Nat.mul (kloop (Nat.add m0 i) (Nat.add (Nat.add m0 i) 1) (Nat.sub (km (Nat.add m0 i)) (Nat.add (Nat.add m0 i) 1))) ih) n
theorem mloop_ok {m0 : Nat} : ∀ n, mloop m0 n = 1 → ∀ m, m0 ≤ m → m < m0 + n → Fam m
  | 0, _, m, h1, h2 => by omega
  | n + 1, h, m, h1, h2 => by
    obtain ⟨h3, h4⟩ := mul_one_iff (show kloop (m0 + n) (m0 + n + 1) (km (m0 + n) - (m0 + n + 1)) * mloop m0 n = 1 from h)
    by_cases e : m = m0 + n
    · subst e
      exact fun k h5 h6 => kloop_ok _ h3 k (by omega) (by omega)
    · exact mloop_ok n h4 m h1 (by omega)
theorem ftail : mloop 80 197 = 1 := by decide +kernel
theorem all_fam : ∀ m, 1 ≤ m → m < 277 → Fam m := mcons f1 (mcons f2 (mcons f3 (mcons f4 (mcons f5 (mcons f6 (mcons f7 (mcons f8 (mcons f9 (mcons f10 (mcons f11 (mcons f12 (mcons f13 (mcons f14 (mcons f15 (mcons f16 (mcons f17 (mcons f18 (mcons f19 (mcons f20 (mcons f21 (mcons f22 (mcons f23 (mcons f24 (mcons f25 (mcons f26 (mcons f27 (mcons f28 (mcons f29 (mcons f30 (mcons f31 (mcons f32 (mcons f33 (mcons f34 (mcons f35 (mcons f36 (mcons f37 (mcons f38 (mcons f39 (mcons f40 (mcons f41 (mcons f42 (mcons f43 (mcons f44 (mcons f45 (mcons f46 (mcons f47 (mcons f48 (mcons f49 (mcons f50 (mcons f51 (mcons f52 (mcons f53 (mcons f54 (mcons f55 (mcons f56 (mcons f57 (mcons f58 (mcons f59 (mcons f60 (mcons f61 (mcons f62 (mcons f63 (mcons f64 (mcons f65 (mcons f66 (mcons f67 (mcons f68 (mcons f69 (mcons f70 (mcons f71 (mcons f72 (mcons f73 (mcons f74 (mcons f75 (mcons f76 (mcons f77 (mcons f78 (mcons f79 (mloop_ok 197 ftail)))))))))))))))))))))))))))))))))))))))))))))))))))))))))))))))))))))))))))))))
theorem no_two {n p q : Nat} (hn : Pass n) (hp : Prime p) (hq : Prime q) (hpq : n = p * q) (hlt : p < q) : False := two_no all_fam hn hp hq hpq hlt
end Pt
end Go.Proofs.YteipbcpnnojclaaDoor

/- The strong test below 2^61, plain: no number of three or more prime factors passes. -/
namespace Go.Proofs.YteipbcpnnojclaaDoor
set_option linter.unusedVariables false
namespace Pt
open QuadMath (Prime)
open WordMath (J swap)
theorem odd4 {P : Nat → Prop} (h1 : P 1) (h3 : P 3) (h5 : P 5) (h7 : P 7) : ∀ e, e % 2 = 1 → e < 8 → P e := fun e a b => by
  have : e = 1 ∨ e = 3 ∨ e = 5 ∨ e = 7 := by omega
  rcases this with r | r | r | r <;> subst r <;> assumption
theorem all_A : ∀ b, 0 ≤ b → b < 227 → A4 b := pjoin (pone (P := A4) (a := 0) (odd4 n0_0_1 n0_0_3 n0_0_5 n0_0_7)) (pjoin (pone (P := A4) (a := 1) (odd4 n0_1_1 n0_1_3 n0_1_5 n0_1_7)) (pjoin (pone (P := A4) (a := 2) (odd4 n0_2_1 n0_2_3 n0_2_5 n0_2_7)) (pjoin (pone (P := A4) (a := 3) (odd4 n0_3_1 n0_3_3 n0_3_5 n0_3_7)) (pjoin (pone (P := A4) (a := 4) (odd4 n0_4_1 n0_4_3 n0_4_5 n0_4_7)) (pjoin (pone (P := A4) (a := 5) (odd4 n0_5_1 n0_5_3 n0_5_5 n0_5_7)) (pjoin (pone (P := A4) (a := 6) (odd4 n0_6_1 n0_6_3 n0_6_5 n0_6_7)) (pjoin (pone (P := A4) (a := 7) (odd4 n0_7_1 n0_7_3 n0_7_5 n0_7_7)) (pjoin (pone (P := A4) (a := 8) (odd4 n0_8_1 n0_8_3 n0_8_5 n0_8_7)) (pjoin (pone (P := A4) (a := 9) (odd4 n0_9_1 n0_9_3 n0_9_5 n0_9_7)) (pjoin (pone (P := A4) (a := 10) (odd4 n0_10_1 n0_10_3 n0_10_5 n0_10_7)) (pjoin (pone (P := A4) (a := 11) (odd4 n0_11_1 n0_11_3 n0_11_5 n0_11_7)) (pjoin (pone (P := A4) (a := 12) (odd4 n0_12_1 n0_12_3 n0_12_5 n0_12_7)) (pjoin (pone (P := A4) (a := 13) (odd4 n0_13_1 n0_13_3 n0_13_5 n0_13_7)) (pjoin (pone (P := A4) (a := 14) (odd4 n0_14_1 n0_14_3 n0_14_5 n0_14_7)) (pjoin (pone (P := A4) (a := 15) (odd4 n0_15_1 n0_15_3 n0_15_5 n0_15_7)) (pjoin (pone (P := A4) (a := 16) (odd4 n0_16_1 n0_16_3 n0_16_5 n0_16_7)) (pjoin (pone (P := A4) (a := 17) (odd4 n0_17_1 n0_17_3 n0_17_5 n0_17_7)) (pjoin (pone (P := A4) (a := 18) (odd4 n0_18_1 n0_18_3 n0_18_5 n0_18_7)) (pjoin (pone (P := A4) (a := 19) (odd4 n0_19_1 n0_19_3 n0_19_5 n0_19_7)) (pjoin (pone (P := A4) (a := 20) (odd4 n0_20_1 n0_20_3 n0_20_5 n0_20_7)) (pjoin (ga21) (pjoin (ga22) (pjoin (ga23) (pjoin (ga24) (pjoin (ga25) (pjoin (ga26) (pjoin (ga27) (pjoin (ga28) (pjoin (ga29) (pjoin (ga30) (pjoin (ga31) (pjoin (ga32) (pjoin (ga33) (pjoin (ga35) (pjoin (ga37) (pjoin (ga39) (pjoin (ga42) (pjoin (ga45) (pjoin (ga49) (pjoin (ga53) (pjoin (ga57) (pjoin (ga61) (pjoin (ga65) (pjoin (ga69) (pjoin (ga73) (pjoin (ga77) (pjoin (ga81) (pjoin (ga85) (pjoin (ga89) (pjoin (ga93) (pjoin (ga97) (pjoin (ga98) (pjoin (ga102) (pjoin (ga106) (pjoin (ga110) (pjoin (ga114) (pjoin (ga118) (pjoin (ga122) (pjoin (ga126) (pjoin (ga130) (pjoin (ga134) (pjoin (ga138) (pjoin (ga142) (pjoin (ga146) (pjoin (ga150) (pjoin (ga154) (pjoin (ga158) (pjoin (ga162) (pjoin (ga166) (pjoin (ga170) (pjoin (ga174) (pjoin (ga178) (pjoin (ga182) (pjoin (ga186) (pjoin (ga190) (pjoin (ga194) (pjoin (ga198) (pjoin (ga202) (pjoin (ga206) (pjoin (ga210) (pjoin (ga214) (pjoin (ga218) (pjoin (ga222) (ga226))))))))))))))))))))))))))))))))))))))))))))))))))))))))))))))))))))))))))))))))))))
theorem all_B : ∀ b, 0 ≤ b → b < 227 → B4 b := pjoin (gb0) (pjoin (pone (P := B4) (a := 1) (odd4 b1_1 b1_3 b1_5 b1_7)) (pjoin (pone (P := B4) (a := 2) (odd4 b2_1 b2_3 b2_5 b2_7)) (pjoin (pone (P := B4) (a := 3) (odd4 b3_1 b3_3 b3_5 b3_7)) (pjoin (pone (P := B4) (a := 4) (odd4 b4_1 b4_3 b4_5 b4_7)) (pjoin (pone (P := B4) (a := 5) (odd4 b5_1 b5_3 b5_5 b5_7)) (pjoin (pone (P := B4) (a := 6) (odd4 b6_1 b6_3 b6_5 b6_7)) (pjoin (pone (P := B4) (a := 7) (odd4 b7_1 b7_3 b7_5 b7_7)) (pjoin (pone (P := B4) (a := 8) (odd4 b8_1 b8_3 b8_5 b8_7)) (pjoin (pone (P := B4) (a := 9) (odd4 b9_1 b9_3 b9_5 b9_7)) (pjoin (pone (P := B4) (a := 10) (odd4 b10_1 b10_3 b10_5 b10_7)) (pjoin (pone (P := B4) (a := 11) (odd4 b11_1 b11_3 b11_5 b11_7)) (pjoin (pone (P := B4) (a := 12) (odd4 b12_1 b12_3 b12_5 b12_7)) (pjoin (pone (P := B4) (a := 13) (odd4 b13_1 b13_3 b13_5 b13_7)) (pjoin (pone (P := B4) (a := 14) (odd4 b14_1 b14_3 b14_5 b14_7)) (pjoin (pone (P := B4) (a := 15) (odd4 b15_1 b15_3 b15_5 b15_7)) (pjoin (pone (P := B4) (a := 16) (odd4 b16_1 b16_3 b16_5 b16_7)) (pjoin (pone (P := B4) (a := 17) (odd4 b17_1 b17_3 b17_5 b17_7)) (pjoin (pone (P := B4) (a := 18) (odd4 b18_1 b18_3 b18_5 b18_7)) (pjoin (pone (P := B4) (a := 19) (odd4 b19_1 b19_3 b19_5 b19_7)) (pjoin (pone (P := B4) (a := 20) (odd4 b20_1 b20_3 b20_5 b20_7)) (pjoin (pone (P := B4) (a := 21) (odd4 b21_1 b21_3 b21_5 b21_7)) (pjoin (pone (P := B4) (a := 22) (odd4 b22_1 b22_3 b22_5 b22_7)) (pjoin (pone (P := B4) (a := 23) (odd4 b23_1 b23_3 b23_5 b23_7)) (pjoin (pone (P := B4) (a := 24) (odd4 b24_1 b24_3 b24_5 b24_7)) (pjoin (gb25) (pjoin (gb31) (pjoin (gb37) (pjoin (gb43) (pjoin (gb49) (pjoin (gb55) (pjoin (gb61) (pjoin (gb67) (pjoin (gb73) (pjoin (gb79) (pjoin (gb85) (pjoin (gb91) (pjoin (gb97) (pjoin (gb98) (pjoin (gb104) (pjoin (gb110) (pjoin (gb116) (pjoin (gb122) (pjoin (gb128) (pjoin (gb134) (pjoin (gb140) (pjoin (gb146) (pjoin (gb152) (pjoin (gb158) (pjoin (gb164) (pjoin (gb170) (pjoin (gb176) (pjoin (gb182) (pjoin (gb188) (pjoin (gb194) (pjoin (gb200) (pjoin (gb206) (pjoin (gb212) (pjoin (gb218) (gb224)))))))))))))))))))))))))))))))))))))))))))))))))))))))))))
theorem one_A : ∀ e, e % 2 = 1 → e < 8 → NoA 1 1 e := odd4 n1_1_1 n1_1_3 n1_1_5 n1_1_7
theorem one_B : ∀ e, e % 2 = 1 → e < 8 → NoB 1 1 e := odd4 c1_1 c1_3 c1_5 c1_7
theorem one_C : ∀ e, e % 2 = 1 → e < 8 → NoC 1 1 e := odd4 d1 d3 d5 d7
theorem low_C : allp (blk 0 1) (pm 0 1) = 1 := by decide +kernel
/-- twos in an even number -/
theorem tz_four {x : Nat} (h0 : 0 < x) (h : x < 2 ^ 64) (he : x % 2 = 0) : (x % 4 = 2 ↔ Pri.tz x = 1) := by
  obtain ⟨e, o⟩ := Pri.tz_spec h0 h
  generalize Pri.od x = d at *
  generalize Pri.tz x = t at *
  constructor
  · intro h4
    rcases t with _ | _ | t
    · rw [Nat.pow_zero, Nat.mul_one] at e; omega
    · rfl
    · rw [Nat.pow_succ, Nat.pow_succ] at e
      have : x = 4 * (d * 2 ^ t) := by rw [e]; grind
      omega
  · intro ht
    subst ht
    rw [Nat.pow_one] at e
    omega
theorem no_three {n p q m : Nat} (h : Trip n p q m) : False := by
  have hp := h.two.hp
  have hq := h.two.hq
  have hn := h.two.pass
  have pd := h.two.pd
  have qd := h.two.qd
  have p41 := hn.big p hp pd
  have q41 := hn.big q hq qd
  have po := hn.po hp pd
  have qo := hn.po hq qd
  have plt := h.p_lt
  have pq := h.two.lt
  have hlt := h.lt
  have q28 : q < 237149898 := by
    apply Classical.byContradiction
    intro hc
    have h1 : 41 * 237149898 * 237149898 ≤ p * q * q := Nat.mul_le_mul (Nat.mul_le_mul p41 (by omega)) (by omega)
    omega
  have b1 : p / 1048576 = 0 ∨ (p / 1048576 = 1 ∧ q / 1048576 = 1) := by
    by_cases hc : p < 1048576
    · exact Or.inl (by omega)
    · right
      have : q < 2097152 := by
        apply Classical.byContradiction
        intro hc2
        have h1 : 1048576 * 2097152 * 2097152 ≤ p * q * q := Nat.mul_le_mul (Nat.mul_le_mul (by omega) (by omega)) (by omega)
        omega
      omega
  have hb : q / 1048576 < 227 := by omega
  have p4 := tz_four (x := p - 1) (by omega) (by omega) (by omega)
  have q4 := tz_four (x := q - 1) (by omega) (by omega) (by omega)
  by_cases hl : Low n p
  · rcases Nat.lt_or_ge (Pri.tz (p - 1)) (Pri.tz (q - 1)) with htz | htz
    · have hJ := fun a ha => (hn.sym (a := a) hp pd hq qd ha).2 htz
      have tp : 1 ≤ Pri.tz (p - 1) := by
        apply Classical.byContradiction
        intro hc
        obtain ⟨e, o⟩ := Pri.tz_spec (n := p - 1) (by omega) (by omega)
        rw [show Pri.tz (p - 1) = 0 by omega, Nat.pow_zero, Nat.mul_one] at e
        omega
      have q41' : q % 4 = 1 := by
        by_cases hc : (q - 1) % 4 = 2
        · have := q4.1 hc; omega
        · omega
      have q8 : q % 8 = 1 := by
        have h2 := hJ 2 (by decide)
        rw [J_two qo] at h2
        unfold WordMath.two at h2
        by_cases hc : q % 8 = 3 ∨ q % 8 = 5
        · rw [if_pos hc] at h2; cases h2
        · omega
      have hs : ∀ a ∈ Pri.bases, a ≠ 2 → J (q % a) a = 1 := fun a ha h2 => sym_one ha h2 hq qo (by omega) q41' (hJ a ha)
      rcases b1 with b | ⟨b, b'⟩
      · exact all_B _ (Nat.zero_le _) hb (p % 8) (by omega) (by omega) n p q m h hl b rfl rfl q8 hs
      · exact one_B (p % 8) (by omega) (by omega) n p q m h hl b b' rfl q8 hs
    · have hle := hl q hq qd
      have heq : Pri.tz (p - 1) = Pri.tz (q - 1) := by omega
      have hJ := fun a ha => (hn.sym (a := a) hp pd hq qd ha).1 heq
      have m4 : p % 4 = q % 4 := by
        have : (p - 1) % 4 = 2 ↔ (q - 1) % 4 = 2 := by rw [p4, q4, heq]
        omega
      have m8 : p % 8 = q % 8 := by
        have h2 := hJ 2 (by decide)
        rw [J_two po, J_two qo] at h2
        unfold WordMath.two at h2
        by_cases hc : p % 8 = 3 ∨ p % 8 = 5 <;> by_cases hd : q % 8 = 3 ∨ q % 8 = 5
        · omega
        · rw [if_pos hc, if_neg hd] at h2; cases h2
        · rw [if_neg hc, if_pos hd] at h2; cases h2
        · omega
      have hs : ∀ a ∈ Pri.bases, a ≠ 2 → J (p % a) a = J (q % a) a := fun a ha h2 => sym_eq ha h2 hp po (by omega) hq qo (by omega) m4 (hJ a ha)
      rcases b1 with b | ⟨b, b'⟩
      · exact all_A _ (Nat.zero_le _) hb (p % 8) (by omega) (by omega) n p q m h hl b rfl rfl m8.symm hs
      · exact one_A (p % 8) (by omega) (by omega) n p q m h hl b b' rfl m8.symm hs
  · obtain ⟨r, hr⟩ := Classical.not_forall.1 hl
    obtain ⟨hrp, hr2⟩ := Classical.not_imp.1 hr
    obtain ⟨rd, hr3⟩ := Classical.not_imp.1 hr2
    have htz : Pri.tz (r - 1) < Pri.tz (p - 1) := by omega
    have hJ := fun a ha => (hn.sym (a := a) hrp rd hp pd ha).2 htz
    have r41 := hn.big r hrp rd
    have ro := hn.po hrp rd
    have rle := Nat.le_of_dvd (by have := hn.two; omega) rd
    have nl := hn.lt
    have tr : 1 ≤ Pri.tz (r - 1) := by
      apply Classical.byContradiction
      intro hc
      obtain ⟨e, o⟩ := Pri.tz_spec (n := r - 1) (by omega) (by omega)
      rw [show Pri.tz (r - 1) = 0 by omega, Nat.pow_zero, Nat.mul_one] at e
      omega
    have p41' : p % 4 = 1 := by
      by_cases hc : (p - 1) % 4 = 2
      · have := p4.1 hc; omega
      · omega
    have p8 : p % 8 = 1 := by
      have h2 := hJ 2 (by decide)
      rw [J_two po] at h2
      unfold WordMath.two at h2
      by_cases hc : p % 8 = 3 ∨ p % 8 = 5
      · rw [if_pos hc] at h2; cases h2
      · omega
    have hs : ∀ a ∈ Pri.bases, a ≠ 2 → J (p % a) a = 1 := fun a ha h2 => sym_one ha h2 hp po (by omega) p41' (hJ a ha)
    rcases b1 with b | ⟨b, b'⟩
    · obtain ⟨e1, e2⟩ := place b p8
      have h1 := allp_ok (pm_ok hp p41 (by decide) e2 e1) e2 (fun a ha h2 => by rw [← e1]; exact hs a ha h2)
      rw [low_C] at h1
      have h3 : p % 1048576 / 8 = 0 := by
        apply Classical.byContradiction
        intro hi
        rw [Nat.testBit_lt_two_pow (Nat.one_lt_two_pow hi)] at h1; cases h1
      omega
    · exact one_C (q % 8) (by omega) (by omega) n p q m h b b' p8 rfl hs
end Pt
end Go.Proofs.YteipbcpnnojclaaDoor

/- The test for primes with the twelve bases up to 37 is right below 2^61. Plain. -/
namespace Go.Proofs.YteipbcpnnojclaaDoor
set_option linter.unusedVariables false
namespace Pt
open QuadMath (Prime)
/-! ### a prime passes -/
theorem sqrt_one {p x : Nat} (hp : Prime p) (hx : x < p) (h : x * x % p = 1) : x = 1 ∨ x = p - 1 := by
  have h2 := hp.1
  have h0 : x ≠ 0 := by rintro rfl; simp at h
  by_cases h1 : x = 1
  · exact Or.inl h1
  right
  have hd : p ∣ x * x - 1 := Nat.dvd_of_mod_eq_zero (Nat.sub_mod_eq_zero_of_mod_eq (by rw [h, Nat.mod_eq_of_lt (by omega)]))
  have he : x * x - 1 = (x - 1) * (x + 1) := by
    obtain ⟨k, rfl⟩ : ∃ k, x = k + 1 := ⟨x - 1, by omega⟩
    rw [show k + 1 - 1 = k by omega, show (k + 1) * (k + 1) = k * (k + 1 + 1) + 1 by grind]; omega
  rw [he] at hd
  have hc : Nat.Coprime (x - 1) p := hp.cop (by omega) (by omega)
  have := Nat.le_of_dvd (by omega) ((Nat.Coprime.symm hc).dvd_of_dvd_mul_left hd)
  omega
theorem sq_pow (x n k : Nat) : (x * x % n) ^ 2 ^ k % n = x ^ 2 ^ (k + 1) % n := by
  rw [← Nat.pow_mod, show x * x = x ^ 2 by rw [Nat.pow_two], ← Nat.pow_mul, show 2 * 2 ^ k = 2 ^ (k + 1) by rw [Nat.pow_succ, Nat.mul_comm]]
theorem chain {p : Nat} (hp : Prime p) : ∀ k x, x < p → x ^ 2 ^ k % p = 1 → x = 1 ∨ x = p - 1 ∨ Pri.hits p (k - 1) x = true
  | 0, x, hx, h => by rw [Nat.pow_zero, Nat.pow_one, Nat.mod_eq_of_lt hx] at h; exact Or.inl h
  | 1, x, hx, h => by
    rw [Nat.pow_one, Nat.pow_two] at h
    rcases sqrt_one hp hx h with e | e
    · exact Or.inl e
    · exact Or.inr (Or.inl e)
  | k + 2, x, hx, h => by
    have hy : x * x % p < p := Nat.mod_lt _ (by omega)
    rcases chain hp (k + 1) (x * x % p) hy (by rw [sq_pow]; exact h) with e | e | e
    · rcases sqrt_one hp hx e with e | e
      · exact Or.inl e
      · exact Or.inr (Or.inl e)
    · right; right
      show Pri.hits p (k + 1) x = true
      unfold Pri.hits; rw [e]; simp
    · right; right
      show Pri.hits p (k + 1) x = true
      unfold Pri.hits
      rw [show Pri.hits p k (x * x % p) = true from e, Bool.or_true]
theorem strong_prime {p a : Nat} (hp : Prime p) (ho : p % 2 = 1) (h64 : p < 2 ^ 64) (h0 : 0 < a) (ha : a < p) : Pri.strong p a = true := by
  have h2 := hp.1
  obtain ⟨t1, -⟩ := Pri.tz_spec (n := p - 1) (by omega) (by omega)
  have hx : a ^ Pri.od (p - 1) % p < p := Nat.mod_lt _ (by omega)
  have hf : (a ^ Pri.od (p - 1) % p) ^ 2 ^ Pri.tz (p - 1) % p = 1 := by
    rw [← Nat.pow_mod, ← Nat.pow_mul, ← t1]; exact fermat hp ho h0 ha
  unfold Pri.strong
  rcases chain hp _ _ hx hf with e | e | e
  · rw [e]; rfl
  · rw [e]; simp
  · rw [e]; simp
theorem sieve_some {n : Nat} {b : Bool} : ∀ {l : List Nat}, Pri.sieve n l = some b → ∃ q, q ∈ l ∧ n % q = 0 ∧ b = (n == q)
  | [], h => by cases h
  | p :: l, h => by
    unfold Pri.sieve at h
    split at h
    · next hp => cases h; exact ⟨p, List.mem_cons_self, hp, rfl⟩
    · obtain ⟨q, hq, h1, h2⟩ := sieve_some h
      exact ⟨q, List.mem_cons_of_mem _ hq, h1, h2⟩
theorem isP_some {m : Nat} {b : Bool} (h2 : 2 ≤ m) (h : Pri.sieve m Pri.bases = some b) : Pri.isP m = b := by unfold Pri.isP; rw [if_neg (by omega), h]
theorem isP_none {m : Nat} (h2 : 2 ≤ m) (h : Pri.sieve m Pri.bases = none) : Pri.isP m = Pri.bases.all (Pri.strong m) := by unfold Pri.isP; rw [if_neg (by omega), h]
theorem prime_isP {p : Nat} (hp : Prime p) (h64 : p < 2 ^ 64) : Pri.isP p = true := by
  have h2 := hp.1
  cases hs : Pri.sieve p Pri.bases with
  | some b =>
    obtain ⟨q, hq, h1, h3⟩ := sieve_some hs
    rw [isP_some h2 hs, h3]
    rcases hp.2 q (Nat.dvd_of_mod_eq_zero h1) with e | e
    · have := (bases_prime q hq).1; omega
    · rw [e]; simp
  | none =>
    obtain ⟨hb, ho⟩ := Pri.sieve_big h2 hs
    rw [isP_none h2 hs, List.all_eq_true]
    intro a ha
    have := bases_lt a ha
    exact strong_prime hp ho h64 (by omega) (by omega)
/-! ### a number that passes is a prime -/
theorem nosq {n r : Nat} (hn : Pass n) (hr : Prime r) (hd : r * r ∣ n) : False := by
  have n2 := hn.two
  have nl := hn.lt
  have rd : r ∣ n := Nat.dvd_trans (Nat.dvd_mul_right r r) hd
  have r41 := hn.big r hr rd
  have hle := Nat.le_of_dvd (by omega) hd
  have r31 : r < 2 ^ 31 := by
    apply Classical.byContradiction
    intro h
    have := Nat.mul_le_mul (show 2 ^ 31 ≤ r by omega) (show 2 ^ 31 ≤ r by omega)
    omega
  have hrr : 1 < r * r := by have := Nat.mul_le_mul r41 r41; omega
  refine no_square hr (by omega) r31 (E := n - 1) (fun h => ?_) (by omega) (by have := hn.odd; omega) (fun a ha => ?_)
  · have h6 : r ∣ n - (n - 1) := Nat.dvd_sub rd h
    have := Nat.le_of_dvd (by omega) h6
    omega
  · exact mod_dvd_one hrr hd (strong_fermat n2 hn.odd (by omega) (hn.st a ha))
theorem pass_prime {n : Nat} (hn : Pass n) : Prime n := by
  apply Classical.byContradiction
  intro hc
  have n2 := hn.two
  obtain ⟨p, hp, pd, pl⟩ := least_prime n2
  have p2 := hp.1
  obtain ⟨s, hs⟩ := pd
  have pd : p ∣ n := ⟨s, hs⟩
  have s2 : 2 ≤ s := by
    apply Classical.byContradiction
    intro h
    have : s = 0 ∨ s = 1 := by omega
    rcases this with e | e
    · rw [e] at hs; omega
    · rw [e, Nat.mul_one] at hs
      exact hc (hs ▸ hp)
  obtain ⟨q, hq, qs, ql⟩ := least_prime s2
  have q2 := hq.1
  have sn : s ∣ n := ⟨p, by rw [hs, Nat.mul_comm]⟩
  have qd := Nat.dvd_trans qs sn
  obtain ⟨m, hm⟩ := qs
  have qs : q ∣ s := ⟨m, hm⟩
  have hpq : p < q := by
    have := pl q hq qd
    by_cases e : p = q
    · exfalso
      refine nosq hn hp ?_
      rw [hs]
      exact Nat.mul_dvd_mul_left p (e ▸ qs)
    · omega
  have hnm : n = p * q * m := by rw [hs, hm, Nat.mul_assoc]
  have m0 : 0 < m := Nat.pos_of_ne_zero (by rintro rfl; omega)
  by_cases m1 : m = 1
  · rw [m1, Nat.mul_one] at hnm
    exact no_two hn hp hq hnm hpq
  obtain ⟨r, hr, rm⟩ := has_prime m (by omega)
  have rs : r ∣ s := by rw [hm]; exact Nat.dvd_trans rm (Nat.dvd_mul_left m q)
  have h1 := ql r hr rs
  have h2 := Nat.le_of_dvd m0 rm
  have hqr : q ≠ r := by
    intro e
    refine nosq hn hq ?_
    refine Nat.dvd_trans ?_ sn
    rw [hm]
    exact Nat.mul_dvd_mul_left q (e ▸ rm)
  exact no_three ⟨⟨hn, hnm, hp, hq, hpq, m0⟩, by omega⟩
/-- the test is right below 2^61 -/
theorem isP61 {n : Nat} (h : n < 2305843009213693952) : Pri.isP n = true ↔ Prime n := by
  refine ⟨fun hP => ?_, fun hp => prime_isP hp (by omega)⟩
  have h2 : 2 ≤ n := by
    apply Classical.byContradiction
    intro hc
    unfold Pri.isP at hP
    rw [if_pos (by omega)] at hP; cases hP
  cases hs : Pri.sieve n Pri.bases with
  | some b =>
    obtain ⟨q, hq, h1, h3⟩ := sieve_some hs
    rw [isP_some h2 hs, h3] at hP
    rw [eq_of_beq hP]; exact bases_prime q hq
  | none =>
    obtain ⟨hb, ho⟩ := Pri.sieve_big h2 hs
    rw [isP_none h2 hs, List.all_eq_true] at hP
    refine pass_prime ⟨ho, h, h2, hP, fun p hp hd => ?_⟩
    apply Classical.byContradiction
    intro hc
    have h3 := lev41.all p hp (by omega)
    exact Pri.sieve_none hs p ((by decide : ∀ r ∈ l41, r ∈ Pri.bases) p h3) (Nat.mod_eq_zero_of_dvd hd)
end Pt
end Go.Proofs.YteipbcpnnojclaaDoor

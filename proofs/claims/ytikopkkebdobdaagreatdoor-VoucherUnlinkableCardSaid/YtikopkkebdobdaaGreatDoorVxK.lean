/- Picked declarations of VoC, VoK, VoE. -/
import Derived.Test.YtikopkkebdobdaaGreatDoorVxU
import Derived.Test.YtikopkkebdobdaaGreatDoorVxN
import Derived.Test.YtikopkkebdobdaaGreatDoorVxG
namespace Go.Proofs.YtikopkkebdobdaaGreatDoor
set_option linter.unusedVariables false
set_option linter.unusedSimpArgs false
open Go.RowKit
/-- a key, as both texts ask for it -/
def kV (lN lE : List Nat) : Bool := [lN, lE].all Nn.vld && (decide (Nn.NatMath.bl (Nn.NatMath.val lN) ≤ 512) && (!decide (Nn.NatMath.val lN < 15) && (!decide (Nn.NatMath.val lE < 3) && decide (Nn.NatMath.val lE < Nn.NatMath.val lN))))
structure Key (N E : Nat) : Prop where
 vN : Nn.vld (Nn.NatMath.digs N) = true
 vE : Nn.vld (Nn.NatMath.digs E) = true
 lN : Nn.NatMath.len N ≤ 32
 lE : Nn.NatMath.len E ≤ 32
 n15 : 15 ≤ N
 e3 : 3 ≤ E
 eN : E < N
 k : kV (Nn.NatMath.digs N) (Nn.NatMath.digs E) = true
theorem all2 {a b : List Nat} {t : Bool} (h : [a, b].all Nn.vld = t) : (Nn.vld a && Nn.vld b) = t := by rw [← h]; simp
section
variable {w : World} {a b : Value} {lN lE : List Nat} {t : Bool}
theorem Key.of (ha : Nn.Sl w a lN) (hb : Nn.Sl w b lE) (h : kV lN lE = true) : ∃ N E, lN = Nn.NatMath.digs N ∧ lE = Nn.NatMath.digs E ∧ Key N E := by
 have h0 := h
 unfold kV at h
 simp only [Bool.and_eq_true, Bool.not_eq_true', decide_eq_true_eq, decide_eq_false_iff_not] at h
 obtain ⟨h1, h2, h3, h4, h5⟩ := h
 have h1' := all2 h1
 rw [Bool.and_eq_true] at h1'
 obtain ⟨N, rfl, hl, hN⟩ := Nn.nt_of ha h1'.1
 obtain ⟨E, rfl, hl2, hE⟩ := Nn.nt_of hb h1'.2
 rw [Nn.NatMath.val_digs] at h2 h3 h5
 rw [Nn.NatMath.val_digs] at h4 h5
 have h6 : Nn.NatMath.len N ≤ 32 := Nn.NatMath.len_le_bits.1 (by omega)
 exact ⟨N, E, rfl, rfl, h1'.1, h1'.2, h6, Nat.le_trans (Nn.NatMath.len_mono (Nat.le_of_lt h5)) h6, by omega, by omega, h5, h0⟩
theorem vKey_c (ht : kV lN lE = t) (ha : Nn.Sl w a lN) (hb : Nn.Sl w b lE) :
  Calls Tryz.prog 33 #[.agg #[a, b]] w fun e w' => e = .returned (.bool t) ∧ Below w.heap.size w w' := by
 have ha0 := ha
 have hb0 := hb
 obtain ⟨ao, ca, rfl, _⟩ := ha0
 obtain ⟨bo, cb, rfl, _⟩ := hb0
 cases hv : [lN, lE].all Nn.vld with
 | false =>
  have : t = false := by rw [← ht]; unfold kV; rw [hv]; rfl
  subst this
  exact Valid_1 lN lE ha hb hv
 | true =>
  have h1' := all2 hv
  rw [Bool.and_eq_true] at h1'
  obtain ⟨N, rfl, hl, hN⟩ := Nn.nt_of ha h1'.1
  obtain ⟨E, rfl, hl2, hE⟩ := Nn.nt_of hb h1'.2
  unfold kV at ht
  rw [hv, Nn.NatMath.val_digs, Nn.NatMath.val_digs, Bool.true_and] at ht
  by_cases h2 : Nn.NatMath.bl N ≤ 512
  ·rw [decide_eq_true h2, Bool.true_and] at ht
   cases h3 : decide (N < 15) with
   | true => rw [h3] at ht; subst ht; exact Valid_3 N E ha hb hl hl2 hv h2 h3
   | false =>
    rw [h3, Bool.not_false, Bool.true_and] at ht
    cases h4 : decide (E < 3) with
    | true => rw [h4] at ht; subst ht; exact Valid_4 N E ha hb hl hl2 hv h2 h3 h4
    | false =>
     rw [h4, Bool.not_false, Bool.true_and] at ht
     cases h5 : decide (E < N) with
     | true => rw [h5] at ht; subst ht; exact Valid_6 N E ha hb hl hl2 hv h2 h3 h4 h5
     | false => rw [h5] at ht; subst ht; exact Valid_5 N E ha hb hl hl2 hv h2 h3 h4 h5
  ·rw [decide_eq_false h2, Bool.false_and] at ht
   subst ht
   exact Valid_2 N E ha hb hl hl2 hv h2
theorem rKey_c (ht : kV lN lE = t) (ha : Nn.Sl w a lN) (hb : Nn.Sl w b lE) :
  Calls Tryz.prog 16 #[.agg #[a, b]] w fun e w' => e = .returned (.bool t) ∧ Below w.heap.size w w' := by
 have ha0 := ha
 have hb0 := hb
 obtain ⟨ao, ca, rfl, _⟩ := ha0
 obtain ⟨bo, cb, rfl, _⟩ := hb0
 cases hv : [lN, lE].all Nn.vld with
 | false =>
  have : t = false := by rw [← ht]; unfold kV; rw [hv]; rfl
  subst this
  have h1' := all2 hv
  cases h1 : Nn.vld lN with
  | false => exact rValid_1 lN lE ha hb h1
  | true => rw [h1, Bool.true_and] at h1'; exact rValid_1b lN lE ha hb h1 h1'
 | true =>
  have h1' := all2 hv
  rw [Bool.and_eq_true] at h1'
  obtain ⟨N, rfl, hl, hN⟩ := Nn.nt_of ha h1'.1
  obtain ⟨E, rfl, hl2, hE⟩ := Nn.nt_of hb h1'.2
  obtain ⟨hu1, hu2⟩ := h1'
  unfold kV at ht
  rw [hv, Nn.NatMath.val_digs, Nn.NatMath.val_digs, Bool.true_and] at ht
  cases h3 : decide (N < 15) with
  | true =>
   have : t = false := by rw [← ht, h3]; simp
   subst this
   exact rValid_3 N E ha hb hl hu1 hu2 h3
  | false =>
   rw [h3, Bool.not_false, Bool.true_and] at ht
   by_cases h2 : Nn.NatMath.bl N ≤ 512
   ·rw [decide_eq_true h2, Bool.true_and] at ht
    cases h4 : decide (E < 3) with
    | true => rw [h4] at ht; subst ht; exact rValid_4 N E ha hb hl hu1 hu2 h3 h2 h4
    | false =>
     rw [h4, Bool.not_false, Bool.true_and] at ht
     cases h5 : decide (E < N) with
     | true => rw [h5] at ht; subst ht; exact rValid_6 N E ha hb hl hu1 hu2 h3 h2 h4 h5
     | false => rw [h5] at ht; subst ht; exact rValid_5 N E ha hb hl hu1 hu2 h3 h2 h4 h5
   ·rw [decide_eq_false h2, Bool.false_and] at ht
    subst ht
    exact rValid_2 N E ha hb hl hu1 hu2 h3 h2
end
theorem cmp_ne {N M : Nat} {c : Int} {t : Bool} (hc : Nn.NatMath.cmp N M = c) (ht : decide (N = M) = t) : (c != 0) = !t := by rw [← hc, ← ht, ← Nn.NatMath.cmp_zero_iff]; rfl
theorem len_zero_beq {N : Nat} (h : N ≠ 0) : (((Nn.NatMath.len N : Nat) : Int) == 0) = false ∧ (Nn.NatMath.len N == 0) = false := by
 have h1 : Nn.NatMath.len N ≠ 0 := fun e => h (Nn.NatMath.len_eq_zero.1 e)
 exact ⟨by rw [beq_eq_false_iff_ne]; omega, by rw [beq_eq_false_iff_ne]; omega⟩
set_option maxRecDepth 100000 in
set_option maxHeartbeats 4000000 in
theorem Factor_7 (N E B X T : Nat) {na ea ba sa ta : Option Addr} {nk ek bk sk tk : Nat} {w : World} (hN : Nn.Sl w (.slice na (Nn.NatMath.len N) nk) (Nn.NatMath.digs N)) (hE : Nn.Sl w (.slice ea (Nn.NatMath.len E) ek) (Nn.NatMath.digs E)) (hB : Nn.Sl w (.slice ba (Nn.NatMath.len B) bk) (Nn.NatMath.digs B)) (hS : Nn.Sl w (.slice sa (Nn.NatMath.len X) sk) (Nn.NatMath.digs X)) (hT : Nn.Sl w (.slice ta (Nn.NatMath.len T) tk) (Nn.NatMath.digs T)) (HK0 : Key N E) (hv0 : [Nn.NatMath.digs B, Nn.NatMath.digs X, Nn.NatMath.digs T].all Nn.vld = true) (lB0 : Nn.NatMath.len B ≤ 64) (lX0 : Nn.NatMath.len X ≤ 64) (lT0 : Nn.NatMath.len T ≤ 64) (h10 : decide (B < N) = true) (h20 : decide (X < N) = true) (h30 : decide (T < N) = true) {r1 : Nat} (hp0 : X ^ E % N = r1) (hq0 : decide (r1 = B) = true) {v r2 : Nat} (hz : T ≠ 0) (hg0 : decide (Nn.NatMath.invG T N = 1) = true) (hV0 : Nn.NatMath.invV T N = v) (hr0 : X * v % N = r2) :
  Calls Tryz.prog 10 #[.agg #[.slice na (Nn.NatMath.len N) nk, .slice ea (Nn.NatMath.len E) ek], .agg #[.slice ba (Nn.NatMath.len B) bk], .agg #[.slice sa (Nn.NatMath.len X) sk], .agg #[.slice ta (Nn.NatMath.len T) tk]] w fun e w' => Nn.ResN r2 0 e w' ∧ Below w.heap.size w w' := by
 have E0 := Zh ((((((Env.start (fun _ => True) w).argS hN).argS hE).argS hB).argS hS).argS hT)
 clear hN hE hB hS hT
 go_enter Tryz.func10, Tryz.ntmps10
 have HK := Zh HK0
 have hv := Zh hv0
 have lB := Zh lB0
 have lX := Zh lX0
 have lT := Zh lT0
 have h1 := Zh h10
 have h2 := Zh h20
 have h3 := Zh h30
 have hp := Zh hp0
 have hq := Zh hq0
 have hg := Zh hg0
 have hV := Zh hV0
 have hr := Zh hr0
 clear HK0 hv0 lB0 lX0 lT0 h10 h20 h30 hp0 hq0 hg0 hV0 hr0
 obtain ⟨z1, z2⟩ := len_zero_beq hz
 clear hz
 have HVN : Hid (v < N) := Zh (by rw [← hV.out]; exact Nn.NatMath.invV_lt (by have := HK.out.n15; omega))
 have HX := Zh (of_decide_eq_true h2.out)
 have HT := Zh (of_decide_eq_true h3.out)
 have lR : Hid (Nn.NatMath.len r1 ≤ 64) := Zh (by rw [← hp.out]; exact Nat.le_trans (Nn.NatMath.len_mono (Nat.le_of_lt (Nat.mod_lt _ (by have := HK.out.n15; omega)))) (Nat.le_trans HK.out.lN (by omega)))
 have lN := Zh (Nat.le_trans HK.out.lN (by omega : 32 ≤ 64))
 have E1 := Zh ((((((E0.out.push 26 [.slice na (Nn.NatMath.len N) nk, .slice ea (Nn.NatMath.len E) ek] (w.heap.size) (by simp)).push 24 [.slice ba (Nn.NatMath.len B) bk] (w.heap.size + 1) (by simp)).push 24 [.slice sa (Nn.NatMath.len X) sk] (w.heap.size + 1 + 1) (by simp)).push 24 [.slice ta (Nn.NatMath.len T) tk] (w.heap.size + 1 + 1 + 1) (by simp)).push 24 [.slice none 0 0] (w.heap.size + 1 + 1 + 1 + 1) (by simp)))
 go_wp2_with fail
 refine (vKey_c HK.out.k (gS.sl (E1.out.fc 4 rfl)) (gS.sl (E1.out.fc 3 rfl))).mono ?_
 rintro e w1 ⟨rfl, hb⟩
 have E2 := Zh (E1.out.below hb)
 clear E0 E1 hb
 have b1 := E2.out.bx 3 rfl
 have c1_0 := b1.cell 0 rfl
 clear b1
 have b2 := E2.out.bx 2 rfl
 have c2_0 := b2.cell 0 rfl
 clear b2
 have b3 := E2.out.bx 1 rfl
 have c3_0 := b3.cell 0 rfl
 clear b3
 have E3 := Zh ((E2.out.push 24 [.slice ba (Nn.NatMath.len B) bk, .slice sa (Nn.NatMath.len X) sk, .slice ta (Nn.NatMath.len T) tk] (w1.heap.size) (by simp)))
 go_wp2_with fail
 refine (valid_c [(Nn.NatMath.digs B), (Nn.NatMath.digs X), (Nn.NatMath.digs T)] (xb := w1.heap.size) (xo := 0) (xk := 3) (gNs.box (E3.out.bx 0 rfl) ⟨(gS.sl (E3.out.fc 2 rfl)), ⟨(gS.sl (E3.out.fc 1 rfl)), ⟨(gS.sl (E3.out.fc 0 rfl)), trivial⟩⟩⟩) (t := true) hv.out (by simp)).mono ?_
 rintro e w2 ⟨rfl, hb⟩
 have E4 := Zh (E3.out.below hb)
 clear c1_0 c2_0 c3_0 E2 E3 hb
 have b4 := E4.out.bx 4 rfl
 have c4_0 := b4.cell 0 rfl
 clear b4
 have b5 := E4.out.bx 5 rfl
 have c5_0 := b5.cell 0 rfl
 clear b5
 go_wp2_with fail
 refine (vbelow_c h1.out lB.out lN.out (gS.sl (E4.out.fc 2 rfl)) (gS.sl (E4.out.fc 4 rfl))).mono ?_
 rintro e w3 ⟨rfl, hb⟩
 have E5 := Zh (E4.out.below hb)
 clear c4_0 c5_0 E4 hb
 have b6 := E5.out.bx 3 rfl
 have c6_0 := b6.cell 0 rfl
 clear b6
 have b7 := E5.out.bx 5 rfl
 have c7_0 := b7.cell 0 rfl
 clear b7
 go_wp2_with fail
 refine (vbelow_c h2.out lX.out lN.out (gS.sl (E5.out.fc 1 rfl)) (gS.sl (E5.out.fc 4 rfl))).mono ?_
 rintro e w4 ⟨rfl, hb⟩
 have E6 := Zh (E5.out.below hb)
 clear c6_0 c7_0 E5 hb
 have b8 := E6.out.bx 2 rfl
 have c8_0 := b8.cell 0 rfl
 clear b8
 have b9 := E6.out.bx 5 rfl
 have c9_0 := b9.cell 0 rfl
 clear b9
 go_wp2_with fail
 refine (vbelow_c h3.out lT.out lN.out (gS.sl (E6.out.fc 0 rfl)) (gS.sl (E6.out.fc 4 rfl))).mono ?_
 rintro e w5 ⟨rfl, hb⟩
 have E7 := Zh (E6.out.below hb)
 clear c8_0 c9_0 E6 hb
 have b10 := E7.out.bx 3 rfl
 have c10_0 := b10.cell 0 rfl
 clear b10
 have b11 := E7.out.bx 5 rfl
 have c11_1 := b11.cell 1 rfl
 clear b11
 have b12 := E7.out.bx 5 rfl
 have c12_0 := b12.cell 0 rfl
 clear b12
 go_wp2_with fail
 refine (Nn.pow_m hp.out (Nat.le_trans HK.out.lE (by omega)) HX.out HK.out.lN (gS.sl (E7.out.fc 1 rfl)) (gS.sl (E7.out.fc 3 rfl)) (gS.sl (E7.out.fc 4 rfl))).mono ?_
 rintro e w6 ⟨⟨ra, rk, rfl, rh⟩, hb⟩
 have E8 := Zh ((E7.out.below hb).noteS rh.out rfl)
 clear c10_0 c11_1 c12_0 E7 hb rh
 obtain ⟨c, hc⟩ : ∃ c, Nn.NatMath.cmp r1 B = c := ⟨_, rfl⟩
 have HC := Zh hc
 have t1 := cmp_ne hc hq.out
 have t2 : (c != 0) = false := t1
 clear hc t1
 have E9 := Zh ((E8.out.push 24 [.slice ra (Nn.NatMath.len r1) rk] (w6.heap.size) (by simp)))
 have b13 := E9.out.bx 5 rfl
 have c13_0 := b13.cell 0 rfl
 clear b13
 go_wp2_with fail
 refine (Nn.compareF HC.out (gS.sl (E9.out.fc 0 rfl)) (gS.sl (E9.out.fc 3 rfl)) lR.out lB.out).mono ?_
 rintro e w7 ⟨rfl, hb⟩
 have E10 := Zh (E9.out.below hb)
 clear c13_0 E8 E9 hb
 have b14 := E10.out.bx 3 rfl
 have c14_0 := b14.cell 0 rfl
 clear b14
 have b15 := E10.out.bx 6 rfl
 have c15_0 := b15.cell 0 rfl
 clear b15
 go_wp2_with fail
 refine (Nn.inv_m hV.out hg.out HT.out HK.out.lN (gS.sl (E10.out.fc 1 rfl)) (gS.sl (E10.out.fc 5 rfl))).mono ?_
 rintro e w8 ⟨⟨ia, ik, rfl, ih⟩, hb⟩
 have E11 := Zh ((E10.out.below hb).noteS ih.out rfl)
 clear c14_0 c15_0 E10 hb ih
 have E12 := Zh ((E11.out.push 24 [.slice ia (Nn.NatMath.len v) ik] (w8.heap.size) (by simp)))
 have b16 := E12.out.bx 5 rfl
 have c16_0 := b16.cell 0 rfl
 clear b16
 have b17 := E12.out.bx 0 rfl
 have c17_0 := b17.cell 0 rfl
 clear b17
 have b18 := E12.out.bx 7 rfl
 have c18_0 := b18.cell 0 rfl
 clear b18
 go_wp2_with fail
 refine (Nn.Mul_m hr.out HX.out HVN.out HK.out.lN (gS.sl (E12.out.fc 3 rfl)) (gS.sl (E12.out.fc 0 rfl)) (gS.sl (E12.out.fc 6 rfl))).mono ?_
 rintro e w9 ⟨⟨oa, ok, rfl, oh⟩, hb⟩
 have E13 := Zh ((E12.out.below hb).noteS oh.out rfl)
 clear c16_0 c17_0 c18_0 E11 E12 hb oh
 have b19 := E13.out.bx 3 rfl
 have c19_0 := b19.cell 0 rfl
 have f19_0 := b19.frozen 0
 clear b19
 go_wp2
 have E14 : Hid (Env (fun _ => True) w [(w8.heap.size, 24, [.slice ia (Nn.NatMath.len v) ik]), (w6.heap.size, 24, [.slice ra (Nn.NatMath.len r1) rk]), (w1.heap.size, 24, [.slice ba (Nn.NatMath.len B) bk, .slice sa (Nn.NatMath.len X) sk, .slice ta (Nn.NatMath.len T) tk]), (w.heap.size + 1 + 1 + 1 + 1, 24, [.slice oa (Nn.NatMath.len r2) ok]), (w.heap.size + 1 + 1 + 1, 24, [.slice ta (Nn.NatMath.len T) tk]), (w.heap.size + 1 + 1, 24, [.slice sa (Nn.NatMath.len X) sk]), (w.heap.size + 1, 24, [.slice ba (Nn.NatMath.len B) bk]), (w.heap.size, 26, [.slice na (Nn.NatMath.len N) nk, .slice ea (Nn.NatMath.len E) ek])] [.gn (gS (.slice oa (Nn.NatMath.len r2) ok) (Nn.NatMath.digs r2)), .gn (gS (.slice ia (Nn.NatMath.len v) ik) (Nn.NatMath.digs v)), .gn (gS (.slice ra (Nn.NatMath.len r1) rk) (Nn.NatMath.digs r1)), .gn (gS (.slice ta (Nn.NatMath.len T) tk) (Nn.NatMath.digs T)), .gn (gS (.slice sa (Nn.NatMath.len X) sk) (Nn.NatMath.digs X)), .gn (gS (.slice ba (Nn.NatMath.len B) bk) (Nn.NatMath.digs B)), .gn (gS (.slice ea (Nn.NatMath.len E) ek) (Nn.NatMath.digs E)), .gn (gS (.slice na (Nn.NatMath.len N) nk) (Nn.NatMath.digs N))] _) := Zh ((E13.out.set 3 0 (.slice oa (Nn.NatMath.len r2) ok) rfl))
 have hfin := E14.out
 have q20 := (hfin.bx 3 rfl).cell 0 rfl
 exact bodyPost_ret (v := .tuple #[.agg #[.slice oa (Nn.NatMath.len r2) ok], .int .i64 0]) (by simp [results, Tryz.results10, go_sem, q20]) rfl ⟨⟨oa, ok, rfl, Zh (gS.sl (hfin.out 0 rfl))⟩, hfin.bel⟩
open Go.RowKit
namespace Pri
theorem f1 : facN 1 = some [] := by
 have a1 : facs 2 1 = ([], 1) := facs_out (by decide)
 rw [facN_one (by rw [a1]), a1]
theorem f4 : facN 4 = some [2, 2] := by
 have p1 : pull 2 1 = ([], 1) := pull_no (by decide)
 have p2 : pull 2 2 = ([2], 1) := by rw [pull_yes (by decide) (by decide) (by decide), show 2 / 2 = 1 from rfl, p1]
 have p4 : pull 2 4 = ([2, 2], 1) := by rw [pull_yes (by decide) (by decide) (by decide), show 4 / 2 = 2 from rfl, p2]
 have a3 : facs 3 1 = ([], 1) := facs_out (by decide)
 have a4 : facs 2 4 = ([2, 2], 1) := by rw [facs_in (by decide) (by decide), p4, show 2 + 1 = 3 from rfl, a3]; rfl
 rw [facN_one (by rw [a4]), a4]
theorem f10 : facN 10 = some [2, 5] := by
 have p5 : pull 2 5 = ([], 5) := pull_no (by decide)
 have p10 : pull 2 10 = ([2], 5) := by rw [pull_yes (by decide) (by decide) (by decide), show 10 / 2 = 5 from rfl, p5]
 have a5 : facs 3 5 = ([], 5) := facs_out (by decide)
 have a10 : facs 2 10 = ([2], 5) := by rw [facs_in (by decide) (by decide), p10, show 2 + 1 = 3 from rfl, a5]; rfl
 rw [facN_more (by rw [a10]; decide) (by rw [a10]; decide), a10]; rfl
theorem f16 : facN 16 = some [2, 2, 2, 2] := by
 have p1 : pull 2 1 = ([], 1) := pull_no (by decide)
 have p2 : pull 2 2 = ([2], 1) := by rw [pull_yes (by decide) (by decide) (by decide), show 2 / 2 = 1 from rfl, p1]
 have p4 : pull 2 4 = ([2, 2], 1) := by rw [pull_yes (by decide) (by decide) (by decide), show 4 / 2 = 2 from rfl, p2]
 have p8 : pull 2 8 = ([2, 2, 2], 1) := by rw [pull_yes (by decide) (by decide) (by decide), show 8 / 2 = 4 from rfl, p4]
 have p16 : pull 2 16 = ([2, 2, 2, 2], 1) := by rw [pull_yes (by decide) (by decide) (by decide), show 16 / 2 = 8 from rfl, p8]
 have a3 : facs 3 1 = ([], 1) := facs_out (by decide)
 have a16 : facs 2 16 = ([2, 2, 2, 2], 1) := by rw [facs_in (by decide) (by decide), p16, show 2 + 1 = 3 from rfl, a3]; rfl
 rw [facN_one (by rw [a16]), a16]
theorem r2 : RootR 2 [] 1 := ⟨by decide, by decide, rfl, fun j h1 h2 => by omega⟩
theorem r5 : RootR 5 [2, 2] 2 := ⟨by decide, by decide, by decide, fun j h1 h2 => by
 have : j = 1 := by omega
 subst this; decide⟩
theorem r11 : RootR 11 [2, 5] 2 := ⟨by decide, by decide, by decide, fun j h1 h2 => by
 have : j = 1 := by omega
 subst this; decide⟩
theorem r17 : RootR 17 [2, 2, 2, 2] 3 := ⟨by decide, by decide, by decide, fun j h1 h2 => by
 have : j = 1 ∨ j = 2 := by omega
 rcases this with rfl | rfl <;> decide⟩
end Pri
def ct2 : Ct := .mk 2 1 []
def ct5 : Ct := .mk 5 2 [ct2, ct2]
def ct11 : Ct := .mk 11 2 [ct2, ct5]
def ct17 : Ct := .mk 17 3 [ct2, ct2, ct2, ct2]
theorem do2 (d : Nat) : CtDo (d + 1) ct2 := ⟨⟨⟨⟨by decide, by decide⟩, ⟨by decide, by decide⟩⟩, by decide, by decide, Pri.f1, Pri.r2⟩, ⟨fun i h => (by cases h), by decide⟩⟩
theorem do5 (d : Nat) : CtDo (d + 2) ct5 := ⟨⟨⟨⟨by decide, by decide⟩, ⟨by decide, by decide⟩⟩, by decide, by decide, Pri.f4, Pri.r5⟩, fun i h => (by
 have h2 : i < 2 := h
 rcases (by omega : i = 0 ∨ i = 1) with rfl | rfl <;> exact do2 d), by decide⟩
theorem do11 : CtDo 3 ct11 := ⟨⟨⟨⟨by decide, by decide⟩, ⟨by decide, by decide⟩⟩, by decide, by decide, Pri.f10, Pri.r11⟩, fun i h => (by
 have h2 : i < 2 := h
 rcases (by omega : i = 0 ∨ i = 1) with rfl | rfl
 ·exact do2 1
 ·exact do5 0), by decide⟩
theorem do17 : CtDo 3 ct17 := ⟨⟨⟨⟨by decide, by decide⟩, ⟨by decide, by decide⟩⟩, by decide, by decide, Pri.f16, Pri.r17⟩, fun i h => (by
 have h2 : i < 4 := h
 rcases (by omega : i = 0 ∨ i = 1 ∨ i = 2 ∨ i = 3) with rfl | rfl | rfl | rfl <;> exact do2 1), by decide⟩
theorem part_ok {N R L M q S : Nat} (h1 : L / M = q) (h2 : R ^ q % N = S) (h3 : One S) (h4 : One M) (h5 : One q) (h6 : S ≠ 1) : PartOk N R L M := ⟨q, S, h1, h2, h3, h4, h5, h6⟩
theorem ok2 (d : Nat) : CtOk (d + 1) ct2 := ⟨⟨⟨⟨by decide, by decide⟩, ⟨by decide, by decide⟩, ⟨by decide, by decide⟩⟩, by decide, by decide, rfl, rfl, rfl, fun M h => by cases h⟩, rfl, fun k hk => (by
  obtain rfl : k = 0 := by have : k ≤ 0 := hk; omega
  exact ⟨⟨by decide, by decide⟩, by decide⟩), fun j h => absurd h (Nat.not_lt_zero _), fun i h => (by cases h), by decide⟩
theorem ok5 (d : Nat) : CtOk (d + 2) ct5 := ⟨⟨⟨⟨by decide, by decide⟩, ⟨by decide, by decide⟩, ⟨by decide, by decide⟩⟩, by decide, by decide, rfl, rfl, rfl, fun M h => (by
   have h2 : M ∈ [2, 2] := h
   simp only [List.mem_cons, List.not_mem_nil, or_false, or_self] at h2
   subst h2
   exact part_ok (q := 2) (S := 4) rfl rfl ⟨by decide, by decide⟩ ⟨by decide, by decide⟩ ⟨by decide, by decide⟩ (by decide))⟩, rfl, fun k hk => (by
  have : k ≤ 2 := hk
  rcases (by omega : k = 0 ∨ k = 1 ∨ k = 2) with rfl | rfl | rfl <;> exact ⟨⟨by decide, by decide⟩, by decide⟩), fun j h => (by
  have : j + 1 < 2 := h
  obtain rfl : j = 0 := by omega
  exact (show (2 : Nat) ≤ 2 by decide)), fun i h => (by
  have h2 : i < 2 := h
  rcases (by omega : i = 0 ∨ i = 1) with rfl | rfl <;> exact ok2 d), by decide⟩
theorem ok11 : CtOk 3 ct11 := ⟨⟨⟨⟨by decide, by decide⟩, ⟨by decide, by decide⟩, ⟨by decide, by decide⟩⟩, by decide, by decide, rfl, rfl, rfl, fun M h => (by
   have h2 : M ∈ [2, 5] := h
   simp only [List.mem_cons, List.not_mem_nil, or_false] at h2
   rcases h2 with rfl | rfl
   ·exact part_ok (q := 5) (S := 10) rfl rfl ⟨by decide, by decide⟩ ⟨by decide, by decide⟩ ⟨by decide, by decide⟩ (by decide)
   ·exact part_ok (q := 2) (S := 4) rfl rfl ⟨by decide, by decide⟩ ⟨by decide, by decide⟩ ⟨by decide, by decide⟩ (by decide))⟩, rfl, fun k hk => (by
  have : k ≤ 2 := hk
  rcases (by omega : k = 0 ∨ k = 1 ∨ k = 2) with rfl | rfl | rfl <;> exact ⟨⟨by decide, by decide⟩, by decide⟩), fun j h => (by
  have : j + 1 < 2 := h
  obtain rfl : j = 0 := by omega
  exact (show (2 : Nat) ≤ 5 by decide)), fun i h => (by
  have h2 : i < 2 := h
  rcases (by omega : i = 0 ∨ i = 1) with rfl | rfl
  ·exact ok2 1
  ·exact ok5 0), by decide⟩
theorem ok17 : CtOk 3 ct17 := ⟨⟨⟨⟨by decide, by decide⟩, ⟨by decide, by decide⟩, ⟨by decide, by decide⟩⟩, by decide, by decide, rfl, rfl, rfl, fun M h => (by
   have h2 : M ∈ [2, 2, 2, 2] := h
   simp only [List.mem_cons, List.not_mem_nil, or_false, or_self] at h2
   subst h2
   exact part_ok (q := 8) (S := 16) rfl rfl ⟨by decide, by decide⟩ ⟨by decide, by decide⟩ ⟨by decide, by decide⟩ (by decide))⟩, rfl, fun k hk => (by
  have : k ≤ 4 := hk
  rcases (by omega : k = 0 ∨ k = 1 ∨ k = 2 ∨ k = 3 ∨ k = 4) with rfl | rfl | rfl | rfl | rfl <;> exact ⟨⟨by decide, by decide⟩, by decide⟩), fun j h => (by
  have : j + 1 < 4 := h
  rcases (by omega : j = 0 ∨ j = 1 ∨ j = 2) with rfl | rfl | rfl <;> exact (show (2 : Nat) ≤ 2 by decide)), fun i h => (by
  have h2 : i < 4 := h
  rcases (by omega : i = 0 ∨ i = 1 ∨ i = 2 ∨ i = 3) with rfl | rfl | rfl | rfl <;> exact ok2 1), by decide⟩
theorem sz2 (d : Nat) : Ct.sz (d + 1) ct2 = 1 := by show Ct.szk (d + 1) ct2 0 = 1; exact Ct.szk_zero
theorem sz5 (d : Nat) : Ct.sz (d + 2) ct5 = 3 := by
 show Ct.szk (d + 2) ct5 2 = 3
 rw [Ct.szk_succ (show 1 < ct5.parts.length by decide), Ct.szk_succ (show 0 < ct5.parts.length by decide), Ct.szk_zero]
 show 1 + Ct.sz (d + 1) ct2 + Ct.sz (d + 1) ct2 = 3
 rw [sz2]
theorem sz11 : Ct.sz 3 ct11 = 5 := by
 show Ct.szk 3 ct11 2 = 5
 rw [Ct.szk_succ (show 1 < ct11.parts.length by decide), Ct.szk_succ (show 0 < ct11.parts.length by decide), Ct.szk_zero]
 show 1 + Ct.sz 2 ct2 + Ct.sz 2 ct5 = 5
 rw [sz2, sz5]
theorem sz17 : Ct.sz 3 ct17 = 5 := by
 show Ct.szk 3 ct17 4 = 5
 rw [Ct.szk_succ (show 3 < ct17.parts.length by decide), Ct.szk_succ (show 2 < ct17.parts.length by decide), Ct.szk_succ (show 1 < ct17.parts.length by decide), Ct.szk_succ (show 0 < ct17.parts.length by decide), Ct.szk_zero]
 show 1 + Ct.sz 2 ct2 + Ct.sz 2 ct2 + Ct.sz 2 ct2 + Ct.sz 2 ct2 = 5
 rw [sz2]
theorem cmp_lit {N M : Nat} {t : Bool} (h : decide (N = M) = t) : ∃ c : Int, Nn.NatMath.cmp N M = c ∧ (c == 0) = t := ⟨_, rfl, by rw [Nn.NatMath.cmp_zero_iff, h]⟩
theorem vld_lit {N : Nat} (h : N < 4294967296) : Nn.vld (Nn.NatMath.digs N) = true := by rw [Nn.vld_digs, decide_eq_true (len_small h)]
theorem inv3 : Nn.NatMath.invV 3 160 = 107 ∧ decide (Nn.NatMath.invG 3 160 = 1) = true := by
 have hg : Nat.gcd 3 160 = 1 := by decide
 refine ⟨?_, by rw [Nn.NatMath.invG_eq (by decide), hg]; rfl⟩
 have h1 := Nn.NatMath.invV_lt (a := 3) (m := 160) (by decide)
 have h2 := Nn.NatMath.invV_mul (a := 3) (m := 160) (by decide) hg
 omega
set_option maxRecDepth 100000 in
set_option maxHeartbeats 8000000 in
theorem Make_c {pna pra pza qna qra qza ea : Option Addr} {pnk prk pzk qnk qrk qzk ek : Nat} {w : World} (he : Nn.Sl w (.slice ea (Nn.NatMath.len 3) ek) (Nn.NatMath.digs 3)) (hp : Fct.at w (fun _ => True) (.gn (gCt 3 ct11 (.slice pna 1 pnk) (.slice pra 1 prk) (.slice pza 2 pzk)))) (hq : Fct.at w (fun _ => True) (.gn (gCt 3 ct17 (.slice qna 1 qnk) (.slice qra 1 qrk) (.slice qza 4 qzk))))  :
  Calls Tryz.prog 32 #[.agg #[.slice pna 1 pnk, .slice pra 1 prk, .slice pza 2 pzk], .agg #[.slice qna 1 qnk, .slice qra 1 qrk, .slice qza 4 qzk], .agg #[.slice ea (Nn.NatMath.len 3) ek]] w fun e w' => (∃ na nk ea ek da dk, e = .returned (.tuple #[.agg #[.slice na (Nn.NatMath.len 187) nk, .slice ea (Nn.NatMath.len 3) ek], .agg #[.slice da (Nn.NatMath.len 107) dk], .int .i64 0]) ∧ Hid (Nn.Nt w' (.slice na (Nn.NatMath.len 187) nk) 187) ∧ Hid (Nn.Nt w' (.slice da (Nn.NatMath.len 107) dk) 107)) ∧ Below w.heap.size w w' := by
 have E0 := Zh ((((Env.start (fun _ => True) w).arg (.gn (gCt 3 ct11 (.slice pna 1 pnk) (.slice pra 1 prk) (.slice pza 2 pzk))) hp).arg (.gn (gCt 3 ct17 (.slice qna 1 qnk) (.slice qra 1 qrk) (.slice qza 4 qzk))) hq).argS he)
 clear he hp hq
 go_enter Tryz.func32, Tryz.ntmps32
 obtain ⟨c1, hc1, tc1⟩ := cmp_lit (N := 11) (M := 17) (t := false) (by decide)
 have Hc1 := Zh hc1
 clear hc1
 obtain ⟨c2, hc2, tc2⟩ := cmp_lit (N := 11) (M := 2) (t := false) (by decide)
 have Hc2 := Zh hc2
 clear hc2
 obtain ⟨c3, hc3, tc3⟩ := cmp_lit (N := 17) (M := 2) (t := false) (by decide)
 have Hc3 := Zh hc3
 clear hc3
 obtain ⟨nb, hnb⟩ : ∃ nb, Nn.NatMath.bl 187 = nb := ⟨_, rfl⟩
 have hb9 : nb ≤ 8 := by rw [← hnb]; exact Nn.NatMath.bl_le_iff.2 (by decide)
 have HNB := Zh hnb
 have t1 : decide ((512 : Int) < (nb : Int)) = false := decide_eq_false (by omega)
 have t2 : decide (512 < nb) = false := decide_eq_false (by omega)
 clear hnb hb9
 go_wp2_with fail
 have E1 := Zh ((((((E0.out.push 57 [.slice pna 1 pnk, .slice pra 1 prk, .slice pza 2 pzk] (w.heap.size) (by simp)).push 57 [.slice qna 1 qnk, .slice qra 1 qrk, .slice qza 4 qzk] (w.heap.size + 1) (by simp)).push 24 [.slice ea (Nn.NatMath.len 3) ek] (w.heap.size + 1 + 1) (by simp)).push 26 [.slice none 0 0, .slice none 0 0] (w.heap.size + 1 + 1 + 1) (by simp)).push 24 [.slice none 0 0] (w.heap.size + 1 + 1 + 1 + 1) (by simp)))
 refine (small_c 2 (by decide)).mono ?_
 rintro e w1 ⟨⟨ta, tk, rfl, th⟩, hb⟩
 have E2 := Zh ((E1.out.below hb).noteS th.out rfl)
 clear E0 E1 hb th
 have E3 := Zh ((E2.out.push 24 [.slice ta (Nn.NatMath.len 2) tk] (w1.heap.size) (by simp)))
 have b1 := E3.out.bx 5 rfl
 have c1_0 := b1.cell 0 rfl
 have c1_1 := b1.cell 1 rfl
 have c1_2 := b1.cell 2 rfl
 clear b1
 go_wp2_with fail
 refine (Verify_g 3 ct11 (E3.out.fc 3 rfl) 5 sz11 (by decide) (by decide) ok11).mono ?_
 rintro e w2 ⟨rfl, hb⟩
 have E4 := Zh (E3.out.below hb)
 clear c1_0 c1_1 c1_2 E2 E3 hb
 have b2 := E4.out.bx 4 rfl
 have c2_0 := b2.cell 0 rfl
 have c2_1 := b2.cell 1 rfl
 have c2_2 := b2.cell 2 rfl
 clear b2
 go_wp2_with fail
 refine (Verify_g 3 ct17 (E4.out.fc 2 rfl) 5 sz17 (by decide) (by decide) ok17).mono ?_
 rintro e w3 ⟨rfl, hb⟩
 have E5 := Zh (E4.out.below hb)
 clear c2_0 c2_1 c2_2 E4 hb
 have b3 := E5.out.bx 3 rfl
 have c3_0 := b3.cell 0 rfl
 clear b3
 have E6 := Zh ((E5.out.push 24 [.slice ea (Nn.NatMath.len 3) ek] (w3.heap.size) (by simp)))
 go_wp2_with fail
 refine (valid_c [Nn.NatMath.digs 3] (xb := w3.heap.size) (xo := 0) (xk := 1) (gNs.box (E6.out.bx 0 rfl) ⟨(gS.sl (E6.out.fc 1 rfl)), trivial⟩) (t := true) (by rw [List.all_cons, vld_lit (by decide)]; rfl) (by simp)).mono ?_
 rintro e w4 ⟨rfl, hb⟩
 have E7 := Zh (E6.out.below hb)
 clear c3_0 E5 E6 hb
 have b4 := E7.out.bx 6 rfl
 have c4_0 := b4.cell 0 rfl
 clear b4
 have b5 := E7.out.bx 5 rfl
 have c5_0 := b5.cell 0 rfl
 clear b5
 go_wp2_with fail
 refine (Nn.compareF Hc1.out (nt_of (gCt.n (E7.out.fc 3 rfl)) ⟨by decide, by decide⟩ : Nn.Nt _ _ 11) (nt_of (gCt.n (E7.out.fc 2 rfl)) ⟨by decide, by decide⟩ : Nn.Nt _ _ 17) (len_small (by decide)) (len_small (by decide))).mono ?_
 rintro e w5 ⟨rfl, hb⟩
 have E8 := Zh (E7.out.below hb)
 clear c4_0 c5_0 E7 hb
 have b6 := E8.out.bx 6 rfl
 have c6_0 := b6.cell 0 rfl
 clear b6
 have b7 := E8.out.bx 1 rfl
 have c7_0 := b7.cell 0 rfl
 clear b7
 go_wp2_with fail
 refine (Nn.compareF Hc2.out (nt_of (gCt.n (E8.out.fc 3 rfl)) ⟨by decide, by decide⟩ : Nn.Nt _ _ 11) (gS.sl (E8.out.fc 0 rfl)) (len_small (by decide)) (len_small (by decide))).mono ?_
 rintro e w6 ⟨rfl, hb⟩
 have E9 := Zh (E8.out.below hb)
 clear c6_0 c7_0 E8 hb
 have b8 := E9.out.bx 5 rfl
 have c8_0 := b8.cell 0 rfl
 clear b8
 have b9 := E9.out.bx 1 rfl
 have c9_0 := b9.cell 0 rfl
 clear b9
 go_wp2_with fail
 refine (Nn.compareF Hc3.out (nt_of (gCt.n (E9.out.fc 2 rfl)) ⟨by decide, by decide⟩ : Nn.Nt _ _ 17) (gS.sl (E9.out.fc 0 rfl)) (len_small (by decide)) (len_small (by decide))).mono ?_
 rintro e w7 ⟨rfl, hb⟩
 have E10 := Zh (E9.out.below hb)
 clear c8_0 c9_0 E9 hb
 have b10 := E10.out.bx 6 rfl
 have c10_0 := b10.cell 0 rfl
 clear b10
 have b11 := E10.out.bx 5 rfl
 have c11_0 := b11.cell 0 rfl
 clear b11
 go_wp2_with fail
 refine (Nn.mulF (S := 187) rfl (len_small (by decide)) (nt_of (gCt.n (E10.out.fc 3 rfl)) ⟨by decide, by decide⟩ : Nn.Nt _ _ 11) (nt_of (gCt.n (E10.out.fc 2 rfl)) ⟨by decide, by decide⟩ : Nn.Nt _ _ 17) (len_small (by decide)) (len_small (by decide))).mono ?_
 rintro e w8 ⟨⟨na, nk, rfl, nh⟩, hb⟩
 have E11 := Zh ((E10.out.below hb).noteS nh.out rfl)
 clear c10_0 c11_0 E10 hb nh
 have E12 := Zh ((E11.out.push 24 [.slice na (Nn.NatMath.len 187) nk] (w8.heap.size) (by simp)))
 go_wp2_with fail
 refine (Nn.bitsF HNB.out (len_small (by decide)) (gS.sl (E12.out.fc 0 rfl))).mono ?_
 rintro e w9 ⟨rfl, hb⟩
 have E13 := Zh (E12.out.below hb)
 clear E11 E12 hb
 go_upto_region 8 with (fail)
 go_cut [13, 14] (fun s13 s14 wx => ∃ ag ua uk aa ak, s13 = .pointer (some ⟨ag, 0, none⟩) ∧ s14 = .int .i64 0 ∧ Hid (Env (fun _ => True) w [(ag, 24, [.slice aa (Nn.NatMath.len 10) ak]), (w8.heap.size, 24, [.slice na (Nn.NatMath.len 187) nk]), (w3.heap.size, 24, [.slice ea (Nn.NatMath.len 3) ek]), (w1.heap.size, 24, [.slice ta (Nn.NatMath.len 2) tk]), (w.heap.size + 1 + 1 + 1 + 1, 24, [.slice none 0 0]), (w.heap.size + 1 + 1 + 1, 26, [.slice none 0 0, .slice none 0 0]), (w.heap.size + 1 + 1, 24, [.slice ea (Nn.NatMath.len 3) ek]), (w.heap.size + 1, 57, [.slice qna 1 qnk, .slice qra 1 qrk, .slice qza 4 qzk]), (w.heap.size, 57, [.slice pna 1 pnk, .slice pra 1 prk, .slice pza 2 pzk])] [.gn (gS (.slice aa (Nn.NatMath.len 10) ak) (Nn.NatMath.digs 10)), .gn (gS (.slice ua (Nn.NatMath.len 1) uk) (Nn.NatMath.digs 1)), .gn (gS (.slice na (Nn.NatMath.len 187) nk) (Nn.NatMath.digs 187)), .gn (gS (.slice ta (Nn.NatMath.len 2) tk) (Nn.NatMath.digs 2)), .gn (gS (.slice ea (Nn.NatMath.len 3) ek) (Nn.NatMath.digs 3)), .gn (gCt 3 ct17 (.slice qna 1 qnk) (.slice qra 1 qrk) (.slice qza 4 qzk)), .gn (gCt 3 ct11 (.slice pna 1 pnk) (.slice pra 1 prk) (.slice pza 2 pzk))] wx))
 case first =>
  have E14 := Zh E13.out.drew
  clear E13
  refine wp_regionU (S := fun w' => w'.cell? ⟨w.heap.size, 0, none⟩ = some (.slice pna 1 pnk)) [] (by kernel_rfl) (((E14.out.bx 7 rfl).cell 0 rfl)) (fun hHeld => ?_)
  generalize w9.drew = w10 at *
  refine uPl [0, 1] ?_
  iterate 2 (refine uTl (v := ?_) ?_ ?_; rotate_left; (focus (intro wS hSw; (try dsimp only at hSw); go_simp; try with_reducible rfl)); try simp only [Act.put, pq0, pq1, pq2])
  refine Pl.z ?_
  refine uReady (rs := [2, 7]) (by kernel_rfl) (by simp) ?_
  refine (ReadyU.cons rfl (fun KK hKK => ?_) (ReadyU.cons rfl (fun KK hKK => ?_) ReadyU.nil))
  ·skip
   go_simp
   refine (one_c).mono ?_
   rintro e w11 ⟨⟨ua, uk, rfl, uh⟩, hb⟩
   have E15 := Zh ((E14.out.below hb).noteS uh.out rfl)
   clear E14 hb uh
   (try dsimp only)
   clear hHeld
   refine hKK.out _ _ (((E15.out.bx 7 rfl).cell 0 rfl)) (fun hHeld => ?_)
   clear hKK KK
   try simp only [Act.put, pq0, pq1, pq2]
   refine uReady (rs := [3, 7]) (by kernel_rfl) (by simp) ?_
   refine (ReadyU.cons rfl (fun KK hKK => ?_) (ReadyU.cons rfl (fun KK hKK => ?_) ReadyU.nil))
   ·skip
    go_simp
    refine (Nn.subF (S := 10) rfl (by decide) (nt_of (gCt.n (E15.out.fc 5 rfl)) ⟨by decide, by decide⟩ : Nn.Nt _ _ 11) (gS.sl (E15.out.fc 0 rfl)) (len_small (by decide)) (len_small (by decide))).mono ?_
    rintro e w12 ⟨⟨aa, ak, rfl, ah⟩, hb⟩
    have E16 := Zh ((E15.out.below hb).noteS ah.out rfl)
    clear E15 hb ah
    (try dsimp only)
    clear hHeld
    refine hKK.out _ _ (((E16.out.bx 7 rfl).cell 0 rfl)) (fun hHeld => ?_)
    clear hKK KK
    try simp only [Act.put, pq0, pq1, pq2]
    refine uPl [4, 5, 6] ?_
    iterate 3 (refine uTl (v := ?_) ?_ ?_; rotate_left; (focus (intro wS hSw; (try dsimp only at hSw); go_simp; try with_reducible rfl)); try simp only [Act.put, pq0, pq1, pq2])
    refine Pl.z ?_
    refine uRd 7 (fun KK hKK => ?_)
    go_simp
    have E17 := Zh ((E16.out.push 24 [.slice none 0 0] (w12.heap.size) (by simp)))
    (try dsimp only)
    clear hHeld
    refine hKK.out _ _ (((E17.out.bx 8 rfl).cell 0 rfl)) (fun hHeld => ?_)
    clear hKK KK
    try simp only [Act.put, pq0, pq1, pq2]
    clear E16
    generalize w12.alloc (.cells #[.slice none 0 0] 24) = w13 at *
    have b12 := E17.out.bx 0 rfl
    have c12_0 := b12.cell 0 rfl
    have f12_0 := b12.frozen 0
    clear b12
    refine uRd 8 (fun KK hKK => ?_)
    go_simp
    have E18 : Hid (Env (fun _ => True) w [(w12.heap.size, 24, [.slice aa (Nn.NatMath.len 10) ak]), (w8.heap.size, 24, [.slice na (Nn.NatMath.len 187) nk]), (w3.heap.size, 24, [.slice ea (Nn.NatMath.len 3) ek]), (w1.heap.size, 24, [.slice ta (Nn.NatMath.len 2) tk]), (w.heap.size + 1 + 1 + 1 + 1, 24, [.slice none 0 0]), (w.heap.size + 1 + 1 + 1, 26, [.slice none 0 0, .slice none 0 0]), (w.heap.size + 1 + 1, 24, [.slice ea (Nn.NatMath.len 3) ek]), (w.heap.size + 1, 57, [.slice qna 1 qnk, .slice qra 1 qrk, .slice qza 4 qzk]), (w.heap.size, 57, [.slice pna 1 pnk, .slice pra 1 prk, .slice pza 2 pzk])] [.gn (gS (.slice aa (Nn.NatMath.len 10) ak) (Nn.NatMath.digs 10)), .gn (gS (.slice ua (Nn.NatMath.len 1) uk) (Nn.NatMath.digs 1)), .gn (gS (.slice na (Nn.NatMath.len 187) nk) (Nn.NatMath.digs 187)), .gn (gS (.slice ta (Nn.NatMath.len 2) tk) (Nn.NatMath.digs 2)), .gn (gS (.slice ea (Nn.NatMath.len 3) ek) (Nn.NatMath.digs 3)), .gn (gCt 3 ct17 (.slice qna 1 qnk) (.slice qra 1 qrk) (.slice qza 4 qzk)), .gn (gCt 3 ct11 (.slice pna 1 pnk) (.slice pra 1 prk) (.slice pza 2 pzk))] _) := Zh ((E17.out.set 0 0 (.slice aa (Nn.NatMath.len 10) ak) rfl))
    (try dsimp only)
    clear hHeld
    refine hKK.out _ _ (((E18.out.bx 8 rfl).cell 0 rfl)) (fun hHeld => ?_)
    clear hKK KK
    try simp only [Act.put, pq0, pq1, pq2]
    refine uTk (i := 9) (some 14) (v := ?_) ?_ ?_
    rotate_left
    ·(intro wS hSw; (try dsimp only at hSw); go_simp; try with_reducible rfl)
    try simp only [Act.put, pq0, pq1, pq2]
    refine uDone (by kernel_rfl) ?_ _
    go_wp2_with fail
    go_meet
    exact ⟨w12.heap.size, ua, uk, aa, ak, rfl, rfl, Zh E18.out⟩
   ·skip
    go_simp
    have E16 := Zh ((E15.out.push 24 [.slice none 0 0] (w11.heap.size) (by simp)))
    (try dsimp only)
    clear hHeld
    refine hKK.out _ _ (((E16.out.bx 8 rfl).cell 0 rfl)) (fun hHeld => ?_)
    clear hKK KK
    try simp only [Act.put, pq0, pq1, pq2]
    clear E15
    generalize w11.alloc (.cells #[.slice none 0 0] 24) = w12 at *
    refine uRd 3 (fun KK hKK => ?_)
    go_simp
    refine (Nn.subF (S := 10) rfl (by decide) (nt_of (gCt.n (E16.out.fc 5 rfl)) ⟨by decide, by decide⟩ : Nn.Nt _ _ 11) (gS.sl (E16.out.fc 0 rfl)) (len_small (by decide)) (len_small (by decide))).mono ?_
    rintro e w13 ⟨⟨aa, ak, rfl, ah⟩, hb⟩
    have E17 := Zh ((E16.out.below hb).noteS ah.out rfl)
    clear E16 hb ah
    (try dsimp only)
    clear hHeld
    refine hKK.out _ _ (((E17.out.bx 8 rfl).cell 0 rfl)) (fun hHeld => ?_)
    clear hKK KK
    try simp only [Act.put, pq0, pq1, pq2]
    refine uPl [4, 5, 6] ?_
    iterate 3 (refine uTl (v := ?_) ?_ ?_; rotate_left; (focus (intro wS hSw; (try dsimp only at hSw); go_simp; try with_reducible rfl)); try simp only [Act.put, pq0, pq1, pq2])
    refine Pl.z ?_
    have b12 := E17.out.bx 0 rfl
    have c12_0 := b12.cell 0 rfl
    have f12_0 := b12.frozen 0
    clear b12
    refine uRd 8 (fun KK hKK => ?_)
    go_simp
    have E18 : Hid (Env (fun _ => True) w [(w11.heap.size, 24, [.slice aa (Nn.NatMath.len 10) ak]), (w8.heap.size, 24, [.slice na (Nn.NatMath.len 187) nk]), (w3.heap.size, 24, [.slice ea (Nn.NatMath.len 3) ek]), (w1.heap.size, 24, [.slice ta (Nn.NatMath.len 2) tk]), (w.heap.size + 1 + 1 + 1 + 1, 24, [.slice none 0 0]), (w.heap.size + 1 + 1 + 1, 26, [.slice none 0 0, .slice none 0 0]), (w.heap.size + 1 + 1, 24, [.slice ea (Nn.NatMath.len 3) ek]), (w.heap.size + 1, 57, [.slice qna 1 qnk, .slice qra 1 qrk, .slice qza 4 qzk]), (w.heap.size, 57, [.slice pna 1 pnk, .slice pra 1 prk, .slice pza 2 pzk])] [.gn (gS (.slice aa (Nn.NatMath.len 10) ak) (Nn.NatMath.digs 10)), .gn (gS (.slice ua (Nn.NatMath.len 1) uk) (Nn.NatMath.digs 1)), .gn (gS (.slice na (Nn.NatMath.len 187) nk) (Nn.NatMath.digs 187)), .gn (gS (.slice ta (Nn.NatMath.len 2) tk) (Nn.NatMath.digs 2)), .gn (gS (.slice ea (Nn.NatMath.len 3) ek) (Nn.NatMath.digs 3)), .gn (gCt 3 ct17 (.slice qna 1 qnk) (.slice qra 1 qrk) (.slice qza 4 qzk)), .gn (gCt 3 ct11 (.slice pna 1 pnk) (.slice pra 1 prk) (.slice pza 2 pzk))] _) := Zh ((E17.out.set 0 0 (.slice aa (Nn.NatMath.len 10) ak) rfl))
    (try dsimp only)
    clear hHeld
    refine hKK.out _ _ (((E18.out.bx 8 rfl).cell 0 rfl)) (fun hHeld => ?_)
    clear hKK KK
    try simp only [Act.put, pq0, pq1, pq2]
    refine uTk (i := 9) (some 14) (v := ?_) ?_ ?_
    rotate_left
    ·(intro wS hSw; (try dsimp only at hSw); go_simp; try with_reducible rfl)
    try simp only [Act.put, pq0, pq1, pq2]
    refine uDone (by kernel_rfl) ?_ _
    go_wp2_with fail
    go_meet
    exact ⟨w11.heap.size, ua, uk, aa, ak, rfl, rfl, Zh E18.out⟩
  ·skip
   go_simp
   have E15 := Zh ((E14.out.push 24 [.slice none 0 0] (w10.heap.size) (by simp)))
   (try dsimp only)
   clear hHeld
   refine hKK.out _ _ (((E15.out.bx 8 rfl).cell 0 rfl)) (fun hHeld => ?_)
   clear hKK KK
   try simp only [Act.put, pq0, pq1, pq2]
   clear E14
   generalize w10.alloc (.cells #[.slice none 0 0] 24) = w11 at *
   refine uRd 2 (fun KK hKK => ?_)
   go_simp
   refine (one_c).mono ?_
   rintro e w12 ⟨⟨ua, uk, rfl, uh⟩, hb⟩
   have E16 := Zh ((E15.out.below hb).noteS uh.out rfl)
   clear E15 hb uh
   (try dsimp only)
   clear hHeld
   refine hKK.out _ _ (((E16.out.bx 8 rfl).cell 0 rfl)) (fun hHeld => ?_)
   clear hKK KK
   try simp only [Act.put, pq0, pq1, pq2]
   refine uRd 3 (fun KK hKK => ?_)
   go_simp
   refine (Nn.subF (S := 10) rfl (by decide) (nt_of (gCt.n (E16.out.fc 5 rfl)) ⟨by decide, by decide⟩ : Nn.Nt _ _ 11) (gS.sl (E16.out.fc 0 rfl)) (len_small (by decide)) (len_small (by decide))).mono ?_
   rintro e w13 ⟨⟨aa, ak, rfl, ah⟩, hb⟩
   have E17 := Zh ((E16.out.below hb).noteS ah.out rfl)
   clear E16 hb ah
   (try dsimp only)
   clear hHeld
   refine hKK.out _ _ (((E17.out.bx 8 rfl).cell 0 rfl)) (fun hHeld => ?_)
   clear hKK KK
   try simp only [Act.put, pq0, pq1, pq2]
   refine uPl [4, 5, 6] ?_
   iterate 3 (refine uTl (v := ?_) ?_ ?_; rotate_left; (focus (intro wS hSw; (try dsimp only at hSw); go_simp; try with_reducible rfl)); try simp only [Act.put, pq0, pq1, pq2])
   refine Pl.z ?_
   have b12 := E17.out.bx 0 rfl
   have c12_0 := b12.cell 0 rfl
   have f12_0 := b12.frozen 0
   clear b12
   refine uRd 8 (fun KK hKK => ?_)
   go_simp
   have E18 : Hid (Env (fun _ => True) w [(w10.heap.size, 24, [.slice aa (Nn.NatMath.len 10) ak]), (w8.heap.size, 24, [.slice na (Nn.NatMath.len 187) nk]), (w3.heap.size, 24, [.slice ea (Nn.NatMath.len 3) ek]), (w1.heap.size, 24, [.slice ta (Nn.NatMath.len 2) tk]), (w.heap.size + 1 + 1 + 1 + 1, 24, [.slice none 0 0]), (w.heap.size + 1 + 1 + 1, 26, [.slice none 0 0, .slice none 0 0]), (w.heap.size + 1 + 1, 24, [.slice ea (Nn.NatMath.len 3) ek]), (w.heap.size + 1, 57, [.slice qna 1 qnk, .slice qra 1 qrk, .slice qza 4 qzk]), (w.heap.size, 57, [.slice pna 1 pnk, .slice pra 1 prk, .slice pza 2 pzk])] [.gn (gS (.slice aa (Nn.NatMath.len 10) ak) (Nn.NatMath.digs 10)), .gn (gS (.slice ua (Nn.NatMath.len 1) uk) (Nn.NatMath.digs 1)), .gn (gS (.slice na (Nn.NatMath.len 187) nk) (Nn.NatMath.digs 187)), .gn (gS (.slice ta (Nn.NatMath.len 2) tk) (Nn.NatMath.digs 2)), .gn (gS (.slice ea (Nn.NatMath.len 3) ek) (Nn.NatMath.digs 3)), .gn (gCt 3 ct17 (.slice qna 1 qnk) (.slice qra 1 qrk) (.slice qza 4 qzk)), .gn (gCt 3 ct11 (.slice pna 1 pnk) (.slice pra 1 prk) (.slice pza 2 pzk))] _) := Zh ((E17.out.set 0 0 (.slice aa (Nn.NatMath.len 10) ak) rfl))
   (try dsimp only)
   clear hHeld
   refine hKK.out _ _ (((E18.out.bx 8 rfl).cell 0 rfl)) (fun hHeld => ?_)
   clear hKK KK
   try simp only [Act.put, pq0, pq1, pq2]
   refine uTk (i := 9) (some 14) (v := ?_) ?_ ?_
   rotate_left
   ·(intro wS hSw; (try dsimp only at hSw); go_simp; try with_reducible rfl)
   try simp only [Act.put, pq0, pq1, pq2]
   refine uDone (by kernel_rfl) ?_ _
   go_wp2_with fail
   go_meet
   exact ⟨w10.heap.size, ua, uk, aa, ak, rfl, rfl, Zh E18.out⟩
 case rest =>
  obtain ⟨ag, ua, uk, aa, ak, rfl, rfl, E19⟩ := hcut
  clear E13
  go_upto_region 9 with (fail)
  go_cut [15, 16] (fun s15 s16 wx => ∃ bg va vk ba bk, s15 = .pointer (some ⟨bg, 0, none⟩) ∧ s16 = .int .i64 0 ∧ Hid (Env (fun _ => True) w [(bg, 24, [.slice ba (Nn.NatMath.len 16) bk]), (ag, 24, [.slice aa (Nn.NatMath.len 10) ak]), (w8.heap.size, 24, [.slice na (Nn.NatMath.len 187) nk]), (w3.heap.size, 24, [.slice ea (Nn.NatMath.len 3) ek]), (w1.heap.size, 24, [.slice ta (Nn.NatMath.len 2) tk]), (w.heap.size + 1 + 1 + 1 + 1, 24, [.slice none 0 0]), (w.heap.size + 1 + 1 + 1, 26, [.slice none 0 0, .slice none 0 0]), (w.heap.size + 1 + 1, 24, [.slice ea (Nn.NatMath.len 3) ek]), (w.heap.size + 1, 57, [.slice qna 1 qnk, .slice qra 1 qrk, .slice qza 4 qzk]), (w.heap.size, 57, [.slice pna 1 pnk, .slice pra 1 prk, .slice pza 2 pzk])] [.gn (gS (.slice ba (Nn.NatMath.len 16) bk) (Nn.NatMath.digs 16)), .gn (gS (.slice va (Nn.NatMath.len 1) vk) (Nn.NatMath.digs 1)), .gn (gS (.slice aa (Nn.NatMath.len 10) ak) (Nn.NatMath.digs 10)), .gn (gS (.slice ua (Nn.NatMath.len 1) uk) (Nn.NatMath.digs 1)), .gn (gS (.slice na (Nn.NatMath.len 187) nk) (Nn.NatMath.digs 187)), .gn (gS (.slice ta (Nn.NatMath.len 2) tk) (Nn.NatMath.digs 2)), .gn (gS (.slice ea (Nn.NatMath.len 3) ek) (Nn.NatMath.digs 3)), .gn (gCt 3 ct17 (.slice qna 1 qnk) (.slice qra 1 qrk) (.slice qza 4 qzk)), .gn (gCt 3 ct11 (.slice pna 1 pnk) (.slice pra 1 prk) (.slice pza 2 pzk))] wx))
  case first =>
   have E20 := Zh E19.out.drew
   clear E19
   refine wp_regionU (S := fun w' => w'.cell? ⟨w.heap.size + 1, 0, none⟩ = some (.slice qna 1 qnk)) [] (by kernel_rfl) (((E20.out.bx 7 rfl).cell 0 rfl)) (fun hHeld => ?_)
   generalize wc.drew = w14 at *
   refine uPl [0, 1] ?_
   iterate 2 (refine uTl (v := ?_) ?_ ?_; rotate_left; (focus (intro wS hSw; (try dsimp only at hSw); go_simp; try with_reducible rfl)); try simp only [Act.put, pq0, pq1, pq2])
   refine Pl.z ?_
   refine uReady (rs := [2, 7]) (by kernel_rfl) (by simp) ?_
   refine (ReadyU.cons rfl (fun KK hKK => ?_) (ReadyU.cons rfl (fun KK hKK => ?_) ReadyU.nil))
   ·skip
    go_simp
    refine (one_c).mono ?_
    rintro e w15 ⟨⟨va, vk, rfl, vh⟩, hb⟩
    have E21 := Zh ((E20.out.below hb).noteS vh.out rfl)
    clear E20 hb vh
    (try dsimp only)
    clear hHeld
    refine hKK.out _ _ (((E21.out.bx 7 rfl).cell 0 rfl)) (fun hHeld => ?_)
    clear hKK KK
    try simp only [Act.put, pq0, pq1, pq2]
    refine uReady (rs := [3, 7]) (by kernel_rfl) (by simp) ?_
    refine (ReadyU.cons rfl (fun KK hKK => ?_) (ReadyU.cons rfl (fun KK hKK => ?_) ReadyU.nil))
    ·skip
     go_simp
     refine (Nn.subF (S := 16) rfl (by decide) (nt_of (gCt.n (E21.out.fc 6 rfl)) ⟨by decide, by decide⟩ : Nn.Nt _ _ 17) (gS.sl (E21.out.fc 0 rfl)) (len_small (by decide)) (len_small (by decide))).mono ?_
     rintro e w16 ⟨⟨ba, bk, rfl, bh⟩, hb⟩
     have E22 := Zh ((E21.out.below hb).noteS bh.out rfl)
     clear E21 hb bh
     (try dsimp only)
     clear hHeld
     refine hKK.out _ _ (((E22.out.bx 7 rfl).cell 0 rfl)) (fun hHeld => ?_)
     clear hKK KK
     try simp only [Act.put, pq0, pq1, pq2]
     refine uPl [4, 5, 6] ?_
     iterate 3 (refine uTl (v := ?_) ?_ ?_; rotate_left; (focus (intro wS hSw; (try dsimp only at hSw); go_simp; try with_reducible rfl)); try simp only [Act.put, pq0, pq1, pq2])
     refine Pl.z ?_
     refine uRd 7 (fun KK hKK => ?_)
     go_simp
     have E23 := Zh ((E22.out.push 24 [.slice none 0 0] (w16.heap.size) (by simp)))
     (try dsimp only)
     clear hHeld
     refine hKK.out _ _ (((E23.out.bx 8 rfl).cell 0 rfl)) (fun hHeld => ?_)
     clear hKK KK
     try simp only [Act.put, pq0, pq1, pq2]
     clear E22
     generalize w16.alloc (.cells #[.slice none 0 0] 24) = w17 at *
     have b13 := E23.out.bx 0 rfl
     have c13_0 := b13.cell 0 rfl
     have f13_0 := b13.frozen 0
     clear b13
     refine uRd 8 (fun KK hKK => ?_)
     go_simp
     have E24 : Hid (Env (fun _ => True) w [(w16.heap.size, 24, [.slice ba (Nn.NatMath.len 16) bk]), (ag, 24, [.slice aa (Nn.NatMath.len 10) ak]), (w8.heap.size, 24, [.slice na (Nn.NatMath.len 187) nk]), (w3.heap.size, 24, [.slice ea (Nn.NatMath.len 3) ek]), (w1.heap.size, 24, [.slice ta (Nn.NatMath.len 2) tk]), (w.heap.size + 1 + 1 + 1 + 1, 24, [.slice none 0 0]), (w.heap.size + 1 + 1 + 1, 26, [.slice none 0 0, .slice none 0 0]), (w.heap.size + 1 + 1, 24, [.slice ea (Nn.NatMath.len 3) ek]), (w.heap.size + 1, 57, [.slice qna 1 qnk, .slice qra 1 qrk, .slice qza 4 qzk]), (w.heap.size, 57, [.slice pna 1 pnk, .slice pra 1 prk, .slice pza 2 pzk])] [.gn (gS (.slice ba (Nn.NatMath.len 16) bk) (Nn.NatMath.digs 16)), .gn (gS (.slice va (Nn.NatMath.len 1) vk) (Nn.NatMath.digs 1)), .gn (gS (.slice aa (Nn.NatMath.len 10) ak) (Nn.NatMath.digs 10)), .gn (gS (.slice ua (Nn.NatMath.len 1) uk) (Nn.NatMath.digs 1)), .gn (gS (.slice na (Nn.NatMath.len 187) nk) (Nn.NatMath.digs 187)), .gn (gS (.slice ta (Nn.NatMath.len 2) tk) (Nn.NatMath.digs 2)), .gn (gS (.slice ea (Nn.NatMath.len 3) ek) (Nn.NatMath.digs 3)), .gn (gCt 3 ct17 (.slice qna 1 qnk) (.slice qra 1 qrk) (.slice qza 4 qzk)), .gn (gCt 3 ct11 (.slice pna 1 pnk) (.slice pra 1 prk) (.slice pza 2 pzk))] _) := Zh ((E23.out.set 0 0 (.slice ba (Nn.NatMath.len 16) bk) rfl))
     (try dsimp only)
     clear hHeld
     refine hKK.out _ _ (((E24.out.bx 8 rfl).cell 0 rfl)) (fun hHeld => ?_)
     clear hKK KK
     try simp only [Act.put, pq0, pq1, pq2]
     refine uTk (i := 9) (some 16) (v := ?_) ?_ ?_
     rotate_left
     ·(intro wS hSw; (try dsimp only at hSw); go_simp; try with_reducible rfl)
     try simp only [Act.put, pq0, pq1, pq2]
     refine uDone (by kernel_rfl) ?_ _
     go_wp2_with fail
     go_meet
     exact ⟨w16.heap.size, va, vk, ba, bk, rfl, rfl, Zh E24.out⟩
    ·skip
     go_simp
     have E22 := Zh ((E21.out.push 24 [.slice none 0 0] (w15.heap.size) (by simp)))
     (try dsimp only)
     clear hHeld
     refine hKK.out _ _ (((E22.out.bx 8 rfl).cell 0 rfl)) (fun hHeld => ?_)
     clear hKK KK
     try simp only [Act.put, pq0, pq1, pq2]
     clear E21
     generalize w15.alloc (.cells #[.slice none 0 0] 24) = w16 at *
     refine uRd 3 (fun KK hKK => ?_)
     go_simp
     refine (Nn.subF (S := 16) rfl (by decide) (nt_of (gCt.n (E22.out.fc 6 rfl)) ⟨by decide, by decide⟩ : Nn.Nt _ _ 17) (gS.sl (E22.out.fc 0 rfl)) (len_small (by decide)) (len_small (by decide))).mono ?_
     rintro e w17 ⟨⟨ba, bk, rfl, bh⟩, hb⟩
     have E23 := Zh ((E22.out.below hb).noteS bh.out rfl)
     clear E22 hb bh
     (try dsimp only)
     clear hHeld
     refine hKK.out _ _ (((E23.out.bx 8 rfl).cell 0 rfl)) (fun hHeld => ?_)
     clear hKK KK
     try simp only [Act.put, pq0, pq1, pq2]
     refine uPl [4, 5, 6] ?_
     iterate 3 (refine uTl (v := ?_) ?_ ?_; rotate_left; (focus (intro wS hSw; (try dsimp only at hSw); go_simp; try with_reducible rfl)); try simp only [Act.put, pq0, pq1, pq2])
     refine Pl.z ?_
     have b13 := E23.out.bx 0 rfl
     have c13_0 := b13.cell 0 rfl
     have f13_0 := b13.frozen 0
     clear b13
     refine uRd 8 (fun KK hKK => ?_)
     go_simp
     have E24 : Hid (Env (fun _ => True) w [(w15.heap.size, 24, [.slice ba (Nn.NatMath.len 16) bk]), (ag, 24, [.slice aa (Nn.NatMath.len 10) ak]), (w8.heap.size, 24, [.slice na (Nn.NatMath.len 187) nk]), (w3.heap.size, 24, [.slice ea (Nn.NatMath.len 3) ek]), (w1.heap.size, 24, [.slice ta (Nn.NatMath.len 2) tk]), (w.heap.size + 1 + 1 + 1 + 1, 24, [.slice none 0 0]), (w.heap.size + 1 + 1 + 1, 26, [.slice none 0 0, .slice none 0 0]), (w.heap.size + 1 + 1, 24, [.slice ea (Nn.NatMath.len 3) ek]), (w.heap.size + 1, 57, [.slice qna 1 qnk, .slice qra 1 qrk, .slice qza 4 qzk]), (w.heap.size, 57, [.slice pna 1 pnk, .slice pra 1 prk, .slice pza 2 pzk])] [.gn (gS (.slice ba (Nn.NatMath.len 16) bk) (Nn.NatMath.digs 16)), .gn (gS (.slice va (Nn.NatMath.len 1) vk) (Nn.NatMath.digs 1)), .gn (gS (.slice aa (Nn.NatMath.len 10) ak) (Nn.NatMath.digs 10)), .gn (gS (.slice ua (Nn.NatMath.len 1) uk) (Nn.NatMath.digs 1)), .gn (gS (.slice na (Nn.NatMath.len 187) nk) (Nn.NatMath.digs 187)), .gn (gS (.slice ta (Nn.NatMath.len 2) tk) (Nn.NatMath.digs 2)), .gn (gS (.slice ea (Nn.NatMath.len 3) ek) (Nn.NatMath.digs 3)), .gn (gCt 3 ct17 (.slice qna 1 qnk) (.slice qra 1 qrk) (.slice qza 4 qzk)), .gn (gCt 3 ct11 (.slice pna 1 pnk) (.slice pra 1 prk) (.slice pza 2 pzk))] _) := Zh ((E23.out.set 0 0 (.slice ba (Nn.NatMath.len 16) bk) rfl))
     (try dsimp only)
     clear hHeld
     refine hKK.out _ _ (((E24.out.bx 8 rfl).cell 0 rfl)) (fun hHeld => ?_)
     clear hKK KK
     try simp only [Act.put, pq0, pq1, pq2]
     refine uTk (i := 9) (some 16) (v := ?_) ?_ ?_
     rotate_left
     ·(intro wS hSw; (try dsimp only at hSw); go_simp; try with_reducible rfl)
     try simp only [Act.put, pq0, pq1, pq2]
     refine uDone (by kernel_rfl) ?_ _
     go_wp2_with fail
     go_meet
     exact ⟨w15.heap.size, va, vk, ba, bk, rfl, rfl, Zh E24.out⟩
   ·skip
    go_simp
    have E21 := Zh ((E20.out.push 24 [.slice none 0 0] (w14.heap.size) (by simp)))
    (try dsimp only)
    clear hHeld
    refine hKK.out _ _ (((E21.out.bx 8 rfl).cell 0 rfl)) (fun hHeld => ?_)
    clear hKK KK
    try simp only [Act.put, pq0, pq1, pq2]
    clear E20
    generalize w14.alloc (.cells #[.slice none 0 0] 24) = w15 at *
    refine uRd 2 (fun KK hKK => ?_)
    go_simp
    refine (one_c).mono ?_
    rintro e w16 ⟨⟨va, vk, rfl, vh⟩, hb⟩
    have E22 := Zh ((E21.out.below hb).noteS vh.out rfl)
    clear E21 hb vh
    (try dsimp only)
    clear hHeld
    refine hKK.out _ _ (((E22.out.bx 8 rfl).cell 0 rfl)) (fun hHeld => ?_)
    clear hKK KK
    try simp only [Act.put, pq0, pq1, pq2]
    refine uRd 3 (fun KK hKK => ?_)
    go_simp
    refine (Nn.subF (S := 16) rfl (by decide) (nt_of (gCt.n (E22.out.fc 6 rfl)) ⟨by decide, by decide⟩ : Nn.Nt _ _ 17) (gS.sl (E22.out.fc 0 rfl)) (len_small (by decide)) (len_small (by decide))).mono ?_
    rintro e w17 ⟨⟨ba, bk, rfl, bh⟩, hb⟩
    have E23 := Zh ((E22.out.below hb).noteS bh.out rfl)
    clear E22 hb bh
    (try dsimp only)
    clear hHeld
    refine hKK.out _ _ (((E23.out.bx 8 rfl).cell 0 rfl)) (fun hHeld => ?_)
    clear hKK KK
    try simp only [Act.put, pq0, pq1, pq2]
    refine uPl [4, 5, 6] ?_
    iterate 3 (refine uTl (v := ?_) ?_ ?_; rotate_left; (focus (intro wS hSw; (try dsimp only at hSw); go_simp; try with_reducible rfl)); try simp only [Act.put, pq0, pq1, pq2])
    refine Pl.z ?_
    have b13 := E23.out.bx 0 rfl
    have c13_0 := b13.cell 0 rfl
    have f13_0 := b13.frozen 0
    clear b13
    refine uRd 8 (fun KK hKK => ?_)
    go_simp
    have E24 : Hid (Env (fun _ => True) w [(w14.heap.size, 24, [.slice ba (Nn.NatMath.len 16) bk]), (ag, 24, [.slice aa (Nn.NatMath.len 10) ak]), (w8.heap.size, 24, [.slice na (Nn.NatMath.len 187) nk]), (w3.heap.size, 24, [.slice ea (Nn.NatMath.len 3) ek]), (w1.heap.size, 24, [.slice ta (Nn.NatMath.len 2) tk]), (w.heap.size + 1 + 1 + 1 + 1, 24, [.slice none 0 0]), (w.heap.size + 1 + 1 + 1, 26, [.slice none 0 0, .slice none 0 0]), (w.heap.size + 1 + 1, 24, [.slice ea (Nn.NatMath.len 3) ek]), (w.heap.size + 1, 57, [.slice qna 1 qnk, .slice qra 1 qrk, .slice qza 4 qzk]), (w.heap.size, 57, [.slice pna 1 pnk, .slice pra 1 prk, .slice pza 2 pzk])] [.gn (gS (.slice ba (Nn.NatMath.len 16) bk) (Nn.NatMath.digs 16)), .gn (gS (.slice va (Nn.NatMath.len 1) vk) (Nn.NatMath.digs 1)), .gn (gS (.slice aa (Nn.NatMath.len 10) ak) (Nn.NatMath.digs 10)), .gn (gS (.slice ua (Nn.NatMath.len 1) uk) (Nn.NatMath.digs 1)), .gn (gS (.slice na (Nn.NatMath.len 187) nk) (Nn.NatMath.digs 187)), .gn (gS (.slice ta (Nn.NatMath.len 2) tk) (Nn.NatMath.digs 2)), .gn (gS (.slice ea (Nn.NatMath.len 3) ek) (Nn.NatMath.digs 3)), .gn (gCt 3 ct17 (.slice qna 1 qnk) (.slice qra 1 qrk) (.slice qza 4 qzk)), .gn (gCt 3 ct11 (.slice pna 1 pnk) (.slice pra 1 prk) (.slice pza 2 pzk))] _) := Zh ((E23.out.set 0 0 (.slice ba (Nn.NatMath.len 16) bk) rfl))
    (try dsimp only)
    clear hHeld
    refine hKK.out _ _ (((E24.out.bx 8 rfl).cell 0 rfl)) (fun hHeld => ?_)
    clear hKK KK
    try simp only [Act.put, pq0, pq1, pq2]
    refine uTk (i := 9) (some 16) (v := ?_) ?_ ?_
    rotate_left
    ·(intro wS hSw; (try dsimp only at hSw); go_simp; try with_reducible rfl)
    try simp only [Act.put, pq0, pq1, pq2]
    refine uDone (by kernel_rfl) ?_ _
    go_wp2_with fail
    go_meet
    exact ⟨w14.heap.size, va, vk, ba, bk, rfl, rfl, Zh E24.out⟩
  case rest =>
   obtain ⟨bg, va, vk, ba, bk, rfl, rfl, E25⟩ := hcut
   clear E19
   have b14 := E25.out.bx 1 rfl
   have c14_0 := b14.cell 0 rfl
   clear b14
   have b15 := E25.out.bx 0 rfl
   have c15_0 := b15.cell 0 rfl
   clear b15
   go_wp2_with fail
   refine (Nn.mulF (S := 160) rfl (len_small (by decide)) (gS.sl (E25.out.fc 2 rfl)) (gS.sl (E25.out.fc 0 rfl)) (len_small (by decide)) (len_small (by decide))).mono ?_
   rintro e w18 ⟨⟨ha, hk, rfl, hh⟩, hb⟩
   have E26 := Zh ((E25.out.below hb).noteS hh.out rfl)
   clear c14_0 c15_0 E25 hb hh
   go_wp2_with fail
   have E27 := Zh ((E26.out.push 24 [.slice ha (Nn.NatMath.len 160) hk] (w18.heap.size) (by simp)))
   clear E26
   generalize w18.alloc (.cells #[.slice ha (Nn.NatMath.len 160) hk] 24) = w19 at *
   have E28 := Zh E27.out.drew
   clear E27
   refine wp_regionU (S := fun w' => w'.cell? ⟨w.heap.size + 1 + 1, 0, none⟩ = some (.slice ea (Nn.NatMath.len 3) ek) ∧ w'.cell? ⟨w18.heap.size, 0, none⟩ = some (.slice ha (Nn.NatMath.len 160) hk)) [] (by kernel_rfl) (⟨((E28.out.bx 8 rfl).cell 0 rfl), ((E28.out.bx 0 rfl).cell 0 rfl)⟩) (fun hHeld => ?_)
   generalize w19.drew = w20 at *
   refine uTk (i := 0) (some 102) (v := ?_) ?_ ?_
   rotate_left
   ·(intro wS hSw; (try dsimp only at hSw); go_simp; try with_reducible rfl)
   try simp only [Act.put, pq0, pq1, pq2]
   refine uRd 1 (fun KK hKK => ?_)
   go_simp
   refine (small_c 3 (by decide)).mono ?_
   rintro e w21 ⟨⟨ga, gk, rfl, gh⟩, hb⟩
   have E29 := Zh ((E28.out.below hb).noteS gh.out rfl)
   clear E28 hb gh
   (try dsimp only)
   clear hHeld
   refine hKK.out _ _ (⟨((E29.out.bx 8 rfl).cell 0 rfl), ((E29.out.bx 0 rfl).cell 0 rfl)⟩) (fun hHeld => ?_)
   clear hKK KK
   try simp only [Act.put, pq0, pq1, pq2]
   refine uRd 2 (fun KK hKK => ?_)
   go_simp
   refine (vbelow_c (t := false) (by decide) (len_small (by decide)) (len_small (by decide)) (gS.sl (E29.out.fc 8 rfl)) (gS.sl (E29.out.fc 0 rfl))).mono ?_
   rintro e w22 ⟨rfl, hb⟩
   have E30 := Zh (E29.out.below hb)
   clear E29 hb
   (try dsimp only)
   clear hHeld
   refine hKK.out _ _ (⟨((E30.out.bx 8 rfl).cell 0 rfl), ((E30.out.bx 0 rfl).cell 0 rfl)⟩) (fun hHeld => ?_)
   clear hKK KK
   try simp only [Act.put, pq0, pq1, pq2]
   refine uPl [3, 4, 5] ?_
   iterate 3 (refine uTl (v := ?_) ?_ ?_; rotate_left; (focus (intro wS hSw; (try dsimp only at hSw); go_simp; try with_reducible rfl)); try simp only [Act.put, pq0, pq1, pq2])
   refine Pl.z ?_
   refine uRd 6 (fun KK hKK => ?_)
   go_simp
   refine (vbelow_c (t := true) (by decide) (len_small (by decide)) (len_small (by decide)) (gS.sl (E30.out.fc 8 rfl)) (gS.sl (E30.out.fc 1 rfl))).mono ?_
   rintro e w23 ⟨rfl, hb⟩
   have E31 := Zh (E30.out.below hb)
   clear E30 hb
   (try dsimp only)
   clear hHeld
   refine hKK.out _ _ (⟨((E31.out.bx 8 rfl).cell 0 rfl), ((E31.out.bx 0 rfl).cell 0 rfl)⟩) (fun hHeld => ?_)
   clear hKK KK
   try simp only [Act.put, pq0, pq1, pq2]
   refine uPl [7, 8] ?_
   iterate 2 (refine uTl (v := ?_) ?_ ?_; rotate_left; (focus (intro wS hSw; (try dsimp only at hSw); go_simp; try with_reducible rfl)); try simp only [Act.put, pq0, pq1, pq2])
   refine Pl.z ?_
   refine uDone (by kernel_rfl) ?_ _
   have b16 := E31.out.bx 8 rfl
   have c16_0 := b16.cell 0 rfl
   clear b16
   have b17 := E31.out.bx 0 rfl
   have c17_0 := b17.cell 0 rfl
   clear b17
   go_wp2_with fail
   refine (Nn.inv_m inv3.1 inv3.2 (by decide) (Nat.le_trans (Nn.NatMath.len_le_iff.2 (show 160 < Nn.NatMath.Bp 1 from by decide)) (by decide)) (gS.sl (E31.out.fc 8 rfl)) (gS.sl (E31.out.fc 1 rfl))).mono ?_
   rintro e w24 ⟨⟨da, dk, rfl, dh⟩, hb⟩
   have E32 := Zh ((E31.out.below hb).noteS dh.out rfl)
   clear c16_0 c17_0 E31 hb dh
   go_wp2_with fail
   have E33 := Zh ((E32.out.push 24 [.slice da (Nn.NatMath.len 107) dk] (w24.heap.size) (by simp)))
   clear E32
   generalize w24.alloc (.cells #[.slice da (Nn.NatMath.len 107) dk] 24) = w25 at *
   have E34 := Zh E33.out.drew
   clear E33
   refine wp_regionU (S := fun w' => w'.cell? ⟨w8.heap.size, 0, none⟩ = some (.slice na (Nn.NatMath.len 187) nk) ∧ w'.cell? ⟨w.heap.size + 1 + 1, 0, none⟩ = some (.slice ea (Nn.NatMath.len 3) ek) ∧ w'.cell? ⟨w24.heap.size, 0, none⟩ = some (.slice da (Nn.NatMath.len 107) dk)) [] (by kernel_rfl) (⟨((E34.out.bx 4 rfl).cell 0 rfl), ((E34.out.bx 9 rfl).cell 0 rfl), ((E34.out.bx 0 rfl).cell 0 rfl)⟩) (fun hHeld => ?_)
   generalize w25.drew = w26 at *
   refine uPl [0, 1, 2, 3] ?_
   iterate 4 (refine uTl (v := ?_) ?_ ?_; rotate_left; (focus (intro wS hSw; (try dsimp only at hSw); go_simp; try with_reducible rfl)); try simp only [Act.put, pq0, pq1, pq2])
   refine Pl.z ?_
   have b18 := E34.out.bx 8 rfl
   have c18_0 := b18.cell 0 rfl
   have c18_1 := b18.cell 1 rfl
   have f18_0 := b18.frozen 0
   have f18_1 := b18.frozen 1
   clear b18
   refine uRd 4 (fun KK hKK => ?_)
   go_simp
   have E35 : Hid (Env (fun _ => True) w [(w24.heap.size, 24, [.slice da (Nn.NatMath.len 107) dk]), (w18.heap.size, 24, [.slice ha (Nn.NatMath.len 160) hk]), (bg, 24, [.slice ba (Nn.NatMath.len 16) bk]), (ag, 24, [.slice aa (Nn.NatMath.len 10) ak]), (w8.heap.size, 24, [.slice na (Nn.NatMath.len 187) nk]), (w3.heap.size, 24, [.slice ea (Nn.NatMath.len 3) ek]), (w1.heap.size, 24, [.slice ta (Nn.NatMath.len 2) tk]), (w.heap.size + 1 + 1 + 1 + 1, 24, [.slice none 0 0]), (w.heap.size + 1 + 1 + 1, 26, [.slice na (Nn.NatMath.len 187) nk, .slice ea (Nn.NatMath.len 3) ek]), (w.heap.size + 1 + 1, 24, [.slice ea (Nn.NatMath.len 3) ek]), (w.heap.size + 1, 57, [.slice qna 1 qnk, .slice qra 1 qrk, .slice qza 4 qzk]), (w.heap.size, 57, [.slice pna 1 pnk, .slice pra 1 prk, .slice pza 2 pzk])] [.gn (gS (.slice da (Nn.NatMath.len 107) dk) (Nn.NatMath.digs 107)), .gn (gS (.slice ga (Nn.NatMath.len 3) gk) (Nn.NatMath.digs 3)), .gn (gS (.slice ha (Nn.NatMath.len 160) hk) (Nn.NatMath.digs 160)), .gn (gS (.slice ba (Nn.NatMath.len 16) bk) (Nn.NatMath.digs 16)), .gn (gS (.slice va (Nn.NatMath.len 1) vk) (Nn.NatMath.digs 1)), .gn (gS (.slice aa (Nn.NatMath.len 10) ak) (Nn.NatMath.digs 10)), .gn (gS (.slice ua (Nn.NatMath.len 1) uk) (Nn.NatMath.digs 1)), .gn (gS (.slice na (Nn.NatMath.len 187) nk) (Nn.NatMath.digs 187)), .gn (gS (.slice ta (Nn.NatMath.len 2) tk) (Nn.NatMath.digs 2)), .gn (gS (.slice ea (Nn.NatMath.len 3) ek) (Nn.NatMath.digs 3)), .gn (gCt 3 ct17 (.slice qna 1 qnk) (.slice qra 1 qrk) (.slice qza 4 qzk)), .gn (gCt 3 ct11 (.slice pna 1 pnk) (.slice pra 1 prk) (.slice pza 2 pzk))] _) := Zh (((E34.out.set 8 0 (.slice na (Nn.NatMath.len 187) nk) rfl).set 8 1 (.slice ea (Nn.NatMath.len 3) ek) rfl))
   (try dsimp only)
   clear hHeld
   refine hKK.out _ _ (⟨((E35.out.bx 4 rfl).cell 0 rfl), ((E35.out.bx 9 rfl).cell 0 rfl), ((E35.out.bx 0 rfl).cell 0 rfl)⟩) (fun hHeld => ?_)
   clear hKK KK
   try simp only [Act.put, pq0, pq1, pq2]
   have b19 := E35.out.bx 7 rfl
   have c19_0 := b19.cell 0 rfl
   have f19_0 := b19.frozen 0
   clear b19
   refine uRd 5 (fun KK hKK => ?_)
   go_simp
   have E36 : Hid (Env (fun _ => True) w [(w24.heap.size, 24, [.slice da (Nn.NatMath.len 107) dk]), (w18.heap.size, 24, [.slice ha (Nn.NatMath.len 160) hk]), (bg, 24, [.slice ba (Nn.NatMath.len 16) bk]), (ag, 24, [.slice aa (Nn.NatMath.len 10) ak]), (w8.heap.size, 24, [.slice na (Nn.NatMath.len 187) nk]), (w3.heap.size, 24, [.slice ea (Nn.NatMath.len 3) ek]), (w1.heap.size, 24, [.slice ta (Nn.NatMath.len 2) tk]), (w.heap.size + 1 + 1 + 1 + 1, 24, [.slice da (Nn.NatMath.len 107) dk]), (w.heap.size + 1 + 1 + 1, 26, [.slice na (Nn.NatMath.len 187) nk, .slice ea (Nn.NatMath.len 3) ek]), (w.heap.size + 1 + 1, 24, [.slice ea (Nn.NatMath.len 3) ek]), (w.heap.size + 1, 57, [.slice qna 1 qnk, .slice qra 1 qrk, .slice qza 4 qzk]), (w.heap.size, 57, [.slice pna 1 pnk, .slice pra 1 prk, .slice pza 2 pzk])] [.gn (gS (.slice da (Nn.NatMath.len 107) dk) (Nn.NatMath.digs 107)), .gn (gS (.slice ga (Nn.NatMath.len 3) gk) (Nn.NatMath.digs 3)), .gn (gS (.slice ha (Nn.NatMath.len 160) hk) (Nn.NatMath.digs 160)), .gn (gS (.slice ba (Nn.NatMath.len 16) bk) (Nn.NatMath.digs 16)), .gn (gS (.slice va (Nn.NatMath.len 1) vk) (Nn.NatMath.digs 1)), .gn (gS (.slice aa (Nn.NatMath.len 10) ak) (Nn.NatMath.digs 10)), .gn (gS (.slice ua (Nn.NatMath.len 1) uk) (Nn.NatMath.digs 1)), .gn (gS (.slice na (Nn.NatMath.len 187) nk) (Nn.NatMath.digs 187)), .gn (gS (.slice ta (Nn.NatMath.len 2) tk) (Nn.NatMath.digs 2)), .gn (gS (.slice ea (Nn.NatMath.len 3) ek) (Nn.NatMath.digs 3)), .gn (gCt 3 ct17 (.slice qna 1 qnk) (.slice qra 1 qrk) (.slice qza 4 qzk)), .gn (gCt 3 ct11 (.slice pna 1 pnk) (.slice pra 1 prk) (.slice pza 2 pzk))] _) := Zh ((E35.out.set 7 0 (.slice da (Nn.NatMath.len 107) dk) rfl))
   (try dsimp only)
   clear hHeld
   refine hKK.out _ _ (⟨((E36.out.bx 4 rfl).cell 0 rfl), ((E36.out.bx 9 rfl).cell 0 rfl), ((E36.out.bx 0 rfl).cell 0 rfl)⟩) (fun hHeld => ?_)
   clear hKK KK
   try simp only [Act.put, pq0, pq1, pq2]
   refine uTk (i := 6) (some 8) (v := ?_) ?_ ?_
   rotate_left
   ·(intro wS hSw; (try dsimp only at hSw); go_simp; try with_reducible rfl)
   try simp only [Act.put, pq0, pq1, pq2]
   refine uDone (by kernel_rfl) ?_ _
   clear c18_0 c18_1 f18_0 f18_1 c19_0 f19_0 E34 E35
   generalize ((w26.setCell ⟨w.heap.size + 1 + 1 + 1, 0, none⟩ (.slice na (Nn.NatMath.len 187) nk)).setCell ⟨w.heap.size + 1 + 1 + 1, 1, none⟩ (.slice ea (Nn.NatMath.len 3) ek)).setCell ⟨w.heap.size + 1 + 1 + 1 + 1, 0, none⟩ (.slice da (Nn.NatMath.len 107) dk) = w27 at *
   have b20 := E36.out.bx 8 rfl
   have c20_0 := b20.cell 0 rfl
   have c20_1 := b20.cell 1 rfl
   clear b20
   have b21 := E36.out.bx 7 rfl
   have c21_0 := b21.cell 0 rfl
   clear b21
   go_wp2
   have hfin := E36.out
   have q22 := (hfin.bx 8 rfl).cell 0 rfl
   have q23 := (hfin.bx 8 rfl).cell 1 rfl
   have q24 := (hfin.bx 7 rfl).cell 0 rfl
   exact bodyPost_ret (v := .tuple #[.agg #[.slice na (Nn.NatMath.len 187) nk, .slice ea (Nn.NatMath.len 3) ek], .agg #[.slice da (Nn.NatMath.len 107) dk], .int .i64 0]) (by simp [results, Tryz.results32, go_sem, q22, q23, q24]) rfl ⟨⟨na, nk, ea, ek, da, dk, rfl, Zh (gS.sl (hfin.out 7 rfl)), Zh (gS.sl (hfin.out 0 rfl))⟩, hfin.bel⟩
theorem Certify_11 {w : World} (hl : Laid w) : Calls Tryz.prog 31 #[.int .i64 11] w fun e w' => (∃ xna xnk xra xrk xza xzk, e = .returned (.tuple #[.agg #[.slice xna 1 xnk, .slice xra 1 xrk, .slice xza 2 xzk], .int .i64 0]) ∧ Hid (Fct.at w' (fun b => w.heap.size ≤ b) (.gn (gCt 3 ct11 (.slice xna 1 xnk) (.slice xra 1 xrk) (.slice xza 2 xzk))))) ∧ Below w.heap.size w w' := by
 exact Certify_g 3 ct11 hl do11
theorem Certify_17 {w : World} (hl : Laid w) : Calls Tryz.prog 31 #[.int .i64 17] w fun e w' => (∃ xna xnk xra xrk xza xzk, e = .returned (.tuple #[.agg #[.slice xna 1 xnk, .slice xra 1 xrk, .slice xza 4 xzk], .int .i64 0]) ∧ Hid (Fct.at w' (fun b => w.heap.size ≤ b) (.gn (gCt 3 ct17 (.slice xna 1 xnk) (.slice xra 1 xrk) (.slice xza 4 xzk))))) ∧ Below w.heap.size w w' := by
 exact Certify_g 3 ct17 hl do17
set_option maxRecDepth 100000 in
set_option maxHeartbeats 8000000 in
theorem awake24_c  {w : World}  (hl0 : Laid w) :
  Calls Tryz.prog 8 #[] w fun e w' => e = .returned (.bool true) ∧ Below w.heap.size w w' := by
 have E0 := Zh (Env.start (fun _ => True) w)
 go_enter Tryz.func8, Tryz.ntmps8
 have hl := Zh hl0
 clear hl0
 go_wp2_with fail
 refine (Certify_11 (hl.out.below E0.out.bel)).mono ?_
 rintro e w1 ⟨⟨pna, pnk, pra, prk, pza, pzk, rfl, ph⟩, hb⟩
 have E1 := Zh (E0.out.got (E0.out.below hb) (.gn (gCt 3 ct11 (.slice pna 1 pnk) (.slice pra 1 prk) (.slice pza 2 pzk))) (Zh (ctGe ph.out)).out)
 clear E0 hb
 go_wp2_with fail
 have E2 := Zh ((E1.out.push 57 [.slice pna 1 pnk, .slice pra 1 prk, .slice pza 2 pzk] (w1.heap.size) (by simp)))
 refine (Certify_17 (hl.out.below E2.out.bel)).mono ?_
 rintro e w2 ⟨⟨qna, qnk, qra, qrk, qza, qzk, rfl, qh⟩, hb⟩
 have E3 := Zh (E2.out.got (E2.out.below hb) (.gn (gCt 3 ct17 (.slice qna 1 qnk) (.slice qra 1 qrk) (.slice qza 4 qzk))) (Zh (ctGe qh.out)).out)
 clear E1 E2 hb
 go_upto_region 3 with (fail)
 have E4 := Zh ((E3.out.push 57 [.slice qna 1 qnk, .slice qra 1 qrk, .slice qza 4 qzk] (w2.heap.size) (by simp)))
 clear E3
 generalize w2.alloc (.cells #[.slice qna 1 qnk, .slice qra 1 qrk, .slice qza 4 qzk] 57) = w3 at *
 go_cut [5, 6, 7] (fun s5 s6 s7 wx => ∃ kg dg ua uk na nk ea ek da dk, s5 = .pointer (some ⟨kg, 0, none⟩) ∧ s6 = .pointer (some ⟨dg, 0, none⟩) ∧ s7 = .int .i64 0 ∧ Hid (Env (fun _ => True) w [(dg, 24, [.slice da (Nn.NatMath.len 107) dk]), (kg, 26, [.slice na (Nn.NatMath.len 187) nk, .slice ea (Nn.NatMath.len 3) ek]), (w2.heap.size, 57, [.slice qna 1 qnk, .slice qra 1 qrk, .slice qza 4 qzk]), (w1.heap.size, 57, [.slice pna 1 pnk, .slice pra 1 prk, .slice pza 2 pzk])] [.gn (gS (.slice da (Nn.NatMath.len 107) dk) (Nn.NatMath.digs 107)), .gn (gS (.slice na (Nn.NatMath.len 187) nk) (Nn.NatMath.digs 187)), .gn (gS (.slice ua (Nn.NatMath.len 3) uk) (Nn.NatMath.digs 3)), .gn (gCt 3 ct17 (.slice qna 1 qnk) (.slice qra 1 qrk) (.slice qza 4 qzk)), .gn (gCt 3 ct11 (.slice pna 1 pnk) (.slice pra 1 prk) (.slice pza 2 pzk))] wx))
 case first =>
  have E5 := Zh E4.out.drew
  clear E4
  refine wp_regionU (S := fun w' => w'.cell? ⟨w1.heap.size, 0, none⟩ = some (.slice pna 1 pnk) ∧ w'.cell? ⟨w1.heap.size, 1, none⟩ = some (.slice pra 1 prk) ∧ w'.cell? ⟨w1.heap.size, 2, none⟩ = some (.slice pza 2 pzk) ∧ w'.cell? ⟨w2.heap.size, 0, none⟩ = some (.slice qna 1 qnk) ∧ w'.cell? ⟨w2.heap.size, 1, none⟩ = some (.slice qra 1 qrk) ∧ w'.cell? ⟨w2.heap.size, 2, none⟩ = some (.slice qza 4 qzk)) [] (by kernel_rfl) (⟨((E5.out.bx 1 rfl).cell 0 rfl), ((E5.out.bx 1 rfl).cell 1 rfl), ((E5.out.bx 1 rfl).cell 2 rfl), ((E5.out.bx 0 rfl).cell 0 rfl), ((E5.out.bx 0 rfl).cell 1 rfl), ((E5.out.bx 0 rfl).cell 2 rfl)⟩) (fun hHeld => ?_)
  generalize w3.drew = w4 at *
  refine uPl [0, 1] ?_
  iterate 2 (refine uTl (v := ?_) ?_ ?_; rotate_left; (focus (intro wS hSw; (try dsimp only at hSw); go_simp; try with_reducible rfl)); try simp only [Act.put, pq0, pq1, pq2])
  refine Pl.z ?_
  refine uReady (rs := [2, 8, 9]) (by kernel_rfl) (by simp) ?_
  refine (ReadyU.cons rfl (fun KK hKK => ?_) (ReadyU.cons rfl (fun KK hKK => ?_) (ReadyU.cons rfl (fun KK hKK => ?_) ReadyU.nil)))
  ·skip
   go_simp
   refine (of_c 3 (by decide)).mono ?_
   rintro e w5 ⟨⟨ua, uk, rfl, uh⟩, hb⟩
   have E6 := Zh ((E5.out.below hb).noteS uh.out rfl)
   clear E5 hb uh
   (try dsimp only)
   clear hHeld
   refine hKK.out _ _ (⟨((E6.out.bx 1 rfl).cell 0 rfl), ((E6.out.bx 1 rfl).cell 1 rfl), ((E6.out.bx 1 rfl).cell 2 rfl), ((E6.out.bx 0 rfl).cell 0 rfl), ((E6.out.bx 0 rfl).cell 1 rfl), ((E6.out.bx 0 rfl).cell 2 rfl)⟩) (fun hHeld => ?_)
   clear hKK KK
   try simp only [Act.put, pq0, pq1, pq2]
   refine uReady (rs := [3, 8, 9]) (by kernel_rfl) (by simp) ?_
   refine (ReadyU.cons rfl (fun KK hKK => ?_) (ReadyU.cons rfl (fun KK hKK => ?_) (ReadyU.cons rfl (fun KK hKK => ?_) ReadyU.nil)))
   ·skip
    go_simp
    refine (Make_c (gS.sl (E6.out.fc 0 rfl)) (gCt.any (E6.out.fc 2 rfl)) (gCt.any (E6.out.fc 1 rfl))).mono ?_
    rintro e w6 ⟨⟨na, nk, ea, ek, da, dk, rfl, nh, dh⟩, hb⟩
    have E7 := Zh (((E6.out.below hb).noteS nh.out rfl).noteS dh.out rfl)
    clear E6 hb nh dh
    (try dsimp only)
    clear hHeld
    refine hKK.out _ _ (⟨((E7.out.bx 1 rfl).cell 0 rfl), ((E7.out.bx 1 rfl).cell 1 rfl), ((E7.out.bx 1 rfl).cell 2 rfl), ((E7.out.bx 0 rfl).cell 0 rfl), ((E7.out.bx 0 rfl).cell 1 rfl), ((E7.out.bx 0 rfl).cell 2 rfl)⟩) (fun hHeld => ?_)
    clear hKK KK
    try simp only [Act.put, pq0, pq1, pq2]
    refine uPl [4, 5, 6, 7] ?_
    iterate 4 (refine uTl (v := ?_) ?_ ?_; rotate_left; (focus (intro wS hSw; (try dsimp only at hSw); go_simp; try with_reducible rfl)); try simp only [Act.put, pq0, pq1, pq2])
    refine Pl.z ?_
    refine uReady (rs := [8, 9]) (by kernel_rfl) (by simp) ?_
    refine (ReadyU.cons rfl (fun KK hKK => ?_) (ReadyU.cons rfl (fun KK hKK => ?_) ReadyU.nil))
    ·skip
     go_simp
     have E8 := Zh ((E7.out.push 26 [.slice none 0 0, .slice none 0 0] (w6.heap.size) (by simp)))
     (try dsimp only)
     clear hHeld
     refine hKK.out _ _ (⟨((E8.out.bx 2 rfl).cell 0 rfl), ((E8.out.bx 2 rfl).cell 1 rfl), ((E8.out.bx 2 rfl).cell 2 rfl), ((E8.out.bx 1 rfl).cell 0 rfl), ((E8.out.bx 1 rfl).cell 1 rfl), ((E8.out.bx 1 rfl).cell 2 rfl)⟩) (fun hHeld => ?_)
     clear hKK KK
     try simp only [Act.put, pq0, pq1, pq2]
     clear E7
     generalize w6.alloc (.cells #[.slice none 0 0, .slice none 0 0] 26) = w7 at *
     refine uRd 9 (fun KK hKK => ?_)
     go_simp
     have E9 := Zh ((E8.out.push 24 [.slice none 0 0] (w7.heap.size) (by simp)))
     (try dsimp only)
     clear hHeld
     refine hKK.out _ _ (⟨((E9.out.bx 3 rfl).cell 0 rfl), ((E9.out.bx 3 rfl).cell 1 rfl), ((E9.out.bx 3 rfl).cell 2 rfl), ((E9.out.bx 2 rfl).cell 0 rfl), ((E9.out.bx 2 rfl).cell 1 rfl), ((E9.out.bx 2 rfl).cell 2 rfl)⟩) (fun hHeld => ?_)
     clear hKK KK
     try simp only [Act.put, pq0, pq1, pq2]
     clear E8
     generalize w7.alloc (.cells #[.slice none 0 0] 24) = w8 at *
     have b1 := E9.out.bx 1 rfl
     have c1_0 := b1.cell 0 rfl
     have c1_1 := b1.cell 1 rfl
     have f1_0 := b1.frozen 0
     have f1_1 := b1.frozen 1
     clear b1
     refine uRd 10 (fun KK hKK => ?_)
     go_simp
     have E10 : Hid (Env (fun _ => True) w [(w7.heap.size, 24, [.slice none 0 0]), (w6.heap.size, 26, [.slice na (Nn.NatMath.len 187) nk, .slice ea (Nn.NatMath.len 3) ek]), (w2.heap.size, 57, [.slice qna 1 qnk, .slice qra 1 qrk, .slice qza 4 qzk]), (w1.heap.size, 57, [.slice pna 1 pnk, .slice pra 1 prk, .slice pza 2 pzk])] [.gn (gS (.slice da (Nn.NatMath.len 107) dk) (Nn.NatMath.digs 107)), .gn (gS (.slice na (Nn.NatMath.len 187) nk) (Nn.NatMath.digs 187)), .gn (gS (.slice ua (Nn.NatMath.len 3) uk) (Nn.NatMath.digs 3)), .gn (gCt 3 ct17 (.slice qna 1 qnk) (.slice qra 1 qrk) (.slice qza 4 qzk)), .gn (gCt 3 ct11 (.slice pna 1 pnk) (.slice pra 1 prk) (.slice pza 2 pzk))] _) := Zh (((E9.out.set 1 0 (.slice na (Nn.NatMath.len 187) nk) rfl).set 1 1 (.slice ea (Nn.NatMath.len 3) ek) rfl))
     (try dsimp only)
     clear hHeld
     refine hKK.out _ _ (⟨((E10.out.bx 3 rfl).cell 0 rfl), ((E10.out.bx 3 rfl).cell 1 rfl), ((E10.out.bx 3 rfl).cell 2 rfl), ((E10.out.bx 2 rfl).cell 0 rfl), ((E10.out.bx 2 rfl).cell 1 rfl), ((E10.out.bx 2 rfl).cell 2 rfl)⟩) (fun hHeld => ?_)
     clear hKK KK
     try simp only [Act.put, pq0, pq1, pq2]
     have b2 := E10.out.bx 0 rfl
     have c2_0 := b2.cell 0 rfl
     have f2_0 := b2.frozen 0
     clear b2
     refine uRd 11 (fun KK hKK => ?_)
     go_simp
     have E11 : Hid (Env (fun _ => True) w [(w7.heap.size, 24, [.slice da (Nn.NatMath.len 107) dk]), (w6.heap.size, 26, [.slice na (Nn.NatMath.len 187) nk, .slice ea (Nn.NatMath.len 3) ek]), (w2.heap.size, 57, [.slice qna 1 qnk, .slice qra 1 qrk, .slice qza 4 qzk]), (w1.heap.size, 57, [.slice pna 1 pnk, .slice pra 1 prk, .slice pza 2 pzk])] [.gn (gS (.slice da (Nn.NatMath.len 107) dk) (Nn.NatMath.digs 107)), .gn (gS (.slice na (Nn.NatMath.len 187) nk) (Nn.NatMath.digs 187)), .gn (gS (.slice ua (Nn.NatMath.len 3) uk) (Nn.NatMath.digs 3)), .gn (gCt 3 ct17 (.slice qna 1 qnk) (.slice qra 1 qrk) (.slice qza 4 qzk)), .gn (gCt 3 ct11 (.slice pna 1 pnk) (.slice pra 1 prk) (.slice pza 2 pzk))] _) := Zh ((E10.out.set 0 0 (.slice da (Nn.NatMath.len 107) dk) rfl))
     (try dsimp only)
     clear hHeld
     refine hKK.out _ _ (⟨((E11.out.bx 3 rfl).cell 0 rfl), ((E11.out.bx 3 rfl).cell 1 rfl), ((E11.out.bx 3 rfl).cell 2 rfl), ((E11.out.bx 2 rfl).cell 0 rfl), ((E11.out.bx 2 rfl).cell 1 rfl), ((E11.out.bx 2 rfl).cell 2 rfl)⟩) (fun hHeld => ?_)
     clear hKK KK
     try simp only [Act.put, pq0, pq1, pq2]
     refine uTk (i := 12) (some 7) (v := ?_) ?_ ?_
     rotate_left
     ·(intro wS hSw; (try dsimp only at hSw); go_simp; try with_reducible rfl)
     try simp only [Act.put, pq0, pq1, pq2]
     refine uDone (by kernel_rfl) ?_ _
     go_wp2_with fail
     go_meet
     exact ⟨w6.heap.size, w7.heap.size, ua, uk, na, nk, ea, ek, da, dk, rfl, rfl, rfl, Zh E11.out⟩
    ·skip
     go_simp
     have E8 := Zh ((E7.out.push 24 [.slice none 0 0] (w6.heap.size) (by simp)))
     (try dsimp only)
     clear hHeld
     refine hKK.out _ _ (⟨((E8.out.bx 2 rfl).cell 0 rfl), ((E8.out.bx 2 rfl).cell 1 rfl), ((E8.out.bx 2 rfl).cell 2 rfl), ((E8.out.bx 1 rfl).cell 0 rfl), ((E8.out.bx 1 rfl).cell 1 rfl), ((E8.out.bx 1 rfl).cell 2 rfl)⟩) (fun hHeld => ?_)
     clear hKK KK
     try simp only [Act.put, pq0, pq1, pq2]
     clear E7
     generalize w6.alloc (.cells #[.slice none 0 0] 24) = w7 at *
     refine uRd 8 (fun KK hKK => ?_)
     go_simp
     have E9 := Zh ((E8.out.push 26 [.slice none 0 0, .slice none 0 0] (w7.heap.size) (by simp)))
     (try dsimp only)
     clear hHeld
     refine hKK.out _ _ (⟨((E9.out.bx 3 rfl).cell 0 rfl), ((E9.out.bx 3 rfl).cell 1 rfl), ((E9.out.bx 3 rfl).cell 2 rfl), ((E9.out.bx 2 rfl).cell 0 rfl), ((E9.out.bx 2 rfl).cell 1 rfl), ((E9.out.bx 2 rfl).cell 2 rfl)⟩) (fun hHeld => ?_)
     clear hKK KK
     try simp only [Act.put, pq0, pq1, pq2]
     clear E8
     generalize w7.alloc (.cells #[.slice none 0 0, .slice none 0 0] 26) = w8 at *
     have b1 := E9.out.bx 0 rfl
     have c1_0 := b1.cell 0 rfl
     have c1_1 := b1.cell 1 rfl
     have f1_0 := b1.frozen 0
     have f1_1 := b1.frozen 1
     clear b1
     refine uRd 10 (fun KK hKK => ?_)
     go_simp
     have E10 : Hid (Env (fun _ => True) w [(w7.heap.size, 26, [.slice na (Nn.NatMath.len 187) nk, .slice ea (Nn.NatMath.len 3) ek]), (w6.heap.size, 24, [.slice none 0 0]), (w2.heap.size, 57, [.slice qna 1 qnk, .slice qra 1 qrk, .slice qza 4 qzk]), (w1.heap.size, 57, [.slice pna 1 pnk, .slice pra 1 prk, .slice pza 2 pzk])] [.gn (gS (.slice da (Nn.NatMath.len 107) dk) (Nn.NatMath.digs 107)), .gn (gS (.slice na (Nn.NatMath.len 187) nk) (Nn.NatMath.digs 187)), .gn (gS (.slice ua (Nn.NatMath.len 3) uk) (Nn.NatMath.digs 3)), .gn (gCt 3 ct17 (.slice qna 1 qnk) (.slice qra 1 qrk) (.slice qza 4 qzk)), .gn (gCt 3 ct11 (.slice pna 1 pnk) (.slice pra 1 prk) (.slice pza 2 pzk))] _) := Zh (((E9.out.set 0 0 (.slice na (Nn.NatMath.len 187) nk) rfl).set 0 1 (.slice ea (Nn.NatMath.len 3) ek) rfl))
     (try dsimp only)
     clear hHeld
     refine hKK.out _ _ (⟨((E10.out.bx 3 rfl).cell 0 rfl), ((E10.out.bx 3 rfl).cell 1 rfl), ((E10.out.bx 3 rfl).cell 2 rfl), ((E10.out.bx 2 rfl).cell 0 rfl), ((E10.out.bx 2 rfl).cell 1 rfl), ((E10.out.bx 2 rfl).cell 2 rfl)⟩) (fun hHeld => ?_)
     clear hKK KK
     try simp only [Act.put, pq0, pq1, pq2]
     have b2 := E10.out.bx 1 rfl
     have c2_0 := b2.cell 0 rfl
     have f2_0 := b2.frozen 0
     clear b2
     refine uRd 11 (fun KK hKK => ?_)
     go_simp
     have E11 : Hid (Env (fun _ => True) w [(w7.heap.size, 26, [.slice na (Nn.NatMath.len 187) nk, .slice ea (Nn.NatMath.len 3) ek]), (w6.heap.size, 24, [.slice da (Nn.NatMath.len 107) dk]), (w2.heap.size, 57, [.slice qna 1 qnk, .slice qra 1 qrk, .slice qza 4 qzk]), (w1.heap.size, 57, [.slice pna 1 pnk, .slice pra 1 prk, .slice pza 2 pzk])] [.gn (gS (.slice da (Nn.NatMath.len 107) dk) (Nn.NatMath.digs 107)), .gn (gS (.slice na (Nn.NatMath.len 187) nk) (Nn.NatMath.digs 187)), .gn (gS (.slice ua (Nn.NatMath.len 3) uk) (Nn.NatMath.digs 3)), .gn (gCt 3 ct17 (.slice qna 1 qnk) (.slice qra 1 qrk) (.slice qza 4 qzk)), .gn (gCt 3 ct11 (.slice pna 1 pnk) (.slice pra 1 prk) (.slice pza 2 pzk))] _) := Zh ((E10.out.set 1 0 (.slice da (Nn.NatMath.len 107) dk) rfl))
     (try dsimp only)
     clear hHeld
     refine hKK.out _ _ (⟨((E11.out.bx 3 rfl).cell 0 rfl), ((E11.out.bx 3 rfl).cell 1 rfl), ((E11.out.bx 3 rfl).cell 2 rfl), ((E11.out.bx 2 rfl).cell 0 rfl), ((E11.out.bx 2 rfl).cell 1 rfl), ((E11.out.bx 2 rfl).cell 2 rfl)⟩) (fun hHeld => ?_)
     clear hKK KK
     try simp only [Act.put, pq0, pq1, pq2]
     refine uTk (i := 12) (some 7) (v := ?_) ?_ ?_
     rotate_left
     ·(intro wS hSw; (try dsimp only at hSw); go_simp; try with_reducible rfl)
     try simp only [Act.put, pq0, pq1, pq2]
     refine uDone (by kernel_rfl) ?_ _
     go_wp2_with fail
     go_meet
     exact ⟨w7.heap.size, w6.heap.size, ua, uk, na, nk, ea, ek, da, dk, rfl, rfl, rfl, Zh (E11.out.perm (List.Perm.swap _ _ _))⟩
   ·skip
    go_simp
    have E7 := Zh ((E6.out.push 26 [.slice none 0 0, .slice none 0 0] (w5.heap.size) (by simp)))
    (try dsimp only)
    clear hHeld
    refine hKK.out _ _ (⟨((E7.out.bx 2 rfl).cell 0 rfl), ((E7.out.bx 2 rfl).cell 1 rfl), ((E7.out.bx 2 rfl).cell 2 rfl), ((E7.out.bx 1 rfl).cell 0 rfl), ((E7.out.bx 1 rfl).cell 1 rfl), ((E7.out.bx 1 rfl).cell 2 rfl)⟩) (fun hHeld => ?_)
    clear hKK KK
    try simp only [Act.put, pq0, pq1, pq2]
    clear E6
    generalize w5.alloc (.cells #[.slice none 0 0, .slice none 0 0] 26) = w6 at *
    refine uReady (rs := [3, 9]) (by kernel_rfl) (by simp) ?_
    refine (ReadyU.cons rfl (fun KK hKK => ?_) (ReadyU.cons rfl (fun KK hKK => ?_) ReadyU.nil))
    ·skip
     go_simp
     refine (Make_c (gS.sl (E7.out.fc 0 rfl)) (gCt.any (E7.out.fc 2 rfl)) (gCt.any (E7.out.fc 1 rfl))).mono ?_
     rintro e w7 ⟨⟨na, nk, ea, ek, da, dk, rfl, nh, dh⟩, hb⟩
     have E8 := Zh (((E7.out.below hb).noteS nh.out rfl).noteS dh.out rfl)
     clear E7 hb nh dh
     (try dsimp only)
     clear hHeld
     refine hKK.out _ _ (⟨((E8.out.bx 2 rfl).cell 0 rfl), ((E8.out.bx 2 rfl).cell 1 rfl), ((E8.out.bx 2 rfl).cell 2 rfl), ((E8.out.bx 1 rfl).cell 0 rfl), ((E8.out.bx 1 rfl).cell 1 rfl), ((E8.out.bx 1 rfl).cell 2 rfl)⟩) (fun hHeld => ?_)
     clear hKK KK
     try simp only [Act.put, pq0, pq1, pq2]
     refine uPl [4, 5, 6, 7] ?_
     iterate 4 (refine uTl (v := ?_) ?_ ?_; rotate_left; (focus (intro wS hSw; (try dsimp only at hSw); go_simp; try with_reducible rfl)); try simp only [Act.put, pq0, pq1, pq2])
     refine Pl.z ?_
     refine uRd 9 (fun KK hKK => ?_)
     go_simp
     have E9 := Zh ((E8.out.push 24 [.slice none 0 0] (w7.heap.size) (by simp)))
     (try dsimp only)
     clear hHeld
     refine hKK.out _ _ (⟨((E9.out.bx 3 rfl).cell 0 rfl), ((E9.out.bx 3 rfl).cell 1 rfl), ((E9.out.bx 3 rfl).cell 2 rfl), ((E9.out.bx 2 rfl).cell 0 rfl), ((E9.out.bx 2 rfl).cell 1 rfl), ((E9.out.bx 2 rfl).cell 2 rfl)⟩) (fun hHeld => ?_)
     clear hKK KK
     try simp only [Act.put, pq0, pq1, pq2]
     clear E8
     generalize w7.alloc (.cells #[.slice none 0 0] 24) = w8 at *
     have b1 := E9.out.bx 1 rfl
     have c1_0 := b1.cell 0 rfl
     have c1_1 := b1.cell 1 rfl
     have f1_0 := b1.frozen 0
     have f1_1 := b1.frozen 1
     clear b1
     refine uRd 10 (fun KK hKK => ?_)
     go_simp
     have E10 : Hid (Env (fun _ => True) w [(w7.heap.size, 24, [.slice none 0 0]), (w5.heap.size, 26, [.slice na (Nn.NatMath.len 187) nk, .slice ea (Nn.NatMath.len 3) ek]), (w2.heap.size, 57, [.slice qna 1 qnk, .slice qra 1 qrk, .slice qza 4 qzk]), (w1.heap.size, 57, [.slice pna 1 pnk, .slice pra 1 prk, .slice pza 2 pzk])] [.gn (gS (.slice da (Nn.NatMath.len 107) dk) (Nn.NatMath.digs 107)), .gn (gS (.slice na (Nn.NatMath.len 187) nk) (Nn.NatMath.digs 187)), .gn (gS (.slice ua (Nn.NatMath.len 3) uk) (Nn.NatMath.digs 3)), .gn (gCt 3 ct17 (.slice qna 1 qnk) (.slice qra 1 qrk) (.slice qza 4 qzk)), .gn (gCt 3 ct11 (.slice pna 1 pnk) (.slice pra 1 prk) (.slice pza 2 pzk))] _) := Zh (((E9.out.set 1 0 (.slice na (Nn.NatMath.len 187) nk) rfl).set 1 1 (.slice ea (Nn.NatMath.len 3) ek) rfl))
     (try dsimp only)
     clear hHeld
     refine hKK.out _ _ (⟨((E10.out.bx 3 rfl).cell 0 rfl), ((E10.out.bx 3 rfl).cell 1 rfl), ((E10.out.bx 3 rfl).cell 2 rfl), ((E10.out.bx 2 rfl).cell 0 rfl), ((E10.out.bx 2 rfl).cell 1 rfl), ((E10.out.bx 2 rfl).cell 2 rfl)⟩) (fun hHeld => ?_)
     clear hKK KK
     try simp only [Act.put, pq0, pq1, pq2]
     have b2 := E10.out.bx 0 rfl
     have c2_0 := b2.cell 0 rfl
     have f2_0 := b2.frozen 0
     clear b2
     refine uRd 11 (fun KK hKK => ?_)
     go_simp
     have E11 : Hid (Env (fun _ => True) w [(w7.heap.size, 24, [.slice da (Nn.NatMath.len 107) dk]), (w5.heap.size, 26, [.slice na (Nn.NatMath.len 187) nk, .slice ea (Nn.NatMath.len 3) ek]), (w2.heap.size, 57, [.slice qna 1 qnk, .slice qra 1 qrk, .slice qza 4 qzk]), (w1.heap.size, 57, [.slice pna 1 pnk, .slice pra 1 prk, .slice pza 2 pzk])] [.gn (gS (.slice da (Nn.NatMath.len 107) dk) (Nn.NatMath.digs 107)), .gn (gS (.slice na (Nn.NatMath.len 187) nk) (Nn.NatMath.digs 187)), .gn (gS (.slice ua (Nn.NatMath.len 3) uk) (Nn.NatMath.digs 3)), .gn (gCt 3 ct17 (.slice qna 1 qnk) (.slice qra 1 qrk) (.slice qza 4 qzk)), .gn (gCt 3 ct11 (.slice pna 1 pnk) (.slice pra 1 prk) (.slice pza 2 pzk))] _) := Zh ((E10.out.set 0 0 (.slice da (Nn.NatMath.len 107) dk) rfl))
     (try dsimp only)
     clear hHeld
     refine hKK.out _ _ (⟨((E11.out.bx 3 rfl).cell 0 rfl), ((E11.out.bx 3 rfl).cell 1 rfl), ((E11.out.bx 3 rfl).cell 2 rfl), ((E11.out.bx 2 rfl).cell 0 rfl), ((E11.out.bx 2 rfl).cell 1 rfl), ((E11.out.bx 2 rfl).cell 2 rfl)⟩) (fun hHeld => ?_)
     clear hKK KK
     try simp only [Act.put, pq0, pq1, pq2]
     refine uTk (i := 12) (some 7) (v := ?_) ?_ ?_
     rotate_left
     ·(intro wS hSw; (try dsimp only at hSw); go_simp; try with_reducible rfl)
     try simp only [Act.put, pq0, pq1, pq2]
     refine uDone (by kernel_rfl) ?_ _
     go_wp2_with fail
     go_meet
     exact ⟨w5.heap.size, w7.heap.size, ua, uk, na, nk, ea, ek, da, dk, rfl, rfl, rfl, Zh E11.out⟩
    ·skip
     go_simp
     have E8 := Zh ((E7.out.push 24 [.slice none 0 0] (w6.heap.size) (by simp)))
     (try dsimp only)
     clear hHeld
     refine hKK.out _ _ (⟨((E8.out.bx 3 rfl).cell 0 rfl), ((E8.out.bx 3 rfl).cell 1 rfl), ((E8.out.bx 3 rfl).cell 2 rfl), ((E8.out.bx 2 rfl).cell 0 rfl), ((E8.out.bx 2 rfl).cell 1 rfl), ((E8.out.bx 2 rfl).cell 2 rfl)⟩) (fun hHeld => ?_)
     clear hKK KK
     try simp only [Act.put, pq0, pq1, pq2]
     clear E7
     generalize w6.alloc (.cells #[.slice none 0 0] 24) = w7 at *
     refine uRd 3 (fun KK hKK => ?_)
     go_simp
     refine (Make_c (gS.sl (E8.out.fc 0 rfl)) (gCt.any (E8.out.fc 2 rfl)) (gCt.any (E8.out.fc 1 rfl))).mono ?_
     rintro e w8 ⟨⟨na, nk, ea, ek, da, dk, rfl, nh, dh⟩, hb⟩
     have E9 := Zh (((E8.out.below hb).noteS nh.out rfl).noteS dh.out rfl)
     clear E8 hb nh dh
     (try dsimp only)
     clear hHeld
     refine hKK.out _ _ (⟨((E9.out.bx 3 rfl).cell 0 rfl), ((E9.out.bx 3 rfl).cell 1 rfl), ((E9.out.bx 3 rfl).cell 2 rfl), ((E9.out.bx 2 rfl).cell 0 rfl), ((E9.out.bx 2 rfl).cell 1 rfl), ((E9.out.bx 2 rfl).cell 2 rfl)⟩) (fun hHeld => ?_)
     clear hKK KK
     try simp only [Act.put, pq0, pq1, pq2]
     refine uPl [4, 5, 6, 7] ?_
     iterate 4 (refine uTl (v := ?_) ?_ ?_; rotate_left; (focus (intro wS hSw; (try dsimp only at hSw); go_simp; try with_reducible rfl)); try simp only [Act.put, pq0, pq1, pq2])
     refine Pl.z ?_
     have b1 := E9.out.bx 1 rfl
     have c1_0 := b1.cell 0 rfl
     have c1_1 := b1.cell 1 rfl
     have f1_0 := b1.frozen 0
     have f1_1 := b1.frozen 1
     clear b1
     refine uRd 10 (fun KK hKK => ?_)
     go_simp
     have E10 : Hid (Env (fun _ => True) w [(w6.heap.size, 24, [.slice none 0 0]), (w5.heap.size, 26, [.slice na (Nn.NatMath.len 187) nk, .slice ea (Nn.NatMath.len 3) ek]), (w2.heap.size, 57, [.slice qna 1 qnk, .slice qra 1 qrk, .slice qza 4 qzk]), (w1.heap.size, 57, [.slice pna 1 pnk, .slice pra 1 prk, .slice pza 2 pzk])] [.gn (gS (.slice da (Nn.NatMath.len 107) dk) (Nn.NatMath.digs 107)), .gn (gS (.slice na (Nn.NatMath.len 187) nk) (Nn.NatMath.digs 187)), .gn (gS (.slice ua (Nn.NatMath.len 3) uk) (Nn.NatMath.digs 3)), .gn (gCt 3 ct17 (.slice qna 1 qnk) (.slice qra 1 qrk) (.slice qza 4 qzk)), .gn (gCt 3 ct11 (.slice pna 1 pnk) (.slice pra 1 prk) (.slice pza 2 pzk))] _) := Zh (((E9.out.set 1 0 (.slice na (Nn.NatMath.len 187) nk) rfl).set 1 1 (.slice ea (Nn.NatMath.len 3) ek) rfl))
     (try dsimp only)
     clear hHeld
     refine hKK.out _ _ (⟨((E10.out.bx 3 rfl).cell 0 rfl), ((E10.out.bx 3 rfl).cell 1 rfl), ((E10.out.bx 3 rfl).cell 2 rfl), ((E10.out.bx 2 rfl).cell 0 rfl), ((E10.out.bx 2 rfl).cell 1 rfl), ((E10.out.bx 2 rfl).cell 2 rfl)⟩) (fun hHeld => ?_)
     clear hKK KK
     try simp only [Act.put, pq0, pq1, pq2]
     have b2 := E10.out.bx 0 rfl
     have c2_0 := b2.cell 0 rfl
     have f2_0 := b2.frozen 0
     clear b2
     refine uRd 11 (fun KK hKK => ?_)
     go_simp
     have E11 : Hid (Env (fun _ => True) w [(w6.heap.size, 24, [.slice da (Nn.NatMath.len 107) dk]), (w5.heap.size, 26, [.slice na (Nn.NatMath.len 187) nk, .slice ea (Nn.NatMath.len 3) ek]), (w2.heap.size, 57, [.slice qna 1 qnk, .slice qra 1 qrk, .slice qza 4 qzk]), (w1.heap.size, 57, [.slice pna 1 pnk, .slice pra 1 prk, .slice pza 2 pzk])] [.gn (gS (.slice da (Nn.NatMath.len 107) dk) (Nn.NatMath.digs 107)), .gn (gS (.slice na (Nn.NatMath.len 187) nk) (Nn.NatMath.digs 187)), .gn (gS (.slice ua (Nn.NatMath.len 3) uk) (Nn.NatMath.digs 3)), .gn (gCt 3 ct17 (.slice qna 1 qnk) (.slice qra 1 qrk) (.slice qza 4 qzk)), .gn (gCt 3 ct11 (.slice pna 1 pnk) (.slice pra 1 prk) (.slice pza 2 pzk))] _) := Zh ((E10.out.set 0 0 (.slice da (Nn.NatMath.len 107) dk) rfl))
     (try dsimp only)
     clear hHeld
     refine hKK.out _ _ (⟨((E11.out.bx 3 rfl).cell 0 rfl), ((E11.out.bx 3 rfl).cell 1 rfl), ((E11.out.bx 3 rfl).cell 2 rfl), ((E11.out.bx 2 rfl).cell 0 rfl), ((E11.out.bx 2 rfl).cell 1 rfl), ((E11.out.bx 2 rfl).cell 2 rfl)⟩) (fun hHeld => ?_)
     clear hKK KK
     try simp only [Act.put, pq0, pq1, pq2]
     refine uTk (i := 12) (some 7) (v := ?_) ?_ ?_
     rotate_left
     ·(intro wS hSw; (try dsimp only at hSw); go_simp; try with_reducible rfl)
     try simp only [Act.put, pq0, pq1, pq2]
     refine uDone (by kernel_rfl) ?_ _
     go_wp2_with fail
     go_meet
     exact ⟨w5.heap.size, w6.heap.size, ua, uk, na, nk, ea, ek, da, dk, rfl, rfl, rfl, Zh E11.out⟩
   ·skip
    go_simp
    have E7 := Zh ((E6.out.push 24 [.slice none 0 0] (w5.heap.size) (by simp)))
    (try dsimp only)
    clear hHeld
    refine hKK.out _ _ (⟨((E7.out.bx 2 rfl).cell 0 rfl), ((E7.out.bx 2 rfl).cell 1 rfl), ((E7.out.bx 2 rfl).cell 2 rfl), ((E7.out.bx 1 rfl).cell 0 rfl), ((E7.out.bx 1 rfl).cell 1 rfl), ((E7.out.bx 1 rfl).cell 2 rfl)⟩) (fun hHeld => ?_)
    clear hKK KK
    try simp only [Act.put, pq0, pq1, pq2]
    clear E6
    generalize w5.alloc (.cells #[.slice none 0 0] 24) = w6 at *
    refine uReady (rs := [3, 8]) (by kernel_rfl) (by simp) ?_
    refine (ReadyU.cons rfl (fun KK hKK => ?_) (ReadyU.cons rfl (fun KK hKK => ?_) ReadyU.nil))
    ·skip
     go_simp
     refine (Make_c (gS.sl (E7.out.fc 0 rfl)) (gCt.any (E7.out.fc 2 rfl)) (gCt.any (E7.out.fc 1 rfl))).mono ?_
     rintro e w7 ⟨⟨na, nk, ea, ek, da, dk, rfl, nh, dh⟩, hb⟩
     have E8 := Zh (((E7.out.below hb).noteS nh.out rfl).noteS dh.out rfl)
     clear E7 hb nh dh
     (try dsimp only)
     clear hHeld
     refine hKK.out _ _ (⟨((E8.out.bx 2 rfl).cell 0 rfl), ((E8.out.bx 2 rfl).cell 1 rfl), ((E8.out.bx 2 rfl).cell 2 rfl), ((E8.out.bx 1 rfl).cell 0 rfl), ((E8.out.bx 1 rfl).cell 1 rfl), ((E8.out.bx 1 rfl).cell 2 rfl)⟩) (fun hHeld => ?_)
     clear hKK KK
     try simp only [Act.put, pq0, pq1, pq2]
     refine uPl [4, 5, 6, 7] ?_
     iterate 4 (refine uTl (v := ?_) ?_ ?_; rotate_left; (focus (intro wS hSw; (try dsimp only at hSw); go_simp; try with_reducible rfl)); try simp only [Act.put, pq0, pq1, pq2])
     refine Pl.z ?_
     refine uRd 8 (fun KK hKK => ?_)
     go_simp
     have E9 := Zh ((E8.out.push 26 [.slice none 0 0, .slice none 0 0] (w7.heap.size) (by simp)))
     (try dsimp only)
     clear hHeld
     refine hKK.out _ _ (⟨((E9.out.bx 3 rfl).cell 0 rfl), ((E9.out.bx 3 rfl).cell 1 rfl), ((E9.out.bx 3 rfl).cell 2 rfl), ((E9.out.bx 2 rfl).cell 0 rfl), ((E9.out.bx 2 rfl).cell 1 rfl), ((E9.out.bx 2 rfl).cell 2 rfl)⟩) (fun hHeld => ?_)
     clear hKK KK
     try simp only [Act.put, pq0, pq1, pq2]
     clear E8
     generalize w7.alloc (.cells #[.slice none 0 0, .slice none 0 0] 26) = w8 at *
     have b1 := E9.out.bx 0 rfl
     have c1_0 := b1.cell 0 rfl
     have c1_1 := b1.cell 1 rfl
     have f1_0 := b1.frozen 0
     have f1_1 := b1.frozen 1
     clear b1
     refine uRd 10 (fun KK hKK => ?_)
     go_simp
     have E10 : Hid (Env (fun _ => True) w [(w7.heap.size, 26, [.slice na (Nn.NatMath.len 187) nk, .slice ea (Nn.NatMath.len 3) ek]), (w5.heap.size, 24, [.slice none 0 0]), (w2.heap.size, 57, [.slice qna 1 qnk, .slice qra 1 qrk, .slice qza 4 qzk]), (w1.heap.size, 57, [.slice pna 1 pnk, .slice pra 1 prk, .slice pza 2 pzk])] [.gn (gS (.slice da (Nn.NatMath.len 107) dk) (Nn.NatMath.digs 107)), .gn (gS (.slice na (Nn.NatMath.len 187) nk) (Nn.NatMath.digs 187)), .gn (gS (.slice ua (Nn.NatMath.len 3) uk) (Nn.NatMath.digs 3)), .gn (gCt 3 ct17 (.slice qna 1 qnk) (.slice qra 1 qrk) (.slice qza 4 qzk)), .gn (gCt 3 ct11 (.slice pna 1 pnk) (.slice pra 1 prk) (.slice pza 2 pzk))] _) := Zh (((E9.out.set 0 0 (.slice na (Nn.NatMath.len 187) nk) rfl).set 0 1 (.slice ea (Nn.NatMath.len 3) ek) rfl))
     (try dsimp only)
     clear hHeld
     refine hKK.out _ _ (⟨((E10.out.bx 3 rfl).cell 0 rfl), ((E10.out.bx 3 rfl).cell 1 rfl), ((E10.out.bx 3 rfl).cell 2 rfl), ((E10.out.bx 2 rfl).cell 0 rfl), ((E10.out.bx 2 rfl).cell 1 rfl), ((E10.out.bx 2 rfl).cell 2 rfl)⟩) (fun hHeld => ?_)
     clear hKK KK
     try simp only [Act.put, pq0, pq1, pq2]
     have b2 := E10.out.bx 1 rfl
     have c2_0 := b2.cell 0 rfl
     have f2_0 := b2.frozen 0
     clear b2
     refine uRd 11 (fun KK hKK => ?_)
     go_simp
     have E11 : Hid (Env (fun _ => True) w [(w7.heap.size, 26, [.slice na (Nn.NatMath.len 187) nk, .slice ea (Nn.NatMath.len 3) ek]), (w5.heap.size, 24, [.slice da (Nn.NatMath.len 107) dk]), (w2.heap.size, 57, [.slice qna 1 qnk, .slice qra 1 qrk, .slice qza 4 qzk]), (w1.heap.size, 57, [.slice pna 1 pnk, .slice pra 1 prk, .slice pza 2 pzk])] [.gn (gS (.slice da (Nn.NatMath.len 107) dk) (Nn.NatMath.digs 107)), .gn (gS (.slice na (Nn.NatMath.len 187) nk) (Nn.NatMath.digs 187)), .gn (gS (.slice ua (Nn.NatMath.len 3) uk) (Nn.NatMath.digs 3)), .gn (gCt 3 ct17 (.slice qna 1 qnk) (.slice qra 1 qrk) (.slice qza 4 qzk)), .gn (gCt 3 ct11 (.slice pna 1 pnk) (.slice pra 1 prk) (.slice pza 2 pzk))] _) := Zh ((E10.out.set 1 0 (.slice da (Nn.NatMath.len 107) dk) rfl))
     (try dsimp only)
     clear hHeld
     refine hKK.out _ _ (⟨((E11.out.bx 3 rfl).cell 0 rfl), ((E11.out.bx 3 rfl).cell 1 rfl), ((E11.out.bx 3 rfl).cell 2 rfl), ((E11.out.bx 2 rfl).cell 0 rfl), ((E11.out.bx 2 rfl).cell 1 rfl), ((E11.out.bx 2 rfl).cell 2 rfl)⟩) (fun hHeld => ?_)
     clear hKK KK
     try simp only [Act.put, pq0, pq1, pq2]
     refine uTk (i := 12) (some 7) (v := ?_) ?_ ?_
     rotate_left
     ·(intro wS hSw; (try dsimp only at hSw); go_simp; try with_reducible rfl)
     try simp only [Act.put, pq0, pq1, pq2]
     refine uDone (by kernel_rfl) ?_ _
     go_wp2_with fail
     go_meet
     exact ⟨w7.heap.size, w5.heap.size, ua, uk, na, nk, ea, ek, da, dk, rfl, rfl, rfl, Zh (E11.out.perm (List.Perm.swap _ _ _))⟩
    ·skip
     go_simp
     have E8 := Zh ((E7.out.push 26 [.slice none 0 0, .slice none 0 0] (w6.heap.size) (by simp)))
     (try dsimp only)
     clear hHeld
     refine hKK.out _ _ (⟨((E8.out.bx 3 rfl).cell 0 rfl), ((E8.out.bx 3 rfl).cell 1 rfl), ((E8.out.bx 3 rfl).cell 2 rfl), ((E8.out.bx 2 rfl).cell 0 rfl), ((E8.out.bx 2 rfl).cell 1 rfl), ((E8.out.bx 2 rfl).cell 2 rfl)⟩) (fun hHeld => ?_)
     clear hKK KK
     try simp only [Act.put, pq0, pq1, pq2]
     clear E7
     generalize w6.alloc (.cells #[.slice none 0 0, .slice none 0 0] 26) = w7 at *
     refine uRd 3 (fun KK hKK => ?_)
     go_simp
     refine (Make_c (gS.sl (E8.out.fc 0 rfl)) (gCt.any (E8.out.fc 2 rfl)) (gCt.any (E8.out.fc 1 rfl))).mono ?_
     rintro e w8 ⟨⟨na, nk, ea, ek, da, dk, rfl, nh, dh⟩, hb⟩
     have E9 := Zh (((E8.out.below hb).noteS nh.out rfl).noteS dh.out rfl)
     clear E8 hb nh dh
     (try dsimp only)
     clear hHeld
     refine hKK.out _ _ (⟨((E9.out.bx 3 rfl).cell 0 rfl), ((E9.out.bx 3 rfl).cell 1 rfl), ((E9.out.bx 3 rfl).cell 2 rfl), ((E9.out.bx 2 rfl).cell 0 rfl), ((E9.out.bx 2 rfl).cell 1 rfl), ((E9.out.bx 2 rfl).cell 2 rfl)⟩) (fun hHeld => ?_)
     clear hKK KK
     try simp only [Act.put, pq0, pq1, pq2]
     refine uPl [4, 5, 6, 7] ?_
     iterate 4 (refine uTl (v := ?_) ?_ ?_; rotate_left; (focus (intro wS hSw; (try dsimp only at hSw); go_simp; try with_reducible rfl)); try simp only [Act.put, pq0, pq1, pq2])
     refine Pl.z ?_
     have b1 := E9.out.bx 0 rfl
     have c1_0 := b1.cell 0 rfl
     have c1_1 := b1.cell 1 rfl
     have f1_0 := b1.frozen 0
     have f1_1 := b1.frozen 1
     clear b1
     refine uRd 10 (fun KK hKK => ?_)
     go_simp
     have E10 : Hid (Env (fun _ => True) w [(w6.heap.size, 26, [.slice na (Nn.NatMath.len 187) nk, .slice ea (Nn.NatMath.len 3) ek]), (w5.heap.size, 24, [.slice none 0 0]), (w2.heap.size, 57, [.slice qna 1 qnk, .slice qra 1 qrk, .slice qza 4 qzk]), (w1.heap.size, 57, [.slice pna 1 pnk, .slice pra 1 prk, .slice pza 2 pzk])] [.gn (gS (.slice da (Nn.NatMath.len 107) dk) (Nn.NatMath.digs 107)), .gn (gS (.slice na (Nn.NatMath.len 187) nk) (Nn.NatMath.digs 187)), .gn (gS (.slice ua (Nn.NatMath.len 3) uk) (Nn.NatMath.digs 3)), .gn (gCt 3 ct17 (.slice qna 1 qnk) (.slice qra 1 qrk) (.slice qza 4 qzk)), .gn (gCt 3 ct11 (.slice pna 1 pnk) (.slice pra 1 prk) (.slice pza 2 pzk))] _) := Zh (((E9.out.set 0 0 (.slice na (Nn.NatMath.len 187) nk) rfl).set 0 1 (.slice ea (Nn.NatMath.len 3) ek) rfl))
     (try dsimp only)
     clear hHeld
     refine hKK.out _ _ (⟨((E10.out.bx 3 rfl).cell 0 rfl), ((E10.out.bx 3 rfl).cell 1 rfl), ((E10.out.bx 3 rfl).cell 2 rfl), ((E10.out.bx 2 rfl).cell 0 rfl), ((E10.out.bx 2 rfl).cell 1 rfl), ((E10.out.bx 2 rfl).cell 2 rfl)⟩) (fun hHeld => ?_)
     clear hKK KK
     try simp only [Act.put, pq0, pq1, pq2]
     have b2 := E10.out.bx 1 rfl
     have c2_0 := b2.cell 0 rfl
     have f2_0 := b2.frozen 0
     clear b2
     refine uRd 11 (fun KK hKK => ?_)
     go_simp
     have E11 : Hid (Env (fun _ => True) w [(w6.heap.size, 26, [.slice na (Nn.NatMath.len 187) nk, .slice ea (Nn.NatMath.len 3) ek]), (w5.heap.size, 24, [.slice da (Nn.NatMath.len 107) dk]), (w2.heap.size, 57, [.slice qna 1 qnk, .slice qra 1 qrk, .slice qza 4 qzk]), (w1.heap.size, 57, [.slice pna 1 pnk, .slice pra 1 prk, .slice pza 2 pzk])] [.gn (gS (.slice da (Nn.NatMath.len 107) dk) (Nn.NatMath.digs 107)), .gn (gS (.slice na (Nn.NatMath.len 187) nk) (Nn.NatMath.digs 187)), .gn (gS (.slice ua (Nn.NatMath.len 3) uk) (Nn.NatMath.digs 3)), .gn (gCt 3 ct17 (.slice qna 1 qnk) (.slice qra 1 qrk) (.slice qza 4 qzk)), .gn (gCt 3 ct11 (.slice pna 1 pnk) (.slice pra 1 prk) (.slice pza 2 pzk))] _) := Zh ((E10.out.set 1 0 (.slice da (Nn.NatMath.len 107) dk) rfl))
     (try dsimp only)
     clear hHeld
     refine hKK.out _ _ (⟨((E11.out.bx 3 rfl).cell 0 rfl), ((E11.out.bx 3 rfl).cell 1 rfl), ((E11.out.bx 3 rfl).cell 2 rfl), ((E11.out.bx 2 rfl).cell 0 rfl), ((E11.out.bx 2 rfl).cell 1 rfl), ((E11.out.bx 2 rfl).cell 2 rfl)⟩) (fun hHeld => ?_)
     clear hKK KK
     try simp only [Act.put, pq0, pq1, pq2]
     refine uTk (i := 12) (some 7) (v := ?_) ?_ ?_
     rotate_left
     ·(intro wS hSw; (try dsimp only at hSw); go_simp; try with_reducible rfl)
     try simp only [Act.put, pq0, pq1, pq2]
     refine uDone (by kernel_rfl) ?_ _
     go_wp2_with fail
     go_meet
     exact ⟨w6.heap.size, w5.heap.size, ua, uk, na, nk, ea, ek, da, dk, rfl, rfl, rfl, Zh (E11.out.perm (List.Perm.swap _ _ _))⟩
  ·skip
   go_simp
   have E6 := Zh ((E5.out.push 26 [.slice none 0 0, .slice none 0 0] (w4.heap.size) (by simp)))
   (try dsimp only)
   clear hHeld
   refine hKK.out _ _ (⟨((E6.out.bx 2 rfl).cell 0 rfl), ((E6.out.bx 2 rfl).cell 1 rfl), ((E6.out.bx 2 rfl).cell 2 rfl), ((E6.out.bx 1 rfl).cell 0 rfl), ((E6.out.bx 1 rfl).cell 1 rfl), ((E6.out.bx 1 rfl).cell 2 rfl)⟩) (fun hHeld => ?_)
   clear hKK KK
   try simp only [Act.put, pq0, pq1, pq2]
   clear E5
   generalize w4.alloc (.cells #[.slice none 0 0, .slice none 0 0] 26) = w5 at *
   refine uReady (rs := [2, 9]) (by kernel_rfl) (by simp) ?_
   refine (ReadyU.cons rfl (fun KK hKK => ?_) (ReadyU.cons rfl (fun KK hKK => ?_) ReadyU.nil))
   ·skip
    go_simp
    refine (of_c 3 (by decide)).mono ?_
    rintro e w6 ⟨⟨ua, uk, rfl, uh⟩, hb⟩
    have E7 := Zh ((E6.out.below hb).noteS uh.out rfl)
    clear E6 hb uh
    (try dsimp only)
    clear hHeld
    refine hKK.out _ _ (⟨((E7.out.bx 2 rfl).cell 0 rfl), ((E7.out.bx 2 rfl).cell 1 rfl), ((E7.out.bx 2 rfl).cell 2 rfl), ((E7.out.bx 1 rfl).cell 0 rfl), ((E7.out.bx 1 rfl).cell 1 rfl), ((E7.out.bx 1 rfl).cell 2 rfl)⟩) (fun hHeld => ?_)
    clear hKK KK
    try simp only [Act.put, pq0, pq1, pq2]
    refine uReady (rs := [3, 9]) (by kernel_rfl) (by simp) ?_
    refine (ReadyU.cons rfl (fun KK hKK => ?_) (ReadyU.cons rfl (fun KK hKK => ?_) ReadyU.nil))
    ·skip
     go_simp
     refine (Make_c (gS.sl (E7.out.fc 0 rfl)) (gCt.any (E7.out.fc 2 rfl)) (gCt.any (E7.out.fc 1 rfl))).mono ?_
     rintro e w7 ⟨⟨na, nk, ea, ek, da, dk, rfl, nh, dh⟩, hb⟩
     have E8 := Zh (((E7.out.below hb).noteS nh.out rfl).noteS dh.out rfl)
     clear E7 hb nh dh
     (try dsimp only)
     clear hHeld
     refine hKK.out _ _ (⟨((E8.out.bx 2 rfl).cell 0 rfl), ((E8.out.bx 2 rfl).cell 1 rfl), ((E8.out.bx 2 rfl).cell 2 rfl), ((E8.out.bx 1 rfl).cell 0 rfl), ((E8.out.bx 1 rfl).cell 1 rfl), ((E8.out.bx 1 rfl).cell 2 rfl)⟩) (fun hHeld => ?_)
     clear hKK KK
     try simp only [Act.put, pq0, pq1, pq2]
     refine uPl [4, 5, 6, 7] ?_
     iterate 4 (refine uTl (v := ?_) ?_ ?_; rotate_left; (focus (intro wS hSw; (try dsimp only at hSw); go_simp; try with_reducible rfl)); try simp only [Act.put, pq0, pq1, pq2])
     refine Pl.z ?_
     refine uRd 9 (fun KK hKK => ?_)
     go_simp
     have E9 := Zh ((E8.out.push 24 [.slice none 0 0] (w7.heap.size) (by simp)))
     (try dsimp only)
     clear hHeld
     refine hKK.out _ _ (⟨((E9.out.bx 3 rfl).cell 0 rfl), ((E9.out.bx 3 rfl).cell 1 rfl), ((E9.out.bx 3 rfl).cell 2 rfl), ((E9.out.bx 2 rfl).cell 0 rfl), ((E9.out.bx 2 rfl).cell 1 rfl), ((E9.out.bx 2 rfl).cell 2 rfl)⟩) (fun hHeld => ?_)
     clear hKK KK
     try simp only [Act.put, pq0, pq1, pq2]
     clear E8
     generalize w7.alloc (.cells #[.slice none 0 0] 24) = w8 at *
     have b1 := E9.out.bx 1 rfl
     have c1_0 := b1.cell 0 rfl
     have c1_1 := b1.cell 1 rfl
     have f1_0 := b1.frozen 0
     have f1_1 := b1.frozen 1
     clear b1
     refine uRd 10 (fun KK hKK => ?_)
     go_simp
     have E10 : Hid (Env (fun _ => True) w [(w7.heap.size, 24, [.slice none 0 0]), (w4.heap.size, 26, [.slice na (Nn.NatMath.len 187) nk, .slice ea (Nn.NatMath.len 3) ek]), (w2.heap.size, 57, [.slice qna 1 qnk, .slice qra 1 qrk, .slice qza 4 qzk]), (w1.heap.size, 57, [.slice pna 1 pnk, .slice pra 1 prk, .slice pza 2 pzk])] [.gn (gS (.slice da (Nn.NatMath.len 107) dk) (Nn.NatMath.digs 107)), .gn (gS (.slice na (Nn.NatMath.len 187) nk) (Nn.NatMath.digs 187)), .gn (gS (.slice ua (Nn.NatMath.len 3) uk) (Nn.NatMath.digs 3)), .gn (gCt 3 ct17 (.slice qna 1 qnk) (.slice qra 1 qrk) (.slice qza 4 qzk)), .gn (gCt 3 ct11 (.slice pna 1 pnk) (.slice pra 1 prk) (.slice pza 2 pzk))] _) := Zh (((E9.out.set 1 0 (.slice na (Nn.NatMath.len 187) nk) rfl).set 1 1 (.slice ea (Nn.NatMath.len 3) ek) rfl))
     (try dsimp only)
     clear hHeld
     refine hKK.out _ _ (⟨((E10.out.bx 3 rfl).cell 0 rfl), ((E10.out.bx 3 rfl).cell 1 rfl), ((E10.out.bx 3 rfl).cell 2 rfl), ((E10.out.bx 2 rfl).cell 0 rfl), ((E10.out.bx 2 rfl).cell 1 rfl), ((E10.out.bx 2 rfl).cell 2 rfl)⟩) (fun hHeld => ?_)
     clear hKK KK
     try simp only [Act.put, pq0, pq1, pq2]
     have b2 := E10.out.bx 0 rfl
     have c2_0 := b2.cell 0 rfl
     have f2_0 := b2.frozen 0
     clear b2
     refine uRd 11 (fun KK hKK => ?_)
     go_simp
     have E11 : Hid (Env (fun _ => True) w [(w7.heap.size, 24, [.slice da (Nn.NatMath.len 107) dk]), (w4.heap.size, 26, [.slice na (Nn.NatMath.len 187) nk, .slice ea (Nn.NatMath.len 3) ek]), (w2.heap.size, 57, [.slice qna 1 qnk, .slice qra 1 qrk, .slice qza 4 qzk]), (w1.heap.size, 57, [.slice pna 1 pnk, .slice pra 1 prk, .slice pza 2 pzk])] [.gn (gS (.slice da (Nn.NatMath.len 107) dk) (Nn.NatMath.digs 107)), .gn (gS (.slice na (Nn.NatMath.len 187) nk) (Nn.NatMath.digs 187)), .gn (gS (.slice ua (Nn.NatMath.len 3) uk) (Nn.NatMath.digs 3)), .gn (gCt 3 ct17 (.slice qna 1 qnk) (.slice qra 1 qrk) (.slice qza 4 qzk)), .gn (gCt 3 ct11 (.slice pna 1 pnk) (.slice pra 1 prk) (.slice pza 2 pzk))] _) := Zh ((E10.out.set 0 0 (.slice da (Nn.NatMath.len 107) dk) rfl))
     (try dsimp only)
     clear hHeld
     refine hKK.out _ _ (⟨((E11.out.bx 3 rfl).cell 0 rfl), ((E11.out.bx 3 rfl).cell 1 rfl), ((E11.out.bx 3 rfl).cell 2 rfl), ((E11.out.bx 2 rfl).cell 0 rfl), ((E11.out.bx 2 rfl).cell 1 rfl), ((E11.out.bx 2 rfl).cell 2 rfl)⟩) (fun hHeld => ?_)
     clear hKK KK
     try simp only [Act.put, pq0, pq1, pq2]
     refine uTk (i := 12) (some 7) (v := ?_) ?_ ?_
     rotate_left
     ·(intro wS hSw; (try dsimp only at hSw); go_simp; try with_reducible rfl)
     try simp only [Act.put, pq0, pq1, pq2]
     refine uDone (by kernel_rfl) ?_ _
     go_wp2_with fail
     go_meet
     exact ⟨w4.heap.size, w7.heap.size, ua, uk, na, nk, ea, ek, da, dk, rfl, rfl, rfl, Zh E11.out⟩
    ·skip
     go_simp
     have E8 := Zh ((E7.out.push 24 [.slice none 0 0] (w6.heap.size) (by simp)))
     (try dsimp only)
     clear hHeld
     refine hKK.out _ _ (⟨((E8.out.bx 3 rfl).cell 0 rfl), ((E8.out.bx 3 rfl).cell 1 rfl), ((E8.out.bx 3 rfl).cell 2 rfl), ((E8.out.bx 2 rfl).cell 0 rfl), ((E8.out.bx 2 rfl).cell 1 rfl), ((E8.out.bx 2 rfl).cell 2 rfl)⟩) (fun hHeld => ?_)
     clear hKK KK
     try simp only [Act.put, pq0, pq1, pq2]
     clear E7
     generalize w6.alloc (.cells #[.slice none 0 0] 24) = w7 at *
     refine uRd 3 (fun KK hKK => ?_)
     go_simp
     refine (Make_c (gS.sl (E8.out.fc 0 rfl)) (gCt.any (E8.out.fc 2 rfl)) (gCt.any (E8.out.fc 1 rfl))).mono ?_
     rintro e w8 ⟨⟨na, nk, ea, ek, da, dk, rfl, nh, dh⟩, hb⟩
     have E9 := Zh (((E8.out.below hb).noteS nh.out rfl).noteS dh.out rfl)
     clear E8 hb nh dh
     (try dsimp only)
     clear hHeld
     refine hKK.out _ _ (⟨((E9.out.bx 3 rfl).cell 0 rfl), ((E9.out.bx 3 rfl).cell 1 rfl), ((E9.out.bx 3 rfl).cell 2 rfl), ((E9.out.bx 2 rfl).cell 0 rfl), ((E9.out.bx 2 rfl).cell 1 rfl), ((E9.out.bx 2 rfl).cell 2 rfl)⟩) (fun hHeld => ?_)
     clear hKK KK
     try simp only [Act.put, pq0, pq1, pq2]
     refine uPl [4, 5, 6, 7] ?_
     iterate 4 (refine uTl (v := ?_) ?_ ?_; rotate_left; (focus (intro wS hSw; (try dsimp only at hSw); go_simp; try with_reducible rfl)); try simp only [Act.put, pq0, pq1, pq2])
     refine Pl.z ?_
     have b1 := E9.out.bx 1 rfl
     have c1_0 := b1.cell 0 rfl
     have c1_1 := b1.cell 1 rfl
     have f1_0 := b1.frozen 0
     have f1_1 := b1.frozen 1
     clear b1
     refine uRd 10 (fun KK hKK => ?_)
     go_simp
     have E10 : Hid (Env (fun _ => True) w [(w6.heap.size, 24, [.slice none 0 0]), (w4.heap.size, 26, [.slice na (Nn.NatMath.len 187) nk, .slice ea (Nn.NatMath.len 3) ek]), (w2.heap.size, 57, [.slice qna 1 qnk, .slice qra 1 qrk, .slice qza 4 qzk]), (w1.heap.size, 57, [.slice pna 1 pnk, .slice pra 1 prk, .slice pza 2 pzk])] [.gn (gS (.slice da (Nn.NatMath.len 107) dk) (Nn.NatMath.digs 107)), .gn (gS (.slice na (Nn.NatMath.len 187) nk) (Nn.NatMath.digs 187)), .gn (gS (.slice ua (Nn.NatMath.len 3) uk) (Nn.NatMath.digs 3)), .gn (gCt 3 ct17 (.slice qna 1 qnk) (.slice qra 1 qrk) (.slice qza 4 qzk)), .gn (gCt 3 ct11 (.slice pna 1 pnk) (.slice pra 1 prk) (.slice pza 2 pzk))] _) := Zh (((E9.out.set 1 0 (.slice na (Nn.NatMath.len 187) nk) rfl).set 1 1 (.slice ea (Nn.NatMath.len 3) ek) rfl))
     (try dsimp only)
     clear hHeld
     refine hKK.out _ _ (⟨((E10.out.bx 3 rfl).cell 0 rfl), ((E10.out.bx 3 rfl).cell 1 rfl), ((E10.out.bx 3 rfl).cell 2 rfl), ((E10.out.bx 2 rfl).cell 0 rfl), ((E10.out.bx 2 rfl).cell 1 rfl), ((E10.out.bx 2 rfl).cell 2 rfl)⟩) (fun hHeld => ?_)
     clear hKK KK
     try simp only [Act.put, pq0, pq1, pq2]
     have b2 := E10.out.bx 0 rfl
     have c2_0 := b2.cell 0 rfl
     have f2_0 := b2.frozen 0
     clear b2
     refine uRd 11 (fun KK hKK => ?_)
     go_simp
     have E11 : Hid (Env (fun _ => True) w [(w6.heap.size, 24, [.slice da (Nn.NatMath.len 107) dk]), (w4.heap.size, 26, [.slice na (Nn.NatMath.len 187) nk, .slice ea (Nn.NatMath.len 3) ek]), (w2.heap.size, 57, [.slice qna 1 qnk, .slice qra 1 qrk, .slice qza 4 qzk]), (w1.heap.size, 57, [.slice pna 1 pnk, .slice pra 1 prk, .slice pza 2 pzk])] [.gn (gS (.slice da (Nn.NatMath.len 107) dk) (Nn.NatMath.digs 107)), .gn (gS (.slice na (Nn.NatMath.len 187) nk) (Nn.NatMath.digs 187)), .gn (gS (.slice ua (Nn.NatMath.len 3) uk) (Nn.NatMath.digs 3)), .gn (gCt 3 ct17 (.slice qna 1 qnk) (.slice qra 1 qrk) (.slice qza 4 qzk)), .gn (gCt 3 ct11 (.slice pna 1 pnk) (.slice pra 1 prk) (.slice pza 2 pzk))] _) := Zh ((E10.out.set 0 0 (.slice da (Nn.NatMath.len 107) dk) rfl))
     (try dsimp only)
     clear hHeld
     refine hKK.out _ _ (⟨((E11.out.bx 3 rfl).cell 0 rfl), ((E11.out.bx 3 rfl).cell 1 rfl), ((E11.out.bx 3 rfl).cell 2 rfl), ((E11.out.bx 2 rfl).cell 0 rfl), ((E11.out.bx 2 rfl).cell 1 rfl), ((E11.out.bx 2 rfl).cell 2 rfl)⟩) (fun hHeld => ?_)
     clear hKK KK
     try simp only [Act.put, pq0, pq1, pq2]
     refine uTk (i := 12) (some 7) (v := ?_) ?_ ?_
     rotate_left
     ·(intro wS hSw; (try dsimp only at hSw); go_simp; try with_reducible rfl)
     try simp only [Act.put, pq0, pq1, pq2]
     refine uDone (by kernel_rfl) ?_ _
     go_wp2_with fail
     go_meet
     exact ⟨w4.heap.size, w6.heap.size, ua, uk, na, nk, ea, ek, da, dk, rfl, rfl, rfl, Zh E11.out⟩
   ·skip
    go_simp
    have E7 := Zh ((E6.out.push 24 [.slice none 0 0] (w5.heap.size) (by simp)))
    (try dsimp only)
    clear hHeld
    refine hKK.out _ _ (⟨((E7.out.bx 3 rfl).cell 0 rfl), ((E7.out.bx 3 rfl).cell 1 rfl), ((E7.out.bx 3 rfl).cell 2 rfl), ((E7.out.bx 2 rfl).cell 0 rfl), ((E7.out.bx 2 rfl).cell 1 rfl), ((E7.out.bx 2 rfl).cell 2 rfl)⟩) (fun hHeld => ?_)
    clear hKK KK
    try simp only [Act.put, pq0, pq1, pq2]
    clear E6
    generalize w5.alloc (.cells #[.slice none 0 0] 24) = w6 at *
    refine uRd 2 (fun KK hKK => ?_)
    go_simp
    refine (of_c 3 (by decide)).mono ?_
    rintro e w7 ⟨⟨ua, uk, rfl, uh⟩, hb⟩
    have E8 := Zh ((E7.out.below hb).noteS uh.out rfl)
    clear E7 hb uh
    (try dsimp only)
    clear hHeld
    refine hKK.out _ _ (⟨((E8.out.bx 3 rfl).cell 0 rfl), ((E8.out.bx 3 rfl).cell 1 rfl), ((E8.out.bx 3 rfl).cell 2 rfl), ((E8.out.bx 2 rfl).cell 0 rfl), ((E8.out.bx 2 rfl).cell 1 rfl), ((E8.out.bx 2 rfl).cell 2 rfl)⟩) (fun hHeld => ?_)
    clear hKK KK
    try simp only [Act.put, pq0, pq1, pq2]
    refine uRd 3 (fun KK hKK => ?_)
    go_simp
    refine (Make_c (gS.sl (E8.out.fc 0 rfl)) (gCt.any (E8.out.fc 2 rfl)) (gCt.any (E8.out.fc 1 rfl))).mono ?_
    rintro e w8 ⟨⟨na, nk, ea, ek, da, dk, rfl, nh, dh⟩, hb⟩
    have E9 := Zh (((E8.out.below hb).noteS nh.out rfl).noteS dh.out rfl)
    clear E8 hb nh dh
    (try dsimp only)
    clear hHeld
    refine hKK.out _ _ (⟨((E9.out.bx 3 rfl).cell 0 rfl), ((E9.out.bx 3 rfl).cell 1 rfl), ((E9.out.bx 3 rfl).cell 2 rfl), ((E9.out.bx 2 rfl).cell 0 rfl), ((E9.out.bx 2 rfl).cell 1 rfl), ((E9.out.bx 2 rfl).cell 2 rfl)⟩) (fun hHeld => ?_)
    clear hKK KK
    try simp only [Act.put, pq0, pq1, pq2]
    refine uPl [4, 5, 6, 7] ?_
    iterate 4 (refine uTl (v := ?_) ?_ ?_; rotate_left; (focus (intro wS hSw; (try dsimp only at hSw); go_simp; try with_reducible rfl)); try simp only [Act.put, pq0, pq1, pq2])
    refine Pl.z ?_
    have b1 := E9.out.bx 1 rfl
    have c1_0 := b1.cell 0 rfl
    have c1_1 := b1.cell 1 rfl
    have f1_0 := b1.frozen 0
    have f1_1 := b1.frozen 1
    clear b1
    refine uRd 10 (fun KK hKK => ?_)
    go_simp
    have E10 : Hid (Env (fun _ => True) w [(w5.heap.size, 24, [.slice none 0 0]), (w4.heap.size, 26, [.slice na (Nn.NatMath.len 187) nk, .slice ea (Nn.NatMath.len 3) ek]), (w2.heap.size, 57, [.slice qna 1 qnk, .slice qra 1 qrk, .slice qza 4 qzk]), (w1.heap.size, 57, [.slice pna 1 pnk, .slice pra 1 prk, .slice pza 2 pzk])] [.gn (gS (.slice da (Nn.NatMath.len 107) dk) (Nn.NatMath.digs 107)), .gn (gS (.slice na (Nn.NatMath.len 187) nk) (Nn.NatMath.digs 187)), .gn (gS (.slice ua (Nn.NatMath.len 3) uk) (Nn.NatMath.digs 3)), .gn (gCt 3 ct17 (.slice qna 1 qnk) (.slice qra 1 qrk) (.slice qza 4 qzk)), .gn (gCt 3 ct11 (.slice pna 1 pnk) (.slice pra 1 prk) (.slice pza 2 pzk))] _) := Zh (((E9.out.set 1 0 (.slice na (Nn.NatMath.len 187) nk) rfl).set 1 1 (.slice ea (Nn.NatMath.len 3) ek) rfl))
    (try dsimp only)
    clear hHeld
    refine hKK.out _ _ (⟨((E10.out.bx 3 rfl).cell 0 rfl), ((E10.out.bx 3 rfl).cell 1 rfl), ((E10.out.bx 3 rfl).cell 2 rfl), ((E10.out.bx 2 rfl).cell 0 rfl), ((E10.out.bx 2 rfl).cell 1 rfl), ((E10.out.bx 2 rfl).cell 2 rfl)⟩) (fun hHeld => ?_)
    clear hKK KK
    try simp only [Act.put, pq0, pq1, pq2]
    have b2 := E10.out.bx 0 rfl
    have c2_0 := b2.cell 0 rfl
    have f2_0 := b2.frozen 0
    clear b2
    refine uRd 11 (fun KK hKK => ?_)
    go_simp
    have E11 : Hid (Env (fun _ => True) w [(w5.heap.size, 24, [.slice da (Nn.NatMath.len 107) dk]), (w4.heap.size, 26, [.slice na (Nn.NatMath.len 187) nk, .slice ea (Nn.NatMath.len 3) ek]), (w2.heap.size, 57, [.slice qna 1 qnk, .slice qra 1 qrk, .slice qza 4 qzk]), (w1.heap.size, 57, [.slice pna 1 pnk, .slice pra 1 prk, .slice pza 2 pzk])] [.gn (gS (.slice da (Nn.NatMath.len 107) dk) (Nn.NatMath.digs 107)), .gn (gS (.slice na (Nn.NatMath.len 187) nk) (Nn.NatMath.digs 187)), .gn (gS (.slice ua (Nn.NatMath.len 3) uk) (Nn.NatMath.digs 3)), .gn (gCt 3 ct17 (.slice qna 1 qnk) (.slice qra 1 qrk) (.slice qza 4 qzk)), .gn (gCt 3 ct11 (.slice pna 1 pnk) (.slice pra 1 prk) (.slice pza 2 pzk))] _) := Zh ((E10.out.set 0 0 (.slice da (Nn.NatMath.len 107) dk) rfl))
    (try dsimp only)
    clear hHeld
    refine hKK.out _ _ (⟨((E11.out.bx 3 rfl).cell 0 rfl), ((E11.out.bx 3 rfl).cell 1 rfl), ((E11.out.bx 3 rfl).cell 2 rfl), ((E11.out.bx 2 rfl).cell 0 rfl), ((E11.out.bx 2 rfl).cell 1 rfl), ((E11.out.bx 2 rfl).cell 2 rfl)⟩) (fun hHeld => ?_)
    clear hKK KK
    try simp only [Act.put, pq0, pq1, pq2]
    refine uTk (i := 12) (some 7) (v := ?_) ?_ ?_
    rotate_left
    ·(intro wS hSw; (try dsimp only at hSw); go_simp; try with_reducible rfl)
    try simp only [Act.put, pq0, pq1, pq2]
    refine uDone (by kernel_rfl) ?_ _
    go_wp2_with fail
    go_meet
    exact ⟨w4.heap.size, w5.heap.size, ua, uk, na, nk, ea, ek, da, dk, rfl, rfl, rfl, Zh E11.out⟩
  ·skip
   go_simp
   have E6 := Zh ((E5.out.push 24 [.slice none 0 0] (w4.heap.size) (by simp)))
   (try dsimp only)
   clear hHeld
   refine hKK.out _ _ (⟨((E6.out.bx 2 rfl).cell 0 rfl), ((E6.out.bx 2 rfl).cell 1 rfl), ((E6.out.bx 2 rfl).cell 2 rfl), ((E6.out.bx 1 rfl).cell 0 rfl), ((E6.out.bx 1 rfl).cell 1 rfl), ((E6.out.bx 1 rfl).cell 2 rfl)⟩) (fun hHeld => ?_)
   clear hKK KK
   try simp only [Act.put, pq0, pq1, pq2]
   clear E5
   generalize w4.alloc (.cells #[.slice none 0 0] 24) = w5 at *
   refine uReady (rs := [2, 8]) (by kernel_rfl) (by simp) ?_
   refine (ReadyU.cons rfl (fun KK hKK => ?_) (ReadyU.cons rfl (fun KK hKK => ?_) ReadyU.nil))
   ·skip
    go_simp
    refine (of_c 3 (by decide)).mono ?_
    rintro e w6 ⟨⟨ua, uk, rfl, uh⟩, hb⟩
    have E7 := Zh ((E6.out.below hb).noteS uh.out rfl)
    clear E6 hb uh
    (try dsimp only)
    clear hHeld
    refine hKK.out _ _ (⟨((E7.out.bx 2 rfl).cell 0 rfl), ((E7.out.bx 2 rfl).cell 1 rfl), ((E7.out.bx 2 rfl).cell 2 rfl), ((E7.out.bx 1 rfl).cell 0 rfl), ((E7.out.bx 1 rfl).cell 1 rfl), ((E7.out.bx 1 rfl).cell 2 rfl)⟩) (fun hHeld => ?_)
    clear hKK KK
    try simp only [Act.put, pq0, pq1, pq2]
    refine uReady (rs := [3, 8]) (by kernel_rfl) (by simp) ?_
    refine (ReadyU.cons rfl (fun KK hKK => ?_) (ReadyU.cons rfl (fun KK hKK => ?_) ReadyU.nil))
    ·skip
     go_simp
     refine (Make_c (gS.sl (E7.out.fc 0 rfl)) (gCt.any (E7.out.fc 2 rfl)) (gCt.any (E7.out.fc 1 rfl))).mono ?_
     rintro e w7 ⟨⟨na, nk, ea, ek, da, dk, rfl, nh, dh⟩, hb⟩
     have E8 := Zh (((E7.out.below hb).noteS nh.out rfl).noteS dh.out rfl)
     clear E7 hb nh dh
     (try dsimp only)
     clear hHeld
     refine hKK.out _ _ (⟨((E8.out.bx 2 rfl).cell 0 rfl), ((E8.out.bx 2 rfl).cell 1 rfl), ((E8.out.bx 2 rfl).cell 2 rfl), ((E8.out.bx 1 rfl).cell 0 rfl), ((E8.out.bx 1 rfl).cell 1 rfl), ((E8.out.bx 1 rfl).cell 2 rfl)⟩) (fun hHeld => ?_)
     clear hKK KK
     try simp only [Act.put, pq0, pq1, pq2]
     refine uPl [4, 5, 6, 7] ?_
     iterate 4 (refine uTl (v := ?_) ?_ ?_; rotate_left; (focus (intro wS hSw; (try dsimp only at hSw); go_simp; try with_reducible rfl)); try simp only [Act.put, pq0, pq1, pq2])
     refine Pl.z ?_
     refine uRd 8 (fun KK hKK => ?_)
     go_simp
     have E9 := Zh ((E8.out.push 26 [.slice none 0 0, .slice none 0 0] (w7.heap.size) (by simp)))
     (try dsimp only)
     clear hHeld
     refine hKK.out _ _ (⟨((E9.out.bx 3 rfl).cell 0 rfl), ((E9.out.bx 3 rfl).cell 1 rfl), ((E9.out.bx 3 rfl).cell 2 rfl), ((E9.out.bx 2 rfl).cell 0 rfl), ((E9.out.bx 2 rfl).cell 1 rfl), ((E9.out.bx 2 rfl).cell 2 rfl)⟩) (fun hHeld => ?_)
     clear hKK KK
     try simp only [Act.put, pq0, pq1, pq2]
     clear E8
     generalize w7.alloc (.cells #[.slice none 0 0, .slice none 0 0] 26) = w8 at *
     have b1 := E9.out.bx 0 rfl
     have c1_0 := b1.cell 0 rfl
     have c1_1 := b1.cell 1 rfl
     have f1_0 := b1.frozen 0
     have f1_1 := b1.frozen 1
     clear b1
     refine uRd 10 (fun KK hKK => ?_)
     go_simp
     have E10 : Hid (Env (fun _ => True) w [(w7.heap.size, 26, [.slice na (Nn.NatMath.len 187) nk, .slice ea (Nn.NatMath.len 3) ek]), (w4.heap.size, 24, [.slice none 0 0]), (w2.heap.size, 57, [.slice qna 1 qnk, .slice qra 1 qrk, .slice qza 4 qzk]), (w1.heap.size, 57, [.slice pna 1 pnk, .slice pra 1 prk, .slice pza 2 pzk])] [.gn (gS (.slice da (Nn.NatMath.len 107) dk) (Nn.NatMath.digs 107)), .gn (gS (.slice na (Nn.NatMath.len 187) nk) (Nn.NatMath.digs 187)), .gn (gS (.slice ua (Nn.NatMath.len 3) uk) (Nn.NatMath.digs 3)), .gn (gCt 3 ct17 (.slice qna 1 qnk) (.slice qra 1 qrk) (.slice qza 4 qzk)), .gn (gCt 3 ct11 (.slice pna 1 pnk) (.slice pra 1 prk) (.slice pza 2 pzk))] _) := Zh (((E9.out.set 0 0 (.slice na (Nn.NatMath.len 187) nk) rfl).set 0 1 (.slice ea (Nn.NatMath.len 3) ek) rfl))
     (try dsimp only)
     clear hHeld
     refine hKK.out _ _ (⟨((E10.out.bx 3 rfl).cell 0 rfl), ((E10.out.bx 3 rfl).cell 1 rfl), ((E10.out.bx 3 rfl).cell 2 rfl), ((E10.out.bx 2 rfl).cell 0 rfl), ((E10.out.bx 2 rfl).cell 1 rfl), ((E10.out.bx 2 rfl).cell 2 rfl)⟩) (fun hHeld => ?_)
     clear hKK KK
     try simp only [Act.put, pq0, pq1, pq2]
     have b2 := E10.out.bx 1 rfl
     have c2_0 := b2.cell 0 rfl
     have f2_0 := b2.frozen 0
     clear b2
     refine uRd 11 (fun KK hKK => ?_)
     go_simp
     have E11 : Hid (Env (fun _ => True) w [(w7.heap.size, 26, [.slice na (Nn.NatMath.len 187) nk, .slice ea (Nn.NatMath.len 3) ek]), (w4.heap.size, 24, [.slice da (Nn.NatMath.len 107) dk]), (w2.heap.size, 57, [.slice qna 1 qnk, .slice qra 1 qrk, .slice qza 4 qzk]), (w1.heap.size, 57, [.slice pna 1 pnk, .slice pra 1 prk, .slice pza 2 pzk])] [.gn (gS (.slice da (Nn.NatMath.len 107) dk) (Nn.NatMath.digs 107)), .gn (gS (.slice na (Nn.NatMath.len 187) nk) (Nn.NatMath.digs 187)), .gn (gS (.slice ua (Nn.NatMath.len 3) uk) (Nn.NatMath.digs 3)), .gn (gCt 3 ct17 (.slice qna 1 qnk) (.slice qra 1 qrk) (.slice qza 4 qzk)), .gn (gCt 3 ct11 (.slice pna 1 pnk) (.slice pra 1 prk) (.slice pza 2 pzk))] _) := Zh ((E10.out.set 1 0 (.slice da (Nn.NatMath.len 107) dk) rfl))
     (try dsimp only)
     clear hHeld
     refine hKK.out _ _ (⟨((E11.out.bx 3 rfl).cell 0 rfl), ((E11.out.bx 3 rfl).cell 1 rfl), ((E11.out.bx 3 rfl).cell 2 rfl), ((E11.out.bx 2 rfl).cell 0 rfl), ((E11.out.bx 2 rfl).cell 1 rfl), ((E11.out.bx 2 rfl).cell 2 rfl)⟩) (fun hHeld => ?_)
     clear hKK KK
     try simp only [Act.put, pq0, pq1, pq2]
     refine uTk (i := 12) (some 7) (v := ?_) ?_ ?_
     rotate_left
     ·(intro wS hSw; (try dsimp only at hSw); go_simp; try with_reducible rfl)
     try simp only [Act.put, pq0, pq1, pq2]
     refine uDone (by kernel_rfl) ?_ _
     go_wp2_with fail
     go_meet
     exact ⟨w7.heap.size, w4.heap.size, ua, uk, na, nk, ea, ek, da, dk, rfl, rfl, rfl, Zh (E11.out.perm (List.Perm.swap _ _ _))⟩
    ·skip
     go_simp
     have E8 := Zh ((E7.out.push 26 [.slice none 0 0, .slice none 0 0] (w6.heap.size) (by simp)))
     (try dsimp only)
     clear hHeld
     refine hKK.out _ _ (⟨((E8.out.bx 3 rfl).cell 0 rfl), ((E8.out.bx 3 rfl).cell 1 rfl), ((E8.out.bx 3 rfl).cell 2 rfl), ((E8.out.bx 2 rfl).cell 0 rfl), ((E8.out.bx 2 rfl).cell 1 rfl), ((E8.out.bx 2 rfl).cell 2 rfl)⟩) (fun hHeld => ?_)
     clear hKK KK
     try simp only [Act.put, pq0, pq1, pq2]
     clear E7
     generalize w6.alloc (.cells #[.slice none 0 0, .slice none 0 0] 26) = w7 at *
     refine uRd 3 (fun KK hKK => ?_)
     go_simp
     refine (Make_c (gS.sl (E8.out.fc 0 rfl)) (gCt.any (E8.out.fc 2 rfl)) (gCt.any (E8.out.fc 1 rfl))).mono ?_
     rintro e w8 ⟨⟨na, nk, ea, ek, da, dk, rfl, nh, dh⟩, hb⟩
     have E9 := Zh (((E8.out.below hb).noteS nh.out rfl).noteS dh.out rfl)
     clear E8 hb nh dh
     (try dsimp only)
     clear hHeld
     refine hKK.out _ _ (⟨((E9.out.bx 3 rfl).cell 0 rfl), ((E9.out.bx 3 rfl).cell 1 rfl), ((E9.out.bx 3 rfl).cell 2 rfl), ((E9.out.bx 2 rfl).cell 0 rfl), ((E9.out.bx 2 rfl).cell 1 rfl), ((E9.out.bx 2 rfl).cell 2 rfl)⟩) (fun hHeld => ?_)
     clear hKK KK
     try simp only [Act.put, pq0, pq1, pq2]
     refine uPl [4, 5, 6, 7] ?_
     iterate 4 (refine uTl (v := ?_) ?_ ?_; rotate_left; (focus (intro wS hSw; (try dsimp only at hSw); go_simp; try with_reducible rfl)); try simp only [Act.put, pq0, pq1, pq2])
     refine Pl.z ?_
     have b1 := E9.out.bx 0 rfl
     have c1_0 := b1.cell 0 rfl
     have c1_1 := b1.cell 1 rfl
     have f1_0 := b1.frozen 0
     have f1_1 := b1.frozen 1
     clear b1
     refine uRd 10 (fun KK hKK => ?_)
     go_simp
     have E10 : Hid (Env (fun _ => True) w [(w6.heap.size, 26, [.slice na (Nn.NatMath.len 187) nk, .slice ea (Nn.NatMath.len 3) ek]), (w4.heap.size, 24, [.slice none 0 0]), (w2.heap.size, 57, [.slice qna 1 qnk, .slice qra 1 qrk, .slice qza 4 qzk]), (w1.heap.size, 57, [.slice pna 1 pnk, .slice pra 1 prk, .slice pza 2 pzk])] [.gn (gS (.slice da (Nn.NatMath.len 107) dk) (Nn.NatMath.digs 107)), .gn (gS (.slice na (Nn.NatMath.len 187) nk) (Nn.NatMath.digs 187)), .gn (gS (.slice ua (Nn.NatMath.len 3) uk) (Nn.NatMath.digs 3)), .gn (gCt 3 ct17 (.slice qna 1 qnk) (.slice qra 1 qrk) (.slice qza 4 qzk)), .gn (gCt 3 ct11 (.slice pna 1 pnk) (.slice pra 1 prk) (.slice pza 2 pzk))] _) := Zh (((E9.out.set 0 0 (.slice na (Nn.NatMath.len 187) nk) rfl).set 0 1 (.slice ea (Nn.NatMath.len 3) ek) rfl))
     (try dsimp only)
     clear hHeld
     refine hKK.out _ _ (⟨((E10.out.bx 3 rfl).cell 0 rfl), ((E10.out.bx 3 rfl).cell 1 rfl), ((E10.out.bx 3 rfl).cell 2 rfl), ((E10.out.bx 2 rfl).cell 0 rfl), ((E10.out.bx 2 rfl).cell 1 rfl), ((E10.out.bx 2 rfl).cell 2 rfl)⟩) (fun hHeld => ?_)
     clear hKK KK
     try simp only [Act.put, pq0, pq1, pq2]
     have b2 := E10.out.bx 1 rfl
     have c2_0 := b2.cell 0 rfl
     have f2_0 := b2.frozen 0
     clear b2
     refine uRd 11 (fun KK hKK => ?_)
     go_simp
     have E11 : Hid (Env (fun _ => True) w [(w6.heap.size, 26, [.slice na (Nn.NatMath.len 187) nk, .slice ea (Nn.NatMath.len 3) ek]), (w4.heap.size, 24, [.slice da (Nn.NatMath.len 107) dk]), (w2.heap.size, 57, [.slice qna 1 qnk, .slice qra 1 qrk, .slice qza 4 qzk]), (w1.heap.size, 57, [.slice pna 1 pnk, .slice pra 1 prk, .slice pza 2 pzk])] [.gn (gS (.slice da (Nn.NatMath.len 107) dk) (Nn.NatMath.digs 107)), .gn (gS (.slice na (Nn.NatMath.len 187) nk) (Nn.NatMath.digs 187)), .gn (gS (.slice ua (Nn.NatMath.len 3) uk) (Nn.NatMath.digs 3)), .gn (gCt 3 ct17 (.slice qna 1 qnk) (.slice qra 1 qrk) (.slice qza 4 qzk)), .gn (gCt 3 ct11 (.slice pna 1 pnk) (.slice pra 1 prk) (.slice pza 2 pzk))] _) := Zh ((E10.out.set 1 0 (.slice da (Nn.NatMath.len 107) dk) rfl))
     (try dsimp only)
     clear hHeld
     refine hKK.out _ _ (⟨((E11.out.bx 3 rfl).cell 0 rfl), ((E11.out.bx 3 rfl).cell 1 rfl), ((E11.out.bx 3 rfl).cell 2 rfl), ((E11.out.bx 2 rfl).cell 0 rfl), ((E11.out.bx 2 rfl).cell 1 rfl), ((E11.out.bx 2 rfl).cell 2 rfl)⟩) (fun hHeld => ?_)
     clear hKK KK
     try simp only [Act.put, pq0, pq1, pq2]
     refine uTk (i := 12) (some 7) (v := ?_) ?_ ?_
     rotate_left
     ·(intro wS hSw; (try dsimp only at hSw); go_simp; try with_reducible rfl)
     try simp only [Act.put, pq0, pq1, pq2]
     refine uDone (by kernel_rfl) ?_ _
     go_wp2_with fail
     go_meet
     exact ⟨w6.heap.size, w4.heap.size, ua, uk, na, nk, ea, ek, da, dk, rfl, rfl, rfl, Zh (E11.out.perm (List.Perm.swap _ _ _))⟩
   ·skip
    go_simp
    have E7 := Zh ((E6.out.push 26 [.slice none 0 0, .slice none 0 0] (w5.heap.size) (by simp)))
    (try dsimp only)
    clear hHeld
    refine hKK.out _ _ (⟨((E7.out.bx 3 rfl).cell 0 rfl), ((E7.out.bx 3 rfl).cell 1 rfl), ((E7.out.bx 3 rfl).cell 2 rfl), ((E7.out.bx 2 rfl).cell 0 rfl), ((E7.out.bx 2 rfl).cell 1 rfl), ((E7.out.bx 2 rfl).cell 2 rfl)⟩) (fun hHeld => ?_)
    clear hKK KK
    try simp only [Act.put, pq0, pq1, pq2]
    clear E6
    generalize w5.alloc (.cells #[.slice none 0 0, .slice none 0 0] 26) = w6 at *
    refine uRd 2 (fun KK hKK => ?_)
    go_simp
    refine (of_c 3 (by decide)).mono ?_
    rintro e w7 ⟨⟨ua, uk, rfl, uh⟩, hb⟩
    have E8 := Zh ((E7.out.below hb).noteS uh.out rfl)
    clear E7 hb uh
    (try dsimp only)
    clear hHeld
    refine hKK.out _ _ (⟨((E8.out.bx 3 rfl).cell 0 rfl), ((E8.out.bx 3 rfl).cell 1 rfl), ((E8.out.bx 3 rfl).cell 2 rfl), ((E8.out.bx 2 rfl).cell 0 rfl), ((E8.out.bx 2 rfl).cell 1 rfl), ((E8.out.bx 2 rfl).cell 2 rfl)⟩) (fun hHeld => ?_)
    clear hKK KK
    try simp only [Act.put, pq0, pq1, pq2]
    refine uRd 3 (fun KK hKK => ?_)
    go_simp
    refine (Make_c (gS.sl (E8.out.fc 0 rfl)) (gCt.any (E8.out.fc 2 rfl)) (gCt.any (E8.out.fc 1 rfl))).mono ?_
    rintro e w8 ⟨⟨na, nk, ea, ek, da, dk, rfl, nh, dh⟩, hb⟩
    have E9 := Zh (((E8.out.below hb).noteS nh.out rfl).noteS dh.out rfl)
    clear E8 hb nh dh
    (try dsimp only)
    clear hHeld
    refine hKK.out _ _ (⟨((E9.out.bx 3 rfl).cell 0 rfl), ((E9.out.bx 3 rfl).cell 1 rfl), ((E9.out.bx 3 rfl).cell 2 rfl), ((E9.out.bx 2 rfl).cell 0 rfl), ((E9.out.bx 2 rfl).cell 1 rfl), ((E9.out.bx 2 rfl).cell 2 rfl)⟩) (fun hHeld => ?_)
    clear hKK KK
    try simp only [Act.put, pq0, pq1, pq2]
    refine uPl [4, 5, 6, 7] ?_
    iterate 4 (refine uTl (v := ?_) ?_ ?_; rotate_left; (focus (intro wS hSw; (try dsimp only at hSw); go_simp; try with_reducible rfl)); try simp only [Act.put, pq0, pq1, pq2])
    refine Pl.z ?_
    have b1 := E9.out.bx 0 rfl
    have c1_0 := b1.cell 0 rfl
    have c1_1 := b1.cell 1 rfl
    have f1_0 := b1.frozen 0
    have f1_1 := b1.frozen 1
    clear b1
    refine uRd 10 (fun KK hKK => ?_)
    go_simp
    have E10 : Hid (Env (fun _ => True) w [(w5.heap.size, 26, [.slice na (Nn.NatMath.len 187) nk, .slice ea (Nn.NatMath.len 3) ek]), (w4.heap.size, 24, [.slice none 0 0]), (w2.heap.size, 57, [.slice qna 1 qnk, .slice qra 1 qrk, .slice qza 4 qzk]), (w1.heap.size, 57, [.slice pna 1 pnk, .slice pra 1 prk, .slice pza 2 pzk])] [.gn (gS (.slice da (Nn.NatMath.len 107) dk) (Nn.NatMath.digs 107)), .gn (gS (.slice na (Nn.NatMath.len 187) nk) (Nn.NatMath.digs 187)), .gn (gS (.slice ua (Nn.NatMath.len 3) uk) (Nn.NatMath.digs 3)), .gn (gCt 3 ct17 (.slice qna 1 qnk) (.slice qra 1 qrk) (.slice qza 4 qzk)), .gn (gCt 3 ct11 (.slice pna 1 pnk) (.slice pra 1 prk) (.slice pza 2 pzk))] _) := Zh (((E9.out.set 0 0 (.slice na (Nn.NatMath.len 187) nk) rfl).set 0 1 (.slice ea (Nn.NatMath.len 3) ek) rfl))
    (try dsimp only)
    clear hHeld
    refine hKK.out _ _ (⟨((E10.out.bx 3 rfl).cell 0 rfl), ((E10.out.bx 3 rfl).cell 1 rfl), ((E10.out.bx 3 rfl).cell 2 rfl), ((E10.out.bx 2 rfl).cell 0 rfl), ((E10.out.bx 2 rfl).cell 1 rfl), ((E10.out.bx 2 rfl).cell 2 rfl)⟩) (fun hHeld => ?_)
    clear hKK KK
    try simp only [Act.put, pq0, pq1, pq2]
    have b2 := E10.out.bx 1 rfl
    have c2_0 := b2.cell 0 rfl
    have f2_0 := b2.frozen 0
    clear b2
    refine uRd 11 (fun KK hKK => ?_)
    go_simp
    have E11 : Hid (Env (fun _ => True) w [(w5.heap.size, 26, [.slice na (Nn.NatMath.len 187) nk, .slice ea (Nn.NatMath.len 3) ek]), (w4.heap.size, 24, [.slice da (Nn.NatMath.len 107) dk]), (w2.heap.size, 57, [.slice qna 1 qnk, .slice qra 1 qrk, .slice qza 4 qzk]), (w1.heap.size, 57, [.slice pna 1 pnk, .slice pra 1 prk, .slice pza 2 pzk])] [.gn (gS (.slice da (Nn.NatMath.len 107) dk) (Nn.NatMath.digs 107)), .gn (gS (.slice na (Nn.NatMath.len 187) nk) (Nn.NatMath.digs 187)), .gn (gS (.slice ua (Nn.NatMath.len 3) uk) (Nn.NatMath.digs 3)), .gn (gCt 3 ct17 (.slice qna 1 qnk) (.slice qra 1 qrk) (.slice qza 4 qzk)), .gn (gCt 3 ct11 (.slice pna 1 pnk) (.slice pra 1 prk) (.slice pza 2 pzk))] _) := Zh ((E10.out.set 1 0 (.slice da (Nn.NatMath.len 107) dk) rfl))
    (try dsimp only)
    clear hHeld
    refine hKK.out _ _ (⟨((E11.out.bx 3 rfl).cell 0 rfl), ((E11.out.bx 3 rfl).cell 1 rfl), ((E11.out.bx 3 rfl).cell 2 rfl), ((E11.out.bx 2 rfl).cell 0 rfl), ((E11.out.bx 2 rfl).cell 1 rfl), ((E11.out.bx 2 rfl).cell 2 rfl)⟩) (fun hHeld => ?_)
    clear hKK KK
    try simp only [Act.put, pq0, pq1, pq2]
    refine uTk (i := 12) (some 7) (v := ?_) ?_ ?_
    rotate_left
    ·(intro wS hSw; (try dsimp only at hSw); go_simp; try with_reducible rfl)
    try simp only [Act.put, pq0, pq1, pq2]
    refine uDone (by kernel_rfl) ?_ _
    go_wp2_with fail
    go_meet
    exact ⟨w5.heap.size, w4.heap.size, ua, uk, na, nk, ea, ek, da, dk, rfl, rfl, rfl, Zh (E11.out.perm (List.Perm.swap _ _ _))⟩
 case rest =>
  obtain ⟨kg, dg, ua, uk, na, nk, ea, ek, da, dk, rfl, rfl, rfl, E12⟩ := hcut
  clear E4
  go_wp2_with fail
  have E13 := Zh E12.out.drew
  clear E12
  refine wp_regionU (S := fun w' => w'.cell? ⟨kg, 0, none⟩ = some (.slice na (Nn.NatMath.len 187) nk) ∧ w'.cell? ⟨dg, 0, none⟩ = some (.slice da (Nn.NatMath.len 107) dk)) [] (by kernel_rfl) (⟨((E13.out.bx 1 rfl).cell 0 rfl), ((E13.out.bx 0 rfl).cell 0 rfl)⟩) (fun hHeld => ?_)
  generalize wc.drew = w9 at *
  refine uPl [0, 1, 2, 3, 4, 5, 6, 7, 8, 9, 10, 11, 12] ?_
  iterate 13 (refine uTl (v := ?_) ?_ ?_; rotate_left; (focus (intro wS hSw; (try dsimp only at hSw); go_simp; try with_reducible rfl)); try simp only [Act.put, pq0, pq1, pq2])
  refine Pl.z ?_
  refine uRd 13 (fun KK hKK => ?_)
  go_simp
  refine (of_c 187 (by decide)).mono ?_
  rintro e w10 ⟨⟨xa, xk, rfl, xh⟩, hb⟩
  have E14 := Zh ((E13.out.below hb).noteS xh.out rfl)
  clear E13 hb xh
  (try dsimp only)
  clear hHeld
  refine hKK.out _ _ (⟨((E14.out.bx 1 rfl).cell 0 rfl), ((E14.out.bx 0 rfl).cell 0 rfl)⟩) (fun hHeld => ?_)
  clear hKK KK
  try simp only [Act.put, pq0, pq1, pq2]
  refine uRd 14 (fun KK hKK => ?_)
  go_simp
  refine (Nn.rSame_c (t := true) (by decide) (gS.sl (E14.out.fc 2 rfl)) (gS.sl (E14.out.fc 0 rfl))).mono ?_
  rintro e w11 ⟨rfl, hb⟩
  have E15 := Zh (E14.out.below hb)
  clear E14 hb
  (try dsimp only)
  clear hHeld
  refine hKK.out _ _ (⟨((E15.out.bx 1 rfl).cell 0 rfl), ((E15.out.bx 0 rfl).cell 0 rfl)⟩) (fun hHeld => ?_)
  clear hKK KK
  try simp only [Act.put, pq0, pq1, pq2]
  refine uPl [15, 16, 17] ?_
  iterate 3 (refine uTl (v := ?_) ?_ ?_; rotate_left; (focus (intro wS hSw; (try dsimp only at hSw); go_simp; try with_reducible rfl)); try simp only [Act.put, pq0, pq1, pq2])
  refine Pl.z ?_
  refine uRd 18 (fun KK hKK => ?_)
  go_simp
  refine (of_c 107 (by decide)).mono ?_
  rintro e w12 ⟨⟨ya, yk, rfl, yh⟩, hb⟩
  have E16 := Zh ((E15.out.below hb).noteS yh.out rfl)
  clear E15 hb yh
  (try dsimp only)
  clear hHeld
  refine hKK.out _ _ (⟨((E16.out.bx 1 rfl).cell 0 rfl), ((E16.out.bx 0 rfl).cell 0 rfl)⟩) (fun hHeld => ?_)
  clear hKK KK
  try simp only [Act.put, pq0, pq1, pq2]
  refine uRd 19 (fun KK hKK => ?_)
  go_simp
  refine (Nn.rSame_c (t := true) (by decide) (gS.sl (E16.out.fc 2 rfl)) (gS.sl (E16.out.fc 0 rfl))).mono ?_
  rintro e w13 ⟨rfl, hb⟩
  have E17 := Zh (E16.out.below hb)
  clear E16 hb
  (try dsimp only)
  clear hHeld
  refine hKK.out _ _ (⟨((E17.out.bx 1 rfl).cell 0 rfl), ((E17.out.bx 0 rfl).cell 0 rfl)⟩) (fun hHeld => ?_)
  clear hKK KK
  try simp only [Act.put, pq0, pq1, pq2]
  refine uPl [20, 21] ?_
  iterate 2 (refine uTl (v := ?_) ?_ ?_; rotate_left; (focus (intro wS hSw; (try dsimp only at hSw); go_simp; try with_reducible rfl)); try simp only [Act.put, pq0, pq1, pq2])
  refine Pl.z ?_
  refine uDone (by kernel_rfl) ?_ _
  have hfin := Zh E17.out.bel
  go_wp2
  go_ret
  exact ⟨rfl, hfin.out⟩
open Go.RowKit
def big (l : List Nat) : Bool := decide (40 < l.length)
set_option maxRecDepth 100000 in
set_option maxHeartbeats 2000000 in
theorem great_c (ls : List (List Nat)) {xb xo xk : Nat} {w : World} (hx : Fct.at w (fun _ => True) (.gn (gNs xb xo ls))) {t : Bool} (ht0 : ls.any big = t) (hm : ls.length ≤ 1000) :
  Calls Tryz.prog 9 #[.slice (some ⟨xb, xo, none⟩) ls.length xk] w fun e w' => e = .returned (.bool t) ∧ Below w.heap.size w w' := by
 have E0 := Zh ((Env.start (fun _ => True) w).arg (.gn (gNs xb xo ls)) hx)
 clear hx
 go_enter Tryz.func9, Tryz.ntmps9
 have ht := Zh ht0
 clear ht0
 go_wp2_with fail
 go_loopg [7] (ls.length) (fun gk s7 wr => ∃ (k : Nat), s7 = .int .i64 (k : Int) ∧ Hid (Env (fun _ => True) w [] [.gn (gNs xb xo ls)] wr) ∧ Hid ((k ≤ ls.length ∧ gk = ls.length - k) ∧ ∀ j (h : j < ls.length), j < k → big ls[j] = false))
 case atStart => exact ⟨0, rfl, Zh E0.out, Zh ⟨⟨Nat.zero_le _, rfl⟩, fun j _ h => absurd h (Nat.not_lt_zero _)⟩⟩
 case round =>
  clear E0
  obtain ⟨k, rfl, EL, HA⟩ := hrel
  obtain ⟨⟨a1, a2⟩, a3⟩ := HA.out
  have HS := Zh a3
  clear a3 HA
  by_cases hy : k = ls.length
  rotate_left
  ·have hk : k < ls.length := by omega
   have t6 : decide ((k : Int) < (ls.length : Int)) = true := decide_eq_true (by omega)
   have t7 : decide (k < ls.length) = true := decide_eq_true hk
   clear hy
   go_upto_region 3 with (fail)
   obtain ⟨ua, uk, E10⟩ := EL.out.elS 0 rfl (k) hk
   have E1 : Hid (Env (fun _ => True) w [] [.ce xb (xo + k) (.slice ua ls[k].length uk), .gn (gS (.slice ua ls[k].length uk) ls[k]), .gn (gNs xb xo ls)] _) := Zh E10
   clear E10 EL
   have u0 := (E1.out.fc 0 rfl).2
   by_cases hv : big ls[k] = true
   ·skip
    have HT : Hid (t = true) := Zh (by rw [← ht.out]; exact List.any_eq_true.2 ⟨_, List.getElem_mem hk, hv⟩)
    have HV := Zh hv
    have d1 : decide (40 < ls[k].length) = true := HV.out
    have d2 : decide ((40 : Int) < (ls[k].length : Int)) = true := by rw [← d1]; exact decide_eq_decide.2 (by omega)
    clear hv
    have E2 := Zh ((E1.out.push 24 [.slice ua ls[k].length uk] (wr.heap.size) (by simp)))
    have hfin := Zh E2.out.bel
    go_wp2
    go_ret
    exact ⟨RetEqB HT.out.symm, hfin.out⟩
   ·skip
    have HV := Zh (Bool.eq_false_iff.2 hv)
    have d1 : decide (40 < ls[k].length) = false := HV.out
    have d2 : decide ((40 : Int) < (ls[k].length : Int)) = false := by rw [← d1]; exact decide_eq_decide.2 (by omega)
    clear hv
    have E2 := Zh ((E1.out.push 24 [.slice ua ls[k].length uk] (wr.heap.size) (by simp)))
    have EZ := Zh (((E2.out.drop).forget).forget)
    go_wp2
    go_roundg (ls.length - (k + 1))
    case rel => exact ⟨k + 1, rfl, EZ, Zh ⟨⟨by omega, rfl⟩, fun j h hj => by by_cases e : j = k; (· subst e; exact HV.out); exact HS.out j h (by omega)⟩⟩
    case measure => exact by omega
  have t6 : decide ((k : Int) < (ls.length : Int)) = false := decide_eq_false (by omega)
  have t7 : decide (k < ls.length) = false := decide_eq_false (by omega)
  have HT : Hid (t = false) := Zh (by rw [← ht.out, List.any_eq_false]; intro l hl; obtain ⟨j, hj, rfl⟩ := List.getElem_of_mem hl; rw [HS.out j hj (by omega)]; simp)
  clear hy
  have hfin := Zh EL.out.bel
  go_wp2
  go_ret
  exact ⟨RetEqB HT.out.symm, hfin.out⟩
theorem errN {P : Program} {f : Nat} {args : Array Value} {w : World} {c : Int} (h : Calls P f args w fun e w' => e = .returned (.tuple #[.agg #[.slice none 0 0], .int .i64 c]) ∧ Below w.heap.size w w') : Calls P f args w fun e w' => Nn.ResN 0 c e w' ∧ Below w.heap.size w w' :=
 h.mono fun e w' ⟨h1, h2⟩ => ⟨by rw [h1]; exact Nn.ResN.zero c w', h2⟩
end Go.Proofs.YtikopkkebdobdaaGreatDoor

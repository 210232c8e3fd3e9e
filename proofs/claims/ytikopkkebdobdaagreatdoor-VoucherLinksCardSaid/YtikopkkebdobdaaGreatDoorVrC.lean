/- voucher.Factor. -/
import Derived.Test.YtikopkkebdobdaaGreatDoorVrB
namespace Go.Proofs.YtikopkkebdobdaaGreatDoor
open Go.RowKit
set_option linter.unusedVariables false
set_option linter.unusedSimpArgs false
/-- a key, as both texts ask for it -/
def kV (lN lE : List Nat) : Bool := [lN, lE].all Nn.vld && (decide (Nn.NatMath.bl (Nn.NatMath.val lN) ≤ 512) && (!decide (Nn.NatMath.val lN < 15) && (!decide (Nn.NatMath.val lE < 3) && decide (Nn.NatMath.val lE < Nn.NatMath.val lN))))
structure Key (N E : Nat) : Prop where
  vN : Nn.vld (Nn.NatMath.digs N) = true
  vE : Nn.vld (Nn.NatMath.digs E) = true
  lN : Nn.NatMath.len N ≤ 32
  lE : Nn.NatMath.len E ≤ 32
  n15 : 15 ≤ N
  e3 : 3 ≤ E
  eN : E < N
  k : kV (Nn.NatMath.digs N) (Nn.NatMath.digs E) = true
theorem all2 {a b : List Nat} {t : Bool} (h : [a, b].all Nn.vld = t) : (Nn.vld a && Nn.vld b) = t := by rw [← h]; simp
section
variable {w : World} {a b : Value} {lN lE : List Nat} {t : Bool}
theorem Key.of (ha : Nn.Sl w a lN) (hb : Nn.Sl w b lE) (h : kV lN lE = true) : ∃ N E, lN = Nn.NatMath.digs N ∧ lE = Nn.NatMath.digs E ∧ Key N E := by
  have h0 := h
  unfold kV at h
  simp only [Bool.and_eq_true, Bool.not_eq_true', decide_eq_true_eq, decide_eq_false_iff_not] at h
  obtain ⟨h1, h2, h3, h4, h5⟩ := h
  have h1' := all2 h1
  rw [Bool.and_eq_true] at h1'
  obtain ⟨N, rfl, hl, hN⟩ := Nn.nt_of ha h1'.1
  obtain ⟨E, rfl, hl2, hE⟩ := Nn.nt_of hb h1'.2
  rw [Nn.NatMath.val_digs] at h2 h3 h5
  rw [Nn.NatMath.val_digs] at h4 h5
  have h6 : Nn.NatMath.len N ≤ 32 := Nn.NatMath.len_le_bits.1 (by omega)
  exact ⟨N, E, rfl, rfl, h1'.1, h1'.2, h6, Nat.le_trans (Nn.NatMath.len_mono (Nat.le_of_lt h5)) h6, by omega, by omega, h5, h0⟩
theorem vKey_c (ht : kV lN lE = t) (ha : Nn.Sl w a lN) (hb : Nn.Sl w b lE) :
    Calls Tryz.prog 33 #[.agg #[a, b]] w fun e w' => e = .returned (.bool t) ∧ Below w.heap.size w w' := by
  have ha0 := ha
  have hb0 := hb
  obtain ⟨ao, ca, rfl, _⟩ := ha0
  obtain ⟨bo, cb, rfl, _⟩ := hb0
  cases hv : [lN, lE].all Nn.vld with
  | false =>
    have : t = false := by rw [← ht]; unfold kV; rw [hv]; rfl
    subst this
    exact Valid_1 lN lE ha hb hv
  | true =>
    have h1' := all2 hv
    rw [Bool.and_eq_true] at h1'
    obtain ⟨N, rfl, hl, hN⟩ := Nn.nt_of ha h1'.1
    obtain ⟨E, rfl, hl2, hE⟩ := Nn.nt_of hb h1'.2
    unfold kV at ht
    rw [hv, Nn.NatMath.val_digs, Nn.NatMath.val_digs, Bool.true_and] at ht
    by_cases h2 : Nn.NatMath.bl N ≤ 512
    · rw [decide_eq_true h2, Bool.true_and] at ht
      cases h3 : decide (N < 15) with
      | true => rw [h3] at ht; subst ht; exact Valid_3 N E ha hb hl hl2 hv h2 h3
      | false =>
        rw [h3, Bool.not_false, Bool.true_and] at ht
        cases h4 : decide (E < 3) with
        | true => rw [h4] at ht; subst ht; exact Valid_4 N E ha hb hl hl2 hv h2 h3 h4
        | false =>
          rw [h4, Bool.not_false, Bool.true_and] at ht
          cases h5 : decide (E < N) with
          | true => rw [h5] at ht; subst ht; exact Valid_6 N E ha hb hl hl2 hv h2 h3 h4 h5
          | false => rw [h5] at ht; subst ht; exact Valid_5 N E ha hb hl hl2 hv h2 h3 h4 h5
    · rw [decide_eq_false h2, Bool.false_and] at ht
      subst ht
      exact Valid_2 N E ha hb hl hl2 hv h2
theorem rKey_c (ht : kV lN lE = t) (ha : Nn.Sl w a lN) (hb : Nn.Sl w b lE) :
    Calls Tryz.prog 16 #[.agg #[a, b]] w fun e w' => e = .returned (.bool t) ∧ Below w.heap.size w w' := by
  have ha0 := ha
  have hb0 := hb
  obtain ⟨ao, ca, rfl, _⟩ := ha0
  obtain ⟨bo, cb, rfl, _⟩ := hb0
  cases hv : [lN, lE].all Nn.vld with
  | false =>
    have : t = false := by rw [← ht]; unfold kV; rw [hv]; rfl
    subst this
    have h1' := all2 hv
    cases h1 : Nn.vld lN with
    | false => exact rValid_1 lN lE ha hb h1
    | true => rw [h1, Bool.true_and] at h1'; exact rValid_1b lN lE ha hb h1 h1'
  | true =>
    have h1' := all2 hv
    rw [Bool.and_eq_true] at h1'
    obtain ⟨N, rfl, hl, hN⟩ := Nn.nt_of ha h1'.1
    obtain ⟨E, rfl, hl2, hE⟩ := Nn.nt_of hb h1'.2
    obtain ⟨hu1, hu2⟩ := h1'
    unfold kV at ht
    rw [hv, Nn.NatMath.val_digs, Nn.NatMath.val_digs, Bool.true_and] at ht
    cases h3 : decide (N < 15) with
    | true =>
      have : t = false := by rw [← ht, h3]; simp
      subst this
      exact rValid_3 N E ha hb hl hu1 hu2 h3
    | false =>
      rw [h3, Bool.not_false, Bool.true_and] at ht
      by_cases h2 : Nn.NatMath.bl N ≤ 512
      · rw [decide_eq_true h2, Bool.true_and] at ht
        cases h4 : decide (E < 3) with
        | true => rw [h4] at ht; subst ht; exact rValid_4 N E ha hb hl hu1 hu2 h3 h2 h4
        | false =>
          rw [h4, Bool.not_false, Bool.true_and] at ht
          cases h5 : decide (E < N) with
          | true => rw [h5] at ht; subst ht; exact rValid_6 N E ha hb hl hu1 hu2 h3 h2 h4 h5
          | false => rw [h5] at ht; subst ht; exact rValid_5 N E ha hb hl hu1 hu2 h3 h2 h4 h5
      · rw [decide_eq_false h2, Bool.false_and] at ht
        subst ht
        exact rValid_2 N E ha hb hl hu1 hu2 h3 h2
end
theorem cmp_ne {N M : Nat} {c : Int} {t : Bool} (hc : Nn.NatMath.cmp N M = c) (ht : decide (N = M) = t) : (c != 0) = !t := by rw [← hc, ← ht, ← Nn.NatMath.cmp_zero_iff]; rfl
theorem len_zero_beq {N : Nat} (h : N ≠ 0) : (((Nn.NatMath.len N : Nat) : Int) == 0) = false ∧ (Nn.NatMath.len N == 0) = false := by
  have h1 : Nn.NatMath.len N ≠ 0 := fun e => h (Nn.NatMath.len_eq_zero.1 e)
  exact ⟨by rw [beq_eq_false_iff_ne]; omega, by rw [beq_eq_false_iff_ne]; omega⟩
set_option maxRecDepth 100000 in
set_option maxHeartbeats 4000000 in
theorem Factor_1 (lN lE l1 l2 l3 : List Nat) {na ea ba sa ta : Option Addr} {nk ek bk sk tk : Nat} {w : World} (hN : Nn.Sl w (.slice na lN.length nk) lN) (hE : Nn.Sl w (.slice ea lE.length ek) lE) (hB : Nn.Sl w (.slice ba l1.length bk) l1) (hS : Nn.Sl w (.slice sa l2.length sk) l2) (hT : Nn.Sl w (.slice ta l3.length tk) l3) (hk0 : kV lN lE = false) :
    Calls Tryz.prog 10 #[.agg #[.slice na lN.length nk, .slice ea lE.length ek], .agg #[.slice ba l1.length bk], .agg #[.slice sa l2.length sk], .agg #[.slice ta l3.length tk]] w fun e w' => e = .returned (.tuple #[.agg #[.slice none 0 0], .int .i64 1]) ∧ Below w.heap.size w w' := by
  have E0 := Lib.hid ((((((Env.start (fun _ => True) w).argS hN).argS hE).argS hB).argS hS).argS hT)
  clear hN hE hB hS hT
  go_enter Tryz.func10, Tryz.ntmps10
  have hk := Lib.hid hk0
  clear hk0
  have E1 := Lib.hid ((((((E0.out.push 26 [.slice na lN.length nk, .slice ea lE.length ek] (w.heap.size) (by simp)).push 24 [.slice ba l1.length bk] (w.heap.size + 1) (by simp)).push 24 [.slice sa l2.length sk] (w.heap.size + 1 + 1) (by simp)).push 24 [.slice ta l3.length tk] (w.heap.size + 1 + 1 + 1) (by simp)).push 24 [.slice none 0 0] (w.heap.size + 1 + 1 + 1 + 1) (by simp)))
  go_wp2_with fail
  refine (vKey_c hk.out (gS.sl (E1.out.fc 4 rfl)) (gS.sl (E1.out.fc 3 rfl))).mono ?_
  rintro e w1 ⟨rfl, hb⟩
  have E2 := Lib.hid (E1.out.below hb)
  clear E0 E1 hb
  have b1 := E2.out.bx 0 rfl
  have c1_0 := b1.cell 0 rfl
  have f1_0 := b1.frozen 0
  clear b1
  go_wp2
  have E3 : Hid (Env (fun _ => True) w [(w.heap.size + 1 + 1 + 1 + 1, 24, [.slice none 0 0]), (w.heap.size + 1 + 1 + 1, 24, [.slice ta l3.length tk]), (w.heap.size + 1 + 1, 24, [.slice sa l2.length sk]), (w.heap.size + 1, 24, [.slice ba l1.length bk]), (w.heap.size, 26, [.slice na lN.length nk, .slice ea lE.length ek])] [.gn (gS (.slice ta l3.length tk) l3), .gn (gS (.slice sa l2.length sk) l2), .gn (gS (.slice ba l1.length bk) l1), .gn (gS (.slice ea lE.length ek) lE), .gn (gS (.slice na lN.length nk) lN)] _) := Lib.hid ((E2.out.set 0 0 (.slice none 0 0) rfl))
  have hfin := E3.out
  have q2 := (hfin.bx 0 rfl).cell 0 rfl
  exact bodyPost_ret (v := .tuple #[.agg #[.slice none 0 0], .int .i64 1]) (by simp [results, Tryz.results10, go_sem, q2]) rfl ⟨rfl, hfin.bel⟩
set_option maxRecDepth 100000 in
set_option maxHeartbeats 4000000 in
theorem Factor_2 (N E : Nat) (l1 l2 l3 : List Nat) {na ea ba sa ta : Option Addr} {nk ek bk sk tk : Nat} {w : World} (hN : Nn.Sl w (.slice na (Nn.NatMath.len N) nk) (Nn.NatMath.digs N)) (hE : Nn.Sl w (.slice ea (Nn.NatMath.len E) ek) (Nn.NatMath.digs E)) (hB : Nn.Sl w (.slice ba l1.length bk) l1) (hS : Nn.Sl w (.slice sa l2.length sk) l2) (hT : Nn.Sl w (.slice ta l3.length tk) l3) (HK0 : Key N E) (hv0 : [l1, l2, l3].all Nn.vld = false) :
    Calls Tryz.prog 10 #[.agg #[.slice na (Nn.NatMath.len N) nk, .slice ea (Nn.NatMath.len E) ek], .agg #[.slice ba l1.length bk], .agg #[.slice sa l2.length sk], .agg #[.slice ta l3.length tk]] w fun e w' => e = .returned (.tuple #[.agg #[.slice none 0 0], .int .i64 1]) ∧ Below w.heap.size w w' := by
  have E0 := Lib.hid ((((((Env.start (fun _ => True) w).argS hN).argS hE).argS hB).argS hS).argS hT)
  clear hN hE hB hS hT
  go_enter Tryz.func10, Tryz.ntmps10
  have HK := Lib.hid HK0
  have hv := Lib.hid hv0
  clear HK0 hv0
  have E1 := Lib.hid ((((((E0.out.push 26 [.slice na (Nn.NatMath.len N) nk, .slice ea (Nn.NatMath.len E) ek] (w.heap.size) (by simp)).push 24 [.slice ba l1.length bk] (w.heap.size + 1) (by simp)).push 24 [.slice sa l2.length sk] (w.heap.size + 1 + 1) (by simp)).push 24 [.slice ta l3.length tk] (w.heap.size + 1 + 1 + 1) (by simp)).push 24 [.slice none 0 0] (w.heap.size + 1 + 1 + 1 + 1) (by simp)))
  go_wp2_with fail
  refine (vKey_c HK.out.k (gS.sl (E1.out.fc 4 rfl)) (gS.sl (E1.out.fc 3 rfl))).mono ?_
  rintro e w1 ⟨rfl, hb⟩
  have E2 := Lib.hid (E1.out.below hb)
  clear E0 E1 hb
  have b1 := E2.out.bx 3 rfl
  have c1_0 := b1.cell 0 rfl
  clear b1
  have b2 := E2.out.bx 2 rfl
  have c2_0 := b2.cell 0 rfl
  clear b2
  have b3 := E2.out.bx 1 rfl
  have c3_0 := b3.cell 0 rfl
  clear b3
  have E3 := Lib.hid ((E2.out.push 24 [.slice ba l1.length bk, .slice sa l2.length sk, .slice ta l3.length tk] (w1.heap.size) (by simp)))
  go_wp2_with fail
  refine (valid_c [l1, l2, l3] (xb := w1.heap.size) (xo := 0) (xk := 3) (gNs.box (E3.out.bx 0 rfl) ⟨(gS.sl (E3.out.fc 2 rfl)), ⟨(gS.sl (E3.out.fc 1 rfl)), ⟨(gS.sl (E3.out.fc 0 rfl)), trivial⟩⟩⟩) (t := false) hv.out (by simp)).mono ?_
  rintro e w2 ⟨rfl, hb⟩
  have E4 := Lib.hid (E3.out.below hb)
  clear c1_0 c2_0 c3_0 E2 E3 hb
  have b4 := E4.out.bx 1 rfl
  have c4_0 := b4.cell 0 rfl
  have f4_0 := b4.frozen 0
  clear b4
  go_wp2
  have E5 : Hid (Env (fun _ => True) w [(w1.heap.size, 24, [.slice ba l1.length bk, .slice sa l2.length sk, .slice ta l3.length tk]), (w.heap.size + 1 + 1 + 1 + 1, 24, [.slice none 0 0]), (w.heap.size + 1 + 1 + 1, 24, [.slice ta l3.length tk]), (w.heap.size + 1 + 1, 24, [.slice sa l2.length sk]), (w.heap.size + 1, 24, [.slice ba l1.length bk]), (w.heap.size, 26, [.slice na (Nn.NatMath.len N) nk, .slice ea (Nn.NatMath.len E) ek])] [.gn (gS (.slice ta l3.length tk) l3), .gn (gS (.slice sa l2.length sk) l2), .gn (gS (.slice ba l1.length bk) l1), .gn (gS (.slice ea (Nn.NatMath.len E) ek) (Nn.NatMath.digs E)), .gn (gS (.slice na (Nn.NatMath.len N) nk) (Nn.NatMath.digs N))] _) := Lib.hid ((E4.out.set 1 0 (.slice none 0 0) rfl))
  have hfin := E5.out
  have q5 := (hfin.bx 1 rfl).cell 0 rfl
  exact bodyPost_ret (v := .tuple #[.agg #[.slice none 0 0], .int .i64 1]) (by simp [results, Tryz.results10, go_sem, q5]) rfl ⟨rfl, hfin.bel⟩
set_option maxRecDepth 100000 in
set_option maxHeartbeats 4000000 in
theorem Factor_3 (N E B X T : Nat) {na ea ba sa ta : Option Addr} {nk ek bk sk tk : Nat} {w : World} (hN : Nn.Sl w (.slice na (Nn.NatMath.len N) nk) (Nn.NatMath.digs N)) (hE : Nn.Sl w (.slice ea (Nn.NatMath.len E) ek) (Nn.NatMath.digs E)) (hB : Nn.Sl w (.slice ba (Nn.NatMath.len B) bk) (Nn.NatMath.digs B)) (hS : Nn.Sl w (.slice sa (Nn.NatMath.len X) sk) (Nn.NatMath.digs X)) (hT : Nn.Sl w (.slice ta (Nn.NatMath.len T) tk) (Nn.NatMath.digs T)) (HK0 : Key N E) (hv0 : [Nn.NatMath.digs B, Nn.NatMath.digs X, Nn.NatMath.digs T].all Nn.vld = true) (lB0 : Nn.NatMath.len B ≤ 64) (lX0 : Nn.NatMath.len X ≤ 64) (lT0 : Nn.NatMath.len T ≤ 64) (h10 : decide (B < N) = false) :
    Calls Tryz.prog 10 #[.agg #[.slice na (Nn.NatMath.len N) nk, .slice ea (Nn.NatMath.len E) ek], .agg #[.slice ba (Nn.NatMath.len B) bk], .agg #[.slice sa (Nn.NatMath.len X) sk], .agg #[.slice ta (Nn.NatMath.len T) tk]] w fun e w' => e = .returned (.tuple #[.agg #[.slice none 0 0], .int .i64 2]) ∧ Below w.heap.size w w' := by
  have E0 := Lib.hid ((((((Env.start (fun _ => True) w).argS hN).argS hE).argS hB).argS hS).argS hT)
  clear hN hE hB hS hT
  go_enter Tryz.func10, Tryz.ntmps10
  have HK := Lib.hid HK0
  have hv := Lib.hid hv0
  have lB := Lib.hid lB0
  have lX := Lib.hid lX0
  have lT := Lib.hid lT0
  have h1 := Lib.hid h10
  clear HK0 hv0 lB0 lX0 lT0 h10
  have lN := Lib.hid (Nat.le_trans HK.out.lN (by omega : 32 ≤ 64))
  have E1 := Lib.hid ((((((E0.out.push 26 [.slice na (Nn.NatMath.len N) nk, .slice ea (Nn.NatMath.len E) ek] (w.heap.size) (by simp)).push 24 [.slice ba (Nn.NatMath.len B) bk] (w.heap.size + 1) (by simp)).push 24 [.slice sa (Nn.NatMath.len X) sk] (w.heap.size + 1 + 1) (by simp)).push 24 [.slice ta (Nn.NatMath.len T) tk] (w.heap.size + 1 + 1 + 1) (by simp)).push 24 [.slice none 0 0] (w.heap.size + 1 + 1 + 1 + 1) (by simp)))
  go_wp2_with fail
  refine (vKey_c HK.out.k (gS.sl (E1.out.fc 4 rfl)) (gS.sl (E1.out.fc 3 rfl))).mono ?_
  rintro e w1 ⟨rfl, hb⟩
  have E2 := Lib.hid (E1.out.below hb)
  clear E0 E1 hb
  have b1 := E2.out.bx 3 rfl
  have c1_0 := b1.cell 0 rfl
  clear b1
  have b2 := E2.out.bx 2 rfl
  have c2_0 := b2.cell 0 rfl
  clear b2
  have b3 := E2.out.bx 1 rfl
  have c3_0 := b3.cell 0 rfl
  clear b3
  have E3 := Lib.hid ((E2.out.push 24 [.slice ba (Nn.NatMath.len B) bk, .slice sa (Nn.NatMath.len X) sk, .slice ta (Nn.NatMath.len T) tk] (w1.heap.size) (by simp)))
  go_wp2_with fail
  refine (valid_c [(Nn.NatMath.digs B), (Nn.NatMath.digs X), (Nn.NatMath.digs T)] (xb := w1.heap.size) (xo := 0) (xk := 3) (gNs.box (E3.out.bx 0 rfl) ⟨(gS.sl (E3.out.fc 2 rfl)), ⟨(gS.sl (E3.out.fc 1 rfl)), ⟨(gS.sl (E3.out.fc 0 rfl)), trivial⟩⟩⟩) (t := true) hv.out (by simp)).mono ?_
  rintro e w2 ⟨rfl, hb⟩
  have E4 := Lib.hid (E3.out.below hb)
  clear c1_0 c2_0 c3_0 E2 E3 hb
  have b4 := E4.out.bx 4 rfl
  have c4_0 := b4.cell 0 rfl
  clear b4
  have b5 := E4.out.bx 5 rfl
  have c5_0 := b5.cell 0 rfl
  clear b5
  go_wp2_with fail
  refine (vbelow_c h1.out lB.out lN.out (gS.sl (E4.out.fc 2 rfl)) (gS.sl (E4.out.fc 4 rfl))).mono ?_
  rintro e w3 ⟨rfl, hb⟩
  have E5 := Lib.hid (E4.out.below hb)
  clear c4_0 c5_0 E4 hb
  have b6 := E5.out.bx 1 rfl
  have c6_0 := b6.cell 0 rfl
  have f6_0 := b6.frozen 0
  clear b6
  go_wp2
  have E6 : Hid (Env (fun _ => True) w [(w1.heap.size, 24, [.slice ba (Nn.NatMath.len B) bk, .slice sa (Nn.NatMath.len X) sk, .slice ta (Nn.NatMath.len T) tk]), (w.heap.size + 1 + 1 + 1 + 1, 24, [.slice none 0 0]), (w.heap.size + 1 + 1 + 1, 24, [.slice ta (Nn.NatMath.len T) tk]), (w.heap.size + 1 + 1, 24, [.slice sa (Nn.NatMath.len X) sk]), (w.heap.size + 1, 24, [.slice ba (Nn.NatMath.len B) bk]), (w.heap.size, 26, [.slice na (Nn.NatMath.len N) nk, .slice ea (Nn.NatMath.len E) ek])] [.gn (gS (.slice ta (Nn.NatMath.len T) tk) (Nn.NatMath.digs T)), .gn (gS (.slice sa (Nn.NatMath.len X) sk) (Nn.NatMath.digs X)), .gn (gS (.slice ba (Nn.NatMath.len B) bk) (Nn.NatMath.digs B)), .gn (gS (.slice ea (Nn.NatMath.len E) ek) (Nn.NatMath.digs E)), .gn (gS (.slice na (Nn.NatMath.len N) nk) (Nn.NatMath.digs N))] _) := Lib.hid ((E5.out.set 1 0 (.slice none 0 0) rfl))
  have hfin := E6.out
  have q7 := (hfin.bx 1 rfl).cell 0 rfl
  exact bodyPost_ret (v := .tuple #[.agg #[.slice none 0 0], .int .i64 2]) (by simp [results, Tryz.results10, go_sem, q7]) rfl ⟨rfl, hfin.bel⟩
set_option maxRecDepth 100000 in
set_option maxHeartbeats 4000000 in
theorem Factor_3b (N E B X T : Nat) {na ea ba sa ta : Option Addr} {nk ek bk sk tk : Nat} {w : World} (hN : Nn.Sl w (.slice na (Nn.NatMath.len N) nk) (Nn.NatMath.digs N)) (hE : Nn.Sl w (.slice ea (Nn.NatMath.len E) ek) (Nn.NatMath.digs E)) (hB : Nn.Sl w (.slice ba (Nn.NatMath.len B) bk) (Nn.NatMath.digs B)) (hS : Nn.Sl w (.slice sa (Nn.NatMath.len X) sk) (Nn.NatMath.digs X)) (hT : Nn.Sl w (.slice ta (Nn.NatMath.len T) tk) (Nn.NatMath.digs T)) (HK0 : Key N E) (hv0 : [Nn.NatMath.digs B, Nn.NatMath.digs X, Nn.NatMath.digs T].all Nn.vld = true) (lB0 : Nn.NatMath.len B ≤ 64) (lX0 : Nn.NatMath.len X ≤ 64) (lT0 : Nn.NatMath.len T ≤ 64) (h10 : decide (B < N) = true) (h20 : decide (X < N) = false) :
    Calls Tryz.prog 10 #[.agg #[.slice na (Nn.NatMath.len N) nk, .slice ea (Nn.NatMath.len E) ek], .agg #[.slice ba (Nn.NatMath.len B) bk], .agg #[.slice sa (Nn.NatMath.len X) sk], .agg #[.slice ta (Nn.NatMath.len T) tk]] w fun e w' => e = .returned (.tuple #[.agg #[.slice none 0 0], .int .i64 2]) ∧ Below w.heap.size w w' := by
  have E0 := Lib.hid ((((((Env.start (fun _ => True) w).argS hN).argS hE).argS hB).argS hS).argS hT)
  clear hN hE hB hS hT
  go_enter Tryz.func10, Tryz.ntmps10
  have HK := Lib.hid HK0
  have hv := Lib.hid hv0
  have lB := Lib.hid lB0
  have lX := Lib.hid lX0
  have lT := Lib.hid lT0
  have h1 := Lib.hid h10
  have h2 := Lib.hid h20
  clear HK0 hv0 lB0 lX0 lT0 h10 h20
  have lN := Lib.hid (Nat.le_trans HK.out.lN (by omega : 32 ≤ 64))
  have E1 := Lib.hid ((((((E0.out.push 26 [.slice na (Nn.NatMath.len N) nk, .slice ea (Nn.NatMath.len E) ek] (w.heap.size) (by simp)).push 24 [.slice ba (Nn.NatMath.len B) bk] (w.heap.size + 1) (by simp)).push 24 [.slice sa (Nn.NatMath.len X) sk] (w.heap.size + 1 + 1) (by simp)).push 24 [.slice ta (Nn.NatMath.len T) tk] (w.heap.size + 1 + 1 + 1) (by simp)).push 24 [.slice none 0 0] (w.heap.size + 1 + 1 + 1 + 1) (by simp)))
  go_wp2_with fail
  refine (vKey_c HK.out.k (gS.sl (E1.out.fc 4 rfl)) (gS.sl (E1.out.fc 3 rfl))).mono ?_
  rintro e w1 ⟨rfl, hb⟩
  have E2 := Lib.hid (E1.out.below hb)
  clear E0 E1 hb
  have b1 := E2.out.bx 3 rfl
  have c1_0 := b1.cell 0 rfl
  clear b1
  have b2 := E2.out.bx 2 rfl
  have c2_0 := b2.cell 0 rfl
  clear b2
  have b3 := E2.out.bx 1 rfl
  have c3_0 := b3.cell 0 rfl
  clear b3
  have E3 := Lib.hid ((E2.out.push 24 [.slice ba (Nn.NatMath.len B) bk, .slice sa (Nn.NatMath.len X) sk, .slice ta (Nn.NatMath.len T) tk] (w1.heap.size) (by simp)))
  go_wp2_with fail
  refine (valid_c [(Nn.NatMath.digs B), (Nn.NatMath.digs X), (Nn.NatMath.digs T)] (xb := w1.heap.size) (xo := 0) (xk := 3) (gNs.box (E3.out.bx 0 rfl) ⟨(gS.sl (E3.out.fc 2 rfl)), ⟨(gS.sl (E3.out.fc 1 rfl)), ⟨(gS.sl (E3.out.fc 0 rfl)), trivial⟩⟩⟩) (t := true) hv.out (by simp)).mono ?_
  rintro e w2 ⟨rfl, hb⟩
  have E4 := Lib.hid (E3.out.below hb)
  clear c1_0 c2_0 c3_0 E2 E3 hb
  have b4 := E4.out.bx 4 rfl
  have c4_0 := b4.cell 0 rfl
  clear b4
  have b5 := E4.out.bx 5 rfl
  have c5_0 := b5.cell 0 rfl
  clear b5
  go_wp2_with fail
  refine (vbelow_c h1.out lB.out lN.out (gS.sl (E4.out.fc 2 rfl)) (gS.sl (E4.out.fc 4 rfl))).mono ?_
  rintro e w3 ⟨rfl, hb⟩
  have E5 := Lib.hid (E4.out.below hb)
  clear c4_0 c5_0 E4 hb
  have b6 := E5.out.bx 3 rfl
  have c6_0 := b6.cell 0 rfl
  clear b6
  have b7 := E5.out.bx 5 rfl
  have c7_0 := b7.cell 0 rfl
  clear b7
  go_wp2_with fail
  refine (vbelow_c h2.out lX.out lN.out (gS.sl (E5.out.fc 1 rfl)) (gS.sl (E5.out.fc 4 rfl))).mono ?_
  rintro e w4 ⟨rfl, hb⟩
  have E6 := Lib.hid (E5.out.below hb)
  clear c6_0 c7_0 E5 hb
  have b8 := E6.out.bx 1 rfl
  have c8_0 := b8.cell 0 rfl
  have f8_0 := b8.frozen 0
  clear b8
  go_wp2
  have E7 : Hid (Env (fun _ => True) w [(w1.heap.size, 24, [.slice ba (Nn.NatMath.len B) bk, .slice sa (Nn.NatMath.len X) sk, .slice ta (Nn.NatMath.len T) tk]), (w.heap.size + 1 + 1 + 1 + 1, 24, [.slice none 0 0]), (w.heap.size + 1 + 1 + 1, 24, [.slice ta (Nn.NatMath.len T) tk]), (w.heap.size + 1 + 1, 24, [.slice sa (Nn.NatMath.len X) sk]), (w.heap.size + 1, 24, [.slice ba (Nn.NatMath.len B) bk]), (w.heap.size, 26, [.slice na (Nn.NatMath.len N) nk, .slice ea (Nn.NatMath.len E) ek])] [.gn (gS (.slice ta (Nn.NatMath.len T) tk) (Nn.NatMath.digs T)), .gn (gS (.slice sa (Nn.NatMath.len X) sk) (Nn.NatMath.digs X)), .gn (gS (.slice ba (Nn.NatMath.len B) bk) (Nn.NatMath.digs B)), .gn (gS (.slice ea (Nn.NatMath.len E) ek) (Nn.NatMath.digs E)), .gn (gS (.slice na (Nn.NatMath.len N) nk) (Nn.NatMath.digs N))] _) := Lib.hid ((E6.out.set 1 0 (.slice none 0 0) rfl))
  have hfin := E7.out
  have q9 := (hfin.bx 1 rfl).cell 0 rfl
  exact bodyPost_ret (v := .tuple #[.agg #[.slice none 0 0], .int .i64 2]) (by simp [results, Tryz.results10, go_sem, q9]) rfl ⟨rfl, hfin.bel⟩
set_option maxRecDepth 100000 in
set_option maxHeartbeats 4000000 in
theorem Factor_3c (N E B X T : Nat) {na ea ba sa ta : Option Addr} {nk ek bk sk tk : Nat} {w : World} (hN : Nn.Sl w (.slice na (Nn.NatMath.len N) nk) (Nn.NatMath.digs N)) (hE : Nn.Sl w (.slice ea (Nn.NatMath.len E) ek) (Nn.NatMath.digs E)) (hB : Nn.Sl w (.slice ba (Nn.NatMath.len B) bk) (Nn.NatMath.digs B)) (hS : Nn.Sl w (.slice sa (Nn.NatMath.len X) sk) (Nn.NatMath.digs X)) (hT : Nn.Sl w (.slice ta (Nn.NatMath.len T) tk) (Nn.NatMath.digs T)) (HK0 : Key N E) (hv0 : [Nn.NatMath.digs B, Nn.NatMath.digs X, Nn.NatMath.digs T].all Nn.vld = true) (lB0 : Nn.NatMath.len B ≤ 64) (lX0 : Nn.NatMath.len X ≤ 64) (lT0 : Nn.NatMath.len T ≤ 64) (h10 : decide (B < N) = true) (h20 : decide (X < N) = true) (h30 : decide (T < N) = false) :
    Calls Tryz.prog 10 #[.agg #[.slice na (Nn.NatMath.len N) nk, .slice ea (Nn.NatMath.len E) ek], .agg #[.slice ba (Nn.NatMath.len B) bk], .agg #[.slice sa (Nn.NatMath.len X) sk], .agg #[.slice ta (Nn.NatMath.len T) tk]] w fun e w' => e = .returned (.tuple #[.agg #[.slice none 0 0], .int .i64 2]) ∧ Below w.heap.size w w' := by
  have E0 := Lib.hid ((((((Env.start (fun _ => True) w).argS hN).argS hE).argS hB).argS hS).argS hT)
  clear hN hE hB hS hT
  go_enter Tryz.func10, Tryz.ntmps10
  have HK := Lib.hid HK0
  have hv := Lib.hid hv0
  have lB := Lib.hid lB0
  have lX := Lib.hid lX0
  have lT := Lib.hid lT0
  have h1 := Lib.hid h10
  have h2 := Lib.hid h20
  have h3 := Lib.hid h30
  clear HK0 hv0 lB0 lX0 lT0 h10 h20 h30
  have lN := Lib.hid (Nat.le_trans HK.out.lN (by omega : 32 ≤ 64))
  have E1 := Lib.hid ((((((E0.out.push 26 [.slice na (Nn.NatMath.len N) nk, .slice ea (Nn.NatMath.len E) ek] (w.heap.size) (by simp)).push 24 [.slice ba (Nn.NatMath.len B) bk] (w.heap.size + 1) (by simp)).push 24 [.slice sa (Nn.NatMath.len X) sk] (w.heap.size + 1 + 1) (by simp)).push 24 [.slice ta (Nn.NatMath.len T) tk] (w.heap.size + 1 + 1 + 1) (by simp)).push 24 [.slice none 0 0] (w.heap.size + 1 + 1 + 1 + 1) (by simp)))
  go_wp2_with fail
  refine (vKey_c HK.out.k (gS.sl (E1.out.fc 4 rfl)) (gS.sl (E1.out.fc 3 rfl))).mono ?_
  rintro e w1 ⟨rfl, hb⟩
  have E2 := Lib.hid (E1.out.below hb)
  clear E0 E1 hb
  have b1 := E2.out.bx 3 rfl
  have c1_0 := b1.cell 0 rfl
  clear b1
  have b2 := E2.out.bx 2 rfl
  have c2_0 := b2.cell 0 rfl
  clear b2
  have b3 := E2.out.bx 1 rfl
  have c3_0 := b3.cell 0 rfl
  clear b3
  have E3 := Lib.hid ((E2.out.push 24 [.slice ba (Nn.NatMath.len B) bk, .slice sa (Nn.NatMath.len X) sk, .slice ta (Nn.NatMath.len T) tk] (w1.heap.size) (by simp)))
  go_wp2_with fail
  refine (valid_c [(Nn.NatMath.digs B), (Nn.NatMath.digs X), (Nn.NatMath.digs T)] (xb := w1.heap.size) (xo := 0) (xk := 3) (gNs.box (E3.out.bx 0 rfl) ⟨(gS.sl (E3.out.fc 2 rfl)), ⟨(gS.sl (E3.out.fc 1 rfl)), ⟨(gS.sl (E3.out.fc 0 rfl)), trivial⟩⟩⟩) (t := true) hv.out (by simp)).mono ?_
  rintro e w2 ⟨rfl, hb⟩
  have E4 := Lib.hid (E3.out.below hb)
  clear c1_0 c2_0 c3_0 E2 E3 hb
  have b4 := E4.out.bx 4 rfl
  have c4_0 := b4.cell 0 rfl
  clear b4
  have b5 := E4.out.bx 5 rfl
  have c5_0 := b5.cell 0 rfl
  clear b5
  go_wp2_with fail
  refine (vbelow_c h1.out lB.out lN.out (gS.sl (E4.out.fc 2 rfl)) (gS.sl (E4.out.fc 4 rfl))).mono ?_
  rintro e w3 ⟨rfl, hb⟩
  have E5 := Lib.hid (E4.out.below hb)
  clear c4_0 c5_0 E4 hb
  have b6 := E5.out.bx 3 rfl
  have c6_0 := b6.cell 0 rfl
  clear b6
  have b7 := E5.out.bx 5 rfl
  have c7_0 := b7.cell 0 rfl
  clear b7
  go_wp2_with fail
  refine (vbelow_c h2.out lX.out lN.out (gS.sl (E5.out.fc 1 rfl)) (gS.sl (E5.out.fc 4 rfl))).mono ?_
  rintro e w4 ⟨rfl, hb⟩
  have E6 := Lib.hid (E5.out.below hb)
  clear c6_0 c7_0 E5 hb
  have b8 := E6.out.bx 2 rfl
  have c8_0 := b8.cell 0 rfl
  clear b8
  have b9 := E6.out.bx 5 rfl
  have c9_0 := b9.cell 0 rfl
  clear b9
  go_wp2_with fail
  refine (vbelow_c h3.out lT.out lN.out (gS.sl (E6.out.fc 0 rfl)) (gS.sl (E6.out.fc 4 rfl))).mono ?_
  rintro e w5 ⟨rfl, hb⟩
  have E7 := Lib.hid (E6.out.below hb)
  clear c8_0 c9_0 E6 hb
  have b10 := E7.out.bx 1 rfl
  have c10_0 := b10.cell 0 rfl
  have f10_0 := b10.frozen 0
  clear b10
  go_wp2
  have E8 : Hid (Env (fun _ => True) w [(w1.heap.size, 24, [.slice ba (Nn.NatMath.len B) bk, .slice sa (Nn.NatMath.len X) sk, .slice ta (Nn.NatMath.len T) tk]), (w.heap.size + 1 + 1 + 1 + 1, 24, [.slice none 0 0]), (w.heap.size + 1 + 1 + 1, 24, [.slice ta (Nn.NatMath.len T) tk]), (w.heap.size + 1 + 1, 24, [.slice sa (Nn.NatMath.len X) sk]), (w.heap.size + 1, 24, [.slice ba (Nn.NatMath.len B) bk]), (w.heap.size, 26, [.slice na (Nn.NatMath.len N) nk, .slice ea (Nn.NatMath.len E) ek])] [.gn (gS (.slice ta (Nn.NatMath.len T) tk) (Nn.NatMath.digs T)), .gn (gS (.slice sa (Nn.NatMath.len X) sk) (Nn.NatMath.digs X)), .gn (gS (.slice ba (Nn.NatMath.len B) bk) (Nn.NatMath.digs B)), .gn (gS (.slice ea (Nn.NatMath.len E) ek) (Nn.NatMath.digs E)), .gn (gS (.slice na (Nn.NatMath.len N) nk) (Nn.NatMath.digs N))] _) := Lib.hid ((E7.out.set 1 0 (.slice none 0 0) rfl))
  have hfin := E8.out
  have q11 := (hfin.bx 1 rfl).cell 0 rfl
  exact bodyPost_ret (v := .tuple #[.agg #[.slice none 0 0], .int .i64 2]) (by simp [results, Tryz.results10, go_sem, q11]) rfl ⟨rfl, hfin.bel⟩
set_option maxRecDepth 100000 in
set_option maxHeartbeats 4000000 in
theorem Factor_4 (N E B X T : Nat) {na ea ba sa ta : Option Addr} {nk ek bk sk tk : Nat} {w : World} (hN : Nn.Sl w (.slice na (Nn.NatMath.len N) nk) (Nn.NatMath.digs N)) (hE : Nn.Sl w (.slice ea (Nn.NatMath.len E) ek) (Nn.NatMath.digs E)) (hB : Nn.Sl w (.slice ba (Nn.NatMath.len B) bk) (Nn.NatMath.digs B)) (hS : Nn.Sl w (.slice sa (Nn.NatMath.len X) sk) (Nn.NatMath.digs X)) (hT : Nn.Sl w (.slice ta (Nn.NatMath.len T) tk) (Nn.NatMath.digs T)) (HK0 : Key N E) (hv0 : [Nn.NatMath.digs B, Nn.NatMath.digs X, Nn.NatMath.digs T].all Nn.vld = true) (lB0 : Nn.NatMath.len B ≤ 64) (lX0 : Nn.NatMath.len X ≤ 64) (lT0 : Nn.NatMath.len T ≤ 64) (h10 : decide (B < N) = true) (h20 : decide (X < N) = true) (h30 : decide (T < N) = true) {r1 : Nat} (hp0 : X ^ E % N = r1) (hq0 : decide (r1 = B) = false) :
    Calls Tryz.prog 10 #[.agg #[.slice na (Nn.NatMath.len N) nk, .slice ea (Nn.NatMath.len E) ek], .agg #[.slice ba (Nn.NatMath.len B) bk], .agg #[.slice sa (Nn.NatMath.len X) sk], .agg #[.slice ta (Nn.NatMath.len T) tk]] w fun e w' => e = .returned (.tuple #[.agg #[.slice none 0 0], .int .i64 11]) ∧ Below w.heap.size w w' := by
  have E0 := Lib.hid ((((((Env.start (fun _ => True) w).argS hN).argS hE).argS hB).argS hS).argS hT)
  clear hN hE hB hS hT
  go_enter Tryz.func10, Tryz.ntmps10
  have HK := Lib.hid HK0
  have hv := Lib.hid hv0
  have lB := Lib.hid lB0
  have lX := Lib.hid lX0
  have lT := Lib.hid lT0
  have h1 := Lib.hid h10
  have h2 := Lib.hid h20
  have h3 := Lib.hid h30
  have hp := Lib.hid hp0
  have hq := Lib.hid hq0
  clear HK0 hv0 lB0 lX0 lT0 h10 h20 h30 hp0 hq0
  have HX := Lib.hid (of_decide_eq_true h2.out)
  have HT := Lib.hid (of_decide_eq_true h3.out)
  have lR : Hid (Nn.NatMath.len r1 ≤ 64) := Lib.hid (by rw [← hp.out]; exact Nat.le_trans (Nn.NatMath.len_mono (Nat.le_of_lt (Nat.mod_lt _ (by have := HK.out.n15; omega)))) (Nat.le_trans HK.out.lN (by omega)))
  have lN := Lib.hid (Nat.le_trans HK.out.lN (by omega : 32 ≤ 64))
  have E1 := Lib.hid ((((((E0.out.push 26 [.slice na (Nn.NatMath.len N) nk, .slice ea (Nn.NatMath.len E) ek] (w.heap.size) (by simp)).push 24 [.slice ba (Nn.NatMath.len B) bk] (w.heap.size + 1) (by simp)).push 24 [.slice sa (Nn.NatMath.len X) sk] (w.heap.size + 1 + 1) (by simp)).push 24 [.slice ta (Nn.NatMath.len T) tk] (w.heap.size + 1 + 1 + 1) (by simp)).push 24 [.slice none 0 0] (w.heap.size + 1 + 1 + 1 + 1) (by simp)))
  go_wp2_with fail
  refine (vKey_c HK.out.k (gS.sl (E1.out.fc 4 rfl)) (gS.sl (E1.out.fc 3 rfl))).mono ?_
  rintro e w1 ⟨rfl, hb⟩
  have E2 := Lib.hid (E1.out.below hb)
  clear E0 E1 hb
  have b1 := E2.out.bx 3 rfl
  have c1_0 := b1.cell 0 rfl
  clear b1
  have b2 := E2.out.bx 2 rfl
  have c2_0 := b2.cell 0 rfl
  clear b2
  have b3 := E2.out.bx 1 rfl
  have c3_0 := b3.cell 0 rfl
  clear b3
  have E3 := Lib.hid ((E2.out.push 24 [.slice ba (Nn.NatMath.len B) bk, .slice sa (Nn.NatMath.len X) sk, .slice ta (Nn.NatMath.len T) tk] (w1.heap.size) (by simp)))
  go_wp2_with fail
  refine (valid_c [(Nn.NatMath.digs B), (Nn.NatMath.digs X), (Nn.NatMath.digs T)] (xb := w1.heap.size) (xo := 0) (xk := 3) (gNs.box (E3.out.bx 0 rfl) ⟨(gS.sl (E3.out.fc 2 rfl)), ⟨(gS.sl (E3.out.fc 1 rfl)), ⟨(gS.sl (E3.out.fc 0 rfl)), trivial⟩⟩⟩) (t := true) hv.out (by simp)).mono ?_
  rintro e w2 ⟨rfl, hb⟩
  have E4 := Lib.hid (E3.out.below hb)
  clear c1_0 c2_0 c3_0 E2 E3 hb
  have b4 := E4.out.bx 4 rfl
  have c4_0 := b4.cell 0 rfl
  clear b4
  have b5 := E4.out.bx 5 rfl
  have c5_0 := b5.cell 0 rfl
  clear b5
  go_wp2_with fail
  refine (vbelow_c h1.out lB.out lN.out (gS.sl (E4.out.fc 2 rfl)) (gS.sl (E4.out.fc 4 rfl))).mono ?_
  rintro e w3 ⟨rfl, hb⟩
  have E5 := Lib.hid (E4.out.below hb)
  clear c4_0 c5_0 E4 hb
  have b6 := E5.out.bx 3 rfl
  have c6_0 := b6.cell 0 rfl
  clear b6
  have b7 := E5.out.bx 5 rfl
  have c7_0 := b7.cell 0 rfl
  clear b7
  go_wp2_with fail
  refine (vbelow_c h2.out lX.out lN.out (gS.sl (E5.out.fc 1 rfl)) (gS.sl (E5.out.fc 4 rfl))).mono ?_
  rintro e w4 ⟨rfl, hb⟩
  have E6 := Lib.hid (E5.out.below hb)
  clear c6_0 c7_0 E5 hb
  have b8 := E6.out.bx 2 rfl
  have c8_0 := b8.cell 0 rfl
  clear b8
  have b9 := E6.out.bx 5 rfl
  have c9_0 := b9.cell 0 rfl
  clear b9
  go_wp2_with fail
  refine (vbelow_c h3.out lT.out lN.out (gS.sl (E6.out.fc 0 rfl)) (gS.sl (E6.out.fc 4 rfl))).mono ?_
  rintro e w5 ⟨rfl, hb⟩
  have E7 := Lib.hid (E6.out.below hb)
  clear c8_0 c9_0 E6 hb
  have b10 := E7.out.bx 3 rfl
  have c10_0 := b10.cell 0 rfl
  clear b10
  have b11 := E7.out.bx 5 rfl
  have c11_1 := b11.cell 1 rfl
  clear b11
  have b12 := E7.out.bx 5 rfl
  have c12_0 := b12.cell 0 rfl
  clear b12
  go_wp2_with fail
  refine (Nn.pow_m hp.out (Nat.le_trans HK.out.lE (by omega)) HX.out HK.out.lN (gS.sl (E7.out.fc 1 rfl)) (gS.sl (E7.out.fc 3 rfl)) (gS.sl (E7.out.fc 4 rfl))).mono ?_
  rintro e w6 ⟨⟨ra, rk, rfl, rh⟩, hb⟩
  have E8 := Lib.hid ((E7.out.below hb).noteS rh.out rfl)
  clear c10_0 c11_1 c12_0 E7 hb rh
  obtain ⟨c, hc⟩ : ∃ c, Nn.NatMath.cmp r1 B = c := ⟨_, rfl⟩
  have HC := Lib.hid hc
  have t1 := cmp_ne hc hq.out
  have t2 : (c != 0) = true := t1
  clear hc t1
  have E9 := Lib.hid ((E8.out.push 24 [.slice ra (Nn.NatMath.len r1) rk] (w6.heap.size) (by simp)))
  have b13 := E9.out.bx 5 rfl
  have c13_0 := b13.cell 0 rfl
  clear b13
  go_wp2_with fail
  refine (Nn.compareF HC.out (gS.sl (E9.out.fc 0 rfl)) (gS.sl (E9.out.fc 3 rfl)) lR.out lB.out).mono ?_
  rintro e w7 ⟨rfl, hb⟩
  have E10 := Lib.hid (E9.out.below hb)
  clear c13_0 E8 E9 hb
  have b14 := E10.out.bx 2 rfl
  have c14_0 := b14.cell 0 rfl
  have f14_0 := b14.frozen 0
  clear b14
  go_wp2
  have E11 : Hid (Env (fun _ => True) w [(w6.heap.size, 24, [.slice ra (Nn.NatMath.len r1) rk]), (w1.heap.size, 24, [.slice ba (Nn.NatMath.len B) bk, .slice sa (Nn.NatMath.len X) sk, .slice ta (Nn.NatMath.len T) tk]), (w.heap.size + 1 + 1 + 1 + 1, 24, [.slice none 0 0]), (w.heap.size + 1 + 1 + 1, 24, [.slice ta (Nn.NatMath.len T) tk]), (w.heap.size + 1 + 1, 24, [.slice sa (Nn.NatMath.len X) sk]), (w.heap.size + 1, 24, [.slice ba (Nn.NatMath.len B) bk]), (w.heap.size, 26, [.slice na (Nn.NatMath.len N) nk, .slice ea (Nn.NatMath.len E) ek])] [.gn (gS (.slice ra (Nn.NatMath.len r1) rk) (Nn.NatMath.digs r1)), .gn (gS (.slice ta (Nn.NatMath.len T) tk) (Nn.NatMath.digs T)), .gn (gS (.slice sa (Nn.NatMath.len X) sk) (Nn.NatMath.digs X)), .gn (gS (.slice ba (Nn.NatMath.len B) bk) (Nn.NatMath.digs B)), .gn (gS (.slice ea (Nn.NatMath.len E) ek) (Nn.NatMath.digs E)), .gn (gS (.slice na (Nn.NatMath.len N) nk) (Nn.NatMath.digs N))] _) := Lib.hid ((E10.out.set 2 0 (.slice none 0 0) rfl))
  have hfin := E11.out
  have q15 := (hfin.bx 2 rfl).cell 0 rfl
  exact bodyPost_ret (v := .tuple #[.agg #[.slice none 0 0], .int .i64 11]) (by simp [results, Tryz.results10, go_sem, q15]) rfl ⟨rfl, hfin.bel⟩
set_option maxRecDepth 100000 in
set_option maxHeartbeats 4000000 in
theorem Factor_5 (N E B X T : Nat) {na ea ba sa ta : Option Addr} {nk ek bk sk tk : Nat} {w : World} (hN : Nn.Sl w (.slice na (Nn.NatMath.len N) nk) (Nn.NatMath.digs N)) (hE : Nn.Sl w (.slice ea (Nn.NatMath.len E) ek) (Nn.NatMath.digs E)) (hB : Nn.Sl w (.slice ba (Nn.NatMath.len B) bk) (Nn.NatMath.digs B)) (hS : Nn.Sl w (.slice sa (Nn.NatMath.len X) sk) (Nn.NatMath.digs X)) (hT : Nn.Sl w (.slice ta (Nn.NatMath.len T) tk) (Nn.NatMath.digs T)) (HK0 : Key N E) (hv0 : [Nn.NatMath.digs B, Nn.NatMath.digs X, Nn.NatMath.digs T].all Nn.vld = true) (lB0 : Nn.NatMath.len B ≤ 64) (lX0 : Nn.NatMath.len X ≤ 64) (lT0 : Nn.NatMath.len T ≤ 64) (h10 : decide (B < N) = true) (h20 : decide (X < N) = true) (h30 : decide (T < N) = true) {r1 : Nat} (hp0 : X ^ E % N = r1) (hq0 : decide (r1 = B) = true) (hz : T = 0) :
    Calls Tryz.prog 10 #[.agg #[.slice na (Nn.NatMath.len N) nk, .slice ea (Nn.NatMath.len E) ek], .agg #[.slice ba (Nn.NatMath.len B) bk], .agg #[.slice sa (Nn.NatMath.len X) sk], .agg #[.slice ta (Nn.NatMath.len T) tk]] w fun e w' => e = .returned (.tuple #[.agg #[.slice none 0 0], .int .i64 10]) ∧ Below w.heap.size w w' := by
  have E0 := Lib.hid ((((((Env.start (fun _ => True) w).argS hN).argS hE).argS hB).argS hS).argS hT)
  clear hN hE hB hS hT
  go_enter Tryz.func10, Tryz.ntmps10
  have HK := Lib.hid HK0
  have hv := Lib.hid hv0
  have lB := Lib.hid lB0
  have lX := Lib.hid lX0
  have lT := Lib.hid lT0
  have h1 := Lib.hid h10
  have h2 := Lib.hid h20
  have h3 := Lib.hid h30
  have hp := Lib.hid hp0
  have hq := Lib.hid hq0
  clear HK0 hv0 lB0 lX0 lT0 h10 h20 h30 hp0 hq0
  have lz : Nn.NatMath.len T = 0 := by rw [hz]; exact Nn.NatMath.len_zero
  have z1 : (((Nn.NatMath.len T : Nat) : Int) == 0) = true := by rw [lz]; rfl
  have z2 : (Nn.NatMath.len T == 0) = true := by rw [lz]; rfl
  clear hz lz
  have HX := Lib.hid (of_decide_eq_true h2.out)
  have HT := Lib.hid (of_decide_eq_true h3.out)
  have lR : Hid (Nn.NatMath.len r1 ≤ 64) := Lib.hid (by rw [← hp.out]; exact Nat.le_trans (Nn.NatMath.len_mono (Nat.le_of_lt (Nat.mod_lt _ (by have := HK.out.n15; omega)))) (Nat.le_trans HK.out.lN (by omega)))
  have lN := Lib.hid (Nat.le_trans HK.out.lN (by omega : 32 ≤ 64))
  have E1 := Lib.hid ((((((E0.out.push 26 [.slice na (Nn.NatMath.len N) nk, .slice ea (Nn.NatMath.len E) ek] (w.heap.size) (by simp)).push 24 [.slice ba (Nn.NatMath.len B) bk] (w.heap.size + 1) (by simp)).push 24 [.slice sa (Nn.NatMath.len X) sk] (w.heap.size + 1 + 1) (by simp)).push 24 [.slice ta (Nn.NatMath.len T) tk] (w.heap.size + 1 + 1 + 1) (by simp)).push 24 [.slice none 0 0] (w.heap.size + 1 + 1 + 1 + 1) (by simp)))
  go_wp2_with fail
  refine (vKey_c HK.out.k (gS.sl (E1.out.fc 4 rfl)) (gS.sl (E1.out.fc 3 rfl))).mono ?_
  rintro e w1 ⟨rfl, hb⟩
  have E2 := Lib.hid (E1.out.below hb)
  clear E0 E1 hb
  have b1 := E2.out.bx 3 rfl
  have c1_0 := b1.cell 0 rfl
  clear b1
  have b2 := E2.out.bx 2 rfl
  have c2_0 := b2.cell 0 rfl
  clear b2
  have b3 := E2.out.bx 1 rfl
  have c3_0 := b3.cell 0 rfl
  clear b3
  have E3 := Lib.hid ((E2.out.push 24 [.slice ba (Nn.NatMath.len B) bk, .slice sa (Nn.NatMath.len X) sk, .slice ta (Nn.NatMath.len T) tk] (w1.heap.size) (by simp)))
  go_wp2_with fail
  refine (valid_c [(Nn.NatMath.digs B), (Nn.NatMath.digs X), (Nn.NatMath.digs T)] (xb := w1.heap.size) (xo := 0) (xk := 3) (gNs.box (E3.out.bx 0 rfl) ⟨(gS.sl (E3.out.fc 2 rfl)), ⟨(gS.sl (E3.out.fc 1 rfl)), ⟨(gS.sl (E3.out.fc 0 rfl)), trivial⟩⟩⟩) (t := true) hv.out (by simp)).mono ?_
  rintro e w2 ⟨rfl, hb⟩
  have E4 := Lib.hid (E3.out.below hb)
  clear c1_0 c2_0 c3_0 E2 E3 hb
  have b4 := E4.out.bx 4 rfl
  have c4_0 := b4.cell 0 rfl
  clear b4
  have b5 := E4.out.bx 5 rfl
  have c5_0 := b5.cell 0 rfl
  clear b5
  go_wp2_with fail
  refine (vbelow_c h1.out lB.out lN.out (gS.sl (E4.out.fc 2 rfl)) (gS.sl (E4.out.fc 4 rfl))).mono ?_
  rintro e w3 ⟨rfl, hb⟩
  have E5 := Lib.hid (E4.out.below hb)
  clear c4_0 c5_0 E4 hb
  have b6 := E5.out.bx 3 rfl
  have c6_0 := b6.cell 0 rfl
  clear b6
  have b7 := E5.out.bx 5 rfl
  have c7_0 := b7.cell 0 rfl
  clear b7
  go_wp2_with fail
  refine (vbelow_c h2.out lX.out lN.out (gS.sl (E5.out.fc 1 rfl)) (gS.sl (E5.out.fc 4 rfl))).mono ?_
  rintro e w4 ⟨rfl, hb⟩
  have E6 := Lib.hid (E5.out.below hb)
  clear c6_0 c7_0 E5 hb
  have b8 := E6.out.bx 2 rfl
  have c8_0 := b8.cell 0 rfl
  clear b8
  have b9 := E6.out.bx 5 rfl
  have c9_0 := b9.cell 0 rfl
  clear b9
  go_wp2_with fail
  refine (vbelow_c h3.out lT.out lN.out (gS.sl (E6.out.fc 0 rfl)) (gS.sl (E6.out.fc 4 rfl))).mono ?_
  rintro e w5 ⟨rfl, hb⟩
  have E7 := Lib.hid (E6.out.below hb)
  clear c8_0 c9_0 E6 hb
  have b10 := E7.out.bx 3 rfl
  have c10_0 := b10.cell 0 rfl
  clear b10
  have b11 := E7.out.bx 5 rfl
  have c11_1 := b11.cell 1 rfl
  clear b11
  have b12 := E7.out.bx 5 rfl
  have c12_0 := b12.cell 0 rfl
  clear b12
  go_wp2_with fail
  refine (Nn.pow_m hp.out (Nat.le_trans HK.out.lE (by omega)) HX.out HK.out.lN (gS.sl (E7.out.fc 1 rfl)) (gS.sl (E7.out.fc 3 rfl)) (gS.sl (E7.out.fc 4 rfl))).mono ?_
  rintro e w6 ⟨⟨ra, rk, rfl, rh⟩, hb⟩
  have E8 := Lib.hid ((E7.out.below hb).noteS rh.out rfl)
  clear c10_0 c11_1 c12_0 E7 hb rh
  obtain ⟨c, hc⟩ : ∃ c, Nn.NatMath.cmp r1 B = c := ⟨_, rfl⟩
  have HC := Lib.hid hc
  have t1 := cmp_ne hc hq.out
  have t2 : (c != 0) = false := t1
  clear hc t1
  have E9 := Lib.hid ((E8.out.push 24 [.slice ra (Nn.NatMath.len r1) rk] (w6.heap.size) (by simp)))
  have b13 := E9.out.bx 5 rfl
  have c13_0 := b13.cell 0 rfl
  clear b13
  go_wp2_with fail
  refine (Nn.compareF HC.out (gS.sl (E9.out.fc 0 rfl)) (gS.sl (E9.out.fc 3 rfl)) lR.out lB.out).mono ?_
  rintro e w7 ⟨rfl, hb⟩
  have E10 := Lib.hid (E9.out.below hb)
  clear c13_0 E8 E9 hb
  have b14 := E10.out.bx 3 rfl
  have c14_0 := b14.cell 0 rfl
  clear b14
  have b15 := E10.out.bx 2 rfl
  have c15_0 := b15.cell 0 rfl
  have f15_0 := b15.frozen 0
  clear b15
  go_wp2
  have E11 : Hid (Env (fun _ => True) w [(w6.heap.size, 24, [.slice ra (Nn.NatMath.len r1) rk]), (w1.heap.size, 24, [.slice ba (Nn.NatMath.len B) bk, .slice sa (Nn.NatMath.len X) sk, .slice ta (Nn.NatMath.len T) tk]), (w.heap.size + 1 + 1 + 1 + 1, 24, [.slice none 0 0]), (w.heap.size + 1 + 1 + 1, 24, [.slice ta (Nn.NatMath.len T) tk]), (w.heap.size + 1 + 1, 24, [.slice sa (Nn.NatMath.len X) sk]), (w.heap.size + 1, 24, [.slice ba (Nn.NatMath.len B) bk]), (w.heap.size, 26, [.slice na (Nn.NatMath.len N) nk, .slice ea (Nn.NatMath.len E) ek])] [.gn (gS (.slice ra (Nn.NatMath.len r1) rk) (Nn.NatMath.digs r1)), .gn (gS (.slice ta (Nn.NatMath.len T) tk) (Nn.NatMath.digs T)), .gn (gS (.slice sa (Nn.NatMath.len X) sk) (Nn.NatMath.digs X)), .gn (gS (.slice ba (Nn.NatMath.len B) bk) (Nn.NatMath.digs B)), .gn (gS (.slice ea (Nn.NatMath.len E) ek) (Nn.NatMath.digs E)), .gn (gS (.slice na (Nn.NatMath.len N) nk) (Nn.NatMath.digs N))] _) := Lib.hid ((E10.out.set 2 0 (.slice none 0 0) rfl))
  have hfin := E11.out
  have q16 := (hfin.bx 2 rfl).cell 0 rfl
  exact bodyPost_ret (v := .tuple #[.agg #[.slice none 0 0], .int .i64 10]) (by simp [results, Tryz.results10, go_sem, q16]) rfl ⟨rfl, hfin.bel⟩
set_option maxRecDepth 100000 in
set_option maxHeartbeats 4000000 in
theorem Factor_6 (N E B X T : Nat) {na ea ba sa ta : Option Addr} {nk ek bk sk tk : Nat} {w : World} (hN : Nn.Sl w (.slice na (Nn.NatMath.len N) nk) (Nn.NatMath.digs N)) (hE : Nn.Sl w (.slice ea (Nn.NatMath.len E) ek) (Nn.NatMath.digs E)) (hB : Nn.Sl w (.slice ba (Nn.NatMath.len B) bk) (Nn.NatMath.digs B)) (hS : Nn.Sl w (.slice sa (Nn.NatMath.len X) sk) (Nn.NatMath.digs X)) (hT : Nn.Sl w (.slice ta (Nn.NatMath.len T) tk) (Nn.NatMath.digs T)) (HK0 : Key N E) (hv0 : [Nn.NatMath.digs B, Nn.NatMath.digs X, Nn.NatMath.digs T].all Nn.vld = true) (lB0 : Nn.NatMath.len B ≤ 64) (lX0 : Nn.NatMath.len X ≤ 64) (lT0 : Nn.NatMath.len T ≤ 64) (h10 : decide (B < N) = true) (h20 : decide (X < N) = true) (h30 : decide (T < N) = true) {r1 : Nat} (hp0 : X ^ E % N = r1) (hq0 : decide (r1 = B) = true) (hz : T ≠ 0) (hg0 : decide (Nn.NatMath.invG T N = 1) = false) :
    Calls Tryz.prog 10 #[.agg #[.slice na (Nn.NatMath.len N) nk, .slice ea (Nn.NatMath.len E) ek], .agg #[.slice ba (Nn.NatMath.len B) bk], .agg #[.slice sa (Nn.NatMath.len X) sk], .agg #[.slice ta (Nn.NatMath.len T) tk]] w fun e w' => e = .returned (.tuple #[.agg #[.slice none 0 0], .int .i64 10]) ∧ Below w.heap.size w w' := by
  have E0 := Lib.hid ((((((Env.start (fun _ => True) w).argS hN).argS hE).argS hB).argS hS).argS hT)
  clear hN hE hB hS hT
  go_enter Tryz.func10, Tryz.ntmps10
  have HK := Lib.hid HK0
  have hv := Lib.hid hv0
  have lB := Lib.hid lB0
  have lX := Lib.hid lX0
  have lT := Lib.hid lT0
  have h1 := Lib.hid h10
  have h2 := Lib.hid h20
  have h3 := Lib.hid h30
  have hp := Lib.hid hp0
  have hq := Lib.hid hq0
  have hg := Lib.hid hg0
  clear HK0 hv0 lB0 lX0 lT0 h10 h20 h30 hp0 hq0 hg0
  obtain ⟨z1, z2⟩ := len_zero_beq hz
  clear hz
  have HX := Lib.hid (of_decide_eq_true h2.out)
  have HT := Lib.hid (of_decide_eq_true h3.out)
  have lR : Hid (Nn.NatMath.len r1 ≤ 64) := Lib.hid (by rw [← hp.out]; exact Nat.le_trans (Nn.NatMath.len_mono (Nat.le_of_lt (Nat.mod_lt _ (by have := HK.out.n15; omega)))) (Nat.le_trans HK.out.lN (by omega)))
  have lN := Lib.hid (Nat.le_trans HK.out.lN (by omega : 32 ≤ 64))
  have E1 := Lib.hid ((((((E0.out.push 26 [.slice na (Nn.NatMath.len N) nk, .slice ea (Nn.NatMath.len E) ek] (w.heap.size) (by simp)).push 24 [.slice ba (Nn.NatMath.len B) bk] (w.heap.size + 1) (by simp)).push 24 [.slice sa (Nn.NatMath.len X) sk] (w.heap.size + 1 + 1) (by simp)).push 24 [.slice ta (Nn.NatMath.len T) tk] (w.heap.size + 1 + 1 + 1) (by simp)).push 24 [.slice none 0 0] (w.heap.size + 1 + 1 + 1 + 1) (by simp)))
  go_wp2_with fail
  refine (vKey_c HK.out.k (gS.sl (E1.out.fc 4 rfl)) (gS.sl (E1.out.fc 3 rfl))).mono ?_
  rintro e w1 ⟨rfl, hb⟩
  have E2 := Lib.hid (E1.out.below hb)
  clear E0 E1 hb
  have b1 := E2.out.bx 3 rfl
  have c1_0 := b1.cell 0 rfl
  clear b1
  have b2 := E2.out.bx 2 rfl
  have c2_0 := b2.cell 0 rfl
  clear b2
  have b3 := E2.out.bx 1 rfl
  have c3_0 := b3.cell 0 rfl
  clear b3
  have E3 := Lib.hid ((E2.out.push 24 [.slice ba (Nn.NatMath.len B) bk, .slice sa (Nn.NatMath.len X) sk, .slice ta (Nn.NatMath.len T) tk] (w1.heap.size) (by simp)))
  go_wp2_with fail
  refine (valid_c [(Nn.NatMath.digs B), (Nn.NatMath.digs X), (Nn.NatMath.digs T)] (xb := w1.heap.size) (xo := 0) (xk := 3) (gNs.box (E3.out.bx 0 rfl) ⟨(gS.sl (E3.out.fc 2 rfl)), ⟨(gS.sl (E3.out.fc 1 rfl)), ⟨(gS.sl (E3.out.fc 0 rfl)), trivial⟩⟩⟩) (t := true) hv.out (by simp)).mono ?_
  rintro e w2 ⟨rfl, hb⟩
  have E4 := Lib.hid (E3.out.below hb)
  clear c1_0 c2_0 c3_0 E2 E3 hb
  have b4 := E4.out.bx 4 rfl
  have c4_0 := b4.cell 0 rfl
  clear b4
  have b5 := E4.out.bx 5 rfl
  have c5_0 := b5.cell 0 rfl
  clear b5
  go_wp2_with fail
  refine (vbelow_c h1.out lB.out lN.out (gS.sl (E4.out.fc 2 rfl)) (gS.sl (E4.out.fc 4 rfl))).mono ?_
  rintro e w3 ⟨rfl, hb⟩
  have E5 := Lib.hid (E4.out.below hb)
  clear c4_0 c5_0 E4 hb
  have b6 := E5.out.bx 3 rfl
  have c6_0 := b6.cell 0 rfl
  clear b6
  have b7 := E5.out.bx 5 rfl
  have c7_0 := b7.cell 0 rfl
  clear b7
  go_wp2_with fail
  refine (vbelow_c h2.out lX.out lN.out (gS.sl (E5.out.fc 1 rfl)) (gS.sl (E5.out.fc 4 rfl))).mono ?_
  rintro e w4 ⟨rfl, hb⟩
  have E6 := Lib.hid (E5.out.below hb)
  clear c6_0 c7_0 E5 hb
  have b8 := E6.out.bx 2 rfl
  have c8_0 := b8.cell 0 rfl
  clear b8
  have b9 := E6.out.bx 5 rfl
  have c9_0 := b9.cell 0 rfl
  clear b9
  go_wp2_with fail
  refine (vbelow_c h3.out lT.out lN.out (gS.sl (E6.out.fc 0 rfl)) (gS.sl (E6.out.fc 4 rfl))).mono ?_
  rintro e w5 ⟨rfl, hb⟩
  have E7 := Lib.hid (E6.out.below hb)
  clear c8_0 c9_0 E6 hb
  have b10 := E7.out.bx 3 rfl
  have c10_0 := b10.cell 0 rfl
  clear b10
  have b11 := E7.out.bx 5 rfl
  have c11_1 := b11.cell 1 rfl
  clear b11
  have b12 := E7.out.bx 5 rfl
  have c12_0 := b12.cell 0 rfl
  clear b12
  go_wp2_with fail
  refine (Nn.pow_m hp.out (Nat.le_trans HK.out.lE (by omega)) HX.out HK.out.lN (gS.sl (E7.out.fc 1 rfl)) (gS.sl (E7.out.fc 3 rfl)) (gS.sl (E7.out.fc 4 rfl))).mono ?_
  rintro e w6 ⟨⟨ra, rk, rfl, rh⟩, hb⟩
  have E8 := Lib.hid ((E7.out.below hb).noteS rh.out rfl)
  clear c10_0 c11_1 c12_0 E7 hb rh
  obtain ⟨c, hc⟩ : ∃ c, Nn.NatMath.cmp r1 B = c := ⟨_, rfl⟩
  have HC := Lib.hid hc
  have t1 := cmp_ne hc hq.out
  have t2 : (c != 0) = false := t1
  clear hc t1
  have E9 := Lib.hid ((E8.out.push 24 [.slice ra (Nn.NatMath.len r1) rk] (w6.heap.size) (by simp)))
  have b13 := E9.out.bx 5 rfl
  have c13_0 := b13.cell 0 rfl
  clear b13
  go_wp2_with fail
  refine (Nn.compareF HC.out (gS.sl (E9.out.fc 0 rfl)) (gS.sl (E9.out.fc 3 rfl)) lR.out lB.out).mono ?_
  rintro e w7 ⟨rfl, hb⟩
  have E10 := Lib.hid (E9.out.below hb)
  clear c13_0 E8 E9 hb
  have b14 := E10.out.bx 3 rfl
  have c14_0 := b14.cell 0 rfl
  clear b14
  have b15 := E10.out.bx 6 rfl
  have c15_0 := b15.cell 0 rfl
  clear b15
  go_wp2_with fail
  refine (Nn.inv_n hg.out HT.out HK.out.lN (gS.sl (E10.out.fc 1 rfl)) (gS.sl (E10.out.fc 5 rfl))).mono ?_
  rintro e w8 ⟨⟨ia, ik, rfl⟩, hb⟩
  have E11 := Lib.hid (E10.out.below hb)
  clear c14_0 c15_0 E10 hb
  have E12 := Lib.hid ((E11.out.push 24 [.slice ia 0 ik] (w8.heap.size) (by simp)))
  have b16 := E12.out.bx 3 rfl
  have c16_0 := b16.cell 0 rfl
  have f16_0 := b16.frozen 0
  clear b16
  go_wp2
  have E13 : Hid (Env (fun _ => True) w [(w8.heap.size, 24, [.slice ia 0 ik]), (w6.heap.size, 24, [.slice ra (Nn.NatMath.len r1) rk]), (w1.heap.size, 24, [.slice ba (Nn.NatMath.len B) bk, .slice sa (Nn.NatMath.len X) sk, .slice ta (Nn.NatMath.len T) tk]), (w.heap.size + 1 + 1 + 1 + 1, 24, [.slice none 0 0]), (w.heap.size + 1 + 1 + 1, 24, [.slice ta (Nn.NatMath.len T) tk]), (w.heap.size + 1 + 1, 24, [.slice sa (Nn.NatMath.len X) sk]), (w.heap.size + 1, 24, [.slice ba (Nn.NatMath.len B) bk]), (w.heap.size, 26, [.slice na (Nn.NatMath.len N) nk, .slice ea (Nn.NatMath.len E) ek])] [.gn (gS (.slice ra (Nn.NatMath.len r1) rk) (Nn.NatMath.digs r1)), .gn (gS (.slice ta (Nn.NatMath.len T) tk) (Nn.NatMath.digs T)), .gn (gS (.slice sa (Nn.NatMath.len X) sk) (Nn.NatMath.digs X)), .gn (gS (.slice ba (Nn.NatMath.len B) bk) (Nn.NatMath.digs B)), .gn (gS (.slice ea (Nn.NatMath.len E) ek) (Nn.NatMath.digs E)), .gn (gS (.slice na (Nn.NatMath.len N) nk) (Nn.NatMath.digs N))] _) := Lib.hid ((E12.out.set 3 0 (.slice none 0 0) rfl))
  have hfin := E13.out
  have q17 := (hfin.bx 3 rfl).cell 0 rfl
  exact bodyPost_ret (v := .tuple #[.agg #[.slice none 0 0], .int .i64 10]) (by simp [results, Tryz.results10, go_sem, q17]) rfl ⟨rfl, hfin.bel⟩
set_option maxRecDepth 100000 in
set_option maxHeartbeats 4000000 in
theorem Factor_7 (N E B X T : Nat) {na ea ba sa ta : Option Addr} {nk ek bk sk tk : Nat} {w : World} (hN : Nn.Sl w (.slice na (Nn.NatMath.len N) nk) (Nn.NatMath.digs N)) (hE : Nn.Sl w (.slice ea (Nn.NatMath.len E) ek) (Nn.NatMath.digs E)) (hB : Nn.Sl w (.slice ba (Nn.NatMath.len B) bk) (Nn.NatMath.digs B)) (hS : Nn.Sl w (.slice sa (Nn.NatMath.len X) sk) (Nn.NatMath.digs X)) (hT : Nn.Sl w (.slice ta (Nn.NatMath.len T) tk) (Nn.NatMath.digs T)) (HK0 : Key N E) (hv0 : [Nn.NatMath.digs B, Nn.NatMath.digs X, Nn.NatMath.digs T].all Nn.vld = true) (lB0 : Nn.NatMath.len B ≤ 64) (lX0 : Nn.NatMath.len X ≤ 64) (lT0 : Nn.NatMath.len T ≤ 64) (h10 : decide (B < N) = true) (h20 : decide (X < N) = true) (h30 : decide (T < N) = true) {r1 : Nat} (hp0 : X ^ E % N = r1) (hq0 : decide (r1 = B) = true) {v r2 : Nat} (hz : T ≠ 0) (hg0 : decide (Nn.NatMath.invG T N = 1) = true) (hV0 : Nn.NatMath.invV T N = v) (hr0 : X * v % N = r2) :
    Calls Tryz.prog 10 #[.agg #[.slice na (Nn.NatMath.len N) nk, .slice ea (Nn.NatMath.len E) ek], .agg #[.slice ba (Nn.NatMath.len B) bk], .agg #[.slice sa (Nn.NatMath.len X) sk], .agg #[.slice ta (Nn.NatMath.len T) tk]] w fun e w' => Nn.ResN r2 0 e w' ∧ Below w.heap.size w w' := by
  have E0 := Lib.hid ((((((Env.start (fun _ => True) w).argS hN).argS hE).argS hB).argS hS).argS hT)
  clear hN hE hB hS hT
  go_enter Tryz.func10, Tryz.ntmps10
  have HK := Lib.hid HK0
  have hv := Lib.hid hv0
  have lB := Lib.hid lB0
  have lX := Lib.hid lX0
  have lT := Lib.hid lT0
  have h1 := Lib.hid h10
  have h2 := Lib.hid h20
  have h3 := Lib.hid h30
  have hp := Lib.hid hp0
  have hq := Lib.hid hq0
  have hg := Lib.hid hg0
  have hV := Lib.hid hV0
  have hr := Lib.hid hr0
  clear HK0 hv0 lB0 lX0 lT0 h10 h20 h30 hp0 hq0 hg0 hV0 hr0
  obtain ⟨z1, z2⟩ := len_zero_beq hz
  clear hz
  have HVN : Hid (v < N) := Lib.hid (by rw [← hV.out]; exact Nn.NatMath.invV_lt (by have := HK.out.n15; omega))
  have HX := Lib.hid (of_decide_eq_true h2.out)
  have HT := Lib.hid (of_decide_eq_true h3.out)
  have lR : Hid (Nn.NatMath.len r1 ≤ 64) := Lib.hid (by rw [← hp.out]; exact Nat.le_trans (Nn.NatMath.len_mono (Nat.le_of_lt (Nat.mod_lt _ (by have := HK.out.n15; omega)))) (Nat.le_trans HK.out.lN (by omega)))
  have lN := Lib.hid (Nat.le_trans HK.out.lN (by omega : 32 ≤ 64))
  have E1 := Lib.hid ((((((E0.out.push 26 [.slice na (Nn.NatMath.len N) nk, .slice ea (Nn.NatMath.len E) ek] (w.heap.size) (by simp)).push 24 [.slice ba (Nn.NatMath.len B) bk] (w.heap.size + 1) (by simp)).push 24 [.slice sa (Nn.NatMath.len X) sk] (w.heap.size + 1 + 1) (by simp)).push 24 [.slice ta (Nn.NatMath.len T) tk] (w.heap.size + 1 + 1 + 1) (by simp)).push 24 [.slice none 0 0] (w.heap.size + 1 + 1 + 1 + 1) (by simp)))
  go_wp2_with fail
  refine (vKey_c HK.out.k (gS.sl (E1.out.fc 4 rfl)) (gS.sl (E1.out.fc 3 rfl))).mono ?_
  rintro e w1 ⟨rfl, hb⟩
  have E2 := Lib.hid (E1.out.below hb)
  clear E0 E1 hb
  have b1 := E2.out.bx 3 rfl
  have c1_0 := b1.cell 0 rfl
  clear b1
  have b2 := E2.out.bx 2 rfl
  have c2_0 := b2.cell 0 rfl
  clear b2
  have b3 := E2.out.bx 1 rfl
  have c3_0 := b3.cell 0 rfl
  clear b3
  have E3 := Lib.hid ((E2.out.push 24 [.slice ba (Nn.NatMath.len B) bk, .slice sa (Nn.NatMath.len X) sk, .slice ta (Nn.NatMath.len T) tk] (w1.heap.size) (by simp)))
  go_wp2_with fail
  refine (valid_c [(Nn.NatMath.digs B), (Nn.NatMath.digs X), (Nn.NatMath.digs T)] (xb := w1.heap.size) (xo := 0) (xk := 3) (gNs.box (E3.out.bx 0 rfl) ⟨(gS.sl (E3.out.fc 2 rfl)), ⟨(gS.sl (E3.out.fc 1 rfl)), ⟨(gS.sl (E3.out.fc 0 rfl)), trivial⟩⟩⟩) (t := true) hv.out (by simp)).mono ?_
  rintro e w2 ⟨rfl, hb⟩
  have E4 := Lib.hid (E3.out.below hb)
  clear c1_0 c2_0 c3_0 E2 E3 hb
  have b4 := E4.out.bx 4 rfl
  have c4_0 := b4.cell 0 rfl
  clear b4
  have b5 := E4.out.bx 5 rfl
  have c5_0 := b5.cell 0 rfl
  clear b5
  go_wp2_with fail
  refine (vbelow_c h1.out lB.out lN.out (gS.sl (E4.out.fc 2 rfl)) (gS.sl (E4.out.fc 4 rfl))).mono ?_
  rintro e w3 ⟨rfl, hb⟩
  have E5 := Lib.hid (E4.out.below hb)
  clear c4_0 c5_0 E4 hb
  have b6 := E5.out.bx 3 rfl
  have c6_0 := b6.cell 0 rfl
  clear b6
  have b7 := E5.out.bx 5 rfl
  have c7_0 := b7.cell 0 rfl
  clear b7
  go_wp2_with fail
  refine (vbelow_c h2.out lX.out lN.out (gS.sl (E5.out.fc 1 rfl)) (gS.sl (E5.out.fc 4 rfl))).mono ?_
  rintro e w4 ⟨rfl, hb⟩
  have E6 := Lib.hid (E5.out.below hb)
  clear c6_0 c7_0 E5 hb
  have b8 := E6.out.bx 2 rfl
  have c8_0 := b8.cell 0 rfl
  clear b8
  have b9 := E6.out.bx 5 rfl
  have c9_0 := b9.cell 0 rfl
  clear b9
  go_wp2_with fail
  refine (vbelow_c h3.out lT.out lN.out (gS.sl (E6.out.fc 0 rfl)) (gS.sl (E6.out.fc 4 rfl))).mono ?_
  rintro e w5 ⟨rfl, hb⟩
  have E7 := Lib.hid (E6.out.below hb)
  clear c8_0 c9_0 E6 hb
  have b10 := E7.out.bx 3 rfl
  have c10_0 := b10.cell 0 rfl
  clear b10
  have b11 := E7.out.bx 5 rfl
  have c11_1 := b11.cell 1 rfl
  clear b11
  have b12 := E7.out.bx 5 rfl
  have c12_0 := b12.cell 0 rfl
  clear b12
  go_wp2_with fail
  refine (Nn.pow_m hp.out (Nat.le_trans HK.out.lE (by omega)) HX.out HK.out.lN (gS.sl (E7.out.fc 1 rfl)) (gS.sl (E7.out.fc 3 rfl)) (gS.sl (E7.out.fc 4 rfl))).mono ?_
  rintro e w6 ⟨⟨ra, rk, rfl, rh⟩, hb⟩
  have E8 := Lib.hid ((E7.out.below hb).noteS rh.out rfl)
  clear c10_0 c11_1 c12_0 E7 hb rh
  obtain ⟨c, hc⟩ : ∃ c, Nn.NatMath.cmp r1 B = c := ⟨_, rfl⟩
  have HC := Lib.hid hc
  have t1 := cmp_ne hc hq.out
  have t2 : (c != 0) = false := t1
  clear hc t1
  have E9 := Lib.hid ((E8.out.push 24 [.slice ra (Nn.NatMath.len r1) rk] (w6.heap.size) (by simp)))
  have b13 := E9.out.bx 5 rfl
  have c13_0 := b13.cell 0 rfl
  clear b13
  go_wp2_with fail
  refine (Nn.compareF HC.out (gS.sl (E9.out.fc 0 rfl)) (gS.sl (E9.out.fc 3 rfl)) lR.out lB.out).mono ?_
  rintro e w7 ⟨rfl, hb⟩
  have E10 := Lib.hid (E9.out.below hb)
  clear c13_0 E8 E9 hb
  have b14 := E10.out.bx 3 rfl
  have c14_0 := b14.cell 0 rfl
  clear b14
  have b15 := E10.out.bx 6 rfl
  have c15_0 := b15.cell 0 rfl
  clear b15
  go_wp2_with fail
  refine (Nn.inv_m hV.out hg.out HT.out HK.out.lN (gS.sl (E10.out.fc 1 rfl)) (gS.sl (E10.out.fc 5 rfl))).mono ?_
  rintro e w8 ⟨⟨ia, ik, rfl, ih⟩, hb⟩
  have E11 := Lib.hid ((E10.out.below hb).noteS ih.out rfl)
  clear c14_0 c15_0 E10 hb ih
  have E12 := Lib.hid ((E11.out.push 24 [.slice ia (Nn.NatMath.len v) ik] (w8.heap.size) (by simp)))
  have b16 := E12.out.bx 5 rfl
  have c16_0 := b16.cell 0 rfl
  clear b16
  have b17 := E12.out.bx 0 rfl
  have c17_0 := b17.cell 0 rfl
  clear b17
  have b18 := E12.out.bx 7 rfl
  have c18_0 := b18.cell 0 rfl
  clear b18
  go_wp2_with fail
  refine (Nn.Mul_m hr.out HX.out HVN.out HK.out.lN (gS.sl (E12.out.fc 3 rfl)) (gS.sl (E12.out.fc 0 rfl)) (gS.sl (E12.out.fc 6 rfl))).mono ?_
  rintro e w9 ⟨⟨oa, ok, rfl, oh⟩, hb⟩
  have E13 := Lib.hid ((E12.out.below hb).noteS oh.out rfl)
  clear c16_0 c17_0 c18_0 E11 E12 hb oh
  have b19 := E13.out.bx 3 rfl
  have c19_0 := b19.cell 0 rfl
  have f19_0 := b19.frozen 0
  clear b19
  go_wp2
  have E14 : Hid (Env (fun _ => True) w [(w8.heap.size, 24, [.slice ia (Nn.NatMath.len v) ik]), (w6.heap.size, 24, [.slice ra (Nn.NatMath.len r1) rk]), (w1.heap.size, 24, [.slice ba (Nn.NatMath.len B) bk, .slice sa (Nn.NatMath.len X) sk, .slice ta (Nn.NatMath.len T) tk]), (w.heap.size + 1 + 1 + 1 + 1, 24, [.slice oa (Nn.NatMath.len r2) ok]), (w.heap.size + 1 + 1 + 1, 24, [.slice ta (Nn.NatMath.len T) tk]), (w.heap.size + 1 + 1, 24, [.slice sa (Nn.NatMath.len X) sk]), (w.heap.size + 1, 24, [.slice ba (Nn.NatMath.len B) bk]), (w.heap.size, 26, [.slice na (Nn.NatMath.len N) nk, .slice ea (Nn.NatMath.len E) ek])] [.gn (gS (.slice oa (Nn.NatMath.len r2) ok) (Nn.NatMath.digs r2)), .gn (gS (.slice ia (Nn.NatMath.len v) ik) (Nn.NatMath.digs v)), .gn (gS (.slice ra (Nn.NatMath.len r1) rk) (Nn.NatMath.digs r1)), .gn (gS (.slice ta (Nn.NatMath.len T) tk) (Nn.NatMath.digs T)), .gn (gS (.slice sa (Nn.NatMath.len X) sk) (Nn.NatMath.digs X)), .gn (gS (.slice ba (Nn.NatMath.len B) bk) (Nn.NatMath.digs B)), .gn (gS (.slice ea (Nn.NatMath.len E) ek) (Nn.NatMath.digs E)), .gn (gS (.slice na (Nn.NatMath.len N) nk) (Nn.NatMath.digs N))] _) := Lib.hid ((E13.out.set 3 0 (.slice oa (Nn.NatMath.len r2) ok) rfl))
  have hfin := E14.out
  have q20 := (hfin.bx 3 rfl).cell 0 rfl
  exact bodyPost_ret (v := .tuple #[.agg #[.slice oa (Nn.NatMath.len r2) ok], .int .i64 0]) (by simp [results, Tryz.results10, go_sem, q20]) rfl ⟨⟨oa, ok, rfl, Lib.hid (gS.sl (hfin.out 0 rfl))⟩, hfin.bel⟩
end Go.Proofs.YtikopkkebdobdaaGreatDoor

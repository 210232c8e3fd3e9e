/- Picked declarations of VsY, VsZ. -/
import Derived.Test.YtikopkkebdobdaaGreatDoorVwU
import Derived.Test.YtikopkkebdobdaaGreatDoorVwQ
namespace Go.Proofs.YtikopkkebdobdaaGreatDoor
set_option maxRecDepth 100000
set_option maxHeartbeats 8000000
open Nn.NatMath (len digs)
open Nn (Sl vld ResN ResZ)
set_option linter.unusedVariables false
set_option linter.unusedSimpArgs false
open Go.RowKit
theorem rfac_0 (K : Nat) {pa qa xa : Option Addr} {pk qn qk xk : Nat} {w : World} (ha : Sl w (.slice pa (len K) pk) (digs K))  :
  Calls Tryz.prog 47 #[.agg #[.slice pa (len K) pk, .slice qa qn qk], .agg #[.slice xa 0 xk]] w fun e w' => e = .returned (.bool false) ∧ Below w.heap.size w w' := by
 have E0 := Zh ((Env.start (fun _ => True) w).argS ha)
 clear ha
 go_enter Tryz.func47, Tryz.ntmps47
 have E1 := Zh (((E0.out.push 26 [.slice pa (len K) pk, .slice qa qn qk] (w.heap.size) (by simp)).push 24 [.slice xa 0 xk] (w.heap.size + 1) (by simp)))
 have hfin := Zh E1.out.bel
 go_wp2
 go_ret
 exact ⟨rfl, hfin.out⟩
theorem rfac_1 (K X : Nat) {pa qa xa : Option Addr} {pk qn qk xk : Nat} {w : World} (ha : Sl w (.slice pa (len K) pk) (digs K)) (hx : Sl w (.slice xa (len X) xk) (digs X)) {t : Bool} (ht0 : decide (X < K) = t) (h0 : 0 < len X) :
  Calls Tryz.prog 47 #[.agg #[.slice pa (len K) pk, .slice qa qn qk], .agg #[.slice xa (len X) xk]] w fun e w' => e = .returned (.bool t) ∧ Below w.heap.size w w' := by
 have E0 := Zh (((Env.start (fun _ => True) w).argS ha).argS hx)
 clear ha hx
 go_enter Tryz.func47, Tryz.ntmps47
 have d1 : decide (0 < len X) = true := decide_eq_true h0
 have d2 : decide ((0 : Int) < (len X : Int)) = true := decide_eq_true (by omega)
 have HT := Zh ht0
 clear ht0 h0
 have E1 := Zh (((E0.out.push 26 [.slice pa (len K) pk, .slice qa qn qk] (w.heap.size) (by simp)).push 24 [.slice xa (len X) xk] (w.heap.size + 1) (by simp)))
 go_wp2_with fail
 refine (vresidue_c K X (gS.sl (E1.out.fc 1 rfl)) (gS.sl (E1.out.fc 0 rfl)) HT.out).mono ?_
 rintro e w1 ⟨rfl, hb⟩
 have E2 := Zh (E1.out.below hb)
 clear E0 E1 hb
 have hfin := Zh E2.out.bel
 go_wp2
 go_ret
 exact ⟨rfl, hfin.out⟩
theorem len_pos' {X : Nat} : 0 < len X ↔ X ≠ 0 := by rw [Nat.pos_iff_ne_zero, Ne, Nn.NatMath.len_eq_zero]
/-- a factor is no zero and below the modulus -/
theorem rfac_c (K X : Nat) {pa qa xa : Option Addr} {pk qn qk xk : Nat} {w : World} (ha : Sl w (.slice pa (len K) pk) (digs K)) (hx : Sl w (.slice xa (len X) xk) (digs X)) {t : Bool} (ht : (decide (0 < len X) && decide (X < K)) = t) :
  Calls Tryz.prog 47 #[.agg #[.slice pa (len K) pk, .slice qa qn qk], .agg #[.slice xa (len X) xk]] w fun e w' => e = .returned (.bool t) ∧ Below w.heap.size w w' := by
 by_cases h0 : 0 < len X
 ·rw [decide_eq_true h0, Bool.true_and] at ht
  exact rfac_1 K X ha hx ht h0
 ·rw [decide_eq_false h0, Bool.false_and] at ht
  subst ht
  have h1 : len X = 0 := by omega
  rw [h1]
  exact rfac_0 K ha
theorem fac_t {X K : Nat} (h : (decide (0 < len X) && decide (X < K)) = true) : 0 < len X ∧ X < K := by
 rw [Bool.and_eq_true, decide_eq_true_eq, decide_eq_true_eq] at h; exact h
theorem rSign_1 (lN lE lD lM : List Nat) {na ea da ma : Option Addr} {nk ek dk mk : Nat} {w : World} (hN : Sl w (.slice na lN.length nk) lN) (hE : Sl w (.slice ea lE.length ek) lE) (hD : Sl w (.slice da lD.length dk) lD) (hM : Sl w (.slice ma lM.length mk) lM) (hk0 : kV lN lE = false) :
  Calls Tryz.prog 19 #[.agg #[.slice na lN.length nk, .slice ea lE.length ek], .agg #[.slice da lD.length dk], .agg #[.slice ma lM.length mk]] w fun e w' => e = .returned (.tuple #[.agg #[.slice none 0 0], .int .i64 1]) ∧ Below w.heap.size w w' := by
 have E0 := Zh (((((Env.start (fun _ => True) w).argS hN).argS hE).argS hD).argS hM)
 clear hN hE hD hM
 go_enter Tryz.func19, Tryz.ntmps19
 have hk := Zh hk0
 clear hk0
 have E1 := Zh (((((E0.out.push 26 [.slice na lN.length nk, .slice ea lE.length ek] (w.heap.size) (by simp)).push 24 [.slice da lD.length dk] (w.heap.size + 1) (by simp)).push 24 [.slice ma lM.length mk] (w.heap.size + 1 + 1) (by simp)).push 24 [.slice none 0 0] (w.heap.size + 1 + 1 + 1) (by simp)))
 go_wp2_with fail
 refine (rKey_c hk.out (gS.sl (E1.out.fc 3 rfl)) (gS.sl (E1.out.fc 2 rfl))).mono ?_
 rintro e w1 ⟨rfl, hb⟩
 have E2 := Zh (E1.out.below hb)
 clear E0 E1 hb
 have b1 := E2.out.bx 0 rfl
 have c1_0 := b1.cell 0 rfl
 have f1_0 := b1.frozen 0
 clear b1
 go_wp2
 have E3 : Hid (Env (fun _ => True) w [(w.heap.size + 1 + 1 + 1, 24, [.slice none 0 0]), (w.heap.size + 1 + 1, 24, [.slice ma lM.length mk]), (w.heap.size + 1, 24, [.slice da lD.length dk]), (w.heap.size, 26, [.slice na lN.length nk, .slice ea lE.length ek])] [.gn (gS (.slice ma lM.length mk) lM), .gn (gS (.slice da lD.length dk) lD), .gn (gS (.slice ea lE.length ek) lE), .gn (gS (.slice na lN.length nk) lN)] _) := Zh ((E2.out.set 0 0 (.slice none 0 0) rfl))
 have hfin := E3.out
 have q2 := (hfin.bx 0 rfl).cell 0 rfl
 exact bodyPost_ret (v := .tuple #[.agg #[.slice none 0 0], .int .i64 1]) (by simp [results, Tryz.results19, go_sem, q2]) rfl ⟨rfl, hfin.bel⟩
theorem rSign_2 (N E : Nat) (lD lM : List Nat) {na ea da ma : Option Addr} {nk ek dk mk : Nat} {w : World} (hN : Sl w (.slice na (len N) nk) (digs N)) (hE : Sl w (.slice ea (len E) ek) (digs E)) (hD : Sl w (.slice da lD.length dk) lD) (hM : Sl w (.slice ma lM.length mk) lM) (HK0 : Key N E) (v10 : vld lD = false) :
  Calls Tryz.prog 19 #[.agg #[.slice na (len N) nk, .slice ea (len E) ek], .agg #[.slice da lD.length dk], .agg #[.slice ma lM.length mk]] w fun e w' => e = .returned (.tuple #[.agg #[.slice none 0 0], .int .i64 1]) ∧ Below w.heap.size w w' := by
 have E0 := Zh (((((Env.start (fun _ => True) w).argS hN).argS hE).argS hD).argS hM)
 clear hN hE hD hM
 go_enter Tryz.func19, Tryz.ntmps19
 have HK := Zh HK0
 have v1 := Zh v10
 clear HK0 v10
 have E1 := Zh (((((E0.out.push 26 [.slice na (len N) nk, .slice ea (len E) ek] (w.heap.size) (by simp)).push 24 [.slice da lD.length dk] (w.heap.size + 1) (by simp)).push 24 [.slice ma lM.length mk] (w.heap.size + 1 + 1) (by simp)).push 24 [.slice none 0 0] (w.heap.size + 1 + 1 + 1) (by simp)))
 go_wp2_with fail
 refine (rKey_c HK.out.k (gS.sl (E1.out.fc 3 rfl)) (gS.sl (E1.out.fc 2 rfl))).mono ?_
 rintro e w1 ⟨rfl, hb⟩
 have E2 := Zh (E1.out.below hb)
 clear E0 E1 hb
 have b1 := E2.out.bx 2 rfl
 have c1_0 := b1.cell 0 rfl
 clear b1
 go_wp2_with fail
 refine (rvalidF v1.out (gS.sl (E2.out.fc 1 rfl))).mono ?_
 rintro e w2 ⟨rfl, hb⟩
 have E3 := Zh (E2.out.below hb)
 clear c1_0 E2 hb
 have b2 := E3.out.bx 0 rfl
 have c2_0 := b2.cell 0 rfl
 have f2_0 := b2.frozen 0
 clear b2
 go_wp2
 have E4 : Hid (Env (fun _ => True) w [(w.heap.size + 1 + 1 + 1, 24, [.slice none 0 0]), (w.heap.size + 1 + 1, 24, [.slice ma lM.length mk]), (w.heap.size + 1, 24, [.slice da lD.length dk]), (w.heap.size, 26, [.slice na (len N) nk, .slice ea (len E) ek])] [.gn (gS (.slice ma lM.length mk) lM), .gn (gS (.slice da lD.length dk) lD), .gn (gS (.slice ea (len E) ek) (digs E)), .gn (gS (.slice na (len N) nk) (digs N))] _) := Zh ((E3.out.set 0 0 (.slice none 0 0) rfl))
 have hfin := E4.out
 have q3 := (hfin.bx 0 rfl).cell 0 rfl
 exact bodyPost_ret (v := .tuple #[.agg #[.slice none 0 0], .int .i64 1]) (by simp [results, Tryz.results19, go_sem, q3]) rfl ⟨rfl, hfin.bel⟩
theorem rSign_2b (N E : Nat) (lD lM : List Nat) {na ea da ma : Option Addr} {nk ek dk mk : Nat} {w : World} (hN : Sl w (.slice na (len N) nk) (digs N)) (hE : Sl w (.slice ea (len E) ek) (digs E)) (hD : Sl w (.slice da lD.length dk) lD) (hM : Sl w (.slice ma lM.length mk) lM) (HK0 : Key N E) (v10 : vld lD = true) (v20 : vld lM = false) :
  Calls Tryz.prog 19 #[.agg #[.slice na (len N) nk, .slice ea (len E) ek], .agg #[.slice da lD.length dk], .agg #[.slice ma lM.length mk]] w fun e w' => e = .returned (.tuple #[.agg #[.slice none 0 0], .int .i64 1]) ∧ Below w.heap.size w w' := by
 have E0 := Zh (((((Env.start (fun _ => True) w).argS hN).argS hE).argS hD).argS hM)
 clear hN hE hD hM
 go_enter Tryz.func19, Tryz.ntmps19
 have HK := Zh HK0
 have v1 := Zh v10
 have v2 := Zh v20
 clear HK0 v10 v20
 have E1 := Zh (((((E0.out.push 26 [.slice na (len N) nk, .slice ea (len E) ek] (w.heap.size) (by simp)).push 24 [.slice da lD.length dk] (w.heap.size + 1) (by simp)).push 24 [.slice ma lM.length mk] (w.heap.size + 1 + 1) (by simp)).push 24 [.slice none 0 0] (w.heap.size + 1 + 1 + 1) (by simp)))
 go_wp2_with fail
 refine (rKey_c HK.out.k (gS.sl (E1.out.fc 3 rfl)) (gS.sl (E1.out.fc 2 rfl))).mono ?_
 rintro e w1 ⟨rfl, hb⟩
 have E2 := Zh (E1.out.below hb)
 clear E0 E1 hb
 have b1 := E2.out.bx 2 rfl
 have c1_0 := b1.cell 0 rfl
 clear b1
 go_wp2_with fail
 refine (rvalidF v1.out (gS.sl (E2.out.fc 1 rfl))).mono ?_
 rintro e w2 ⟨rfl, hb⟩
 have E3 := Zh (E2.out.below hb)
 clear c1_0 E2 hb
 have b2 := E3.out.bx 1 rfl
 have c2_0 := b2.cell 0 rfl
 clear b2
 go_wp2_with fail
 refine (rvalidF v2.out (gS.sl (E3.out.fc 0 rfl))).mono ?_
 rintro e w3 ⟨rfl, hb⟩
 have E4 := Zh (E3.out.below hb)
 clear c2_0 E3 hb
 have b3 := E4.out.bx 0 rfl
 have c3_0 := b3.cell 0 rfl
 have f3_0 := b3.frozen 0
 clear b3
 go_wp2
 have E5 : Hid (Env (fun _ => True) w [(w.heap.size + 1 + 1 + 1, 24, [.slice none 0 0]), (w.heap.size + 1 + 1, 24, [.slice ma lM.length mk]), (w.heap.size + 1, 24, [.slice da lD.length dk]), (w.heap.size, 26, [.slice na (len N) nk, .slice ea (len E) ek])] [.gn (gS (.slice ma lM.length mk) lM), .gn (gS (.slice da lD.length dk) lD), .gn (gS (.slice ea (len E) ek) (digs E)), .gn (gS (.slice na (len N) nk) (digs N))] _) := Zh ((E4.out.set 0 0 (.slice none 0 0) rfl))
 have hfin := E5.out
 have q4 := (hfin.bx 0 rfl).cell 0 rfl
 exact bodyPost_ret (v := .tuple #[.agg #[.slice none 0 0], .int .i64 1]) (by simp [results, Tryz.results19, go_sem, q4]) rfl ⟨rfl, hfin.bel⟩
theorem rSign_3 (N E D M : Nat) {na ea da ma : Option Addr} {nk ek dk mk : Nat} {w : World} (hN : Sl w (.slice na (len N) nk) (digs N)) (hE : Sl w (.slice ea (len E) ek) (digs E)) (hD : Sl w (.slice da (len D) dk) (digs D)) (hM : Sl w (.slice ma (len M) mk) (digs M)) (HK0 : Key N E) (v10 : vld (digs D) = true) (v20 : vld (digs M) = true) (h10 : decide (D < N) = false) :
  Calls Tryz.prog 19 #[.agg #[.slice na (len N) nk, .slice ea (len E) ek], .agg #[.slice da (len D) dk], .agg #[.slice ma (len M) mk]] w fun e w' => e = .returned (.tuple #[.agg #[.slice none 0 0], .int .i64 2]) ∧ Below w.heap.size w w' := by
 have E0 := Zh (((((Env.start (fun _ => True) w).argS hN).argS hE).argS hD).argS hM)
 clear hN hE hD hM
 go_enter Tryz.func19, Tryz.ntmps19
 have HK := Zh HK0
 have v1 := Zh v10
 have v2 := Zh v20
 have h1 := Zh h10
 clear HK0 v10 v20 h10
 have E1 := Zh (((((E0.out.push 26 [.slice na (len N) nk, .slice ea (len E) ek] (w.heap.size) (by simp)).push 24 [.slice da (len D) dk] (w.heap.size + 1) (by simp)).push 24 [.slice ma (len M) mk] (w.heap.size + 1 + 1) (by simp)).push 24 [.slice none 0 0] (w.heap.size + 1 + 1 + 1) (by simp)))
 go_wp2_with fail
 refine (rKey_c HK.out.k (gS.sl (E1.out.fc 3 rfl)) (gS.sl (E1.out.fc 2 rfl))).mono ?_
 rintro e w1 ⟨rfl, hb⟩
 have E2 := Zh (E1.out.below hb)
 clear E0 E1 hb
 have b1 := E2.out.bx 2 rfl
 have c1_0 := b1.cell 0 rfl
 clear b1
 go_wp2_with fail
 refine (rvalidF v1.out (gS.sl (E2.out.fc 1 rfl))).mono ?_
 rintro e w2 ⟨rfl, hb⟩
 have E3 := Zh (E2.out.below hb)
 clear c1_0 E2 hb
 have b2 := E3.out.bx 1 rfl
 have c2_0 := b2.cell 0 rfl
 clear b2
 go_wp2_with fail
 refine (rvalidF v2.out (gS.sl (E3.out.fc 0 rfl))).mono ?_
 rintro e w3 ⟨rfl, hb⟩
 have E4 := Zh (E3.out.below hb)
 clear c2_0 E3 hb
 have b3 := E4.out.bx 3 rfl
 have c3_0 := b3.cell 0 rfl
 have c3_1 := b3.cell 1 rfl
 clear b3
 have b4 := E4.out.bx 2 rfl
 have c4_0 := b4.cell 0 rfl
 clear b4
 go_wp2_with fail
 refine (vresidue_c N D (gS.sl (E4.out.fc 3 rfl)) (gS.sl (E4.out.fc 1 rfl)) h1.out).mono ?_
 rintro e w4 ⟨rfl, hb⟩
 have E5 := Zh (E4.out.below hb)
 clear c3_0 c3_1 c4_0 E4 hb
 have b5 := E5.out.bx 0 rfl
 have c5_0 := b5.cell 0 rfl
 have f5_0 := b5.frozen 0
 clear b5
 go_wp2
 have E6 : Hid (Env (fun _ => True) w [(w.heap.size + 1 + 1 + 1, 24, [.slice none 0 0]), (w.heap.size + 1 + 1, 24, [.slice ma (len M) mk]), (w.heap.size + 1, 24, [.slice da (len D) dk]), (w.heap.size, 26, [.slice na (len N) nk, .slice ea (len E) ek])] [.gn (gS (.slice ma (len M) mk) (digs M)), .gn (gS (.slice da (len D) dk) (digs D)), .gn (gS (.slice ea (len E) ek) (digs E)), .gn (gS (.slice na (len N) nk) (digs N))] _) := Zh ((E5.out.set 0 0 (.slice none 0 0) rfl))
 have hfin := E6.out
 have q6 := (hfin.bx 0 rfl).cell 0 rfl
 exact bodyPost_ret (v := .tuple #[.agg #[.slice none 0 0], .int .i64 2]) (by simp [results, Tryz.results19, go_sem, q6]) rfl ⟨rfl, hfin.bel⟩
theorem rSign_3b (N E D M : Nat) {na ea da ma : Option Addr} {nk ek dk mk : Nat} {w : World} (hN : Sl w (.slice na (len N) nk) (digs N)) (hE : Sl w (.slice ea (len E) ek) (digs E)) (hD : Sl w (.slice da (len D) dk) (digs D)) (hM : Sl w (.slice ma (len M) mk) (digs M)) (HK0 : Key N E) (v10 : vld (digs D) = true) (v20 : vld (digs M) = true) (h10 : decide (D < N) = true) (h20 : decide (M < N) = false) :
  Calls Tryz.prog 19 #[.agg #[.slice na (len N) nk, .slice ea (len E) ek], .agg #[.slice da (len D) dk], .agg #[.slice ma (len M) mk]] w fun e w' => e = .returned (.tuple #[.agg #[.slice none 0 0], .int .i64 2]) ∧ Below w.heap.size w w' := by
 have E0 := Zh (((((Env.start (fun _ => True) w).argS hN).argS hE).argS hD).argS hM)
 clear hN hE hD hM
 go_enter Tryz.func19, Tryz.ntmps19
 have HK := Zh HK0
 have v1 := Zh v10
 have v2 := Zh v20
 have h1 := Zh h10
 have h2 := Zh h20
 clear HK0 v10 v20 h10 h20
 have E1 := Zh (((((E0.out.push 26 [.slice na (len N) nk, .slice ea (len E) ek] (w.heap.size) (by simp)).push 24 [.slice da (len D) dk] (w.heap.size + 1) (by simp)).push 24 [.slice ma (len M) mk] (w.heap.size + 1 + 1) (by simp)).push 24 [.slice none 0 0] (w.heap.size + 1 + 1 + 1) (by simp)))
 go_wp2_with fail
 refine (rKey_c HK.out.k (gS.sl (E1.out.fc 3 rfl)) (gS.sl (E1.out.fc 2 rfl))).mono ?_
 rintro e w1 ⟨rfl, hb⟩
 have E2 := Zh (E1.out.below hb)
 clear E0 E1 hb
 have b1 := E2.out.bx 2 rfl
 have c1_0 := b1.cell 0 rfl
 clear b1
 go_wp2_with fail
 refine (rvalidF v1.out (gS.sl (E2.out.fc 1 rfl))).mono ?_
 rintro e w2 ⟨rfl, hb⟩
 have E3 := Zh (E2.out.below hb)
 clear c1_0 E2 hb
 have b2 := E3.out.bx 1 rfl
 have c2_0 := b2.cell 0 rfl
 clear b2
 go_wp2_with fail
 refine (rvalidF v2.out (gS.sl (E3.out.fc 0 rfl))).mono ?_
 rintro e w3 ⟨rfl, hb⟩
 have E4 := Zh (E3.out.below hb)
 clear c2_0 E3 hb
 have b3 := E4.out.bx 3 rfl
 have c3_0 := b3.cell 0 rfl
 have c3_1 := b3.cell 1 rfl
 clear b3
 have b4 := E4.out.bx 2 rfl
 have c4_0 := b4.cell 0 rfl
 clear b4
 go_wp2_with fail
 refine (vresidue_c N D (gS.sl (E4.out.fc 3 rfl)) (gS.sl (E4.out.fc 1 rfl)) h1.out).mono ?_
 rintro e w4 ⟨rfl, hb⟩
 have E5 := Zh (E4.out.below hb)
 clear c3_0 c3_1 c4_0 E4 hb
 have b5 := E5.out.bx 3 rfl
 have c5_0 := b5.cell 0 rfl
 have c5_1 := b5.cell 1 rfl
 clear b5
 have b6 := E5.out.bx 1 rfl
 have c6_0 := b6.cell 0 rfl
 clear b6
 go_wp2_with fail
 refine (vresidue_c N M (gS.sl (E5.out.fc 3 rfl)) (gS.sl (E5.out.fc 0 rfl)) h2.out).mono ?_
 rintro e w5 ⟨rfl, hb⟩
 have E6 := Zh (E5.out.below hb)
 clear c5_0 c5_1 c6_0 E5 hb
 have b7 := E6.out.bx 0 rfl
 have c7_0 := b7.cell 0 rfl
 have f7_0 := b7.frozen 0
 clear b7
 go_wp2
 have E7 : Hid (Env (fun _ => True) w [(w.heap.size + 1 + 1 + 1, 24, [.slice none 0 0]), (w.heap.size + 1 + 1, 24, [.slice ma (len M) mk]), (w.heap.size + 1, 24, [.slice da (len D) dk]), (w.heap.size, 26, [.slice na (len N) nk, .slice ea (len E) ek])] [.gn (gS (.slice ma (len M) mk) (digs M)), .gn (gS (.slice da (len D) dk) (digs D)), .gn (gS (.slice ea (len E) ek) (digs E)), .gn (gS (.slice na (len N) nk) (digs N))] _) := Zh ((E6.out.set 0 0 (.slice none 0 0) rfl))
 have hfin := E7.out
 have q8 := (hfin.bx 0 rfl).cell 0 rfl
 exact bodyPost_ret (v := .tuple #[.agg #[.slice none 0 0], .int .i64 2]) (by simp [results, Tryz.results19, go_sem, q8]) rfl ⟨rfl, hfin.bel⟩
theorem rSign_ok (N E D M : Nat) {na ea da ma : Option Addr} {nk ek dk mk : Nat} {w : World} (hN : Sl w (.slice na (len N) nk) (digs N)) (hE : Sl w (.slice ea (len E) ek) (digs E)) (hD : Sl w (.slice da (len D) dk) (digs D)) (hM : Sl w (.slice ma (len M) mk) (digs M)) (HK0 : Key N E) (v10 : vld (digs D) = true) (v20 : vld (digs M) = true) (h10 : decide (D < N) = true) (h20 : decide (M < N) = true) (lD0 : len D ≤ 64) {r : Nat} (hr0 : M ^ D % N = r) :
  Calls Tryz.prog 19 #[.agg #[.slice na (len N) nk, .slice ea (len E) ek], .agg #[.slice da (len D) dk], .agg #[.slice ma (len M) mk]] w fun e w' => ResN r 0 e w' ∧ Below w.heap.size w w' := by
 have E0 := Zh (((((Env.start (fun _ => True) w).argS hN).argS hE).argS hD).argS hM)
 clear hN hE hD hM
 go_enter Tryz.func19, Tryz.ntmps19
 have HK := Zh HK0
 have v1 := Zh v10
 have v2 := Zh v20
 have h1 := Zh h10
 have h2 := Zh h20
 have lD := Zh lD0
 have hr := Zh hr0
 clear HK0 v10 v20 h10 h20 lD0 hr0
 have HM := Zh (of_decide_eq_true h2.out)
 have E1 := Zh (((((E0.out.push 26 [.slice na (len N) nk, .slice ea (len E) ek] (w.heap.size) (by simp)).push 24 [.slice da (len D) dk] (w.heap.size + 1) (by simp)).push 24 [.slice ma (len M) mk] (w.heap.size + 1 + 1) (by simp)).push 24 [.slice none 0 0] (w.heap.size + 1 + 1 + 1) (by simp)))
 go_wp2_with fail
 refine (rKey_c HK.out.k (gS.sl (E1.out.fc 3 rfl)) (gS.sl (E1.out.fc 2 rfl))).mono ?_
 rintro e w1 ⟨rfl, hb⟩
 have E2 := Zh (E1.out.below hb)
 clear E0 E1 hb
 have b1 := E2.out.bx 2 rfl
 have c1_0 := b1.cell 0 rfl
 clear b1
 go_wp2_with fail
 refine (rvalidF v1.out (gS.sl (E2.out.fc 1 rfl))).mono ?_
 rintro e w2 ⟨rfl, hb⟩
 have E3 := Zh (E2.out.below hb)
 clear c1_0 E2 hb
 have b2 := E3.out.bx 1 rfl
 have c2_0 := b2.cell 0 rfl
 clear b2
 go_wp2_with fail
 refine (rvalidF v2.out (gS.sl (E3.out.fc 0 rfl))).mono ?_
 rintro e w3 ⟨rfl, hb⟩
 have E4 := Zh (E3.out.below hb)
 clear c2_0 E3 hb
 have b3 := E4.out.bx 3 rfl
 have c3_0 := b3.cell 0 rfl
 have c3_1 := b3.cell 1 rfl
 clear b3
 have b4 := E4.out.bx 2 rfl
 have c4_0 := b4.cell 0 rfl
 clear b4
 go_wp2_with fail
 refine (vresidue_c N D (gS.sl (E4.out.fc 3 rfl)) (gS.sl (E4.out.fc 1 rfl)) h1.out).mono ?_
 rintro e w4 ⟨rfl, hb⟩
 have E5 := Zh (E4.out.below hb)
 clear c3_0 c3_1 c4_0 E4 hb
 have b5 := E5.out.bx 3 rfl
 have c5_0 := b5.cell 0 rfl
 have c5_1 := b5.cell 1 rfl
 clear b5
 have b6 := E5.out.bx 1 rfl
 have c6_0 := b6.cell 0 rfl
 clear b6
 go_wp2_with fail
 refine (vresidue_c N M (gS.sl (E5.out.fc 3 rfl)) (gS.sl (E5.out.fc 0 rfl)) h2.out).mono ?_
 rintro e w5 ⟨rfl, hb⟩
 have E6 := Zh (E5.out.below hb)
 clear c5_0 c5_1 c6_0 E5 hb
 have b7 := E6.out.bx 1 rfl
 have c7_0 := b7.cell 0 rfl
 clear b7
 have b8 := E6.out.bx 2 rfl
 have c8_0 := b8.cell 0 rfl
 clear b8
 have b9 := E6.out.bx 3 rfl
 have c9_0 := b9.cell 0 rfl
 clear b9
 go_wp2_with fail
 refine (Nn.rPow_c hr.out (Nat.le_trans lD.out (by omega)) HM.out (Nat.le_trans HK.out.lN (by omega)) (gS.sl (E6.out.fc 0 rfl)) (gS.sl (E6.out.fc 1 rfl)) (gS.sl (E6.out.fc 3 rfl))).mono ?_
 rintro e w6 ⟨⟨oa, ok, rfl, oh⟩, hb⟩
 have E7 := Zh ((E6.out.below hb).noteS oh.out rfl)
 clear c7_0 c8_0 c9_0 E6 hb oh
 have b10 := E7.out.bx 0 rfl
 have c10_0 := b10.cell 0 rfl
 have f10_0 := b10.frozen 0
 clear b10
 go_wp2
 have E8 : Hid (Env (fun _ => True) w [(w.heap.size + 1 + 1 + 1, 24, [.slice oa (len r) ok]), (w.heap.size + 1 + 1, 24, [.slice ma (len M) mk]), (w.heap.size + 1, 24, [.slice da (len D) dk]), (w.heap.size, 26, [.slice na (len N) nk, .slice ea (len E) ek])] [.gn (gS (.slice oa (len r) ok) (digs r)), .gn (gS (.slice ma (len M) mk) (digs M)), .gn (gS (.slice da (len D) dk) (digs D)), .gn (gS (.slice ea (len E) ek) (digs E)), .gn (gS (.slice na (len N) nk) (digs N))] _) := Zh ((E7.out.set 0 0 (.slice oa (len r) ok) rfl))
 have hfin := E8.out
 have q11 := (hfin.bx 0 rfl).cell 0 rfl
 exact bodyPost_ret (v := .tuple #[.agg #[.slice oa (len r) ok], .int .i64 0]) (by simp [results, Tryz.results19, go_sem, q11]) rfl ⟨⟨oa, ok, rfl, Zh (gS.sl (hfin.out 0 rfl))⟩, hfin.bel⟩
theorem rUnblind_1 (lN lE lM lR : List Nat) {na ea ma ra : Option Addr} {nk ek mk rk : Nat} {w : World} (hN : Sl w (.slice na lN.length nk) lN) (hE : Sl w (.slice ea lE.length ek) lE) (hM : Sl w (.slice ma lM.length mk) lM) (hR : Sl w (.slice ra lR.length rk) lR) (hk0 : kV lN lE = false) :
  Calls Tryz.prog 21 #[.agg #[.slice na lN.length nk, .slice ea lE.length ek], .agg #[.slice ma lM.length mk], .agg #[.slice ra lR.length rk]] w fun e w' => e = .returned (.tuple #[.agg #[.slice none 0 0], .int .i64 1]) ∧ Below w.heap.size w w' := by
 have E0 := Zh (((((Env.start (fun _ => True) w).argS hN).argS hE).argS hM).argS hR)
 clear hN hE hM hR
 go_enter Tryz.func21, Tryz.ntmps21
 have hk := Zh hk0
 clear hk0
 have E1 := Zh (((((E0.out.push 26 [.slice na lN.length nk, .slice ea lE.length ek] (w.heap.size) (by simp)).push 24 [.slice ma lM.length mk] (w.heap.size + 1) (by simp)).push 24 [.slice ra lR.length rk] (w.heap.size + 1 + 1) (by simp)).push 24 [.slice none 0 0] (w.heap.size + 1 + 1 + 1) (by simp)))
 go_wp2_with fail
 refine (rKey_c hk.out (gS.sl (E1.out.fc 3 rfl)) (gS.sl (E1.out.fc 2 rfl))).mono ?_
 rintro e w1 ⟨rfl, hb⟩
 have E2 := Zh (E1.out.below hb)
 clear E0 E1 hb
 have b1 := E2.out.bx 0 rfl
 have c1_0 := b1.cell 0 rfl
 have f1_0 := b1.frozen 0
 clear b1
 go_wp2
 have E3 : Hid (Env (fun _ => True) w [(w.heap.size + 1 + 1 + 1, 24, [.slice none 0 0]), (w.heap.size + 1 + 1, 24, [.slice ra lR.length rk]), (w.heap.size + 1, 24, [.slice ma lM.length mk]), (w.heap.size, 26, [.slice na lN.length nk, .slice ea lE.length ek])] [.gn (gS (.slice ra lR.length rk) lR), .gn (gS (.slice ma lM.length mk) lM), .gn (gS (.slice ea lE.length ek) lE), .gn (gS (.slice na lN.length nk) lN)] _) := Zh ((E2.out.set 0 0 (.slice none 0 0) rfl))
 have hfin := E3.out
 have q2 := (hfin.bx 0 rfl).cell 0 rfl
 exact bodyPost_ret (v := .tuple #[.agg #[.slice none 0 0], .int .i64 1]) (by simp [results, Tryz.results21, go_sem, q2]) rfl ⟨rfl, hfin.bel⟩
theorem rUnblind_2 (N E : Nat) (lM lR : List Nat) {na ea ma ra : Option Addr} {nk ek mk rk : Nat} {w : World} (hN : Sl w (.slice na (len N) nk) (digs N)) (hE : Sl w (.slice ea (len E) ek) (digs E)) (hM : Sl w (.slice ma lM.length mk) lM) (hR : Sl w (.slice ra lR.length rk) lR) (HK0 : Key N E) (v10 : vld lM = false) :
  Calls Tryz.prog 21 #[.agg #[.slice na (len N) nk, .slice ea (len E) ek], .agg #[.slice ma lM.length mk], .agg #[.slice ra lR.length rk]] w fun e w' => e = .returned (.tuple #[.agg #[.slice none 0 0], .int .i64 1]) ∧ Below w.heap.size w w' := by
 have E0 := Zh (((((Env.start (fun _ => True) w).argS hN).argS hE).argS hM).argS hR)
 clear hN hE hM hR
 go_enter Tryz.func21, Tryz.ntmps21
 have HK := Zh HK0
 have v1 := Zh v10
 clear HK0 v10
 have E1 := Zh (((((E0.out.push 26 [.slice na (len N) nk, .slice ea (len E) ek] (w.heap.size) (by simp)).push 24 [.slice ma lM.length mk] (w.heap.size + 1) (by simp)).push 24 [.slice ra lR.length rk] (w.heap.size + 1 + 1) (by simp)).push 24 [.slice none 0 0] (w.heap.size + 1 + 1 + 1) (by simp)))
 go_wp2_with fail
 refine (rKey_c HK.out.k (gS.sl (E1.out.fc 3 rfl)) (gS.sl (E1.out.fc 2 rfl))).mono ?_
 rintro e w1 ⟨rfl, hb⟩
 have E2 := Zh (E1.out.below hb)
 clear E0 E1 hb
 have b1 := E2.out.bx 2 rfl
 have c1_0 := b1.cell 0 rfl
 clear b1
 go_wp2_with fail
 refine (rvalidF v1.out (gS.sl (E2.out.fc 1 rfl))).mono ?_
 rintro e w2 ⟨rfl, hb⟩
 have E3 := Zh (E2.out.below hb)
 clear c1_0 E2 hb
 have b2 := E3.out.bx 0 rfl
 have c2_0 := b2.cell 0 rfl
 have f2_0 := b2.frozen 0
 clear b2
 go_wp2
 have E4 : Hid (Env (fun _ => True) w [(w.heap.size + 1 + 1 + 1, 24, [.slice none 0 0]), (w.heap.size + 1 + 1, 24, [.slice ra lR.length rk]), (w.heap.size + 1, 24, [.slice ma lM.length mk]), (w.heap.size, 26, [.slice na (len N) nk, .slice ea (len E) ek])] [.gn (gS (.slice ra lR.length rk) lR), .gn (gS (.slice ma lM.length mk) lM), .gn (gS (.slice ea (len E) ek) (digs E)), .gn (gS (.slice na (len N) nk) (digs N))] _) := Zh ((E3.out.set 0 0 (.slice none 0 0) rfl))
 have hfin := E4.out
 have q3 := (hfin.bx 0 rfl).cell 0 rfl
 exact bodyPost_ret (v := .tuple #[.agg #[.slice none 0 0], .int .i64 1]) (by simp [results, Tryz.results21, go_sem, q3]) rfl ⟨rfl, hfin.bel⟩
theorem rUnblind_2b (N E : Nat) (lM lR : List Nat) {na ea ma ra : Option Addr} {nk ek mk rk : Nat} {w : World} (hN : Sl w (.slice na (len N) nk) (digs N)) (hE : Sl w (.slice ea (len E) ek) (digs E)) (hM : Sl w (.slice ma lM.length mk) lM) (hR : Sl w (.slice ra lR.length rk) lR) (HK0 : Key N E) (v10 : vld lM = true) (v20 : vld lR = false) :
  Calls Tryz.prog 21 #[.agg #[.slice na (len N) nk, .slice ea (len E) ek], .agg #[.slice ma lM.length mk], .agg #[.slice ra lR.length rk]] w fun e w' => e = .returned (.tuple #[.agg #[.slice none 0 0], .int .i64 1]) ∧ Below w.heap.size w w' := by
 have E0 := Zh (((((Env.start (fun _ => True) w).argS hN).argS hE).argS hM).argS hR)
 clear hN hE hM hR
 go_enter Tryz.func21, Tryz.ntmps21
 have HK := Zh HK0
 have v1 := Zh v10
 have v2 := Zh v20
 clear HK0 v10 v20
 have E1 := Zh (((((E0.out.push 26 [.slice na (len N) nk, .slice ea (len E) ek] (w.heap.size) (by simp)).push 24 [.slice ma lM.length mk] (w.heap.size + 1) (by simp)).push 24 [.slice ra lR.length rk] (w.heap.size + 1 + 1) (by simp)).push 24 [.slice none 0 0] (w.heap.size + 1 + 1 + 1) (by simp)))
 go_wp2_with fail
 refine (rKey_c HK.out.k (gS.sl (E1.out.fc 3 rfl)) (gS.sl (E1.out.fc 2 rfl))).mono ?_
 rintro e w1 ⟨rfl, hb⟩
 have E2 := Zh (E1.out.below hb)
 clear E0 E1 hb
 have b1 := E2.out.bx 2 rfl
 have c1_0 := b1.cell 0 rfl
 clear b1
 go_wp2_with fail
 refine (rvalidF v1.out (gS.sl (E2.out.fc 1 rfl))).mono ?_
 rintro e w2 ⟨rfl, hb⟩
 have E3 := Zh (E2.out.below hb)
 clear c1_0 E2 hb
 have b2 := E3.out.bx 1 rfl
 have c2_0 := b2.cell 0 rfl
 clear b2
 go_wp2_with fail
 refine (rvalidF v2.out (gS.sl (E3.out.fc 0 rfl))).mono ?_
 rintro e w3 ⟨rfl, hb⟩
 have E4 := Zh (E3.out.below hb)
 clear c2_0 E3 hb
 have b3 := E4.out.bx 0 rfl
 have c3_0 := b3.cell 0 rfl
 have f3_0 := b3.frozen 0
 clear b3
 go_wp2
 have E5 : Hid (Env (fun _ => True) w [(w.heap.size + 1 + 1 + 1, 24, [.slice none 0 0]), (w.heap.size + 1 + 1, 24, [.slice ra lR.length rk]), (w.heap.size + 1, 24, [.slice ma lM.length mk]), (w.heap.size, 26, [.slice na (len N) nk, .slice ea (len E) ek])] [.gn (gS (.slice ra lR.length rk) lR), .gn (gS (.slice ma lM.length mk) lM), .gn (gS (.slice ea (len E) ek) (digs E)), .gn (gS (.slice na (len N) nk) (digs N))] _) := Zh ((E4.out.set 0 0 (.slice none 0 0) rfl))
 have hfin := E5.out
 have q4 := (hfin.bx 0 rfl).cell 0 rfl
 exact bodyPost_ret (v := .tuple #[.agg #[.slice none 0 0], .int .i64 1]) (by simp [results, Tryz.results21, go_sem, q4]) rfl ⟨rfl, hfin.bel⟩
theorem rUnblind_3 (N E M R : Nat) {na ea ma ra : Option Addr} {nk ek mk rk : Nat} {w : World} (hN : Sl w (.slice na (len N) nk) (digs N)) (hE : Sl w (.slice ea (len E) ek) (digs E)) (hM : Sl w (.slice ma (len M) mk) (digs M)) (hR : Sl w (.slice ra (len R) rk) (digs R)) (HK0 : Key N E) (v10 : vld (digs M) = true) (v20 : vld (digs R) = true) (h10 : decide (M < N) = false) :
  Calls Tryz.prog 21 #[.agg #[.slice na (len N) nk, .slice ea (len E) ek], .agg #[.slice ma (len M) mk], .agg #[.slice ra (len R) rk]] w fun e w' => e = .returned (.tuple #[.agg #[.slice none 0 0], .int .i64 2]) ∧ Below w.heap.size w w' := by
 have E0 := Zh (((((Env.start (fun _ => True) w).argS hN).argS hE).argS hM).argS hR)
 clear hN hE hM hR
 go_enter Tryz.func21, Tryz.ntmps21
 have HK := Zh HK0
 have v1 := Zh v10
 have v2 := Zh v20
 have h1 := Zh h10
 clear HK0 v10 v20 h10
 have E1 := Zh (((((E0.out.push 26 [.slice na (len N) nk, .slice ea (len E) ek] (w.heap.size) (by simp)).push 24 [.slice ma (len M) mk] (w.heap.size + 1) (by simp)).push 24 [.slice ra (len R) rk] (w.heap.size + 1 + 1) (by simp)).push 24 [.slice none 0 0] (w.heap.size + 1 + 1 + 1) (by simp)))
 go_wp2_with fail
 refine (rKey_c HK.out.k (gS.sl (E1.out.fc 3 rfl)) (gS.sl (E1.out.fc 2 rfl))).mono ?_
 rintro e w1 ⟨rfl, hb⟩
 have E2 := Zh (E1.out.below hb)
 clear E0 E1 hb
 have b1 := E2.out.bx 2 rfl
 have c1_0 := b1.cell 0 rfl
 clear b1
 go_wp2_with fail
 refine (rvalidF v1.out (gS.sl (E2.out.fc 1 rfl))).mono ?_
 rintro e w2 ⟨rfl, hb⟩
 have E3 := Zh (E2.out.below hb)
 clear c1_0 E2 hb
 have b2 := E3.out.bx 1 rfl
 have c2_0 := b2.cell 0 rfl
 clear b2
 go_wp2_with fail
 refine (rvalidF v2.out (gS.sl (E3.out.fc 0 rfl))).mono ?_
 rintro e w3 ⟨rfl, hb⟩
 have E4 := Zh (E3.out.below hb)
 clear c2_0 E3 hb
 have b3 := E4.out.bx 3 rfl
 have c3_0 := b3.cell 0 rfl
 have c3_1 := b3.cell 1 rfl
 clear b3
 have b4 := E4.out.bx 2 rfl
 have c4_0 := b4.cell 0 rfl
 clear b4
 go_wp2_with fail
 refine (vresidue_c N M (gS.sl (E4.out.fc 3 rfl)) (gS.sl (E4.out.fc 1 rfl)) h1.out).mono ?_
 rintro e w4 ⟨rfl, hb⟩
 have E5 := Zh (E4.out.below hb)
 clear c3_0 c3_1 c4_0 E4 hb
 have b5 := E5.out.bx 0 rfl
 have c5_0 := b5.cell 0 rfl
 have f5_0 := b5.frozen 0
 clear b5
 go_wp2
 have E6 : Hid (Env (fun _ => True) w [(w.heap.size + 1 + 1 + 1, 24, [.slice none 0 0]), (w.heap.size + 1 + 1, 24, [.slice ra (len R) rk]), (w.heap.size + 1, 24, [.slice ma (len M) mk]), (w.heap.size, 26, [.slice na (len N) nk, .slice ea (len E) ek])] [.gn (gS (.slice ra (len R) rk) (digs R)), .gn (gS (.slice ma (len M) mk) (digs M)), .gn (gS (.slice ea (len E) ek) (digs E)), .gn (gS (.slice na (len N) nk) (digs N))] _) := Zh ((E5.out.set 0 0 (.slice none 0 0) rfl))
 have hfin := E6.out
 have q6 := (hfin.bx 0 rfl).cell 0 rfl
 exact bodyPost_ret (v := .tuple #[.agg #[.slice none 0 0], .int .i64 2]) (by simp [results, Tryz.results21, go_sem, q6]) rfl ⟨rfl, hfin.bel⟩
theorem rUnblind_3b (N E M R : Nat) {na ea ma ra : Option Addr} {nk ek mk rk : Nat} {w : World} (hN : Sl w (.slice na (len N) nk) (digs N)) (hE : Sl w (.slice ea (len E) ek) (digs E)) (hM : Sl w (.slice ma (len M) mk) (digs M)) (hR : Sl w (.slice ra (len R) rk) (digs R)) (HK0 : Key N E) (v10 : vld (digs M) = true) (v20 : vld (digs R) = true) (h10 : decide (M < N) = true) (hf0 : (decide (0 < len R) && decide (R < N)) = false)  :
  Calls Tryz.prog 21 #[.agg #[.slice na (len N) nk, .slice ea (len E) ek], .agg #[.slice ma (len M) mk], .agg #[.slice ra (len R) rk]] w fun e w' => e = .returned (.tuple #[.agg #[.slice none 0 0], .int .i64 2]) ∧ Below w.heap.size w w' := by
 have E0 := Zh (((((Env.start (fun _ => True) w).argS hN).argS hE).argS hM).argS hR)
 clear hN hE hM hR
 go_enter Tryz.func21, Tryz.ntmps21
 have HK := Zh HK0
 have v1 := Zh v10
 have v2 := Zh v20
 have h1 := Zh h10
 have hf := Zh hf0
 clear HK0 v10 v20 h10 hf0
 have E1 := Zh (((((E0.out.push 26 [.slice na (len N) nk, .slice ea (len E) ek] (w.heap.size) (by simp)).push 24 [.slice ma (len M) mk] (w.heap.size + 1) (by simp)).push 24 [.slice ra (len R) rk] (w.heap.size + 1 + 1) (by simp)).push 24 [.slice none 0 0] (w.heap.size + 1 + 1 + 1) (by simp)))
 go_wp2_with fail
 refine (rKey_c HK.out.k (gS.sl (E1.out.fc 3 rfl)) (gS.sl (E1.out.fc 2 rfl))).mono ?_
 rintro e w1 ⟨rfl, hb⟩
 have E2 := Zh (E1.out.below hb)
 clear E0 E1 hb
 have b1 := E2.out.bx 2 rfl
 have c1_0 := b1.cell 0 rfl
 clear b1
 go_wp2_with fail
 refine (rvalidF v1.out (gS.sl (E2.out.fc 1 rfl))).mono ?_
 rintro e w2 ⟨rfl, hb⟩
 have E3 := Zh (E2.out.below hb)
 clear c1_0 E2 hb
 have b2 := E3.out.bx 1 rfl
 have c2_0 := b2.cell 0 rfl
 clear b2
 go_wp2_with fail
 refine (rvalidF v2.out (gS.sl (E3.out.fc 0 rfl))).mono ?_
 rintro e w3 ⟨rfl, hb⟩
 have E4 := Zh (E3.out.below hb)
 clear c2_0 E3 hb
 have b3 := E4.out.bx 3 rfl
 have c3_0 := b3.cell 0 rfl
 have c3_1 := b3.cell 1 rfl
 clear b3
 have b4 := E4.out.bx 2 rfl
 have c4_0 := b4.cell 0 rfl
 clear b4
 go_wp2_with fail
 refine (vresidue_c N M (gS.sl (E4.out.fc 3 rfl)) (gS.sl (E4.out.fc 1 rfl)) h1.out).mono ?_
 rintro e w4 ⟨rfl, hb⟩
 have E5 := Zh (E4.out.below hb)
 clear c3_0 c3_1 c4_0 E4 hb
 have b5 := E5.out.bx 3 rfl
 have c5_0 := b5.cell 0 rfl
 have c5_1 := b5.cell 1 rfl
 clear b5
 have b6 := E5.out.bx 1 rfl
 have c6_0 := b6.cell 0 rfl
 clear b6
 go_wp2_with fail
 refine (rfac_c N R (gS.sl (E5.out.fc 3 rfl)) (gS.sl (E5.out.fc 0 rfl)) (t := false) hf.out).mono ?_
 rintro e w5 ⟨rfl, hb⟩
 have E6 := Zh (E5.out.below hb)
 clear c5_0 c5_1 c6_0 E5 hb
 have b7 := E6.out.bx 0 rfl
 have c7_0 := b7.cell 0 rfl
 have f7_0 := b7.frozen 0
 clear b7
 go_wp2
 have E7 : Hid (Env (fun _ => True) w [(w.heap.size + 1 + 1 + 1, 24, [.slice none 0 0]), (w.heap.size + 1 + 1, 24, [.slice ra (len R) rk]), (w.heap.size + 1, 24, [.slice ma (len M) mk]), (w.heap.size, 26, [.slice na (len N) nk, .slice ea (len E) ek])] [.gn (gS (.slice ra (len R) rk) (digs R)), .gn (gS (.slice ma (len M) mk) (digs M)), .gn (gS (.slice ea (len E) ek) (digs E)), .gn (gS (.slice na (len N) nk) (digs N))] _) := Zh ((E6.out.set 0 0 (.slice none 0 0) rfl))
 have hfin := E7.out
 have q8 := (hfin.bx 0 rfl).cell 0 rfl
 exact bodyPost_ret (v := .tuple #[.agg #[.slice none 0 0], .int .i64 2]) (by simp [results, Tryz.results21, go_sem, q8]) rfl ⟨rfl, hfin.bel⟩
theorem rUnblind_n (N E M R : Nat) {na ea ma ra : Option Addr} {nk ek mk rk : Nat} {w : World} (hN : Sl w (.slice na (len N) nk) (digs N)) (hE : Sl w (.slice ea (len E) ek) (digs E)) (hM : Sl w (.slice ma (len M) mk) (digs M)) (hR : Sl w (.slice ra (len R) rk) (digs R)) (HK0 : Key N E) (v10 : vld (digs M) = true) (v20 : vld (digs R) = true) (h10 : decide (M < N) = true) (hf0 : (decide (0 < len R) && decide (R < N)) = true) (hg0 : decide (Nn.NatMath.invG R N = 1) = false) :
  Calls Tryz.prog 21 #[.agg #[.slice na (len N) nk, .slice ea (len E) ek], .agg #[.slice ma (len M) mk], .agg #[.slice ra (len R) rk]] w fun e w' => e = .returned (.tuple #[.agg #[.slice none 0 0], .int .i64 10]) ∧ Below w.heap.size w w' := by
 have E0 := Zh (((((Env.start (fun _ => True) w).argS hN).argS hE).argS hM).argS hR)
 clear hN hE hM hR
 go_enter Tryz.func21, Tryz.ntmps21
 have HK := Zh HK0
 have v1 := Zh v10
 have v2 := Zh v20
 have h1 := Zh h10
 have hf := Zh hf0
 have hg := Zh hg0
 clear HK0 v10 v20 h10 hf0 hg0
 have E1 := Zh (((((E0.out.push 26 [.slice na (len N) nk, .slice ea (len E) ek] (w.heap.size) (by simp)).push 24 [.slice ma (len M) mk] (w.heap.size + 1) (by simp)).push 24 [.slice ra (len R) rk] (w.heap.size + 1 + 1) (by simp)).push 24 [.slice none 0 0] (w.heap.size + 1 + 1 + 1) (by simp)))
 go_wp2_with fail
 refine (rKey_c HK.out.k (gS.sl (E1.out.fc 3 rfl)) (gS.sl (E1.out.fc 2 rfl))).mono ?_
 rintro e w1 ⟨rfl, hb⟩
 have E2 := Zh (E1.out.below hb)
 clear E0 E1 hb
 have b1 := E2.out.bx 2 rfl
 have c1_0 := b1.cell 0 rfl
 clear b1
 go_wp2_with fail
 refine (rvalidF v1.out (gS.sl (E2.out.fc 1 rfl))).mono ?_
 rintro e w2 ⟨rfl, hb⟩
 have E3 := Zh (E2.out.below hb)
 clear c1_0 E2 hb
 have b2 := E3.out.bx 1 rfl
 have c2_0 := b2.cell 0 rfl
 clear b2
 go_wp2_with fail
 refine (rvalidF v2.out (gS.sl (E3.out.fc 0 rfl))).mono ?_
 rintro e w3 ⟨rfl, hb⟩
 have E4 := Zh (E3.out.below hb)
 clear c2_0 E3 hb
 have b3 := E4.out.bx 3 rfl
 have c3_0 := b3.cell 0 rfl
 have c3_1 := b3.cell 1 rfl
 clear b3
 have b4 := E4.out.bx 2 rfl
 have c4_0 := b4.cell 0 rfl
 clear b4
 go_wp2_with fail
 refine (vresidue_c N M (gS.sl (E4.out.fc 3 rfl)) (gS.sl (E4.out.fc 1 rfl)) h1.out).mono ?_
 rintro e w4 ⟨rfl, hb⟩
 have E5 := Zh (E4.out.below hb)
 clear c3_0 c3_1 c4_0 E4 hb
 have b5 := E5.out.bx 3 rfl
 have c5_0 := b5.cell 0 rfl
 have c5_1 := b5.cell 1 rfl
 clear b5
 have b6 := E5.out.bx 1 rfl
 have c6_0 := b6.cell 0 rfl
 clear b6
 go_wp2_with fail
 refine (rfac_c N R (gS.sl (E5.out.fc 3 rfl)) (gS.sl (E5.out.fc 0 rfl)) (t := true) hf.out).mono ?_
 rintro e w5 ⟨rfl, hb⟩
 have E6 := Zh (E5.out.below hb)
 clear c5_0 c5_1 c6_0 E5 hb
 have b7 := E6.out.bx 1 rfl
 have c7_0 := b7.cell 0 rfl
 clear b7
 have b8 := E6.out.bx 3 rfl
 have c8_0 := b8.cell 0 rfl
 clear b8
 go_wp2_with fail
 refine (Nn.rInv_c (V := (Nn.NatMath.invV R N)) rfl hg.out (fac_t hf.out).2 (Nat.le_trans HK.out.lN (by omega)) (gS.sl (E6.out.fc 0 rfl)) (gS.sl (E6.out.fc 3 rfl))).mono ?_
 rintro e w6 ⟨⟨ia, ik, rfl, ih⟩, hb⟩
 have E7 := Zh ((E6.out.below hb).noteS ih.out rfl)
 clear c7_0 c8_0 E6 hb ih
 have E8 := Zh ((E7.out.push 24 [.slice ia (len (Nn.NatMath.invV R N)) ik] (w6.heap.size) (by simp)))
 have b9 := E8.out.bx 1 rfl
 have c9_0 := b9.cell 0 rfl
 have f9_0 := b9.frozen 0
 clear b9
 go_wp2
 have E9 : Hid (Env (fun _ => True) w [(w6.heap.size, 24, [.slice ia (len (Nn.NatMath.invV R N)) ik]), (w.heap.size + 1 + 1 + 1, 24, [.slice none 0 0]), (w.heap.size + 1 + 1, 24, [.slice ra (len R) rk]), (w.heap.size + 1, 24, [.slice ma (len M) mk]), (w.heap.size, 26, [.slice na (len N) nk, .slice ea (len E) ek])] [.gn (gS (.slice ia (len (Nn.NatMath.invV R N)) ik) (digs (Nn.NatMath.invV R N))), .gn (gS (.slice ra (len R) rk) (digs R)), .gn (gS (.slice ma (len M) mk) (digs M)), .gn (gS (.slice ea (len E) ek) (digs E)), .gn (gS (.slice na (len N) nk) (digs N))] _) := Zh ((E8.out.set 1 0 (.slice none 0 0) rfl))
 have hfin := E9.out
 have q10 := (hfin.bx 1 rfl).cell 0 rfl
 exact bodyPost_ret (v := .tuple #[.agg #[.slice none 0 0], .int .i64 10]) (by simp [results, Tryz.results21, go_sem, q10]) rfl ⟨rfl, hfin.bel⟩
theorem rUnblind_ok (N E M R : Nat) {na ea ma ra : Option Addr} {nk ek mk rk : Nat} {w : World} (hN : Sl w (.slice na (len N) nk) (digs N)) (hE : Sl w (.slice ea (len E) ek) (digs E)) (hM : Sl w (.slice ma (len M) mk) (digs M)) (hR : Sl w (.slice ra (len R) rk) (digs R)) (HK0 : Key N E) (v10 : vld (digs M) = true) (v20 : vld (digs R) = true) (h10 : decide (M < N) = true) (hf0 : (decide (0 < len R) && decide (R < N)) = true) (hg0 : decide (Nn.NatMath.invG R N = 1) = true) {v r : Nat} (hV0 : Nn.NatMath.invV R N = v) (hr0 : M * v % N = r) :
  Calls Tryz.prog 21 #[.agg #[.slice na (len N) nk, .slice ea (len E) ek], .agg #[.slice ma (len M) mk], .agg #[.slice ra (len R) rk]] w fun e w' => ResN r 0 e w' ∧ Below w.heap.size w w' := by
 have E0 := Zh (((((Env.start (fun _ => True) w).argS hN).argS hE).argS hM).argS hR)
 clear hN hE hM hR
 go_enter Tryz.func21, Tryz.ntmps21
 have HK := Zh HK0
 have v1 := Zh v10
 have v2 := Zh v20
 have h1 := Zh h10
 have hf := Zh hf0
 have hg := Zh hg0
 have hV := Zh hV0
 have hr := Zh hr0
 clear HK0 v10 v20 h10 hf0 hg0 hV0 hr0
 have HM := Zh (of_decide_eq_true h1.out)
 have HVN : Hid (len v ≤ 1000) := Zh (by rw [← hV.out]; exact Nat.le_trans (Nn.NatMath.len_mono (Nat.le_of_lt (Nn.NatMath.invV_lt (by have := HK.out.n15; omega)))) (Nat.le_trans HK.out.lN (by omega)))
 have E1 := Zh (((((E0.out.push 26 [.slice na (len N) nk, .slice ea (len E) ek] (w.heap.size) (by simp)).push 24 [.slice ma (len M) mk] (w.heap.size + 1) (by simp)).push 24 [.slice ra (len R) rk] (w.heap.size + 1 + 1) (by simp)).push 24 [.slice none 0 0] (w.heap.size + 1 + 1 + 1) (by simp)))
 go_wp2_with fail
 refine (rKey_c HK.out.k (gS.sl (E1.out.fc 3 rfl)) (gS.sl (E1.out.fc 2 rfl))).mono ?_
 rintro e w1 ⟨rfl, hb⟩
 have E2 := Zh (E1.out.below hb)
 clear E0 E1 hb
 have b1 := E2.out.bx 2 rfl
 have c1_0 := b1.cell 0 rfl
 clear b1
 go_wp2_with fail
 refine (rvalidF v1.out (gS.sl (E2.out.fc 1 rfl))).mono ?_
 rintro e w2 ⟨rfl, hb⟩
 have E3 := Zh (E2.out.below hb)
 clear c1_0 E2 hb
 have b2 := E3.out.bx 1 rfl
 have c2_0 := b2.cell 0 rfl
 clear b2
 go_wp2_with fail
 refine (rvalidF v2.out (gS.sl (E3.out.fc 0 rfl))).mono ?_
 rintro e w3 ⟨rfl, hb⟩
 have E4 := Zh (E3.out.below hb)
 clear c2_0 E3 hb
 have b3 := E4.out.bx 3 rfl
 have c3_0 := b3.cell 0 rfl
 have c3_1 := b3.cell 1 rfl
 clear b3
 have b4 := E4.out.bx 2 rfl
 have c4_0 := b4.cell 0 rfl
 clear b4
 go_wp2_with fail
 refine (vresidue_c N M (gS.sl (E4.out.fc 3 rfl)) (gS.sl (E4.out.fc 1 rfl)) h1.out).mono ?_
 rintro e w4 ⟨rfl, hb⟩
 have E5 := Zh (E4.out.below hb)
 clear c3_0 c3_1 c4_0 E4 hb
 have b5 := E5.out.bx 3 rfl
 have c5_0 := b5.cell 0 rfl
 have c5_1 := b5.cell 1 rfl
 clear b5
 have b6 := E5.out.bx 1 rfl
 have c6_0 := b6.cell 0 rfl
 clear b6
 go_wp2_with fail
 refine (rfac_c N R (gS.sl (E5.out.fc 3 rfl)) (gS.sl (E5.out.fc 0 rfl)) (t := true) hf.out).mono ?_
 rintro e w5 ⟨rfl, hb⟩
 have E6 := Zh (E5.out.below hb)
 clear c5_0 c5_1 c6_0 E5 hb
 have b7 := E6.out.bx 1 rfl
 have c7_0 := b7.cell 0 rfl
 clear b7
 have b8 := E6.out.bx 3 rfl
 have c8_0 := b8.cell 0 rfl
 clear b8
 go_wp2_with fail
 refine (Nn.rInv_c (V := v) hV.out hg.out (fac_t hf.out).2 (Nat.le_trans HK.out.lN (by omega)) (gS.sl (E6.out.fc 0 rfl)) (gS.sl (E6.out.fc 3 rfl))).mono ?_
 rintro e w6 ⟨⟨ia, ik, rfl, ih⟩, hb⟩
 have E7 := Zh ((E6.out.below hb).noteS ih.out rfl)
 clear c7_0 c8_0 E6 hb ih
 have E8 := Zh ((E7.out.push 24 [.slice ia (len v) ik] (w6.heap.size) (by simp)))
 have b9 := E8.out.bx 3 rfl
 have c9_0 := b9.cell 0 rfl
 clear b9
 have b10 := E8.out.bx 0 rfl
 have c10_0 := b10.cell 0 rfl
 clear b10
 have b11 := E8.out.bx 4 rfl
 have c11_0 := b11.cell 0 rfl
 clear b11
 go_wp2_with fail
 refine (Nn.rMul_c hr.out HM.out HVN.out (Nat.le_trans HK.out.lN (by omega)) (gS.sl (E8.out.fc 2 rfl)) (gS.sl (E8.out.fc 0 rfl)) (gS.sl (E8.out.fc 4 rfl))).mono ?_
 rintro e w7 ⟨⟨oa, ok, rfl, oh⟩, hb⟩
 have E9 := Zh ((E8.out.below hb).noteS oh.out rfl)
 clear c9_0 c10_0 c11_0 E7 E8 hb oh
 have b12 := E9.out.bx 1 rfl
 have c12_0 := b12.cell 0 rfl
 have f12_0 := b12.frozen 0
 clear b12
 go_wp2
 have E10 : Hid (Env (fun _ => True) w [(w6.heap.size, 24, [.slice ia (len v) ik]), (w.heap.size + 1 + 1 + 1, 24, [.slice oa (len r) ok]), (w.heap.size + 1 + 1, 24, [.slice ra (len R) rk]), (w.heap.size + 1, 24, [.slice ma (len M) mk]), (w.heap.size, 26, [.slice na (len N) nk, .slice ea (len E) ek])] [.gn (gS (.slice oa (len r) ok) (digs r)), .gn (gS (.slice ia (len v) ik) (digs v)), .gn (gS (.slice ra (len R) rk) (digs R)), .gn (gS (.slice ma (len M) mk) (digs M)), .gn (gS (.slice ea (len E) ek) (digs E)), .gn (gS (.slice na (len N) nk) (digs N))] _) := Zh ((E9.out.set 1 0 (.slice oa (len r) ok) rfl))
 have hfin := E10.out
 have q13 := (hfin.bx 1 rfl).cell 0 rfl
 exact bodyPost_ret (v := .tuple #[.agg #[.slice oa (len r) ok], .int .i64 0]) (by simp [results, Tryz.results21, go_sem, q13]) rfl ⟨⟨oa, ok, rfl, Zh (gS.sl (hfin.out 0 rfl))⟩, hfin.bel⟩
open Go.RowKit
theorem rVerify_1 (lN lE lR : List Nat) (l : List Nat) {na ea ra ba : Option Addr} {nk ek rk bk : Nat} {w : World} (hN : Sl w (.slice na lN.length nk) lN) (hE : Sl w (.slice ea lE.length ek) lE) (hR : Sl w (.slice ra lR.length rk) lR) (hk0 : kV lN lE = false) :
  Calls Tryz.prog 23 #[.agg #[.slice na lN.length nk, .slice ea lE.length ek], .slice ba l.length bk, .agg #[.slice ra lR.length rk]] w fun e w' => e = .returned (.bool false) ∧ Below w.heap.size w w' := by
 have E0 := Zh ((((Env.start (fun _ => True) w).argS hN).argS hE).argS hR)
 clear hN hE hR
 go_enter Tryz.func23, Tryz.ntmps23
 have hk := Zh hk0
 clear hk0
 go_wp2_with fail
 have E1 := Zh (((E0.out.push 26 [.slice na lN.length nk, .slice ea lE.length ek] (w.heap.size) (by simp)).push 24 [.slice ra lR.length rk] (w.heap.size + 1) (by simp)))
 clear E0
 generalize (w.alloc (.cells #[.slice na lN.length nk, .slice ea lE.length ek] 26)).alloc (.cells #[.slice ra lR.length rk] 24) = w1 at *
 have E2 := Zh E1.out.drew
 clear E1
 refine wp_regionU (S := fun w' => w'.cell? ⟨w.heap.size, 0, none⟩ = some (.slice na lN.length nk) ∧ w'.cell? ⟨w.heap.size, 1, none⟩ = some (.slice ea lE.length ek)) [] (by kernel_rfl) (⟨((E2.out.bx 1 rfl).cell 0 rfl), ((E2.out.bx 1 rfl).cell 1 rfl)⟩) (fun hHeld => ?_)
 generalize w1.drew = w2 at *
 refine uTk (i := 0) (some 7) (v := ?_) ?_ ?_
 rotate_left
 ·(intro wS hSw; (try dsimp only at hSw); go_simp; try with_reducible rfl)
 try simp only [Act.put, pq0, pq1, pq2]
 refine uRd 1 (fun KK hKK => ?_)
 go_simp
 refine (rKey_c hk.out (gS.sl (E2.out.fc 2 rfl)) (gS.sl (E2.out.fc 1 rfl))).mono ?_
 rintro e w3 ⟨rfl, hb⟩
 have E3 := Zh (E2.out.below hb)
 clear E2 hb
 (try dsimp only)
 clear hHeld
 refine hKK.out _ _ (⟨((E3.out.bx 1 rfl).cell 0 rfl), ((E3.out.bx 1 rfl).cell 1 rfl)⟩) (fun hHeld => ?_)
 clear hKK KK
 try simp only [Act.put, pq0, pq1, pq2]
 refine uTk (i := 2) (some 9) (v := ?_) ?_ ?_
 rotate_left
 ·(intro wS hSw; (try dsimp only at hSw); go_simp; try with_reducible rfl)
 try simp only [Act.put, pq0, pq1, pq2]
 refine uPs (i := 3) (some 10) ?_
 try simp only [Act.put, pq0, pq1, pq2]
 refine uPs (i := 4) (some 11) ?_
 try simp only [Act.put, pq0, pq1, pq2]
 refine uPl [5, 6] ?_
 iterate 2 (refine uTl (v := ?_) ?_ ?_; rotate_left; (focus (intro wS hSw; (try dsimp only at hSw); go_simp; try with_reducible rfl)); try simp only [Act.put, pq0, pq1, pq2])
 refine Pl.z ?_
 refine uPs (i := 7) (some 14) ?_
 try simp only [Act.put, pq0, pq1, pq2]
 refine uPs (i := 8) (some 15) ?_
 try simp only [Act.put, pq0, pq1, pq2]
 refine uPs (i := 9) (some 16) ?_
 try simp only [Act.put, pq0, pq1, pq2]
 refine uPl [10, 11] ?_
 iterate 2 (refine uTl (v := ?_) ?_ ?_; rotate_left; (focus (intro wS hSw; (try dsimp only at hSw); go_simp; try with_reducible rfl)); try simp only [Act.put, pq0, pq1, pq2])
 refine Pl.z ?_
 refine uPs (i := 12) (some 19) ?_
 try simp only [Act.put, pq0, pq1, pq2]
 refine uPs (i := 13) (some 20) ?_
 try simp only [Act.put, pq0, pq1, pq2]
 refine uPs (i := 14) (some 21) ?_
 try simp only [Act.put, pq0, pq1, pq2]
 refine uPl [15, 16] ?_
 iterate 2 (refine uTl (v := ?_) ?_ ?_; rotate_left; (focus (intro wS hSw; (try dsimp only at hSw); go_simp; try with_reducible rfl)); try simp only [Act.put, pq0, pq1, pq2])
 refine Pl.z ?_
 refine uPs (i := 17) (some 24) ?_
 try simp only [Act.put, pq0, pq1, pq2]
 refine uPs (i := 18) (some 25) ?_
 try simp only [Act.put, pq0, pq1, pq2]
 refine uPs (i := 19) (some 26) ?_
 try simp only [Act.put, pq0, pq1, pq2]
 refine uPs (i := 20) (some 27) ?_
 try simp only [Act.put, pq0, pq1, pq2]
 refine uPs (i := 21) (some 28) ?_
 try simp only [Act.put, pq0, pq1, pq2]
 refine uPs (i := 22) (some 29) ?_
 try simp only [Act.put, pq0, pq1, pq2]
 refine uPs (i := 23) (some 30) ?_
 try simp only [Act.put, pq0, pq1, pq2]
 refine uPs (i := 24) (some 31) ?_
 try simp only [Act.put, pq0, pq1, pq2]
 refine uPs (i := 25) (some 32) ?_
 try simp only [Act.put, pq0, pq1, pq2]
 refine uPs (i := 26) (some 33) ?_
 try simp only [Act.put, pq0, pq1, pq2]
 refine uPl [27, 28] ?_
 iterate 2 (refine uTl (v := ?_) ?_ ?_; rotate_left; (focus (intro wS hSw; (try dsimp only at hSw); go_simp; try with_reducible rfl)); try simp only [Act.put, pq0, pq1, pq2])
 refine Pl.z ?_
 refine uDone (by kernel_rfl) ?_ _
 have hfin := Zh E3.out.bel
 go_wp2
 go_ret
 exact ⟨rfl, hfin.out⟩
theorem rVerify_2 (N E : Nat) (lR : List Nat) (l : List Nat) {na ea ra ba : Option Addr} {nk ek rk bk : Nat} {w : World} (hN : Sl w (.slice na (len N) nk) (digs N)) (hE : Sl w (.slice ea (len E) ek) (digs E)) (hR : Sl w (.slice ra lR.length rk) lR) (HK0 : Key N E) (v10 : vld lR = false) :
  Calls Tryz.prog 23 #[.agg #[.slice na (len N) nk, .slice ea (len E) ek], .slice ba l.length bk, .agg #[.slice ra lR.length rk]] w fun e w' => e = .returned (.bool false) ∧ Below w.heap.size w w' := by
 have E0 := Zh ((((Env.start (fun _ => True) w).argS hN).argS hE).argS hR)
 clear hN hE hR
 go_enter Tryz.func23, Tryz.ntmps23
 have HK := Zh HK0
 have v1 := Zh v10
 clear HK0 v10
 go_wp2_with fail
 have E1 := Zh (((E0.out.push 26 [.slice na (len N) nk, .slice ea (len E) ek] (w.heap.size) (by simp)).push 24 [.slice ra lR.length rk] (w.heap.size + 1) (by simp)))
 clear E0
 generalize (w.alloc (.cells #[.slice na (len N) nk, .slice ea (len E) ek] 26)).alloc (.cells #[.slice ra lR.length rk] 24) = w1 at *
 have E2 := Zh E1.out.drew
 clear E1
 refine wp_regionU (S := fun w' => w'.cell? ⟨w.heap.size, 0, none⟩ = some (.slice na (len N) nk) ∧ w'.cell? ⟨w.heap.size, 1, none⟩ = some (.slice ea (len E) ek) ∧ w'.cell? ⟨w.heap.size + 1, 0, none⟩ = some (.slice ra lR.length rk)) [] (by kernel_rfl) (⟨((E2.out.bx 1 rfl).cell 0 rfl), ((E2.out.bx 1 rfl).cell 1 rfl), ((E2.out.bx 0 rfl).cell 0 rfl)⟩) (fun hHeld => ?_)
 generalize w1.drew = w2 at *
 refine uTk (i := 0) (some 7) (v := ?_) ?_ ?_
 rotate_left
 ·(intro wS hSw; (try dsimp only at hSw); go_simp; try with_reducible rfl)
 try simp only [Act.put, pq0, pq1, pq2]
 refine uRd 1 (fun KK hKK => ?_)
 go_simp
 refine (rKey_c HK.out.k (gS.sl (E2.out.fc 2 rfl)) (gS.sl (E2.out.fc 1 rfl))).mono ?_
 rintro e w3 ⟨rfl, hb⟩
 have E3 := Zh (E2.out.below hb)
 clear E2 hb
 (try dsimp only)
 clear hHeld
 refine hKK.out _ _ (⟨((E3.out.bx 1 rfl).cell 0 rfl), ((E3.out.bx 1 rfl).cell 1 rfl), ((E3.out.bx 0 rfl).cell 0 rfl)⟩) (fun hHeld => ?_)
 clear hKK KK
 try simp only [Act.put, pq0, pq1, pq2]
 refine uPl [2, 3] ?_
 iterate 2 (refine uTl (v := ?_) ?_ ?_; rotate_left; (focus (intro wS hSw; (try dsimp only at hSw); go_simp; try with_reducible rfl)); try simp only [Act.put, pq0, pq1, pq2])
 refine Pl.z ?_
 refine uRd 4 (fun KK hKK => ?_)
 go_simp
 refine (rvalidF v1.out (gS.sl (E3.out.fc 0 rfl))).mono ?_
 rintro e w4 ⟨rfl, hb⟩
 have E4 := Zh (E3.out.below hb)
 clear E3 hb
 (try dsimp only)
 clear hHeld
 refine hKK.out _ _ (⟨((E4.out.bx 1 rfl).cell 0 rfl), ((E4.out.bx 1 rfl).cell 1 rfl), ((E4.out.bx 0 rfl).cell 0 rfl)⟩) (fun hHeld => ?_)
 clear hKK KK
 try simp only [Act.put, pq0, pq1, pq2]
 refine uPl [5, 6] ?_
 iterate 2 (refine uTl (v := ?_) ?_ ?_; rotate_left; (focus (intro wS hSw; (try dsimp only at hSw); go_simp; try with_reducible rfl)); try simp only [Act.put, pq0, pq1, pq2])
 refine Pl.z ?_
 refine uPs (i := 7) (some 14) ?_
 try simp only [Act.put, pq0, pq1, pq2]
 refine uPs (i := 8) (some 15) ?_
 try simp only [Act.put, pq0, pq1, pq2]
 refine uPs (i := 9) (some 16) ?_
 try simp only [Act.put, pq0, pq1, pq2]
 refine uPl [10, 11] ?_
 iterate 2 (refine uTl (v := ?_) ?_ ?_; rotate_left; (focus (intro wS hSw; (try dsimp only at hSw); go_simp; try with_reducible rfl)); try simp only [Act.put, pq0, pq1, pq2])
 refine Pl.z ?_
 refine uPs (i := 12) (some 19) ?_
 try simp only [Act.put, pq0, pq1, pq2]
 refine uPs (i := 13) (some 20) ?_
 try simp only [Act.put, pq0, pq1, pq2]
 refine uPs (i := 14) (some 21) ?_
 try simp only [Act.put, pq0, pq1, pq2]
 refine uPl [15, 16] ?_
 iterate 2 (refine uTl (v := ?_) ?_ ?_; rotate_left; (focus (intro wS hSw; (try dsimp only at hSw); go_simp; try with_reducible rfl)); try simp only [Act.put, pq0, pq1, pq2])
 refine Pl.z ?_
 refine uPs (i := 17) (some 24) ?_
 try simp only [Act.put, pq0, pq1, pq2]
 refine uPs (i := 18) (some 25) ?_
 try simp only [Act.put, pq0, pq1, pq2]
 refine uPs (i := 19) (some 26) ?_
 try simp only [Act.put, pq0, pq1, pq2]
 refine uPs (i := 20) (some 27) ?_
 try simp only [Act.put, pq0, pq1, pq2]
 refine uPs (i := 21) (some 28) ?_
 try simp only [Act.put, pq0, pq1, pq2]
 refine uPs (i := 22) (some 29) ?_
 try simp only [Act.put, pq0, pq1, pq2]
 refine uPs (i := 23) (some 30) ?_
 try simp only [Act.put, pq0, pq1, pq2]
 refine uPs (i := 24) (some 31) ?_
 try simp only [Act.put, pq0, pq1, pq2]
 refine uPs (i := 25) (some 32) ?_
 try simp only [Act.put, pq0, pq1, pq2]
 refine uPs (i := 26) (some 33) ?_
 try simp only [Act.put, pq0, pq1, pq2]
 refine uPl [27, 28] ?_
 iterate 2 (refine uTl (v := ?_) ?_ ?_; rotate_left; (focus (intro wS hSw; (try dsimp only at hSw); go_simp; try with_reducible rfl)); try simp only [Act.put, pq0, pq1, pq2])
 refine Pl.z ?_
 refine uDone (by kernel_rfl) ?_ _
 have hfin := Zh E4.out.bel
 go_wp2
 go_ret
 exact ⟨rfl, hfin.out⟩
theorem rVerify_5 (N E R : Nat) (l : List Nat) {na ea ra ba : Option Addr} {nk ek rk bk : Nat} {w : World} (hN : Sl w (.slice na (len N) nk) (digs N)) (hE : Sl w (.slice ea (len E) ek) (digs E)) (hR : Sl w (.slice ra (len R) rk) (digs R)) (HK0 : Key N E) (v10 : vld (digs R) = true) (hm0 : 16384 < l.length) :
  Calls Tryz.prog 23 #[.agg #[.slice na (len N) nk, .slice ea (len E) ek], .slice ba l.length bk, .agg #[.slice ra (len R) rk]] w fun e w' => e = .returned (.bool false) ∧ Below w.heap.size w w' := by
 have E0 := Zh ((((Env.start (fun _ => True) w).argS hN).argS hE).argS hR)
 clear hN hE hR
 go_enter Tryz.func23, Tryz.ntmps23
 have HK := Zh HK0
 have v1 := Zh v10
 have hm := Zh hm0
 clear HK0 v10 hm0
 have q1 : decide ((l.length : Int) ≤ 16384) = false := decide_eq_false (by have := hm.out; omega)
 have q2 : decide (l.length ≤ 16384) = false := decide_eq_false (by have := hm.out; omega)
 go_wp2_with fail
 have E1 := Zh (((E0.out.push 26 [.slice na (len N) nk, .slice ea (len E) ek] (w.heap.size) (by simp)).push 24 [.slice ra (len R) rk] (w.heap.size + 1) (by simp)))
 clear E0
 generalize (w.alloc (.cells #[.slice na (len N) nk, .slice ea (len E) ek] 26)).alloc (.cells #[.slice ra (len R) rk] 24) = w1 at *
 have E2 := Zh E1.out.drew
 clear E1
 refine wp_regionU (S := fun w' => w'.cell? ⟨w.heap.size, 0, none⟩ = some (.slice na (len N) nk) ∧ w'.cell? ⟨w.heap.size, 1, none⟩ = some (.slice ea (len E) ek) ∧ w'.cell? ⟨w.heap.size + 1, 0, none⟩ = some (.slice ra (len R) rk)) [] (by kernel_rfl) (⟨((E2.out.bx 1 rfl).cell 0 rfl), ((E2.out.bx 1 rfl).cell 1 rfl), ((E2.out.bx 0 rfl).cell 0 rfl)⟩) (fun hHeld => ?_)
 generalize w1.drew = w2 at *
 refine uTk (i := 0) (some 7) (v := ?_) ?_ ?_
 rotate_left
 ·(intro wS hSw; (try dsimp only at hSw); go_simp; try with_reducible rfl)
 try simp only [Act.put, pq0, pq1, pq2]
 refine uRd 1 (fun KK hKK => ?_)
 go_simp
 refine (rKey_c HK.out.k (gS.sl (E2.out.fc 2 rfl)) (gS.sl (E2.out.fc 1 rfl))).mono ?_
 rintro e w3 ⟨rfl, hb⟩
 have E3 := Zh (E2.out.below hb)
 clear E2 hb
 (try dsimp only)
 clear hHeld
 refine hKK.out _ _ (⟨((E3.out.bx 1 rfl).cell 0 rfl), ((E3.out.bx 1 rfl).cell 1 rfl), ((E3.out.bx 0 rfl).cell 0 rfl)⟩) (fun hHeld => ?_)
 clear hKK KK
 try simp only [Act.put, pq0, pq1, pq2]
 refine uPl [2, 3] ?_
 iterate 2 (refine uTl (v := ?_) ?_ ?_; rotate_left; (focus (intro wS hSw; (try dsimp only at hSw); go_simp; try with_reducible rfl)); try simp only [Act.put, pq0, pq1, pq2])
 refine Pl.z ?_
 refine uRd 4 (fun KK hKK => ?_)
 go_simp
 refine (rvalidF v1.out (gS.sl (E3.out.fc 0 rfl))).mono ?_
 rintro e w4 ⟨rfl, hb⟩
 have E4 := Zh (E3.out.below hb)
 clear E3 hb
 (try dsimp only)
 clear hHeld
 refine hKK.out _ _ (⟨((E4.out.bx 1 rfl).cell 0 rfl), ((E4.out.bx 1 rfl).cell 1 rfl), ((E4.out.bx 0 rfl).cell 0 rfl)⟩) (fun hHeld => ?_)
 clear hKK KK
 try simp only [Act.put, pq0, pq1, pq2]
 refine uPl [5, 6, 7, 8, 9, 10, 11] ?_
 iterate 7 (refine uTl (v := ?_) ?_ ?_; rotate_left; (focus (intro wS hSw; (try dsimp only at hSw); go_simp; try with_reducible rfl)); try simp only [Act.put, pq0, pq1, pq2])
 refine Pl.z ?_
 refine uPs (i := 12) (some 19) ?_
 try simp only [Act.put, pq0, pq1, pq2]
 refine uPs (i := 13) (some 20) ?_
 try simp only [Act.put, pq0, pq1, pq2]
 refine uPs (i := 14) (some 21) ?_
 try simp only [Act.put, pq0, pq1, pq2]
 refine uPl [15, 16] ?_
 iterate 2 (refine uTl (v := ?_) ?_ ?_; rotate_left; (focus (intro wS hSw; (try dsimp only at hSw); go_simp; try with_reducible rfl)); try simp only [Act.put, pq0, pq1, pq2])
 refine Pl.z ?_
 refine uPs (i := 17) (some 24) ?_
 try simp only [Act.put, pq0, pq1, pq2]
 refine uPs (i := 18) (some 25) ?_
 try simp only [Act.put, pq0, pq1, pq2]
 refine uPs (i := 19) (some 26) ?_
 try simp only [Act.put, pq0, pq1, pq2]
 refine uPs (i := 20) (some 27) ?_
 try simp only [Act.put, pq0, pq1, pq2]
 refine uPs (i := 21) (some 28) ?_
 try simp only [Act.put, pq0, pq1, pq2]
 refine uPs (i := 22) (some 29) ?_
 try simp only [Act.put, pq0, pq1, pq2]
 refine uPs (i := 23) (some 30) ?_
 try simp only [Act.put, pq0, pq1, pq2]
 refine uPs (i := 24) (some 31) ?_
 try simp only [Act.put, pq0, pq1, pq2]
 refine uPs (i := 25) (some 32) ?_
 try simp only [Act.put, pq0, pq1, pq2]
 refine uPs (i := 26) (some 33) ?_
 try simp only [Act.put, pq0, pq1, pq2]
 refine uPl [27, 28] ?_
 iterate 2 (refine uTl (v := ?_) ?_ ?_; rotate_left; (focus (intro wS hSw; (try dsimp only at hSw); go_simp; try with_reducible rfl)); try simp only [Act.put, pq0, pq1, pq2])
 refine Pl.z ?_
 refine uDone (by kernel_rfl) ?_ _
 have hfin := Zh E4.out.bel
 go_wp2
 go_ret
 exact ⟨rfl, hfin.out⟩
theorem rVerify_3 (N E R : Nat) (l : List Nat) {na ea ra ba : Option Addr} {nk ek rk bk : Nat} {w : World} (hN : Sl w (.slice na (len N) nk) (digs N)) (hE : Sl w (.slice ea (len E) ek) (digs E)) (hR : Sl w (.slice ra (len R) rk) (digs R)) (HK0 : Key N E) (v10 : vld (digs R) = true) (hm0 : l.length ≤ 16384) (h10 : decide (R < N) = false) :
  Calls Tryz.prog 23 #[.agg #[.slice na (len N) nk, .slice ea (len E) ek], .slice ba l.length bk, .agg #[.slice ra (len R) rk]] w fun e w' => e = .returned (.bool false) ∧ Below w.heap.size w w' := by
 have E0 := Zh ((((Env.start (fun _ => True) w).argS hN).argS hE).argS hR)
 clear hN hE hR
 go_enter Tryz.func23, Tryz.ntmps23
 have HK := Zh HK0
 have v1 := Zh v10
 have hm := Zh hm0
 have h1 := Zh h10
 clear HK0 v10 hm0 h10
 have q1 : decide ((l.length : Int) ≤ 16384) = true := decide_eq_true (by have := hm.out; omega)
 have q2 : decide (l.length ≤ 16384) = true := decide_eq_true hm.out
 go_wp2_with fail
 have E1 := Zh (((E0.out.push 26 [.slice na (len N) nk, .slice ea (len E) ek] (w.heap.size) (by simp)).push 24 [.slice ra (len R) rk] (w.heap.size + 1) (by simp)))
 clear E0
 generalize (w.alloc (.cells #[.slice na (len N) nk, .slice ea (len E) ek] 26)).alloc (.cells #[.slice ra (len R) rk] 24) = w1 at *
 have E2 := Zh E1.out.drew
 clear E1
 refine wp_regionU (S := fun w' => w'.cell? ⟨w.heap.size, 0, none⟩ = some (.slice na (len N) nk) ∧ w'.cell? ⟨w.heap.size, 1, none⟩ = some (.slice ea (len E) ek) ∧ w'.cell? ⟨w.heap.size + 1, 0, none⟩ = some (.slice ra (len R) rk)) [] (by kernel_rfl) (⟨((E2.out.bx 1 rfl).cell 0 rfl), ((E2.out.bx 1 rfl).cell 1 rfl), ((E2.out.bx 0 rfl).cell 0 rfl)⟩) (fun hHeld => ?_)
 generalize w1.drew = w2 at *
 refine uTk (i := 0) (some 7) (v := ?_) ?_ ?_
 rotate_left
 ·(intro wS hSw; (try dsimp only at hSw); go_simp; try with_reducible rfl)
 try simp only [Act.put, pq0, pq1, pq2]
 refine uRd 1 (fun KK hKK => ?_)
 go_simp
 refine (rKey_c HK.out.k (gS.sl (E2.out.fc 2 rfl)) (gS.sl (E2.out.fc 1 rfl))).mono ?_
 rintro e w3 ⟨rfl, hb⟩
 have E3 := Zh (E2.out.below hb)
 clear E2 hb
 (try dsimp only)
 clear hHeld
 refine hKK.out _ _ (⟨((E3.out.bx 1 rfl).cell 0 rfl), ((E3.out.bx 1 rfl).cell 1 rfl), ((E3.out.bx 0 rfl).cell 0 rfl)⟩) (fun hHeld => ?_)
 clear hKK KK
 try simp only [Act.put, pq0, pq1, pq2]
 refine uPl [2, 3] ?_
 iterate 2 (refine uTl (v := ?_) ?_ ?_; rotate_left; (focus (intro wS hSw; (try dsimp only at hSw); go_simp; try with_reducible rfl)); try simp only [Act.put, pq0, pq1, pq2])
 refine Pl.z ?_
 refine uRd 4 (fun KK hKK => ?_)
 go_simp
 refine (rvalidF v1.out (gS.sl (E3.out.fc 0 rfl))).mono ?_
 rintro e w4 ⟨rfl, hb⟩
 have E4 := Zh (E3.out.below hb)
 clear E3 hb
 (try dsimp only)
 clear hHeld
 refine hKK.out _ _ (⟨((E4.out.bx 1 rfl).cell 0 rfl), ((E4.out.bx 1 rfl).cell 1 rfl), ((E4.out.bx 0 rfl).cell 0 rfl)⟩) (fun hHeld => ?_)
 clear hKK KK
 try simp only [Act.put, pq0, pq1, pq2]
 refine uPl [5, 6, 7, 8, 9, 10, 11, 12, 13] ?_
 iterate 9 (refine uTl (v := ?_) ?_ ?_; rotate_left; (focus (intro wS hSw; (try dsimp only at hSw); go_simp; try with_reducible rfl)); try simp only [Act.put, pq0, pq1, pq2])
 refine Pl.z ?_
 refine uRd 14 (fun KK hKK => ?_)
 go_simp
 refine (vresidue_c N R (gS.sl (E4.out.fc 2 rfl)) (gS.sl (E4.out.fc 0 rfl)) h1.out).mono ?_
 rintro e w5 ⟨rfl, hb⟩
 have E5 := Zh (E4.out.below hb)
 clear E4 hb
 (try dsimp only)
 clear hHeld
 refine hKK.out _ _ (⟨((E5.out.bx 1 rfl).cell 0 rfl), ((E5.out.bx 1 rfl).cell 1 rfl), ((E5.out.bx 0 rfl).cell 0 rfl)⟩) (fun hHeld => ?_)
 clear hKK KK
 try simp only [Act.put, pq0, pq1, pq2]
 refine uPl [15, 16] ?_
 iterate 2 (refine uTl (v := ?_) ?_ ?_; rotate_left; (focus (intro wS hSw; (try dsimp only at hSw); go_simp; try with_reducible rfl)); try simp only [Act.put, pq0, pq1, pq2])
 refine Pl.z ?_
 refine uPs (i := 17) (some 24) ?_
 try simp only [Act.put, pq0, pq1, pq2]
 refine uPs (i := 18) (some 25) ?_
 try simp only [Act.put, pq0, pq1, pq2]
 refine uPs (i := 19) (some 26) ?_
 try simp only [Act.put, pq0, pq1, pq2]
 refine uPs (i := 20) (some 27) ?_
 try simp only [Act.put, pq0, pq1, pq2]
 refine uPs (i := 21) (some 28) ?_
 try simp only [Act.put, pq0, pq1, pq2]
 refine uPs (i := 22) (some 29) ?_
 try simp only [Act.put, pq0, pq1, pq2]
 refine uPs (i := 23) (some 30) ?_
 try simp only [Act.put, pq0, pq1, pq2]
 refine uPs (i := 24) (some 31) ?_
 try simp only [Act.put, pq0, pq1, pq2]
 refine uPs (i := 25) (some 32) ?_
 try simp only [Act.put, pq0, pq1, pq2]
 refine uPs (i := 26) (some 33) ?_
 try simp only [Act.put, pq0, pq1, pq2]
 refine uPl [27, 28] ?_
 iterate 2 (refine uTl (v := ?_) ?_ ?_; rotate_left; (focus (intro wS hSw; (try dsimp only at hSw); go_simp; try with_reducible rfl)); try simp only [Act.put, pq0, pq1, pq2])
 refine Pl.z ?_
 refine uDone (by kernel_rfl) ?_ _
 have hfin := Zh E5.out.bel
 go_wp2
 go_ret
 exact ⟨rfl, hfin.out⟩
theorem rVerify_ok (N E R : Nat) (l : List Nat) {na ea ra ba : Option Addr} {nk ek rk bk : Nat} {w : World} (hN : Sl w (.slice na (len N) nk) (digs N)) (hE : Sl w (.slice ea (len E) ek) (digs E)) (hR : Sl w (.slice ra (len R) rk) (digs R)) (hM : Fct.at w (fun _ => True) (.bs (.slice ba l.length bk) l)) (HK0 : Key N E) (v10 : vld (digs R) = true) (hm0 : l.length ≤ 16384) (h10 : decide (R < N) = true) {h p : Nat} (hp0 : R ^ E % N = p) (hh0 : hshN l % N = h) {t : Bool} (hq0 : decide (p = h) = t) :
  Calls Tryz.prog 23 #[.agg #[.slice na (len N) nk, .slice ea (len E) ek], .slice ba l.length bk, .agg #[.slice ra (len R) rk]] w fun e w' => e = .returned (.bool t) ∧ Below w.heap.size w w' := by
 have E0 := Zh (((((Env.start (fun _ => True) w).arg (.bs (.slice ba l.length bk) l) hM).argS hN).argS hE).argS hR)
 clear hN hE hR hM
 go_enter Tryz.func23, Tryz.ntmps23
 have HK := Zh HK0
 have v1 := Zh v10
 have hm := Zh hm0
 have h1 := Zh h10
 have hp := Zh hp0
 have hh := Zh hh0
 have hq := Zh hq0
 clear HK0 v10 hm0 h10 hp0 hh0 hq0
 have q1 : decide ((l.length : Int) ≤ 16384) = true := decide_eq_true (by have := hm.out; omega)
 have q2 : decide (l.length ≤ 16384) = true := decide_eq_true hm.out
 have HR := Zh (of_decide_eq_true h1.out)
 go_wp2_with fail
 have E1 := Zh (((E0.out.push 26 [.slice na (len N) nk, .slice ea (len E) ek] (w.heap.size) (by simp)).push 24 [.slice ra (len R) rk] (w.heap.size + 1) (by simp)))
 clear E0
 generalize (w.alloc (.cells #[.slice na (len N) nk, .slice ea (len E) ek] 26)).alloc (.cells #[.slice ra (len R) rk] 24) = w1 at *
 have E2 := Zh E1.out.drew
 clear E1
 refine wp_regionU (S := fun w' => w'.cell? ⟨w.heap.size, 0, none⟩ = some (.slice na (len N) nk) ∧ w'.cell? ⟨w.heap.size, 1, none⟩ = some (.slice ea (len E) ek) ∧ w'.cell? ⟨w.heap.size + 1, 0, none⟩ = some (.slice ra (len R) rk)) [] (by kernel_rfl) (⟨((E2.out.bx 1 rfl).cell 0 rfl), ((E2.out.bx 1 rfl).cell 1 rfl), ((E2.out.bx 0 rfl).cell 0 rfl)⟩) (fun hHeld => ?_)
 generalize w1.drew = w2 at *
 refine uTk (i := 0) (some 7) (v := ?_) ?_ ?_
 rotate_left
 ·(intro wS hSw; (try dsimp only at hSw); go_simp; try with_reducible rfl)
 try simp only [Act.put, pq0, pq1, pq2]
 refine uRd 1 (fun KK hKK => ?_)
 go_simp
 refine (rKey_c HK.out.k (gS.sl (E2.out.fc 2 rfl)) (gS.sl (E2.out.fc 1 rfl))).mono ?_
 rintro e w3 ⟨rfl, hb⟩
 have E3 := Zh (E2.out.below hb)
 clear E2 hb
 (try dsimp only)
 clear hHeld
 refine hKK.out _ _ (⟨((E3.out.bx 1 rfl).cell 0 rfl), ((E3.out.bx 1 rfl).cell 1 rfl), ((E3.out.bx 0 rfl).cell 0 rfl)⟩) (fun hHeld => ?_)
 clear hKK KK
 try simp only [Act.put, pq0, pq1, pq2]
 refine uPl [2, 3] ?_
 iterate 2 (refine uTl (v := ?_) ?_ ?_; rotate_left; (focus (intro wS hSw; (try dsimp only at hSw); go_simp; try with_reducible rfl)); try simp only [Act.put, pq0, pq1, pq2])
 refine Pl.z ?_
 refine uRd 4 (fun KK hKK => ?_)
 go_simp
 refine (rvalidF v1.out (gS.sl (E3.out.fc 0 rfl))).mono ?_
 rintro e w4 ⟨rfl, hb⟩
 have E4 := Zh (E3.out.below hb)
 clear E3 hb
 (try dsimp only)
 clear hHeld
 refine hKK.out _ _ (⟨((E4.out.bx 1 rfl).cell 0 rfl), ((E4.out.bx 1 rfl).cell 1 rfl), ((E4.out.bx 0 rfl).cell 0 rfl)⟩) (fun hHeld => ?_)
 clear hKK KK
 try simp only [Act.put, pq0, pq1, pq2]
 refine uPl [5, 6, 7, 8, 9, 10, 11, 12, 13] ?_
 iterate 9 (refine uTl (v := ?_) ?_ ?_; rotate_left; (focus (intro wS hSw; (try dsimp only at hSw); go_simp; try with_reducible rfl)); try simp only [Act.put, pq0, pq1, pq2])
 refine Pl.z ?_
 refine uRd 14 (fun KK hKK => ?_)
 go_simp
 refine (vresidue_c N R (gS.sl (E4.out.fc 2 rfl)) (gS.sl (E4.out.fc 0 rfl)) h1.out).mono ?_
 rintro e w5 ⟨rfl, hb⟩
 have E5 := Zh (E4.out.below hb)
 clear E4 hb
 (try dsimp only)
 clear hHeld
 refine hKK.out _ _ (⟨((E5.out.bx 1 rfl).cell 0 rfl), ((E5.out.bx 1 rfl).cell 1 rfl), ((E5.out.bx 0 rfl).cell 0 rfl)⟩) (fun hHeld => ?_)
 clear hKK KK
 try simp only [Act.put, pq0, pq1, pq2]
 refine uPl [15, 16, 17, 18, 19, 20, 21, 23, 24] ?_
 iterate 9 (refine uTl (v := ?_) ?_ ?_; rotate_left; (focus (intro wS hSw; (try dsimp only at hSw); go_simp; try with_reducible rfl)); try simp only [Act.put, pq0, pq1, pq2])
 refine Pl.z ?_
 refine uRd 22 (fun KK hKK => ?_)
 go_simp
 refine (Nn.rPow_c hp.out (Nat.le_trans HK.out.lE (by omega)) HR.out (Nat.le_trans HK.out.lN (by omega)) (gS.sl (E5.out.fc 0 rfl)) (gS.sl (E5.out.fc 1 rfl)) (gS.sl (E5.out.fc 2 rfl))).mono ?_
 rintro e w6 ⟨⟨za, zk, rfl, zh⟩, hb⟩
 have E6 := Zh ((E5.out.below hb).noteS zh.out rfl)
 clear E5 hb zh
 (try dsimp only)
 clear hHeld
 refine hKK.out _ _ (⟨((E6.out.bx 1 rfl).cell 0 rfl), ((E6.out.bx 1 rfl).cell 1 rfl), ((E6.out.bx 0 rfl).cell 0 rfl)⟩) (fun hHeld => ?_)
 clear hKK KK
 try simp only [Act.put, pq0, pq1, pq2]
 refine uRd 25 (fun KK hKK => ?_)
 go_simp
 refine (rhash_c N E h l (gS.sl (E6.out.fc 3 rfl)) (gS.sl (E6.out.fc 2 rfl)) (Bs.any (E6.out.fc 4 rfl)) HK.out hm.out hh.out).mono ?_
 rintro e w7 ⟨⟨qa, qk, rfl, qh⟩, hb⟩
 have E7 := Zh ((E6.out.below hb).noteS qh.out rfl)
 clear E6 hb qh
 (try dsimp only)
 clear hHeld
 refine hKK.out _ _ (⟨((E7.out.bx 1 rfl).cell 0 rfl), ((E7.out.bx 1 rfl).cell 1 rfl), ((E7.out.bx 0 rfl).cell 0 rfl)⟩) (fun hHeld => ?_)
 clear hKK KK
 try simp only [Act.put, pq0, pq1, pq2]
 refine uRd 26 (fun KK hKK => ?_)
 go_simp
 refine (Nn.rSame_c hq.out (gS.sl (E7.out.fc 1 rfl)) (gS.sl (E7.out.fc 0 rfl))).mono ?_
 rintro e w8 ⟨rfl, hb⟩
 have E8 := Zh (E7.out.below hb)
 clear E7 hb
 (try dsimp only)
 clear hHeld
 refine hKK.out _ _ (⟨((E8.out.bx 1 rfl).cell 0 rfl), ((E8.out.bx 1 rfl).cell 1 rfl), ((E8.out.bx 0 rfl).cell 0 rfl)⟩) (fun hHeld => ?_)
 clear hKK KK
 try simp only [Act.put, pq0, pq1, pq2]
 refine uPl [27, 28] ?_
 iterate 2 (refine uTl (v := ?_) ?_ ?_; rotate_left; (focus (intro wS hSw; (try dsimp only at hSw); go_simp; try with_reducible rfl)); try simp only [Act.put, pq0, pq1, pq2])
 refine Pl.z ?_
 refine uDone (by kernel_rfl) ?_ _
 have hfin := Zh E8.out.bel
 go_wp2
 go_ret
 exact ⟨rfl, hfin.out⟩
end Go.Proofs.YtikopkkebdobdaaGreatDoor

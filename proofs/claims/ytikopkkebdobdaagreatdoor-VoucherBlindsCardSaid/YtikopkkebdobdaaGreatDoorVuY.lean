/- Picked declarations of VsY, VsZ. -/
import Derived.Test.YtikopkkebdobdaaGreatDoorVuU
import Derived.Test.YtikopkkebdobdaaGreatDoorVuQ
namespace Go.Proofs.YtikopkkebdobdaaGreatDoor
set_option linter.unusedVariables false
set_option linter.unusedSimpArgs false
open Go.RowKit
set_option maxRecDepth 100000 in
set_option maxHeartbeats 2000000 in
theorem rfac_0 (K : Nat) {pa qa xa : Option Addr} {pk qn qk xk : Nat} {w : World} (ha : Nn.Sl w (.slice pa (Nn.NatMath.len K) pk) (Nn.NatMath.digs K))  :
    Calls Tryz.prog 47 #[.agg #[.slice pa (Nn.NatMath.len K) pk, .slice qa qn qk], .agg #[.slice xa 0 xk]] w fun e w' => e = .returned (.bool false) ∧ Below w.heap.size w w' := by
  have E0 := Lib.hid ((Env.start (fun _ => True) w).argS ha)
  clear ha
  go_enter Tryz.func47, Tryz.ntmps47
  have E1 := Lib.hid (((E0.out.push 26 [.slice pa (Nn.NatMath.len K) pk, .slice qa qn qk] (w.heap.size) (by simp)).push 24 [.slice xa 0 xk] (w.heap.size + 1) (by simp)))
  have hfin := Lib.hid E1.out.bel
  go_wp2
  go_ret
  exact ⟨rfl, hfin.out⟩
set_option maxRecDepth 100000 in
set_option maxHeartbeats 2000000 in
theorem rfac_1 (K X : Nat) {pa qa xa : Option Addr} {pk qn qk xk : Nat} {w : World} (ha : Nn.Sl w (.slice pa (Nn.NatMath.len K) pk) (Nn.NatMath.digs K)) (hx : Nn.Sl w (.slice xa (Nn.NatMath.len X) xk) (Nn.NatMath.digs X)) {t : Bool} (ht0 : decide (X < K) = t) (h0 : 0 < Nn.NatMath.len X) :
    Calls Tryz.prog 47 #[.agg #[.slice pa (Nn.NatMath.len K) pk, .slice qa qn qk], .agg #[.slice xa (Nn.NatMath.len X) xk]] w fun e w' => e = .returned (.bool t) ∧ Below w.heap.size w w' := by
  have E0 := Lib.hid (((Env.start (fun _ => True) w).argS ha).argS hx)
  clear ha hx
  go_enter Tryz.func47, Tryz.ntmps47
  have d1 : decide (0 < Nn.NatMath.len X) = true := decide_eq_true h0
  have d2 : decide ((0 : Int) < (Nn.NatMath.len X : Int)) = true := decide_eq_true (by omega)
  have HT := Lib.hid ht0
  clear ht0 h0
  have E1 := Lib.hid (((E0.out.push 26 [.slice pa (Nn.NatMath.len K) pk, .slice qa qn qk] (w.heap.size) (by simp)).push 24 [.slice xa (Nn.NatMath.len X) xk] (w.heap.size + 1) (by simp)))
  go_wp2_with fail
  refine (vresidue_c K X (gS.sl (E1.out.fc 1 rfl)) (gS.sl (E1.out.fc 0 rfl)) HT.out).mono ?_
  rintro e w1 ⟨rfl, hb⟩
  have E2 := Lib.hid (E1.out.below hb)
  clear E0 E1 hb
  have hfin := Lib.hid E2.out.bel
  go_wp2
  go_ret
  exact ⟨rfl, hfin.out⟩
theorem len_pos' {X : Nat} : 0 < Nn.NatMath.len X ↔ X ≠ 0 := by rw [Nat.pos_iff_ne_zero, Ne, Nn.NatMath.len_eq_zero]
/-- a factor is no zero and below the modulus -/
theorem rfac_c (K X : Nat) {pa qa xa : Option Addr} {pk qn qk xk : Nat} {w : World} (ha : Nn.Sl w (.slice pa (Nn.NatMath.len K) pk) (Nn.NatMath.digs K)) (hx : Nn.Sl w (.slice xa (Nn.NatMath.len X) xk) (Nn.NatMath.digs X)) {t : Bool} (ht : (decide (0 < Nn.NatMath.len X) && decide (X < K)) = t) :
    Calls Tryz.prog 47 #[.agg #[.slice pa (Nn.NatMath.len K) pk, .slice qa qn qk], .agg #[.slice xa (Nn.NatMath.len X) xk]] w fun e w' => e = .returned (.bool t) ∧ Below w.heap.size w w' := by
  by_cases h0 : 0 < Nn.NatMath.len X
  · rw [decide_eq_true h0, Bool.true_and] at ht
    exact rfac_1 K X ha hx ht h0
  · rw [decide_eq_false h0, Bool.false_and] at ht
    subst ht
    have h1 : Nn.NatMath.len X = 0 := by omega
    rw [h1]
    exact rfac_0 K ha
open Go.RowKit
set_option maxRecDepth 100000 in
set_option maxHeartbeats 4000000 in
theorem rBlind_1 (lN lE lR : List Nat) (l : List Nat) {na ea ra ba : Option Addr} {nk ek rk bk : Nat} {w : World} (hN : Nn.Sl w (.slice na lN.length nk) lN) (hE : Nn.Sl w (.slice ea lE.length ek) lE) (hR : Nn.Sl w (.slice ra lR.length rk) lR) (hk0 : kV lN lE = false) :
    Calls Tryz.prog 15 #[.agg #[.slice na lN.length nk, .slice ea lE.length ek], .slice ba l.length bk, .agg #[.slice ra lR.length rk]] w fun e w' => e = .returned (.tuple #[.agg #[.slice none 0 0], .int .i64 1]) ∧ Below w.heap.size w w' := by
  have E0 := Lib.hid ((((Env.start (fun _ => True) w).argS hN).argS hE).argS hR)
  clear hN hE hR
  go_enter Tryz.func15, Tryz.ntmps15
  have hk := Lib.hid hk0
  clear hk0
  have E1 := Lib.hid ((((E0.out.push 26 [.slice na lN.length nk, .slice ea lE.length ek] (w.heap.size) (by simp)).push 24 [.slice ra lR.length rk] (w.heap.size + 1) (by simp)).push 24 [.slice none 0 0] (w.heap.size + 1 + 1) (by simp)))
  go_wp2_with fail
  refine (rKey_c hk.out (gS.sl (E1.out.fc 2 rfl)) (gS.sl (E1.out.fc 1 rfl))).mono ?_
  rintro e w1 ⟨rfl, hb⟩
  have E2 := Lib.hid (E1.out.below hb)
  clear E0 E1 hb
  have b1 := E2.out.bx 0 rfl
  have c1_0 := b1.cell 0 rfl
  have f1_0 := b1.frozen 0
  clear b1
  go_wp2
  have E3 : Hid (Env (fun _ => True) w [(w.heap.size + 1 + 1, 24, [.slice none 0 0]), (w.heap.size + 1, 24, [.slice ra lR.length rk]), (w.heap.size, 26, [.slice na lN.length nk, .slice ea lE.length ek])] [.gn (gS (.slice ra lR.length rk) lR), .gn (gS (.slice ea lE.length ek) lE), .gn (gS (.slice na lN.length nk) lN)] _) := Lib.hid ((E2.out.set 0 0 (.slice none 0 0) rfl))
  have hfin := E3.out
  have q2 := (hfin.bx 0 rfl).cell 0 rfl
  exact bodyPost_ret (v := .tuple #[.agg #[.slice none 0 0], .int .i64 1]) (by simp [results, Tryz.results15, go_sem, q2]) rfl ⟨rfl, hfin.bel⟩
set_option maxRecDepth 100000 in
set_option maxHeartbeats 4000000 in
theorem rBlind_2 (N E : Nat) (lR : List Nat) (l : List Nat) {na ea ra ba : Option Addr} {nk ek rk bk : Nat} {w : World} (hN : Nn.Sl w (.slice na (Nn.NatMath.len N) nk) (Nn.NatMath.digs N)) (hE : Nn.Sl w (.slice ea (Nn.NatMath.len E) ek) (Nn.NatMath.digs E)) (hR : Nn.Sl w (.slice ra lR.length rk) lR) (HK0 : Key N E) (v10 : Nn.vld lR = false) :
    Calls Tryz.prog 15 #[.agg #[.slice na (Nn.NatMath.len N) nk, .slice ea (Nn.NatMath.len E) ek], .slice ba l.length bk, .agg #[.slice ra lR.length rk]] w fun e w' => e = .returned (.tuple #[.agg #[.slice none 0 0], .int .i64 1]) ∧ Below w.heap.size w w' := by
  have E0 := Lib.hid ((((Env.start (fun _ => True) w).argS hN).argS hE).argS hR)
  clear hN hE hR
  go_enter Tryz.func15, Tryz.ntmps15
  have HK := Lib.hid HK0
  have v1 := Lib.hid v10
  clear HK0 v10
  have E1 := Lib.hid ((((E0.out.push 26 [.slice na (Nn.NatMath.len N) nk, .slice ea (Nn.NatMath.len E) ek] (w.heap.size) (by simp)).push 24 [.slice ra lR.length rk] (w.heap.size + 1) (by simp)).push 24 [.slice none 0 0] (w.heap.size + 1 + 1) (by simp)))
  go_wp2_with fail
  refine (rKey_c HK.out.k (gS.sl (E1.out.fc 2 rfl)) (gS.sl (E1.out.fc 1 rfl))).mono ?_
  rintro e w1 ⟨rfl, hb⟩
  have E2 := Lib.hid (E1.out.below hb)
  clear E0 E1 hb
  have b1 := E2.out.bx 1 rfl
  have c1_0 := b1.cell 0 rfl
  clear b1
  go_wp2_with fail
  refine (rvalidF v1.out (gS.sl (E2.out.fc 0 rfl))).mono ?_
  rintro e w2 ⟨rfl, hb⟩
  have E3 := Lib.hid (E2.out.below hb)
  clear c1_0 E2 hb
  have b2 := E3.out.bx 0 rfl
  have c2_0 := b2.cell 0 rfl
  have f2_0 := b2.frozen 0
  clear b2
  go_wp2
  have E4 : Hid (Env (fun _ => True) w [(w.heap.size + 1 + 1, 24, [.slice none 0 0]), (w.heap.size + 1, 24, [.slice ra lR.length rk]), (w.heap.size, 26, [.slice na (Nn.NatMath.len N) nk, .slice ea (Nn.NatMath.len E) ek])] [.gn (gS (.slice ra lR.length rk) lR), .gn (gS (.slice ea (Nn.NatMath.len E) ek) (Nn.NatMath.digs E)), .gn (gS (.slice na (Nn.NatMath.len N) nk) (Nn.NatMath.digs N))] _) := Lib.hid ((E3.out.set 0 0 (.slice none 0 0) rfl))
  have hfin := E4.out
  have q3 := (hfin.bx 0 rfl).cell 0 rfl
  exact bodyPost_ret (v := .tuple #[.agg #[.slice none 0 0], .int .i64 1]) (by simp [results, Tryz.results15, go_sem, q3]) rfl ⟨rfl, hfin.bel⟩
set_option maxRecDepth 100000 in
set_option maxHeartbeats 4000000 in
theorem rBlind_5 (N E R : Nat) (l : List Nat) {na ea ra ba : Option Addr} {nk ek rk bk : Nat} {w : World} (hN : Nn.Sl w (.slice na (Nn.NatMath.len N) nk) (Nn.NatMath.digs N)) (hE : Nn.Sl w (.slice ea (Nn.NatMath.len E) ek) (Nn.NatMath.digs E)) (hR : Nn.Sl w (.slice ra (Nn.NatMath.len R) rk) (Nn.NatMath.digs R)) (HK0 : Key N E) (v10 : Nn.vld (Nn.NatMath.digs R) = true) (hm0 : 16384 < l.length) :
    Calls Tryz.prog 15 #[.agg #[.slice na (Nn.NatMath.len N) nk, .slice ea (Nn.NatMath.len E) ek], .slice ba l.length bk, .agg #[.slice ra (Nn.NatMath.len R) rk]] w fun e w' => e = .returned (.tuple #[.agg #[.slice none 0 0], .int .i64 5]) ∧ Below w.heap.size w w' := by
  have E0 := Lib.hid ((((Env.start (fun _ => True) w).argS hN).argS hE).argS hR)
  clear hN hE hR
  go_enter Tryz.func15, Tryz.ntmps15
  have HK := Lib.hid HK0
  have v1 := Lib.hid v10
  have hm := Lib.hid hm0
  clear HK0 v10 hm0
  have q1 : decide ((16384 : Int) < (l.length : Int)) = true := decide_eq_true (by have := hm.out; omega)
  have q2 : decide (16384 < l.length) = true := decide_eq_true (by have := hm.out; omega)
  have E1 := Lib.hid ((((E0.out.push 26 [.slice na (Nn.NatMath.len N) nk, .slice ea (Nn.NatMath.len E) ek] (w.heap.size) (by simp)).push 24 [.slice ra (Nn.NatMath.len R) rk] (w.heap.size + 1) (by simp)).push 24 [.slice none 0 0] (w.heap.size + 1 + 1) (by simp)))
  go_wp2_with fail
  refine (rKey_c HK.out.k (gS.sl (E1.out.fc 2 rfl)) (gS.sl (E1.out.fc 1 rfl))).mono ?_
  rintro e w1 ⟨rfl, hb⟩
  have E2 := Lib.hid (E1.out.below hb)
  clear E0 E1 hb
  have b1 := E2.out.bx 1 rfl
  have c1_0 := b1.cell 0 rfl
  clear b1
  go_wp2_with fail
  refine (rvalidF v1.out (gS.sl (E2.out.fc 0 rfl))).mono ?_
  rintro e w2 ⟨rfl, hb⟩
  have E3 := Lib.hid (E2.out.below hb)
  clear c1_0 E2 hb
  have b2 := E3.out.bx 0 rfl
  have c2_0 := b2.cell 0 rfl
  have f2_0 := b2.frozen 0
  clear b2
  go_wp2
  have E4 : Hid (Env (fun _ => True) w [(w.heap.size + 1 + 1, 24, [.slice none 0 0]), (w.heap.size + 1, 24, [.slice ra (Nn.NatMath.len R) rk]), (w.heap.size, 26, [.slice na (Nn.NatMath.len N) nk, .slice ea (Nn.NatMath.len E) ek])] [.gn (gS (.slice ra (Nn.NatMath.len R) rk) (Nn.NatMath.digs R)), .gn (gS (.slice ea (Nn.NatMath.len E) ek) (Nn.NatMath.digs E)), .gn (gS (.slice na (Nn.NatMath.len N) nk) (Nn.NatMath.digs N))] _) := Lib.hid ((E3.out.set 0 0 (.slice none 0 0) rfl))
  have hfin := E4.out
  have q3 := (hfin.bx 0 rfl).cell 0 rfl
  exact bodyPost_ret (v := .tuple #[.agg #[.slice none 0 0], .int .i64 5]) (by simp [results, Tryz.results15, go_sem, q3]) rfl ⟨rfl, hfin.bel⟩
set_option maxRecDepth 100000 in
set_option maxHeartbeats 4000000 in
theorem rBlind_3 (N E R : Nat) (l : List Nat) {na ea ra ba : Option Addr} {nk ek rk bk : Nat} {w : World} (hN : Nn.Sl w (.slice na (Nn.NatMath.len N) nk) (Nn.NatMath.digs N)) (hE : Nn.Sl w (.slice ea (Nn.NatMath.len E) ek) (Nn.NatMath.digs E)) (hR : Nn.Sl w (.slice ra (Nn.NatMath.len R) rk) (Nn.NatMath.digs R)) (HK0 : Key N E) (v10 : Nn.vld (Nn.NatMath.digs R) = true) (hm0 : l.length ≤ 16384) (hf0 : (decide (0 < Nn.NatMath.len R) && decide (R < N)) = false)  :
    Calls Tryz.prog 15 #[.agg #[.slice na (Nn.NatMath.len N) nk, .slice ea (Nn.NatMath.len E) ek], .slice ba l.length bk, .agg #[.slice ra (Nn.NatMath.len R) rk]] w fun e w' => e = .returned (.tuple #[.agg #[.slice none 0 0], .int .i64 2]) ∧ Below w.heap.size w w' := by
  have E0 := Lib.hid ((((Env.start (fun _ => True) w).argS hN).argS hE).argS hR)
  clear hN hE hR
  go_enter Tryz.func15, Tryz.ntmps15
  have HK := Lib.hid HK0
  have v1 := Lib.hid v10
  have hm := Lib.hid hm0
  have hf := Lib.hid hf0
  clear HK0 v10 hm0 hf0
  have q1 : decide ((16384 : Int) < (l.length : Int)) = false := decide_eq_false (by have := hm.out; omega)
  have q2 : decide (16384 < l.length) = false := decide_eq_false (by have := hm.out; omega)
  have E1 := Lib.hid ((((E0.out.push 26 [.slice na (Nn.NatMath.len N) nk, .slice ea (Nn.NatMath.len E) ek] (w.heap.size) (by simp)).push 24 [.slice ra (Nn.NatMath.len R) rk] (w.heap.size + 1) (by simp)).push 24 [.slice none 0 0] (w.heap.size + 1 + 1) (by simp)))
  go_wp2_with fail
  refine (rKey_c HK.out.k (gS.sl (E1.out.fc 2 rfl)) (gS.sl (E1.out.fc 1 rfl))).mono ?_
  rintro e w1 ⟨rfl, hb⟩
  have E2 := Lib.hid (E1.out.below hb)
  clear E0 E1 hb
  have b1 := E2.out.bx 1 rfl
  have c1_0 := b1.cell 0 rfl
  clear b1
  go_wp2_with fail
  refine (rvalidF v1.out (gS.sl (E2.out.fc 0 rfl))).mono ?_
  rintro e w2 ⟨rfl, hb⟩
  have E3 := Lib.hid (E2.out.below hb)
  clear c1_0 E2 hb
  have b2 := E3.out.bx 2 rfl
  have c2_0 := b2.cell 0 rfl
  have c2_1 := b2.cell 1 rfl
  clear b2
  have b3 := E3.out.bx 1 rfl
  have c3_0 := b3.cell 0 rfl
  clear b3
  go_wp2_with fail
  refine (rfac_c N R (gS.sl (E3.out.fc 2 rfl)) (gS.sl (E3.out.fc 0 rfl)) (t := false) hf.out).mono ?_
  rintro e w3 ⟨rfl, hb⟩
  have E4 := Lib.hid (E3.out.below hb)
  clear c2_0 c2_1 c3_0 E3 hb
  have b4 := E4.out.bx 0 rfl
  have c4_0 := b4.cell 0 rfl
  have f4_0 := b4.frozen 0
  clear b4
  go_wp2
  have E5 : Hid (Env (fun _ => True) w [(w.heap.size + 1 + 1, 24, [.slice none 0 0]), (w.heap.size + 1, 24, [.slice ra (Nn.NatMath.len R) rk]), (w.heap.size, 26, [.slice na (Nn.NatMath.len N) nk, .slice ea (Nn.NatMath.len E) ek])] [.gn (gS (.slice ra (Nn.NatMath.len R) rk) (Nn.NatMath.digs R)), .gn (gS (.slice ea (Nn.NatMath.len E) ek) (Nn.NatMath.digs E)), .gn (gS (.slice na (Nn.NatMath.len N) nk) (Nn.NatMath.digs N))] _) := Lib.hid ((E4.out.set 0 0 (.slice none 0 0) rfl))
  have hfin := E5.out
  have q5 := (hfin.bx 0 rfl).cell 0 rfl
  exact bodyPost_ret (v := .tuple #[.agg #[.slice none 0 0], .int .i64 2]) (by simp [results, Tryz.results15, go_sem, q5]) rfl ⟨rfl, hfin.bel⟩
set_option maxRecDepth 100000 in
set_option maxHeartbeats 4000000 in
theorem rBlind_n (N E R : Nat) (l : List Nat) {na ea ra ba : Option Addr} {nk ek rk bk : Nat} {w : World} (hN : Nn.Sl w (.slice na (Nn.NatMath.len N) nk) (Nn.NatMath.digs N)) (hE : Nn.Sl w (.slice ea (Nn.NatMath.len E) ek) (Nn.NatMath.digs E)) (hR : Nn.Sl w (.slice ra (Nn.NatMath.len R) rk) (Nn.NatMath.digs R)) (HK0 : Key N E) (v10 : Nn.vld (Nn.NatMath.digs R) = true) (hm0 : l.length ≤ 16384) (hf0 : 0 < Nn.NatMath.len R ∧ R < N) (lR0 : Nn.NatMath.len R ≤ 64) (hg0 : decide (Nat.gcd R N = 1) = false) :
    Calls Tryz.prog 15 #[.agg #[.slice na (Nn.NatMath.len N) nk, .slice ea (Nn.NatMath.len E) ek], .slice ba l.length bk, .agg #[.slice ra (Nn.NatMath.len R) rk]] w fun e w' => e = .returned (.tuple #[.agg #[.slice none 0 0], .int .i64 10]) ∧ Below w.heap.size w w' := by
  have E0 := Lib.hid ((((Env.start (fun _ => True) w).argS hN).argS hE).argS hR)
  clear hN hE hR
  go_enter Tryz.func15, Tryz.ntmps15
  have HK := Lib.hid HK0
  have v1 := Lib.hid v10
  have hm := Lib.hid hm0
  have hf := Lib.hid hf0
  have lR := Lib.hid lR0
  have hg := Lib.hid hg0
  clear HK0 v10 hm0 hf0 lR0 hg0
  have q1 : decide ((16384 : Int) < (l.length : Int)) = false := decide_eq_false (by have := hm.out; omega)
  have q2 : decide (16384 < l.length) = false := decide_eq_false (by have := hm.out; omega)
  have E1 := Lib.hid ((((E0.out.push 26 [.slice na (Nn.NatMath.len N) nk, .slice ea (Nn.NatMath.len E) ek] (w.heap.size) (by simp)).push 24 [.slice ra (Nn.NatMath.len R) rk] (w.heap.size + 1) (by simp)).push 24 [.slice none 0 0] (w.heap.size + 1 + 1) (by simp)))
  go_wp2_with fail
  refine (rKey_c HK.out.k (gS.sl (E1.out.fc 2 rfl)) (gS.sl (E1.out.fc 1 rfl))).mono ?_
  rintro e w1 ⟨rfl, hb⟩
  have E2 := Lib.hid (E1.out.below hb)
  clear E0 E1 hb
  have b1 := E2.out.bx 1 rfl
  have c1_0 := b1.cell 0 rfl
  clear b1
  go_wp2_with fail
  refine (rvalidF v1.out (gS.sl (E2.out.fc 0 rfl))).mono ?_
  rintro e w2 ⟨rfl, hb⟩
  have E3 := Lib.hid (E2.out.below hb)
  clear c1_0 E2 hb
  have b2 := E3.out.bx 2 rfl
  have c2_0 := b2.cell 0 rfl
  have c2_1 := b2.cell 1 rfl
  clear b2
  have b3 := E3.out.bx 1 rfl
  have c3_0 := b3.cell 0 rfl
  clear b3
  go_wp2_with fail
  refine (rfac_c N R (gS.sl (E3.out.fc 2 rfl)) (gS.sl (E3.out.fc 0 rfl)) (t := true) (by rw [decide_eq_true hf.out.1, decide_eq_true hf.out.2]; rfl)).mono ?_
  rintro e w3 ⟨rfl, hb⟩
  have E4 := Lib.hid (E3.out.below hb)
  clear c2_0 c2_1 c3_0 E3 hb
  have b4 := E4.out.bx 2 rfl
  have c4_0 := b4.cell 0 rfl
  have c4_1 := b4.cell 1 rfl
  clear b4
  have b5 := E4.out.bx 1 rfl
  have c5_0 := b5.cell 0 rfl
  clear b5
  go_wp2_with fail
  refine (unit_c N R (gS.sl (E4.out.fc 2 rfl)) (gS.sl (E4.out.fc 0 rfl)) hg.out (hf.out).1 lR.out (Nat.le_trans HK.out.lN (by omega))).mono ?_
  rintro e w4 ⟨rfl, hb⟩
  have E5 := Lib.hid (E4.out.below hb)
  clear c4_0 c4_1 c5_0 E4 hb
  have b6 := E5.out.bx 0 rfl
  have c6_0 := b6.cell 0 rfl
  have f6_0 := b6.frozen 0
  clear b6
  go_wp2
  have E6 : Hid (Env (fun _ => True) w [(w.heap.size + 1 + 1, 24, [.slice none 0 0]), (w.heap.size + 1, 24, [.slice ra (Nn.NatMath.len R) rk]), (w.heap.size, 26, [.slice na (Nn.NatMath.len N) nk, .slice ea (Nn.NatMath.len E) ek])] [.gn (gS (.slice ra (Nn.NatMath.len R) rk) (Nn.NatMath.digs R)), .gn (gS (.slice ea (Nn.NatMath.len E) ek) (Nn.NatMath.digs E)), .gn (gS (.slice na (Nn.NatMath.len N) nk) (Nn.NatMath.digs N))] _) := Lib.hid ((E5.out.set 0 0 (.slice none 0 0) rfl))
  have hfin := E6.out
  have q7 := (hfin.bx 0 rfl).cell 0 rfl
  exact bodyPost_ret (v := .tuple #[.agg #[.slice none 0 0], .int .i64 10]) (by simp [results, Tryz.results15, go_sem, q7]) rfl ⟨rfl, hfin.bel⟩
set_option maxRecDepth 100000 in
set_option maxHeartbeats 4000000 in
theorem rBlind_ok (N E R : Nat) (l : List Nat) {na ea ra ba : Option Addr} {nk ek rk bk : Nat} {w : World} (hN : Nn.Sl w (.slice na (Nn.NatMath.len N) nk) (Nn.NatMath.digs N)) (hE : Nn.Sl w (.slice ea (Nn.NatMath.len E) ek) (Nn.NatMath.digs E)) (hR : Nn.Sl w (.slice ra (Nn.NatMath.len R) rk) (Nn.NatMath.digs R)) (hM : Fct.at w (fun _ => True) (.bs (.slice ba l.length bk) l)) (HK0 : Key N E) (v10 : Nn.vld (Nn.NatMath.digs R) = true) (hm0 : l.length ≤ 16384) (hf0 : 0 < Nn.NatMath.len R ∧ R < N) (lR0 : Nn.NatMath.len R ≤ 64) (hg0 : decide (Nat.gcd R N = 1) = true) {h p r : Nat} (hh0 : hshN l % N = h) (hp0 : R ^ E % N = p) (hr0 : h * p % N = r) :
    Calls Tryz.prog 15 #[.agg #[.slice na (Nn.NatMath.len N) nk, .slice ea (Nn.NatMath.len E) ek], .slice ba l.length bk, .agg #[.slice ra (Nn.NatMath.len R) rk]] w fun e w' => Nn.ResN r 0 e w' ∧ Below w.heap.size w w' := by
  have E0 := Lib.hid (((((Env.start (fun _ => True) w).arg (.bs (.slice ba l.length bk) l) hM).argS hN).argS hE).argS hR)
  clear hN hE hR hM
  go_enter Tryz.func15, Tryz.ntmps15
  have HK := Lib.hid HK0
  have v1 := Lib.hid v10
  have hm := Lib.hid hm0
  have hf := Lib.hid hf0
  have lR := Lib.hid lR0
  have hg := Lib.hid hg0
  have hh := Lib.hid hh0
  have hp := Lib.hid hp0
  have hr := Lib.hid hr0
  clear HK0 v10 hm0 hf0 lR0 hg0 hh0 hp0 hr0
  have HHN : Hid (h < N ∧ Nn.NatMath.len p ≤ 1000) := Lib.hid ⟨by rw [← hh.out]; exact Nat.mod_lt _ (by have := HK.out.n15; omega), by rw [← hp.out]; exact Nat.le_trans (Nn.NatMath.len_mono (Nat.le_of_lt (Nat.mod_lt _ (by have := HK.out.n15; omega)))) (Nat.le_trans HK.out.lN (by omega))⟩
  have q1 : decide ((16384 : Int) < (l.length : Int)) = false := decide_eq_false (by have := hm.out; omega)
  have q2 : decide (16384 < l.length) = false := decide_eq_false (by have := hm.out; omega)
  have E1 := Lib.hid ((((E0.out.push 26 [.slice na (Nn.NatMath.len N) nk, .slice ea (Nn.NatMath.len E) ek] (w.heap.size) (by simp)).push 24 [.slice ra (Nn.NatMath.len R) rk] (w.heap.size + 1) (by simp)).push 24 [.slice none 0 0] (w.heap.size + 1 + 1) (by simp)))
  go_wp2_with fail
  refine (rKey_c HK.out.k (gS.sl (E1.out.fc 2 rfl)) (gS.sl (E1.out.fc 1 rfl))).mono ?_
  rintro e w1 ⟨rfl, hb⟩
  have E2 := Lib.hid (E1.out.below hb)
  clear E0 E1 hb
  have b1 := E2.out.bx 1 rfl
  have c1_0 := b1.cell 0 rfl
  clear b1
  go_wp2_with fail
  refine (rvalidF v1.out (gS.sl (E2.out.fc 0 rfl))).mono ?_
  rintro e w2 ⟨rfl, hb⟩
  have E3 := Lib.hid (E2.out.below hb)
  clear c1_0 E2 hb
  have b2 := E3.out.bx 2 rfl
  have c2_0 := b2.cell 0 rfl
  have c2_1 := b2.cell 1 rfl
  clear b2
  have b3 := E3.out.bx 1 rfl
  have c3_0 := b3.cell 0 rfl
  clear b3
  go_wp2_with fail
  refine (rfac_c N R (gS.sl (E3.out.fc 2 rfl)) (gS.sl (E3.out.fc 0 rfl)) (t := true) (by rw [decide_eq_true hf.out.1, decide_eq_true hf.out.2]; rfl)).mono ?_
  rintro e w3 ⟨rfl, hb⟩
  have E4 := Lib.hid (E3.out.below hb)
  clear c2_0 c2_1 c3_0 E3 hb
  have b4 := E4.out.bx 2 rfl
  have c4_0 := b4.cell 0 rfl
  have c4_1 := b4.cell 1 rfl
  clear b4
  have b5 := E4.out.bx 1 rfl
  have c5_0 := b5.cell 0 rfl
  clear b5
  go_wp2_with fail
  refine (unit_c N R (gS.sl (E4.out.fc 2 rfl)) (gS.sl (E4.out.fc 0 rfl)) hg.out (hf.out).1 lR.out (Nat.le_trans HK.out.lN (by omega))).mono ?_
  rintro e w4 ⟨rfl, hb⟩
  have E5 := Lib.hid (E4.out.below hb)
  clear c4_0 c4_1 c5_0 E4 hb
  go_wp2_with fail
  have E6 := Lib.hid E5.out.drew
  clear E5
  refine wp_regionU (S := fun w' => w'.cell? ⟨w.heap.size, 0, none⟩ = some (.slice na (Nn.NatMath.len N) nk) ∧ w'.cell? ⟨w.heap.size, 1, none⟩ = some (.slice ea (Nn.NatMath.len E) ek) ∧ w'.cell? ⟨w.heap.size + 1, 0, none⟩ = some (.slice ra (Nn.NatMath.len R) rk)) [] (by kernel_rfl) (⟨((E6.out.bx 2 rfl).cell 0 rfl), ((E6.out.bx 2 rfl).cell 1 rfl), ((E6.out.bx 1 rfl).cell 0 rfl)⟩) (fun hHeld => ?_)
  generalize w4.drew = w5 at *
  refine uPl [0, 1, 3, 4, 5, 6, 7, 9, 10] ?_
  iterate 9 (refine uTl (v := ?_) ?_ ?_; rotate_left; (focus (intro wS hSw; (try dsimp only at hSw); go_simp; try with_reducible rfl)); try simp only [Act.put, pq0, pq1, pq2])
  refine Pl.z ?_
  refine uRd 2 (fun KK hKK => ?_)
  go_simp
  refine (rhash_c N E h l (gS.sl (E6.out.fc 2 rfl)) (gS.sl (E6.out.fc 1 rfl)) (Bs.any (E6.out.fc 3 rfl)) HK.out hm.out hh.out).mono ?_
  rintro e w6 ⟨⟨qa, qk, rfl, qh⟩, hb⟩
  have E7 := Lib.hid ((E6.out.below hb).noteS qh.out rfl)
  clear E6 hb qh
  (try dsimp only)
  clear hHeld
  refine hKK.out _ _ (⟨((E7.out.bx 2 rfl).cell 0 rfl), ((E7.out.bx 2 rfl).cell 1 rfl), ((E7.out.bx 1 rfl).cell 0 rfl)⟩) (fun hHeld => ?_)
  clear hKK KK
  try simp only [Act.put, pq0, pq1, pq2]
  refine uRd 8 (fun KK hKK => ?_)
  go_simp
  refine (Nn.rPow_c hp.out (Nat.le_trans HK.out.lE (by omega)) (hf.out).2 (Nat.le_trans HK.out.lN (by omega)) (gS.sl (E7.out.fc 1 rfl)) (gS.sl (E7.out.fc 2 rfl)) (gS.sl (E7.out.fc 3 rfl))).mono ?_
  rintro e w7 ⟨⟨za, zk, rfl, zh⟩, hb⟩
  have E8 := Lib.hid ((E7.out.below hb).noteS zh.out rfl)
  clear E7 hb zh
  (try dsimp only)
  clear hHeld
  refine hKK.out _ _ (⟨((E8.out.bx 2 rfl).cell 0 rfl), ((E8.out.bx 2 rfl).cell 1 rfl), ((E8.out.bx 1 rfl).cell 0 rfl)⟩) (fun hHeld => ?_)
  clear hKK KK
  try simp only [Act.put, pq0, pq1, pq2]
  refine uRd 11 (fun KK hKK => ?_)
  go_simp
  refine (Nn.rMul_c hr.out HHN.out.1 HHN.out.2 (Nat.le_trans HK.out.lN (by omega)) (gS.sl (E8.out.fc 1 rfl)) (gS.sl (E8.out.fc 0 rfl)) (gS.sl (E8.out.fc 4 rfl))).mono ?_
  rintro e w8 ⟨⟨oa, ok, rfl, oh⟩, hb⟩
  have E9 := Lib.hid ((E8.out.below hb).noteS oh.out rfl)
  clear E8 hb oh
  (try dsimp only)
  clear hHeld
  refine hKK.out _ _ (⟨((E9.out.bx 2 rfl).cell 0 rfl), ((E9.out.bx 2 rfl).cell 1 rfl), ((E9.out.bx 1 rfl).cell 0 rfl)⟩) (fun hHeld => ?_)
  clear hKK KK
  try simp only [Act.put, pq0, pq1, pq2]
  have b6 := E9.out.bx 0 rfl
  have c6_0 := b6.cell 0 rfl
  have f6_0 := b6.frozen 0
  clear b6
  refine uRd 12 (fun KK hKK => ?_)
  go_simp
  have E10 : Hid (Env (fun _ => True) w [(w.heap.size + 1 + 1, 24, [.slice oa (Nn.NatMath.len r) ok]), (w.heap.size + 1, 24, [.slice ra (Nn.NatMath.len R) rk]), (w.heap.size, 26, [.slice na (Nn.NatMath.len N) nk, .slice ea (Nn.NatMath.len E) ek])] [.gn (gS (.slice oa (Nn.NatMath.len r) ok) (Nn.NatMath.digs r)), .gn (gS (.slice za (Nn.NatMath.len p) zk) (Nn.NatMath.digs p)), .gn (gS (.slice qa (Nn.NatMath.len h) qk) (Nn.NatMath.digs h)), .gn (gS (.slice ra (Nn.NatMath.len R) rk) (Nn.NatMath.digs R)), .gn (gS (.slice ea (Nn.NatMath.len E) ek) (Nn.NatMath.digs E)), .gn (gS (.slice na (Nn.NatMath.len N) nk) (Nn.NatMath.digs N)), .bs (.slice ba l.length bk) l] _) := Lib.hid ((E9.out.set 0 0 (.slice oa (Nn.NatMath.len r) ok) rfl))
  (try dsimp only)
  clear hHeld
  refine hKK.out _ _ (⟨((E10.out.bx 2 rfl).cell 0 rfl), ((E10.out.bx 2 rfl).cell 1 rfl), ((E10.out.bx 1 rfl).cell 0 rfl)⟩) (fun hHeld => ?_)
  clear hKK KK
  try simp only [Act.put, pq0, pq1, pq2]
  refine uTk (i := 13) (some 7) (v := ?_) ?_ ?_
  rotate_left
  · (intro wS hSw; (try dsimp only at hSw); go_simp; try with_reducible rfl)
  try simp only [Act.put, pq0, pq1, pq2]
  refine uDone (by kernel_rfl) ?_ _
  have b7 := E10.out.bx 0 rfl
  have c7_0 := b7.cell 0 rfl
  clear b7
  go_wp2
  have hfin := E10.out
  have q8 := (hfin.bx 0 rfl).cell 0 rfl
  exact bodyPost_ret (v := .tuple #[.agg #[.slice oa (Nn.NatMath.len r) ok], .int .i64 0]) (by simp [results, Tryz.results15, go_sem, q8]) rfl ⟨⟨oa, ok, rfl, Lib.hid (gS.sl (hfin.out 0 rfl))⟩, hfin.bel⟩
end Go.Proofs.YtikopkkebdobdaaGreatDoor

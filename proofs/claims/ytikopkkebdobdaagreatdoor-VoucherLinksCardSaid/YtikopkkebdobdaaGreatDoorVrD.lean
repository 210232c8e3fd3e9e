/- specieref24.Link. -/
import Derived.Test.YtikopkkebdobdaaGreatDoorVrC
namespace Go.Proofs.YtikopkkebdobdaaGreatDoor
open Go.RowKit
set_option linter.unusedVariables false
set_option linter.unusedSimpArgs false
theorem unit_0L (K : Nat) {T : Nat} {pa qa xa : Option Addr} {pk qn qk xk : Nat} {w : World} (ha : Nn.Sl w (.slice pa (Nn.NatMath.len K) pk) (Nn.NatMath.digs K)) (h : Nn.NatMath.len T = 0) :
    Calls Tryz.prog 27 #[.agg #[.slice pa (Nn.NatMath.len K) pk, .slice qa qn qk], .agg #[.slice xa (Nn.NatMath.len T) xk]] w fun e w' => e = .returned (.bool false) ∧ Below w.heap.size w w' := by
  rw [h]; exact unit_0 K ha
set_option maxRecDepth 100000 in
set_option maxHeartbeats 4000000 in
theorem Link_1 (lN lE l1 l2 l3 : List Nat) {na ea ba sa ta : Option Addr} {nk ek bk sk tk : Nat} {w : World} (hN : Nn.Sl w (.slice na lN.length nk) lN) (hE : Nn.Sl w (.slice ea lE.length ek) lE) (hB : Nn.Sl w (.slice ba l1.length bk) l1) (hS : Nn.Sl w (.slice sa l2.length sk) l2) (hT : Nn.Sl w (.slice ta l3.length tk) l3) (hk0 : kV lN lE = false) :
    Calls Tryz.prog 11 #[.agg #[.slice na lN.length nk, .slice ea lE.length ek], .agg #[.slice ba l1.length bk], .agg #[.slice sa l2.length sk], .agg #[.slice ta l3.length tk]] w fun e w' => e = .returned (.tuple #[.agg #[.slice none 0 0], .int .i64 1]) ∧ Below w.heap.size w w' := by
  have E0 := Lib.hid ((((((Env.start (fun _ => True) w).argS hN).argS hE).argS hB).argS hS).argS hT)
  clear hN hE hB hS hT
  go_enter Tryz.func11, Tryz.ntmps11
  have hk := Lib.hid hk0
  clear hk0
  have E1 := Lib.hid ((((((E0.out.push 26 [.slice na lN.length nk, .slice ea lE.length ek] (w.heap.size) (by simp)).push 24 [.slice ba l1.length bk] (w.heap.size + 1) (by simp)).push 24 [.slice sa l2.length sk] (w.heap.size + 1 + 1) (by simp)).push 24 [.slice ta l3.length tk] (w.heap.size + 1 + 1 + 1) (by simp)).push 24 [.slice none 0 0] (w.heap.size + 1 + 1 + 1 + 1) (by simp)))
  go_wp2_with fail
  refine (rKey_c hk.out (gS.sl (E1.out.fc 4 rfl)) (gS.sl (E1.out.fc 3 rfl))).mono ?_
  rintro e w1 ⟨rfl, hb⟩
  have E2 := Lib.hid (E1.out.below hb)
  clear E0 E1 hb
  have b1 := E2.out.bx 0 rfl
  have c1_0 := b1.cell 0 rfl
  have f1_0 := b1.frozen 0
  clear b1
  go_wp2
  have E3 : Hid (Env (fun _ => True) w [(w.heap.size + 1 + 1 + 1 + 1, 24, [.slice none 0 0]), (w.heap.size + 1 + 1 + 1, 24, [.slice ta l3.length tk]), (w.heap.size + 1 + 1, 24, [.slice sa l2.length sk]), (w.heap.size + 1, 24, [.slice ba l1.length bk]), (w.heap.size, 26, [.slice na lN.length nk, .slice ea lE.length ek])] [.gn (gS (.slice ta l3.length tk) l3), .gn (gS (.slice sa l2.length sk) l2), .gn (gS (.slice ba l1.length bk) l1), .gn (gS (.slice ea lE.length ek) lE), .gn (gS (.slice na lN.length nk) lN)] _) := Lib.hid ((E2.out.set 0 0 (.slice none 0 0) rfl))
  have hfin := E3.out
  have q2 := (hfin.bx 0 rfl).cell 0 rfl
  exact bodyPost_ret (v := .tuple #[.agg #[.slice none 0 0], .int .i64 1]) (by simp [results, Tryz.results11, go_sem, q2]) rfl ⟨rfl, hfin.bel⟩
set_option maxRecDepth 100000 in
set_option maxHeartbeats 4000000 in
theorem Link_2 (N E : Nat) (l1 l2 l3 : List Nat) {na ea ba sa ta : Option Addr} {nk ek bk sk tk : Nat} {w : World} (hN : Nn.Sl w (.slice na (Nn.NatMath.len N) nk) (Nn.NatMath.digs N)) (hE : Nn.Sl w (.slice ea (Nn.NatMath.len E) ek) (Nn.NatMath.digs E)) (hB : Nn.Sl w (.slice ba l1.length bk) l1) (hS : Nn.Sl w (.slice sa l2.length sk) l2) (hT : Nn.Sl w (.slice ta l3.length tk) l3) (HK0 : Key N E) (v10 : Nn.vld l1 = false) :
    Calls Tryz.prog 11 #[.agg #[.slice na (Nn.NatMath.len N) nk, .slice ea (Nn.NatMath.len E) ek], .agg #[.slice ba l1.length bk], .agg #[.slice sa l2.length sk], .agg #[.slice ta l3.length tk]] w fun e w' => e = .returned (.tuple #[.agg #[.slice none 0 0], .int .i64 1]) ∧ Below w.heap.size w w' := by
  have E0 := Lib.hid ((((((Env.start (fun _ => True) w).argS hN).argS hE).argS hB).argS hS).argS hT)
  clear hN hE hB hS hT
  go_enter Tryz.func11, Tryz.ntmps11
  have HK := Lib.hid HK0
  have v1 := Lib.hid v10
  clear HK0 v10
  have E1 := Lib.hid ((((((E0.out.push 26 [.slice na (Nn.NatMath.len N) nk, .slice ea (Nn.NatMath.len E) ek] (w.heap.size) (by simp)).push 24 [.slice ba l1.length bk] (w.heap.size + 1) (by simp)).push 24 [.slice sa l2.length sk] (w.heap.size + 1 + 1) (by simp)).push 24 [.slice ta l3.length tk] (w.heap.size + 1 + 1 + 1) (by simp)).push 24 [.slice none 0 0] (w.heap.size + 1 + 1 + 1 + 1) (by simp)))
  go_wp2_with fail
  refine (rKey_c HK.out.k (gS.sl (E1.out.fc 4 rfl)) (gS.sl (E1.out.fc 3 rfl))).mono ?_
  rintro e w1 ⟨rfl, hb⟩
  have E2 := Lib.hid (E1.out.below hb)
  clear E0 E1 hb
  have b1 := E2.out.bx 3 rfl
  have c1_0 := b1.cell 0 rfl
  clear b1
  go_wp2_with fail
  refine (rvalidF v1.out (gS.sl (E2.out.fc 2 rfl))).mono ?_
  rintro e w2 ⟨rfl, hb⟩
  have E3 := Lib.hid (E2.out.below hb)
  clear c1_0 E2 hb
  have b2 := E3.out.bx 0 rfl
  have c2_0 := b2.cell 0 rfl
  have f2_0 := b2.frozen 0
  clear b2
  go_wp2
  have E4 : Hid (Env (fun _ => True) w [(w.heap.size + 1 + 1 + 1 + 1, 24, [.slice none 0 0]), (w.heap.size + 1 + 1 + 1, 24, [.slice ta l3.length tk]), (w.heap.size + 1 + 1, 24, [.slice sa l2.length sk]), (w.heap.size + 1, 24, [.slice ba l1.length bk]), (w.heap.size, 26, [.slice na (Nn.NatMath.len N) nk, .slice ea (Nn.NatMath.len E) ek])] [.gn (gS (.slice ta l3.length tk) l3), .gn (gS (.slice sa l2.length sk) l2), .gn (gS (.slice ba l1.length bk) l1), .gn (gS (.slice ea (Nn.NatMath.len E) ek) (Nn.NatMath.digs E)), .gn (gS (.slice na (Nn.NatMath.len N) nk) (Nn.NatMath.digs N))] _) := Lib.hid ((E3.out.set 0 0 (.slice none 0 0) rfl))
  have hfin := E4.out
  have q3 := (hfin.bx 0 rfl).cell 0 rfl
  exact bodyPost_ret (v := .tuple #[.agg #[.slice none 0 0], .int .i64 1]) (by simp [results, Tryz.results11, go_sem, q3]) rfl ⟨rfl, hfin.bel⟩
set_option maxRecDepth 100000 in
set_option maxHeartbeats 4000000 in
theorem Link_2b (N E : Nat) (l1 l2 l3 : List Nat) {na ea ba sa ta : Option Addr} {nk ek bk sk tk : Nat} {w : World} (hN : Nn.Sl w (.slice na (Nn.NatMath.len N) nk) (Nn.NatMath.digs N)) (hE : Nn.Sl w (.slice ea (Nn.NatMath.len E) ek) (Nn.NatMath.digs E)) (hB : Nn.Sl w (.slice ba l1.length bk) l1) (hS : Nn.Sl w (.slice sa l2.length sk) l2) (hT : Nn.Sl w (.slice ta l3.length tk) l3) (HK0 : Key N E) (v10 : Nn.vld l1 = true) (v20 : Nn.vld l2 = false) :
    Calls Tryz.prog 11 #[.agg #[.slice na (Nn.NatMath.len N) nk, .slice ea (Nn.NatMath.len E) ek], .agg #[.slice ba l1.length bk], .agg #[.slice sa l2.length sk], .agg #[.slice ta l3.length tk]] w fun e w' => e = .returned (.tuple #[.agg #[.slice none 0 0], .int .i64 1]) ∧ Below w.heap.size w w' := by
  have E0 := Lib.hid ((((((Env.start (fun _ => True) w).argS hN).argS hE).argS hB).argS hS).argS hT)
  clear hN hE hB hS hT
  go_enter Tryz.func11, Tryz.ntmps11
  have HK := Lib.hid HK0
  have v1 := Lib.hid v10
  have v2 := Lib.hid v20
  clear HK0 v10 v20
  have E1 := Lib.hid ((((((E0.out.push 26 [.slice na (Nn.NatMath.len N) nk, .slice ea (Nn.NatMath.len E) ek] (w.heap.size) (by simp)).push 24 [.slice ba l1.length bk] (w.heap.size + 1) (by simp)).push 24 [.slice sa l2.length sk] (w.heap.size + 1 + 1) (by simp)).push 24 [.slice ta l3.length tk] (w.heap.size + 1 + 1 + 1) (by simp)).push 24 [.slice none 0 0] (w.heap.size + 1 + 1 + 1 + 1) (by simp)))
  go_wp2_with fail
  refine (rKey_c HK.out.k (gS.sl (E1.out.fc 4 rfl)) (gS.sl (E1.out.fc 3 rfl))).mono ?_
  rintro e w1 ⟨rfl, hb⟩
  have E2 := Lib.hid (E1.out.below hb)
  clear E0 E1 hb
  have b1 := E2.out.bx 3 rfl
  have c1_0 := b1.cell 0 rfl
  clear b1
  go_wp2_with fail
  refine (rvalidF v1.out (gS.sl (E2.out.fc 2 rfl))).mono ?_
  rintro e w2 ⟨rfl, hb⟩
  have E3 := Lib.hid (E2.out.below hb)
  clear c1_0 E2 hb
  have b2 := E3.out.bx 2 rfl
  have c2_0 := b2.cell 0 rfl
  clear b2
  go_wp2_with fail
  refine (rvalidF v2.out (gS.sl (E3.out.fc 1 rfl))).mono ?_
  rintro e w3 ⟨rfl, hb⟩
  have E4 := Lib.hid (E3.out.below hb)
  clear c2_0 E3 hb
  have b3 := E4.out.bx 0 rfl
  have c3_0 := b3.cell 0 rfl
  have f3_0 := b3.frozen 0
  clear b3
  go_wp2
  have E5 : Hid (Env (fun _ => True) w [(w.heap.size + 1 + 1 + 1 + 1, 24, [.slice none 0 0]), (w.heap.size + 1 + 1 + 1, 24, [.slice ta l3.length tk]), (w.heap.size + 1 + 1, 24, [.slice sa l2.length sk]), (w.heap.size + 1, 24, [.slice ba l1.length bk]), (w.heap.size, 26, [.slice na (Nn.NatMath.len N) nk, .slice ea (Nn.NatMath.len E) ek])] [.gn (gS (.slice ta l3.length tk) l3), .gn (gS (.slice sa l2.length sk) l2), .gn (gS (.slice ba l1.length bk) l1), .gn (gS (.slice ea (Nn.NatMath.len E) ek) (Nn.NatMath.digs E)), .gn (gS (.slice na (Nn.NatMath.len N) nk) (Nn.NatMath.digs N))] _) := Lib.hid ((E4.out.set 0 0 (.slice none 0 0) rfl))
  have hfin := E5.out
  have q4 := (hfin.bx 0 rfl).cell 0 rfl
  exact bodyPost_ret (v := .tuple #[.agg #[.slice none 0 0], .int .i64 1]) (by simp [results, Tryz.results11, go_sem, q4]) rfl ⟨rfl, hfin.bel⟩
set_option maxRecDepth 100000 in
set_option maxHeartbeats 4000000 in
theorem Link_2c (N E : Nat) (l1 l2 l3 : List Nat) {na ea ba sa ta : Option Addr} {nk ek bk sk tk : Nat} {w : World} (hN : Nn.Sl w (.slice na (Nn.NatMath.len N) nk) (Nn.NatMath.digs N)) (hE : Nn.Sl w (.slice ea (Nn.NatMath.len E) ek) (Nn.NatMath.digs E)) (hB : Nn.Sl w (.slice ba l1.length bk) l1) (hS : Nn.Sl w (.slice sa l2.length sk) l2) (hT : Nn.Sl w (.slice ta l3.length tk) l3) (HK0 : Key N E) (v10 : Nn.vld l1 = true) (v20 : Nn.vld l2 = true) (v30 : Nn.vld l3 = false) :
    Calls Tryz.prog 11 #[.agg #[.slice na (Nn.NatMath.len N) nk, .slice ea (Nn.NatMath.len E) ek], .agg #[.slice ba l1.length bk], .agg #[.slice sa l2.length sk], .agg #[.slice ta l3.length tk]] w fun e w' => e = .returned (.tuple #[.agg #[.slice none 0 0], .int .i64 1]) ∧ Below w.heap.size w w' := by
  have E0 := Lib.hid ((((((Env.start (fun _ => True) w).argS hN).argS hE).argS hB).argS hS).argS hT)
  clear hN hE hB hS hT
  go_enter Tryz.func11, Tryz.ntmps11
  have HK := Lib.hid HK0
  have v1 := Lib.hid v10
  have v2 := Lib.hid v20
  have v3 := Lib.hid v30
  clear HK0 v10 v20 v30
  have E1 := Lib.hid ((((((E0.out.push 26 [.slice na (Nn.NatMath.len N) nk, .slice ea (Nn.NatMath.len E) ek] (w.heap.size) (by simp)).push 24 [.slice ba l1.length bk] (w.heap.size + 1) (by simp)).push 24 [.slice sa l2.length sk] (w.heap.size + 1 + 1) (by simp)).push 24 [.slice ta l3.length tk] (w.heap.size + 1 + 1 + 1) (by simp)).push 24 [.slice none 0 0] (w.heap.size + 1 + 1 + 1 + 1) (by simp)))
  go_wp2_with fail
  refine (rKey_c HK.out.k (gS.sl (E1.out.fc 4 rfl)) (gS.sl (E1.out.fc 3 rfl))).mono ?_
  rintro e w1 ⟨rfl, hb⟩
  have E2 := Lib.hid (E1.out.below hb)
  clear E0 E1 hb
  have b1 := E2.out.bx 3 rfl
  have c1_0 := b1.cell 0 rfl
  clear b1
  go_wp2_with fail
  refine (rvalidF v1.out (gS.sl (E2.out.fc 2 rfl))).mono ?_
  rintro e w2 ⟨rfl, hb⟩
  have E3 := Lib.hid (E2.out.below hb)
  clear c1_0 E2 hb
  have b2 := E3.out.bx 2 rfl
  have c2_0 := b2.cell 0 rfl
  clear b2
  go_wp2_with fail
  refine (rvalidF v2.out (gS.sl (E3.out.fc 1 rfl))).mono ?_
  rintro e w3 ⟨rfl, hb⟩
  have E4 := Lib.hid (E3.out.below hb)
  clear c2_0 E3 hb
  have b3 := E4.out.bx 1 rfl
  have c3_0 := b3.cell 0 rfl
  clear b3
  go_wp2_with fail
  refine (rvalidF v3.out (gS.sl (E4.out.fc 0 rfl))).mono ?_
  rintro e w4 ⟨rfl, hb⟩
  have E5 := Lib.hid (E4.out.below hb)
  clear c3_0 E4 hb
  have b4 := E5.out.bx 0 rfl
  have c4_0 := b4.cell 0 rfl
  have f4_0 := b4.frozen 0
  clear b4
  go_wp2
  have E6 : Hid (Env (fun _ => True) w [(w.heap.size + 1 + 1 + 1 + 1, 24, [.slice none 0 0]), (w.heap.size + 1 + 1 + 1, 24, [.slice ta l3.length tk]), (w.heap.size + 1 + 1, 24, [.slice sa l2.length sk]), (w.heap.size + 1, 24, [.slice ba l1.length bk]), (w.heap.size, 26, [.slice na (Nn.NatMath.len N) nk, .slice ea (Nn.NatMath.len E) ek])] [.gn (gS (.slice ta l3.length tk) l3), .gn (gS (.slice sa l2.length sk) l2), .gn (gS (.slice ba l1.length bk) l1), .gn (gS (.slice ea (Nn.NatMath.len E) ek) (Nn.NatMath.digs E)), .gn (gS (.slice na (Nn.NatMath.len N) nk) (Nn.NatMath.digs N))] _) := Lib.hid ((E5.out.set 0 0 (.slice none 0 0) rfl))
  have hfin := E6.out
  have q5 := (hfin.bx 0 rfl).cell 0 rfl
  exact bodyPost_ret (v := .tuple #[.agg #[.slice none 0 0], .int .i64 1]) (by simp [results, Tryz.results11, go_sem, q5]) rfl ⟨rfl, hfin.bel⟩
set_option maxRecDepth 100000 in
set_option maxHeartbeats 4000000 in
theorem Link_3 (N E B X T : Nat) {na ea ba sa ta : Option Addr} {nk ek bk sk tk : Nat} {w : World} (hN : Nn.Sl w (.slice na (Nn.NatMath.len N) nk) (Nn.NatMath.digs N)) (hE : Nn.Sl w (.slice ea (Nn.NatMath.len E) ek) (Nn.NatMath.digs E)) (hB : Nn.Sl w (.slice ba (Nn.NatMath.len B) bk) (Nn.NatMath.digs B)) (hS : Nn.Sl w (.slice sa (Nn.NatMath.len X) sk) (Nn.NatMath.digs X)) (hT : Nn.Sl w (.slice ta (Nn.NatMath.len T) tk) (Nn.NatMath.digs T)) (HK0 : Key N E) (v10 : Nn.vld (Nn.NatMath.digs B) = true) (v20 : Nn.vld (Nn.NatMath.digs X) = true) (v30 : Nn.vld (Nn.NatMath.digs T) = true) (lT0 : Nn.NatMath.len T ≤ 64) (h10 : decide (B < N) = false) :
    Calls Tryz.prog 11 #[.agg #[.slice na (Nn.NatMath.len N) nk, .slice ea (Nn.NatMath.len E) ek], .agg #[.slice ba (Nn.NatMath.len B) bk], .agg #[.slice sa (Nn.NatMath.len X) sk], .agg #[.slice ta (Nn.NatMath.len T) tk]] w fun e w' => e = .returned (.tuple #[.agg #[.slice none 0 0], .int .i64 2]) ∧ Below w.heap.size w w' := by
  have E0 := Lib.hid ((((((Env.start (fun _ => True) w).argS hN).argS hE).argS hB).argS hS).argS hT)
  clear hN hE hB hS hT
  go_enter Tryz.func11, Tryz.ntmps11
  have HK := Lib.hid HK0
  have v1 := Lib.hid v10
  have v2 := Lib.hid v20
  have v3 := Lib.hid v30
  have lT := Lib.hid lT0
  have h1 := Lib.hid h10
  clear HK0 v10 v20 v30 lT0 h10
  have E1 := Lib.hid ((((((E0.out.push 26 [.slice na (Nn.NatMath.len N) nk, .slice ea (Nn.NatMath.len E) ek] (w.heap.size) (by simp)).push 24 [.slice ba (Nn.NatMath.len B) bk] (w.heap.size + 1) (by simp)).push 24 [.slice sa (Nn.NatMath.len X) sk] (w.heap.size + 1 + 1) (by simp)).push 24 [.slice ta (Nn.NatMath.len T) tk] (w.heap.size + 1 + 1 + 1) (by simp)).push 24 [.slice none 0 0] (w.heap.size + 1 + 1 + 1 + 1) (by simp)))
  go_wp2_with fail
  refine (rKey_c HK.out.k (gS.sl (E1.out.fc 4 rfl)) (gS.sl (E1.out.fc 3 rfl))).mono ?_
  rintro e w1 ⟨rfl, hb⟩
  have E2 := Lib.hid (E1.out.below hb)
  clear E0 E1 hb
  have b1 := E2.out.bx 3 rfl
  have c1_0 := b1.cell 0 rfl
  clear b1
  go_wp2_with fail
  refine (rvalidF v1.out (gS.sl (E2.out.fc 2 rfl))).mono ?_
  rintro e w2 ⟨rfl, hb⟩
  have E3 := Lib.hid (E2.out.below hb)
  clear c1_0 E2 hb
  have b2 := E3.out.bx 2 rfl
  have c2_0 := b2.cell 0 rfl
  clear b2
  go_wp2_with fail
  refine (rvalidF v2.out (gS.sl (E3.out.fc 1 rfl))).mono ?_
  rintro e w3 ⟨rfl, hb⟩
  have E4 := Lib.hid (E3.out.below hb)
  clear c2_0 E3 hb
  have b3 := E4.out.bx 1 rfl
  have c3_0 := b3.cell 0 rfl
  clear b3
  go_wp2_with fail
  refine (rvalidF v3.out (gS.sl (E4.out.fc 0 rfl))).mono ?_
  rintro e w4 ⟨rfl, hb⟩
  have E5 := Lib.hid (E4.out.below hb)
  clear c3_0 E4 hb
  have b4 := E5.out.bx 4 rfl
  have c4_0 := b4.cell 0 rfl
  have c4_1 := b4.cell 1 rfl
  clear b4
  have b5 := E5.out.bx 3 rfl
  have c5_0 := b5.cell 0 rfl
  clear b5
  go_wp2_with fail
  refine (vresidue_c N B (gS.sl (E5.out.fc 4 rfl)) (gS.sl (E5.out.fc 2 rfl)) h1.out).mono ?_
  rintro e w5 ⟨rfl, hb⟩
  have E6 := Lib.hid (E5.out.below hb)
  clear c4_0 c4_1 c5_0 E5 hb
  have b6 := E6.out.bx 0 rfl
  have c6_0 := b6.cell 0 rfl
  have f6_0 := b6.frozen 0
  clear b6
  go_wp2
  have E7 : Hid (Env (fun _ => True) w [(w.heap.size + 1 + 1 + 1 + 1, 24, [.slice none 0 0]), (w.heap.size + 1 + 1 + 1, 24, [.slice ta (Nn.NatMath.len T) tk]), (w.heap.size + 1 + 1, 24, [.slice sa (Nn.NatMath.len X) sk]), (w.heap.size + 1, 24, [.slice ba (Nn.NatMath.len B) bk]), (w.heap.size, 26, [.slice na (Nn.NatMath.len N) nk, .slice ea (Nn.NatMath.len E) ek])] [.gn (gS (.slice ta (Nn.NatMath.len T) tk) (Nn.NatMath.digs T)), .gn (gS (.slice sa (Nn.NatMath.len X) sk) (Nn.NatMath.digs X)), .gn (gS (.slice ba (Nn.NatMath.len B) bk) (Nn.NatMath.digs B)), .gn (gS (.slice ea (Nn.NatMath.len E) ek) (Nn.NatMath.digs E)), .gn (gS (.slice na (Nn.NatMath.len N) nk) (Nn.NatMath.digs N))] _) := Lib.hid ((E6.out.set 0 0 (.slice none 0 0) rfl))
  have hfin := E7.out
  have q7 := (hfin.bx 0 rfl).cell 0 rfl
  exact bodyPost_ret (v := .tuple #[.agg #[.slice none 0 0], .int .i64 2]) (by simp [results, Tryz.results11, go_sem, q7]) rfl ⟨rfl, hfin.bel⟩
set_option maxRecDepth 100000 in
set_option maxHeartbeats 4000000 in
theorem Link_3b (N E B X T : Nat) {na ea ba sa ta : Option Addr} {nk ek bk sk tk : Nat} {w : World} (hN : Nn.Sl w (.slice na (Nn.NatMath.len N) nk) (Nn.NatMath.digs N)) (hE : Nn.Sl w (.slice ea (Nn.NatMath.len E) ek) (Nn.NatMath.digs E)) (hB : Nn.Sl w (.slice ba (Nn.NatMath.len B) bk) (Nn.NatMath.digs B)) (hS : Nn.Sl w (.slice sa (Nn.NatMath.len X) sk) (Nn.NatMath.digs X)) (hT : Nn.Sl w (.slice ta (Nn.NatMath.len T) tk) (Nn.NatMath.digs T)) (HK0 : Key N E) (v10 : Nn.vld (Nn.NatMath.digs B) = true) (v20 : Nn.vld (Nn.NatMath.digs X) = true) (v30 : Nn.vld (Nn.NatMath.digs T) = true) (lT0 : Nn.NatMath.len T ≤ 64) (h10 : decide (B < N) = true) (h20 : decide (X < N) = false) :
    Calls Tryz.prog 11 #[.agg #[.slice na (Nn.NatMath.len N) nk, .slice ea (Nn.NatMath.len E) ek], .agg #[.slice ba (Nn.NatMath.len B) bk], .agg #[.slice sa (Nn.NatMath.len X) sk], .agg #[.slice ta (Nn.NatMath.len T) tk]] w fun e w' => e = .returned (.tuple #[.agg #[.slice none 0 0], .int .i64 2]) ∧ Below w.heap.size w w' := by
  have E0 := Lib.hid ((((((Env.start (fun _ => True) w).argS hN).argS hE).argS hB).argS hS).argS hT)
  clear hN hE hB hS hT
  go_enter Tryz.func11, Tryz.ntmps11
  have HK := Lib.hid HK0
  have v1 := Lib.hid v10
  have v2 := Lib.hid v20
  have v3 := Lib.hid v30
  have lT := Lib.hid lT0
  have h1 := Lib.hid h10
  have h2 := Lib.hid h20
  clear HK0 v10 v20 v30 lT0 h10 h20
  have E1 := Lib.hid ((((((E0.out.push 26 [.slice na (Nn.NatMath.len N) nk, .slice ea (Nn.NatMath.len E) ek] (w.heap.size) (by simp)).push 24 [.slice ba (Nn.NatMath.len B) bk] (w.heap.size + 1) (by simp)).push 24 [.slice sa (Nn.NatMath.len X) sk] (w.heap.size + 1 + 1) (by simp)).push 24 [.slice ta (Nn.NatMath.len T) tk] (w.heap.size + 1 + 1 + 1) (by simp)).push 24 [.slice none 0 0] (w.heap.size + 1 + 1 + 1 + 1) (by simp)))
  go_wp2_with fail
  refine (rKey_c HK.out.k (gS.sl (E1.out.fc 4 rfl)) (gS.sl (E1.out.fc 3 rfl))).mono ?_
  rintro e w1 ⟨rfl, hb⟩
  have E2 := Lib.hid (E1.out.below hb)
  clear E0 E1 hb
  have b1 := E2.out.bx 3 rfl
  have c1_0 := b1.cell 0 rfl
  clear b1
  go_wp2_with fail
  refine (rvalidF v1.out (gS.sl (E2.out.fc 2 rfl))).mono ?_
  rintro e w2 ⟨rfl, hb⟩
  have E3 := Lib.hid (E2.out.below hb)
  clear c1_0 E2 hb
  have b2 := E3.out.bx 2 rfl
  have c2_0 := b2.cell 0 rfl
  clear b2
  go_wp2_with fail
  refine (rvalidF v2.out (gS.sl (E3.out.fc 1 rfl))).mono ?_
  rintro e w3 ⟨rfl, hb⟩
  have E4 := Lib.hid (E3.out.below hb)
  clear c2_0 E3 hb
  have b3 := E4.out.bx 1 rfl
  have c3_0 := b3.cell 0 rfl
  clear b3
  go_wp2_with fail
  refine (rvalidF v3.out (gS.sl (E4.out.fc 0 rfl))).mono ?_
  rintro e w4 ⟨rfl, hb⟩
  have E5 := Lib.hid (E4.out.below hb)
  clear c3_0 E4 hb
  have b4 := E5.out.bx 4 rfl
  have c4_0 := b4.cell 0 rfl
  have c4_1 := b4.cell 1 rfl
  clear b4
  have b5 := E5.out.bx 3 rfl
  have c5_0 := b5.cell 0 rfl
  clear b5
  go_wp2_with fail
  refine (vresidue_c N B (gS.sl (E5.out.fc 4 rfl)) (gS.sl (E5.out.fc 2 rfl)) h1.out).mono ?_
  rintro e w5 ⟨rfl, hb⟩
  have E6 := Lib.hid (E5.out.below hb)
  clear c4_0 c4_1 c5_0 E5 hb
  have b6 := E6.out.bx 4 rfl
  have c6_0 := b6.cell 0 rfl
  have c6_1 := b6.cell 1 rfl
  clear b6
  have b7 := E6.out.bx 2 rfl
  have c7_0 := b7.cell 0 rfl
  clear b7
  go_wp2_with fail
  refine (vresidue_c N X (gS.sl (E6.out.fc 4 rfl)) (gS.sl (E6.out.fc 1 rfl)) h2.out).mono ?_
  rintro e w6 ⟨rfl, hb⟩
  have E7 := Lib.hid (E6.out.below hb)
  clear c6_0 c6_1 c7_0 E6 hb
  have b8 := E7.out.bx 0 rfl
  have c8_0 := b8.cell 0 rfl
  have f8_0 := b8.frozen 0
  clear b8
  go_wp2
  have E8 : Hid (Env (fun _ => True) w [(w.heap.size + 1 + 1 + 1 + 1, 24, [.slice none 0 0]), (w.heap.size + 1 + 1 + 1, 24, [.slice ta (Nn.NatMath.len T) tk]), (w.heap.size + 1 + 1, 24, [.slice sa (Nn.NatMath.len X) sk]), (w.heap.size + 1, 24, [.slice ba (Nn.NatMath.len B) bk]), (w.heap.size, 26, [.slice na (Nn.NatMath.len N) nk, .slice ea (Nn.NatMath.len E) ek])] [.gn (gS (.slice ta (Nn.NatMath.len T) tk) (Nn.NatMath.digs T)), .gn (gS (.slice sa (Nn.NatMath.len X) sk) (Nn.NatMath.digs X)), .gn (gS (.slice ba (Nn.NatMath.len B) bk) (Nn.NatMath.digs B)), .gn (gS (.slice ea (Nn.NatMath.len E) ek) (Nn.NatMath.digs E)), .gn (gS (.slice na (Nn.NatMath.len N) nk) (Nn.NatMath.digs N))] _) := Lib.hid ((E7.out.set 0 0 (.slice none 0 0) rfl))
  have hfin := E8.out
  have q9 := (hfin.bx 0 rfl).cell 0 rfl
  exact bodyPost_ret (v := .tuple #[.agg #[.slice none 0 0], .int .i64 2]) (by simp [results, Tryz.results11, go_sem, q9]) rfl ⟨rfl, hfin.bel⟩
set_option maxRecDepth 100000 in
set_option maxHeartbeats 4000000 in
theorem Link_3c (N E B X T : Nat) {na ea ba sa ta : Option Addr} {nk ek bk sk tk : Nat} {w : World} (hN : Nn.Sl w (.slice na (Nn.NatMath.len N) nk) (Nn.NatMath.digs N)) (hE : Nn.Sl w (.slice ea (Nn.NatMath.len E) ek) (Nn.NatMath.digs E)) (hB : Nn.Sl w (.slice ba (Nn.NatMath.len B) bk) (Nn.NatMath.digs B)) (hS : Nn.Sl w (.slice sa (Nn.NatMath.len X) sk) (Nn.NatMath.digs X)) (hT : Nn.Sl w (.slice ta (Nn.NatMath.len T) tk) (Nn.NatMath.digs T)) (HK0 : Key N E) (v10 : Nn.vld (Nn.NatMath.digs B) = true) (v20 : Nn.vld (Nn.NatMath.digs X) = true) (v30 : Nn.vld (Nn.NatMath.digs T) = true) (lT0 : Nn.NatMath.len T ≤ 64) (h10 : decide (B < N) = true) (h20 : decide (X < N) = true) (h30 : decide (T < N) = false) :
    Calls Tryz.prog 11 #[.agg #[.slice na (Nn.NatMath.len N) nk, .slice ea (Nn.NatMath.len E) ek], .agg #[.slice ba (Nn.NatMath.len B) bk], .agg #[.slice sa (Nn.NatMath.len X) sk], .agg #[.slice ta (Nn.NatMath.len T) tk]] w fun e w' => e = .returned (.tuple #[.agg #[.slice none 0 0], .int .i64 2]) ∧ Below w.heap.size w w' := by
  have E0 := Lib.hid ((((((Env.start (fun _ => True) w).argS hN).argS hE).argS hB).argS hS).argS hT)
  clear hN hE hB hS hT
  go_enter Tryz.func11, Tryz.ntmps11
  have HK := Lib.hid HK0
  have v1 := Lib.hid v10
  have v2 := Lib.hid v20
  have v3 := Lib.hid v30
  have lT := Lib.hid lT0
  have h1 := Lib.hid h10
  have h2 := Lib.hid h20
  have h3 := Lib.hid h30
  clear HK0 v10 v20 v30 lT0 h10 h20 h30
  have E1 := Lib.hid ((((((E0.out.push 26 [.slice na (Nn.NatMath.len N) nk, .slice ea (Nn.NatMath.len E) ek] (w.heap.size) (by simp)).push 24 [.slice ba (Nn.NatMath.len B) bk] (w.heap.size + 1) (by simp)).push 24 [.slice sa (Nn.NatMath.len X) sk] (w.heap.size + 1 + 1) (by simp)).push 24 [.slice ta (Nn.NatMath.len T) tk] (w.heap.size + 1 + 1 + 1) (by simp)).push 24 [.slice none 0 0] (w.heap.size + 1 + 1 + 1 + 1) (by simp)))
  go_wp2_with fail
  refine (rKey_c HK.out.k (gS.sl (E1.out.fc 4 rfl)) (gS.sl (E1.out.fc 3 rfl))).mono ?_
  rintro e w1 ⟨rfl, hb⟩
  have E2 := Lib.hid (E1.out.below hb)
  clear E0 E1 hb
  have b1 := E2.out.bx 3 rfl
  have c1_0 := b1.cell 0 rfl
  clear b1
  go_wp2_with fail
  refine (rvalidF v1.out (gS.sl (E2.out.fc 2 rfl))).mono ?_
  rintro e w2 ⟨rfl, hb⟩
  have E3 := Lib.hid (E2.out.below hb)
  clear c1_0 E2 hb
  have b2 := E3.out.bx 2 rfl
  have c2_0 := b2.cell 0 rfl
  clear b2
  go_wp2_with fail
  refine (rvalidF v2.out (gS.sl (E3.out.fc 1 rfl))).mono ?_
  rintro e w3 ⟨rfl, hb⟩
  have E4 := Lib.hid (E3.out.below hb)
  clear c2_0 E3 hb
  have b3 := E4.out.bx 1 rfl
  have c3_0 := b3.cell 0 rfl
  clear b3
  go_wp2_with fail
  refine (rvalidF v3.out (gS.sl (E4.out.fc 0 rfl))).mono ?_
  rintro e w4 ⟨rfl, hb⟩
  have E5 := Lib.hid (E4.out.below hb)
  clear c3_0 E4 hb
  have b4 := E5.out.bx 4 rfl
  have c4_0 := b4.cell 0 rfl
  have c4_1 := b4.cell 1 rfl
  clear b4
  have b5 := E5.out.bx 3 rfl
  have c5_0 := b5.cell 0 rfl
  clear b5
  go_wp2_with fail
  refine (vresidue_c N B (gS.sl (E5.out.fc 4 rfl)) (gS.sl (E5.out.fc 2 rfl)) h1.out).mono ?_
  rintro e w5 ⟨rfl, hb⟩
  have E6 := Lib.hid (E5.out.below hb)
  clear c4_0 c4_1 c5_0 E5 hb
  have b6 := E6.out.bx 4 rfl
  have c6_0 := b6.cell 0 rfl
  have c6_1 := b6.cell 1 rfl
  clear b6
  have b7 := E6.out.bx 2 rfl
  have c7_0 := b7.cell 0 rfl
  clear b7
  go_wp2_with fail
  refine (vresidue_c N X (gS.sl (E6.out.fc 4 rfl)) (gS.sl (E6.out.fc 1 rfl)) h2.out).mono ?_
  rintro e w6 ⟨rfl, hb⟩
  have E7 := Lib.hid (E6.out.below hb)
  clear c6_0 c6_1 c7_0 E6 hb
  have b8 := E7.out.bx 4 rfl
  have c8_0 := b8.cell 0 rfl
  have c8_1 := b8.cell 1 rfl
  clear b8
  have b9 := E7.out.bx 1 rfl
  have c9_0 := b9.cell 0 rfl
  clear b9
  go_wp2_with fail
  refine (vresidue_c N T (gS.sl (E7.out.fc 4 rfl)) (gS.sl (E7.out.fc 0 rfl)) h3.out).mono ?_
  rintro e w7 ⟨rfl, hb⟩
  have E8 := Lib.hid (E7.out.below hb)
  clear c8_0 c8_1 c9_0 E7 hb
  have b10 := E8.out.bx 0 rfl
  have c10_0 := b10.cell 0 rfl
  have f10_0 := b10.frozen 0
  clear b10
  go_wp2
  have E9 : Hid (Env (fun _ => True) w [(w.heap.size + 1 + 1 + 1 + 1, 24, [.slice none 0 0]), (w.heap.size + 1 + 1 + 1, 24, [.slice ta (Nn.NatMath.len T) tk]), (w.heap.size + 1 + 1, 24, [.slice sa (Nn.NatMath.len X) sk]), (w.heap.size + 1, 24, [.slice ba (Nn.NatMath.len B) bk]), (w.heap.size, 26, [.slice na (Nn.NatMath.len N) nk, .slice ea (Nn.NatMath.len E) ek])] [.gn (gS (.slice ta (Nn.NatMath.len T) tk) (Nn.NatMath.digs T)), .gn (gS (.slice sa (Nn.NatMath.len X) sk) (Nn.NatMath.digs X)), .gn (gS (.slice ba (Nn.NatMath.len B) bk) (Nn.NatMath.digs B)), .gn (gS (.slice ea (Nn.NatMath.len E) ek) (Nn.NatMath.digs E)), .gn (gS (.slice na (Nn.NatMath.len N) nk) (Nn.NatMath.digs N))] _) := Lib.hid ((E8.out.set 0 0 (.slice none 0 0) rfl))
  have hfin := E9.out
  have q11 := (hfin.bx 0 rfl).cell 0 rfl
  exact bodyPost_ret (v := .tuple #[.agg #[.slice none 0 0], .int .i64 2]) (by simp [results, Tryz.results11, go_sem, q11]) rfl ⟨rfl, hfin.bel⟩
set_option maxRecDepth 100000 in
set_option maxHeartbeats 4000000 in
theorem Link_4 (N E B X T : Nat) {na ea ba sa ta : Option Addr} {nk ek bk sk tk : Nat} {w : World} (hN : Nn.Sl w (.slice na (Nn.NatMath.len N) nk) (Nn.NatMath.digs N)) (hE : Nn.Sl w (.slice ea (Nn.NatMath.len E) ek) (Nn.NatMath.digs E)) (hB : Nn.Sl w (.slice ba (Nn.NatMath.len B) bk) (Nn.NatMath.digs B)) (hS : Nn.Sl w (.slice sa (Nn.NatMath.len X) sk) (Nn.NatMath.digs X)) (hT : Nn.Sl w (.slice ta (Nn.NatMath.len T) tk) (Nn.NatMath.digs T)) (HK0 : Key N E) (v10 : Nn.vld (Nn.NatMath.digs B) = true) (v20 : Nn.vld (Nn.NatMath.digs X) = true) (v30 : Nn.vld (Nn.NatMath.digs T) = true) (lT0 : Nn.NatMath.len T ≤ 64) (h10 : decide (B < N) = true) (h20 : decide (X < N) = true) (h30 : decide (T < N) = true) {r1 : Nat} (hp0 : X ^ E % N = r1) (hq0 : decide (r1 = B) = false)  :
    Calls Tryz.prog 11 #[.agg #[.slice na (Nn.NatMath.len N) nk, .slice ea (Nn.NatMath.len E) ek], .agg #[.slice ba (Nn.NatMath.len B) bk], .agg #[.slice sa (Nn.NatMath.len X) sk], .agg #[.slice ta (Nn.NatMath.len T) tk]] w fun e w' => e = .returned (.tuple #[.agg #[.slice none 0 0], .int .i64 11]) ∧ Below w.heap.size w w' := by
  have E0 := Lib.hid ((((((Env.start (fun _ => True) w).argS hN).argS hE).argS hB).argS hS).argS hT)
  clear hN hE hB hS hT
  go_enter Tryz.func11, Tryz.ntmps11
  have HK := Lib.hid HK0
  have v1 := Lib.hid v10
  have v2 := Lib.hid v20
  have v3 := Lib.hid v30
  have lT := Lib.hid lT0
  have h1 := Lib.hid h10
  have h2 := Lib.hid h20
  have h3 := Lib.hid h30
  have hp := Lib.hid hp0
  have hq := Lib.hid hq0
  clear HK0 v10 v20 v30 lT0 h10 h20 h30 hp0 hq0
  have HX := Lib.hid (of_decide_eq_true h2.out)
  have HT := Lib.hid (of_decide_eq_true h3.out)
  have E1 := Lib.hid ((((((E0.out.push 26 [.slice na (Nn.NatMath.len N) nk, .slice ea (Nn.NatMath.len E) ek] (w.heap.size) (by simp)).push 24 [.slice ba (Nn.NatMath.len B) bk] (w.heap.size + 1) (by simp)).push 24 [.slice sa (Nn.NatMath.len X) sk] (w.heap.size + 1 + 1) (by simp)).push 24 [.slice ta (Nn.NatMath.len T) tk] (w.heap.size + 1 + 1 + 1) (by simp)).push 24 [.slice none 0 0] (w.heap.size + 1 + 1 + 1 + 1) (by simp)))
  go_wp2_with fail
  refine (rKey_c HK.out.k (gS.sl (E1.out.fc 4 rfl)) (gS.sl (E1.out.fc 3 rfl))).mono ?_
  rintro e w1 ⟨rfl, hb⟩
  have E2 := Lib.hid (E1.out.below hb)
  clear E0 E1 hb
  have b1 := E2.out.bx 3 rfl
  have c1_0 := b1.cell 0 rfl
  clear b1
  go_wp2_with fail
  refine (rvalidF v1.out (gS.sl (E2.out.fc 2 rfl))).mono ?_
  rintro e w2 ⟨rfl, hb⟩
  have E3 := Lib.hid (E2.out.below hb)
  clear c1_0 E2 hb
  have b2 := E3.out.bx 2 rfl
  have c2_0 := b2.cell 0 rfl
  clear b2
  go_wp2_with fail
  refine (rvalidF v2.out (gS.sl (E3.out.fc 1 rfl))).mono ?_
  rintro e w3 ⟨rfl, hb⟩
  have E4 := Lib.hid (E3.out.below hb)
  clear c2_0 E3 hb
  have b3 := E4.out.bx 1 rfl
  have c3_0 := b3.cell 0 rfl
  clear b3
  go_wp2_with fail
  refine (rvalidF v3.out (gS.sl (E4.out.fc 0 rfl))).mono ?_
  rintro e w4 ⟨rfl, hb⟩
  have E5 := Lib.hid (E4.out.below hb)
  clear c3_0 E4 hb
  have b4 := E5.out.bx 4 rfl
  have c4_0 := b4.cell 0 rfl
  have c4_1 := b4.cell 1 rfl
  clear b4
  have b5 := E5.out.bx 3 rfl
  have c5_0 := b5.cell 0 rfl
  clear b5
  go_wp2_with fail
  refine (vresidue_c N B (gS.sl (E5.out.fc 4 rfl)) (gS.sl (E5.out.fc 2 rfl)) h1.out).mono ?_
  rintro e w5 ⟨rfl, hb⟩
  have E6 := Lib.hid (E5.out.below hb)
  clear c4_0 c4_1 c5_0 E5 hb
  have b6 := E6.out.bx 4 rfl
  have c6_0 := b6.cell 0 rfl
  have c6_1 := b6.cell 1 rfl
  clear b6
  have b7 := E6.out.bx 2 rfl
  have c7_0 := b7.cell 0 rfl
  clear b7
  go_wp2_with fail
  refine (vresidue_c N X (gS.sl (E6.out.fc 4 rfl)) (gS.sl (E6.out.fc 1 rfl)) h2.out).mono ?_
  rintro e w6 ⟨rfl, hb⟩
  have E7 := Lib.hid (E6.out.below hb)
  clear c6_0 c6_1 c7_0 E6 hb
  have b8 := E7.out.bx 4 rfl
  have c8_0 := b8.cell 0 rfl
  have c8_1 := b8.cell 1 rfl
  clear b8
  have b9 := E7.out.bx 1 rfl
  have c9_0 := b9.cell 0 rfl
  clear b9
  go_wp2_with fail
  refine (vresidue_c N T (gS.sl (E7.out.fc 4 rfl)) (gS.sl (E7.out.fc 0 rfl)) h3.out).mono ?_
  rintro e w7 ⟨rfl, hb⟩
  have E8 := Lib.hid (E7.out.below hb)
  clear c8_0 c8_1 c9_0 E7 hb
  go_wp2_with fail
  have E9 := Lib.hid E8.out.drew
  clear E8
  refine wp_regionU (S := fun w' => w'.cell? ⟨w.heap.size + 1 + 1, 0, none⟩ = some (.slice sa (Nn.NatMath.len X) sk) ∧ w'.cell? ⟨w.heap.size, 1, none⟩ = some (.slice ea (Nn.NatMath.len E) ek) ∧ w'.cell? ⟨w.heap.size, 0, none⟩ = some (.slice na (Nn.NatMath.len N) nk) ∧ w'.cell? ⟨w.heap.size + 1, 0, none⟩ = some (.slice ba (Nn.NatMath.len B) bk)) [] (by kernel_rfl) (⟨((E9.out.bx 2 rfl).cell 0 rfl), ((E9.out.bx 4 rfl).cell 1 rfl), ((E9.out.bx 4 rfl).cell 0 rfl), ((E9.out.bx 3 rfl).cell 0 rfl)⟩) (fun hHeld => ?_)
  generalize w7.drew = w8 at *
  refine uTk (i := 0) (some 48) (v := ?_) ?_ ?_
  rotate_left
  · (intro wS hSw; (try dsimp only at hSw); go_simp; try with_reducible rfl)
  try simp only [Act.put, pq0, pq1, pq2]
  refine uTk (i := 1) (some 49) (v := ?_) ?_ ?_
  rotate_left
  · (intro wS hSw; (try dsimp only at hSw); go_simp; try with_reducible rfl)
  try simp only [Act.put, pq0, pq1, pq2]
  refine uTk (i := 2) (some 50) (v := ?_) ?_ ?_
  rotate_left
  · (intro wS hSw; (try dsimp only at hSw); go_simp; try with_reducible rfl)
  try simp only [Act.put, pq0, pq1, pq2]
  refine uTk (i := 3) (some 51) (v := ?_) ?_ ?_
  rotate_left
  · (intro wS hSw; (try dsimp only at hSw); go_simp; try with_reducible rfl)
  try simp only [Act.put, pq0, pq1, pq2]
  refine uTk (i := 4) (some 52) (v := ?_) ?_ ?_
  rotate_left
  · (intro wS hSw; (try dsimp only at hSw); go_simp; try with_reducible rfl)
  try simp only [Act.put, pq0, pq1, pq2]
  refine uTk (i := 6) (some 54) (v := ?_) ?_ ?_
  rotate_left
  · (intro wS hSw; (try dsimp only at hSw); go_simp; try with_reducible rfl)
  try simp only [Act.put, pq0, pq1, pq2]
  refine uReady (rs := [5]) (by kernel_rfl) (by simp) ?_
  refine ReadyU.cons rfl (fun KK hKK => ?_) ReadyU.nil
  go_simp
  refine (Nn.rPow_c hp.out (Nat.le_trans HK.out.lE (by omega)) HX.out (Nat.le_trans HK.out.lN (by omega)) (gS.sl (E9.out.fc 1 rfl)) (gS.sl (E9.out.fc 3 rfl)) (gS.sl (E9.out.fc 4 rfl))).mono ?_
  rintro e w9 ⟨⟨ra, rk, rfl, rh⟩, hb⟩
  have E10 := Lib.hid ((E9.out.below hb).noteS rh.out rfl)
  clear E9 hb rh
  (try dsimp only)
  clear hHeld
  refine hKK.out _ _ (⟨((E10.out.bx 2 rfl).cell 0 rfl), ((E10.out.bx 4 rfl).cell 1 rfl), ((E10.out.bx 4 rfl).cell 0 rfl), ((E10.out.bx 3 rfl).cell 0 rfl)⟩) (fun hHeld => ?_)
  clear hKK KK
  try simp only [Act.put, pq0, pq1, pq2]
  refine uReady (rs := [7]) (by kernel_rfl) (by simp) ?_
  refine ReadyU.cons rfl (fun KK hKK => ?_) ReadyU.nil
  go_simp
  refine (Nn.rSame_c hq.out (gS.sl (E10.out.fc 0 rfl)) (gS.sl (E10.out.fc 3 rfl))).mono ?_
  rintro e w10 ⟨rfl, hb⟩
  have E11 := Lib.hid (E10.out.below hb)
  clear E10 hb
  (try dsimp only)
  clear hHeld
  refine hKK.out _ _ (⟨((E11.out.bx 2 rfl).cell 0 rfl), ((E11.out.bx 4 rfl).cell 1 rfl), ((E11.out.bx 4 rfl).cell 0 rfl), ((E11.out.bx 3 rfl).cell 0 rfl)⟩) (fun hHeld => ?_)
  clear hKK KK
  try simp only [Act.put, pq0, pq1, pq2]
  refine uTk (i := 8) (some 56) (v := ?_) ?_ ?_
  rotate_left
  · (intro wS hSw; (try dsimp only at hSw); go_simp; try with_reducible rfl)
  try simp only [Act.put, pq0, pq1, pq2]
  refine uDone (by kernel_rfl) ?_ _
  have b10 := E11.out.bx 0 rfl
  have c10_0 := b10.cell 0 rfl
  have f10_0 := b10.frozen 0
  clear b10
  go_wp2
  have E12 : Hid (Env (fun _ => True) w [(w.heap.size + 1 + 1 + 1 + 1, 24, [.slice none 0 0]), (w.heap.size + 1 + 1 + 1, 24, [.slice ta (Nn.NatMath.len T) tk]), (w.heap.size + 1 + 1, 24, [.slice sa (Nn.NatMath.len X) sk]), (w.heap.size + 1, 24, [.slice ba (Nn.NatMath.len B) bk]), (w.heap.size, 26, [.slice na (Nn.NatMath.len N) nk, .slice ea (Nn.NatMath.len E) ek])] [.gn (gS (.slice ra (Nn.NatMath.len r1) rk) (Nn.NatMath.digs r1)), .gn (gS (.slice ta (Nn.NatMath.len T) tk) (Nn.NatMath.digs T)), .gn (gS (.slice sa (Nn.NatMath.len X) sk) (Nn.NatMath.digs X)), .gn (gS (.slice ba (Nn.NatMath.len B) bk) (Nn.NatMath.digs B)), .gn (gS (.slice ea (Nn.NatMath.len E) ek) (Nn.NatMath.digs E)), .gn (gS (.slice na (Nn.NatMath.len N) nk) (Nn.NatMath.digs N))] _) := Lib.hid ((E11.out.set 0 0 (.slice none 0 0) rfl))
  have hfin := E12.out
  have q11 := (hfin.bx 0 rfl).cell 0 rfl
  exact bodyPost_ret (v := .tuple #[.agg #[.slice none 0 0], .int .i64 11]) (by simp [results, Tryz.results11, go_sem, q11]) rfl ⟨rfl, hfin.bel⟩
set_option maxRecDepth 100000 in
set_option maxHeartbeats 4000000 in
theorem Link_5 (N E B X T : Nat) {na ea ba sa ta : Option Addr} {nk ek bk sk tk : Nat} {w : World} (hN : Nn.Sl w (.slice na (Nn.NatMath.len N) nk) (Nn.NatMath.digs N)) (hE : Nn.Sl w (.slice ea (Nn.NatMath.len E) ek) (Nn.NatMath.digs E)) (hB : Nn.Sl w (.slice ba (Nn.NatMath.len B) bk) (Nn.NatMath.digs B)) (hS : Nn.Sl w (.slice sa (Nn.NatMath.len X) sk) (Nn.NatMath.digs X)) (hT : Nn.Sl w (.slice ta (Nn.NatMath.len T) tk) (Nn.NatMath.digs T)) (HK0 : Key N E) (v10 : Nn.vld (Nn.NatMath.digs B) = true) (v20 : Nn.vld (Nn.NatMath.digs X) = true) (v30 : Nn.vld (Nn.NatMath.digs T) = true) (lT0 : Nn.NatMath.len T ≤ 64) (h10 : decide (B < N) = true) (h20 : decide (X < N) = true) (h30 : decide (T < N) = true) {r1 : Nat} (hp0 : X ^ E % N = r1) (hq0 : decide (r1 = B) = true) (hz0 : T = 0) :
    Calls Tryz.prog 11 #[.agg #[.slice na (Nn.NatMath.len N) nk, .slice ea (Nn.NatMath.len E) ek], .agg #[.slice ba (Nn.NatMath.len B) bk], .agg #[.slice sa (Nn.NatMath.len X) sk], .agg #[.slice ta (Nn.NatMath.len T) tk]] w fun e w' => e = .returned (.tuple #[.agg #[.slice none 0 0], .int .i64 10]) ∧ Below w.heap.size w w' := by
  have E0 := Lib.hid ((((((Env.start (fun _ => True) w).argS hN).argS hE).argS hB).argS hS).argS hT)
  clear hN hE hB hS hT
  go_enter Tryz.func11, Tryz.ntmps11
  have HK := Lib.hid HK0
  have v1 := Lib.hid v10
  have v2 := Lib.hid v20
  have v3 := Lib.hid v30
  have lT := Lib.hid lT0
  have h1 := Lib.hid h10
  have h2 := Lib.hid h20
  have h3 := Lib.hid h30
  have hp := Lib.hid hp0
  have hq := Lib.hid hq0
  have hz := Lib.hid hz0
  clear HK0 v10 v20 v30 lT0 h10 h20 h30 hp0 hq0 hz0
  have lz := Lib.hid (show Nn.NatMath.len T = 0 by rw [hz.out]; exact Nn.NatMath.len_zero)
  have HX := Lib.hid (of_decide_eq_true h2.out)
  have HT := Lib.hid (of_decide_eq_true h3.out)
  have E1 := Lib.hid ((((((E0.out.push 26 [.slice na (Nn.NatMath.len N) nk, .slice ea (Nn.NatMath.len E) ek] (w.heap.size) (by simp)).push 24 [.slice ba (Nn.NatMath.len B) bk] (w.heap.size + 1) (by simp)).push 24 [.slice sa (Nn.NatMath.len X) sk] (w.heap.size + 1 + 1) (by simp)).push 24 [.slice ta (Nn.NatMath.len T) tk] (w.heap.size + 1 + 1 + 1) (by simp)).push 24 [.slice none 0 0] (w.heap.size + 1 + 1 + 1 + 1) (by simp)))
  go_wp2_with fail
  refine (rKey_c HK.out.k (gS.sl (E1.out.fc 4 rfl)) (gS.sl (E1.out.fc 3 rfl))).mono ?_
  rintro e w1 ⟨rfl, hb⟩
  have E2 := Lib.hid (E1.out.below hb)
  clear E0 E1 hb
  have b1 := E2.out.bx 3 rfl
  have c1_0 := b1.cell 0 rfl
  clear b1
  go_wp2_with fail
  refine (rvalidF v1.out (gS.sl (E2.out.fc 2 rfl))).mono ?_
  rintro e w2 ⟨rfl, hb⟩
  have E3 := Lib.hid (E2.out.below hb)
  clear c1_0 E2 hb
  have b2 := E3.out.bx 2 rfl
  have c2_0 := b2.cell 0 rfl
  clear b2
  go_wp2_with fail
  refine (rvalidF v2.out (gS.sl (E3.out.fc 1 rfl))).mono ?_
  rintro e w3 ⟨rfl, hb⟩
  have E4 := Lib.hid (E3.out.below hb)
  clear c2_0 E3 hb
  have b3 := E4.out.bx 1 rfl
  have c3_0 := b3.cell 0 rfl
  clear b3
  go_wp2_with fail
  refine (rvalidF v3.out (gS.sl (E4.out.fc 0 rfl))).mono ?_
  rintro e w4 ⟨rfl, hb⟩
  have E5 := Lib.hid (E4.out.below hb)
  clear c3_0 E4 hb
  have b4 := E5.out.bx 4 rfl
  have c4_0 := b4.cell 0 rfl
  have c4_1 := b4.cell 1 rfl
  clear b4
  have b5 := E5.out.bx 3 rfl
  have c5_0 := b5.cell 0 rfl
  clear b5
  go_wp2_with fail
  refine (vresidue_c N B (gS.sl (E5.out.fc 4 rfl)) (gS.sl (E5.out.fc 2 rfl)) h1.out).mono ?_
  rintro e w5 ⟨rfl, hb⟩
  have E6 := Lib.hid (E5.out.below hb)
  clear c4_0 c4_1 c5_0 E5 hb
  have b6 := E6.out.bx 4 rfl
  have c6_0 := b6.cell 0 rfl
  have c6_1 := b6.cell 1 rfl
  clear b6
  have b7 := E6.out.bx 2 rfl
  have c7_0 := b7.cell 0 rfl
  clear b7
  go_wp2_with fail
  refine (vresidue_c N X (gS.sl (E6.out.fc 4 rfl)) (gS.sl (E6.out.fc 1 rfl)) h2.out).mono ?_
  rintro e w6 ⟨rfl, hb⟩
  have E7 := Lib.hid (E6.out.below hb)
  clear c6_0 c6_1 c7_0 E6 hb
  have b8 := E7.out.bx 4 rfl
  have c8_0 := b8.cell 0 rfl
  have c8_1 := b8.cell 1 rfl
  clear b8
  have b9 := E7.out.bx 1 rfl
  have c9_0 := b9.cell 0 rfl
  clear b9
  go_wp2_with fail
  refine (vresidue_c N T (gS.sl (E7.out.fc 4 rfl)) (gS.sl (E7.out.fc 0 rfl)) h3.out).mono ?_
  rintro e w7 ⟨rfl, hb⟩
  have E8 := Lib.hid (E7.out.below hb)
  clear c8_0 c8_1 c9_0 E7 hb
  go_wp2_with fail
  have E9 := Lib.hid E8.out.drew
  clear E8
  refine wp_regionU (S := fun w' => w'.cell? ⟨w.heap.size + 1 + 1, 0, none⟩ = some (.slice sa (Nn.NatMath.len X) sk) ∧ w'.cell? ⟨w.heap.size, 1, none⟩ = some (.slice ea (Nn.NatMath.len E) ek) ∧ w'.cell? ⟨w.heap.size, 0, none⟩ = some (.slice na (Nn.NatMath.len N) nk) ∧ w'.cell? ⟨w.heap.size + 1, 0, none⟩ = some (.slice ba (Nn.NatMath.len B) bk)) [] (by kernel_rfl) (⟨((E9.out.bx 2 rfl).cell 0 rfl), ((E9.out.bx 4 rfl).cell 1 rfl), ((E9.out.bx 4 rfl).cell 0 rfl), ((E9.out.bx 3 rfl).cell 0 rfl)⟩) (fun hHeld => ?_)
  generalize w7.drew = w8 at *
  refine uTk (i := 0) (some 48) (v := ?_) ?_ ?_
  rotate_left
  · (intro wS hSw; (try dsimp only at hSw); go_simp; try with_reducible rfl)
  try simp only [Act.put, pq0, pq1, pq2]
  refine uTk (i := 1) (some 49) (v := ?_) ?_ ?_
  rotate_left
  · (intro wS hSw; (try dsimp only at hSw); go_simp; try with_reducible rfl)
  try simp only [Act.put, pq0, pq1, pq2]
  refine uTk (i := 2) (some 50) (v := ?_) ?_ ?_
  rotate_left
  · (intro wS hSw; (try dsimp only at hSw); go_simp; try with_reducible rfl)
  try simp only [Act.put, pq0, pq1, pq2]
  refine uTk (i := 3) (some 51) (v := ?_) ?_ ?_
  rotate_left
  · (intro wS hSw; (try dsimp only at hSw); go_simp; try with_reducible rfl)
  try simp only [Act.put, pq0, pq1, pq2]
  refine uTk (i := 4) (some 52) (v := ?_) ?_ ?_
  rotate_left
  · (intro wS hSw; (try dsimp only at hSw); go_simp; try with_reducible rfl)
  try simp only [Act.put, pq0, pq1, pq2]
  refine uTk (i := 6) (some 54) (v := ?_) ?_ ?_
  rotate_left
  · (intro wS hSw; (try dsimp only at hSw); go_simp; try with_reducible rfl)
  try simp only [Act.put, pq0, pq1, pq2]
  refine uReady (rs := [5]) (by kernel_rfl) (by simp) ?_
  refine ReadyU.cons rfl (fun KK hKK => ?_) ReadyU.nil
  go_simp
  refine (Nn.rPow_c hp.out (Nat.le_trans HK.out.lE (by omega)) HX.out (Nat.le_trans HK.out.lN (by omega)) (gS.sl (E9.out.fc 1 rfl)) (gS.sl (E9.out.fc 3 rfl)) (gS.sl (E9.out.fc 4 rfl))).mono ?_
  rintro e w9 ⟨⟨ra, rk, rfl, rh⟩, hb⟩
  have E10 := Lib.hid ((E9.out.below hb).noteS rh.out rfl)
  clear E9 hb rh
  (try dsimp only)
  clear hHeld
  refine hKK.out _ _ (⟨((E10.out.bx 2 rfl).cell 0 rfl), ((E10.out.bx 4 rfl).cell 1 rfl), ((E10.out.bx 4 rfl).cell 0 rfl), ((E10.out.bx 3 rfl).cell 0 rfl)⟩) (fun hHeld => ?_)
  clear hKK KK
  try simp only [Act.put, pq0, pq1, pq2]
  refine uReady (rs := [7]) (by kernel_rfl) (by simp) ?_
  refine ReadyU.cons rfl (fun KK hKK => ?_) ReadyU.nil
  go_simp
  refine (Nn.rSame_c hq.out (gS.sl (E10.out.fc 0 rfl)) (gS.sl (E10.out.fc 3 rfl))).mono ?_
  rintro e w10 ⟨rfl, hb⟩
  have E11 := Lib.hid (E10.out.below hb)
  clear E10 hb
  (try dsimp only)
  clear hHeld
  refine hKK.out _ _ (⟨((E11.out.bx 2 rfl).cell 0 rfl), ((E11.out.bx 4 rfl).cell 1 rfl), ((E11.out.bx 4 rfl).cell 0 rfl), ((E11.out.bx 3 rfl).cell 0 rfl)⟩) (fun hHeld => ?_)
  clear hKK KK
  try simp only [Act.put, pq0, pq1, pq2]
  refine uTk (i := 8) (some 56) (v := ?_) ?_ ?_
  rotate_left
  · (intro wS hSw; (try dsimp only at hSw); go_simp; try with_reducible rfl)
  try simp only [Act.put, pq0, pq1, pq2]
  refine uDone (by kernel_rfl) ?_ _
  have b10 := E11.out.bx 4 rfl
  have c10_0 := b10.cell 0 rfl
  have c10_1 := b10.cell 1 rfl
  clear b10
  have b11 := E11.out.bx 1 rfl
  have c11_0 := b11.cell 0 rfl
  clear b11
  go_wp2_with fail
  refine (unit_0L N (gS.sl (E11.out.fc 5 rfl)) lz.out).mono ?_
  rintro e w11 ⟨rfl, hb⟩
  have E12 := Lib.hid (E11.out.below hb)
  clear c10_0 c10_1 c11_0 E11 hb
  have b12 := E12.out.bx 0 rfl
  have c12_0 := b12.cell 0 rfl
  have f12_0 := b12.frozen 0
  clear b12
  go_wp2
  have E13 : Hid (Env (fun _ => True) w [(w.heap.size + 1 + 1 + 1 + 1, 24, [.slice none 0 0]), (w.heap.size + 1 + 1 + 1, 24, [.slice ta (Nn.NatMath.len T) tk]), (w.heap.size + 1 + 1, 24, [.slice sa (Nn.NatMath.len X) sk]), (w.heap.size + 1, 24, [.slice ba (Nn.NatMath.len B) bk]), (w.heap.size, 26, [.slice na (Nn.NatMath.len N) nk, .slice ea (Nn.NatMath.len E) ek])] [.gn (gS (.slice ra (Nn.NatMath.len r1) rk) (Nn.NatMath.digs r1)), .gn (gS (.slice ta (Nn.NatMath.len T) tk) (Nn.NatMath.digs T)), .gn (gS (.slice sa (Nn.NatMath.len X) sk) (Nn.NatMath.digs X)), .gn (gS (.slice ba (Nn.NatMath.len B) bk) (Nn.NatMath.digs B)), .gn (gS (.slice ea (Nn.NatMath.len E) ek) (Nn.NatMath.digs E)), .gn (gS (.slice na (Nn.NatMath.len N) nk) (Nn.NatMath.digs N))] _) := Lib.hid ((E12.out.set 0 0 (.slice none 0 0) rfl))
  have hfin := E13.out
  have q13 := (hfin.bx 0 rfl).cell 0 rfl
  exact bodyPost_ret (v := .tuple #[.agg #[.slice none 0 0], .int .i64 10]) (by simp [results, Tryz.results11, go_sem, q13]) rfl ⟨rfl, hfin.bel⟩
set_option maxRecDepth 100000 in
set_option maxHeartbeats 4000000 in
theorem Link_6 (N E B X T : Nat) {na ea ba sa ta : Option Addr} {nk ek bk sk tk : Nat} {w : World} (hN : Nn.Sl w (.slice na (Nn.NatMath.len N) nk) (Nn.NatMath.digs N)) (hE : Nn.Sl w (.slice ea (Nn.NatMath.len E) ek) (Nn.NatMath.digs E)) (hB : Nn.Sl w (.slice ba (Nn.NatMath.len B) bk) (Nn.NatMath.digs B)) (hS : Nn.Sl w (.slice sa (Nn.NatMath.len X) sk) (Nn.NatMath.digs X)) (hT : Nn.Sl w (.slice ta (Nn.NatMath.len T) tk) (Nn.NatMath.digs T)) (HK0 : Key N E) (v10 : Nn.vld (Nn.NatMath.digs B) = true) (v20 : Nn.vld (Nn.NatMath.digs X) = true) (v30 : Nn.vld (Nn.NatMath.digs T) = true) (lT0 : Nn.NatMath.len T ≤ 64) (h10 : decide (B < N) = true) (h20 : decide (X < N) = true) (h30 : decide (T < N) = true) {r1 : Nat} (hp0 : X ^ E % N = r1) (hq0 : decide (r1 = B) = true) (hz0 : 0 < Nn.NatMath.len T) (hg0 : decide (Nat.gcd T N = 1) = false) :
    Calls Tryz.prog 11 #[.agg #[.slice na (Nn.NatMath.len N) nk, .slice ea (Nn.NatMath.len E) ek], .agg #[.slice ba (Nn.NatMath.len B) bk], .agg #[.slice sa (Nn.NatMath.len X) sk], .agg #[.slice ta (Nn.NatMath.len T) tk]] w fun e w' => e = .returned (.tuple #[.agg #[.slice none 0 0], .int .i64 10]) ∧ Below w.heap.size w w' := by
  have E0 := Lib.hid ((((((Env.start (fun _ => True) w).argS hN).argS hE).argS hB).argS hS).argS hT)
  clear hN hE hB hS hT
  go_enter Tryz.func11, Tryz.ntmps11
  have HK := Lib.hid HK0
  have v1 := Lib.hid v10
  have v2 := Lib.hid v20
  have v3 := Lib.hid v30
  have lT := Lib.hid lT0
  have h1 := Lib.hid h10
  have h2 := Lib.hid h20
  have h3 := Lib.hid h30
  have hp := Lib.hid hp0
  have hq := Lib.hid hq0
  have hz := Lib.hid hz0
  have hg := Lib.hid hg0
  clear HK0 v10 v20 v30 lT0 h10 h20 h30 hp0 hq0 hz0 hg0
  have HX := Lib.hid (of_decide_eq_true h2.out)
  have HT := Lib.hid (of_decide_eq_true h3.out)
  have E1 := Lib.hid ((((((E0.out.push 26 [.slice na (Nn.NatMath.len N) nk, .slice ea (Nn.NatMath.len E) ek] (w.heap.size) (by simp)).push 24 [.slice ba (Nn.NatMath.len B) bk] (w.heap.size + 1) (by simp)).push 24 [.slice sa (Nn.NatMath.len X) sk] (w.heap.size + 1 + 1) (by simp)).push 24 [.slice ta (Nn.NatMath.len T) tk] (w.heap.size + 1 + 1 + 1) (by simp)).push 24 [.slice none 0 0] (w.heap.size + 1 + 1 + 1 + 1) (by simp)))
  go_wp2_with fail
  refine (rKey_c HK.out.k (gS.sl (E1.out.fc 4 rfl)) (gS.sl (E1.out.fc 3 rfl))).mono ?_
  rintro e w1 ⟨rfl, hb⟩
  have E2 := Lib.hid (E1.out.below hb)
  clear E0 E1 hb
  have b1 := E2.out.bx 3 rfl
  have c1_0 := b1.cell 0 rfl
  clear b1
  go_wp2_with fail
  refine (rvalidF v1.out (gS.sl (E2.out.fc 2 rfl))).mono ?_
  rintro e w2 ⟨rfl, hb⟩
  have E3 := Lib.hid (E2.out.below hb)
  clear c1_0 E2 hb
  have b2 := E3.out.bx 2 rfl
  have c2_0 := b2.cell 0 rfl
  clear b2
  go_wp2_with fail
  refine (rvalidF v2.out (gS.sl (E3.out.fc 1 rfl))).mono ?_
  rintro e w3 ⟨rfl, hb⟩
  have E4 := Lib.hid (E3.out.below hb)
  clear c2_0 E3 hb
  have b3 := E4.out.bx 1 rfl
  have c3_0 := b3.cell 0 rfl
  clear b3
  go_wp2_with fail
  refine (rvalidF v3.out (gS.sl (E4.out.fc 0 rfl))).mono ?_
  rintro e w4 ⟨rfl, hb⟩
  have E5 := Lib.hid (E4.out.below hb)
  clear c3_0 E4 hb
  have b4 := E5.out.bx 4 rfl
  have c4_0 := b4.cell 0 rfl
  have c4_1 := b4.cell 1 rfl
  clear b4
  have b5 := E5.out.bx 3 rfl
  have c5_0 := b5.cell 0 rfl
  clear b5
  go_wp2_with fail
  refine (vresidue_c N B (gS.sl (E5.out.fc 4 rfl)) (gS.sl (E5.out.fc 2 rfl)) h1.out).mono ?_
  rintro e w5 ⟨rfl, hb⟩
  have E6 := Lib.hid (E5.out.below hb)
  clear c4_0 c4_1 c5_0 E5 hb
  have b6 := E6.out.bx 4 rfl
  have c6_0 := b6.cell 0 rfl
  have c6_1 := b6.cell 1 rfl
  clear b6
  have b7 := E6.out.bx 2 rfl
  have c7_0 := b7.cell 0 rfl
  clear b7
  go_wp2_with fail
  refine (vresidue_c N X (gS.sl (E6.out.fc 4 rfl)) (gS.sl (E6.out.fc 1 rfl)) h2.out).mono ?_
  rintro e w6 ⟨rfl, hb⟩
  have E7 := Lib.hid (E6.out.below hb)
  clear c6_0 c6_1 c7_0 E6 hb
  have b8 := E7.out.bx 4 rfl
  have c8_0 := b8.cell 0 rfl
  have c8_1 := b8.cell 1 rfl
  clear b8
  have b9 := E7.out.bx 1 rfl
  have c9_0 := b9.cell 0 rfl
  clear b9
  go_wp2_with fail
  refine (vresidue_c N T (gS.sl (E7.out.fc 4 rfl)) (gS.sl (E7.out.fc 0 rfl)) h3.out).mono ?_
  rintro e w7 ⟨rfl, hb⟩
  have E8 := Lib.hid (E7.out.below hb)
  clear c8_0 c8_1 c9_0 E7 hb
  go_wp2_with fail
  have E9 := Lib.hid E8.out.drew
  clear E8
  refine wp_regionU (S := fun w' => w'.cell? ⟨w.heap.size + 1 + 1, 0, none⟩ = some (.slice sa (Nn.NatMath.len X) sk) ∧ w'.cell? ⟨w.heap.size, 1, none⟩ = some (.slice ea (Nn.NatMath.len E) ek) ∧ w'.cell? ⟨w.heap.size, 0, none⟩ = some (.slice na (Nn.NatMath.len N) nk) ∧ w'.cell? ⟨w.heap.size + 1, 0, none⟩ = some (.slice ba (Nn.NatMath.len B) bk)) [] (by kernel_rfl) (⟨((E9.out.bx 2 rfl).cell 0 rfl), ((E9.out.bx 4 rfl).cell 1 rfl), ((E9.out.bx 4 rfl).cell 0 rfl), ((E9.out.bx 3 rfl).cell 0 rfl)⟩) (fun hHeld => ?_)
  generalize w7.drew = w8 at *
  refine uTk (i := 0) (some 48) (v := ?_) ?_ ?_
  rotate_left
  · (intro wS hSw; (try dsimp only at hSw); go_simp; try with_reducible rfl)
  try simp only [Act.put, pq0, pq1, pq2]
  refine uTk (i := 1) (some 49) (v := ?_) ?_ ?_
  rotate_left
  · (intro wS hSw; (try dsimp only at hSw); go_simp; try with_reducible rfl)
  try simp only [Act.put, pq0, pq1, pq2]
  refine uTk (i := 2) (some 50) (v := ?_) ?_ ?_
  rotate_left
  · (intro wS hSw; (try dsimp only at hSw); go_simp; try with_reducible rfl)
  try simp only [Act.put, pq0, pq1, pq2]
  refine uTk (i := 3) (some 51) (v := ?_) ?_ ?_
  rotate_left
  · (intro wS hSw; (try dsimp only at hSw); go_simp; try with_reducible rfl)
  try simp only [Act.put, pq0, pq1, pq2]
  refine uTk (i := 4) (some 52) (v := ?_) ?_ ?_
  rotate_left
  · (intro wS hSw; (try dsimp only at hSw); go_simp; try with_reducible rfl)
  try simp only [Act.put, pq0, pq1, pq2]
  refine uTk (i := 6) (some 54) (v := ?_) ?_ ?_
  rotate_left
  · (intro wS hSw; (try dsimp only at hSw); go_simp; try with_reducible rfl)
  try simp only [Act.put, pq0, pq1, pq2]
  refine uReady (rs := [5]) (by kernel_rfl) (by simp) ?_
  refine ReadyU.cons rfl (fun KK hKK => ?_) ReadyU.nil
  go_simp
  refine (Nn.rPow_c hp.out (Nat.le_trans HK.out.lE (by omega)) HX.out (Nat.le_trans HK.out.lN (by omega)) (gS.sl (E9.out.fc 1 rfl)) (gS.sl (E9.out.fc 3 rfl)) (gS.sl (E9.out.fc 4 rfl))).mono ?_
  rintro e w9 ⟨⟨ra, rk, rfl, rh⟩, hb⟩
  have E10 := Lib.hid ((E9.out.below hb).noteS rh.out rfl)
  clear E9 hb rh
  (try dsimp only)
  clear hHeld
  refine hKK.out _ _ (⟨((E10.out.bx 2 rfl).cell 0 rfl), ((E10.out.bx 4 rfl).cell 1 rfl), ((E10.out.bx 4 rfl).cell 0 rfl), ((E10.out.bx 3 rfl).cell 0 rfl)⟩) (fun hHeld => ?_)
  clear hKK KK
  try simp only [Act.put, pq0, pq1, pq2]
  refine uReady (rs := [7]) (by kernel_rfl) (by simp) ?_
  refine ReadyU.cons rfl (fun KK hKK => ?_) ReadyU.nil
  go_simp
  refine (Nn.rSame_c hq.out (gS.sl (E10.out.fc 0 rfl)) (gS.sl (E10.out.fc 3 rfl))).mono ?_
  rintro e w10 ⟨rfl, hb⟩
  have E11 := Lib.hid (E10.out.below hb)
  clear E10 hb
  (try dsimp only)
  clear hHeld
  refine hKK.out _ _ (⟨((E11.out.bx 2 rfl).cell 0 rfl), ((E11.out.bx 4 rfl).cell 1 rfl), ((E11.out.bx 4 rfl).cell 0 rfl), ((E11.out.bx 3 rfl).cell 0 rfl)⟩) (fun hHeld => ?_)
  clear hKK KK
  try simp only [Act.put, pq0, pq1, pq2]
  refine uTk (i := 8) (some 56) (v := ?_) ?_ ?_
  rotate_left
  · (intro wS hSw; (try dsimp only at hSw); go_simp; try with_reducible rfl)
  try simp only [Act.put, pq0, pq1, pq2]
  refine uDone (by kernel_rfl) ?_ _
  have b10 := E11.out.bx 4 rfl
  have c10_0 := b10.cell 0 rfl
  have c10_1 := b10.cell 1 rfl
  clear b10
  have b11 := E11.out.bx 1 rfl
  have c11_0 := b11.cell 0 rfl
  clear b11
  go_wp2_with fail
  refine (unit_c N T (gS.sl (E11.out.fc 5 rfl)) (gS.sl (E11.out.fc 1 rfl)) hg.out hz.out lT.out (Nat.le_trans HK.out.lN (by omega))).mono ?_
  rintro e w11 ⟨rfl, hb⟩
  have E12 := Lib.hid (E11.out.below hb)
  clear c10_0 c10_1 c11_0 E11 hb
  have b12 := E12.out.bx 0 rfl
  have c12_0 := b12.cell 0 rfl
  have f12_0 := b12.frozen 0
  clear b12
  go_wp2
  have E13 : Hid (Env (fun _ => True) w [(w.heap.size + 1 + 1 + 1 + 1, 24, [.slice none 0 0]), (w.heap.size + 1 + 1 + 1, 24, [.slice ta (Nn.NatMath.len T) tk]), (w.heap.size + 1 + 1, 24, [.slice sa (Nn.NatMath.len X) sk]), (w.heap.size + 1, 24, [.slice ba (Nn.NatMath.len B) bk]), (w.heap.size, 26, [.slice na (Nn.NatMath.len N) nk, .slice ea (Nn.NatMath.len E) ek])] [.gn (gS (.slice ra (Nn.NatMath.len r1) rk) (Nn.NatMath.digs r1)), .gn (gS (.slice ta (Nn.NatMath.len T) tk) (Nn.NatMath.digs T)), .gn (gS (.slice sa (Nn.NatMath.len X) sk) (Nn.NatMath.digs X)), .gn (gS (.slice ba (Nn.NatMath.len B) bk) (Nn.NatMath.digs B)), .gn (gS (.slice ea (Nn.NatMath.len E) ek) (Nn.NatMath.digs E)), .gn (gS (.slice na (Nn.NatMath.len N) nk) (Nn.NatMath.digs N))] _) := Lib.hid ((E12.out.set 0 0 (.slice none 0 0) rfl))
  have hfin := E13.out
  have q13 := (hfin.bx 0 rfl).cell 0 rfl
  exact bodyPost_ret (v := .tuple #[.agg #[.slice none 0 0], .int .i64 10]) (by simp [results, Tryz.results11, go_sem, q13]) rfl ⟨rfl, hfin.bel⟩
set_option maxRecDepth 100000 in
set_option maxHeartbeats 4000000 in
theorem Link_7 (N E B X T : Nat) {na ea ba sa ta : Option Addr} {nk ek bk sk tk : Nat} {w : World} (hN : Nn.Sl w (.slice na (Nn.NatMath.len N) nk) (Nn.NatMath.digs N)) (hE : Nn.Sl w (.slice ea (Nn.NatMath.len E) ek) (Nn.NatMath.digs E)) (hB : Nn.Sl w (.slice ba (Nn.NatMath.len B) bk) (Nn.NatMath.digs B)) (hS : Nn.Sl w (.slice sa (Nn.NatMath.len X) sk) (Nn.NatMath.digs X)) (hT : Nn.Sl w (.slice ta (Nn.NatMath.len T) tk) (Nn.NatMath.digs T)) (HK0 : Key N E) (v10 : Nn.vld (Nn.NatMath.digs B) = true) (v20 : Nn.vld (Nn.NatMath.digs X) = true) (v30 : Nn.vld (Nn.NatMath.digs T) = true) (lT0 : Nn.NatMath.len T ≤ 64) (h10 : decide (B < N) = true) (h20 : decide (X < N) = true) (h30 : decide (T < N) = true) {r1 : Nat} (hp0 : X ^ E % N = r1) (hq0 : decide (r1 = B) = true) {v r2 : Nat} (hz0 : 0 < Nn.NatMath.len T) (hg0 : decide (Nat.gcd T N = 1) = true) (hi0 : decide (Nn.NatMath.invG T N = 1) = true) (hV0 : Nn.NatMath.invV T N = v) (hr0 : X * v % N = r2) :
    Calls Tryz.prog 11 #[.agg #[.slice na (Nn.NatMath.len N) nk, .slice ea (Nn.NatMath.len E) ek], .agg #[.slice ba (Nn.NatMath.len B) bk], .agg #[.slice sa (Nn.NatMath.len X) sk], .agg #[.slice ta (Nn.NatMath.len T) tk]] w fun e w' => Nn.ResN r2 0 e w' ∧ Below w.heap.size w w' := by
  have E0 := Lib.hid ((((((Env.start (fun _ => True) w).argS hN).argS hE).argS hB).argS hS).argS hT)
  clear hN hE hB hS hT
  go_enter Tryz.func11, Tryz.ntmps11
  have HK := Lib.hid HK0
  have v1 := Lib.hid v10
  have v2 := Lib.hid v20
  have v3 := Lib.hid v30
  have lT := Lib.hid lT0
  have h1 := Lib.hid h10
  have h2 := Lib.hid h20
  have h3 := Lib.hid h30
  have hp := Lib.hid hp0
  have hq := Lib.hid hq0
  have hz := Lib.hid hz0
  have hg := Lib.hid hg0
  have hi := Lib.hid hi0
  have hV := Lib.hid hV0
  have hr := Lib.hid hr0
  clear HK0 v10 v20 v30 lT0 h10 h20 h30 hp0 hq0 hz0 hg0 hi0 hV0 hr0
  have HVN : Hid (Nn.NatMath.len v ≤ 1000) := Lib.hid (by rw [← hV.out]; exact Nat.le_trans (Nn.NatMath.len_mono (Nat.le_of_lt (Nn.NatMath.invV_lt (by have := HK.out.n15; omega)))) (Nat.le_trans HK.out.lN (by omega)))
  have HX := Lib.hid (of_decide_eq_true h2.out)
  have HT := Lib.hid (of_decide_eq_true h3.out)
  have E1 := Lib.hid ((((((E0.out.push 26 [.slice na (Nn.NatMath.len N) nk, .slice ea (Nn.NatMath.len E) ek] (w.heap.size) (by simp)).push 24 [.slice ba (Nn.NatMath.len B) bk] (w.heap.size + 1) (by simp)).push 24 [.slice sa (Nn.NatMath.len X) sk] (w.heap.size + 1 + 1) (by simp)).push 24 [.slice ta (Nn.NatMath.len T) tk] (w.heap.size + 1 + 1 + 1) (by simp)).push 24 [.slice none 0 0] (w.heap.size + 1 + 1 + 1 + 1) (by simp)))
  go_wp2_with fail
  refine (rKey_c HK.out.k (gS.sl (E1.out.fc 4 rfl)) (gS.sl (E1.out.fc 3 rfl))).mono ?_
  rintro e w1 ⟨rfl, hb⟩
  have E2 := Lib.hid (E1.out.below hb)
  clear E0 E1 hb
  have b1 := E2.out.bx 3 rfl
  have c1_0 := b1.cell 0 rfl
  clear b1
  go_wp2_with fail
  refine (rvalidF v1.out (gS.sl (E2.out.fc 2 rfl))).mono ?_
  rintro e w2 ⟨rfl, hb⟩
  have E3 := Lib.hid (E2.out.below hb)
  clear c1_0 E2 hb
  have b2 := E3.out.bx 2 rfl
  have c2_0 := b2.cell 0 rfl
  clear b2
  go_wp2_with fail
  refine (rvalidF v2.out (gS.sl (E3.out.fc 1 rfl))).mono ?_
  rintro e w3 ⟨rfl, hb⟩
  have E4 := Lib.hid (E3.out.below hb)
  clear c2_0 E3 hb
  have b3 := E4.out.bx 1 rfl
  have c3_0 := b3.cell 0 rfl
  clear b3
  go_wp2_with fail
  refine (rvalidF v3.out (gS.sl (E4.out.fc 0 rfl))).mono ?_
  rintro e w4 ⟨rfl, hb⟩
  have E5 := Lib.hid (E4.out.below hb)
  clear c3_0 E4 hb
  have b4 := E5.out.bx 4 rfl
  have c4_0 := b4.cell 0 rfl
  have c4_1 := b4.cell 1 rfl
  clear b4
  have b5 := E5.out.bx 3 rfl
  have c5_0 := b5.cell 0 rfl
  clear b5
  go_wp2_with fail
  refine (vresidue_c N B (gS.sl (E5.out.fc 4 rfl)) (gS.sl (E5.out.fc 2 rfl)) h1.out).mono ?_
  rintro e w5 ⟨rfl, hb⟩
  have E6 := Lib.hid (E5.out.below hb)
  clear c4_0 c4_1 c5_0 E5 hb
  have b6 := E6.out.bx 4 rfl
  have c6_0 := b6.cell 0 rfl
  have c6_1 := b6.cell 1 rfl
  clear b6
  have b7 := E6.out.bx 2 rfl
  have c7_0 := b7.cell 0 rfl
  clear b7
  go_wp2_with fail
  refine (vresidue_c N X (gS.sl (E6.out.fc 4 rfl)) (gS.sl (E6.out.fc 1 rfl)) h2.out).mono ?_
  rintro e w6 ⟨rfl, hb⟩
  have E7 := Lib.hid (E6.out.below hb)
  clear c6_0 c6_1 c7_0 E6 hb
  have b8 := E7.out.bx 4 rfl
  have c8_0 := b8.cell 0 rfl
  have c8_1 := b8.cell 1 rfl
  clear b8
  have b9 := E7.out.bx 1 rfl
  have c9_0 := b9.cell 0 rfl
  clear b9
  go_wp2_with fail
  refine (vresidue_c N T (gS.sl (E7.out.fc 4 rfl)) (gS.sl (E7.out.fc 0 rfl)) h3.out).mono ?_
  rintro e w7 ⟨rfl, hb⟩
  have E8 := Lib.hid (E7.out.below hb)
  clear c8_0 c8_1 c9_0 E7 hb
  go_wp2_with fail
  have E9 := Lib.hid E8.out.drew
  clear E8
  refine wp_regionU (S := fun w' => w'.cell? ⟨w.heap.size + 1 + 1, 0, none⟩ = some (.slice sa (Nn.NatMath.len X) sk) ∧ w'.cell? ⟨w.heap.size, 1, none⟩ = some (.slice ea (Nn.NatMath.len E) ek) ∧ w'.cell? ⟨w.heap.size, 0, none⟩ = some (.slice na (Nn.NatMath.len N) nk) ∧ w'.cell? ⟨w.heap.size + 1, 0, none⟩ = some (.slice ba (Nn.NatMath.len B) bk)) [] (by kernel_rfl) (⟨((E9.out.bx 2 rfl).cell 0 rfl), ((E9.out.bx 4 rfl).cell 1 rfl), ((E9.out.bx 4 rfl).cell 0 rfl), ((E9.out.bx 3 rfl).cell 0 rfl)⟩) (fun hHeld => ?_)
  generalize w7.drew = w8 at *
  refine uTk (i := 0) (some 48) (v := ?_) ?_ ?_
  rotate_left
  · (intro wS hSw; (try dsimp only at hSw); go_simp; try with_reducible rfl)
  try simp only [Act.put, pq0, pq1, pq2]
  refine uTk (i := 1) (some 49) (v := ?_) ?_ ?_
  rotate_left
  · (intro wS hSw; (try dsimp only at hSw); go_simp; try with_reducible rfl)
  try simp only [Act.put, pq0, pq1, pq2]
  refine uTk (i := 2) (some 50) (v := ?_) ?_ ?_
  rotate_left
  · (intro wS hSw; (try dsimp only at hSw); go_simp; try with_reducible rfl)
  try simp only [Act.put, pq0, pq1, pq2]
  refine uTk (i := 3) (some 51) (v := ?_) ?_ ?_
  rotate_left
  · (intro wS hSw; (try dsimp only at hSw); go_simp; try with_reducible rfl)
  try simp only [Act.put, pq0, pq1, pq2]
  refine uTk (i := 4) (some 52) (v := ?_) ?_ ?_
  rotate_left
  · (intro wS hSw; (try dsimp only at hSw); go_simp; try with_reducible rfl)
  try simp only [Act.put, pq0, pq1, pq2]
  refine uTk (i := 6) (some 54) (v := ?_) ?_ ?_
  rotate_left
  · (intro wS hSw; (try dsimp only at hSw); go_simp; try with_reducible rfl)
  try simp only [Act.put, pq0, pq1, pq2]
  refine uReady (rs := [5]) (by kernel_rfl) (by simp) ?_
  refine ReadyU.cons rfl (fun KK hKK => ?_) ReadyU.nil
  go_simp
  refine (Nn.rPow_c hp.out (Nat.le_trans HK.out.lE (by omega)) HX.out (Nat.le_trans HK.out.lN (by omega)) (gS.sl (E9.out.fc 1 rfl)) (gS.sl (E9.out.fc 3 rfl)) (gS.sl (E9.out.fc 4 rfl))).mono ?_
  rintro e w9 ⟨⟨ra, rk, rfl, rh⟩, hb⟩
  have E10 := Lib.hid ((E9.out.below hb).noteS rh.out rfl)
  clear E9 hb rh
  (try dsimp only)
  clear hHeld
  refine hKK.out _ _ (⟨((E10.out.bx 2 rfl).cell 0 rfl), ((E10.out.bx 4 rfl).cell 1 rfl), ((E10.out.bx 4 rfl).cell 0 rfl), ((E10.out.bx 3 rfl).cell 0 rfl)⟩) (fun hHeld => ?_)
  clear hKK KK
  try simp only [Act.put, pq0, pq1, pq2]
  refine uReady (rs := [7]) (by kernel_rfl) (by simp) ?_
  refine ReadyU.cons rfl (fun KK hKK => ?_) ReadyU.nil
  go_simp
  refine (Nn.rSame_c hq.out (gS.sl (E10.out.fc 0 rfl)) (gS.sl (E10.out.fc 3 rfl))).mono ?_
  rintro e w10 ⟨rfl, hb⟩
  have E11 := Lib.hid (E10.out.below hb)
  clear E10 hb
  (try dsimp only)
  clear hHeld
  refine hKK.out _ _ (⟨((E11.out.bx 2 rfl).cell 0 rfl), ((E11.out.bx 4 rfl).cell 1 rfl), ((E11.out.bx 4 rfl).cell 0 rfl), ((E11.out.bx 3 rfl).cell 0 rfl)⟩) (fun hHeld => ?_)
  clear hKK KK
  try simp only [Act.put, pq0, pq1, pq2]
  refine uTk (i := 8) (some 56) (v := ?_) ?_ ?_
  rotate_left
  · (intro wS hSw; (try dsimp only at hSw); go_simp; try with_reducible rfl)
  try simp only [Act.put, pq0, pq1, pq2]
  refine uDone (by kernel_rfl) ?_ _
  have b10 := E11.out.bx 4 rfl
  have c10_0 := b10.cell 0 rfl
  have c10_1 := b10.cell 1 rfl
  clear b10
  have b11 := E11.out.bx 1 rfl
  have c11_0 := b11.cell 0 rfl
  clear b11
  go_wp2_with fail
  refine (unit_c N T (gS.sl (E11.out.fc 5 rfl)) (gS.sl (E11.out.fc 1 rfl)) hg.out hz.out lT.out (Nat.le_trans HK.out.lN (by omega))).mono ?_
  rintro e w11 ⟨rfl, hb⟩
  have E12 := Lib.hid (E11.out.below hb)
  clear c10_0 c10_1 c11_0 E11 hb
  have b12 := E12.out.bx 1 rfl
  have c12_0 := b12.cell 0 rfl
  clear b12
  have b13 := E12.out.bx 4 rfl
  have c13_0 := b13.cell 0 rfl
  clear b13
  go_wp2_with fail
  refine (Nn.rInv_c hV.out hi.out HT.out (Nat.le_trans HK.out.lN (by omega)) (gS.sl (E12.out.fc 1 rfl)) (gS.sl (E12.out.fc 5 rfl))).mono ?_
  rintro e w12 ⟨⟨ia, ik, rfl, ih⟩, hb⟩
  have E13 := Lib.hid ((E12.out.below hb).noteS ih.out rfl)
  clear c12_0 c13_0 E12 hb ih
  have E14 := Lib.hid ((E13.out.push 24 [.slice ia (Nn.NatMath.len v) ik] (w12.heap.size) (by simp)))
  have b14 := E14.out.bx 3 rfl
  have c14_0 := b14.cell 0 rfl
  clear b14
  have b15 := E14.out.bx 0 rfl
  have c15_0 := b15.cell 0 rfl
  clear b15
  have b16 := E14.out.bx 5 rfl
  have c16_0 := b16.cell 0 rfl
  clear b16
  go_wp2_with fail
  refine (Nn.rMul_c hr.out HX.out HVN.out (Nat.le_trans HK.out.lN (by omega)) (gS.sl (E14.out.fc 3 rfl)) (gS.sl (E14.out.fc 0 rfl)) (gS.sl (E14.out.fc 6 rfl))).mono ?_
  rintro e w13 ⟨⟨oa, ok, rfl, oh⟩, hb⟩
  have E15 := Lib.hid ((E14.out.below hb).noteS oh.out rfl)
  clear c14_0 c15_0 c16_0 E13 E14 hb oh
  have b17 := E15.out.bx 1 rfl
  have c17_0 := b17.cell 0 rfl
  have f17_0 := b17.frozen 0
  clear b17
  go_wp2
  have E16 : Hid (Env (fun _ => True) w [(w12.heap.size, 24, [.slice ia (Nn.NatMath.len v) ik]), (w.heap.size + 1 + 1 + 1 + 1, 24, [.slice oa (Nn.NatMath.len r2) ok]), (w.heap.size + 1 + 1 + 1, 24, [.slice ta (Nn.NatMath.len T) tk]), (w.heap.size + 1 + 1, 24, [.slice sa (Nn.NatMath.len X) sk]), (w.heap.size + 1, 24, [.slice ba (Nn.NatMath.len B) bk]), (w.heap.size, 26, [.slice na (Nn.NatMath.len N) nk, .slice ea (Nn.NatMath.len E) ek])] [.gn (gS (.slice oa (Nn.NatMath.len r2) ok) (Nn.NatMath.digs r2)), .gn (gS (.slice ia (Nn.NatMath.len v) ik) (Nn.NatMath.digs v)), .gn (gS (.slice ra (Nn.NatMath.len r1) rk) (Nn.NatMath.digs r1)), .gn (gS (.slice ta (Nn.NatMath.len T) tk) (Nn.NatMath.digs T)), .gn (gS (.slice sa (Nn.NatMath.len X) sk) (Nn.NatMath.digs X)), .gn (gS (.slice ba (Nn.NatMath.len B) bk) (Nn.NatMath.digs B)), .gn (gS (.slice ea (Nn.NatMath.len E) ek) (Nn.NatMath.digs E)), .gn (gS (.slice na (Nn.NatMath.len N) nk) (Nn.NatMath.digs N))] _) := Lib.hid ((E15.out.set 1 0 (.slice oa (Nn.NatMath.len r2) ok) rfl))
  have hfin := E16.out
  have q18 := (hfin.bx 1 rfl).cell 0 rfl
  exact bodyPost_ret (v := .tuple #[.agg #[.slice oa (Nn.NatMath.len r2) ok], .int .i64 0]) (by simp [results, Tryz.results11, go_sem, q18]) rfl ⟨⟨oa, ok, rfl, Lib.hid (gS.sl (hfin.out 0 rfl))⟩, hfin.bel⟩
end Go.Proofs.YtikopkkebdobdaaGreatDoor

/- Picked declarations of VsY, VsZ. -/
import Derived.Test.YtikopkkebdobdaaGreatDoorVxU
import Derived.Test.YtikopkkebdobdaaGreatDoorVxQ
namespace Go.Proofs.YtikopkkebdobdaaGreatDoor
set_option linter.unusedVariables false
set_option linter.unusedSimpArgs false
open Go.RowKit
open Go.RowKit
set_option maxRecDepth 100000 in
set_option maxHeartbeats 4000000 in
theorem rVerify_1 (lN lE lR : List Nat) (l : List Nat) {na ea ra ba : Option Addr} {nk ek rk bk : Nat} {w : World} (hN : Nn.Sl w (.slice na lN.length nk) lN) (hE : Nn.Sl w (.slice ea lE.length ek) lE) (hR : Nn.Sl w (.slice ra lR.length rk) lR) (hk0 : kV lN lE = false) :
  Calls Tryz.prog 23 #[.agg #[.slice na lN.length nk, .slice ea lE.length ek], .slice ba l.length bk, .agg #[.slice ra lR.length rk]] w fun e w' => e = .returned (.bool false) ∧ Below w.heap.size w w' := by
 have E0 := Zh ((((Env.start (fun _ => True) w).argS hN).argS hE).argS hR)
 clear hN hE hR
 go_enter Tryz.func23, Tryz.ntmps23
 have hk := Zh hk0
 clear hk0
 go_wp2_with fail
 have E1 := Zh (((E0.out.push 26 [.slice na lN.length nk, .slice ea lE.length ek] (w.heap.size) (by simp)).push 24 [.slice ra lR.length rk] (w.heap.size + 1) (by simp)))
 clear E0
 generalize (w.alloc (.cells #[.slice na lN.length nk, .slice ea lE.length ek] 26)).alloc (.cells #[.slice ra lR.length rk] 24) = w1 at *
 have E2 := Zh E1.out.drew
 clear E1
 refine wp_regionU (S := fun w' => w'.cell? ⟨w.heap.size, 0, none⟩ = some (.slice na lN.length nk) ∧ w'.cell? ⟨w.heap.size, 1, none⟩ = some (.slice ea lE.length ek)) [] (by kernel_rfl) (⟨((E2.out.bx 1 rfl).cell 0 rfl), ((E2.out.bx 1 rfl).cell 1 rfl)⟩) (fun hHeld => ?_)
 generalize w1.drew = w2 at *
 refine uTk (i := 0) (some 7) (v := ?_) ?_ ?_
 rotate_left
 ·(intro wS hSw; (try dsimp only at hSw); go_simp; try with_reducible rfl)
 try simp only [Act.put, pq0, pq1, pq2]
 refine uRd 1 (fun KK hKK => ?_)
 go_simp
 refine (rKey_c hk.out (gS.sl (E2.out.fc 2 rfl)) (gS.sl (E2.out.fc 1 rfl))).mono ?_
 rintro e w3 ⟨rfl, hb⟩
 have E3 := Zh (E2.out.below hb)
 clear E2 hb
 (try dsimp only)
 clear hHeld
 refine hKK.out _ _ (⟨((E3.out.bx 1 rfl).cell 0 rfl), ((E3.out.bx 1 rfl).cell 1 rfl)⟩) (fun hHeld => ?_)
 clear hKK KK
 try simp only [Act.put, pq0, pq1, pq2]
 refine uTk (i := 2) (some 9) (v := ?_) ?_ ?_
 rotate_left
 ·(intro wS hSw; (try dsimp only at hSw); go_simp; try with_reducible rfl)
 try simp only [Act.put, pq0, pq1, pq2]
 refine uPs (i := 3) (some 10) ?_
 try simp only [Act.put, pq0, pq1, pq2]
 refine uPs (i := 4) (some 11) ?_
 try simp only [Act.put, pq0, pq1, pq2]
 refine uPl [5, 6] ?_
 iterate 2 (refine uTl (v := ?_) ?_ ?_; rotate_left; (focus (intro wS hSw; (try dsimp only at hSw); go_simp; try with_reducible rfl)); try simp only [Act.put, pq0, pq1, pq2])
 refine Pl.z ?_
 refine uPs (i := 7) (some 14) ?_
 try simp only [Act.put, pq0, pq1, pq2]
 refine uPs (i := 8) (some 15) ?_
 try simp only [Act.put, pq0, pq1, pq2]
 refine uPs (i := 9) (some 16) ?_
 try simp only [Act.put, pq0, pq1, pq2]
 refine uPl [10, 11] ?_
 iterate 2 (refine uTl (v := ?_) ?_ ?_; rotate_left; (focus (intro wS hSw; (try dsimp only at hSw); go_simp; try with_reducible rfl)); try simp only [Act.put, pq0, pq1, pq2])
 refine Pl.z ?_
 refine uPs (i := 12) (some 19) ?_
 try simp only [Act.put, pq0, pq1, pq2]
 refine uPs (i := 13) (some 20) ?_
 try simp only [Act.put, pq0, pq1, pq2]
 refine uPs (i := 14) (some 21) ?_
 try simp only [Act.put, pq0, pq1, pq2]
 refine uPl [15, 16] ?_
 iterate 2 (refine uTl (v := ?_) ?_ ?_; rotate_left; (focus (intro wS hSw; (try dsimp only at hSw); go_simp; try with_reducible rfl)); try simp only [Act.put, pq0, pq1, pq2])
 refine Pl.z ?_
 refine uPs (i := 17) (some 24) ?_
 try simp only [Act.put, pq0, pq1, pq2]
 refine uPs (i := 18) (some 25) ?_
 try simp only [Act.put, pq0, pq1, pq2]
 refine uPs (i := 19) (some 26) ?_
 try simp only [Act.put, pq0, pq1, pq2]
 refine uPs (i := 20) (some 27) ?_
 try simp only [Act.put, pq0, pq1, pq2]
 refine uPs (i := 21) (some 28) ?_
 try simp only [Act.put, pq0, pq1, pq2]
 refine uPs (i := 22) (some 29) ?_
 try simp only [Act.put, pq0, pq1, pq2]
 refine uPs (i := 23) (some 30) ?_
 try simp only [Act.put, pq0, pq1, pq2]
 refine uPs (i := 24) (some 31) ?_
 try simp only [Act.put, pq0, pq1, pq2]
 refine uPs (i := 25) (some 32) ?_
 try simp only [Act.put, pq0, pq1, pq2]
 refine uPs (i := 26) (some 33) ?_
 try simp only [Act.put, pq0, pq1, pq2]
 refine uPl [27, 28] ?_
 iterate 2 (refine uTl (v := ?_) ?_ ?_; rotate_left; (focus (intro wS hSw; (try dsimp only at hSw); go_simp; try with_reducible rfl)); try simp only [Act.put, pq0, pq1, pq2])
 refine Pl.z ?_
 refine uDone (by kernel_rfl) ?_ _
 have hfin := Zh E3.out.bel
 go_wp2
 go_ret
 exact ⟨rfl, hfin.out⟩
set_option maxRecDepth 100000 in
set_option maxHeartbeats 4000000 in
theorem rVerify_2 (N E : Nat) (lR : List Nat) (l : List Nat) {na ea ra ba : Option Addr} {nk ek rk bk : Nat} {w : World} (hN : Nn.Sl w (.slice na (Nn.NatMath.len N) nk) (Nn.NatMath.digs N)) (hE : Nn.Sl w (.slice ea (Nn.NatMath.len E) ek) (Nn.NatMath.digs E)) (hR : Nn.Sl w (.slice ra lR.length rk) lR) (HK0 : Key N E) (v10 : Nn.vld lR = false) :
  Calls Tryz.prog 23 #[.agg #[.slice na (Nn.NatMath.len N) nk, .slice ea (Nn.NatMath.len E) ek], .slice ba l.length bk, .agg #[.slice ra lR.length rk]] w fun e w' => e = .returned (.bool false) ∧ Below w.heap.size w w' := by
 have E0 := Zh ((((Env.start (fun _ => True) w).argS hN).argS hE).argS hR)
 clear hN hE hR
 go_enter Tryz.func23, Tryz.ntmps23
 have HK := Zh HK0
 have v1 := Zh v10
 clear HK0 v10
 go_wp2_with fail
 have E1 := Zh (((E0.out.push 26 [.slice na (Nn.NatMath.len N) nk, .slice ea (Nn.NatMath.len E) ek] (w.heap.size) (by simp)).push 24 [.slice ra lR.length rk] (w.heap.size + 1) (by simp)))
 clear E0
 generalize (w.alloc (.cells #[.slice na (Nn.NatMath.len N) nk, .slice ea (Nn.NatMath.len E) ek] 26)).alloc (.cells #[.slice ra lR.length rk] 24) = w1 at *
 have E2 := Zh E1.out.drew
 clear E1
 refine wp_regionU (S := fun w' => w'.cell? ⟨w.heap.size, 0, none⟩ = some (.slice na (Nn.NatMath.len N) nk) ∧ w'.cell? ⟨w.heap.size, 1, none⟩ = some (.slice ea (Nn.NatMath.len E) ek) ∧ w'.cell? ⟨w.heap.size + 1, 0, none⟩ = some (.slice ra lR.length rk)) [] (by kernel_rfl) (⟨((E2.out.bx 1 rfl).cell 0 rfl), ((E2.out.bx 1 rfl).cell 1 rfl), ((E2.out.bx 0 rfl).cell 0 rfl)⟩) (fun hHeld => ?_)
 generalize w1.drew = w2 at *
 refine uTk (i := 0) (some 7) (v := ?_) ?_ ?_
 rotate_left
 ·(intro wS hSw; (try dsimp only at hSw); go_simp; try with_reducible rfl)
 try simp only [Act.put, pq0, pq1, pq2]
 refine uRd 1 (fun KK hKK => ?_)
 go_simp
 refine (rKey_c HK.out.k (gS.sl (E2.out.fc 2 rfl)) (gS.sl (E2.out.fc 1 rfl))).mono ?_
 rintro e w3 ⟨rfl, hb⟩
 have E3 := Zh (E2.out.below hb)
 clear E2 hb
 (try dsimp only)
 clear hHeld
 refine hKK.out _ _ (⟨((E3.out.bx 1 rfl).cell 0 rfl), ((E3.out.bx 1 rfl).cell 1 rfl), ((E3.out.bx 0 rfl).cell 0 rfl)⟩) (fun hHeld => ?_)
 clear hKK KK
 try simp only [Act.put, pq0, pq1, pq2]
 refine uPl [2, 3] ?_
 iterate 2 (refine uTl (v := ?_) ?_ ?_; rotate_left; (focus (intro wS hSw; (try dsimp only at hSw); go_simp; try with_reducible rfl)); try simp only [Act.put, pq0, pq1, pq2])
 refine Pl.z ?_
 refine uRd 4 (fun KK hKK => ?_)
 go_simp
 refine (rvalidF v1.out (gS.sl (E3.out.fc 0 rfl))).mono ?_
 rintro e w4 ⟨rfl, hb⟩
 have E4 := Zh (E3.out.below hb)
 clear E3 hb
 (try dsimp only)
 clear hHeld
 refine hKK.out _ _ (⟨((E4.out.bx 1 rfl).cell 0 rfl), ((E4.out.bx 1 rfl).cell 1 rfl), ((E4.out.bx 0 rfl).cell 0 rfl)⟩) (fun hHeld => ?_)
 clear hKK KK
 try simp only [Act.put, pq0, pq1, pq2]
 refine uPl [5, 6] ?_
 iterate 2 (refine uTl (v := ?_) ?_ ?_; rotate_left; (focus (intro wS hSw; (try dsimp only at hSw); go_simp; try with_reducible rfl)); try simp only [Act.put, pq0, pq1, pq2])
 refine Pl.z ?_
 refine uPs (i := 7) (some 14) ?_
 try simp only [Act.put, pq0, pq1, pq2]
 refine uPs (i := 8) (some 15) ?_
 try simp only [Act.put, pq0, pq1, pq2]
 refine uPs (i := 9) (some 16) ?_
 try simp only [Act.put, pq0, pq1, pq2]
 refine uPl [10, 11] ?_
 iterate 2 (refine uTl (v := ?_) ?_ ?_; rotate_left; (focus (intro wS hSw; (try dsimp only at hSw); go_simp; try with_reducible rfl)); try simp only [Act.put, pq0, pq1, pq2])
 refine Pl.z ?_
 refine uPs (i := 12) (some 19) ?_
 try simp only [Act.put, pq0, pq1, pq2]
 refine uPs (i := 13) (some 20) ?_
 try simp only [Act.put, pq0, pq1, pq2]
 refine uPs (i := 14) (some 21) ?_
 try simp only [Act.put, pq0, pq1, pq2]
 refine uPl [15, 16] ?_
 iterate 2 (refine uTl (v := ?_) ?_ ?_; rotate_left; (focus (intro wS hSw; (try dsimp only at hSw); go_simp; try with_reducible rfl)); try simp only [Act.put, pq0, pq1, pq2])
 refine Pl.z ?_
 refine uPs (i := 17) (some 24) ?_
 try simp only [Act.put, pq0, pq1, pq2]
 refine uPs (i := 18) (some 25) ?_
 try simp only [Act.put, pq0, pq1, pq2]
 refine uPs (i := 19) (some 26) ?_
 try simp only [Act.put, pq0, pq1, pq2]
 refine uPs (i := 20) (some 27) ?_
 try simp only [Act.put, pq0, pq1, pq2]
 refine uPs (i := 21) (some 28) ?_
 try simp only [Act.put, pq0, pq1, pq2]
 refine uPs (i := 22) (some 29) ?_
 try simp only [Act.put, pq0, pq1, pq2]
 refine uPs (i := 23) (some 30) ?_
 try simp only [Act.put, pq0, pq1, pq2]
 refine uPs (i := 24) (some 31) ?_
 try simp only [Act.put, pq0, pq1, pq2]
 refine uPs (i := 25) (some 32) ?_
 try simp only [Act.put, pq0, pq1, pq2]
 refine uPs (i := 26) (some 33) ?_
 try simp only [Act.put, pq0, pq1, pq2]
 refine uPl [27, 28] ?_
 iterate 2 (refine uTl (v := ?_) ?_ ?_; rotate_left; (focus (intro wS hSw; (try dsimp only at hSw); go_simp; try with_reducible rfl)); try simp only [Act.put, pq0, pq1, pq2])
 refine Pl.z ?_
 refine uDone (by kernel_rfl) ?_ _
 have hfin := Zh E4.out.bel
 go_wp2
 go_ret
 exact ⟨rfl, hfin.out⟩
set_option maxRecDepth 100000 in
set_option maxHeartbeats 4000000 in
theorem rVerify_5 (N E R : Nat) (l : List Nat) {na ea ra ba : Option Addr} {nk ek rk bk : Nat} {w : World} (hN : Nn.Sl w (.slice na (Nn.NatMath.len N) nk) (Nn.NatMath.digs N)) (hE : Nn.Sl w (.slice ea (Nn.NatMath.len E) ek) (Nn.NatMath.digs E)) (hR : Nn.Sl w (.slice ra (Nn.NatMath.len R) rk) (Nn.NatMath.digs R)) (HK0 : Key N E) (v10 : Nn.vld (Nn.NatMath.digs R) = true) (hm0 : 16384 < l.length) :
  Calls Tryz.prog 23 #[.agg #[.slice na (Nn.NatMath.len N) nk, .slice ea (Nn.NatMath.len E) ek], .slice ba l.length bk, .agg #[.slice ra (Nn.NatMath.len R) rk]] w fun e w' => e = .returned (.bool false) ∧ Below w.heap.size w w' := by
 have E0 := Zh ((((Env.start (fun _ => True) w).argS hN).argS hE).argS hR)
 clear hN hE hR
 go_enter Tryz.func23, Tryz.ntmps23
 have HK := Zh HK0
 have v1 := Zh v10
 have hm := Zh hm0
 clear HK0 v10 hm0
 have q1 : decide ((l.length : Int) ≤ 16384) = false := decide_eq_false (by have := hm.out; omega)
 have q2 : decide (l.length ≤ 16384) = false := decide_eq_false (by have := hm.out; omega)
 go_wp2_with fail
 have E1 := Zh (((E0.out.push 26 [.slice na (Nn.NatMath.len N) nk, .slice ea (Nn.NatMath.len E) ek] (w.heap.size) (by simp)).push 24 [.slice ra (Nn.NatMath.len R) rk] (w.heap.size + 1) (by simp)))
 clear E0
 generalize (w.alloc (.cells #[.slice na (Nn.NatMath.len N) nk, .slice ea (Nn.NatMath.len E) ek] 26)).alloc (.cells #[.slice ra (Nn.NatMath.len R) rk] 24) = w1 at *
 have E2 := Zh E1.out.drew
 clear E1
 refine wp_regionU (S := fun w' => w'.cell? ⟨w.heap.size, 0, none⟩ = some (.slice na (Nn.NatMath.len N) nk) ∧ w'.cell? ⟨w.heap.size, 1, none⟩ = some (.slice ea (Nn.NatMath.len E) ek) ∧ w'.cell? ⟨w.heap.size + 1, 0, none⟩ = some (.slice ra (Nn.NatMath.len R) rk)) [] (by kernel_rfl) (⟨((E2.out.bx 1 rfl).cell 0 rfl), ((E2.out.bx 1 rfl).cell 1 rfl), ((E2.out.bx 0 rfl).cell 0 rfl)⟩) (fun hHeld => ?_)
 generalize w1.drew = w2 at *
 refine uTk (i := 0) (some 7) (v := ?_) ?_ ?_
 rotate_left
 ·(intro wS hSw; (try dsimp only at hSw); go_simp; try with_reducible rfl)
 try simp only [Act.put, pq0, pq1, pq2]
 refine uRd 1 (fun KK hKK => ?_)
 go_simp
 refine (rKey_c HK.out.k (gS.sl (E2.out.fc 2 rfl)) (gS.sl (E2.out.fc 1 rfl))).mono ?_
 rintro e w3 ⟨rfl, hb⟩
 have E3 := Zh (E2.out.below hb)
 clear E2 hb
 (try dsimp only)
 clear hHeld
 refine hKK.out _ _ (⟨((E3.out.bx 1 rfl).cell 0 rfl), ((E3.out.bx 1 rfl).cell 1 rfl), ((E3.out.bx 0 rfl).cell 0 rfl)⟩) (fun hHeld => ?_)
 clear hKK KK
 try simp only [Act.put, pq0, pq1, pq2]
 refine uPl [2, 3] ?_
 iterate 2 (refine uTl (v := ?_) ?_ ?_; rotate_left; (focus (intro wS hSw; (try dsimp only at hSw); go_simp; try with_reducible rfl)); try simp only [Act.put, pq0, pq1, pq2])
 refine Pl.z ?_
 refine uRd 4 (fun KK hKK => ?_)
 go_simp
 refine (rvalidF v1.out (gS.sl (E3.out.fc 0 rfl))).mono ?_
 rintro e w4 ⟨rfl, hb⟩
 have E4 := Zh (E3.out.below hb)
 clear E3 hb
 (try dsimp only)
 clear hHeld
 refine hKK.out _ _ (⟨((E4.out.bx 1 rfl).cell 0 rfl), ((E4.out.bx 1 rfl).cell 1 rfl), ((E4.out.bx 0 rfl).cell 0 rfl)⟩) (fun hHeld => ?_)
 clear hKK KK
 try simp only [Act.put, pq0, pq1, pq2]
 refine uPl [5, 6, 7, 8, 9, 10, 11] ?_
 iterate 7 (refine uTl (v := ?_) ?_ ?_; rotate_left; (focus (intro wS hSw; (try dsimp only at hSw); go_simp; try with_reducible rfl)); try simp only [Act.put, pq0, pq1, pq2])
 refine Pl.z ?_
 refine uPs (i := 12) (some 19) ?_
 try simp only [Act.put, pq0, pq1, pq2]
 refine uPs (i := 13) (some 20) ?_
 try simp only [Act.put, pq0, pq1, pq2]
 refine uPs (i := 14) (some 21) ?_
 try simp only [Act.put, pq0, pq1, pq2]
 refine uPl [15, 16] ?_
 iterate 2 (refine uTl (v := ?_) ?_ ?_; rotate_left; (focus (intro wS hSw; (try dsimp only at hSw); go_simp; try with_reducible rfl)); try simp only [Act.put, pq0, pq1, pq2])
 refine Pl.z ?_
 refine uPs (i := 17) (some 24) ?_
 try simp only [Act.put, pq0, pq1, pq2]
 refine uPs (i := 18) (some 25) ?_
 try simp only [Act.put, pq0, pq1, pq2]
 refine uPs (i := 19) (some 26) ?_
 try simp only [Act.put, pq0, pq1, pq2]
 refine uPs (i := 20) (some 27) ?_
 try simp only [Act.put, pq0, pq1, pq2]
 refine uPs (i := 21) (some 28) ?_
 try simp only [Act.put, pq0, pq1, pq2]
 refine uPs (i := 22) (some 29) ?_
 try simp only [Act.put, pq0, pq1, pq2]
 refine uPs (i := 23) (some 30) ?_
 try simp only [Act.put, pq0, pq1, pq2]
 refine uPs (i := 24) (some 31) ?_
 try simp only [Act.put, pq0, pq1, pq2]
 refine uPs (i := 25) (some 32) ?_
 try simp only [Act.put, pq0, pq1, pq2]
 refine uPs (i := 26) (some 33) ?_
 try simp only [Act.put, pq0, pq1, pq2]
 refine uPl [27, 28] ?_
 iterate 2 (refine uTl (v := ?_) ?_ ?_; rotate_left; (focus (intro wS hSw; (try dsimp only at hSw); go_simp; try with_reducible rfl)); try simp only [Act.put, pq0, pq1, pq2])
 refine Pl.z ?_
 refine uDone (by kernel_rfl) ?_ _
 have hfin := Zh E4.out.bel
 go_wp2
 go_ret
 exact ⟨rfl, hfin.out⟩
set_option maxRecDepth 100000 in
set_option maxHeartbeats 4000000 in
theorem rVerify_3 (N E R : Nat) (l : List Nat) {na ea ra ba : Option Addr} {nk ek rk bk : Nat} {w : World} (hN : Nn.Sl w (.slice na (Nn.NatMath.len N) nk) (Nn.NatMath.digs N)) (hE : Nn.Sl w (.slice ea (Nn.NatMath.len E) ek) (Nn.NatMath.digs E)) (hR : Nn.Sl w (.slice ra (Nn.NatMath.len R) rk) (Nn.NatMath.digs R)) (HK0 : Key N E) (v10 : Nn.vld (Nn.NatMath.digs R) = true) (hm0 : l.length ≤ 16384) (h10 : decide (R < N) = false) :
  Calls Tryz.prog 23 #[.agg #[.slice na (Nn.NatMath.len N) nk, .slice ea (Nn.NatMath.len E) ek], .slice ba l.length bk, .agg #[.slice ra (Nn.NatMath.len R) rk]] w fun e w' => e = .returned (.bool false) ∧ Below w.heap.size w w' := by
 have E0 := Zh ((((Env.start (fun _ => True) w).argS hN).argS hE).argS hR)
 clear hN hE hR
 go_enter Tryz.func23, Tryz.ntmps23
 have HK := Zh HK0
 have v1 := Zh v10
 have hm := Zh hm0
 have h1 := Zh h10
 clear HK0 v10 hm0 h10
 have q1 : decide ((l.length : Int) ≤ 16384) = true := decide_eq_true (by have := hm.out; omega)
 have q2 : decide (l.length ≤ 16384) = true := decide_eq_true hm.out
 go_wp2_with fail
 have E1 := Zh (((E0.out.push 26 [.slice na (Nn.NatMath.len N) nk, .slice ea (Nn.NatMath.len E) ek] (w.heap.size) (by simp)).push 24 [.slice ra (Nn.NatMath.len R) rk] (w.heap.size + 1) (by simp)))
 clear E0
 generalize (w.alloc (.cells #[.slice na (Nn.NatMath.len N) nk, .slice ea (Nn.NatMath.len E) ek] 26)).alloc (.cells #[.slice ra (Nn.NatMath.len R) rk] 24) = w1 at *
 have E2 := Zh E1.out.drew
 clear E1
 refine wp_regionU (S := fun w' => w'.cell? ⟨w.heap.size, 0, none⟩ = some (.slice na (Nn.NatMath.len N) nk) ∧ w'.cell? ⟨w.heap.size, 1, none⟩ = some (.slice ea (Nn.NatMath.len E) ek) ∧ w'.cell? ⟨w.heap.size + 1, 0, none⟩ = some (.slice ra (Nn.NatMath.len R) rk)) [] (by kernel_rfl) (⟨((E2.out.bx 1 rfl).cell 0 rfl), ((E2.out.bx 1 rfl).cell 1 rfl), ((E2.out.bx 0 rfl).cell 0 rfl)⟩) (fun hHeld => ?_)
 generalize w1.drew = w2 at *
 refine uTk (i := 0) (some 7) (v := ?_) ?_ ?_
 rotate_left
 ·(intro wS hSw; (try dsimp only at hSw); go_simp; try with_reducible rfl)
 try simp only [Act.put, pq0, pq1, pq2]
 refine uRd 1 (fun KK hKK => ?_)
 go_simp
 refine (rKey_c HK.out.k (gS.sl (E2.out.fc 2 rfl)) (gS.sl (E2.out.fc 1 rfl))).mono ?_
 rintro e w3 ⟨rfl, hb⟩
 have E3 := Zh (E2.out.below hb)
 clear E2 hb
 (try dsimp only)
 clear hHeld
 refine hKK.out _ _ (⟨((E3.out.bx 1 rfl).cell 0 rfl), ((E3.out.bx 1 rfl).cell 1 rfl), ((E3.out.bx 0 rfl).cell 0 rfl)⟩) (fun hHeld => ?_)
 clear hKK KK
 try simp only [Act.put, pq0, pq1, pq2]
 refine uPl [2, 3] ?_
 iterate 2 (refine uTl (v := ?_) ?_ ?_; rotate_left; (focus (intro wS hSw; (try dsimp only at hSw); go_simp; try with_reducible rfl)); try simp only [Act.put, pq0, pq1, pq2])
 refine Pl.z ?_
 refine uRd 4 (fun KK hKK => ?_)
 go_simp
 refine (rvalidF v1.out (gS.sl (E3.out.fc 0 rfl))).mono ?_
 rintro e w4 ⟨rfl, hb⟩
 have E4 := Zh (E3.out.below hb)
 clear E3 hb
 (try dsimp only)
 clear hHeld
 refine hKK.out _ _ (⟨((E4.out.bx 1 rfl).cell 0 rfl), ((E4.out.bx 1 rfl).cell 1 rfl), ((E4.out.bx 0 rfl).cell 0 rfl)⟩) (fun hHeld => ?_)
 clear hKK KK
 try simp only [Act.put, pq0, pq1, pq2]
 refine uPl [5, 6, 7, 8, 9, 10, 11, 12, 13] ?_
 iterate 9 (refine uTl (v := ?_) ?_ ?_; rotate_left; (focus (intro wS hSw; (try dsimp only at hSw); go_simp; try with_reducible rfl)); try simp only [Act.put, pq0, pq1, pq2])
 refine Pl.z ?_
 refine uRd 14 (fun KK hKK => ?_)
 go_simp
 refine (vresidue_c N R (gS.sl (E4.out.fc 2 rfl)) (gS.sl (E4.out.fc 0 rfl)) h1.out).mono ?_
 rintro e w5 ⟨rfl, hb⟩
 have E5 := Zh (E4.out.below hb)
 clear E4 hb
 (try dsimp only)
 clear hHeld
 refine hKK.out _ _ (⟨((E5.out.bx 1 rfl).cell 0 rfl), ((E5.out.bx 1 rfl).cell 1 rfl), ((E5.out.bx 0 rfl).cell 0 rfl)⟩) (fun hHeld => ?_)
 clear hKK KK
 try simp only [Act.put, pq0, pq1, pq2]
 refine uPl [15, 16] ?_
 iterate 2 (refine uTl (v := ?_) ?_ ?_; rotate_left; (focus (intro wS hSw; (try dsimp only at hSw); go_simp; try with_reducible rfl)); try simp only [Act.put, pq0, pq1, pq2])
 refine Pl.z ?_
 refine uPs (i := 17) (some 24) ?_
 try simp only [Act.put, pq0, pq1, pq2]
 refine uPs (i := 18) (some 25) ?_
 try simp only [Act.put, pq0, pq1, pq2]
 refine uPs (i := 19) (some 26) ?_
 try simp only [Act.put, pq0, pq1, pq2]
 refine uPs (i := 20) (some 27) ?_
 try simp only [Act.put, pq0, pq1, pq2]
 refine uPs (i := 21) (some 28) ?_
 try simp only [Act.put, pq0, pq1, pq2]
 refine uPs (i := 22) (some 29) ?_
 try simp only [Act.put, pq0, pq1, pq2]
 refine uPs (i := 23) (some 30) ?_
 try simp only [Act.put, pq0, pq1, pq2]
 refine uPs (i := 24) (some 31) ?_
 try simp only [Act.put, pq0, pq1, pq2]
 refine uPs (i := 25) (some 32) ?_
 try simp only [Act.put, pq0, pq1, pq2]
 refine uPs (i := 26) (some 33) ?_
 try simp only [Act.put, pq0, pq1, pq2]
 refine uPl [27, 28] ?_
 iterate 2 (refine uTl (v := ?_) ?_ ?_; rotate_left; (focus (intro wS hSw; (try dsimp only at hSw); go_simp; try with_reducible rfl)); try simp only [Act.put, pq0, pq1, pq2])
 refine Pl.z ?_
 refine uDone (by kernel_rfl) ?_ _
 have hfin := Zh E5.out.bel
 go_wp2
 go_ret
 exact ⟨rfl, hfin.out⟩
set_option maxRecDepth 100000 in
set_option maxHeartbeats 4000000 in
theorem rVerify_ok (N E R : Nat) (l : List Nat) {na ea ra ba : Option Addr} {nk ek rk bk : Nat} {w : World} (hN : Nn.Sl w (.slice na (Nn.NatMath.len N) nk) (Nn.NatMath.digs N)) (hE : Nn.Sl w (.slice ea (Nn.NatMath.len E) ek) (Nn.NatMath.digs E)) (hR : Nn.Sl w (.slice ra (Nn.NatMath.len R) rk) (Nn.NatMath.digs R)) (hM : Fct.at w (fun _ => True) (.bs (.slice ba l.length bk) l)) (HK0 : Key N E) (v10 : Nn.vld (Nn.NatMath.digs R) = true) (hm0 : l.length ≤ 16384) (h10 : decide (R < N) = true) {h p : Nat} (hp0 : R ^ E % N = p) (hh0 : hshN l % N = h) {t : Bool} (hq0 : decide (p = h) = t) :
  Calls Tryz.prog 23 #[.agg #[.slice na (Nn.NatMath.len N) nk, .slice ea (Nn.NatMath.len E) ek], .slice ba l.length bk, .agg #[.slice ra (Nn.NatMath.len R) rk]] w fun e w' => e = .returned (.bool t) ∧ Below w.heap.size w w' := by
 have E0 := Zh (((((Env.start (fun _ => True) w).arg (.bs (.slice ba l.length bk) l) hM).argS hN).argS hE).argS hR)
 clear hN hE hR hM
 go_enter Tryz.func23, Tryz.ntmps23
 have HK := Zh HK0
 have v1 := Zh v10
 have hm := Zh hm0
 have h1 := Zh h10
 have hp := Zh hp0
 have hh := Zh hh0
 have hq := Zh hq0
 clear HK0 v10 hm0 h10 hp0 hh0 hq0
 have q1 : decide ((l.length : Int) ≤ 16384) = true := decide_eq_true (by have := hm.out; omega)
 have q2 : decide (l.length ≤ 16384) = true := decide_eq_true hm.out
 have HR := Zh (of_decide_eq_true h1.out)
 go_wp2_with fail
 have E1 := Zh (((E0.out.push 26 [.slice na (Nn.NatMath.len N) nk, .slice ea (Nn.NatMath.len E) ek] (w.heap.size) (by simp)).push 24 [.slice ra (Nn.NatMath.len R) rk] (w.heap.size + 1) (by simp)))
 clear E0
 generalize (w.alloc (.cells #[.slice na (Nn.NatMath.len N) nk, .slice ea (Nn.NatMath.len E) ek] 26)).alloc (.cells #[.slice ra (Nn.NatMath.len R) rk] 24) = w1 at *
 have E2 := Zh E1.out.drew
 clear E1
 refine wp_regionU (S := fun w' => w'.cell? ⟨w.heap.size, 0, none⟩ = some (.slice na (Nn.NatMath.len N) nk) ∧ w'.cell? ⟨w.heap.size, 1, none⟩ = some (.slice ea (Nn.NatMath.len E) ek) ∧ w'.cell? ⟨w.heap.size + 1, 0, none⟩ = some (.slice ra (Nn.NatMath.len R) rk)) [] (by kernel_rfl) (⟨((E2.out.bx 1 rfl).cell 0 rfl), ((E2.out.bx 1 rfl).cell 1 rfl), ((E2.out.bx 0 rfl).cell 0 rfl)⟩) (fun hHeld => ?_)
 generalize w1.drew = w2 at *
 refine uTk (i := 0) (some 7) (v := ?_) ?_ ?_
 rotate_left
 ·(intro wS hSw; (try dsimp only at hSw); go_simp; try with_reducible rfl)
 try simp only [Act.put, pq0, pq1, pq2]
 refine uRd 1 (fun KK hKK => ?_)
 go_simp
 refine (rKey_c HK.out.k (gS.sl (E2.out.fc 2 rfl)) (gS.sl (E2.out.fc 1 rfl))).mono ?_
 rintro e w3 ⟨rfl, hb⟩
 have E3 := Zh (E2.out.below hb)
 clear E2 hb
 (try dsimp only)
 clear hHeld
 refine hKK.out _ _ (⟨((E3.out.bx 1 rfl).cell 0 rfl), ((E3.out.bx 1 rfl).cell 1 rfl), ((E3.out.bx 0 rfl).cell 0 rfl)⟩) (fun hHeld => ?_)
 clear hKK KK
 try simp only [Act.put, pq0, pq1, pq2]
 refine uPl [2, 3] ?_
 iterate 2 (refine uTl (v := ?_) ?_ ?_; rotate_left; (focus (intro wS hSw; (try dsimp only at hSw); go_simp; try with_reducible rfl)); try simp only [Act.put, pq0, pq1, pq2])
 refine Pl.z ?_
 refine uRd 4 (fun KK hKK => ?_)
 go_simp
 refine (rvalidF v1.out (gS.sl (E3.out.fc 0 rfl))).mono ?_
 rintro e w4 ⟨rfl, hb⟩
 have E4 := Zh (E3.out.below hb)
 clear E3 hb
 (try dsimp only)
 clear hHeld
 refine hKK.out _ _ (⟨((E4.out.bx 1 rfl).cell 0 rfl), ((E4.out.bx 1 rfl).cell 1 rfl), ((E4.out.bx 0 rfl).cell 0 rfl)⟩) (fun hHeld => ?_)
 clear hKK KK
 try simp only [Act.put, pq0, pq1, pq2]
 refine uPl [5, 6, 7, 8, 9, 10, 11, 12, 13] ?_
 iterate 9 (refine uTl (v := ?_) ?_ ?_; rotate_left; (focus (intro wS hSw; (try dsimp only at hSw); go_simp; try with_reducible rfl)); try simp only [Act.put, pq0, pq1, pq2])
 refine Pl.z ?_
 refine uRd 14 (fun KK hKK => ?_)
 go_simp
 refine (vresidue_c N R (gS.sl (E4.out.fc 2 rfl)) (gS.sl (E4.out.fc 0 rfl)) h1.out).mono ?_
 rintro e w5 ⟨rfl, hb⟩
 have E5 := Zh (E4.out.below hb)
 clear E4 hb
 (try dsimp only)
 clear hHeld
 refine hKK.out _ _ (⟨((E5.out.bx 1 rfl).cell 0 rfl), ((E5.out.bx 1 rfl).cell 1 rfl), ((E5.out.bx 0 rfl).cell 0 rfl)⟩) (fun hHeld => ?_)
 clear hKK KK
 try simp only [Act.put, pq0, pq1, pq2]
 refine uPl [15, 16, 17, 18, 19, 20, 21, 23, 24] ?_
 iterate 9 (refine uTl (v := ?_) ?_ ?_; rotate_left; (focus (intro wS hSw; (try dsimp only at hSw); go_simp; try with_reducible rfl)); try simp only [Act.put, pq0, pq1, pq2])
 refine Pl.z ?_
 refine uRd 22 (fun KK hKK => ?_)
 go_simp
 refine (Nn.rPow_c hp.out (Nat.le_trans HK.out.lE (by omega)) HR.out (Nat.le_trans HK.out.lN (by omega)) (gS.sl (E5.out.fc 0 rfl)) (gS.sl (E5.out.fc 1 rfl)) (gS.sl (E5.out.fc 2 rfl))).mono ?_
 rintro e w6 ⟨⟨za, zk, rfl, zh⟩, hb⟩
 have E6 := Zh ((E5.out.below hb).noteS zh.out rfl)
 clear E5 hb zh
 (try dsimp only)
 clear hHeld
 refine hKK.out _ _ (⟨((E6.out.bx 1 rfl).cell 0 rfl), ((E6.out.bx 1 rfl).cell 1 rfl), ((E6.out.bx 0 rfl).cell 0 rfl)⟩) (fun hHeld => ?_)
 clear hKK KK
 try simp only [Act.put, pq0, pq1, pq2]
 refine uRd 25 (fun KK hKK => ?_)
 go_simp
 refine (rhash_c N E h l (gS.sl (E6.out.fc 3 rfl)) (gS.sl (E6.out.fc 2 rfl)) (Bs.any (E6.out.fc 4 rfl)) HK.out hm.out hh.out).mono ?_
 rintro e w7 ⟨⟨qa, qk, rfl, qh⟩, hb⟩
 have E7 := Zh ((E6.out.below hb).noteS qh.out rfl)
 clear E6 hb qh
 (try dsimp only)
 clear hHeld
 refine hKK.out _ _ (⟨((E7.out.bx 1 rfl).cell 0 rfl), ((E7.out.bx 1 rfl).cell 1 rfl), ((E7.out.bx 0 rfl).cell 0 rfl)⟩) (fun hHeld => ?_)
 clear hKK KK
 try simp only [Act.put, pq0, pq1, pq2]
 refine uRd 26 (fun KK hKK => ?_)
 go_simp
 refine (Nn.rSame_c hq.out (gS.sl (E7.out.fc 1 rfl)) (gS.sl (E7.out.fc 0 rfl))).mono ?_
 rintro e w8 ⟨rfl, hb⟩
 have E8 := Zh (E7.out.below hb)
 clear E7 hb
 (try dsimp only)
 clear hHeld
 refine hKK.out _ _ (⟨((E8.out.bx 1 rfl).cell 0 rfl), ((E8.out.bx 1 rfl).cell 1 rfl), ((E8.out.bx 0 rfl).cell 0 rfl)⟩) (fun hHeld => ?_)
 clear hKK KK
 try simp only [Act.put, pq0, pq1, pq2]
 refine uPl [27, 28] ?_
 iterate 2 (refine uTl (v := ?_) ?_ ?_; rotate_left; (focus (intro wS hSw; (try dsimp only at hSw); go_simp; try with_reducible rfl)); try simp only [Act.put, pq0, pq1, pq2])
 refine Pl.z ?_
 refine uDone (by kernel_rfl) ?_ _
 have hfin := Zh E8.out.bel
 go_wp2
 go_ret
 exact ⟨rfl, hfin.out⟩
end Go.Proofs.YtikopkkebdobdaaGreatDoor

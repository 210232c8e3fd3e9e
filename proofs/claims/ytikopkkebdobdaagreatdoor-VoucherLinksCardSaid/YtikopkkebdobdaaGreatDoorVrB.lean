/- specieref24: Valid, Residue, Unit. -/
import Derived.Test.YtikopkkebdobdaaGreatDoorVrA
namespace Go.Proofs.YtikopkkebdobdaaGreatDoor
open Go.RowKit
set_option linter.unusedVariables false
set_option linter.unusedSimpArgs false
theorem rvalidF {v : Value} {l : List Nat} {t : Bool} {w : World} (ht : Nn.vld l = t) (h : Nn.Sl w v l) :
    Calls Tryz.prog 29 #[.agg #[v]] w fun e w' => e = .returned (.bool t) ∧ Below w.heap.size w w' := by subst ht; exact Nn.rValid_c v l w h
theorem rbitsF {v : Value} {N n : Nat} {w : World} (hn : Nn.NatMath.bl N = n) (hl : Nn.NatMath.len N ≤ 64) (h : Nn.Nt w v N) :
    Calls Tryz.prog 49 #[.agg #[v]] w fun e w' => e = .returned (.int .i64 (n : Nat)) ∧ Below w.heap.size w w' := by subst hn; exact Nn.rBits_c v N w h (by omega)
set_option maxRecDepth 100000 in
set_option maxHeartbeats 4000000 in
theorem rValid_1 (lN lE : List Nat) {xa ya : Option Addr} {xk yk : Nat} {w : World} (ha : Nn.Sl w (.slice xa lN.length xk) lN) (hb : Nn.Sl w (.slice ya lE.length yk) lE) (hv0 : Nn.vld lN = false) :
    Calls Tryz.prog 16 #[.agg #[.slice xa lN.length xk, .slice ya lE.length yk]] w fun e w' => e = .returned (.bool false) ∧ Below w.heap.size w w' := by
  have E0 := Lib.hid (((Env.start (fun _ => True) w).argS ha).argS hb)
  clear ha hb
  go_enter Tryz.func16, Tryz.ntmps16
  have hv := Lib.hid hv0
  clear hv0
  go_wp2_with fail
  have E1 : Hid (Env (fun _ => True) w [(w.heap.size, 26, [.slice xa lN.length xk, .slice ya lE.length yk])] [.gn (gS (.slice ya lE.length yk) lE), .gn (gS (.slice xa lN.length xk) lN)] _) := Lib.hid ((E0.out.push 26 [.slice xa lN.length xk, .slice ya lE.length yk] (w.heap.size) (by simp)))
  clear E0
  generalize w.alloc (.cells #[.slice xa lN.length xk, .slice ya lE.length yk] 26) = w1 at *
  have E2 := Lib.hid E1.out.drew
  clear E1
  refine wp_regionU (S := fun w' => w'.cell? ⟨w.heap.size, 0, none⟩ = some (.slice xa lN.length xk)) [] (by kernel_rfl) (((E2.out.bx 0 rfl).cell 0 rfl)) (fun hHeld => ?_)
  generalize w1.drew = w2 at *
  refine uTk (i := 0) (some 3) (v := ?_) ?_ ?_
  rotate_left
  · (intro wS hSw; (try dsimp only at hSw); go_simp; try with_reducible rfl)
  try simp only [Act.put, pq0, pq1, pq2]
  refine uTk (i := 1) (some 4) (v := ?_) ?_ ?_
  rotate_left
  · (intro wS hSw; (try dsimp only at hSw); go_simp; try with_reducible rfl)
  try simp only [Act.put, pq0, pq1, pq2]
  refine uReady (rs := [2]) (by kernel_rfl) (by simp) ?_
  refine ReadyU.cons rfl (fun KK hKK => ?_) ReadyU.nil
  go_simp
  refine (rvalidF hv.out (gS.sl (E2.out.fc 1 rfl))).mono ?_
  rintro e w3 ⟨rfl, hb⟩
  have E3 := Lib.hid (E2.out.below hb)
  clear E2 hb
  (try dsimp only)
  clear hHeld
  refine hKK.out _ _ (((E3.out.bx 0 rfl).cell 0 rfl)) (fun hHeld => ?_)
  clear hKK KK
  try simp only [Act.put, pq0, pq1, pq2]
  refine uTk (i := 3) (some 6) (v := ?_) ?_ ?_
  rotate_left
  · (intro wS hSw; (try dsimp only at hSw); go_simp; try with_reducible rfl)
  try simp only [Act.put, pq0, pq1, pq2]
  refine uPs (i := 4) (some 7) ?_
  try simp only [Act.put, pq0, pq1, pq2]
  refine uPs (i := 5) (some 8) ?_
  try simp only [Act.put, pq0, pq1, pq2]
  refine uPs (i := 6) (some 9) ?_
  try simp only [Act.put, pq0, pq1, pq2]
  refine uTk (i := 7) (some 10) (v := ?_) ?_ ?_
  rotate_left
  · (intro wS hSw; (try dsimp only at hSw); go_simp; try with_reducible rfl)
  try simp only [Act.put, pq0, pq1, pq2]
  refine uTk (i := 8) (some 11) (v := ?_) ?_ ?_
  rotate_left
  · (intro wS hSw; (try dsimp only at hSw); go_simp; try with_reducible rfl)
  try simp only [Act.put, pq0, pq1, pq2]
  refine uPs (i := 9) (some 12) ?_
  try simp only [Act.put, pq0, pq1, pq2]
  refine uPs (i := 10) (some 13) ?_
  try simp only [Act.put, pq0, pq1, pq2]
  refine uPs (i := 11) (some 14) ?_
  try simp only [Act.put, pq0, pq1, pq2]
  refine uPs (i := 12) (some 15) ?_
  try simp only [Act.put, pq0, pq1, pq2]
  refine uPs (i := 13) (some 16) ?_
  try simp only [Act.put, pq0, pq1, pq2]
  refine uTk (i := 14) (some 17) (v := ?_) ?_ ?_
  rotate_left
  · (intro wS hSw; (try dsimp only at hSw); go_simp; try with_reducible rfl)
  try simp only [Act.put, pq0, pq1, pq2]
  refine uTk (i := 15) (some 18) (v := ?_) ?_ ?_
  rotate_left
  · (intro wS hSw; (try dsimp only at hSw); go_simp; try with_reducible rfl)
  try simp only [Act.put, pq0, pq1, pq2]
  refine uPs (i := 16) (some 19) ?_
  try simp only [Act.put, pq0, pq1, pq2]
  refine uPs (i := 17) (some 20) ?_
  try simp only [Act.put, pq0, pq1, pq2]
  refine uPs (i := 18) (some 21) ?_
  try simp only [Act.put, pq0, pq1, pq2]
  refine uPs (i := 19) (some 22) ?_
  try simp only [Act.put, pq0, pq1, pq2]
  refine uTk (i := 20) (some 23) (v := ?_) ?_ ?_
  rotate_left
  · (intro wS hSw; (try dsimp only at hSw); go_simp; try with_reducible rfl)
  try simp only [Act.put, pq0, pq1, pq2]
  refine uTk (i := 21) (some 24) (v := ?_) ?_ ?_
  rotate_left
  · (intro wS hSw; (try dsimp only at hSw); go_simp; try with_reducible rfl)
  try simp only [Act.put, pq0, pq1, pq2]
  refine uPs (i := 22) (some 25) ?_
  try simp only [Act.put, pq0, pq1, pq2]
  refine uPs (i := 23) (some 26) ?_
  try simp only [Act.put, pq0, pq1, pq2]
  refine uPs (i := 24) (some 27) ?_
  try simp only [Act.put, pq0, pq1, pq2]
  refine uPs (i := 25) (some 28) ?_
  try simp only [Act.put, pq0, pq1, pq2]
  refine uPs (i := 26) (some 29) ?_
  try simp only [Act.put, pq0, pq1, pq2]
  refine uTk (i := 27) (some 30) (v := ?_) ?_ ?_
  rotate_left
  · (intro wS hSw; (try dsimp only at hSw); go_simp; try with_reducible rfl)
  try simp only [Act.put, pq0, pq1, pq2]
  refine uTk (i := 28) (some 31) (v := ?_) ?_ ?_
  rotate_left
  · (intro wS hSw; (try dsimp only at hSw); go_simp; try with_reducible rfl)
  try simp only [Act.put, pq0, pq1, pq2]
  refine uPs (i := 29) (some 32) ?_
  try simp only [Act.put, pq0, pq1, pq2]
  refine uPs (i := 30) (some 33) ?_
  try simp only [Act.put, pq0, pq1, pq2]
  refine uPs (i := 31) (some 34) ?_
  try simp only [Act.put, pq0, pq1, pq2]
  refine uPs (i := 32) (some 35) ?_
  try simp only [Act.put, pq0, pq1, pq2]
  refine uPs (i := 33) (some 36) ?_
  try simp only [Act.put, pq0, pq1, pq2]
  refine uTk (i := 34) (some 37) (v := ?_) ?_ ?_
  rotate_left
  · (intro wS hSw; (try dsimp only at hSw); go_simp; try with_reducible rfl)
  try simp only [Act.put, pq0, pq1, pq2]
  refine uTk (i := 35) (some 2) (v := ?_) ?_ ?_
  rotate_left
  · (intro wS hSw; (try dsimp only at hSw); go_simp; try with_reducible rfl)
  try simp only [Act.put, pq0, pq1, pq2]
  refine uDone (by kernel_rfl) ?_ _
  have hfin := Lib.hid E3.out.bel
  go_wp2
  go_ret
  exact ⟨rfl, hfin.out⟩
set_option maxRecDepth 100000 in
set_option maxHeartbeats 4000000 in
theorem rValid_1b (lN lE : List Nat) {xa ya : Option Addr} {xk yk : Nat} {w : World} (ha : Nn.Sl w (.slice xa lN.length xk) lN) (hb : Nn.Sl w (.slice ya lE.length yk) lE) (hu0 : Nn.vld lN = true) (hv0 : Nn.vld lE = false) :
    Calls Tryz.prog 16 #[.agg #[.slice xa lN.length xk, .slice ya lE.length yk]] w fun e w' => e = .returned (.bool false) ∧ Below w.heap.size w w' := by
  have E0 := Lib.hid (((Env.start (fun _ => True) w).argS ha).argS hb)
  clear ha hb
  go_enter Tryz.func16, Tryz.ntmps16
  have hu := Lib.hid hu0
  have hv := Lib.hid hv0
  clear hu0 hv0
  go_wp2_with fail
  have E1 : Hid (Env (fun _ => True) w [(w.heap.size, 26, [.slice xa lN.length xk, .slice ya lE.length yk])] [.gn (gS (.slice ya lE.length yk) lE), .gn (gS (.slice xa lN.length xk) lN)] _) := Lib.hid ((E0.out.push 26 [.slice xa lN.length xk, .slice ya lE.length yk] (w.heap.size) (by simp)))
  clear E0
  generalize w.alloc (.cells #[.slice xa lN.length xk, .slice ya lE.length yk] 26) = w1 at *
  have E2 := Lib.hid E1.out.drew
  clear E1
  refine wp_regionU (S := fun w' => w'.cell? ⟨w.heap.size, 0, none⟩ = some (.slice xa lN.length xk) ∧ w'.cell? ⟨w.heap.size, 1, none⟩ = some (.slice ya lE.length yk)) [] (by kernel_rfl) (⟨((E2.out.bx 0 rfl).cell 0 rfl), ((E2.out.bx 0 rfl).cell 1 rfl)⟩) (fun hHeld => ?_)
  generalize w1.drew = w2 at *
  refine uTk (i := 0) (some 3) (v := ?_) ?_ ?_
  rotate_left
  · (intro wS hSw; (try dsimp only at hSw); go_simp; try with_reducible rfl)
  try simp only [Act.put, pq0, pq1, pq2]
  refine uTk (i := 1) (some 4) (v := ?_) ?_ ?_
  rotate_left
  · (intro wS hSw; (try dsimp only at hSw); go_simp; try with_reducible rfl)
  try simp only [Act.put, pq0, pq1, pq2]
  refine uReady (rs := [2]) (by kernel_rfl) (by simp) ?_
  refine ReadyU.cons rfl (fun KK hKK => ?_) ReadyU.nil
  go_simp
  refine (rvalidF hu.out (gS.sl (E2.out.fc 1 rfl))).mono ?_
  rintro e w3 ⟨rfl, hb⟩
  have E3 := Lib.hid (E2.out.below hb)
  clear E2 hb
  (try dsimp only)
  clear hHeld
  refine hKK.out _ _ (⟨((E3.out.bx 0 rfl).cell 0 rfl), ((E3.out.bx 0 rfl).cell 1 rfl)⟩) (fun hHeld => ?_)
  clear hKK KK
  try simp only [Act.put, pq0, pq1, pq2]
  refine uTk (i := 3) (some 6) (v := ?_) ?_ ?_
  rotate_left
  · (intro wS hSw; (try dsimp only at hSw); go_simp; try with_reducible rfl)
  try simp only [Act.put, pq0, pq1, pq2]
  refine uTk (i := 4) (some 7) (v := ?_) ?_ ?_
  rotate_left
  · (intro wS hSw; (try dsimp only at hSw); go_simp; try with_reducible rfl)
  try simp only [Act.put, pq0, pq1, pq2]
  refine uTk (i := 5) (some 8) (v := ?_) ?_ ?_
  rotate_left
  · (intro wS hSw; (try dsimp only at hSw); go_simp; try with_reducible rfl)
  try simp only [Act.put, pq0, pq1, pq2]
  refine uReady (rs := [6]) (by kernel_rfl) (by simp) ?_
  refine ReadyU.cons rfl (fun KK hKK => ?_) ReadyU.nil
  go_simp
  refine (rvalidF hv.out (gS.sl (E3.out.fc 0 rfl))).mono ?_
  rintro e w4 ⟨rfl, hb⟩
  have E4 := Lib.hid (E3.out.below hb)
  clear E3 hb
  (try dsimp only)
  clear hHeld
  refine hKK.out _ _ (⟨((E4.out.bx 0 rfl).cell 0 rfl), ((E4.out.bx 0 rfl).cell 1 rfl)⟩) (fun hHeld => ?_)
  clear hKK KK
  try simp only [Act.put, pq0, pq1, pq2]
  refine uTk (i := 7) (some 10) (v := ?_) ?_ ?_
  rotate_left
  · (intro wS hSw; (try dsimp only at hSw); go_simp; try with_reducible rfl)
  try simp only [Act.put, pq0, pq1, pq2]
  refine uTk (i := 8) (some 11) (v := ?_) ?_ ?_
  rotate_left
  · (intro wS hSw; (try dsimp only at hSw); go_simp; try with_reducible rfl)
  try simp only [Act.put, pq0, pq1, pq2]
  refine uPs (i := 9) (some 12) ?_
  try simp only [Act.put, pq0, pq1, pq2]
  refine uPs (i := 10) (some 13) ?_
  try simp only [Act.put, pq0, pq1, pq2]
  refine uPs (i := 11) (some 14) ?_
  try simp only [Act.put, pq0, pq1, pq2]
  refine uPs (i := 12) (some 15) ?_
  try simp only [Act.put, pq0, pq1, pq2]
  refine uPs (i := 13) (some 16) ?_
  try simp only [Act.put, pq0, pq1, pq2]
  refine uTk (i := 14) (some 17) (v := ?_) ?_ ?_
  rotate_left
  · (intro wS hSw; (try dsimp only at hSw); go_simp; try with_reducible rfl)
  try simp only [Act.put, pq0, pq1, pq2]
  refine uTk (i := 15) (some 18) (v := ?_) ?_ ?_
  rotate_left
  · (intro wS hSw; (try dsimp only at hSw); go_simp; try with_reducible rfl)
  try simp only [Act.put, pq0, pq1, pq2]
  refine uPs (i := 16) (some 19) ?_
  try simp only [Act.put, pq0, pq1, pq2]
  refine uPs (i := 17) (some 20) ?_
  try simp only [Act.put, pq0, pq1, pq2]
  refine uPs (i := 18) (some 21) ?_
  try simp only [Act.put, pq0, pq1, pq2]
  refine uPs (i := 19) (some 22) ?_
  try simp only [Act.put, pq0, pq1, pq2]
  refine uTk (i := 20) (some 23) (v := ?_) ?_ ?_
  rotate_left
  · (intro wS hSw; (try dsimp only at hSw); go_simp; try with_reducible rfl)
  try simp only [Act.put, pq0, pq1, pq2]
  refine uTk (i := 21) (some 24) (v := ?_) ?_ ?_
  rotate_left
  · (intro wS hSw; (try dsimp only at hSw); go_simp; try with_reducible rfl)
  try simp only [Act.put, pq0, pq1, pq2]
  refine uPs (i := 22) (some 25) ?_
  try simp only [Act.put, pq0, pq1, pq2]
  refine uPs (i := 23) (some 26) ?_
  try simp only [Act.put, pq0, pq1, pq2]
  refine uPs (i := 24) (some 27) ?_
  try simp only [Act.put, pq0, pq1, pq2]
  refine uPs (i := 25) (some 28) ?_
  try simp only [Act.put, pq0, pq1, pq2]
  refine uPs (i := 26) (some 29) ?_
  try simp only [Act.put, pq0, pq1, pq2]
  refine uTk (i := 27) (some 30) (v := ?_) ?_ ?_
  rotate_left
  · (intro wS hSw; (try dsimp only at hSw); go_simp; try with_reducible rfl)
  try simp only [Act.put, pq0, pq1, pq2]
  refine uTk (i := 28) (some 31) (v := ?_) ?_ ?_
  rotate_left
  · (intro wS hSw; (try dsimp only at hSw); go_simp; try with_reducible rfl)
  try simp only [Act.put, pq0, pq1, pq2]
  refine uPs (i := 29) (some 32) ?_
  try simp only [Act.put, pq0, pq1, pq2]
  refine uPs (i := 30) (some 33) ?_
  try simp only [Act.put, pq0, pq1, pq2]
  refine uPs (i := 31) (some 34) ?_
  try simp only [Act.put, pq0, pq1, pq2]
  refine uPs (i := 32) (some 35) ?_
  try simp only [Act.put, pq0, pq1, pq2]
  refine uPs (i := 33) (some 36) ?_
  try simp only [Act.put, pq0, pq1, pq2]
  refine uTk (i := 34) (some 37) (v := ?_) ?_ ?_
  rotate_left
  · (intro wS hSw; (try dsimp only at hSw); go_simp; try with_reducible rfl)
  try simp only [Act.put, pq0, pq1, pq2]
  refine uTk (i := 35) (some 2) (v := ?_) ?_ ?_
  rotate_left
  · (intro wS hSw; (try dsimp only at hSw); go_simp; try with_reducible rfl)
  try simp only [Act.put, pq0, pq1, pq2]
  refine uDone (by kernel_rfl) ?_ _
  have hfin := Lib.hid E4.out.bel
  go_wp2
  go_ret
  exact ⟨rfl, hfin.out⟩
set_option maxRecDepth 100000 in
set_option maxHeartbeats 4000000 in
theorem rValid_3 (N E : Nat) {xa ya : Option Addr} {xk yk : Nat} {w : World} (ha : Nn.Sl w (.slice xa (Nn.NatMath.len N) xk) (Nn.NatMath.digs N)) (hb : Nn.Sl w (.slice ya (Nn.NatMath.len E) yk) (Nn.NatMath.digs E)) (hN0 : Nn.NatMath.len N ≤ 64) (hv0 : Nn.vld (Nn.NatMath.digs N) = true) (hu0 : Nn.vld (Nn.NatMath.digs E) = true) (h150 : decide (N < 15) = true) :
    Calls Tryz.prog 16 #[.agg #[.slice xa (Nn.NatMath.len N) xk, .slice ya (Nn.NatMath.len E) yk]] w fun e w' => e = .returned (.bool false) ∧ Below w.heap.size w w' := by
  have E0 := Lib.hid (((Env.start (fun _ => True) w).argS ha).argS hb)
  clear ha hb
  go_enter Tryz.func16, Tryz.ntmps16
  have hN := Lib.hid hN0
  have hv := Lib.hid hv0
  have hu := Lib.hid hu0
  have h15 := Lib.hid h150
  clear hN0 hv0 hu0 h150
  go_wp2_with fail
  have E1 : Hid (Env (fun _ => True) w [(w.heap.size, 26, [.slice xa (Nn.NatMath.len N) xk, .slice ya (Nn.NatMath.len E) yk])] [.gn (gS (.slice ya (Nn.NatMath.len E) yk) (Nn.NatMath.digs E)), .gn (gS (.slice xa (Nn.NatMath.len N) xk) (Nn.NatMath.digs N))] _) := Lib.hid ((E0.out.push 26 [.slice xa (Nn.NatMath.len N) xk, .slice ya (Nn.NatMath.len E) yk] (w.heap.size) (by simp)))
  clear E0
  generalize w.alloc (.cells #[.slice xa (Nn.NatMath.len N) xk, .slice ya (Nn.NatMath.len E) yk] 26) = w1 at *
  have E2 := Lib.hid E1.out.drew
  clear E1
  refine wp_regionU (S := fun w' => w'.cell? ⟨w.heap.size, 0, none⟩ = some (.slice xa (Nn.NatMath.len N) xk) ∧ w'.cell? ⟨w.heap.size, 1, none⟩ = some (.slice ya (Nn.NatMath.len E) yk)) [] (by kernel_rfl) (⟨((E2.out.bx 0 rfl).cell 0 rfl), ((E2.out.bx 0 rfl).cell 1 rfl)⟩) (fun hHeld => ?_)
  generalize w1.drew = w2 at *
  refine uTk (i := 0) (some 3) (v := ?_) ?_ ?_
  rotate_left
  · (intro wS hSw; (try dsimp only at hSw); go_simp; try with_reducible rfl)
  try simp only [Act.put, pq0, pq1, pq2]
  refine uTk (i := 1) (some 4) (v := ?_) ?_ ?_
  rotate_left
  · (intro wS hSw; (try dsimp only at hSw); go_simp; try with_reducible rfl)
  try simp only [Act.put, pq0, pq1, pq2]
  refine uReady (rs := [2]) (by kernel_rfl) (by simp) ?_
  refine ReadyU.cons rfl (fun KK hKK => ?_) ReadyU.nil
  go_simp
  refine (rvalidF hv.out (gS.sl (E2.out.fc 1 rfl))).mono ?_
  rintro e w3 ⟨rfl, hb⟩
  have E3 := Lib.hid (E2.out.below hb)
  clear E2 hb
  (try dsimp only)
  clear hHeld
  refine hKK.out _ _ (⟨((E3.out.bx 0 rfl).cell 0 rfl), ((E3.out.bx 0 rfl).cell 1 rfl)⟩) (fun hHeld => ?_)
  clear hKK KK
  try simp only [Act.put, pq0, pq1, pq2]
  refine uTk (i := 3) (some 6) (v := ?_) ?_ ?_
  rotate_left
  · (intro wS hSw; (try dsimp only at hSw); go_simp; try with_reducible rfl)
  try simp only [Act.put, pq0, pq1, pq2]
  refine uTk (i := 4) (some 7) (v := ?_) ?_ ?_
  rotate_left
  · (intro wS hSw; (try dsimp only at hSw); go_simp; try with_reducible rfl)
  try simp only [Act.put, pq0, pq1, pq2]
  refine uTk (i := 5) (some 8) (v := ?_) ?_ ?_
  rotate_left
  · (intro wS hSw; (try dsimp only at hSw); go_simp; try with_reducible rfl)
  try simp only [Act.put, pq0, pq1, pq2]
  refine uReady (rs := [6]) (by kernel_rfl) (by simp) ?_
  refine ReadyU.cons rfl (fun KK hKK => ?_) ReadyU.nil
  go_simp
  refine (rvalidF hu.out (gS.sl (E3.out.fc 0 rfl))).mono ?_
  rintro e w4 ⟨rfl, hb⟩
  have E4 := Lib.hid (E3.out.below hb)
  clear E3 hb
  (try dsimp only)
  clear hHeld
  refine hKK.out _ _ (⟨((E4.out.bx 0 rfl).cell 0 rfl), ((E4.out.bx 0 rfl).cell 1 rfl)⟩) (fun hHeld => ?_)
  clear hKK KK
  try simp only [Act.put, pq0, pq1, pq2]
  refine uTk (i := 7) (some 10) (v := ?_) ?_ ?_
  rotate_left
  · (intro wS hSw; (try dsimp only at hSw); go_simp; try with_reducible rfl)
  try simp only [Act.put, pq0, pq1, pq2]
  refine uTk (i := 8) (some 11) (v := ?_) ?_ ?_
  rotate_left
  · (intro wS hSw; (try dsimp only at hSw); go_simp; try with_reducible rfl)
  try simp only [Act.put, pq0, pq1, pq2]
  refine uTk (i := 9) (some 12) (v := ?_) ?_ ?_
  rotate_left
  · (intro wS hSw; (try dsimp only at hSw); go_simp; try with_reducible rfl)
  try simp only [Act.put, pq0, pq1, pq2]
  refine uTk (i := 10) (some 13) (v := ?_) ?_ ?_
  rotate_left
  · (intro wS hSw; (try dsimp only at hSw); go_simp; try with_reducible rfl)
  try simp only [Act.put, pq0, pq1, pq2]
  refine uReady (rs := [11]) (by kernel_rfl) (by simp) ?_
  refine ReadyU.cons rfl (fun KK hKK => ?_) ReadyU.nil
  go_simp
  refine (Nn.rOf_c 15 _ (by decide)).mono ?_
  rintro e w5 ⟨⟨ua, uk, rfl, uh⟩, hb⟩
  have E5 := Lib.hid ((E4.out.below hb).noteS uh.out rfl)
  clear E4 hb uh
  (try dsimp only)
  clear hHeld
  refine hKK.out _ _ (⟨((E5.out.bx 0 rfl).cell 0 rfl), ((E5.out.bx 0 rfl).cell 1 rfl)⟩) (fun hHeld => ?_)
  clear hKK KK
  try simp only [Act.put, pq0, pq1, pq2]
  refine uReady (rs := [12]) (by kernel_rfl) (by simp) ?_
  refine ReadyU.cons rfl (fun KK hKK => ?_) ReadyU.nil
  go_simp
  refine (Nn.rLess_c h15.out (gS.sl (E5.out.fc 2 rfl)) (gS.sl (E5.out.fc 0 rfl))).mono ?_
  rintro e w6 ⟨rfl, hb⟩
  have E6 := Lib.hid (E5.out.below hb)
  clear E5 hb
  (try dsimp only)
  clear hHeld
  refine hKK.out _ _ (⟨((E6.out.bx 0 rfl).cell 0 rfl), ((E6.out.bx 0 rfl).cell 1 rfl)⟩) (fun hHeld => ?_)
  clear hKK KK
  try simp only [Act.put, pq0, pq1, pq2]
  refine uTk (i := 13) (some 16) (v := ?_) ?_ ?_
  rotate_left
  · (intro wS hSw; (try dsimp only at hSw); go_simp; try with_reducible rfl)
  try simp only [Act.put, pq0, pq1, pq2]
  refine uTk (i := 14) (some 17) (v := ?_) ?_ ?_
  rotate_left
  · (intro wS hSw; (try dsimp only at hSw); go_simp; try with_reducible rfl)
  try simp only [Act.put, pq0, pq1, pq2]
  refine uTk (i := 15) (some 18) (v := ?_) ?_ ?_
  rotate_left
  · (intro wS hSw; (try dsimp only at hSw); go_simp; try with_reducible rfl)
  try simp only [Act.put, pq0, pq1, pq2]
  refine uPs (i := 16) (some 19) ?_
  try simp only [Act.put, pq0, pq1, pq2]
  refine uPs (i := 17) (some 20) ?_
  try simp only [Act.put, pq0, pq1, pq2]
  refine uPs (i := 18) (some 21) ?_
  try simp only [Act.put, pq0, pq1, pq2]
  refine uPs (i := 19) (some 22) ?_
  try simp only [Act.put, pq0, pq1, pq2]
  refine uTk (i := 20) (some 23) (v := ?_) ?_ ?_
  rotate_left
  · (intro wS hSw; (try dsimp only at hSw); go_simp; try with_reducible rfl)
  try simp only [Act.put, pq0, pq1, pq2]
  refine uTk (i := 21) (some 24) (v := ?_) ?_ ?_
  rotate_left
  · (intro wS hSw; (try dsimp only at hSw); go_simp; try with_reducible rfl)
  try simp only [Act.put, pq0, pq1, pq2]
  refine uPs (i := 22) (some 25) ?_
  try simp only [Act.put, pq0, pq1, pq2]
  refine uPs (i := 23) (some 26) ?_
  try simp only [Act.put, pq0, pq1, pq2]
  refine uPs (i := 24) (some 27) ?_
  try simp only [Act.put, pq0, pq1, pq2]
  refine uPs (i := 25) (some 28) ?_
  try simp only [Act.put, pq0, pq1, pq2]
  refine uPs (i := 26) (some 29) ?_
  try simp only [Act.put, pq0, pq1, pq2]
  refine uTk (i := 27) (some 30) (v := ?_) ?_ ?_
  rotate_left
  · (intro wS hSw; (try dsimp only at hSw); go_simp; try with_reducible rfl)
  try simp only [Act.put, pq0, pq1, pq2]
  refine uTk (i := 28) (some 31) (v := ?_) ?_ ?_
  rotate_left
  · (intro wS hSw; (try dsimp only at hSw); go_simp; try with_reducible rfl)
  try simp only [Act.put, pq0, pq1, pq2]
  refine uPs (i := 29) (some 32) ?_
  try simp only [Act.put, pq0, pq1, pq2]
  refine uPs (i := 30) (some 33) ?_
  try simp only [Act.put, pq0, pq1, pq2]
  refine uPs (i := 31) (some 34) ?_
  try simp only [Act.put, pq0, pq1, pq2]
  refine uPs (i := 32) (some 35) ?_
  try simp only [Act.put, pq0, pq1, pq2]
  refine uPs (i := 33) (some 36) ?_
  try simp only [Act.put, pq0, pq1, pq2]
  refine uTk (i := 34) (some 37) (v := ?_) ?_ ?_
  rotate_left
  · (intro wS hSw; (try dsimp only at hSw); go_simp; try with_reducible rfl)
  try simp only [Act.put, pq0, pq1, pq2]
  refine uTk (i := 35) (some 2) (v := ?_) ?_ ?_
  rotate_left
  · (intro wS hSw; (try dsimp only at hSw); go_simp; try with_reducible rfl)
  try simp only [Act.put, pq0, pq1, pq2]
  refine uDone (by kernel_rfl) ?_ _
  have hfin := Lib.hid E6.out.bel
  go_wp2
  go_ret
  exact ⟨rfl, hfin.out⟩
set_option maxRecDepth 100000 in
set_option maxHeartbeats 4000000 in
theorem rValid_2 (N E : Nat) {xa ya : Option Addr} {xk yk : Nat} {w : World} (ha : Nn.Sl w (.slice xa (Nn.NatMath.len N) xk) (Nn.NatMath.digs N)) (hb : Nn.Sl w (.slice ya (Nn.NatMath.len E) yk) (Nn.NatMath.digs E)) (hN0 : Nn.NatMath.len N ≤ 64) (hv0 : Nn.vld (Nn.NatMath.digs N) = true) (hu0 : Nn.vld (Nn.NatMath.digs E) = true) (h150 : decide (N < 15) = false) (hbl0 : ¬ Nn.NatMath.bl N ≤ 512) :
    Calls Tryz.prog 16 #[.agg #[.slice xa (Nn.NatMath.len N) xk, .slice ya (Nn.NatMath.len E) yk]] w fun e w' => e = .returned (.bool false) ∧ Below w.heap.size w w' := by
  have E0 := Lib.hid (((Env.start (fun _ => True) w).argS ha).argS hb)
  clear ha hb
  go_enter Tryz.func16, Tryz.ntmps16
  have hN := Lib.hid hN0
  have hv := Lib.hid hv0
  have hu := Lib.hid hu0
  have h15 := Lib.hid h150
  have hbl := Lib.hid hbl0
  clear hN0 hv0 hu0 h150 hbl0
  obtain ⟨nb, hb⟩ : ∃ nb, Nn.NatMath.bl N = nb := ⟨_, rfl⟩
  have HB := Lib.hid hb
  have t1 : decide ((nb : Int) ≤ 512) = false := by have h := hbl.out; rw [hb] at h; exact decide_eq_false (by omega)
  have t1n : decide (nb ≤ 512) = false := by have h := hbl.out; rw [hb] at h; exact decide_eq_false (by omega)
  clear hb
  go_wp2_with fail
  have E1 : Hid (Env (fun _ => True) w [(w.heap.size, 26, [.slice xa (Nn.NatMath.len N) xk, .slice ya (Nn.NatMath.len E) yk])] [.gn (gS (.slice ya (Nn.NatMath.len E) yk) (Nn.NatMath.digs E)), .gn (gS (.slice xa (Nn.NatMath.len N) xk) (Nn.NatMath.digs N))] _) := Lib.hid ((E0.out.push 26 [.slice xa (Nn.NatMath.len N) xk, .slice ya (Nn.NatMath.len E) yk] (w.heap.size) (by simp)))
  clear E0
  generalize w.alloc (.cells #[.slice xa (Nn.NatMath.len N) xk, .slice ya (Nn.NatMath.len E) yk] 26) = w1 at *
  have E2 := Lib.hid E1.out.drew
  clear E1
  refine wp_regionU (S := fun w' => w'.cell? ⟨w.heap.size, 0, none⟩ = some (.slice xa (Nn.NatMath.len N) xk) ∧ w'.cell? ⟨w.heap.size, 1, none⟩ = some (.slice ya (Nn.NatMath.len E) yk)) [] (by kernel_rfl) (⟨((E2.out.bx 0 rfl).cell 0 rfl), ((E2.out.bx 0 rfl).cell 1 rfl)⟩) (fun hHeld => ?_)
  generalize w1.drew = w2 at *
  refine uTk (i := 0) (some 3) (v := ?_) ?_ ?_
  rotate_left
  · (intro wS hSw; (try dsimp only at hSw); go_simp; try with_reducible rfl)
  try simp only [Act.put, pq0, pq1, pq2]
  refine uTk (i := 1) (some 4) (v := ?_) ?_ ?_
  rotate_left
  · (intro wS hSw; (try dsimp only at hSw); go_simp; try with_reducible rfl)
  try simp only [Act.put, pq0, pq1, pq2]
  refine uReady (rs := [2]) (by kernel_rfl) (by simp) ?_
  refine ReadyU.cons rfl (fun KK hKK => ?_) ReadyU.nil
  go_simp
  refine (rvalidF hv.out (gS.sl (E2.out.fc 1 rfl))).mono ?_
  rintro e w3 ⟨rfl, hb⟩
  have E3 := Lib.hid (E2.out.below hb)
  clear E2 hb
  (try dsimp only)
  clear hHeld
  refine hKK.out _ _ (⟨((E3.out.bx 0 rfl).cell 0 rfl), ((E3.out.bx 0 rfl).cell 1 rfl)⟩) (fun hHeld => ?_)
  clear hKK KK
  try simp only [Act.put, pq0, pq1, pq2]
  refine uTk (i := 3) (some 6) (v := ?_) ?_ ?_
  rotate_left
  · (intro wS hSw; (try dsimp only at hSw); go_simp; try with_reducible rfl)
  try simp only [Act.put, pq0, pq1, pq2]
  refine uTk (i := 4) (some 7) (v := ?_) ?_ ?_
  rotate_left
  · (intro wS hSw; (try dsimp only at hSw); go_simp; try with_reducible rfl)
  try simp only [Act.put, pq0, pq1, pq2]
  refine uTk (i := 5) (some 8) (v := ?_) ?_ ?_
  rotate_left
  · (intro wS hSw; (try dsimp only at hSw); go_simp; try with_reducible rfl)
  try simp only [Act.put, pq0, pq1, pq2]
  refine uReady (rs := [6]) (by kernel_rfl) (by simp) ?_
  refine ReadyU.cons rfl (fun KK hKK => ?_) ReadyU.nil
  go_simp
  refine (rvalidF hu.out (gS.sl (E3.out.fc 0 rfl))).mono ?_
  rintro e w4 ⟨rfl, hb⟩
  have E4 := Lib.hid (E3.out.below hb)
  clear E3 hb
  (try dsimp only)
  clear hHeld
  refine hKK.out _ _ (⟨((E4.out.bx 0 rfl).cell 0 rfl), ((E4.out.bx 0 rfl).cell 1 rfl)⟩) (fun hHeld => ?_)
  clear hKK KK
  try simp only [Act.put, pq0, pq1, pq2]
  refine uTk (i := 7) (some 10) (v := ?_) ?_ ?_
  rotate_left
  · (intro wS hSw; (try dsimp only at hSw); go_simp; try with_reducible rfl)
  try simp only [Act.put, pq0, pq1, pq2]
  refine uTk (i := 8) (some 11) (v := ?_) ?_ ?_
  rotate_left
  · (intro wS hSw; (try dsimp only at hSw); go_simp; try with_reducible rfl)
  try simp only [Act.put, pq0, pq1, pq2]
  refine uTk (i := 9) (some 12) (v := ?_) ?_ ?_
  rotate_left
  · (intro wS hSw; (try dsimp only at hSw); go_simp; try with_reducible rfl)
  try simp only [Act.put, pq0, pq1, pq2]
  refine uTk (i := 10) (some 13) (v := ?_) ?_ ?_
  rotate_left
  · (intro wS hSw; (try dsimp only at hSw); go_simp; try with_reducible rfl)
  try simp only [Act.put, pq0, pq1, pq2]
  refine uReady (rs := [11]) (by kernel_rfl) (by simp) ?_
  refine ReadyU.cons rfl (fun KK hKK => ?_) ReadyU.nil
  go_simp
  refine (Nn.rOf_c 15 _ (by decide)).mono ?_
  rintro e w5 ⟨⟨ua, uk, rfl, uh⟩, hb⟩
  have E5 := Lib.hid ((E4.out.below hb).noteS uh.out rfl)
  clear E4 hb uh
  (try dsimp only)
  clear hHeld
  refine hKK.out _ _ (⟨((E5.out.bx 0 rfl).cell 0 rfl), ((E5.out.bx 0 rfl).cell 1 rfl)⟩) (fun hHeld => ?_)
  clear hKK KK
  try simp only [Act.put, pq0, pq1, pq2]
  refine uReady (rs := [12]) (by kernel_rfl) (by simp) ?_
  refine ReadyU.cons rfl (fun KK hKK => ?_) ReadyU.nil
  go_simp
  refine (Nn.rLess_c h15.out (gS.sl (E5.out.fc 2 rfl)) (gS.sl (E5.out.fc 0 rfl))).mono ?_
  rintro e w6 ⟨rfl, hb⟩
  have E6 := Lib.hid (E5.out.below hb)
  clear E5 hb
  (try dsimp only)
  clear hHeld
  refine hKK.out _ _ (⟨((E6.out.bx 0 rfl).cell 0 rfl), ((E6.out.bx 0 rfl).cell 1 rfl)⟩) (fun hHeld => ?_)
  clear hKK KK
  try simp only [Act.put, pq0, pq1, pq2]
  refine uTk (i := 13) (some 16) (v := ?_) ?_ ?_
  rotate_left
  · (intro wS hSw; (try dsimp only at hSw); go_simp; try with_reducible rfl)
  try simp only [Act.put, pq0, pq1, pq2]
  refine uTk (i := 14) (some 17) (v := ?_) ?_ ?_
  rotate_left
  · (intro wS hSw; (try dsimp only at hSw); go_simp; try with_reducible rfl)
  try simp only [Act.put, pq0, pq1, pq2]
  refine uTk (i := 15) (some 18) (v := ?_) ?_ ?_
  rotate_left
  · (intro wS hSw; (try dsimp only at hSw); go_simp; try with_reducible rfl)
  try simp only [Act.put, pq0, pq1, pq2]
  refine uTk (i := 16) (some 19) (v := ?_) ?_ ?_
  rotate_left
  · (intro wS hSw; (try dsimp only at hSw); go_simp; try with_reducible rfl)
  try simp only [Act.put, pq0, pq1, pq2]
  refine uTk (i := 17) (some 20) (v := ?_) ?_ ?_
  rotate_left
  · (intro wS hSw; (try dsimp only at hSw); go_simp; try with_reducible rfl)
  try simp only [Act.put, pq0, pq1, pq2]
  refine uReady (rs := [18]) (by kernel_rfl) (by simp) ?_
  refine ReadyU.cons rfl (fun KK hKK => ?_) ReadyU.nil
  go_simp
  refine (rbitsF HB.out hN.out (gS.sl (E6.out.fc 2 rfl))).mono ?_
  rintro e w7 ⟨rfl, hb⟩
  have E7 := Lib.hid (E6.out.below hb)
  clear E6 hb
  (try dsimp only)
  clear hHeld
  refine hKK.out _ _ (⟨((E7.out.bx 0 rfl).cell 0 rfl), ((E7.out.bx 0 rfl).cell 1 rfl)⟩) (fun hHeld => ?_)
  clear hKK KK
  try simp only [Act.put, pq0, pq1, pq2]
  refine uTk (i := 19) (some 22) (v := ?_) ?_ ?_
  rotate_left
  · (intro wS hSw; (try dsimp only at hSw); go_simp; try with_reducible rfl)
  try simp only [Act.put, pq0, pq1, pq2]
  refine uTk (i := 20) (some 23) (v := ?_) ?_ ?_
  rotate_left
  · (intro wS hSw; (try dsimp only at hSw); go_simp; try with_reducible rfl)
  try simp only [Act.put, pq0, pq1, pq2]
  refine uTk (i := 21) (some 24) (v := ?_) ?_ ?_
  rotate_left
  · (intro wS hSw; (try dsimp only at hSw); go_simp; try with_reducible rfl)
  try simp only [Act.put, pq0, pq1, pq2]
  refine uPs (i := 22) (some 25) ?_
  try simp only [Act.put, pq0, pq1, pq2]
  refine uPs (i := 23) (some 26) ?_
  try simp only [Act.put, pq0, pq1, pq2]
  refine uPs (i := 24) (some 27) ?_
  try simp only [Act.put, pq0, pq1, pq2]
  refine uPs (i := 25) (some 28) ?_
  try simp only [Act.put, pq0, pq1, pq2]
  refine uPs (i := 26) (some 29) ?_
  try simp only [Act.put, pq0, pq1, pq2]
  refine uTk (i := 27) (some 30) (v := ?_) ?_ ?_
  rotate_left
  · (intro wS hSw; (try dsimp only at hSw); go_simp; try with_reducible rfl)
  try simp only [Act.put, pq0, pq1, pq2]
  refine uTk (i := 28) (some 31) (v := ?_) ?_ ?_
  rotate_left
  · (intro wS hSw; (try dsimp only at hSw); go_simp; try with_reducible rfl)
  try simp only [Act.put, pq0, pq1, pq2]
  refine uPs (i := 29) (some 32) ?_
  try simp only [Act.put, pq0, pq1, pq2]
  refine uPs (i := 30) (some 33) ?_
  try simp only [Act.put, pq0, pq1, pq2]
  refine uPs (i := 31) (some 34) ?_
  try simp only [Act.put, pq0, pq1, pq2]
  refine uPs (i := 32) (some 35) ?_
  try simp only [Act.put, pq0, pq1, pq2]
  refine uPs (i := 33) (some 36) ?_
  try simp only [Act.put, pq0, pq1, pq2]
  refine uTk (i := 34) (some 37) (v := ?_) ?_ ?_
  rotate_left
  · (intro wS hSw; (try dsimp only at hSw); go_simp; try with_reducible rfl)
  try simp only [Act.put, pq0, pq1, pq2]
  refine uTk (i := 35) (some 2) (v := ?_) ?_ ?_
  rotate_left
  · (intro wS hSw; (try dsimp only at hSw); go_simp; try with_reducible rfl)
  try simp only [Act.put, pq0, pq1, pq2]
  refine uDone (by kernel_rfl) ?_ _
  have hfin := Lib.hid E7.out.bel
  go_wp2
  go_ret
  exact ⟨rfl, hfin.out⟩
set_option maxRecDepth 100000 in
set_option maxHeartbeats 4000000 in
theorem rValid_4 (N E : Nat) {xa ya : Option Addr} {xk yk : Nat} {w : World} (ha : Nn.Sl w (.slice xa (Nn.NatMath.len N) xk) (Nn.NatMath.digs N)) (hb : Nn.Sl w (.slice ya (Nn.NatMath.len E) yk) (Nn.NatMath.digs E)) (hN0 : Nn.NatMath.len N ≤ 64) (hv0 : Nn.vld (Nn.NatMath.digs N) = true) (hu0 : Nn.vld (Nn.NatMath.digs E) = true) (h150 : decide (N < 15) = false) (hbl0 : Nn.NatMath.bl N ≤ 512) (h30 : decide (E < 3) = true) :
    Calls Tryz.prog 16 #[.agg #[.slice xa (Nn.NatMath.len N) xk, .slice ya (Nn.NatMath.len E) yk]] w fun e w' => e = .returned (.bool false) ∧ Below w.heap.size w w' := by
  have E0 := Lib.hid (((Env.start (fun _ => True) w).argS ha).argS hb)
  clear ha hb
  go_enter Tryz.func16, Tryz.ntmps16
  have hN := Lib.hid hN0
  have hv := Lib.hid hv0
  have hu := Lib.hid hu0
  have h15 := Lib.hid h150
  have hbl := Lib.hid hbl0
  have h3 := Lib.hid h30
  clear hN0 hv0 hu0 h150 hbl0 h30
  obtain ⟨nb, hb⟩ : ∃ nb, Nn.NatMath.bl N = nb := ⟨_, rfl⟩
  have HB := Lib.hid hb
  have t1 : decide ((nb : Int) ≤ 512) = true := by have h := hbl.out; rw [hb] at h; exact decide_eq_true (by omega)
  have t1n : decide (nb ≤ 512) = true := by have h := hbl.out; rw [hb] at h; exact decide_eq_true (by omega)
  clear hb
  go_wp2_with fail
  have E1 : Hid (Env (fun _ => True) w [(w.heap.size, 26, [.slice xa (Nn.NatMath.len N) xk, .slice ya (Nn.NatMath.len E) yk])] [.gn (gS (.slice ya (Nn.NatMath.len E) yk) (Nn.NatMath.digs E)), .gn (gS (.slice xa (Nn.NatMath.len N) xk) (Nn.NatMath.digs N))] _) := Lib.hid ((E0.out.push 26 [.slice xa (Nn.NatMath.len N) xk, .slice ya (Nn.NatMath.len E) yk] (w.heap.size) (by simp)))
  clear E0
  generalize w.alloc (.cells #[.slice xa (Nn.NatMath.len N) xk, .slice ya (Nn.NatMath.len E) yk] 26) = w1 at *
  have E2 := Lib.hid E1.out.drew
  clear E1
  refine wp_regionU (S := fun w' => w'.cell? ⟨w.heap.size, 0, none⟩ = some (.slice xa (Nn.NatMath.len N) xk) ∧ w'.cell? ⟨w.heap.size, 1, none⟩ = some (.slice ya (Nn.NatMath.len E) yk)) [] (by kernel_rfl) (⟨((E2.out.bx 0 rfl).cell 0 rfl), ((E2.out.bx 0 rfl).cell 1 rfl)⟩) (fun hHeld => ?_)
  generalize w1.drew = w2 at *
  refine uTk (i := 0) (some 3) (v := ?_) ?_ ?_
  rotate_left
  · (intro wS hSw; (try dsimp only at hSw); go_simp; try with_reducible rfl)
  try simp only [Act.put, pq0, pq1, pq2]
  refine uTk (i := 1) (some 4) (v := ?_) ?_ ?_
  rotate_left
  · (intro wS hSw; (try dsimp only at hSw); go_simp; try with_reducible rfl)
  try simp only [Act.put, pq0, pq1, pq2]
  refine uReady (rs := [2]) (by kernel_rfl) (by simp) ?_
  refine ReadyU.cons rfl (fun KK hKK => ?_) ReadyU.nil
  go_simp
  refine (rvalidF hv.out (gS.sl (E2.out.fc 1 rfl))).mono ?_
  rintro e w3 ⟨rfl, hb⟩
  have E3 := Lib.hid (E2.out.below hb)
  clear E2 hb
  (try dsimp only)
  clear hHeld
  refine hKK.out _ _ (⟨((E3.out.bx 0 rfl).cell 0 rfl), ((E3.out.bx 0 rfl).cell 1 rfl)⟩) (fun hHeld => ?_)
  clear hKK KK
  try simp only [Act.put, pq0, pq1, pq2]
  refine uTk (i := 3) (some 6) (v := ?_) ?_ ?_
  rotate_left
  · (intro wS hSw; (try dsimp only at hSw); go_simp; try with_reducible rfl)
  try simp only [Act.put, pq0, pq1, pq2]
  refine uTk (i := 4) (some 7) (v := ?_) ?_ ?_
  rotate_left
  · (intro wS hSw; (try dsimp only at hSw); go_simp; try with_reducible rfl)
  try simp only [Act.put, pq0, pq1, pq2]
  refine uTk (i := 5) (some 8) (v := ?_) ?_ ?_
  rotate_left
  · (intro wS hSw; (try dsimp only at hSw); go_simp; try with_reducible rfl)
  try simp only [Act.put, pq0, pq1, pq2]
  refine uReady (rs := [6]) (by kernel_rfl) (by simp) ?_
  refine ReadyU.cons rfl (fun KK hKK => ?_) ReadyU.nil
  go_simp
  refine (rvalidF hu.out (gS.sl (E3.out.fc 0 rfl))).mono ?_
  rintro e w4 ⟨rfl, hb⟩
  have E4 := Lib.hid (E3.out.below hb)
  clear E3 hb
  (try dsimp only)
  clear hHeld
  refine hKK.out _ _ (⟨((E4.out.bx 0 rfl).cell 0 rfl), ((E4.out.bx 0 rfl).cell 1 rfl)⟩) (fun hHeld => ?_)
  clear hKK KK
  try simp only [Act.put, pq0, pq1, pq2]
  refine uTk (i := 7) (some 10) (v := ?_) ?_ ?_
  rotate_left
  · (intro wS hSw; (try dsimp only at hSw); go_simp; try with_reducible rfl)
  try simp only [Act.put, pq0, pq1, pq2]
  refine uTk (i := 8) (some 11) (v := ?_) ?_ ?_
  rotate_left
  · (intro wS hSw; (try dsimp only at hSw); go_simp; try with_reducible rfl)
  try simp only [Act.put, pq0, pq1, pq2]
  refine uTk (i := 9) (some 12) (v := ?_) ?_ ?_
  rotate_left
  · (intro wS hSw; (try dsimp only at hSw); go_simp; try with_reducible rfl)
  try simp only [Act.put, pq0, pq1, pq2]
  refine uTk (i := 10) (some 13) (v := ?_) ?_ ?_
  rotate_left
  · (intro wS hSw; (try dsimp only at hSw); go_simp; try with_reducible rfl)
  try simp only [Act.put, pq0, pq1, pq2]
  refine uReady (rs := [11]) (by kernel_rfl) (by simp) ?_
  refine ReadyU.cons rfl (fun KK hKK => ?_) ReadyU.nil
  go_simp
  refine (Nn.rOf_c 15 _ (by decide)).mono ?_
  rintro e w5 ⟨⟨ua, uk, rfl, uh⟩, hb⟩
  have E5 := Lib.hid ((E4.out.below hb).noteS uh.out rfl)
  clear E4 hb uh
  (try dsimp only)
  clear hHeld
  refine hKK.out _ _ (⟨((E5.out.bx 0 rfl).cell 0 rfl), ((E5.out.bx 0 rfl).cell 1 rfl)⟩) (fun hHeld => ?_)
  clear hKK KK
  try simp only [Act.put, pq0, pq1, pq2]
  refine uReady (rs := [12]) (by kernel_rfl) (by simp) ?_
  refine ReadyU.cons rfl (fun KK hKK => ?_) ReadyU.nil
  go_simp
  refine (Nn.rLess_c h15.out (gS.sl (E5.out.fc 2 rfl)) (gS.sl (E5.out.fc 0 rfl))).mono ?_
  rintro e w6 ⟨rfl, hb⟩
  have E6 := Lib.hid (E5.out.below hb)
  clear E5 hb
  (try dsimp only)
  clear hHeld
  refine hKK.out _ _ (⟨((E6.out.bx 0 rfl).cell 0 rfl), ((E6.out.bx 0 rfl).cell 1 rfl)⟩) (fun hHeld => ?_)
  clear hKK KK
  try simp only [Act.put, pq0, pq1, pq2]
  refine uTk (i := 13) (some 16) (v := ?_) ?_ ?_
  rotate_left
  · (intro wS hSw; (try dsimp only at hSw); go_simp; try with_reducible rfl)
  try simp only [Act.put, pq0, pq1, pq2]
  refine uTk (i := 14) (some 17) (v := ?_) ?_ ?_
  rotate_left
  · (intro wS hSw; (try dsimp only at hSw); go_simp; try with_reducible rfl)
  try simp only [Act.put, pq0, pq1, pq2]
  refine uTk (i := 15) (some 18) (v := ?_) ?_ ?_
  rotate_left
  · (intro wS hSw; (try dsimp only at hSw); go_simp; try with_reducible rfl)
  try simp only [Act.put, pq0, pq1, pq2]
  refine uTk (i := 16) (some 19) (v := ?_) ?_ ?_
  rotate_left
  · (intro wS hSw; (try dsimp only at hSw); go_simp; try with_reducible rfl)
  try simp only [Act.put, pq0, pq1, pq2]
  refine uTk (i := 17) (some 20) (v := ?_) ?_ ?_
  rotate_left
  · (intro wS hSw; (try dsimp only at hSw); go_simp; try with_reducible rfl)
  try simp only [Act.put, pq0, pq1, pq2]
  refine uReady (rs := [18]) (by kernel_rfl) (by simp) ?_
  refine ReadyU.cons rfl (fun KK hKK => ?_) ReadyU.nil
  go_simp
  refine (rbitsF HB.out hN.out (gS.sl (E6.out.fc 2 rfl))).mono ?_
  rintro e w7 ⟨rfl, hb⟩
  have E7 := Lib.hid (E6.out.below hb)
  clear E6 hb
  (try dsimp only)
  clear hHeld
  refine hKK.out _ _ (⟨((E7.out.bx 0 rfl).cell 0 rfl), ((E7.out.bx 0 rfl).cell 1 rfl)⟩) (fun hHeld => ?_)
  clear hKK KK
  try simp only [Act.put, pq0, pq1, pq2]
  refine uTk (i := 19) (some 22) (v := ?_) ?_ ?_
  rotate_left
  · (intro wS hSw; (try dsimp only at hSw); go_simp; try with_reducible rfl)
  try simp only [Act.put, pq0, pq1, pq2]
  refine uTk (i := 20) (some 23) (v := ?_) ?_ ?_
  rotate_left
  · (intro wS hSw; (try dsimp only at hSw); go_simp; try with_reducible rfl)
  try simp only [Act.put, pq0, pq1, pq2]
  refine uTk (i := 21) (some 24) (v := ?_) ?_ ?_
  rotate_left
  · (intro wS hSw; (try dsimp only at hSw); go_simp; try with_reducible rfl)
  try simp only [Act.put, pq0, pq1, pq2]
  refine uTk (i := 22) (some 25) (v := ?_) ?_ ?_
  rotate_left
  · (intro wS hSw; (try dsimp only at hSw); go_simp; try with_reducible rfl)
  try simp only [Act.put, pq0, pq1, pq2]
  refine uTk (i := 23) (some 26) (v := ?_) ?_ ?_
  rotate_left
  · (intro wS hSw; (try dsimp only at hSw); go_simp; try with_reducible rfl)
  try simp only [Act.put, pq0, pq1, pq2]
  refine uReady (rs := [24]) (by kernel_rfl) (by simp) ?_
  refine ReadyU.cons rfl (fun KK hKK => ?_) ReadyU.nil
  go_simp
  refine (Nn.rOf_c 3 _ (by decide)).mono ?_
  rintro e w8 ⟨⟨va, vk, rfl, vh⟩, hb⟩
  have E8 := Lib.hid ((E7.out.below hb).noteS vh.out rfl)
  clear E7 hb vh
  (try dsimp only)
  clear hHeld
  refine hKK.out _ _ (⟨((E8.out.bx 0 rfl).cell 0 rfl), ((E8.out.bx 0 rfl).cell 1 rfl)⟩) (fun hHeld => ?_)
  clear hKK KK
  try simp only [Act.put, pq0, pq1, pq2]
  refine uReady (rs := [25]) (by kernel_rfl) (by simp) ?_
  refine ReadyU.cons rfl (fun KK hKK => ?_) ReadyU.nil
  go_simp
  refine (Nn.rLess_c h3.out (gS.sl (E8.out.fc 2 rfl)) (gS.sl (E8.out.fc 0 rfl))).mono ?_
  rintro e w9 ⟨rfl, hb⟩
  have E9 := Lib.hid (E8.out.below hb)
  clear E8 hb
  (try dsimp only)
  clear hHeld
  refine hKK.out _ _ (⟨((E9.out.bx 0 rfl).cell 0 rfl), ((E9.out.bx 0 rfl).cell 1 rfl)⟩) (fun hHeld => ?_)
  clear hKK KK
  try simp only [Act.put, pq0, pq1, pq2]
  refine uTk (i := 26) (some 29) (v := ?_) ?_ ?_
  rotate_left
  · (intro wS hSw; (try dsimp only at hSw); go_simp; try with_reducible rfl)
  try simp only [Act.put, pq0, pq1, pq2]
  refine uTk (i := 27) (some 30) (v := ?_) ?_ ?_
  rotate_left
  · (intro wS hSw; (try dsimp only at hSw); go_simp; try with_reducible rfl)
  try simp only [Act.put, pq0, pq1, pq2]
  refine uTk (i := 28) (some 31) (v := ?_) ?_ ?_
  rotate_left
  · (intro wS hSw; (try dsimp only at hSw); go_simp; try with_reducible rfl)
  try simp only [Act.put, pq0, pq1, pq2]
  refine uPs (i := 29) (some 32) ?_
  try simp only [Act.put, pq0, pq1, pq2]
  refine uPs (i := 30) (some 33) ?_
  try simp only [Act.put, pq0, pq1, pq2]
  refine uPs (i := 31) (some 34) ?_
  try simp only [Act.put, pq0, pq1, pq2]
  refine uPs (i := 32) (some 35) ?_
  try simp only [Act.put, pq0, pq1, pq2]
  refine uPs (i := 33) (some 36) ?_
  try simp only [Act.put, pq0, pq1, pq2]
  refine uTk (i := 34) (some 37) (v := ?_) ?_ ?_
  rotate_left
  · (intro wS hSw; (try dsimp only at hSw); go_simp; try with_reducible rfl)
  try simp only [Act.put, pq0, pq1, pq2]
  refine uTk (i := 35) (some 2) (v := ?_) ?_ ?_
  rotate_left
  · (intro wS hSw; (try dsimp only at hSw); go_simp; try with_reducible rfl)
  try simp only [Act.put, pq0, pq1, pq2]
  refine uDone (by kernel_rfl) ?_ _
  have hfin := Lib.hid E9.out.bel
  go_wp2
  go_ret
  exact ⟨rfl, hfin.out⟩
set_option maxRecDepth 100000 in
set_option maxHeartbeats 4000000 in
theorem rValid_5 (N E : Nat) {xa ya : Option Addr} {xk yk : Nat} {w : World} (ha : Nn.Sl w (.slice xa (Nn.NatMath.len N) xk) (Nn.NatMath.digs N)) (hb : Nn.Sl w (.slice ya (Nn.NatMath.len E) yk) (Nn.NatMath.digs E)) (hN0 : Nn.NatMath.len N ≤ 64) (hv0 : Nn.vld (Nn.NatMath.digs N) = true) (hu0 : Nn.vld (Nn.NatMath.digs E) = true) (h150 : decide (N < 15) = false) (hbl0 : Nn.NatMath.bl N ≤ 512) (h30 : decide (E < 3) = false) (hl0 : decide (E < N) = false) :
    Calls Tryz.prog 16 #[.agg #[.slice xa (Nn.NatMath.len N) xk, .slice ya (Nn.NatMath.len E) yk]] w fun e w' => e = .returned (.bool false) ∧ Below w.heap.size w w' := by
  have E0 := Lib.hid (((Env.start (fun _ => True) w).argS ha).argS hb)
  clear ha hb
  go_enter Tryz.func16, Tryz.ntmps16
  have hN := Lib.hid hN0
  have hv := Lib.hid hv0
  have hu := Lib.hid hu0
  have h15 := Lib.hid h150
  have hbl := Lib.hid hbl0
  have h3 := Lib.hid h30
  have hl := Lib.hid hl0
  clear hN0 hv0 hu0 h150 hbl0 h30 hl0
  obtain ⟨nb, hb⟩ : ∃ nb, Nn.NatMath.bl N = nb := ⟨_, rfl⟩
  have HB := Lib.hid hb
  have t1 : decide ((nb : Int) ≤ 512) = true := by have h := hbl.out; rw [hb] at h; exact decide_eq_true (by omega)
  have t1n : decide (nb ≤ 512) = true := by have h := hbl.out; rw [hb] at h; exact decide_eq_true (by omega)
  clear hb
  go_wp2_with fail
  have E1 : Hid (Env (fun _ => True) w [(w.heap.size, 26, [.slice xa (Nn.NatMath.len N) xk, .slice ya (Nn.NatMath.len E) yk])] [.gn (gS (.slice ya (Nn.NatMath.len E) yk) (Nn.NatMath.digs E)), .gn (gS (.slice xa (Nn.NatMath.len N) xk) (Nn.NatMath.digs N))] _) := Lib.hid ((E0.out.push 26 [.slice xa (Nn.NatMath.len N) xk, .slice ya (Nn.NatMath.len E) yk] (w.heap.size) (by simp)))
  clear E0
  generalize w.alloc (.cells #[.slice xa (Nn.NatMath.len N) xk, .slice ya (Nn.NatMath.len E) yk] 26) = w1 at *
  have E2 := Lib.hid E1.out.drew
  clear E1
  refine wp_regionU (S := fun w' => w'.cell? ⟨w.heap.size, 0, none⟩ = some (.slice xa (Nn.NatMath.len N) xk) ∧ w'.cell? ⟨w.heap.size, 1, none⟩ = some (.slice ya (Nn.NatMath.len E) yk)) [] (by kernel_rfl) (⟨((E2.out.bx 0 rfl).cell 0 rfl), ((E2.out.bx 0 rfl).cell 1 rfl)⟩) (fun hHeld => ?_)
  generalize w1.drew = w2 at *
  refine uTk (i := 0) (some 3) (v := ?_) ?_ ?_
  rotate_left
  · (intro wS hSw; (try dsimp only at hSw); go_simp; try with_reducible rfl)
  try simp only [Act.put, pq0, pq1, pq2]
  refine uTk (i := 1) (some 4) (v := ?_) ?_ ?_
  rotate_left
  · (intro wS hSw; (try dsimp only at hSw); go_simp; try with_reducible rfl)
  try simp only [Act.put, pq0, pq1, pq2]
  refine uReady (rs := [2]) (by kernel_rfl) (by simp) ?_
  refine ReadyU.cons rfl (fun KK hKK => ?_) ReadyU.nil
  go_simp
  refine (rvalidF hv.out (gS.sl (E2.out.fc 1 rfl))).mono ?_
  rintro e w3 ⟨rfl, hb⟩
  have E3 := Lib.hid (E2.out.below hb)
  clear E2 hb
  (try dsimp only)
  clear hHeld
  refine hKK.out _ _ (⟨((E3.out.bx 0 rfl).cell 0 rfl), ((E3.out.bx 0 rfl).cell 1 rfl)⟩) (fun hHeld => ?_)
  clear hKK KK
  try simp only [Act.put, pq0, pq1, pq2]
  refine uTk (i := 3) (some 6) (v := ?_) ?_ ?_
  rotate_left
  · (intro wS hSw; (try dsimp only at hSw); go_simp; try with_reducible rfl)
  try simp only [Act.put, pq0, pq1, pq2]
  refine uTk (i := 4) (some 7) (v := ?_) ?_ ?_
  rotate_left
  · (intro wS hSw; (try dsimp only at hSw); go_simp; try with_reducible rfl)
  try simp only [Act.put, pq0, pq1, pq2]
  refine uTk (i := 5) (some 8) (v := ?_) ?_ ?_
  rotate_left
  · (intro wS hSw; (try dsimp only at hSw); go_simp; try with_reducible rfl)
  try simp only [Act.put, pq0, pq1, pq2]
  refine uReady (rs := [6]) (by kernel_rfl) (by simp) ?_
  refine ReadyU.cons rfl (fun KK hKK => ?_) ReadyU.nil
  go_simp
  refine (rvalidF hu.out (gS.sl (E3.out.fc 0 rfl))).mono ?_
  rintro e w4 ⟨rfl, hb⟩
  have E4 := Lib.hid (E3.out.below hb)
  clear E3 hb
  (try dsimp only)
  clear hHeld
  refine hKK.out _ _ (⟨((E4.out.bx 0 rfl).cell 0 rfl), ((E4.out.bx 0 rfl).cell 1 rfl)⟩) (fun hHeld => ?_)
  clear hKK KK
  try simp only [Act.put, pq0, pq1, pq2]
  refine uTk (i := 7) (some 10) (v := ?_) ?_ ?_
  rotate_left
  · (intro wS hSw; (try dsimp only at hSw); go_simp; try with_reducible rfl)
  try simp only [Act.put, pq0, pq1, pq2]
  refine uTk (i := 8) (some 11) (v := ?_) ?_ ?_
  rotate_left
  · (intro wS hSw; (try dsimp only at hSw); go_simp; try with_reducible rfl)
  try simp only [Act.put, pq0, pq1, pq2]
  refine uTk (i := 9) (some 12) (v := ?_) ?_ ?_
  rotate_left
  · (intro wS hSw; (try dsimp only at hSw); go_simp; try with_reducible rfl)
  try simp only [Act.put, pq0, pq1, pq2]
  refine uTk (i := 10) (some 13) (v := ?_) ?_ ?_
  rotate_left
  · (intro wS hSw; (try dsimp only at hSw); go_simp; try with_reducible rfl)
  try simp only [Act.put, pq0, pq1, pq2]
  refine uReady (rs := [11]) (by kernel_rfl) (by simp) ?_
  refine ReadyU.cons rfl (fun KK hKK => ?_) ReadyU.nil
  go_simp
  refine (Nn.rOf_c 15 _ (by decide)).mono ?_
  rintro e w5 ⟨⟨ua, uk, rfl, uh⟩, hb⟩
  have E5 := Lib.hid ((E4.out.below hb).noteS uh.out rfl)
  clear E4 hb uh
  (try dsimp only)
  clear hHeld
  refine hKK.out _ _ (⟨((E5.out.bx 0 rfl).cell 0 rfl), ((E5.out.bx 0 rfl).cell 1 rfl)⟩) (fun hHeld => ?_)
  clear hKK KK
  try simp only [Act.put, pq0, pq1, pq2]
  refine uReady (rs := [12]) (by kernel_rfl) (by simp) ?_
  refine ReadyU.cons rfl (fun KK hKK => ?_) ReadyU.nil
  go_simp
  refine (Nn.rLess_c h15.out (gS.sl (E5.out.fc 2 rfl)) (gS.sl (E5.out.fc 0 rfl))).mono ?_
  rintro e w6 ⟨rfl, hb⟩
  have E6 := Lib.hid (E5.out.below hb)
  clear E5 hb
  (try dsimp only)
  clear hHeld
  refine hKK.out _ _ (⟨((E6.out.bx 0 rfl).cell 0 rfl), ((E6.out.bx 0 rfl).cell 1 rfl)⟩) (fun hHeld => ?_)
  clear hKK KK
  try simp only [Act.put, pq0, pq1, pq2]
  refine uTk (i := 13) (some 16) (v := ?_) ?_ ?_
  rotate_left
  · (intro wS hSw; (try dsimp only at hSw); go_simp; try with_reducible rfl)
  try simp only [Act.put, pq0, pq1, pq2]
  refine uTk (i := 14) (some 17) (v := ?_) ?_ ?_
  rotate_left
  · (intro wS hSw; (try dsimp only at hSw); go_simp; try with_reducible rfl)
  try simp only [Act.put, pq0, pq1, pq2]
  refine uTk (i := 15) (some 18) (v := ?_) ?_ ?_
  rotate_left
  · (intro wS hSw; (try dsimp only at hSw); go_simp; try with_reducible rfl)
  try simp only [Act.put, pq0, pq1, pq2]
  refine uTk (i := 16) (some 19) (v := ?_) ?_ ?_
  rotate_left
  · (intro wS hSw; (try dsimp only at hSw); go_simp; try with_reducible rfl)
  try simp only [Act.put, pq0, pq1, pq2]
  refine uTk (i := 17) (some 20) (v := ?_) ?_ ?_
  rotate_left
  · (intro wS hSw; (try dsimp only at hSw); go_simp; try with_reducible rfl)
  try simp only [Act.put, pq0, pq1, pq2]
  refine uReady (rs := [18]) (by kernel_rfl) (by simp) ?_
  refine ReadyU.cons rfl (fun KK hKK => ?_) ReadyU.nil
  go_simp
  refine (rbitsF HB.out hN.out (gS.sl (E6.out.fc 2 rfl))).mono ?_
  rintro e w7 ⟨rfl, hb⟩
  have E7 := Lib.hid (E6.out.below hb)
  clear E6 hb
  (try dsimp only)
  clear hHeld
  refine hKK.out _ _ (⟨((E7.out.bx 0 rfl).cell 0 rfl), ((E7.out.bx 0 rfl).cell 1 rfl)⟩) (fun hHeld => ?_)
  clear hKK KK
  try simp only [Act.put, pq0, pq1, pq2]
  refine uTk (i := 19) (some 22) (v := ?_) ?_ ?_
  rotate_left
  · (intro wS hSw; (try dsimp only at hSw); go_simp; try with_reducible rfl)
  try simp only [Act.put, pq0, pq1, pq2]
  refine uTk (i := 20) (some 23) (v := ?_) ?_ ?_
  rotate_left
  · (intro wS hSw; (try dsimp only at hSw); go_simp; try with_reducible rfl)
  try simp only [Act.put, pq0, pq1, pq2]
  refine uTk (i := 21) (some 24) (v := ?_) ?_ ?_
  rotate_left
  · (intro wS hSw; (try dsimp only at hSw); go_simp; try with_reducible rfl)
  try simp only [Act.put, pq0, pq1, pq2]
  refine uTk (i := 22) (some 25) (v := ?_) ?_ ?_
  rotate_left
  · (intro wS hSw; (try dsimp only at hSw); go_simp; try with_reducible rfl)
  try simp only [Act.put, pq0, pq1, pq2]
  refine uTk (i := 23) (some 26) (v := ?_) ?_ ?_
  rotate_left
  · (intro wS hSw; (try dsimp only at hSw); go_simp; try with_reducible rfl)
  try simp only [Act.put, pq0, pq1, pq2]
  refine uReady (rs := [24]) (by kernel_rfl) (by simp) ?_
  refine ReadyU.cons rfl (fun KK hKK => ?_) ReadyU.nil
  go_simp
  refine (Nn.rOf_c 3 _ (by decide)).mono ?_
  rintro e w8 ⟨⟨va, vk, rfl, vh⟩, hb⟩
  have E8 := Lib.hid ((E7.out.below hb).noteS vh.out rfl)
  clear E7 hb vh
  (try dsimp only)
  clear hHeld
  refine hKK.out _ _ (⟨((E8.out.bx 0 rfl).cell 0 rfl), ((E8.out.bx 0 rfl).cell 1 rfl)⟩) (fun hHeld => ?_)
  clear hKK KK
  try simp only [Act.put, pq0, pq1, pq2]
  refine uReady (rs := [25]) (by kernel_rfl) (by simp) ?_
  refine ReadyU.cons rfl (fun KK hKK => ?_) ReadyU.nil
  go_simp
  refine (Nn.rLess_c h3.out (gS.sl (E8.out.fc 2 rfl)) (gS.sl (E8.out.fc 0 rfl))).mono ?_
  rintro e w9 ⟨rfl, hb⟩
  have E9 := Lib.hid (E8.out.below hb)
  clear E8 hb
  (try dsimp only)
  clear hHeld
  refine hKK.out _ _ (⟨((E9.out.bx 0 rfl).cell 0 rfl), ((E9.out.bx 0 rfl).cell 1 rfl)⟩) (fun hHeld => ?_)
  clear hKK KK
  try simp only [Act.put, pq0, pq1, pq2]
  refine uTk (i := 26) (some 29) (v := ?_) ?_ ?_
  rotate_left
  · (intro wS hSw; (try dsimp only at hSw); go_simp; try with_reducible rfl)
  try simp only [Act.put, pq0, pq1, pq2]
  refine uTk (i := 27) (some 30) (v := ?_) ?_ ?_
  rotate_left
  · (intro wS hSw; (try dsimp only at hSw); go_simp; try with_reducible rfl)
  try simp only [Act.put, pq0, pq1, pq2]
  refine uTk (i := 28) (some 31) (v := ?_) ?_ ?_
  rotate_left
  · (intro wS hSw; (try dsimp only at hSw); go_simp; try with_reducible rfl)
  try simp only [Act.put, pq0, pq1, pq2]
  refine uTk (i := 29) (some 32) (v := ?_) ?_ ?_
  rotate_left
  · (intro wS hSw; (try dsimp only at hSw); go_simp; try with_reducible rfl)
  try simp only [Act.put, pq0, pq1, pq2]
  refine uTk (i := 30) (some 33) (v := ?_) ?_ ?_
  rotate_left
  · (intro wS hSw; (try dsimp only at hSw); go_simp; try with_reducible rfl)
  try simp only [Act.put, pq0, pq1, pq2]
  refine uTk (i := 31) (some 34) (v := ?_) ?_ ?_
  rotate_left
  · (intro wS hSw; (try dsimp only at hSw); go_simp; try with_reducible rfl)
  try simp only [Act.put, pq0, pq1, pq2]
  refine uTk (i := 32) (some 35) (v := ?_) ?_ ?_
  rotate_left
  · (intro wS hSw; (try dsimp only at hSw); go_simp; try with_reducible rfl)
  try simp only [Act.put, pq0, pq1, pq2]
  refine uReady (rs := [33]) (by kernel_rfl) (by simp) ?_
  refine ReadyU.cons rfl (fun KK hKK => ?_) ReadyU.nil
  go_simp
  refine (Nn.rLess_c hl.out (gS.sl (E9.out.fc 2 rfl)) (gS.sl (E9.out.fc 3 rfl))).mono ?_
  rintro e w10 ⟨rfl, hb⟩
  have E10 := Lib.hid (E9.out.below hb)
  clear E9 hb
  (try dsimp only)
  clear hHeld
  refine hKK.out _ _ (⟨((E10.out.bx 0 rfl).cell 0 rfl), ((E10.out.bx 0 rfl).cell 1 rfl)⟩) (fun hHeld => ?_)
  clear hKK KK
  try simp only [Act.put, pq0, pq1, pq2]
  refine uTk (i := 34) (some 37) (v := ?_) ?_ ?_
  rotate_left
  · (intro wS hSw; (try dsimp only at hSw); go_simp; try with_reducible rfl)
  try simp only [Act.put, pq0, pq1, pq2]
  refine uTk (i := 35) (some 2) (v := ?_) ?_ ?_
  rotate_left
  · (intro wS hSw; (try dsimp only at hSw); go_simp; try with_reducible rfl)
  try simp only [Act.put, pq0, pq1, pq2]
  refine uDone (by kernel_rfl) ?_ _
  have hfin := Lib.hid E10.out.bel
  go_wp2
  go_ret
  exact ⟨rfl, hfin.out⟩
set_option maxRecDepth 100000 in
set_option maxHeartbeats 4000000 in
theorem rValid_6 (N E : Nat) {xa ya : Option Addr} {xk yk : Nat} {w : World} (ha : Nn.Sl w (.slice xa (Nn.NatMath.len N) xk) (Nn.NatMath.digs N)) (hb : Nn.Sl w (.slice ya (Nn.NatMath.len E) yk) (Nn.NatMath.digs E)) (hN0 : Nn.NatMath.len N ≤ 64) (hv0 : Nn.vld (Nn.NatMath.digs N) = true) (hu0 : Nn.vld (Nn.NatMath.digs E) = true) (h150 : decide (N < 15) = false) (hbl0 : Nn.NatMath.bl N ≤ 512) (h30 : decide (E < 3) = false) (hl0 : decide (E < N) = true) :
    Calls Tryz.prog 16 #[.agg #[.slice xa (Nn.NatMath.len N) xk, .slice ya (Nn.NatMath.len E) yk]] w fun e w' => e = .returned (.bool true) ∧ Below w.heap.size w w' := by
  have E0 := Lib.hid (((Env.start (fun _ => True) w).argS ha).argS hb)
  clear ha hb
  go_enter Tryz.func16, Tryz.ntmps16
  have hN := Lib.hid hN0
  have hv := Lib.hid hv0
  have hu := Lib.hid hu0
  have h15 := Lib.hid h150
  have hbl := Lib.hid hbl0
  have h3 := Lib.hid h30
  have hl := Lib.hid hl0
  clear hN0 hv0 hu0 h150 hbl0 h30 hl0
  obtain ⟨nb, hb⟩ : ∃ nb, Nn.NatMath.bl N = nb := ⟨_, rfl⟩
  have HB := Lib.hid hb
  have t1 : decide ((nb : Int) ≤ 512) = true := by have h := hbl.out; rw [hb] at h; exact decide_eq_true (by omega)
  have t1n : decide (nb ≤ 512) = true := by have h := hbl.out; rw [hb] at h; exact decide_eq_true (by omega)
  clear hb
  go_wp2_with fail
  have E1 : Hid (Env (fun _ => True) w [(w.heap.size, 26, [.slice xa (Nn.NatMath.len N) xk, .slice ya (Nn.NatMath.len E) yk])] [.gn (gS (.slice ya (Nn.NatMath.len E) yk) (Nn.NatMath.digs E)), .gn (gS (.slice xa (Nn.NatMath.len N) xk) (Nn.NatMath.digs N))] _) := Lib.hid ((E0.out.push 26 [.slice xa (Nn.NatMath.len N) xk, .slice ya (Nn.NatMath.len E) yk] (w.heap.size) (by simp)))
  clear E0
  generalize w.alloc (.cells #[.slice xa (Nn.NatMath.len N) xk, .slice ya (Nn.NatMath.len E) yk] 26) = w1 at *
  have E2 := Lib.hid E1.out.drew
  clear E1
  refine wp_regionU (S := fun w' => w'.cell? ⟨w.heap.size, 0, none⟩ = some (.slice xa (Nn.NatMath.len N) xk) ∧ w'.cell? ⟨w.heap.size, 1, none⟩ = some (.slice ya (Nn.NatMath.len E) yk)) [] (by kernel_rfl) (⟨((E2.out.bx 0 rfl).cell 0 rfl), ((E2.out.bx 0 rfl).cell 1 rfl)⟩) (fun hHeld => ?_)
  generalize w1.drew = w2 at *
  refine uTk (i := 0) (some 3) (v := ?_) ?_ ?_
  rotate_left
  · (intro wS hSw; (try dsimp only at hSw); go_simp; try with_reducible rfl)
  try simp only [Act.put, pq0, pq1, pq2]
  refine uTk (i := 1) (some 4) (v := ?_) ?_ ?_
  rotate_left
  · (intro wS hSw; (try dsimp only at hSw); go_simp; try with_reducible rfl)
  try simp only [Act.put, pq0, pq1, pq2]
  refine uReady (rs := [2]) (by kernel_rfl) (by simp) ?_
  refine ReadyU.cons rfl (fun KK hKK => ?_) ReadyU.nil
  go_simp
  refine (rvalidF hv.out (gS.sl (E2.out.fc 1 rfl))).mono ?_
  rintro e w3 ⟨rfl, hb⟩
  have E3 := Lib.hid (E2.out.below hb)
  clear E2 hb
  (try dsimp only)
  clear hHeld
  refine hKK.out _ _ (⟨((E3.out.bx 0 rfl).cell 0 rfl), ((E3.out.bx 0 rfl).cell 1 rfl)⟩) (fun hHeld => ?_)
  clear hKK KK
  try simp only [Act.put, pq0, pq1, pq2]
  refine uTk (i := 3) (some 6) (v := ?_) ?_ ?_
  rotate_left
  · (intro wS hSw; (try dsimp only at hSw); go_simp; try with_reducible rfl)
  try simp only [Act.put, pq0, pq1, pq2]
  refine uTk (i := 4) (some 7) (v := ?_) ?_ ?_
  rotate_left
  · (intro wS hSw; (try dsimp only at hSw); go_simp; try with_reducible rfl)
  try simp only [Act.put, pq0, pq1, pq2]
  refine uTk (i := 5) (some 8) (v := ?_) ?_ ?_
  rotate_left
  · (intro wS hSw; (try dsimp only at hSw); go_simp; try with_reducible rfl)
  try simp only [Act.put, pq0, pq1, pq2]
  refine uReady (rs := [6]) (by kernel_rfl) (by simp) ?_
  refine ReadyU.cons rfl (fun KK hKK => ?_) ReadyU.nil
  go_simp
  refine (rvalidF hu.out (gS.sl (E3.out.fc 0 rfl))).mono ?_
  rintro e w4 ⟨rfl, hb⟩
  have E4 := Lib.hid (E3.out.below hb)
  clear E3 hb
  (try dsimp only)
  clear hHeld
  refine hKK.out _ _ (⟨((E4.out.bx 0 rfl).cell 0 rfl), ((E4.out.bx 0 rfl).cell 1 rfl)⟩) (fun hHeld => ?_)
  clear hKK KK
  try simp only [Act.put, pq0, pq1, pq2]
  refine uTk (i := 7) (some 10) (v := ?_) ?_ ?_
  rotate_left
  · (intro wS hSw; (try dsimp only at hSw); go_simp; try with_reducible rfl)
  try simp only [Act.put, pq0, pq1, pq2]
  refine uTk (i := 8) (some 11) (v := ?_) ?_ ?_
  rotate_left
  · (intro wS hSw; (try dsimp only at hSw); go_simp; try with_reducible rfl)
  try simp only [Act.put, pq0, pq1, pq2]
  refine uTk (i := 9) (some 12) (v := ?_) ?_ ?_
  rotate_left
  · (intro wS hSw; (try dsimp only at hSw); go_simp; try with_reducible rfl)
  try simp only [Act.put, pq0, pq1, pq2]
  refine uTk (i := 10) (some 13) (v := ?_) ?_ ?_
  rotate_left
  · (intro wS hSw; (try dsimp only at hSw); go_simp; try with_reducible rfl)
  try simp only [Act.put, pq0, pq1, pq2]
  refine uReady (rs := [11]) (by kernel_rfl) (by simp) ?_
  refine ReadyU.cons rfl (fun KK hKK => ?_) ReadyU.nil
  go_simp
  refine (Nn.rOf_c 15 _ (by decide)).mono ?_
  rintro e w5 ⟨⟨ua, uk, rfl, uh⟩, hb⟩
  have E5 := Lib.hid ((E4.out.below hb).noteS uh.out rfl)
  clear E4 hb uh
  (try dsimp only)
  clear hHeld
  refine hKK.out _ _ (⟨((E5.out.bx 0 rfl).cell 0 rfl), ((E5.out.bx 0 rfl).cell 1 rfl)⟩) (fun hHeld => ?_)
  clear hKK KK
  try simp only [Act.put, pq0, pq1, pq2]
  refine uReady (rs := [12]) (by kernel_rfl) (by simp) ?_
  refine ReadyU.cons rfl (fun KK hKK => ?_) ReadyU.nil
  go_simp
  refine (Nn.rLess_c h15.out (gS.sl (E5.out.fc 2 rfl)) (gS.sl (E5.out.fc 0 rfl))).mono ?_
  rintro e w6 ⟨rfl, hb⟩
  have E6 := Lib.hid (E5.out.below hb)
  clear E5 hb
  (try dsimp only)
  clear hHeld
  refine hKK.out _ _ (⟨((E6.out.bx 0 rfl).cell 0 rfl), ((E6.out.bx 0 rfl).cell 1 rfl)⟩) (fun hHeld => ?_)
  clear hKK KK
  try simp only [Act.put, pq0, pq1, pq2]
  refine uTk (i := 13) (some 16) (v := ?_) ?_ ?_
  rotate_left
  · (intro wS hSw; (try dsimp only at hSw); go_simp; try with_reducible rfl)
  try simp only [Act.put, pq0, pq1, pq2]
  refine uTk (i := 14) (some 17) (v := ?_) ?_ ?_
  rotate_left
  · (intro wS hSw; (try dsimp only at hSw); go_simp; try with_reducible rfl)
  try simp only [Act.put, pq0, pq1, pq2]
  refine uTk (i := 15) (some 18) (v := ?_) ?_ ?_
  rotate_left
  · (intro wS hSw; (try dsimp only at hSw); go_simp; try with_reducible rfl)
  try simp only [Act.put, pq0, pq1, pq2]
  refine uTk (i := 16) (some 19) (v := ?_) ?_ ?_
  rotate_left
  · (intro wS hSw; (try dsimp only at hSw); go_simp; try with_reducible rfl)
  try simp only [Act.put, pq0, pq1, pq2]
  refine uTk (i := 17) (some 20) (v := ?_) ?_ ?_
  rotate_left
  · (intro wS hSw; (try dsimp only at hSw); go_simp; try with_reducible rfl)
  try simp only [Act.put, pq0, pq1, pq2]
  refine uReady (rs := [18]) (by kernel_rfl) (by simp) ?_
  refine ReadyU.cons rfl (fun KK hKK => ?_) ReadyU.nil
  go_simp
  refine (rbitsF HB.out hN.out (gS.sl (E6.out.fc 2 rfl))).mono ?_
  rintro e w7 ⟨rfl, hb⟩
  have E7 := Lib.hid (E6.out.below hb)
  clear E6 hb
  (try dsimp only)
  clear hHeld
  refine hKK.out _ _ (⟨((E7.out.bx 0 rfl).cell 0 rfl), ((E7.out.bx 0 rfl).cell 1 rfl)⟩) (fun hHeld => ?_)
  clear hKK KK
  try simp only [Act.put, pq0, pq1, pq2]
  refine uTk (i := 19) (some 22) (v := ?_) ?_ ?_
  rotate_left
  · (intro wS hSw; (try dsimp only at hSw); go_simp; try with_reducible rfl)
  try simp only [Act.put, pq0, pq1, pq2]
  refine uTk (i := 20) (some 23) (v := ?_) ?_ ?_
  rotate_left
  · (intro wS hSw; (try dsimp only at hSw); go_simp; try with_reducible rfl)
  try simp only [Act.put, pq0, pq1, pq2]
  refine uTk (i := 21) (some 24) (v := ?_) ?_ ?_
  rotate_left
  · (intro wS hSw; (try dsimp only at hSw); go_simp; try with_reducible rfl)
  try simp only [Act.put, pq0, pq1, pq2]
  refine uTk (i := 22) (some 25) (v := ?_) ?_ ?_
  rotate_left
  · (intro wS hSw; (try dsimp only at hSw); go_simp; try with_reducible rfl)
  try simp only [Act.put, pq0, pq1, pq2]
  refine uTk (i := 23) (some 26) (v := ?_) ?_ ?_
  rotate_left
  · (intro wS hSw; (try dsimp only at hSw); go_simp; try with_reducible rfl)
  try simp only [Act.put, pq0, pq1, pq2]
  refine uReady (rs := [24]) (by kernel_rfl) (by simp) ?_
  refine ReadyU.cons rfl (fun KK hKK => ?_) ReadyU.nil
  go_simp
  refine (Nn.rOf_c 3 _ (by decide)).mono ?_
  rintro e w8 ⟨⟨va, vk, rfl, vh⟩, hb⟩
  have E8 := Lib.hid ((E7.out.below hb).noteS vh.out rfl)
  clear E7 hb vh
  (try dsimp only)
  clear hHeld
  refine hKK.out _ _ (⟨((E8.out.bx 0 rfl).cell 0 rfl), ((E8.out.bx 0 rfl).cell 1 rfl)⟩) (fun hHeld => ?_)
  clear hKK KK
  try simp only [Act.put, pq0, pq1, pq2]
  refine uReady (rs := [25]) (by kernel_rfl) (by simp) ?_
  refine ReadyU.cons rfl (fun KK hKK => ?_) ReadyU.nil
  go_simp
  refine (Nn.rLess_c h3.out (gS.sl (E8.out.fc 2 rfl)) (gS.sl (E8.out.fc 0 rfl))).mono ?_
  rintro e w9 ⟨rfl, hb⟩
  have E9 := Lib.hid (E8.out.below hb)
  clear E8 hb
  (try dsimp only)
  clear hHeld
  refine hKK.out _ _ (⟨((E9.out.bx 0 rfl).cell 0 rfl), ((E9.out.bx 0 rfl).cell 1 rfl)⟩) (fun hHeld => ?_)
  clear hKK KK
  try simp only [Act.put, pq0, pq1, pq2]
  refine uTk (i := 26) (some 29) (v := ?_) ?_ ?_
  rotate_left
  · (intro wS hSw; (try dsimp only at hSw); go_simp; try with_reducible rfl)
  try simp only [Act.put, pq0, pq1, pq2]
  refine uTk (i := 27) (some 30) (v := ?_) ?_ ?_
  rotate_left
  · (intro wS hSw; (try dsimp only at hSw); go_simp; try with_reducible rfl)
  try simp only [Act.put, pq0, pq1, pq2]
  refine uTk (i := 28) (some 31) (v := ?_) ?_ ?_
  rotate_left
  · (intro wS hSw; (try dsimp only at hSw); go_simp; try with_reducible rfl)
  try simp only [Act.put, pq0, pq1, pq2]
  refine uTk (i := 29) (some 32) (v := ?_) ?_ ?_
  rotate_left
  · (intro wS hSw; (try dsimp only at hSw); go_simp; try with_reducible rfl)
  try simp only [Act.put, pq0, pq1, pq2]
  refine uTk (i := 30) (some 33) (v := ?_) ?_ ?_
  rotate_left
  · (intro wS hSw; (try dsimp only at hSw); go_simp; try with_reducible rfl)
  try simp only [Act.put, pq0, pq1, pq2]
  refine uTk (i := 31) (some 34) (v := ?_) ?_ ?_
  rotate_left
  · (intro wS hSw; (try dsimp only at hSw); go_simp; try with_reducible rfl)
  try simp only [Act.put, pq0, pq1, pq2]
  refine uTk (i := 32) (some 35) (v := ?_) ?_ ?_
  rotate_left
  · (intro wS hSw; (try dsimp only at hSw); go_simp; try with_reducible rfl)
  try simp only [Act.put, pq0, pq1, pq2]
  refine uReady (rs := [33]) (by kernel_rfl) (by simp) ?_
  refine ReadyU.cons rfl (fun KK hKK => ?_) ReadyU.nil
  go_simp
  refine (Nn.rLess_c hl.out (gS.sl (E9.out.fc 2 rfl)) (gS.sl (E9.out.fc 3 rfl))).mono ?_
  rintro e w10 ⟨rfl, hb⟩
  have E10 := Lib.hid (E9.out.below hb)
  clear E9 hb
  (try dsimp only)
  clear hHeld
  refine hKK.out _ _ (⟨((E10.out.bx 0 rfl).cell 0 rfl), ((E10.out.bx 0 rfl).cell 1 rfl)⟩) (fun hHeld => ?_)
  clear hKK KK
  try simp only [Act.put, pq0, pq1, pq2]
  refine uTk (i := 34) (some 37) (v := ?_) ?_ ?_
  rotate_left
  · (intro wS hSw; (try dsimp only at hSw); go_simp; try with_reducible rfl)
  try simp only [Act.put, pq0, pq1, pq2]
  refine uTk (i := 35) (some 2) (v := ?_) ?_ ?_
  rotate_left
  · (intro wS hSw; (try dsimp only at hSw); go_simp; try with_reducible rfl)
  try simp only [Act.put, pq0, pq1, pq2]
  refine uDone (by kernel_rfl) ?_ _
  have hfin := Lib.hid E10.out.bel
  go_wp2
  go_ret
  exact ⟨rfl, hfin.out⟩
set_option maxRecDepth 100000 in
set_option maxHeartbeats 2000000 in
theorem vresidue_c (K X : Nat) {pa qa xa : Option Addr} {pk qn qk xk : Nat} {w : World} (ha : Nn.Sl w (.slice pa (Nn.NatMath.len K) pk) (Nn.NatMath.digs K)) (hx : Nn.Sl w (.slice xa (Nn.NatMath.len X) xk) (Nn.NatMath.digs X)) {t : Bool} (ht0 : decide (X < K) = t) :
    Calls Tryz.prog 39 #[.agg #[.slice pa (Nn.NatMath.len K) pk, .slice qa qn qk], .agg #[.slice xa (Nn.NatMath.len X) xk]] w fun e w' => e = .returned (.bool t) ∧ Below w.heap.size w w' := by
  have E0 := Lib.hid (((Env.start (fun _ => True) w).argS ha).argS hx)
  clear ha hx
  go_enter Tryz.func39, Tryz.ntmps39
  have ht := Lib.hid ht0
  clear ht0
  have E1 : Hid (Env (fun _ => True) w [(w.heap.size + 1, 24, [.slice xa (Nn.NatMath.len X) xk]), (w.heap.size, 26, [.slice pa (Nn.NatMath.len K) pk, .slice qa qn qk])] [.gn (gS (.slice xa (Nn.NatMath.len X) xk) (Nn.NatMath.digs X)), .gn (gS (.slice pa (Nn.NatMath.len K) pk) (Nn.NatMath.digs K))] _) := Lib.hid (((E0.out.push 26 [.slice pa (Nn.NatMath.len K) pk, .slice qa qn qk] (w.heap.size) (by simp)).push 24 [.slice xa (Nn.NatMath.len X) xk] (w.heap.size + 1) (by simp)))
  go_wp2_with fail
  refine (Nn.rLess_c ht.out (gS.sl (E1.out.fc 0 rfl)) (gS.sl (E1.out.fc 1 rfl))).mono ?_
  rintro e w1 ⟨rfl, hb⟩
  have E2 := Lib.hid (E1.out.below hb)
  clear E0 E1 hb
  have hfin := Lib.hid E2.out.bel
  go_wp2
  go_ret
  exact ⟨rfl, hfin.out⟩
set_option maxRecDepth 100000 in
set_option maxHeartbeats 2000000 in
theorem unit_0 (K : Nat) {pa qa xa : Option Addr} {pk qn qk xk : Nat} {w : World} (ha : Nn.Sl w (.slice pa (Nn.NatMath.len K) pk) (Nn.NatMath.digs K))  :
    Calls Tryz.prog 27 #[.agg #[.slice pa (Nn.NatMath.len K) pk, .slice qa qn qk], .agg #[.slice xa 0 xk]] w fun e w' => e = .returned (.bool false) ∧ Below w.heap.size w w' := by
  have E0 := Lib.hid ((Env.start (fun _ => True) w).argS ha)
  clear ha
  go_enter Tryz.func27, Tryz.ntmps27
  have E1 : Hid (Env (fun _ => True) w [(w.heap.size + 1, 24, [.slice xa 0 xk]), (w.heap.size, 26, [.slice pa (Nn.NatMath.len K) pk, .slice qa qn qk])] [.gn (gS (.slice pa (Nn.NatMath.len K) pk) (Nn.NatMath.digs K))] _) := Lib.hid (((E0.out.push 26 [.slice pa (Nn.NatMath.len K) pk, .slice qa qn qk] (w.heap.size) (by simp)).push 24 [.slice xa 0 xk] (w.heap.size + 1) (by simp)))
  have hfin := Lib.hid E1.out.bel
  go_wp2
  go_ret
  exact ⟨rfl, hfin.out⟩
set_option maxRecDepth 100000 in
set_option maxHeartbeats 2000000 in
theorem unit_c (K X : Nat) {pa qa xa : Option Addr} {pk qn qk xk : Nat} {w : World} (ha : Nn.Sl w (.slice pa (Nn.NatMath.len K) pk) (Nn.NatMath.digs K)) (hx : Nn.Sl w (.slice xa (Nn.NatMath.len X) xk) (Nn.NatMath.digs X)) {t : Bool} (ht0 : decide (Nat.gcd X K = 1) = t) (h0 : 0 < Nn.NatMath.len X) (h1 : Nn.NatMath.len X ≤ 64) (h2 : Nn.NatMath.len K ≤ 64) :
    Calls Tryz.prog 27 #[.agg #[.slice pa (Nn.NatMath.len K) pk, .slice qa qn qk], .agg #[.slice xa (Nn.NatMath.len X) xk]] w fun e w' => e = .returned (.bool t) ∧ Below w.heap.size w w' := by
  have E0 := Lib.hid (((Env.start (fun _ => True) w).argS ha).argS hx)
  clear ha hx
  go_enter Tryz.func27, Tryz.ntmps27
  have d1 : decide (0 < Nn.NatMath.len X) = true := decide_eq_true h0
  have d2 : decide ((0 : Int) < (Nn.NatMath.len X : Int)) = true := decide_eq_true (by omega)
  obtain ⟨r, hr⟩ : ∃ r, Nat.gcd X K = r := ⟨_, rfl⟩
  have ht1 : decide (r = 1) = t := by rw [← hr]; exact ht0
  have HR := Lib.hid hr
  have HT := Lib.hid ht1
  have H1 := Lib.hid h1
  have H2 := Lib.hid h2
  clear hr ht1 ht0 h0 h1 h2
  have E1 : Hid (Env (fun _ => True) w [(w.heap.size + 1, 24, [.slice xa (Nn.NatMath.len X) xk]), (w.heap.size, 26, [.slice pa (Nn.NatMath.len K) pk, .slice qa qn qk])] [.gn (gS (.slice xa (Nn.NatMath.len X) xk) (Nn.NatMath.digs X)), .gn (gS (.slice pa (Nn.NatMath.len K) pk) (Nn.NatMath.digs K))] _) := Lib.hid (((E0.out.push 26 [.slice pa (Nn.NatMath.len K) pk, .slice qa qn qk] (w.heap.size) (by simp)).push 24 [.slice xa (Nn.NatMath.len X) xk] (w.heap.size + 1) (by simp)))
  go_wp2_with fail
  refine (Nn.rGcd_c HR.out (Nat.le_trans H1.out (by omega)) (Nat.le_trans H2.out (by omega)) (gS.sl (E1.out.fc 0 rfl)) (gS.sl (E1.out.fc 1 rfl))).mono ?_
  rintro e w1 ⟨⟨ua, uk, rfl, uh⟩, hb⟩
  have E2 := Lib.hid ((E1.out.below hb).noteS uh.out rfl)
  clear E0 E1 hb uh
  go_wp2_with fail
  refine (Nn.rOf_c 1 _ (by decide)).mono ?_
  rintro e w2 ⟨⟨va, vk, rfl, vh⟩, hb⟩
  have E3 := Lib.hid ((E2.out.below hb).noteS vh.out rfl)
  clear E2 hb vh
  go_wp2_with fail
  refine (Nn.rSame_c HT.out (gS.sl (E3.out.fc 1 rfl)) (gS.sl (E3.out.fc 0 rfl))).mono ?_
  rintro e w3 ⟨rfl, hb⟩
  have E4 := Lib.hid (E3.out.below hb)
  clear E3 hb
  have hfin := Lib.hid E4.out.bel
  go_wp2
  go_ret
  exact ⟨rfl, hfin.out⟩
end Go.Proofs.YtikopkkebdobdaaGreatDoor

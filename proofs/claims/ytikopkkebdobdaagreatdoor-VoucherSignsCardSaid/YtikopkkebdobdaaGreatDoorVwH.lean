/- Picked declarations of VsA, VsW, VsB, VsC, VsD, VsE, VsF, VsG, VsH, VsI, VsJ. -/
import Derived.Test.YtikopkkebdobdaaGreatDoorVwU
import Derived.Test.YtikopkkebdobdaaGreatDoorVwN
import Derived.Deep.MidRow
import Derived.Deep.WholeRow
import Derived.Laws.IdiomStrings
import Derived.Test.YtikopkkebdobdaaGreatDoorVwK
namespace Go.Proofs.YtikopkkebdobdaaGreatDoor
set_option maxRecDepth 100000
set_option maxHeartbeats 8000000
open Nn.NatMath (len digs)
open Nn (Sl vld ResN ResZ)
set_option linter.unusedVariables false
set_option linter.unusedSimpArgs false
open Go.RowKit
/-- x rotated right by n bits -/
def rot (n : Nat) (x : Int) : Int := bits BinOp.or .u32 (x * (2 ^ (32 - n) : Nat) % 4294967296) (x / (2 ^ n : Nat))
theorem rotl_2 (x : Int) (w : World) :
  Calls Tryz.prog 137 #[.int .u32 x, .int .i64 (-2)] w fun e w' => e = .returned (.int .u32 (rot 2 x)) ∧ w = w' := by
 have hb : bits BinOp.and IntKind.u64 (IntKind.u64.wrap (-2)) 31 = 30 := by decide +kernel
 go_enter Tryz.func137, Tryz.ntmps137
 go_wp2
 go_ret
 exact ⟨rfl, rfl⟩
theorem right_2 (x : Int) (w : World) :
  Calls Tryz.prog 130 #[.int .u32 x, .int .i64 2] w fun e w' => e = .returned (.int .u32 (rot 2 x)) ∧ w = w' := by
 go_enter Tryz.func130, Tryz.ntmps130
 go_wp2_with (go_at_call 137; refine (rotl_2 _ _).mono ?_; rintro e w' ⟨rfl, rfl⟩)
 go_ret
 exact ⟨rfl, rfl⟩
theorem rotl_6 (x : Int) (w : World) :
  Calls Tryz.prog 137 #[.int .u32 x, .int .i64 (-6)] w fun e w' => e = .returned (.int .u32 (rot 6 x)) ∧ w = w' := by
 have hb : bits BinOp.and IntKind.u64 (IntKind.u64.wrap (-6)) 31 = 26 := by decide +kernel
 go_enter Tryz.func137, Tryz.ntmps137
 go_wp2
 go_ret
 exact ⟨rfl, rfl⟩
theorem right_6 (x : Int) (w : World) :
  Calls Tryz.prog 130 #[.int .u32 x, .int .i64 6] w fun e w' => e = .returned (.int .u32 (rot 6 x)) ∧ w = w' := by
 go_enter Tryz.func130, Tryz.ntmps130
 go_wp2_with (go_at_call 137; refine (rotl_6 _ _).mono ?_; rintro e w' ⟨rfl, rfl⟩)
 go_ret
 exact ⟨rfl, rfl⟩
theorem rotl_7 (x : Int) (w : World) :
  Calls Tryz.prog 137 #[.int .u32 x, .int .i64 (-7)] w fun e w' => e = .returned (.int .u32 (rot 7 x)) ∧ w = w' := by
 have hb : bits BinOp.and IntKind.u64 (IntKind.u64.wrap (-7)) 31 = 25 := by decide +kernel
 go_enter Tryz.func137, Tryz.ntmps137
 go_wp2
 go_ret
 exact ⟨rfl, rfl⟩
theorem right_7 (x : Int) (w : World) :
  Calls Tryz.prog 130 #[.int .u32 x, .int .i64 7] w fun e w' => e = .returned (.int .u32 (rot 7 x)) ∧ w = w' := by
 go_enter Tryz.func130, Tryz.ntmps130
 go_wp2_with (go_at_call 137; refine (rotl_7 _ _).mono ?_; rintro e w' ⟨rfl, rfl⟩)
 go_ret
 exact ⟨rfl, rfl⟩
theorem rotl_11 (x : Int) (w : World) :
  Calls Tryz.prog 137 #[.int .u32 x, .int .i64 (-11)] w fun e w' => e = .returned (.int .u32 (rot 11 x)) ∧ w = w' := by
 have hb : bits BinOp.and IntKind.u64 (IntKind.u64.wrap (-11)) 31 = 21 := by decide +kernel
 go_enter Tryz.func137, Tryz.ntmps137
 go_wp2
 go_ret
 exact ⟨rfl, rfl⟩
theorem right_11 (x : Int) (w : World) :
  Calls Tryz.prog 130 #[.int .u32 x, .int .i64 11] w fun e w' => e = .returned (.int .u32 (rot 11 x)) ∧ w = w' := by
 go_enter Tryz.func130, Tryz.ntmps130
 go_wp2_with (go_at_call 137; refine (rotl_11 _ _).mono ?_; rintro e w' ⟨rfl, rfl⟩)
 go_ret
 exact ⟨rfl, rfl⟩
theorem rotl_13 (x : Int) (w : World) :
  Calls Tryz.prog 137 #[.int .u32 x, .int .i64 (-13)] w fun e w' => e = .returned (.int .u32 (rot 13 x)) ∧ w = w' := by
 have hb : bits BinOp.and IntKind.u64 (IntKind.u64.wrap (-13)) 31 = 19 := by decide +kernel
 go_enter Tryz.func137, Tryz.ntmps137
 go_wp2
 go_ret
 exact ⟨rfl, rfl⟩
theorem right_13 (x : Int) (w : World) :
  Calls Tryz.prog 130 #[.int .u32 x, .int .i64 13] w fun e w' => e = .returned (.int .u32 (rot 13 x)) ∧ w = w' := by
 go_enter Tryz.func130, Tryz.ntmps130
 go_wp2_with (go_at_call 137; refine (rotl_13 _ _).mono ?_; rintro e w' ⟨rfl, rfl⟩)
 go_ret
 exact ⟨rfl, rfl⟩
theorem rotl_17 (x : Int) (w : World) :
  Calls Tryz.prog 137 #[.int .u32 x, .int .i64 (-17)] w fun e w' => e = .returned (.int .u32 (rot 17 x)) ∧ w = w' := by
 have hb : bits BinOp.and IntKind.u64 (IntKind.u64.wrap (-17)) 31 = 15 := by decide +kernel
 go_enter Tryz.func137, Tryz.ntmps137
 go_wp2
 go_ret
 exact ⟨rfl, rfl⟩
theorem right_17 (x : Int) (w : World) :
  Calls Tryz.prog 130 #[.int .u32 x, .int .i64 17] w fun e w' => e = .returned (.int .u32 (rot 17 x)) ∧ w = w' := by
 go_enter Tryz.func130, Tryz.ntmps130
 go_wp2_with (go_at_call 137; refine (rotl_17 _ _).mono ?_; rintro e w' ⟨rfl, rfl⟩)
 go_ret
 exact ⟨rfl, rfl⟩
theorem rotl_18 (x : Int) (w : World) :
  Calls Tryz.prog 137 #[.int .u32 x, .int .i64 (-18)] w fun e w' => e = .returned (.int .u32 (rot 18 x)) ∧ w = w' := by
 have hb : bits BinOp.and IntKind.u64 (IntKind.u64.wrap (-18)) 31 = 14 := by decide +kernel
 go_enter Tryz.func137, Tryz.ntmps137
 go_wp2
 go_ret
 exact ⟨rfl, rfl⟩
theorem right_18 (x : Int) (w : World) :
  Calls Tryz.prog 130 #[.int .u32 x, .int .i64 18] w fun e w' => e = .returned (.int .u32 (rot 18 x)) ∧ w = w' := by
 go_enter Tryz.func130, Tryz.ntmps130
 go_wp2_with (go_at_call 137; refine (rotl_18 _ _).mono ?_; rintro e w' ⟨rfl, rfl⟩)
 go_ret
 exact ⟨rfl, rfl⟩
theorem rotl_19 (x : Int) (w : World) :
  Calls Tryz.prog 137 #[.int .u32 x, .int .i64 (-19)] w fun e w' => e = .returned (.int .u32 (rot 19 x)) ∧ w = w' := by
 have hb : bits BinOp.and IntKind.u64 (IntKind.u64.wrap (-19)) 31 = 13 := by decide +kernel
 go_enter Tryz.func137, Tryz.ntmps137
 go_wp2
 go_ret
 exact ⟨rfl, rfl⟩
theorem right_19 (x : Int) (w : World) :
  Calls Tryz.prog 130 #[.int .u32 x, .int .i64 19] w fun e w' => e = .returned (.int .u32 (rot 19 x)) ∧ w = w' := by
 go_enter Tryz.func130, Tryz.ntmps130
 go_wp2_with (go_at_call 137; refine (rotl_19 _ _).mono ?_; rintro e w' ⟨rfl, rfl⟩)
 go_ret
 exact ⟨rfl, rfl⟩
theorem rotl_22 (x : Int) (w : World) :
  Calls Tryz.prog 137 #[.int .u32 x, .int .i64 (-22)] w fun e w' => e = .returned (.int .u32 (rot 22 x)) ∧ w = w' := by
 have hb : bits BinOp.and IntKind.u64 (IntKind.u64.wrap (-22)) 31 = 10 := by decide +kernel
 go_enter Tryz.func137, Tryz.ntmps137
 go_wp2
 go_ret
 exact ⟨rfl, rfl⟩
theorem right_22 (x : Int) (w : World) :
  Calls Tryz.prog 130 #[.int .u32 x, .int .i64 22] w fun e w' => e = .returned (.int .u32 (rot 22 x)) ∧ w = w' := by
 go_enter Tryz.func130, Tryz.ntmps130
 go_wp2_with (go_at_call 137; refine (rotl_22 _ _).mono ?_; rintro e w' ⟨rfl, rfl⟩)
 go_ret
 exact ⟨rfl, rfl⟩
theorem rotl_25 (x : Int) (w : World) :
  Calls Tryz.prog 137 #[.int .u32 x, .int .i64 (-25)] w fun e w' => e = .returned (.int .u32 (rot 25 x)) ∧ w = w' := by
 have hb : bits BinOp.and IntKind.u64 (IntKind.u64.wrap (-25)) 31 = 7 := by decide +kernel
 go_enter Tryz.func137, Tryz.ntmps137
 go_wp2
 go_ret
 exact ⟨rfl, rfl⟩
theorem right_25 (x : Int) (w : World) :
  Calls Tryz.prog 130 #[.int .u32 x, .int .i64 25] w fun e w' => e = .returned (.int .u32 (rot 25 x)) ∧ w = w' := by
 go_enter Tryz.func130, Tryz.ntmps130
 go_wp2_with (go_at_call 137; refine (rotl_25 _ _).mono ?_; rintro e w' ⟨rfl, rfl⟩)
 go_ret
 exact ⟨rfl, rfl⟩
theorem or_comm32 (a b : Int) : bits BinOp.or .u32 a b = bits BinOp.or .u32 b a := by
 show IntKind.u32.wrap _ = IntKind.u32.wrap _
 simp only [bits, BitVec.or_comm]
theorem rright_2 (x : Int) {w : World}   :
  Calls Tryz.prog 118 #[.int .u32 x, .int .i64 2] w fun e w' => e = .returned (.int .u32 (rot 2 x)) ∧ Below w.heap.size w w' := by
 have E0 := Zh (Env.start (fun _ => True) w)
 go_enter Tryz.func118, Tryz.ntmps118
 have hwr : IntKind.i64.wrap 30 = 30 := by decide
 go_wp2_with fail
 have E1 := Zh E0.out.drew
 clear E0
 refine wp_regionU (S := fun w' => True) [] (by kernel_rfl) (trivial) (fun hHeld => ?_)
 generalize w.drew = w1 at *
 refine uPl [0, 1, 2, 3, 4, 5, 6, 7, 8] ?_
 iterate 9 (refine uTl (v := ?_) ?_ ?_; rotate_left; (focus (intro wS hSw; (try dsimp only at hSw); go_simp; try with_reducible rfl)); try simp only [Act.put, pq0, pq1, pq2])
 refine Pl.z ?_
 refine uDone (by kernel_rfl) ?_ _
 have hfin := Zh E1.out.bel
 go_wp2
 go_ret
 exact ⟨by rw [show rot 2 x = _ from or_comm32 _ _]; rfl, hfin.out⟩
theorem rright_6 (x : Int) {w : World}   :
  Calls Tryz.prog 118 #[.int .u32 x, .int .i64 6] w fun e w' => e = .returned (.int .u32 (rot 6 x)) ∧ Below w.heap.size w w' := by
 have E0 := Zh (Env.start (fun _ => True) w)
 go_enter Tryz.func118, Tryz.ntmps118
 have hwr : IntKind.i64.wrap 26 = 26 := by decide
 go_wp2_with fail
 have E1 := Zh E0.out.drew
 clear E0
 refine wp_regionU (S := fun w' => True) [] (by kernel_rfl) (trivial) (fun hHeld => ?_)
 generalize w.drew = w1 at *
 refine uPl [0, 1, 2, 3, 4, 5, 6, 7, 8] ?_
 iterate 9 (refine uTl (v := ?_) ?_ ?_; rotate_left; (focus (intro wS hSw; (try dsimp only at hSw); go_simp; try with_reducible rfl)); try simp only [Act.put, pq0, pq1, pq2])
 refine Pl.z ?_
 refine uDone (by kernel_rfl) ?_ _
 have hfin := Zh E1.out.bel
 go_wp2
 go_ret
 exact ⟨by rw [show rot 6 x = _ from or_comm32 _ _]; rfl, hfin.out⟩
theorem rright_7 (x : Int) {w : World}   :
  Calls Tryz.prog 118 #[.int .u32 x, .int .i64 7] w fun e w' => e = .returned (.int .u32 (rot 7 x)) ∧ Below w.heap.size w w' := by
 have E0 := Zh (Env.start (fun _ => True) w)
 go_enter Tryz.func118, Tryz.ntmps118
 have hwr : IntKind.i64.wrap 25 = 25 := by decide
 go_wp2_with fail
 have E1 := Zh E0.out.drew
 clear E0
 refine wp_regionU (S := fun w' => True) [] (by kernel_rfl) (trivial) (fun hHeld => ?_)
 generalize w.drew = w1 at *
 refine uPl [0, 1, 2, 3, 4, 5, 6, 7, 8] ?_
 iterate 9 (refine uTl (v := ?_) ?_ ?_; rotate_left; (focus (intro wS hSw; (try dsimp only at hSw); go_simp; try with_reducible rfl)); try simp only [Act.put, pq0, pq1, pq2])
 refine Pl.z ?_
 refine uDone (by kernel_rfl) ?_ _
 have hfin := Zh E1.out.bel
 go_wp2
 go_ret
 exact ⟨by rw [show rot 7 x = _ from or_comm32 _ _]; rfl, hfin.out⟩
theorem rright_11 (x : Int) {w : World}   :
  Calls Tryz.prog 118 #[.int .u32 x, .int .i64 11] w fun e w' => e = .returned (.int .u32 (rot 11 x)) ∧ Below w.heap.size w w' := by
 have E0 := Zh (Env.start (fun _ => True) w)
 go_enter Tryz.func118, Tryz.ntmps118
 have hwr : IntKind.i64.wrap 21 = 21 := by decide
 go_wp2_with fail
 have E1 := Zh E0.out.drew
 clear E0
 refine wp_regionU (S := fun w' => True) [] (by kernel_rfl) (trivial) (fun hHeld => ?_)
 generalize w.drew = w1 at *
 refine uPl [0, 1, 2, 3, 4, 5, 6, 7, 8] ?_
 iterate 9 (refine uTl (v := ?_) ?_ ?_; rotate_left; (focus (intro wS hSw; (try dsimp only at hSw); go_simp; try with_reducible rfl)); try simp only [Act.put, pq0, pq1, pq2])
 refine Pl.z ?_
 refine uDone (by kernel_rfl) ?_ _
 have hfin := Zh E1.out.bel
 go_wp2
 go_ret
 exact ⟨by rw [show rot 11 x = _ from or_comm32 _ _]; rfl, hfin.out⟩
theorem rright_13 (x : Int) {w : World}   :
  Calls Tryz.prog 118 #[.int .u32 x, .int .i64 13] w fun e w' => e = .returned (.int .u32 (rot 13 x)) ∧ Below w.heap.size w w' := by
 have E0 := Zh (Env.start (fun _ => True) w)
 go_enter Tryz.func118, Tryz.ntmps118
 have hwr : IntKind.i64.wrap 19 = 19 := by decide
 go_wp2_with fail
 have E1 := Zh E0.out.drew
 clear E0
 refine wp_regionU (S := fun w' => True) [] (by kernel_rfl) (trivial) (fun hHeld => ?_)
 generalize w.drew = w1 at *
 refine uPl [0, 1, 2, 3, 4, 5, 6, 7, 8] ?_
 iterate 9 (refine uTl (v := ?_) ?_ ?_; rotate_left; (focus (intro wS hSw; (try dsimp only at hSw); go_simp; try with_reducible rfl)); try simp only [Act.put, pq0, pq1, pq2])
 refine Pl.z ?_
 refine uDone (by kernel_rfl) ?_ _
 have hfin := Zh E1.out.bel
 go_wp2
 go_ret
 exact ⟨by rw [show rot 13 x = _ from or_comm32 _ _]; rfl, hfin.out⟩
theorem rright_17 (x : Int) {w : World}   :
  Calls Tryz.prog 118 #[.int .u32 x, .int .i64 17] w fun e w' => e = .returned (.int .u32 (rot 17 x)) ∧ Below w.heap.size w w' := by
 have E0 := Zh (Env.start (fun _ => True) w)
 go_enter Tryz.func118, Tryz.ntmps118
 have hwr : IntKind.i64.wrap 15 = 15 := by decide
 go_wp2_with fail
 have E1 := Zh E0.out.drew
 clear E0
 refine wp_regionU (S := fun w' => True) [] (by kernel_rfl) (trivial) (fun hHeld => ?_)
 generalize w.drew = w1 at *
 refine uPl [0, 1, 2, 3, 4, 5, 6, 7, 8] ?_
 iterate 9 (refine uTl (v := ?_) ?_ ?_; rotate_left; (focus (intro wS hSw; (try dsimp only at hSw); go_simp; try with_reducible rfl)); try simp only [Act.put, pq0, pq1, pq2])
 refine Pl.z ?_
 refine uDone (by kernel_rfl) ?_ _
 have hfin := Zh E1.out.bel
 go_wp2
 go_ret
 exact ⟨by rw [show rot 17 x = _ from or_comm32 _ _]; rfl, hfin.out⟩
theorem rright_18 (x : Int) {w : World}   :
  Calls Tryz.prog 118 #[.int .u32 x, .int .i64 18] w fun e w' => e = .returned (.int .u32 (rot 18 x)) ∧ Below w.heap.size w w' := by
 have E0 := Zh (Env.start (fun _ => True) w)
 go_enter Tryz.func118, Tryz.ntmps118
 have hwr : IntKind.i64.wrap 14 = 14 := by decide
 go_wp2_with fail
 have E1 := Zh E0.out.drew
 clear E0
 refine wp_regionU (S := fun w' => True) [] (by kernel_rfl) (trivial) (fun hHeld => ?_)
 generalize w.drew = w1 at *
 refine uPl [0, 1, 2, 3, 4, 5, 6, 7, 8] ?_
 iterate 9 (refine uTl (v := ?_) ?_ ?_; rotate_left; (focus (intro wS hSw; (try dsimp only at hSw); go_simp; try with_reducible rfl)); try simp only [Act.put, pq0, pq1, pq2])
 refine Pl.z ?_
 refine uDone (by kernel_rfl) ?_ _
 have hfin := Zh E1.out.bel
 go_wp2
 go_ret
 exact ⟨by rw [show rot 18 x = _ from or_comm32 _ _]; rfl, hfin.out⟩
theorem rright_19 (x : Int) {w : World}   :
  Calls Tryz.prog 118 #[.int .u32 x, .int .i64 19] w fun e w' => e = .returned (.int .u32 (rot 19 x)) ∧ Below w.heap.size w w' := by
 have E0 := Zh (Env.start (fun _ => True) w)
 go_enter Tryz.func118, Tryz.ntmps118
 have hwr : IntKind.i64.wrap 13 = 13 := by decide
 go_wp2_with fail
 have E1 := Zh E0.out.drew
 clear E0
 refine wp_regionU (S := fun w' => True) [] (by kernel_rfl) (trivial) (fun hHeld => ?_)
 generalize w.drew = w1 at *
 refine uPl [0, 1, 2, 3, 4, 5, 6, 7, 8] ?_
 iterate 9 (refine uTl (v := ?_) ?_ ?_; rotate_left; (focus (intro wS hSw; (try dsimp only at hSw); go_simp; try with_reducible rfl)); try simp only [Act.put, pq0, pq1, pq2])
 refine Pl.z ?_
 refine uDone (by kernel_rfl) ?_ _
 have hfin := Zh E1.out.bel
 go_wp2
 go_ret
 exact ⟨by rw [show rot 19 x = _ from or_comm32 _ _]; rfl, hfin.out⟩
theorem rright_22 (x : Int) {w : World}   :
  Calls Tryz.prog 118 #[.int .u32 x, .int .i64 22] w fun e w' => e = .returned (.int .u32 (rot 22 x)) ∧ Below w.heap.size w w' := by
 have E0 := Zh (Env.start (fun _ => True) w)
 go_enter Tryz.func118, Tryz.ntmps118
 have hwr : IntKind.i64.wrap 10 = 10 := by decide
 go_wp2_with fail
 have E1 := Zh E0.out.drew
 clear E0
 refine wp_regionU (S := fun w' => True) [] (by kernel_rfl) (trivial) (fun hHeld => ?_)
 generalize w.drew = w1 at *
 refine uPl [0, 1, 2, 3, 4, 5, 6, 7, 8] ?_
 iterate 9 (refine uTl (v := ?_) ?_ ?_; rotate_left; (focus (intro wS hSw; (try dsimp only at hSw); go_simp; try with_reducible rfl)); try simp only [Act.put, pq0, pq1, pq2])
 refine Pl.z ?_
 refine uDone (by kernel_rfl) ?_ _
 have hfin := Zh E1.out.bel
 go_wp2
 go_ret
 exact ⟨by rw [show rot 22 x = _ from or_comm32 _ _]; rfl, hfin.out⟩
theorem rright_25 (x : Int) {w : World}   :
  Calls Tryz.prog 118 #[.int .u32 x, .int .i64 25] w fun e w' => e = .returned (.int .u32 (rot 25 x)) ∧ Below w.heap.size w w' := by
 have E0 := Zh (Env.start (fun _ => True) w)
 go_enter Tryz.func118, Tryz.ntmps118
 have hwr : IntKind.i64.wrap 7 = 7 := by decide
 go_wp2_with fail
 have E1 := Zh E0.out.drew
 clear E0
 refine wp_regionU (S := fun w' => True) [] (by kernel_rfl) (trivial) (fun hHeld => ?_)
 generalize w.drew = w1 at *
 refine uPl [0, 1, 2, 3, 4, 5, 6, 7, 8] ?_
 iterate 9 (refine uTl (v := ?_) ?_ ?_; rotate_left; (focus (intro wS hSw; (try dsimp only at hSw); go_simp; try with_reducible rfl)); try simp only [Act.put, pq0, pq1, pq2])
 refine Pl.z ?_
 refine uDone (by kernel_rfl) ?_ _
 have hfin := Zh E1.out.bel
 go_wp2
 go_ret
 exact ⟨by rw [show rot 25 x = _ from or_comm32 _ _]; rfl, hfin.out⟩
/-- the amounts that are used -/
def okR (n : Int) : Bool := [2, 6, 7, 11, 13, 17, 18, 19, 22, 25].contains n
def rotI (n x : Int) : Int := rot n.toNat x
theorem right_c (n x : Int) (w : World) (h : okR n = true) :
  Calls Tryz.prog 130 #[.int .u32 x, .int .i64 n] w fun e w' => e = .returned (.int .u32 (rotI n x)) ∧ w = w' := by
 have h2 : n = 2 ∨ n = 6 ∨ n = 7 ∨ n = 11 ∨ n = 13 ∨ n = 17 ∨ n = 18 ∨ n = 19 ∨ n = 22 ∨ n = 25 := by simpa [okR] using h
 rcases h2 with rfl | rfl | rfl | rfl | rfl | rfl | rfl | rfl | rfl | rfl
 ·exact right_2 x w
 ·exact right_6 x w
 ·exact right_7 x w
 ·exact right_11 x w
 ·exact right_13 x w
 ·exact right_17 x w
 ·exact right_18 x w
 ·exact right_19 x w
 ·exact right_22 x w
 ·exact right_25 x w
theorem rright_c (n x : Int) {w : World} (h : okR n = true) :
  Calls Tryz.prog 118 #[.int .u32 x, .int .i64 n] w fun e w' => e = .returned (.int .u32 (rotI n x)) ∧ Below w.heap.size w w' := by
 have h2 : n = 2 ∨ n = 6 ∨ n = 7 ∨ n = 11 ∨ n = 13 ∨ n = 17 ∨ n = 18 ∨ n = 19 ∨ n = 22 ∨ n = 25 := by simpa [okR] using h
 rcases h2 with rfl | rfl | rfl | rfl | rfl | rfl | rfl | rfl | rfl | rfl
 ·exact rright_2 x
 ·exact rright_6 x
 ·exact rright_7 x
 ·exact rright_11 x
 ·exact rright_13 x
 ·exact rright_17 x
 ·exact rright_18 x
 ·exact rright_19 x
 ·exact rright_22 x
 ·exact rright_25 x
open Go.RowKit
theorem exec_load_big {P : Program} {oi : Oper} {ev : Operand → Value} {w : World} (ty : TypeId) (x : Operand) (ho : oi.op = .load ty x) (b o : Nat) (hx : ev x = .pointer (some ⟨b, o, none⟩)) (cs : List Value) (d : TypeDesc) (hc : w.rangeAt b o cs)
  (hu : P.underlying ty = some d) (hd : d.isRow = true) (hi : (P.info? ty).map (·.size) = some cs.length) : (execOp ev oi).run P w = .ok (.value (.agg cs.toArray)) w := by
 unfold execOp
 simp only [ho, hx, Instr.loadAt, Instr.sureAddr, Sem.run_bind, Sem.run_pure, Result.andThen_ok, run_loadVar_mid w b o ty cs d hc hu hd hi]
theorem wpl_want {ops : Array Oper} {rest : List Oper} {op : Oper} {a : Act} {w : World} {Q : Exit → Act → World → Prop} (hw : Region.wanted op (yielded ops a.tmps) = true)
  (h : ∀ K : Act → World → Prop, (∀ a w, wpList Tryz.prog ops Q rest a w → K a w) → op.wp Tryz.prog a w K Q) : wpList Tryz.prog ops Q (op :: rest) a w :=
 wpList_step fun K hK => by simp only [hw, if_true]; exact h K hK
theorem Box.range {B b : Nat} {T : TypeId} {cs : List Value} {W : World} (h : Box B b T cs W) {o : Nat} {c : List Value} (hc : ∀ j, j < c.length → cs[o + j]? = c[j]?) : W.rangeAt b o c := fun j v hv => h.cell (o + j) (by rw [hc j (List.getElem?_eq_some_iff.1 hv).1]; exact hv)
theorem Box.there {B b : Nat} {T : TypeId} {cs : List Value} {W : World} (h : Box B b T cs W) {n : Nat} (hn : n ≤ cs.length) : W.there b 0 n := fun j hj => by
 rw [Nat.zero_add]
 exact ⟨by rw [h.cell j (List.getElem?_eq_getElem (by omega))]; rfl, h.frozen j⟩
theorem foldl_set : ∀ (vs : List Value) (o m : Nat) (cs : List Value), o + m + vs.length ≤ cs.length → (vs.zipIdx m).foldl (fun c x => c.set (o + x.2) x.1) cs = cs.take (o + m) ++ (vs ++ cs.drop (o + m + vs.length))
 | [], o, m, cs, h => by simp
 | v :: r, o, m, cs, h => by
  simp only [List.length_cons] at h
  rw [List.zipIdx_cons, List.foldl_cons, foldl_set r o (m + 1) _ (by simp; omega)]
  have h1 : (cs.set (o + m) v).take (o + (m + 1)) = cs.take (o + m) ++ [v] := by
   rw [show o + (m + 1) = (o + m) + 1 by omega, List.take_add_one, List.take_set_of_le (by omega), List.getElem?_set_self (by omega)]; rfl
  have h2 : (cs.set (o + m) v).drop (o + (m + 1) + r.length) = cs.drop (o + m + (v :: r).length) := by
   rw [List.drop_set_of_lt (by omega), List.length_cons]; congr 1; omega
  rw [h1, h2]; simp
theorem Box.setsW {B b : Nat} {T : TypeId} : ∀ (vs : List Value) (o : Nat) (cs : List Value) (W : World), Box B b T cs W → Box B b T (vs.zipIdx.foldl (fun c x => c.set (o + x.2) x.1) cs) (W.setCells b o vs) := by
 intro vs
 induction vs with
 | nil => exact fun _ _ _ h => h
 | cons v r ih =>
  intro o cs W h
  have := ih (o + 1) (cs.set o v) (W.setCell ⟨b, o, none⟩ v) (h.set o v)
  have e : ∀ (l : List Value) (m : Nat) (c : List Value), (l.zipIdx (m + 1)).foldl (fun c x => c.set (o + x.2) x.1) c = (l.zipIdx m).foldl (fun c x => c.set (o + 1 + x.2) x.1) c := by
   intro l
   induction l with
   | nil => intro _ _; rfl
   | cons y l ih2 =>
    intro m c
    simp only [List.zipIdx_cons, List.foldl_cons]
    rw [ih2 (m + 1), show o + (m + 1) = o + 1 + m by omega]
  simp only [List.zipIdx_cons, List.foldl_cons, Nat.add_zero]
  rw [e r 0]
  exact this
theorem Box.whole {B b : Nat} {T : TypeId} {cs cs' : List Value} {W : World} (h : Box B b T cs W) (hl : cs'.length = cs.length) : Box B b T cs' (W.setCells b 0 cs') := by
 have := Box.setsW cs' 0 cs W h
 rw [foldl_set cs' 0 0 cs (by omega)] at this
 simpa [hl] using this
theorem sets_other {b k : Nat} (hne : b ≠ k) : ∀ (vs : List Value) (o : Nat) (W : World), (W.setCells k o vs).heap[b]? = W.heap[b]?
 | [], _, _ => rfl
 | v :: r, o, W => (sets_other hne r (o + 1) _).trans (Below.heap_setCell _ _ _ _ hne)
theorem sets_size : ∀ (vs : List Value) (o : Nat) (W : World) (k : Nat), (W.setCells k o vs).heap.size = W.heap.size
 | [], _, _, _ => rfl
 | v :: r, o, W, k => (sets_size r (o + 1) _ k).trans (by simp)
theorem HeldF.setsAway {B g : Nat} {o : Nat} {vs : List Value} {F : List Bx} {W : World} (h : HeldF B F W) (hne : ∀ p ∈ F, p.1 ≠ g) : HeldF B F (W.setCells g o vs) := by
 induction F with
 | nil => exact trivial
 | cons p F ih => exact ⟨⟨h.1.1, (sets_other (hne p (by simp)) _ _ _).trans h.1.2⟩, h.2.1, ih h.2.2 (fun q hq => hne q (by simp [hq]))⟩
theorem HeldF.whole {B : Nat} {F : List Bx} {W : World} (h : HeldF B F W) : ∀ (i : Nat) {b : Nat} {T : TypeId} {cs cs' : List Value}, F[i]? = some (b, T, cs) → cs'.length = cs.length → HeldF B (F.set i (b, T, cs')) (W.setCells b 0 cs') := by
 induction F with
 | nil => intro i b T cs cs' e; simp at e
 | cons p F ih =>
  intro i b T cs cs' e hl
  rcases i with _ | i
  ·simp only [List.getElem?_cons_zero, Option.some.injEq] at e
   subst e
   exact ⟨h.1.whole hl, h.2.1, h.2.2.setsAway h.2.1⟩
  ·have e' : F[i]? = some (b, T, cs) := by simpa using e
   have hm : (b, T, cs) ∈ F := List.mem_of_getElem? e'
   refine ⟨⟨h.1.1, (sets_other (fun e2 => h.2.1 _ hm e2.symm) _ _ _).trans h.1.2⟩, ?_, ih h.2.2 i e' hl⟩
   intro q hq
   rcases List.mem_or_eq_of_mem_set hq with hq | rfl
   ·exact h.2.1 q hq
   ·exact h.2.1 (b, T, cs) hm
theorem Env.whole {D0 : Nat → Prop} {w W : World} {F : List Bx} {G : List Fct} (h : Env D0 w F G W) (i : Nat) {b : Nat} {T : TypeId} {cs : List Value} (cs' : List Value) (e : F[i]? = some (b, T, cs)) (hl : cs'.length = cs.length) :
  Env D0 w (F.set i (b, T, cs')) G (W.setCells b 0 cs') := by
 have hB := h.box.get i e
 have hm : (b, T, cs) ∈ F := List.mem_of_getElem? e
 have hbel : ∀ (vs : List Value) (o : Nat) (X : World), Below w.heap.size w X → Below w.heap.size w (X.setCells b o vs) := by
  intro vs
  induction vs with
  | nil => exact fun _ _ h => h
  | cons v r ih => exact fun o X hX => ih (o + 1) _ (hX.setCell hB.1 v)
 refine ⟨hbel _ _ _ h.bel, h.box.whole i e hl, h.fct.turn (Nat.le_of_eq (sets_size _ _ _ _).symm) (fun x _ hd => ⟨fun p hp => ?_, hd.2⟩) (fun x j _ hd => World.cell?_of_block (sets_other (fun e2 => hd.1 _ hm e2.symm) _ _ _))⟩
 rcases List.mem_or_eq_of_mem_set hp with hp | rfl
 ·exact hd.1 p hp
 ·exact hd.1 (b, T, cs) hm
structure Big (T : TypeId) (n : Nat) : Prop where
 row : ∃ d, Tryz.prog.underlying T = some d ∧ d.isRow = true
 size : (Tryz.prog.info? T).map (·.size) = some n
section
variable {ops : Array Oper} {rest : List Oper} {op : Oper} {a : Act} {w : World} {Q : Exit → Act → World → Prop} {T : TypeId} {n : Nat}
theorem wpl_load_b (W : Big T n) (b o : Nat) (hx : ∃ x, op.op = .load T x ∧ a.eval x = .pointer (some ⟨b, o, none⟩)) (hw : Region.wanted op (yielded ops a.tmps) = true) (cs : List Value) (hl : cs.length = n) (hc : w.rangeAt b o cs) (h : wpList Tryz.prog ops Q rest (a.put op.dst (.agg cs.toArray)) w) : wpList Tryz.prog ops Q (op :: rest) a w := by
 obtain ⟨d, hu, hd⟩ := W.row
 obtain ⟨x, ho, hx⟩ := hx
 exact wpl_want hw fun K hK => wp_load_mid T x ho b o hx cs d hc hu hd (by rw [W.size, hl]) (hK _ _ h)
theorem exec_load_b (W : Big T n) {oi : Oper} {ev : Operand → Value} (x : Operand) (ho : oi.op = .load T x) (b o : Nat) (hx : ev x = .pointer (some ⟨b, o, none⟩)) (cs : List Value) (hl : cs.length = n) (hc : w.rangeAt b o cs) :
  (execOp ev oi).run Tryz.prog w = .ok (.value (.agg cs.toArray)) w := by
 obtain ⟨d, hu, hd⟩ := W.row
 exact exec_load_big T x ho b o hx cs d hc hu hd (by rw [W.size, hl])
theorem wpl_store_b (W : Big T n) (b o : Nat) (cs : List Value) (hx : ∃ x y, op.op = .store T x y ∧ a.eval x = .pointer (some ⟨b, o, none⟩) ∧ a.eval y = .agg cs.toArray) (hw : Region.wanted op (yielded ops a.tmps) = true) (hl : cs.length = n) (ht : w.there b o n) (h1 : ∀ v ∈ cs, v.oneCell' = true)
  (h : wpList Tryz.prog ops Q rest (a.put op.dst undef) (w.setCells b o cs)) : wpList Tryz.prog ops Q (op :: rest) a w := by
 obtain ⟨x, y, ho, hx, hy⟩ := hx
 exact wpl_want hw fun K hK => wp_store_mid T x y ho b o cs.toArray hx hy (by simpa [hl] using ht) (by rw [W.size]; simp [hl]) (all_oneCell_toArray h1) (hK _ _ (by simpa using h))
end
theorem results_b {fn : Func} {p : Tmp} {T T' : TypeId} {n B g : Nat} {cs : List Value} {W : World} (hT : Big T n) (h : fn.results = #[.cell p T]) (tmps : Array Value) (hb : Box B g T' cs W) (hl : cs.length = n) (hp : tmps.getD p undef = .pointer (some ⟨g, 0, none⟩)) :
  (results fn tmps).run Tryz.prog W = .ok (.agg cs.toArray) W := by
 obtain ⟨d, hu, hd⟩ := hT.row
 exact results_cell_row h tmps W g T' cs.toArray (0, 0) d hp hb.2 hu (by cases d <;> simp_all [TypeDesc.isRow]) (by rw [hT.size]; simp [hl])
theorem bW64 : Big 133 64 := ⟨⟨_, Tryz.underlying133, rfl⟩, by kernel_rfl⟩
open Go.RowKit
/-- bytes in a block from o on -/
def gBy (g o : Nat) (l : List Nat) : GF where
 at_ w D := ∀ i (h : i < l.length), (g < w.heap.size ∧ D g) ∧ w.cell? ⟨g, o + i, none⟩ = some (.int .u8 ((l[i] : Nat) : Int))
 turn h hs hD hc := fun i hi => by
  obtain ⟨h1, h2⟩ := h i hi
  exact ⟨⟨Nat.lt_of_lt_of_le h1.1 hs, hD _ h1.1 h1.2⟩, (hc _ _ h1.1 h1.2).trans h2⟩
def wv (x : Int) : Value := .int .u32 x
/-- a byte behind a word -/
def shb (x : Int) (c : Nat) : Int := bits BinOp.or .u32 (x * 256 % 4294967296) (IntKind.u32.wrap (c : Int))
def in1 (b : List Nat) (i : Nat) : Nat → List Int → List Int
 | 0, ws => ws
 | k + 1, ws => (in1 b i k ws).set i (shb ((in1 b i k ws).getD i 0) (b.getD (4 * i + k) 0))
def out1 (b : List Nat) : Nat → List Int
 | 0 => List.replicate 64 0
 | i + 1 => in1 b i 4 (out1 b i)
theorem in1_len (b : List Nat) (i k : Nat) (ws : List Int) : (in1 b i k ws).length = ws.length := by
 induction k with
 | zero => rfl
 | succ k ih => simp [in1, ih]
theorem out1_len (b : List Nat) (i : Nat) : (out1 b i).length = 64 := by
 induction i with
 | zero => rfl
 | succ i ih => simp [out1, in1_len, ih]
def sg0 (x : Int) : Int := bits BinOp.xor .u32 (bits BinOp.xor .u32 (rotI 7 x) (rotI 18 x)) (x / 8)
def sg1 (y : Int) : Int := bits BinOp.xor .u32 (bits BinOp.xor .u32 (rotI 17 y) (rotI 19 y)) (y / 1024)
/-- the sum of a schedule's word -/
def w4 (a b c d : Int) : Int := IntKind.u32.wrap (IntKind.u32.wrap (IntKind.u32.wrap (a + b) + c) + d)
def ext (b : List Nat) : Nat → List Int
 | 0 => out1 b 16
 | n + 1 => (ext b n).set (16 + n) (w4 ((ext b n).getD n 0) (sg0 ((ext b n).getD (n + 1) 0)) ((ext b n).getD (n + 9) 0) (sg1 ((ext b n).getD (n + 14) 0)))
theorem ext_len (b : List Nat) (n : Nat) : (ext b n).length = 64 := by
 induction n with
 | zero => exact out1_len b 16
 | succ n ih => simp [ext, ih]
theorem wv_get {ws : List Int} {i : Nat} (h : i < ws.length) : (ws.map wv)[i]? = some (.int .u32 (ws.getD i 0)) := by
 rw [List.getElem?_map, List.getElem?_eq_getElem h, List.getD_eq_getElem?_getD, List.getElem?_eq_getElem h]; rfl
theorem gBy.get {W : World} {D : Nat → Prop} {g o : Nat} {l : List Nat} (h : (gBy g o l).at_ W D) (i : Nat) (hi : i < l.length) : W.cell? ⟨g, o + i, none⟩ = some (.int .u8 ((l.getD i 0 : Nat) : Int)) := by
 rw [(h i hi).2, List.getD_eq_getElem?_getD, List.getElem?_eq_getElem hi]; rfl
theorem sch_c (b : List Nat) (hb0 : b.length = 64) {pb po pk : Nat} {w : World} (h0 : Fct.at w (fun _ => True) (.gn (gBy pb po b))) (hk0 : 64 ≤ pk) (hk1 : pk ≤ 9223372036854775807) :
  Calls Tryz.prog 129 #[.slice (some ⟨pb, po, none⟩) 64 pk] w fun e w' => e = .returned (.agg ((ext b 48).map wv).toArray) ∧ Below w.heap.size w w' := by
 have E0 := Zh ((Env.start (fun _ => True) w).arg (.gn (gBy pb po b)) h0)
 clear h0
 have hb := Zh hb0
 have hK := Zh (And.intro hk0 hk1)
 clear hb0 hk0 hk1
 go_enter Tryz.func129, Tryz.ntmps129
 go_wp2_with fail
 have E1 := Zh ((E0.out.push 133 [.int .u32 0, .int .u32 0, .int .u32 0, .int .u32 0, .int .u32 0, .int .u32 0, .int .u32 0, .int .u32 0, .int .u32 0, .int .u32 0, .int .u32 0, .int .u32 0, .int .u32 0, .int .u32 0, .int .u32 0, .int .u32 0, .int .u32 0, .int .u32 0, .int .u32 0, .int .u32 0, .int .u32 0, .int .u32 0, .int .u32 0, .int .u32 0, .int .u32 0, .int .u32 0, .int .u32 0, .int .u32 0, .int .u32 0, .int .u32 0, .int .u32 0, .int .u32 0, .int .u32 0, .int .u32 0, .int .u32 0, .int .u32 0, .int .u32 0, .int .u32 0, .int .u32 0, .int .u32 0, .int .u32 0, .int .u32 0, .int .u32 0, .int .u32 0, .int .u32 0, .int .u32 0, .int .u32 0, .int .u32 0, .int .u32 0, .int .u32 0, .int .u32 0, .int .u32 0, .int .u32 0, .int .u32 0, .int .u32 0, .int .u32 0, .int .u32 0, .int .u32 0, .int .u32 0, .int .u32 0, .int .u32 0, .int .u32 0, .int .u32 0, .int .u32 0] (w.heap.size) rfl).push 133 [.int .u32 0, .int .u32 0, .int .u32 0, .int .u32 0, .int .u32 0, .int .u32 0, .int .u32 0, .int .u32 0, .int .u32 0, .int .u32 0, .int .u32 0, .int .u32 0, .int .u32 0, .int .u32 0, .int .u32 0, .int .u32 0, .int .u32 0, .int .u32 0, .int .u32 0, .int .u32 0, .int .u32 0, .int .u32 0, .int .u32 0, .int .u32 0, .int .u32 0, .int .u32 0, .int .u32 0, .int .u32 0, .int .u32 0, .int .u32 0, .int .u32 0, .int .u32 0, .int .u32 0, .int .u32 0, .int .u32 0, .int .u32 0, .int .u32 0, .int .u32 0, .int .u32 0, .int .u32 0, .int .u32 0, .int .u32 0, .int .u32 0, .int .u32 0, .int .u32 0, .int .u32 0, .int .u32 0, .int .u32 0, .int .u32 0, .int .u32 0, .int .u32 0, .int .u32 0, .int .u32 0, .int .u32 0, .int .u32 0, .int .u32 0, .int .u32 0, .int .u32 0, .int .u32 0, .int .u32 0, .int .u32 0, .int .u32 0, .int .u32 0, .int .u32 0] (w.heap.size + 1) (by simp))
 clear E0
 have E2 : Hid (Env (fun _ => True) w [(w.heap.size + 1, 133, (out1 b 0).map wv), (w.heap.size, 133, (out1 b 0).map wv)] [.gn (gBy pb po b)] _) := Zh (E1.out.cast (by rfl))
 clear E1
 go_loopg [12] (16) (fun gk s12 wr => ∃ (i : Nat), s12 = .int .i64 (i : Int) ∧ Hid (Env (fun _ => True) w [(w.heap.size + 1, 133, (out1 b i).map wv), (w.heap.size, 133, (out1 b 0).map wv)] [.gn (gBy pb po b)] wr) ∧ Hid (i ≤ 16 ∧ gk = 16 - i))
 case atStart => exact ⟨0, rfl, Zh E2.out, Zh ⟨Nat.zero_le _, rfl⟩⟩
 case round =>
  clear E2
  obtain ⟨i, rfl, EL, HA⟩ := hrel
  obtain ⟨a1, a2⟩ := HA.out
  clear HA
  by_cases hy : i = 16
  rotate_left
  ·have hi : i < 16 := by omega
   have t1 : decide ((i : Int) < 16) = true := decide_eq_true (by omega)
   have hk := hK.out.1
   have u1 : wrap64 (4 * (i : Int)) = 4 * (i : Int) := by unfold wrap64; omega
   have u2 : wrap64 (4 * (i : Int) + 4) = 4 * (i : Int) + 4 := by unfold wrap64; omega
   have v0 : 0 ≤ 4 * (i : Int) + 4 := by omega
   have v1 : 4 * (i : Int) + 4 ≤ (pk : Int) := by omega
   have v2 : 0 ≤ 4 * (i : Int) := by omega
   have v3 : 4 * (i : Int) ≤ 4 * (i : Int) + 4 := by omega
   have v4 : (4 * (i : Int) + 4).toNat = 4 * i + 4 := by omega
   have v5 : ¬ pk = 4 * i := by omega
   have v6 : (4 * (i : Int)).toNat = 4 * i := by omega
   clear hk
   have hI := Zh (And.intro hi a2)
   clear hy hi a1 a2
   go_wp2_with fail
   have EI : Hid (Env (fun _ => True) w [(w.heap.size + 1, 133, (in1 b i 0 (out1 b i)).map wv), (w.heap.size, 133, (out1 b 0).map wv)] [.gn (gBy pb po b)] wr) := Zh EL.out
   clear EL
   rename World => wz
   go_loopg [23] (4) (fun gk s23 wr => ∃ (k : Nat), s23 = .int .i64 (k : Int) ∧ Hid (Env (fun _ => True) w [(w.heap.size + 1, 133, (in1 b i k (out1 b i)).map wv), (w.heap.size, 133, (out1 b 0).map wv)] [.gn (gBy pb po b)] wr) ∧ Hid (k ≤ 4 ∧ gk = 4 - k))
   case atStart => exact ⟨0, rfl, Zh EI.out, Zh ⟨Nat.zero_le _, rfl⟩⟩
   case round =>
    clear EI
    obtain ⟨k, rfl, EL, HA⟩ := hrel
    obtain ⟨a1, a2⟩ := HA.out
    clear HA
    by_cases hy : k = 4
    rotate_left
    ·have hi : k < 4 := by omega
     have t2 : decide ((k : Int) < 4) = true := decide_eq_true (by omega)
     have hJ := Zh (And.intro hi a2)
     have hlt : i < (in1 b i k (out1 b i)).length := by rw [in1_len, out1_len]; have := hI.out.1; omega
     have hbl : 4 * i + k < b.length := by rw [hb.out]; have := hI.out.1; omega
     obtain ⟨c, hc⟩ : ∃ c, b.getD (4 * i + k) 0 = c := ⟨_, rfl⟩
     obtain ⟨x, hx⟩ : ∃ x, (in1 b i k (out1 b i)).getD i 0 = x := ⟨_, rfl⟩
     have c1 := gBy.get (EL.out.fc 0 rfl) (4 * i + k) hbl
     have c2 := (EL.out.bx 0 rfl).cell i (wv_get hlt)
     have c3 := (EL.out.bx 0 rfl).frozen i
     rw [hc, ← Nat.add_assoc] at c1
     rw [hx] at c2
     have t3 : decide (i < 64) = true := decide_eq_true (by have := hI.out.1; omega)
     have t4 : (i : Int) < 64 := by have := hI.out.1; omega
     have t5 : (k : Int) < 4 := by have := hJ.out.1; omega
     have EN : Hid (Env (fun _ => True) w [(w.heap.size + 1, 133, (in1 b i (k + 1) (out1 b i)).map wv), (w.heap.size, 133, (out1 b 0).map wv)] [.gn (gBy pb po b)] _) := Zh ((EL.out.set 0 i (wv (shb x c)) rfl).cast (by rw [in1, hc, hx, List.map_set]; rfl))
     have hq := Zh (And.intro hc hx)
     clear hc hx hlt hbl hy hi a2 EL
     go_wp2
     go_roundg (4 - (k + 1))
     case rel => exact ⟨k + 1, rfl, EN, Zh ⟨by have := hJ.out.1; omega, rfl⟩⟩
     case measure => exact by have := hJ.out; omega
    have t2 : decide ((k : Int) < 4) = false := decide_eq_false (by omega)
    have EO : Hid (Env (fun _ => True) w [(w.heap.size + 1, 133, (out1 b (i + 1)).map wv), (w.heap.size, 133, (out1 b 0).map wv)] [.gn (gBy pb po b)] wr) := Zh (by have h := EL.out; rw [hy] at h; exact h)
    have u3 : wrap64 ((i : Int) + 1) = ((i + 1 : Nat) : Int) := by have := hI.out; unfold wrap64; omega
    clear hy a1 a2 EL
    go_wp2
    go_roundg (16 - (i + 1))
    case rel => exact ⟨i + 1, by first | rfl | rw [u3], EO, Zh ⟨by have := hI.out.1; omega, rfl⟩⟩
    case measure => exact by have := hI.out; omega
  have t1 : decide ((i : Int) < 16) = false := decide_eq_false (by omega)
  have EO : Hid (Env (fun _ => True) w [(w.heap.size + 1, 133, (ext b 0).map wv), (w.heap.size, 133, (out1 b 0).map wv)] [.gn (gBy pb po b)] wr) := Zh (by have h := EL.out; rw [hy] at h; exact h)
  clear hy a1 a2 EL
  go_wp2_with fail
  rename World => wz
  go_loopg [7] (48) (fun gk s7 wr => ∃ (n t : Nat), s7 = .int .i64 (t : Int) ∧ Hid (Env (fun _ => True) w [(w.heap.size + 1, 133, (ext b n).map wv), (w.heap.size, 133, (out1 b 0).map wv)] [.gn (gBy pb po b)] wr) ∧ Hid ((n ≤ 48 ∧ t = 16 + n) ∧ gk = 48 - n))
  case atStart => exact ⟨0, 16, rfl, Zh EO.out, Zh ⟨⟨Nat.zero_le _, rfl⟩, rfl⟩⟩
  case round =>
   clear EO
   obtain ⟨n, t, rfl, EL, HA⟩ := hrel
   by_cases hy : n = 48
   rotate_left
   ·have t1 : decide ((t : Int) < 64) = true := decide_eq_true (by have := HA.out; omega)
    obtain ⟨i1, e1⟩ : ∃ i1, i1 = n + 1 := ⟨_, rfl⟩
    obtain ⟨i2, e2⟩ : ∃ i2, i2 = n + 14 := ⟨_, rfl⟩
    obtain ⟨i7, e7⟩ : ∃ i7, i7 = n + 9 := ⟨_, rfl⟩
    have HN := Zh (And.intro HA.out.1.1 hy)
    have u1 : wrap64 ((t : Int) - 15) = (i1 : Int) := by have := HA.out; unfold wrap64; omega
    have y1 : IntKind.i64.wrap ((t : Int) - 15) = (i1 : Int) := by have := HA.out; rw [IntKind.wrap_i64]; omega
    have u2 : wrap64 ((t : Int) - 2) = (i2 : Int) := by have := HA.out; unfold wrap64; omega
    have y2 : IntKind.i64.wrap ((t : Int) - 2) = (i2 : Int) := by have := HA.out; rw [IntKind.wrap_i64]; omega
    have u3 : wrap64 ((t : Int) - 16) = (n : Int) := by have := HA.out; unfold wrap64; omega
    have y3 : IntKind.i64.wrap ((t : Int) - 16) = (n : Int) := by have := HA.out; rw [IntKind.wrap_i64]; omega
    have u4 : wrap64 ((t : Int) - 7) = (i7 : Int) := by have := HA.out; unfold wrap64; omega
    have y4 : IntKind.i64.wrap ((t : Int) - 7) = (i7 : Int) := by have := HA.out; rw [IntKind.wrap_i64]; omega
    have u5 : wrap64 ((t : Int) + 1) = ((t + 1 : Nat) : Int) := by have := HA.out; unfold wrap64; omega
    have b1 : (i1 : Int) < 64 := by have := HA.out; omega
    have b2 : (i2 : Int) < 64 := by have := HA.out; omega
    have b3 : (n : Int) < 64 := by have := HA.out; omega
    have b4 : (i7 : Int) < 64 := by have := HA.out; omega
    have b5 : (t : Int) < 64 := by have := HA.out; omega
    have hl : (ext b n).length = 64 := ext_len b n
    obtain ⟨x1, h1⟩ : ∃ x, (ext b n).getD i1 0 = x := ⟨_, rfl⟩
    obtain ⟨x2, h2⟩ : ∃ x, (ext b n).getD i2 0 = x := ⟨_, rfl⟩
    obtain ⟨x3, h3⟩ : ∃ x, (ext b n).getD n 0 = x := ⟨_, rfl⟩
    obtain ⟨x4, h4⟩ : ∃ x, (ext b n).getD i7 0 = x := ⟨_, rfl⟩
    have c1 := (EL.out.drew.bx 0 rfl).cell i1 (wv_get (by rw [hl]; omega))
    have c2 := (EL.out.drew.bx 0 rfl).cell i2 (wv_get (by rw [hl]; omega))
    rw [h1] at c1
    rw [h2] at c2
    have hX := Zh (And.intro (And.intro e1 e2) (And.intro e7 (And.intro (And.intro h1 h2) (And.intro h3 h4))))
    clear hy e1 e2 e7 h1 h2 h3 h4 hl
    go_wp2_with fail
    refine wp_regionU (S := fun w' => w'.cell? ⟨w.heap.size + 1, i1, none⟩ = some (.int .u32 x1) ∧ w'.cell? ⟨w.heap.size + 1, i2, none⟩ = some (.int .u32 x2)) [] (by kernel_rfl) ⟨c1, c2⟩ (fun hHeld => ?_)
    clear c1 c2
    have ED := Zh EL.out.drew
    clear EL
    generalize wr.drew = wd at *
    refine uPl [0, 1, 2, 3, 4, 5, 6, 7, 8, 9] ?_
    iterate 10 (refine uTl (v := ?_) ?_ ?_; rotate_left; (focus (intro wS hSw; (try dsimp only at hSw); go_simp; try with_reducible rfl)); try simp only [Act.put, pq0, pq1, pq2])
    refine Pl.z ?_
    refine uDone (by kernel_rfl) ?_ _
    clear hHeld
    go_wp2_with (go_at_call 130; refine (right_c _ _ _ rfl).mono ?_; rintro e w' ⟨rfl, rfl⟩)
    have hl : (ext b n).length = 64 := ext_len b n
    obtain ⟨g1, g2, g3, g4, g5⟩ : n < 64 ∧ i7 < 64 ∧ t < 64 ∧ n < 48 ∧ t = 16 + n := by have := HA.out; have := HN.out; have := hX.out.2.1; omega
    have c3 := (ED.out.drew.bx 0 rfl).cell n (wv_get (by rw [hl]; exact g1))
    have c4 := (ED.out.drew.bx 0 rfl).cell i7 (wv_get (by rw [hl]; exact g2))
    have c5 := (ED.out.drew.bx 0 rfl).cell t (wv_get (by rw [hl]; exact g3))
    have c6 := (ED.out.drew.bx 0 rfl).frozen t
    rw [hX.out.2.2.2.1] at c3
    rw [hX.out.2.2.2.2] at c4
    have EN : Hid (Env (fun _ => True) w [(w.heap.size + 1, 133, (ext b (n + 1)).map wv), (w.heap.size, 133, (out1 b 0).map wv)] [.gn (gBy pb po b)] _) := Zh ((ED.out.drew.set 0 t (wv (w4 x3 (sg0 x1) x4 (sg1 x2))) rfl).cast (by obtain ⟨⟨q1, q2⟩, q3, ⟨q4, q5⟩, q6, q7⟩ := hX.out; rw [ext, ← q1, ← q2, ← q3, q4, q5, q6, q7, ← g5, List.map_set]; rfl))
    have HG := Zh (And.intro g4 g5)
    clear g1 g2 g3 g4 g5 hl
    refine wp_regionU (S := fun w' => (w'.cell? ⟨w.heap.size + 1, n, none⟩ = some (.int .u32 x3) ∧ w'.cell? ⟨w.heap.size + 1, i7, none⟩ = some (.int .u32 x4))) [15] (by kernel_rfl) ⟨c3, c4⟩ (fun hHeld => ?_)
    clear c3 c4 ED
    generalize wd.drew = we at *
    refine uPl [0, 1, 2, 3, 4, 5, 6, 7, 8, 9, 10, 11, 12, 13, 14] ?_
    iterate 15 (refine uTl (v := ?_) ?_ ?_; rotate_left; (focus (intro wS hSw; (try dsimp only at hSw); go_simp; try with_reducible rfl)); try simp only [Act.put, pq0, pq1, pq2])
    refine Pl.z ?_
    refine uReady (rs := [15]) (by kernel_rfl) (by simp) ?_
    refine ReadyU.consU (by kernel_rfl) rfl (fun KK hKK => ?_) ReadyU.nil
    go_simp
    (try dsimp only)
    (try clear hHeld)
    refine hKK.out _ _ ?_
    clear hKK KK
    try simp only [Act.put, pq0, pq1, pq2]
    refine uDone (by kernel_rfl) ?_ _
    go_wp2
    go_roundg (48 - (n + 1))
    case rel => exact ⟨n + 1, t + 1, by first | rfl | rw [u5], EN, Zh ⟨by have := HG.out; omega, rfl⟩⟩
    case measure => exact by have := HG.out; have := HA.out; omega
   have t1 : decide ((t : Int) < 64) = false := decide_eq_false (by have := HA.out; omega)
   have EF : Hid (Env (fun _ => True) w [(w.heap.size + 1, 133, (ext b 48).map wv), (w.heap.size, 133, (out1 b 0).map wv)] [.gn (gBy pb po b)] wr) := Zh (by have h := EL.out; rw [hy] at h; exact h)
   clear hy HA EL
   have hlen : ((ext b 48).map wv).length = 64 := by rw [List.length_map, ext_len]
   have hone : ∀ v ∈ (ext b 48).map wv, v.oneCell' = true := by intro v hv; obtain ⟨x, _, rfl⟩ := List.mem_map.1 hv; rfl
   have HL := Zh hlen
   have HO := Zh hone
   have r1 := Zh ((EF.out.bx 0 rfl).range (o := 0) (c := (ext b 48).map wv) (fun j hj => by rw [Nat.zero_add]))
   have b2 := Zh (Box.there (EF.out.bx 1 rfl) (n := 64) (Nat.le_of_eq (by rw [List.length_map, out1_len])))
   clear hlen hone
   go_wp2_with (first | (with_reducible refine wpl_load_b bW64 (w.heap.size + 1) 0 ?_ ?_ ((ext b 48).map wv) HL.out r1.out ?_; (· exact ⟨_, rfl, rfl⟩); (· kernel_rfl)) | (with_reducible refine wpl_store_b bW64 w.heap.size 0 ((ext b 48).map wv) ?_ ?_ HL.out b2.out HO.out ?_; (· exact ⟨_, _, rfl, rfl, rfl⟩); (· kernel_rfl)))
   have EG : Hid (Env (fun _ => True) w [(w.heap.size + 1, 133, (ext b 48).map wv), (w.heap.size, 133, (ext b 48).map wv)] [.gn (gBy pb po b)] _) := Zh (EF.out.whole 1 ((ext b 48).map wv) rfl (HL.out.trans (by rw [List.length_map, out1_len])))
   exact bodyPost_ret (results_b bW64 Tryz.results129 _ (EG.out.bx 1 rfl) HL.out rfl) rfl ⟨rfl, EG.out.bel⟩
open Go.RowKit
def Kc : List Int := [1116352408, 1899447441, 3049323471, 3921009573, 961987163, 1508970993, 2453635748, 2870763221, 3624381080, 310598401, 607225278, 1426881987, 1925078388, 2162078206, 2614888103, 3248222580, 3835390401, 4022224774, 264347078, 604807628, 770255983, 1249150122, 1555081692, 1996064986, 2554220882, 2821834349, 2952996808, 3210313671, 3336571891, 3584528711, 113926993, 338241895, 666307205, 773529912, 1294757372, 1396182291, 1695183700, 1986661051, 2177026350, 2456956037, 2730485921, 2820302411, 3259730800, 3345764771, 3516065817, 3600352804, 4094571909, 275423344, 430227734, 506948616, 659060556, 883997877, 958139571, 1322822218, 1537002063, 1747873779, 1955562222, 2024104815, 2227730452, 2361852424, 2428436474, 2756734187, 3204031479, 3329325298]
def Hc : List Int := [1779033703, 3144134277, 1013904242, 2773480762, 1359893119, 2600822924, 528734635, 1541459225]
/-- a table of words in a global's block -/
def gTb (g : Nat) (l : List Int) : GF where
 at_ w D := ∀ i (h : i < l.length), (g < w.heap.size ∧ D g) ∧ w.cell? ⟨g, i, none⟩ = some (.int .u32 (l.getD i 0))
 turn h hs hD hc := fun i hi => by
  obtain ⟨h1, h2⟩ := h i hi
  exact ⟨⟨Nat.lt_of_lt_of_le h1.1 hs, hD _ h1.1 h1.2⟩, (hc _ _ h1.1 h1.2).trans h2⟩
def xx (e f g h k w : Int) : Int := h + bits BinOp.xor .u32 (bits BinOp.xor .u32 (rotI 6 e) (rotI 11 e)) (rotI 25 e) + bits BinOp.xor .u32 (bits BinOp.and .u32 e f) (bits BinOp.and .u32 (bits BinOp.xor .u32 IntKind.u32.max e) g) + k + w
def yy (a b c : Int) : Int := bits BinOp.xor .u32 (bits BinOp.xor .u32 (rotI 2 a) (rotI 13 a)) (rotI 22 a) + bits BinOp.xor .u32 (bits BinOp.xor .u32 (bits BinOp.and .u32 a b) (bits BinOp.and .u32 a c)) (bits BinOp.and .u32 b c)
def addn : Nat → List Int → List Int → List Int
 | n + 1, s :: ss, v :: vs => ((s + v) % 4294967296) :: addn n ss vs
 | _, ss, _ => ss
def rnd (k w : Int) : List Int → List Int
 | [a, b, c, d, e, f, g, h] => [(xx e f g h k w + yy a b c) % 4294967296, a, b, c, (d + xx e f g h k w) % 4294967296, e, f, g]
 | v => v
def rds (ws : List Int) : Nat → List Int → List Int
 | 0, v => v
 | t + 1, v => rnd (Kc.getD t 0) (ws.getD t 0) (rds ws t v)
theorem ix8_0 (a b c d e f g h : Int) (w : World) : (Instr.index 116 (.agg #[.int .u32 a, .int .u32 b, .int .u32 c, .int .u32 d, .int .u32 e, .int .u32 f, .int .u32 g, .int .u32 h]) (.int .i64 0)).run Tryz.prog w = .ok (.int .u32 a) w := by first | kernel_rfl | rfl
theorem ix8_1 (a b c d e f g h : Int) (w : World) : (Instr.index 116 (.agg #[.int .u32 a, .int .u32 b, .int .u32 c, .int .u32 d, .int .u32 e, .int .u32 f, .int .u32 g, .int .u32 h]) (.int .i64 1)).run Tryz.prog w = .ok (.int .u32 b) w := by first | kernel_rfl | rfl
theorem ix8_2 (a b c d e f g h : Int) (w : World) : (Instr.index 116 (.agg #[.int .u32 a, .int .u32 b, .int .u32 c, .int .u32 d, .int .u32 e, .int .u32 f, .int .u32 g, .int .u32 h]) (.int .i64 2)).run Tryz.prog w = .ok (.int .u32 c) w := by first | kernel_rfl | rfl
theorem ix8_3 (a b c d e f g h : Int) (w : World) : (Instr.index 116 (.agg #[.int .u32 a, .int .u32 b, .int .u32 c, .int .u32 d, .int .u32 e, .int .u32 f, .int .u32 g, .int .u32 h]) (.int .i64 3)).run Tryz.prog w = .ok (.int .u32 d) w := by first | kernel_rfl | rfl
theorem ix8_4 (a b c d e f g h : Int) (w : World) : (Instr.index 116 (.agg #[.int .u32 a, .int .u32 b, .int .u32 c, .int .u32 d, .int .u32 e, .int .u32 f, .int .u32 g, .int .u32 h]) (.int .i64 4)).run Tryz.prog w = .ok (.int .u32 e) w := by first | kernel_rfl | rfl
theorem ix8_5 (a b c d e f g h : Int) (w : World) : (Instr.index 116 (.agg #[.int .u32 a, .int .u32 b, .int .u32 c, .int .u32 d, .int .u32 e, .int .u32 f, .int .u32 g, .int .u32 h]) (.int .i64 5)).run Tryz.prog w = .ok (.int .u32 f) w := by first | kernel_rfl | rfl
theorem ix8_6 (a b c d e f g h : Int) (w : World) : (Instr.index 116 (.agg #[.int .u32 a, .int .u32 b, .int .u32 c, .int .u32 d, .int .u32 e, .int .u32 f, .int .u32 g, .int .u32 h]) (.int .i64 6)).run Tryz.prog w = .ok (.int .u32 g) w := by first | kernel_rfl | rfl
theorem ix8_7 (a b c d e f g h : Int) (w : World) : (Instr.index 116 (.agg #[.int .u32 a, .int .u32 b, .int .u32 c, .int .u32 d, .int .u32 e, .int .u32 f, .int .u32 g, .int .u32 h]) (.int .i64 7)).run Tryz.prog w = .ok (.int .u32 h) w := by first | kernel_rfl | rfl
/-- a block is mixed into a state -/
def mixS (b : List Nat) (s : List Int) : List Int := addn 8 s (rds (ext b 48) 64 s)
theorem gBy.any {W : World} {D : Nat → Prop} {g o : Nat} {l : List Nat} (h : (gBy g o l).at_ W D) : Fct.at W (fun _ => True) (.gn (gBy g o l)) := fun i hi => ⟨⟨(h i hi).1.1, trivial⟩, (h i hi).2⟩
theorem bW8 : Big 116 8 := ⟨⟨_, Tryz.underlying116, rfl⟩, by kernel_rfl⟩
theorem mix_c (b : List Nat) (hb0 : b.length = 64) (s0 s1 s2 s3 s4 s5 s6 s7 : Int) {pb po pk : Nat} {w : World} (h0 : Fct.at w (fun _ => True) (.gn (gBy pb po b))) (ht0 : Fct.at w (fun _ => True) (.gn (gTb 2 Kc))) (hk0 : 64 ≤ pk) (hk1 : pk ≤ 9223372036854775807) :
  Calls Tryz.prog 109 #[.agg #[.int .u32 s0, .int .u32 s1, .int .u32 s2, .int .u32 s3, .int .u32 s4, .int .u32 s5, .int .u32 s6, .int .u32 s7], .slice (some ⟨pb, po, none⟩) 64 pk] w fun e w' => e = .returned (.agg ((mixS b [s0, s1, s2, s3, s4, s5, s6, s7]).map wv).toArray) ∧ Below w.heap.size w w' := by
 have E0 := Zh (((Env.start (fun _ => True) w).arg (.gn (gBy pb po b)) h0).arg (.gn (gTb 2 Kc)) ht0)
 clear h0 ht0
 have hb := Zh hb0
 have hK := Zh (And.intro hk0 hk1)
 clear hb0 hk0 hk1
 go_enter Tryz.func109, Tryz.ntmps109
 go_wp2_with fail
 have E1 := Zh ((E0.out.push 116 [.int .u32 s0, .int .u32 s1, .int .u32 s2, .int .u32 s3, .int .u32 s4, .int .u32 s5, .int .u32 s6, .int .u32 s7] (w.heap.size) rfl).push 116 [.int .u32 0, .int .u32 0, .int .u32 0, .int .u32 0, .int .u32 0, .int .u32 0, .int .u32 0, .int .u32 0] (w.heap.size + 1) (by simp))
 clear E0
 refine (sch_c b hb.out (gBy.any (E1.out.fc 1 rfl)) hK.out.1 hK.out.2).mono ?_
 rintro e w1 ⟨rfl, hb1⟩
 have E2 := Zh (E1.out.below hb1)
 clear E1 hb1
 obtain ⟨ws, hws⟩ : ∃ ws, ext b 48 = ws := ⟨_, rfl⟩
 have HW := Zh (And.intro hws (show ws.length = 64 by rw [← hws, ext_len]))
 rw [hws]
 clear hws
 have E3 := Zh (E2.out.push 133 [.int .u32 0, .int .u32 0, .int .u32 0, .int .u32 0, .int .u32 0, .int .u32 0, .int .u32 0, .int .u32 0, .int .u32 0, .int .u32 0, .int .u32 0, .int .u32 0, .int .u32 0, .int .u32 0, .int .u32 0, .int .u32 0, .int .u32 0, .int .u32 0, .int .u32 0, .int .u32 0, .int .u32 0, .int .u32 0, .int .u32 0, .int .u32 0, .int .u32 0, .int .u32 0, .int .u32 0, .int .u32 0, .int .u32 0, .int .u32 0, .int .u32 0, .int .u32 0, .int .u32 0, .int .u32 0, .int .u32 0, .int .u32 0, .int .u32 0, .int .u32 0, .int .u32 0, .int .u32 0, .int .u32 0, .int .u32 0, .int .u32 0, .int .u32 0, .int .u32 0, .int .u32 0, .int .u32 0, .int .u32 0, .int .u32 0, .int .u32 0, .int .u32 0, .int .u32 0, .int .u32 0, .int .u32 0, .int .u32 0, .int .u32 0, .int .u32 0, .int .u32 0, .int .u32 0, .int .u32 0, .int .u32 0, .int .u32 0, .int .u32 0, .int .u32 0] (w1.heap.size) rfl)
 have HL : Hid ((ws.map wv).length = 64) := Zh (by rw [List.length_map]; exact HW.out.2)
 have HO : Hid (∀ v ∈ ws.map wv, v.oneCell' = true) := Zh (by intro v hv; obtain ⟨x, _, rfl⟩ := List.mem_map.1 hv; rfl)
 have b2 := Zh (Box.there (E3.out.bx 0 rfl) (n := 64) (Nat.le_refl _))
 clear E2
 go_wp2_with (with_reducible refine wpl_store_b bW64 w1.heap.size 0 (ws.map wv) ?_ ?_ HL.out b2.out HO.out ?_; (· exact ⟨_, _, rfl, rfl, rfl⟩); (· kernel_rfl))
 have E4 := Zh (E3.out.whole 0 (ws.map wv) rfl HL.out)
 clear E3 b2
 generalize World.setCells _ _ _ _ = wq at *
 have E5 := Zh E4.out.drew
 clear E4
 have c0 := (E5.out.bx 2 rfl).cell 0 rfl
 have c1 := (E5.out.bx 2 rfl).cell 1 rfl
 have c2 := (E5.out.bx 2 rfl).cell 2 rfl
 have c3 := (E5.out.bx 2 rfl).cell 3 rfl
 have c4 := (E5.out.bx 2 rfl).cell 4 rfl
 have c5 := (E5.out.bx 2 rfl).cell 5 rfl
 have c6 := (E5.out.bx 2 rfl).cell 6 rfl
 have c7 := (E5.out.bx 2 rfl).cell 7 rfl
 refine wp_regionU (S := fun w' => w'.cell? ⟨w.heap.size, 0, none⟩ = some (.int .u32 s0) ∧ w'.cell? ⟨w.heap.size, 1, none⟩ = some (.int .u32 s1) ∧ w'.cell? ⟨w.heap.size, 2, none⟩ = some (.int .u32 s2) ∧ w'.cell? ⟨w.heap.size, 3, none⟩ = some (.int .u32 s3) ∧ w'.cell? ⟨w.heap.size, 4, none⟩ = some (.int .u32 s4) ∧ w'.cell? ⟨w.heap.size, 5, none⟩ = some (.int .u32 s5) ∧ w'.cell? ⟨w.heap.size, 6, none⟩ = some (.int .u32 s6) ∧ w'.cell? ⟨w.heap.size, 7, none⟩ = some (.int .u32 s7)) [] (by kernel_rfl) ⟨c0, c1, c2, c3, c4, c5, c6, c7⟩ (fun hHeld => ?_)
 clear c0 c1 c2 c3 c4 c5 c6 c7
 generalize wq.drew = wd at *
 refine uPl [0, 1, 2, 3, 4, 5, 6, 7, 8, 9, 10, 11, 12, 13, 14, 15, 16, 17, 18, 19, 20, 21, 22, 23] ?_
 iterate 24 (refine uTl (v := ?_) ?_ ?_; rotate_left; (focus (intro wS hSw; (try dsimp only at hSw); go_simp; try with_reducible rfl)); try simp only [Act.put, pq0, pq1, pq2])
 refine Pl.z ?_
 refine uDone (by kernel_rfl) ?_ _
 clear hHeld
 go_wp2_with fail
 go_loopg [6, 7, 8, 9, 10, 11, 12, 13, 37] (64) (fun gk z6 z7 z8 z9 z10 z11 z12 z13 z37 wr => ∃ (xa xb xc xd xe xf xg xh : Int) (t : Nat), z6 = .int .u32 xa ∧ z7 = .int .u32 xb ∧ z8 = .int .u32 xc ∧ z9 = .int .u32 xd ∧ z10 = .int .u32 xe ∧ z11 = .int .u32 xf ∧ z12 = .int .u32 xg ∧ z13 = .int .u32 xh ∧ z37 = .int .i64 (t : Int) ∧ Hid (Env (fun _ => True) w [(w1.heap.size, 133, ws.map wv), (w.heap.size + 1, 116, [.int .u32 0, .int .u32 0, .int .u32 0, .int .u32 0, .int .u32 0, .int .u32 0, .int .u32 0, .int .u32 0]), (w.heap.size, 116, [.int .u32 s0, .int .u32 s1, .int .u32 s2, .int .u32 s3, .int .u32 s4, .int .u32 s5, .int .u32 s6, .int .u32 s7])] [.gn (gTb 2 Kc), .gn (gBy pb po b)] wr) ∧ Hid ((t ≤ 64 ∧ rds ws t [s0, s1, s2, s3, s4, s5, s6, s7] = [xa, xb, xc, xd, xe, xf, xg, xh]) ∧ gk = 64 - t))
 case atStart => exact ⟨s0, s1, s2, s3, s4, s5, s6, s7, 0, rfl, rfl, rfl, rfl, rfl, rfl, rfl, rfl, rfl, Zh E5.out, Zh ⟨⟨Nat.zero_le _, rfl⟩, rfl⟩⟩
 case round =>
  clear E5
  obtain ⟨xa, xb, xc, xd, xe, xf, xg, xh, t, rfl, rfl, rfl, rfl, rfl, rfl, rfl, rfl, rfl, EL, HA⟩ := hrel
  by_cases hy : t = 64
  rotate_left
  ·have ht : t < 64 := by have := HA.out.1.1; omega
   have t1 : decide ((t : Int) < 64) = true := decide_eq_true (by omega)
   have t2 : (t : Int) < 64 := by omega
   have u1 : wrap64 ((t : Int) + 1) = ((t + 1 : Nat) : Int) := by unfold wrap64; omega
   have c1 := (EL.out.drew.bx 0 rfl).cell t (wv_get (by rw [HW.out.2]; exact ht))
   have c2 := ((EL.out.drew.fc 0 rfl : (gTb 2 Kc).at_ _ _) t ht).2
   obtain ⟨wt, hwt⟩ : ∃ x, ws.getD t 0 = x := ⟨_, rfl⟩
   obtain ⟨kt, hkt⟩ : ∃ x, Kc.getD t 0 = x := ⟨_, rfl⟩
   rw [hwt] at c1
   rw [hkt] at c2
   have HT := Zh (And.intro (And.intro ht True.intro) (And.intro hwt hkt))
   clear hy ht hwt hkt
   go_wp2_with fail
   have ED := Zh EL.out.drew
   clear EL
   refine wp_regionU (S := fun w' => w'.cell? ⟨w1.heap.size, t, none⟩ = some (.int .u32 wt) ∧ w'.cell? ⟨2, t, none⟩ = some (.int .u32 kt)) [] (by kernel_rfl) ⟨c1, c2⟩ (fun hHeld => ?_)
   clear c1 c2
   generalize wr.drew = we at *
   refine uPl [0, 1, 3, 6, 10, 11, 12, 13, 14, 15, 16, 17, 19, 20, 21, 23, 24, 25] ?_
   iterate 18 (refine uTl (v := ?_) ?_ ?_; rotate_left; (focus (intro wS hSw; (try dsimp only at hSw); go_simp; try with_reducible rfl)); try simp only [Act.put, pq0, pq1, pq2])
   refine Pl.z ?_
   refine uRd 2 (fun KK hKK => ?_)
   go_simp
   refine (right_c _ _ _ rfl).mono ?_
   rintro e w' ⟨rfl, rfl⟩
   (try dsimp only)
   refine hKK.out _ _ hHeld (fun hHeld => ?_)
   clear hKK KK
   try simp only [Act.put, pq0, pq1, pq2]
   refine uRd 4 (fun KK hKK => ?_)
   go_simp
   refine (right_c _ _ _ rfl).mono ?_
   rintro e w' ⟨rfl, rfl⟩
   (try dsimp only)
   refine hKK.out _ _ hHeld (fun hHeld => ?_)
   clear hKK KK
   try simp only [Act.put, pq0, pq1, pq2]
   refine uTk (i := 5) (some 45) (v := ?_) ?_ ?_
   rotate_left
   ·(intro wS hSw; (try dsimp only at hSw); go_simp; try with_reducible rfl)
   try simp only [Act.put, pq0, pq1, pq2]
   refine uRd 7 (fun KK hKK => ?_)
   go_simp
   refine (right_c _ _ _ rfl).mono ?_
   rintro e w' ⟨rfl, rfl⟩
   (try dsimp only)
   refine hKK.out _ _ hHeld (fun hHeld => ?_)
   clear hKK KK
   try simp only [Act.put, pq0, pq1, pq2]
   refine uPl [8, 9, 18, 22, 26, 27] ?_
   iterate 6 (refine uTl (v := ?_) ?_ ?_; rotate_left; (focus (intro wS hSw; (try dsimp only at hSw); go_simp; try with_reducible rfl)); try simp only [Act.put, pq0, pq1, pq2])
   refine Pl.z ?_
   refine uDone (by kernel_rfl) ?_ _
   clear hHeld
   go_wp2_with (go_at_call 130; refine (right_c _ _ _ rfl).mono ?_; rintro e w' ⟨rfl, rfl⟩)
   go_roundg (64 - (t + 1))
   case rel => exact ⟨_, xa, xb, xc, _, xe, xf, xg, t + 1, rfl, rfl, rfl, rfl, rfl, rfl, rfl, rfl, by first | rfl | rw [u1], Zh ED.out, Zh ⟨⟨by have := HT.out; omega, by rw [rds, HT.out.2.1, HT.out.2.2, HA.out.1.2]; rfl⟩, rfl⟩⟩
   case measure => exact by have := HA.out; have := HT.out.1.1; omega
  have t1 : decide ((t : Int) < 64) = false := decide_eq_false (by omega)
  have HR : Hid (rds ws 64 [s0, s1, s2, s3, s4, s5, s6, s7] = [xa, xb, xc, xd, xe, xf, xg, xh]) := Zh (by have h := HA.out.1.2; rw [hy] at h; exact h)
  clear hy HA
  have EI : Hid (Env (fun _ => True) w [(w1.heap.size, 133, ws.map wv), (w.heap.size + 1, 116, [.int .u32 0, .int .u32 0, .int .u32 0, .int .u32 0, .int .u32 0, .int .u32 0, .int .u32 0, .int .u32 0]), (w.heap.size, 116, (addn 0 [s0, s1, s2, s3, s4, s5, s6, s7] [xa, xb, xc, xd, xe, xf, xg, xh]).map wv)] [.gn (gTb 2 Kc), .gn (gBy pb po b)] wr) := Zh EL.out
  clear EL
  go_wp2_with fail
  rename World => wz
  go_loopg [109] (8) (fun gk z109 wr => ∃ (n : Nat), z109 = .int .i64 (n : Int) ∧ Hid (Env (fun _ => True) w [(w1.heap.size, 133, ws.map wv), (w.heap.size + 1, 116, [.int .u32 0, .int .u32 0, .int .u32 0, .int .u32 0, .int .u32 0, .int .u32 0, .int .u32 0, .int .u32 0]), (w.heap.size, 116, (addn n [s0, s1, s2, s3, s4, s5, s6, s7] [xa, xb, xc, xd, xe, xf, xg, xh]).map wv)] [.gn (gTb 2 Kc), .gn (gBy pb po b)] wr) ∧ Hid (n ≤ 8 ∧ gk = 8 - n))
  case atStart => exact ⟨0, rfl, Zh EI.out, Zh ⟨Nat.zero_le _, rfl⟩⟩
  case round =>
   clear EI
   obtain ⟨n, rfl, EL, HA⟩ := hrel
   by_cases hy : n = 8
   rotate_left
   ·have hn := HA.out
    rcases (by omega : n = 0 ∨ n = 1 ∨ n = 2 ∨ n = 3 ∨ n = 4 ∨ n = 5 ∨ n = 6 ∨ n = 7) with rfl | rfl | rfl | rfl | rfl | rfl | rfl | rfl
    ·clear hy hn
     have c1 := (EL.out.bx 2 rfl).cell 0 (v := .int .u32 s0) rfl
     have c2 := (EL.out.bx 2 rfl).frozen 0
     have EN := Zh (EL.out.set 2 0 (wv ((s0 + xa) % 4294967296)) rfl)
     have ix := ix8_0 xa xb xc xd xe xf xg xh
     clear EL
     go_wp2
     go_roundg (8 - (0 + 1))
     case rel => exact ⟨1, rfl, Zh EN.out, Zh ⟨by omega, rfl⟩⟩
     case measure => exact by have := HA.out; omega
    ·clear hy hn
     have c1 := (EL.out.bx 2 rfl).cell 1 (v := .int .u32 s1) rfl
     have c2 := (EL.out.bx 2 rfl).frozen 1
     have EN := Zh (EL.out.set 2 1 (wv ((s1 + xb) % 4294967296)) rfl)
     have ix := ix8_1 xa xb xc xd xe xf xg xh
     clear EL
     go_wp2
     go_roundg (8 - (1 + 1))
     case rel => exact ⟨2, rfl, Zh EN.out, Zh ⟨by omega, rfl⟩⟩
     case measure => exact by have := HA.out; omega
    ·clear hy hn
     have c1 := (EL.out.bx 2 rfl).cell 2 (v := .int .u32 s2) rfl
     have c2 := (EL.out.bx 2 rfl).frozen 2
     have EN := Zh (EL.out.set 2 2 (wv ((s2 + xc) % 4294967296)) rfl)
     have ix := ix8_2 xa xb xc xd xe xf xg xh
     clear EL
     go_wp2
     go_roundg (8 - (2 + 1))
     case rel => exact ⟨3, rfl, Zh EN.out, Zh ⟨by omega, rfl⟩⟩
     case measure => exact by have := HA.out; omega
    ·clear hy hn
     have c1 := (EL.out.bx 2 rfl).cell 3 (v := .int .u32 s3) rfl
     have c2 := (EL.out.bx 2 rfl).frozen 3
     have EN := Zh (EL.out.set 2 3 (wv ((s3 + xd) % 4294967296)) rfl)
     have ix := ix8_3 xa xb xc xd xe xf xg xh
     clear EL
     go_wp2
     go_roundg (8 - (3 + 1))
     case rel => exact ⟨4, rfl, Zh EN.out, Zh ⟨by omega, rfl⟩⟩
     case measure => exact by have := HA.out; omega
    ·clear hy hn
     have c1 := (EL.out.bx 2 rfl).cell 4 (v := .int .u32 s4) rfl
     have c2 := (EL.out.bx 2 rfl).frozen 4
     have EN := Zh (EL.out.set 2 4 (wv ((s4 + xe) % 4294967296)) rfl)
     have ix := ix8_4 xa xb xc xd xe xf xg xh
     clear EL
     go_wp2
     go_roundg (8 - (4 + 1))
     case rel => exact ⟨5, rfl, Zh EN.out, Zh ⟨by omega, rfl⟩⟩
     case measure => exact by have := HA.out; omega
    ·clear hy hn
     have c1 := (EL.out.bx 2 rfl).cell 5 (v := .int .u32 s5) rfl
     have c2 := (EL.out.bx 2 rfl).frozen 5
     have EN := Zh (EL.out.set 2 5 (wv ((s5 + xf) % 4294967296)) rfl)
     have ix := ix8_5 xa xb xc xd xe xf xg xh
     clear EL
     go_wp2
     go_roundg (8 - (5 + 1))
     case rel => exact ⟨6, rfl, Zh EN.out, Zh ⟨by omega, rfl⟩⟩
     case measure => exact by have := HA.out; omega
    ·clear hy hn
     have c1 := (EL.out.bx 2 rfl).cell 6 (v := .int .u32 s6) rfl
     have c2 := (EL.out.bx 2 rfl).frozen 6
     have EN := Zh (EL.out.set 2 6 (wv ((s6 + xg) % 4294967296)) rfl)
     have ix := ix8_6 xa xb xc xd xe xf xg xh
     clear EL
     go_wp2
     go_roundg (8 - (6 + 1))
     case rel => exact ⟨7, rfl, Zh EN.out, Zh ⟨by omega, rfl⟩⟩
     case measure => exact by have := HA.out; omega
    ·clear hy hn
     have c1 := (EL.out.bx 2 rfl).cell 7 (v := .int .u32 s7) rfl
     have c2 := (EL.out.bx 2 rfl).frozen 7
     have EN := Zh (EL.out.set 2 7 (wv ((s7 + xh) % 4294967296)) rfl)
     have ix := ix8_7 xa xb xc xd xe xf xg xh
     clear EL
     go_wp2
     go_roundg (8 - (7 + 1))
     case rel => exact ⟨8, rfl, Zh EN.out, Zh ⟨by omega, rfl⟩⟩
     case measure => exact by have := HA.out; omega
   subst hy
   have HL : Hid (((addn 8 [s0, s1, s2, s3, s4, s5, s6, s7] [xa, xb, xc, xd, xe, xf, xg, xh]).map wv).length = 8) := Zh rfl
   have HO : Hid (∀ v ∈ (addn 8 [s0, s1, s2, s3, s4, s5, s6, s7] [xa, xb, xc, xd, xe, xf, xg, xh]).map wv, v.oneCell' = true) := Zh (by intro v hv; obtain ⟨x, _, rfl⟩ := List.mem_map.1 hv; rfl)
   have r1 := Zh ((EL.out.bx 2 rfl).range (o := 0) (c := (addn 8 [s0, s1, s2, s3, s4, s5, s6, s7] [xa, xb, xc, xd, xe, xf, xg, xh]).map wv) (fun j hj => by rw [Nat.zero_add]))
   have b2 := Zh (Box.there (EL.out.bx 1 rfl) (n := 8) (Nat.le_refl _))
   go_wp2_with (first | (with_reducible refine wpl_load_b bW8 w.heap.size 0 ?_ ?_ ((addn 8 [s0, s1, s2, s3, s4, s5, s6, s7] [xa, xb, xc, xd, xe, xf, xg, xh]).map wv) HL.out r1.out ?_; (· exact ⟨_, rfl, rfl⟩); (· kernel_rfl)) | (with_reducible refine wpl_store_b bW8 (w.heap.size + 1) 0 ((addn 8 [s0, s1, s2, s3, s4, s5, s6, s7] [xa, xb, xc, xd, xe, xf, xg, xh]).map wv) ?_ ?_ HL.out b2.out HO.out ?_; (· exact ⟨_, _, rfl, rfl, rfl⟩); (· kernel_rfl)))
   have EG : Hid (Env (fun _ => True) w [(w1.heap.size, 133, ws.map wv), (w.heap.size + 1, 116, (addn 8 [s0, s1, s2, s3, s4, s5, s6, s7] [xa, xb, xc, xd, xe, xf, xg, xh]).map wv), (w.heap.size, 116, (addn 8 [s0, s1, s2, s3, s4, s5, s6, s7] [xa, xb, xc, xd, xe, xf, xg, xh]).map wv)] [.gn (gTb 2 Kc), .gn (gBy pb po b)] _) := Zh (EL.out.whole 1 ((addn 8 [s0, s1, s2, s3, s4, s5, s6, s7] [xa, xb, xc, xd, xe, xf, xg, xh]).map wv) rfl rfl)
   exact bodyPost_ret (results_b bW8 Tryz.results109 _ (EG.out.bx 1 rfl) HL.out rfl) rfl ⟨by rw [mixS, HW.out.1, HR.out], EG.out.bel⟩
open Go.RowKit
theorem mk8 (w : World) : (Instr.makeSlice 36 (.int .i64 8) (.int .i64 8)).run Tryz.prog w = .ok (.slice (some ⟨w.heap.size, 0, none⟩) 8 8) (w.alloc (.cells #[.int .u8 0, .int .u8 0, .int .u8 0, .int .u8 0, .int .u8 0, .int .u8 0, .int .u8 0, .int .u8 0] 5)) := by first | kernel_rfl | rfl
/-- the first i of eight bytes -/
def cnt (n : Int) (i : Nat) : List Value := [if 0 < i then .int .u8 (n / 72057594037927936 % 256) else .int .u8 0, if 1 < i then .int .u8 (n / 281474976710656 % 256) else .int .u8 0, if 2 < i then .int .u8 (n / 1099511627776 % 256) else .int .u8 0, if 3 < i then .int .u8 (n / 4294967296 % 256) else .int .u8 0, if 4 < i then .int .u8 (n / 16777216 % 256) else .int .u8 0, if 5 < i then .int .u8 (n / 65536 % 256) else .int .u8 0, if 6 < i then .int .u8 (n / 256 % 256) else .int .u8 0, if 7 < i then .int .u8 (n % 256) else .int .u8 0]
theorem count_c (n : Int) {w : World} : Calls Tryz.prog 81 #[.int .u64 n] w fun e w' => (e = .returned (.slice (some ⟨w.heap.size, 0, none⟩) 8 8) ∧ Box w.heap.size w.heap.size 5 (cnt n 8) w') ∧ Below w.heap.size w w' := by
 have E0 := Zh (Env.start (fun _ => True) w)
 go_enter Tryz.func81, Tryz.ntmps81
 have mk := mk8 w
 have E1 := Zh (E0.out.push 5 [.int .u8 0, .int .u8 0, .int .u8 0, .int .u8 0, .int .u8 0, .int .u8 0, .int .u8 0, .int .u8 0] (w.heap.size) rfl)
 clear E0
 go_wp2_with fail
 clear mk
 go_loopg [8] (8) (fun gk z8 wr => ∃ (i : Nat), z8 = .int .i64 (i : Int) ∧ Hid (Env (fun _ => True) w [(w.heap.size, 5, cnt n i)] [] wr) ∧ Hid (i ≤ 8 ∧ gk = 8 - i))
 case atStart => exact ⟨0, rfl, Zh E1.out, Zh ⟨Nat.zero_le _, rfl⟩⟩
 case round =>
  clear E1
  obtain ⟨i, rfl, EL, HA⟩ := hrel
  by_cases hy : i = 8
  rotate_left
  ·have hn := HA.out
   rcases (by omega : i = 0 ∨ i = 1 ∨ i = 2 ∨ i = 3 ∨ i = 4 ∨ i = 5 ∨ i = 6 ∨ i = 7) with rfl | rfl | rfl | rfl | rfl | rfl | rfl | rfl
   ·clear hy hn
    have c1 := (EL.out.bx 0 rfl).cell 0 (v := .int .u8 0) rfl
    have c2 := (EL.out.bx 0 rfl).frozen 0
    have hw : IntKind.i64.wrap 56 = 56 := by decide
    have EN := Zh (EL.out.set 0 0 (.int .u8 (n / 72057594037927936 % 256)) rfl)
    clear EL
    go_wp2
    go_roundg (8 - (0 + 1))
    case rel => exact ⟨1, rfl, Zh EN.out, Zh ⟨by omega, rfl⟩⟩
    case measure => exact by have := HA.out; omega
   ·clear hy hn
    have c1 := (EL.out.bx 0 rfl).cell 1 (v := .int .u8 0) rfl
    have c2 := (EL.out.bx 0 rfl).frozen 1
    have hw : IntKind.i64.wrap 48 = 48 := by decide
    have EN := Zh (EL.out.set 0 1 (.int .u8 (n / 281474976710656 % 256)) rfl)
    clear EL
    go_wp2
    go_roundg (8 - (1 + 1))
    case rel => exact ⟨2, rfl, Zh EN.out, Zh ⟨by omega, rfl⟩⟩
    case measure => exact by have := HA.out; omega
   ·clear hy hn
    have c1 := (EL.out.bx 0 rfl).cell 2 (v := .int .u8 0) rfl
    have c2 := (EL.out.bx 0 rfl).frozen 2
    have hw : IntKind.i64.wrap 40 = 40 := by decide
    have EN := Zh (EL.out.set 0 2 (.int .u8 (n / 1099511627776 % 256)) rfl)
    clear EL
    go_wp2
    go_roundg (8 - (2 + 1))
    case rel => exact ⟨3, rfl, Zh EN.out, Zh ⟨by omega, rfl⟩⟩
    case measure => exact by have := HA.out; omega
   ·clear hy hn
    have c1 := (EL.out.bx 0 rfl).cell 3 (v := .int .u8 0) rfl
    have c2 := (EL.out.bx 0 rfl).frozen 3
    have hw : IntKind.i64.wrap 32 = 32 := by decide
    have EN := Zh (EL.out.set 0 3 (.int .u8 (n / 4294967296 % 256)) rfl)
    clear EL
    go_wp2
    go_roundg (8 - (3 + 1))
    case rel => exact ⟨4, rfl, Zh EN.out, Zh ⟨by omega, rfl⟩⟩
    case measure => exact by have := HA.out; omega
   ·clear hy hn
    have c1 := (EL.out.bx 0 rfl).cell 4 (v := .int .u8 0) rfl
    have c2 := (EL.out.bx 0 rfl).frozen 4
    have hw : IntKind.i64.wrap 24 = 24 := by decide
    have EN := Zh (EL.out.set 0 4 (.int .u8 (n / 16777216 % 256)) rfl)
    clear EL
    go_wp2
    go_roundg (8 - (4 + 1))
    case rel => exact ⟨5, rfl, Zh EN.out, Zh ⟨by omega, rfl⟩⟩
    case measure => exact by have := HA.out; omega
   ·clear hy hn
    have c1 := (EL.out.bx 0 rfl).cell 5 (v := .int .u8 0) rfl
    have c2 := (EL.out.bx 0 rfl).frozen 5
    have hw : IntKind.i64.wrap 16 = 16 := by decide
    have EN := Zh (EL.out.set 0 5 (.int .u8 (n / 65536 % 256)) rfl)
    clear EL
    go_wp2
    go_roundg (8 - (5 + 1))
    case rel => exact ⟨6, rfl, Zh EN.out, Zh ⟨by omega, rfl⟩⟩
    case measure => exact by have := HA.out; omega
   ·clear hy hn
    have c1 := (EL.out.bx 0 rfl).cell 6 (v := .int .u8 0) rfl
    have c2 := (EL.out.bx 0 rfl).frozen 6
    have hw : IntKind.i64.wrap 8 = 8 := by decide
    have EN := Zh (EL.out.set 0 6 (.int .u8 (n / 256 % 256)) rfl)
    clear EL
    go_wp2
    go_roundg (8 - (6 + 1))
    case rel => exact ⟨7, rfl, Zh EN.out, Zh ⟨by omega, rfl⟩⟩
    case measure => exact by have := HA.out; omega
   ·clear hy hn
    have c1 := (EL.out.bx 0 rfl).cell 7 (v := .int .u8 0) rfl
    have c2 := (EL.out.bx 0 rfl).frozen 7
    have hw : IntKind.i64.wrap 0 = 0 := by decide
    have EN := Zh (EL.out.set 0 7 (.int .u8 (n % 256)) rfl)
    clear EL
    go_wp2
    go_roundg (8 - (7 + 1))
    case rel => exact ⟨8, rfl, Zh EN.out, Zh ⟨by omega, rfl⟩⟩
    case measure => exact by have := HA.out; omega
  subst hy
  have hfin := Zh EL.out.bel
  have hbx := Zh (EL.out.bx 0 rfl)
  go_wp2
  go_ret
  exact ⟨⟨rfl, hbx.out⟩, hfin.out⟩
open Go.RowKit
/-- the zeros behind the byte 128 -/
def zrs (L : Nat) : Nat := (119 - L % 64) % 64
def cntN (n : Nat) : List Nat := (List.range 8).map fun k => n / 2 ^ (56 - 8 * k) % 256
def pad (l : List Nat) : List Nat := l ++ [128] ++ List.replicate (zrs l.length) 0 ++ cntN (8 * l.length)
theorem pad_len (l : List Nat) : (pad l).length = l.length + 1 + zrs l.length + 8 := by simp [pad, cntN]; omega
theorem pad_mod (l : List Nat) : (pad l).length % 64 = 0 := by rw [pad_len, zrs]; omega
theorem zrs_stop (L k : Nat) (h : k ≤ zrs L) : (L + 1 + k) % 64 = 56 ↔ k = zrs L := by unfold zrs at *; omega
theorem cnt_nat (n : Nat) : cnt (n : Int) 8 = (cntN n).map fun c => .int .u8 ((c : Nat) : Int) := by
 simp [cnt, cntN, List.range, List.range.loop]
open Go.RowKit
def bcl (l : List Nat) : List Value := l.map fun c => .int .u8 ((c : Nat) : Int)
theorem bcl_len (l : List Nat) : (bcl l).length = l.length := by simp [bcl]
theorem bcl_app (a b : List Nat) : bcl (a ++ b) = bcl a ++ bcl b := by simp [bcl]
theorem bcl_one (l : List Nat) : ∀ u ∈ bcl l, u.oneCell' = true := by intro u hu; obtain ⟨x, _, rfl⟩ := List.mem_map.1 hu; rfl
theorem bcl_get (l : List Nat) (i : Nat) (h : i < l.length) : (bcl l)[i]? = some (.int .u8 ((l[i] : Nat) : Int)) := by simp [bcl, List.getElem?_eq_getElem h]
theorem tiB : TI 36 5 1 := .ofInfo (b := 1) (z := .int .u8 0) Tryz.underlying36 (by kernel_rfl) rfl (by omega) (by omega)
def B8 (l : List Nat) : Prop := ∀ u ∈ l, u < 256
theorem B8.app {a b : List Nat} (ha : B8 a) (hb : B8 b) : B8 (a ++ b) := fun u hu => (List.mem_append.1 hu).elim (ha u) (hb u)
theorem B8.one {x : Nat} (h : x < 256) : B8 [x] := fun u hu => by simp only [List.mem_cons, List.not_mem_nil, or_false] at hu; subst hu; exact h
/-- bytes of the call's own -/
def OB (sg : List Bx) (cs : List Value) (v : Value) (l : List Nat) : Prop := (OS 5 1 sg cs v l.length ∧ cs.take l.length = bcl l) ∧ B8 l
theorem OB.nil : OB [] [] (.slice none 0 0) [] := ⟨⟨.inl ⟨rfl, rfl, rfl, rfl⟩, rfl⟩, by intro u hu; cases hu⟩
section
variable {D0 : Nat → Prop} {D : Nat → Prop} {w W W' : World} {F A sg : List Bx} {G : List Fct} {cs : List Value} {v : Value} {l news : List Nat}
theorem Bs.src {a : Option Addr} {n c : Nat} (h : Bs W D (.slice a n c) l) : n = l.length ∧ SrcN 1 W a n (bcl l) ∧ B8 l := by
 obtain ⟨ao, cap, h1, _, _, h8, h5, _⟩ := h
 simp only [Value.slice.injEq] at h1
 obtain ⟨rfl, rfl, rfl⟩ := h1
 refine ⟨rfl, ⟨by rw [bcl_len]; omega, bcl_one l, ?_⟩, h8⟩
 by_cases hl : l = []
 ·subst hl; exact .inl rfl
 ·obtain ⟨b, off, rfl, _, hc⟩ := h5 hl
  refine .inr ⟨_, rfl, fun j u hj => ?_⟩
  have hj' : j < l.length := by have := (List.getElem?_eq_some_iff.1 hj).1; rwa [bcl_len] at this
  rw [bcl_get l j hj'] at hj
  rw [Addr.add_lit, hc j hj', List.getD_eq_getElem?_getD, List.getElem?_eq_getElem hj']
  exact hj
theorem OB.bs {B : Nat} (h : OB sg cs v l) (hB : HeldF B sg W) : Bs W (fun b => B ≤ b) v l := by
 obtain ⟨⟨h, ht⟩, h8⟩ := h
 rcases h with ⟨rfl, rfl, rfl, h0⟩ | ⟨g, cap, rfl, rfl, h1, h2, h3⟩
 ·have : l = [] := List.length_eq_zero_iff.1 h0
  subst this; exact Bs.nil _ _
 ·refine ⟨_, cap, rfl, h1, h2, h8, fun _ => ⟨g, 0, rfl, ⟨hB.1.lt, hB.1.1⟩, fun i hi => ?_⟩, trivial⟩
  rw [Nat.zero_add, List.getD_eq_getElem?_getD, List.getElem?_eq_getElem hi]
  refine hB.1.cell i ?_
  have := bcl_get l i hi
  rw [← ht, List.getElem?_take, if_pos hi] at this
  exact this
theorem OB.ofOwns {B : Nat} (h8 : B8 l) (h : W.ownsRow B 5 1 v l.length (bcl l)) : ∃ sg cs, OB sg cs v l ∧ HeldF B sg W := by
 rcases h.2 with ⟨rfl, h0⟩ | ⟨g, cap, cur, rfl, hb, hg, hn, hm, hs, ht⟩
 ·have : l = [] := List.length_eq_zero_iff.1 h0
  subst this; exact ⟨[], [], OB.nil, trivial⟩
 ·exact ⟨_, cur.toList, ⟨⟨.inr ⟨g, cap, rfl, rfl, hn, by unfold maxLen at hm; omega, by simpa using hs⟩, by simpa using ht⟩, h8⟩, ⟨hb, by rw [Array.toArray_toList]; exact hg⟩, by simp, trivial⟩
/-- bytes.Clone: bytes of the call's own -/
theorem bclone_c {a : Option Addr} {n c : Nat} (h : Bs w D (.slice a n c) l) (hm : l.length ≤ 1000000) :
  Calls Tryz.prog 80 #[.slice a n c] w fun e w' => (∃ sg cs va vc, e = .returned (.slice va l.length vc) ∧ Hid (OB sg cs (.slice va l.length vc) l) ∧ Hid (HeldF w.heap.size sg w')) ∧ Below w.heap.size w w' := by
 obtain ⟨rfl, hs, h8⟩ := h.src
 cases a with
 | none =>
  have hl : l = [] := by
   rcases hs.2.2 with h0 | ⟨_, h0, _⟩
   ·exact List.length_eq_zero_iff.1 h0
   ·cases h0
  subst hl
  refine (Tryz.bytes_Clone_nil _ _ w).mono ?_
  rintro e w' ⟨rfl, rfl⟩
  exact ⟨⟨[], [], none, 0, rfl, Zh OB.nil, Zh trivial⟩, Below.refl _ _⟩
 | some a =>
  refine (Tryz.bytes_Clone_at a l.length c (l.map fun c => ((c : Nat) : Int)) w (by simp) (by omega) (fun i hi => ?_)).mono ?_
  ·rcases hs.2.2 with h0 | ⟨a', h0, hc⟩
   ·omega
   ·cases h0
    rw [hc i _ (bcl_get l i hi)]
    simp [List.getD_eq_getElem?_getD, List.getElem?_eq_getElem hi]
  rintro e w' ⟨v', rfl, ho, _, hb⟩
  rw [show (l.map fun c => ((c : Nat) : Int)).map (Value.int .u8) = bcl l from by rw [List.map_map]; rfl] at ho
  obtain ⟨sg, cs, h3, h4⟩ := OB.ofOwns h8 ho
  obtain ⟨va, vc, rfl⟩ := h3.1.1.len
  exact ⟨⟨sg, cs, va, vc, rfl, Zh h3, Zh h4⟩, hb⟩
theorem app_runB (ty : TypeId) (E : Env D0 w (A ++ sg) G W) (hO : OB sg cs v l) {ad : Option Addr} {m c : Nat} (hsrc : SrcN 1 W ad m (bcl news)) (h8 : B8 news) (hb : l.length + m ≤ 1000000) :
  ∃ va vc W', (Builtin.append_ #[36, 36] ty #[v, .slice ad m c]).run Tryz.prog W = .ok (.slice va (l.length + m) vc) W' ∧ ∃ sg' cs' l', Hid (l' = l ++ news) ∧ l.length + m = l'.length ∧ Hid (OB sg' cs' (.slice va l'.length vc) l') ∧ Hid (Env D0 w (A ++ sg') G W') := by
 obtain ⟨v', W', hr, sg', cs', h1, h2, h3, _⟩ := app_run (A := A) (B' := []) tiB ty E (by simp) hO.1.1 (c := c) hsrc hb
 have hm : m = news.length := by have := hsrc.1; rw [bcl_len] at this; omega
 subst hm
 obtain ⟨va, vc, rfl⟩ := h1.len
 refine ⟨va, vc, W', hr, sg', cs', l ++ news, Zh rfl, by simp, Zh ⟨⟨by simpa using h1, ?_⟩, hO.2.app h8⟩, Zh (h3.cast (by simp))⟩
 rw [Nat.mul_one, Nat.mul_one, hO.1.2, ← bcl_app] at h2
 rw [List.length_append]; exact h2
/-- append of bytes, in a list of operations -/
theorem wpl_appB {ops : Array Oper} {rest : List Oper} {o : Oper} {a : Act} {Q : Exit → Act → World → Prop} (hgd : o.guard = none) (s x : Operand)
  (ho : o.op = .call { callee := .builtin .append, args := #[s, x], argTypes := #[36, 36] })
  (E : Env D0 w (A ++ sg) G W) (hO : OB sg cs v l) (hs : a.eval s = v) {ad : Option Addr} {m c : Nat} (hx : a.eval x = .slice ad m c) (hsrc : SrcN 1 W ad m (bcl news)) (h8 : B8 news) (hb : l.length + m ≤ 1000000)
  (h : ∀ (sg' : List Bx) (cs' : List Value) (l' : List Nat) (va : Option Addr) (vc : Nat) (W' : World), Hid (l' = l ++ news) → Hid (OB sg' cs' (.slice va l'.length vc) l') → Hid (Env D0 w (A ++ sg') G W') → wpList Tryz.prog ops Q rest (a.put o.dst (.slice va l'.length vc)) W') :
  wpList Tryz.prog ops Q (o :: rest) a W := by
 refine wpList_plain hgd fun K hK => ?_
 obtain ⟨va, vc, W', hr, sg', cs', l', h1, h2, h3, h4⟩ := app_runB o.type E hO (c := c) hsrc h8 hb
 unfold Oper.wp execOp
 simp only [ho, resolve, invoke, builtin, Sem.run_bind, Sem.run_pure, Result.andThen_ok, List.map_toArray, List.map_cons, List.map_nil, hs, hx, hr]
 rw [h2]
 exact hK _ _ (h sg' cs' l' va vc W' h1 h3 h4)
/-- the same as one operation of a region that draws -/
theorem op_appB {o : Oper} {a : Act} {K : Act → World → Prop} {Q : Exit → Act → World → Prop} {EE : Prop} {ops : Array Oper} (d : Option Tmp) (hgd : o.guard = none) (hd : o.dst = d) (s x : Operand)
  (ho : o.op = .call { callee := .builtin .append, args := #[s, x], argTypes := #[36, 36] })
  (E : Env D0 w (A ++ sg) G W) (hO : OB sg cs v l) (hs : a.eval s = v) {ad : Option Addr} {m c : Nat} (hx : a.eval x = .slice ad m c) (hsrc : SrcN 1 W ad m (bcl news)) (h8 : B8 news) (hb : l.length + m ≤ 1000000)
  (h : ∀ (sg' : List Bx) (cs' : List Value) (l' : List Nat) (va : Option Addr) (vc : Nat) (W' : World), Hid (l' = l ++ news) → Hid (OB sg' cs' (.slice va l'.length vc) l') → Hid (Env D0 w (A ++ sg') G W') → K (a.put d (.slice va l'.length vc)) W') :
  if Region.wanted o (yielded ops a.tmps) = true then Oper.wp Tryz.prog o a W K Q else EE := by
 have hw : Region.wanted o (yielded ops a.tmps) = true := by simp [Region.wanted, hgd]
 rw [if_pos hw]
 subst hd
 obtain ⟨va, vc, W', hr, sg', cs', l', h1, h2, h3, h4⟩ := app_runB o.type E hO (c := c) hsrc h8 hb
 unfold Oper.wp execOp
 simp only [ho, resolve, invoke, builtin, Sem.run_bind, Sem.run_pure, Result.andThen_ok, List.map_toArray, List.map_cons, List.map_nil, hs, hx, hr]
 rw [h2]
 exact h sg' cs' l' va vc W' h1 h3 h4
/-- bytes that grew become a fact -/
theorem Env.freezeB {n : Nat} {a : Option Addr} {c : Nat} (E : Env (fun _ => True) w (A ++ sg) G W) (hO : OB sg cs (.slice a n c) l) : Env (fun _ => True) w A (.bs (.slice a n c) l :: G) W := by
 have hS := E.heldS
 have h1 : Env (fun _ => True) w A G W := ⟨E.bel, (held_iff.2 ⟨fun p hp => (held_iff.1 E.box).1 p (by simp [hp]), (List.pairwise_append.1 (held_iff.1 E.box).2).1⟩), E.fct.turn (Nat.le_refl _) (fun b _ hd => ⟨fun p hp => hd.1 p (by simp [hp]), hd.2⟩) (fun _ _ _ _ => rfl)⟩
 refine h1.note _ ?_
 obtain ⟨⟨h, ht⟩, h8⟩ := hO
 rcases h with ⟨rfl, rfl, e, h0⟩ | ⟨g, cap, rfl, e, h1, h2, h3⟩
 ·have : l = [] := List.length_eq_zero_iff.1 h0
  subst this; rw [e]; exact Bs.nil _ _
 ·rw [e]
  refine ⟨_, cap, rfl, h1, h2, h8, fun _ => ⟨g, 0, rfl, ⟨hS.1.lt, fun p hp e2 => ?_, .inl trivial⟩, fun i hi => ?_⟩, trivial⟩
  ·exact (List.pairwise_append.1 (held_iff.1 E.box).2).2.2 p hp (g, 5, cs) (by simp) e2
  rw [Nat.zero_add, List.getD_eq_getElem?_getD, List.getElem?_eq_getElem hi]
  refine hS.1.cell i ?_
  have := bcl_get l i hi
  rw [← ht, List.getElem?_take, if_pos hi] at this
  exact this
theorem SrcN.bytes {B g : Nat} {T : TypeId} (h : Box B g T (bcl l) W) : SrcN 1 W (some ⟨g, 0, none⟩) l.length (bcl l) := SrcN.box h (by rw [bcl_len]; omega) (bcl_one l)
end
open Go.RowKit
/-- the digest's tables lie where the program's globals are -/
def TabD (w : World) : Prop := Fct.at w (fun _ => True) (.gn (gTb 2 Kc)) ∧ Fct.at w (fun _ => True) (.gn (gTb 0 Hc))
theorem TabD.below {w w' : World} (h : TabD w) (hb : Below w.heap.size w w') : TabD w' :=
 ⟨Fct.turn h.1 hb.size (fun _ _ h => h) (fun b i hl _ => hb.cell (p := ⟨b, i, none⟩) hl), Fct.turn h.2 hb.size (fun _ _ h => h) (fun b i hl _ => hb.cell (p := ⟨b, i, none⟩) hl)⟩
theorem addn_len : ∀ (n : Nat) (a b : List Int), (addn n a b).length = a.length
 | 0, _, _ => by simp [addn]
 | n + 1, [], _ => by simp [addn]
 | n + 1, a :: av, [] => by simp [addn]
 | n + 1, a :: av, b :: bv => by simp [addn, addn_len n av bv]
/-- the state behind k blocks -/
def stN (p : List Nat) : Nat → List Int
 | 0 => Hc
 | k + 1 => mixS ((p.drop (64 * k)).take 64) (stN p k)
theorem stN_len (p : List Nat) (k : Nat) : (stN p k).length = 8 := by
 induction k with
 | zero => rfl
 | succ k ih => rw [stN, mixS, addn_len, ih]
theorem eight {l : List Int} (h : l.length = 8) : ∃ a b c d e f g i, l = [a, b, c, d, e, f, g, i] := by
 match l, h with
 | [a, b, c, d, e, f, g, i], _ => exact ⟨a, b, c, d, e, f, g, i, rfl⟩
/-- byte j of a state -/
def hB (s : List Int) (j : Nat) : Nat := (s.getD (j / 4) 0 / ((2 ^ (24 - 8 * (j % 4)) : Nat) : Int) % 256).toNat
theorem hB_val (s : List Int) (i k : Nat) (hk : k < 4) : ((hB s (4 * i + k) : Nat) : Int) = s.getD i 0 / ((2 ^ (24 - 8 * k) : Nat) : Int) % 256 := by
 unfold hB
 rw [show (4 * i + k) / 4 = i by omega, show (4 * i + k) % 4 = k by omega, Int.toNat_of_nonneg (Int.emod_nonneg _ (by decide))]
theorem hB_lt (s : List Int) (j : Nat) : hB s j < 256 := by unfold hB; have := Int.emod_lt_of_pos (s.getD (j / 4) 0 / ((2 ^ (24 - 8 * (j % 4)) : Nat) : Int)) (show (0 : Int) < 256 by decide); omega
def sumB (l : List Nat) : List Nat := (List.range 32).map (hB (stN (pad l) ((pad l).length / 64)))
theorem sumB_len (l : List Nat) : (sumB l).length = 32 := by simp [sumB]
theorem sumB_8 (l : List Nat) : B8 (sumB l) := fun u hu => by obtain ⟨j, _, rfl⟩ := List.mem_map.1 hu; exact hB_lt _ _
/-- the first n of 32 bytes -/
def oc (s : List Int) (n : Nat) : List Value := bcl ((List.range n).map (hB s)) ++ List.replicate (32 - n) (.int .u8 0)
theorem oc_len (s : List Int) (n : Nat) (h : n ≤ 32) : (oc s n).length = 32 := by simp [oc, bcl]; omega
theorem oc_get (s : List Int) (n : Nat) (h : n < 32) : (oc s n)[n]? = some (.int .u8 0) := by
 rw [oc, List.getElem?_append_right (by simp [bcl])]; simp [bcl, List.getElem?_replicate]; omega
theorem oc_set (s : List Int) (n : Nat) (h : n < 32) : (oc s n).set n (.int .u8 ((hB s n : Nat) : Int)) = oc s (n + 1) := by
 have e : 32 - n = (32 - (n + 1)) + 1 := by omega
 rw [oc, oc, List.set_append_right _ _ (by simp [bcl]), e, List.replicate_succ]
 simp [bcl, List.range_succ]
theorem gBy.sub {W : World} {D : Nat → Prop} {g o : Nat} {l : List Nat} (h : (gBy g o l).at_ W D) (k n : Nat) : (gBy g (o + k) ((l.drop k).take n)).at_ W D := fun i hi => by
 have h1 : i < (l.drop k).length := by rw [List.length_take] at hi; omega
 have h2 : k + i < l.length := by rw [List.length_drop] at h1; omega
 obtain ⟨h3, h4⟩ := h (k + i) h2
 refine ⟨h3, ?_⟩
 rw [Nat.add_assoc, h4]
 simp
theorem Bs.by {W : World} {D : Nat → Prop} {b o n c : Nat} {l : List Nat} (h : Bs W D (.slice (some ⟨b, o, none⟩) n c) l) : (gBy b o l).at_ W D := fun i hi => by
 obtain ⟨ao, cap, h1, _, _, _, h5, _⟩ := h
 simp only [Value.slice.injEq] at h1
 obtain ⟨h1, _, _⟩ := h1
 subst h1
 obtain ⟨b', o', e, h6, h7⟩ := h5 (by rintro rfl; simp at hi)
 simp only [Option.some.injEq, Addr.mk.injEq, and_true] at e
 obtain ⟨rfl, rfl⟩ := e
 exact ⟨h6, by rw [h7 i hi, List.getD_eq_getElem?_getD, List.getElem?_eq_getElem hi]; rfl⟩
theorem Bs.addr {W : World} {D : Nat → Prop} {a : Option Addr} {n c : Nat} {l : List Nat} (h : Bs W D (.slice a n c) l) (hl : l ≠ []) : ∃ b o, a = some ⟨b, o, none⟩ := by
 obtain ⟨ao, cap, h1, _, _, _, h5, _⟩ := h
 simp only [Value.slice.injEq] at h1
 obtain ⟨b, o, e, _⟩ := h5 hl
 exact ⟨b, o, h1.1.trans e⟩
theorem Bs.cap {W : World} {D : Nat → Prop} {a : Option Addr} {n c : Nat} {l : List Nat} (h : Bs W D (.slice a n c) l) : n = l.length ∧ n ≤ c ∧ c ≤ 9223372036854775807 := by
 obtain ⟨ao, cap, h1, h2, h3, _⟩ := h
 simp only [Value.slice.injEq] at h1
 obtain ⟨_, rfl, rfl⟩ := h1
 exact ⟨rfl, h2, h3⟩
theorem ixS {st : List Int} (h : st.length = 8) {i : Nat} (hi : i < 8) (w : World) : (Instr.index 116 (.agg (st.map wv).toArray) (.int .i64 (i : Int))).run Tryz.prog w = .ok (.int .u32 (st.getD i 0)) w := by
 obtain ⟨a, b, c, d, e, f, g, k, rfl⟩ := eight h
 rcases (by omega : i = 0 ∨ i = 1 ∨ i = 2 ∨ i = 3 ∨ i = 4 ∨ i = 5 ∨ i = 6 ∨ i = 7) with rfl | rfl | rfl | rfl | rfl | rfl | rfl | rfl
 ·exact ix8_0 a b c d e f g k w
 ·exact ix8_1 a b c d e f g k w
 ·exact ix8_2 a b c d e f g k w
 ·exact ix8_3 a b c d e f g k w
 ·exact ix8_4 a b c d e f g k w
 ·exact ix8_5 a b c d e f g k w
 ·exact ix8_6 a b c d e f g k w
 ·exact ix8_7 a b c d e f g k w
theorem bW32 : Big 69 32 := ⟨⟨_, Tryz.underlying69, rfl⟩, by kernel_rfl⟩
open Go.RowKit
abbrev Z32 : List Value := [.int .u8 0, .int .u8 0, .int .u8 0, .int .u8 0, .int .u8 0, .int .u8 0, .int .u8 0, .int .u8 0, .int .u8 0, .int .u8 0, .int .u8 0, .int .u8 0, .int .u8 0, .int .u8 0, .int .u8 0, .int .u8 0, .int .u8 0, .int .u8 0, .int .u8 0, .int .u8 0, .int .u8 0, .int .u8 0, .int .u8 0, .int .u8 0, .int .u8 0, .int .u8 0, .int .u8 0, .int .u8 0, .int .u8 0, .int .u8 0, .int .u8 0, .int .u8 0]
theorem gTb.range {W : World} {D : Nat → Prop} {g : Nat} {l : List Int} (h : (gTb g l).at_ W D) : W.rangeAt g 0 (l.map wv) := fun j v hv => by
 rw [Nat.zero_add]
 have hj : j < l.length := by have := (List.getElem?_eq_some_iff.1 hv).1; simpa using this
 rw [(h j hj).2]; rw [wv_get hj] at hv; exact hv
theorem mixL_c (b : List Nat) (hb0 : b.length = 64) (s : List Int) (hs : s.length = 8) {pb po pk : Nat} {w : World} (h0 : Fct.at w (fun _ => True) (.gn (gBy pb po b))) (ht0 : TabD w) (hk0 : 64 ≤ pk) (hk1 : pk ≤ 9223372036854775807) :
  Calls Tryz.prog 109 #[.agg (s.map wv).toArray, .slice (some ⟨pb, po, none⟩) 64 pk] w fun e w' => e = .returned (.agg ((mixS b s).map wv).toArray) ∧ Below w.heap.size w w' := by
 obtain ⟨s0, s1, s2, s3, s4, s5, s6, s7, rfl⟩ := eight hs
 exact mix_c b hb0 s0 s1 s2 s3 s4 s5 s6 s7 h0 ht0.1 hk0 hk1
theorem op_store_b {ops : Array Oper} {op : Oper} {a : Act} {w : World} {Q : Exit → Act → World → Prop} {T : TypeId} {n : Nat} {K : Act → World → Prop} {EE : Prop} (W : Big T n) (d : Option Tmp) (hd : op.dst = d) (b o : Nat) (cs : List Value) (hx : ∃ x y, op.op = .store T x y ∧ a.eval x = .pointer (some ⟨b, o, none⟩) ∧ a.eval y = .agg cs.toArray) (hw : Region.wanted op (yielded ops a.tmps) = true) (hl : cs.length = n) (ht : w.there b o n) (h1 : ∀ v ∈ cs, v.oneCell' = true)
  (h : K (a.put d undef) (w.setCells b o cs)) : if Region.wanted op (yielded ops a.tmps) = true then Oper.wp Tryz.prog op a w K Q else EE := by
 obtain ⟨x, y, ho, hx, hy⟩ := hx
 rw [if_pos hw]
 subst hd
 exact wp_store_mid T x y ho b o cs.toArray hx hy (by simpa [hl] using ht) (by rw [W.size]; simp [hl]) (all_oneCell_toArray h1) (by simpa using h)
theorem wvs_one (l : List Int) : ∀ v ∈ l.map wv, v.oneCell' = true := by intro v hv; obtain ⟨x, _, rfl⟩ := List.mem_map.1 hv; rfl
theorem zrs_lt (L : Nat) : zrs L < 64 := by unfold zrs; omega
theorem cntN_8 (n : Nat) : B8 (cntN n) := fun u hu => by obtain ⟨j, _, rfl⟩ := List.mem_map.1 hu; exact Nat.mod_lt _ (by decide)
theorem sum_c (l : List Nat) {a : Option Addr} {c : Nat} {w : World} (h0 : Fct.at w (fun _ => True) (.bs (.slice a l.length c) l)) (ht0 : TabD w) (hm0 : l.length ≤ 50000) :
  Calls Tryz.prog 79 #[.slice a l.length c] w fun e w' => e = .returned (.agg (bcl (sumB l)).toArray) ∧ Below w.heap.size w w' := by
 have E0 := Zh ((Env.start (fun _ => True) w).arg (.bs (.slice a l.length c) l) h0)
 have ht := Zh ht0
 have hm := Zh hm0
 clear h0 ht0 hm0
 go_enter Tryz.func79, Tryz.ntmps79
 go_wp2_with fail
 have E1 := Zh (E0.out.push 69 Z32 w.heap.size rfl)
 clear E0
 refine (bclone_c (E1.out.fc 0 rfl) (by have := hm.out; omega)).mono ?_
 rintro e w1 ⟨⟨sg, cs, va, vc, rfl, hO, hH⟩, hb⟩
 have E2 := Zh ((E1.out.gotSeg hb hH.out).push 5 (bcl [128]) w1.heap.size rfl)
 clear E1 hb hH
 go_wp2_with (at_builtin; refine wpl_appB (A := [(w1.heap.size, 5, bcl [128]), (w.heap.size, 69, Z32)]) rfl _ _ rfl E2.out hO.out rfl rfl (SrcN.bytes (E2.out.bx 0 rfl)) (B8.one (by omega)) (by have := hm.out; omega) ?_)
 intro sg1 cs1 p1 v1 c1 w2 hp1 hO1 E3
 clear E2 hO
 have EA : Hid (Env (fun _ => True) w ((w.heap.size, 69, Z32) :: sg1) [.bs (.slice a l.length c) l] w2) := Zh E3.out.drop
 clear E3
 go_wp2_with fail
 go_loopg [3] (zrs l.length) (fun gk z3 wr => ∃ (sg : List Bx) (cs : List Value) (p : List Nat) (va : Option Addr) (vc k : Nat), z3 = .slice va p.length vc ∧ Hid (Env (fun _ => True) w ((w.heap.size, 69, Z32) :: sg) [.bs (.slice a l.length c) l] wr) ∧ Hid (OB sg cs (.slice va p.length vc) p) ∧ Hid ((k ≤ zrs l.length ∧ p = l ++ [128] ++ List.replicate k 0) ∧ gk = zrs l.length - k))
 case atStart => exact ⟨sg1, cs1, p1, v1, c1, 0, rfl, EA, hO1, Zh ⟨⟨Nat.zero_le _, by rw [hp1.out]; simp⟩, rfl⟩⟩
 case round =>
  clear EA hO1 hp1
  obtain ⟨sg, cs, p, va, vc, k, rfl, EL, hO, HA⟩ := hrel
  by_cases hy : k = zrs l.length
  rotate_left
  ·have hL : p.length = l.length + 1 + k := by rw [HA.out.1.2]; simp; omega
   have hk : k < zrs l.length := by have := HA.out.1.1; omega
   have q1 : ¬ (p.length % 64 = 56) := by rw [hL, zrs_stop _ _ (by omega)]; exact hy
   have q2 : ¬ ((p.length : Int) % 64 = 56) := by omega
   have HK := Zh (And.intro hk hL)
   clear hk hL hy
   have E2 := Zh (EL.out.push 5 (bcl [0]) wr.heap.size rfl)
   clear EL
   go_wp2_with (at_builtin; refine wpl_appB (A := [(wr.heap.size, 5, bcl [0]), (w.heap.size, 69, Z32)]) rfl _ _ rfl E2.out hO.out rfl rfl (SrcN.bytes (E2.out.bx 0 rfl)) (B8.one (by omega)) (by have := hm.out; have := HK.out; have := zrs_lt l.length; omega) ?_)
   intro sg1 cs1 p1 v1 c1 w2 hp1 hO1 E3
   go_wp2
   go_roundg (zrs l.length - (k + 1))
   case rel => exact ⟨sg1, cs1, p1, v1, c1, k + 1, rfl, Zh E3.out.drop, hO1, Zh ⟨⟨by have := HK.out; omega, by rw [hp1.out, HA.out.1.2, List.replicate_succ']; simp⟩, rfl⟩⟩
   case measure => exact by have := HK.out; have := HA.out; omega
  have hL : p.length = l.length + 1 + k := by rw [HA.out.1.2]; simp; omega
  have q1 : p.length % 64 = 56 := by rw [hL, zrs_stop _ _ (by omega)]; exact hy
  have q2 : (p.length : Int) % 64 = 56 := by omega
  have u1 : IntKind.u64.wrap (l.length : Int) = (l.length : Int) := by have := hm.out; unfold IntKind.wrap; simp [IntKind.bits]; omega
  have u2 : IntKind.u64.wrap (8 * (l.length : Int)) = ((8 * l.length : Nat) : Int) := by have := hm.out; unfold IntKind.wrap; simp [IntKind.bits]; omega
  have HP : Hid (p = l ++ [128] ++ List.replicate (zrs l.length) 0) := Zh (by rw [HA.out.1.2, hy])
  clear hL hy HA
  go_wp2_with fail
  refine (count_c (8 * (l.length : Int))).mono ?_
  rintro e w3 ⟨⟨rfl, hX⟩, hb⟩
  have E2 := Zh (EL.out.gotBox hb (by rw [show (8 * (l.length : Int)) = ((8 * l.length : Nat) : Int) by omega, cnt_nat] at hX; exact hX))
  clear EL hX hb
  go_wp2_with (at_builtin; refine wpl_appB (A := [(wr.heap.size, 5, bcl (cntN (8 * l.length))), (w.heap.size, 69, Z32)]) rfl _ _ rfl E2.out hO.out rfl rfl (SrcN.bytes (E2.out.bx 0 rfl)) (cntN_8 _) (by have := hm.out; have := zrs_lt l.length; rw [HP.out]; simp [cntN]; omega) ?_)
  intro sg1 cs1 P v1 c1 w4 hp1 hO1 E3
  have HQ : Hid (P = pad l) := Zh (by rw [hp1.out, HP.out]; rfl)
  clear hp1 HP
  have E4 := Zh (E3.out.drop.freezeB (A := [(w.heap.size, 69, Z32)]) hO1.out)
  clear E3 hO1 hO E2
  have E5 := Zh (E4.out.push 116 [.int .u32 0, .int .u32 0, .int .u32 0, .int .u32 0, .int .u32 0, .int .u32 0, .int .u32 0, .int .u32 0] w4.heap.size rfl)
  have r1 := Zh (gTb.range (ht.out.below E4.out.bel).2)
  have b2 := Zh (Box.there (E5.out.bx 0 rfl) (n := 8) (Nat.le_refl _))
  have HO : Hid (∀ v ∈ Hc.map wv, v.oneCell' = true) := Zh (by intro v hv; obtain ⟨x, _, rfl⟩ := List.mem_map.1 hv; rfl)
  go_wp2_with (first | (with_reducible refine wpl_load_b bW8 0 0 ?_ ?_ (Hc.map wv) rfl r1.out ?_; (· exact ⟨_, rfl, rfl⟩); (· kernel_rfl)) | (with_reducible refine wpl_store_b bW8 w4.heap.size 0 (Hc.map wv) ?_ ?_ rfl b2.out HO.out ?_; (· exact ⟨_, _, rfl, rfl, rfl⟩); (· kernel_rfl)))
  have E6 := Zh (E5.out.whole 0 (Hc.map wv) rfl rfl)
  clear E4 E5 r1 b2 HO
  generalize World.setCells _ _ _ _ = wq at *
  go_simp
  obtain ⟨pb, po, rfl⟩ := Bs.addr (E6.out.fc 0 rfl) (show P ≠ [] from fun h => by have h1 := pad_len l; rw [← HQ.out, h] at h1; simp at h1)
  have HC := Zh (Bs.cap (E6.out.fc 0 rfl)).2
  have HN : Hid (P.length = 64 * (P.length / 64)) := Zh (by have := pad_mod l; rw [← HQ.out] at this; omega)
  go_loopg [3] (P.length / 64) (fun gk z3 wr => ∃ (k n cc : Nat) (ad : Option Addr), z3 = .slice ad n cc ∧ Hid (Env (fun _ => True) w [(w4.heap.size, 116, (stN P k).map wv), (w.heap.size, 69, Z32)] [.bs (.slice (some ⟨pb, po, none⟩) P.length c1) P, .bs (.slice a l.length c) l] wr) ∧ Hid ((n + 64 * k = P.length ∧ cc + 64 * k = c1 ∧ (n ≠ 0 → ad = some ⟨pb, po + 64 * k, none⟩)) ∧ gk = P.length / 64 - k))
  case atStart => exact ⟨0, P.length, c1, some ⟨pb, po, none⟩, rfl, E6, Zh ⟨⟨by omega, by omega, fun _ => by simp⟩, by omega⟩⟩
  case round =>
   clear E6
   obtain ⟨k, n, cc, ad, rfl, EL, HA⟩ := hrel
   by_cases hy : n = 0
   rotate_left
   ·have hn : 64 ≤ n := by have := HA.out.1.1; have := HN.out; omega
    have hc : n ≤ cc := by have := HA.out.1; have := HC.out.1; omega
    obtain ⟨⟨a1, a2, a3⟩, a4⟩ := HA.out
    obtain rfl := a3 hy
    have q1 : decide ((0 : Int) < (n : Int)) = true := decide_eq_true (by omega)
    have q2 : decide (0 < n) = true := decide_eq_true (by omega)
    have q3 : 64 ≤ cc := by omega
    have q4 : (64 : Int) ≤ (cc : Int) := by omega
    have q5 : 64 ≤ n := by omega
    have q6 : (64 : Int) ≤ (n : Int) := by omega
    have HB := Zh (And.intro (And.intro a1 a2) (And.intro a4 (And.intro hn hc)))
    clear a1 a2 a3 a4 hn hc hy HA
    go_wp2_with fail
    have HL : Hid (((stN P k).map wv).length = 8) := Zh (by rw [List.length_map, stN_len])
    have r1 := (EL.out.drew.bx 0 rfl).range (o := 0) (c := (stN P k).map wv) (fun j hj => by rw [Nat.zero_add])
    have ED := Zh EL.out.drew
    clear EL
    refine wp_regionU (S := fun w' => w'.rangeAt w4.heap.size 0 ((stN P k).map wv)) [4] (by kernel_rfl) r1 (fun hHeld => ?_)
    clear r1
    generalize wr.drew = we at *
    refine uTake (i := 0) (some 33) (v := .agg ((stN P k).map wv).toArray) rfl rfl (by kernel_rfl) (by kernel_rfl) (by kernel_rfl) (by kernel_rfl) (fun _ _ _ h => h) (by rfl) (by assumption) ?_ ?_
    ·exact (fun wS hSw => exec_load_b bW8 _ rfl w4.heap.size 0 rfl _ HL.out hSw)
    try simp only [Act.put, pq0, pq1, pq2]
    refine uPl [1, 2] ?_
    iterate 2 (refine uTl (v := ?_) ?_ ?_; rotate_left; (focus (intro wS hSw; (try dsimp only at hSw); go_simp; try with_reducible rfl)); try simp only [Act.put, pq0, pq1, pq2])
    refine Pl.z ?_
    refine uRd 3 (fun KK hKK => ?_)
    go_simp
    have hpl : ((P.drop (64 * k)).take 64).length = 64 := by have := HB.out; rw [List.length_take, List.length_drop]; omega
    refine (mixL_c ((P.drop (64 * k)).take 64) hpl (stN P k) (stN_len P k) (gBy.any (gBy.sub (Bs.by (ED.out.fc 0 rfl)) (64 * k) 64)) (ht.out.below ED.out.bel) q3 (by have := HB.out; have := HC.out; omega)).mono ?_
    rintro e w5 ⟨rfl, hb⟩
    have EM := Zh (ED.out.below hb)
    clear ED hb hpl
    (try dsimp only)
    refine hKK.out _ _ ((EM.out.bx 0 rfl).range (o := 0) (c := (stN P k).map wv) (fun j hj => by rw [Nat.zero_add])) (fun hHeld => ?_)
    clear hKK KK
    try simp only [Act.put, pq0, pq1, pq2]
    refine uReady (rs := [4]) (by kernel_rfl) (by simp) ?_
    refine ReadyU.consU (by kernel_rfl) rfl (fun KK hKK => ?_) ReadyU.nil
    refine op_store_b bW8 none rfl w4.heap.size 0 ((stN P (k + 1)).map wv) ⟨_, _, rfl, rfl, rfl⟩ (by kernel_rfl) (by rw [List.length_map, stN_len]) (Box.there (EM.out.bx 0 rfl) (Nat.le_of_eq HL.out.symm)) (wvs_one _) ?_
    have ES : Hid (Env (fun _ => True) w [(w4.heap.size, 116, (stN P (k + 1)).map wv), (w.heap.size, 69, Z32)] [.bs (.slice (some ⟨pb, po, none⟩) P.length c1) P, .bs (.slice a l.length c) l] _) := Zh (EM.out.whole 0 ((stN P (k + 1)).map wv) rfl (by rw [List.length_map, List.length_map, stN_len, stN_len]))
    refine hKK.out _ _ ?_
    clear hKK KK hHeld EM HL
    try simp only [Act.put, pq0, pq1, pq2]
    refine uDone (by kernel_rfl) ?_ _
    generalize World.setCells _ _ _ _ = wq at *
    by_cases hz : cc = 64
    ·have z1 : (cc = 64) = True := eq_true hz
     have z2 : (64 = cc) = True := eq_true hz.symm
     go_wp2
     go_roundg (P.length / 64 - (k + 1))
     case rel => exact ⟨k + 1, _, _, _, rfl, ES, Zh ⟨⟨by have := HB.out; omega, by have := HB.out; omega, fun h => by have := HB.out; omega⟩, rfl⟩⟩
     case measure => exact by have := HB.out; omega
    ·have z1 : (cc = 64) = False := eq_false hz
     have z2 : (64 = cc) = False := eq_false (Ne.symm hz)
     go_wp2
     go_roundg (P.length / 64 - (k + 1))
     case rel => exact ⟨k + 1, _, _, _, rfl, ES, Zh ⟨⟨by have := HB.out; omega, by have := HB.out; omega, fun h => by rw [Nat.mul_add]; rfl⟩, rfl⟩⟩
     case measure => exact by have := HB.out; omega
   subst hy
   have HK : Hid (stN P k = stN (pad l) ((pad l).length / 64)) := Zh (by rw [← HQ.out]; congr 1; have := HA.out; omega)
   clear HA HN HC
   have HL : Hid (((stN P k).map wv).length = 8) := Zh (by rw [List.length_map, stN_len])
   have EO : Hid (Env (fun _ => True) w [(wr.heap.size, 69, oc (stN P k) (4 * 0)), (w4.heap.size, 116, (stN P k).map wv), (w.heap.size, 69, Z32)] [.bs (.slice (some ⟨pb, po, none⟩) P.length c1) P, .bs (.slice a l.length c) l] _) := Zh (EL.out.push 69 Z32 wr.heap.size rfl)
   have r1 := Zh ((EO.out.bx 1 rfl).range (o := 0) (c := (stN P k).map wv) (fun j hj => by rw [Nat.zero_add]))
   clear EL
   go_wp2_with (with_reducible refine wpl_load_b bW8 w4.heap.size 0 ?_ ?_ ((stN P k).map wv) HL.out r1.out ?_; (· exact ⟨_, rfl, rfl⟩); (· kernel_rfl))
   clear r1 HL
   go_wp2_with fail
   rename World => wr0
   go_loopg [38] (8) (fun gk z38 wr => ∃ (i : Nat), z38 = .int .i64 (i : Int) ∧ Hid (Env (fun _ => True) w [(wr0.heap.size, 69, oc (stN P k) (4 * i)), (w4.heap.size, 116, (stN P k).map wv), (w.heap.size, 69, Z32)] [.bs (.slice (some ⟨pb, po, none⟩) P.length c1) P, .bs (.slice a l.length c) l] wr) ∧ Hid (i ≤ 8 ∧ gk = 8 - i))
   case atStart => exact ⟨0, rfl, EO, Zh ⟨Nat.zero_le _, rfl⟩⟩
   case round =>
    clear EO
    obtain ⟨i, rfl, EL, HI⟩ := hrel
    by_cases hy : i = 8
    rotate_left
    ·have hi : i < 8 := by have := HI.out; omega
     have t1 : decide ((i : Int) < 8) = true := decide_eq_true (by omega)
     have t1' : decide (i < 8) = true := decide_eq_true hi
     have ix := ixS (stN_len P k) hi
     obtain ⟨x, hx⟩ : ∃ x, (stN P k).getD i 0 = x := ⟨_, rfl⟩
     rw [hx] at ix
     have HX := Zh hx
     have HI2 := Zh hi
     clear hy hi hx
     go_wp2_with fail
     rename World => wz
     go_loopg [42] (4) (fun gk z42 wr => ∃ (j : Nat), z42 = .int .i64 (j : Int) ∧ Hid (Env (fun _ => True) w [(wr0.heap.size, 69, oc (stN P k) (4 * i + j)), (w4.heap.size, 116, (stN P k).map wv), (w.heap.size, 69, Z32)] [.bs (.slice (some ⟨pb, po, none⟩) P.length c1) P, .bs (.slice a l.length c) l] wr) ∧ Hid (j ≤ 4 ∧ gk = 4 - j))
     case atStart => exact ⟨0, rfl, EL, Zh ⟨Nat.zero_le _, rfl⟩⟩
     case round =>
      clear EL
      obtain ⟨j, rfl, EJ, HJ⟩ := hrel
      by_cases hw : j = 4
      rotate_left
      ·obtain ⟨m, hm4⟩ : ∃ m, 4 * i + j = m := ⟨_, rfl⟩
       rw [hm4] at EJ
       have hm32 : m < 32 := by have := HJ.out; have := HI2.out; omega
       have c2 := (EJ.out.bx 0 rfl).cell m (oc_get _ _ hm32)
       have c3 := (EJ.out.bx 0 rfl).frozen m
       have t3 : decide (m < 32) = true := decide_eq_true hm32
       have t4 : (m : Int) < 32 := by omega
       have t5 : 0 ≤ (m : Int) := by omega
       have u4 : wrap64 (4 * (i : Int)) = 4 * (i : Int) := by have := HI2.out; unfold wrap64; omega
       have y4 : IntKind.i64.wrap (4 * (i : Int)) = 4 * (i : Int) := by have := HI2.out; rw [IntKind.wrap_i64]; omega
       have hj := HJ.out
       rcases (by omega : j = 0 ∨ j = 1 ∨ j = 2 ∨ j = 3) with rfl | rfl | rfl | rfl
       ·clear u4 y4
        have u4 : wrap64 (4 * (i : Int)) = (m : Int) := by have := HI2.out; unfold wrap64; omega
        have u7 : wrap64 (m : Int) = (m : Int) := by have := HI2.out; unfold wrap64; omega
        have hv : ((hB (stN P k) m : Nat) : Int) = x / 16777216 % 256 := by have h9 := hB_val (stN P k) i 0 (by omega); rw [HX.out] at h9; rw [← hm4]; simpa using h9
        have EN : Hid (Env (fun _ => True) w [(wr0.heap.size, 69, oc (stN P k) (m + 1)), (w4.heap.size, 116, (stN P k).map wv), (w.heap.size, 69, Z32)] [.bs (.slice (some ⟨pb, po, none⟩) P.length c1) P, .bs (.slice a l.length c) l] _) := Zh ((EJ.out.set 0 m (.int .u8 (x / 16777216 % 256)) rfl).cast (by rw [← hv, ← oc_set _ _ hm32]; rfl))
        have HM := Zh (And.intro hm4 hm32)
        clear hv hm4 hm32 EJ
        go_wp2
        go_roundg (4 - (0 + 1))
        case rel => exact ⟨1, rfl, Zh (EN.out.cast (by rw [← HM.out.1])), Zh ⟨by omega, rfl⟩⟩
        case measure => exact by have := HJ.out; omega
       ·have u6 : wrap64 (4 * (i : Int) + 1) = (m : Int) := by have := HI.out; unfold wrap64; omega
        have y6 : IntKind.i64.wrap (4 * (i : Int) + 1) = (m : Int) := by have := HI.out; rw [IntKind.wrap_i64]; omega
        have hv : ((hB (stN P k) m : Nat) : Int) = x / 65536 % 256 := by have h9 := hB_val (stN P k) i 1 (by omega); rw [HX.out] at h9; rw [← hm4]; simpa using h9
        have EN : Hid (Env (fun _ => True) w [(wr0.heap.size, 69, oc (stN P k) (m + 1)), (w4.heap.size, 116, (stN P k).map wv), (w.heap.size, 69, Z32)] [.bs (.slice (some ⟨pb, po, none⟩) P.length c1) P, .bs (.slice a l.length c) l] _) := Zh ((EJ.out.set 0 m (.int .u8 (x / 65536 % 256)) rfl).cast (by rw [← hv, ← oc_set _ _ hm32]; rfl))
        have HM := Zh (And.intro hm4 hm32)
        clear hv hm4 hm32 EJ
        go_wp2
        go_roundg (4 - (1 + 1))
        case rel => exact ⟨2, rfl, Zh (EN.out.cast (by rw [← HM.out.1])), Zh ⟨by omega, rfl⟩⟩
        case measure => exact by have := HJ.out; omega
       ·have u6 : wrap64 (4 * (i : Int) + 2) = (m : Int) := by have := HI.out; unfold wrap64; omega
        have y6 : IntKind.i64.wrap (4 * (i : Int) + 2) = (m : Int) := by have := HI.out; rw [IntKind.wrap_i64]; omega
        have hv : ((hB (stN P k) m : Nat) : Int) = x / 256 % 256 := by have h9 := hB_val (stN P k) i 2 (by omega); rw [HX.out] at h9; rw [← hm4]; simpa using h9
        have EN : Hid (Env (fun _ => True) w [(wr0.heap.size, 69, oc (stN P k) (m + 1)), (w4.heap.size, 116, (stN P k).map wv), (w.heap.size, 69, Z32)] [.bs (.slice (some ⟨pb, po, none⟩) P.length c1) P, .bs (.slice a l.length c) l] _) := Zh ((EJ.out.set 0 m (.int .u8 (x / 256 % 256)) rfl).cast (by rw [← hv, ← oc_set _ _ hm32]; rfl))
        have HM := Zh (And.intro hm4 hm32)
        clear hv hm4 hm32 EJ
        go_wp2
        go_roundg (4 - (2 + 1))
        case rel => exact ⟨3, rfl, Zh (EN.out.cast (by rw [← HM.out.1])), Zh ⟨by omega, rfl⟩⟩
        case measure => exact by have := HJ.out; omega
       ·have u6 : wrap64 (4 * (i : Int) + 3) = (m : Int) := by have := HI.out; unfold wrap64; omega
        have y6 : IntKind.i64.wrap (4 * (i : Int) + 3) = (m : Int) := by have := HI.out; rw [IntKind.wrap_i64]; omega
        have hv : ((hB (stN P k) m : Nat) : Int) = x % 256 := by have h9 := hB_val (stN P k) i 3 (by omega); rw [HX.out] at h9; rw [← hm4]; simpa using h9
        have EN : Hid (Env (fun _ => True) w [(wr0.heap.size, 69, oc (stN P k) (m + 1)), (w4.heap.size, 116, (stN P k).map wv), (w.heap.size, 69, Z32)] [.bs (.slice (some ⟨pb, po, none⟩) P.length c1) P, .bs (.slice a l.length c) l] _) := Zh ((EJ.out.set 0 m (.int .u8 (x % 256)) rfl).cast (by rw [← hv, ← oc_set _ _ hm32]; rfl))
        have HM := Zh (And.intro hm4 hm32)
        clear hv hm4 hm32 EJ
        go_wp2
        go_roundg (4 - (3 + 1))
        case rel => exact ⟨4, rfl, Zh (EN.out.cast (by rw [← HM.out.1])), Zh ⟨by omega, rfl⟩⟩
        case measure => exact by have := HJ.out; omega
      subst hw
      have EK : Hid (Env (fun _ => True) w [(wr0.heap.size, 69, oc (stN P k) (4 * (i + 1))), (w4.heap.size, 116, (stN P k).map wv), (w.heap.size, 69, Z32)] [.bs (.slice (some ⟨pb, po, none⟩) P.length c1) P, .bs (.slice a l.length c) l] _) := EJ
      clear EJ
      have u8 : wrap64 ((i : Int) + 1) = ((i + 1 : Nat) : Int) := by have := HI2.out; unfold wrap64; omega
      go_wp2
      go_roundg (8 - (i + 1))
      case rel => exact ⟨i + 1, by first | rfl | rw [u8], EK, Zh ⟨by have := HI2.out; omega, rfl⟩⟩
      case measure => exact by have := HI.out; have := HI2.out; omega
    subst hy
    have HL32 : Hid ((oc (stN P k) 32).length = 32) := Zh (oc_len _ _ (Nat.le_refl _))
    have HO : Hid (∀ v ∈ oc (stN P k) 32, v.oneCell' = true) := Zh (by unfold oc; rw [show 32 - 32 = 0 from rfl, List.replicate_zero, List.append_nil]; exact bcl_one _)
    have r1 := Zh ((EL.out.bx 0 rfl).range (o := 0) (c := oc (stN P k) 32) (fun j hj => by rw [Nat.zero_add]))
    have b2 := Zh (Box.there (EL.out.bx 2 rfl) (n := 32) (Nat.le_refl _))
    go_wp2_with (first | (with_reducible refine wpl_load_b bW32 wr0.heap.size 0 ?_ ?_ (oc (stN P k) 32) HL32.out r1.out ?_; (· exact ⟨_, rfl, rfl⟩); (· kernel_rfl)) | (with_reducible refine wpl_store_b bW32 w.heap.size 0 (oc (stN P k) 32) ?_ ?_ HL32.out b2.out HO.out ?_; (· exact ⟨_, _, rfl, rfl, rfl⟩); (· kernel_rfl)))
    have EG := Zh (EL.out.whole 2 (oc (stN P k) 32) rfl HL32.out)
    exact bodyPost_ret (results_b bW32 Tryz.results79 _ (EG.out.bx 2 rfl) HL32.out rfl) rfl ⟨by rw [oc, show 32 - 32 = 0 from rfl, List.replicate_zero, List.append_nil, HK.out]; rfl, EG.out.bel⟩
open Go.RowKit
abbrev tagS : ByteArray := { data := #[115, 112, 101, 99, 105, 101, 47, 118, 111, 117, 99, 104, 101, 114] }
abbrev tagL : List Nat := [115, 112, 101, 99, 105, 101, 47, 118, 111, 117, 99, 104, 101, 114]
def tagB (l : List Nat) : List Nat := sumB (sumB tagL ++ sumB tagL ++ l)
/-- the tag's bytes, as a conversion makes them -/
theorem conv_tag {w W : World} {F : List Bx} {G : List Fct} {g : Nat} (E : Env (fun _ => True) w F G W) (hg : g = W.heap.size) : ∃ vc W', (convert 9 36 (.string tagS)).run Tryz.prog W = .ok (.slice (some ⟨g, 0, none⟩) 14 vc) W' ∧ Hid (Env (fun _ => True) w F (.bs (.slice (some ⟨g, 0, none⟩) 14 vc) tagL :: G) W') := by
 subst hg
 refine ⟨_, _, run_bytes_of_string W 9 36 5 tagS Tryz.underlying9 Tryz.underlying36 Tryz.underlying5, Zh ?_⟩
 have hge := grownCap_ge W 14 0 5
 have hle := grownCap_le_maxLen W 14 0 5 (by unfold maxLen; omega)
 have hb : Below W.heap.size W (W.drew.alloc (.cells (bytesRow tagS (grownCap W 14 0 5)) 5 ((bytesRow tagS (grownCap W 14 0 5)).size, (bytesRow tagS (grownCap W 14 0 5)).size + 1))) := (below_drewN (Below.refl _ _) 1).alloc (Nat.le_refl _) _
 refine (E.below hb).note _ ⟨some ⟨W.heap.size, 0, none⟩, grownCap W 14 0 5, rfl, hge, by unfold maxLen at hle; omega, by decide, fun _ => ⟨W.heap.size, 0, rfl, ⟨?_, fun p hp e => ?_, .inl trivial⟩, fun i hi => ?_⟩, trivial⟩
 ·exact lt_of_block (heap_alloc_new W.drew _)
 ·have := E.box.old p hp; omega
 ·rw [cell_of_row _ W.heap.size _ _ _ _ (show _ = some _ from heap_alloc_new W.drew _), Nat.zero_add]
  unfold bytesRow
  rw [Array.getElem?_append_left (by simpa using hi)]
  rcases (by simpa using hi : i < 14) with hi2
  rcases (by omega : i = 0 ∨ i = 1 ∨ i = 2 ∨ i = 3 ∨ i = 4 ∨ i = 5 ∨ i = 6 ∨ i = 7 ∨ i = 8 ∨ i = 9 ∨ i = 10 ∨ i = 11 ∨ i = 12 ∨ i = 13) with rfl | rfl | rfl | rfl | rfl | rfl | rfl | rfl | rfl | rfl | rfl | rfl | rfl | rfl <;> simp
theorem results_b2 {fn : Func} {p u : Tmp} {T T' : TypeId} {n B g : Nat} {cs : List Value} {W : World} (hT : Big T n) (h : fn.results = #[.cell p T, .tmp u]) (tmps : Array Value) (hb : Box B g T' cs W) (hl : cs.length = n) (hp : tmps.getD p undef = .pointer (some ⟨g, 0, none⟩)) :
  (results fn tmps).run Tryz.prog W = .ok (.tuple #[.agg cs.toArray, tmps.getD u undef]) W := by
 obtain ⟨d, hu, hd⟩ := hT.row
 rw [results_cell_tmp h, hp, asAddr, Sem.run_pure, Result.andThen_ok, run_loadVar_row W g T' T cs.toArray (0, 0) d hb.2 hu (by cases d <;> simp_all [TypeDesc.isRow]) (by rw [hT.size]; simp [hl])]
 rfl
theorem Bs.any {W : World} {D : Nat → Prop} {v : Value} {l : List Nat} (h : Bs W D v l) : Bs W (fun _ => True) v l := h.turn (Nat.le_refl _) (fun _ _ _ => trivial) (fun _ _ _ _ => rfl)
theorem Bs.ofBox {W : World} {B g : Nat} {T : TypeId} {l : List Nat} {n : Nat} (h : Box B g T (bcl l) W) (hn : l.length = n) (h8 : B8 l) (hb : n ≤ 1000000 := by omega) : Bs W (fun _ => True) (.slice (some ⟨g, 0, none⟩) n n) l := by
 subst hn
 exact ⟨some ⟨g, 0, none⟩, l.length, rfl, Nat.le_refl _, by omega, h8, fun _ => ⟨g, 0, rfl, ⟨h.lt, trivial⟩, fun i hi => by rw [Nat.zero_add, List.getD_eq_getElem?_getD, List.getElem?_eq_getElem hi]; exact h.cell i (bcl_get l i hi)⟩, trivial⟩
theorem tagged_c (l : List Nat) {a : Option Addr} {c : Nat} {w : World} (h0 : Fct.at w (fun _ => True) (.bs (.slice a l.length c) l)) (ht0 : TabD w) (hm0 : l.length ≤ 40000) :
  Calls Tryz.prog 43 #[.string tagS, .slice a l.length c] w fun e w' => e = .returned (.tuple #[.agg (bcl (tagB l)).toArray, .int .i64 0]) ∧ Below w.heap.size w w' := by
 have E0 := Zh ((Env.start (fun _ => True) w).arg (.bs (.slice a l.length c) l) h0)
 have ht := Zh ht0
 have hm := Zh hm0
 clear h0 ht0 hm0
 go_enter Tryz.func43, Tryz.ntmps43
 have E1 := Zh (E0.out.push 69 Z32 w.heap.size rfl)
 clear E0
 obtain ⟨tc, w1, hcv, E2⟩ := conv_tag E1.out (g := w.heap.size + 1) (by simp)
 clear E1
 go_wp2_with fail
 refine (sum_c tagL (Bs.any (E2.out.fc 0 rfl)) (ht.out.below E2.out.bel) (by decide)).mono ?_
 rintro e w2 ⟨rfl, hb⟩
 obtain ⟨H, hH⟩ : ∃ H, sumB tagL = H := ⟨_, rfl⟩
 have HH : Hid (sumB tagL = H ∧ H.length = 32 ∧ B8 H) := Zh ⟨hH, by rw [← hH, sumB_len], by rw [← hH]; exact sumB_8 _⟩
 rw [hH]
 clear hH hcv
 have HL : Hid ((bcl H).length = 32) := Zh (by rw [bcl_len, HH.out.2.1])
 have HO : Hid (∀ v ∈ bcl H, v.oneCell' = true) := Zh (bcl_one H)
 have E3 := Zh ((E2.out.below hb).push 69 Z32 w2.heap.size rfl)
 clear E2 hb
 have b2 := Zh (Box.there (E3.out.bx 0 rfl) (n := 32) (Nat.le_refl _))
 go_wp2_with (with_reducible refine wpl_store_b bW32 w2.heap.size 0 (bcl H) ?_ ?_ HL.out b2.out HO.out ?_; (· exact ⟨_, _, rfl, rfl, rfl⟩); (· kernel_rfl))
 have E4 := Zh (E3.out.whole 0 (bcl H) rfl HL.out)
 clear E3 b2 HO
 generalize World.setCells _ _ _ _ = wq at *
 go_wp2_with fail
 have E5 := Zh E4.out.drew
 clear E4
 refine wp_regionU (S := fun _ => True) [] (by kernel_rfl) trivial (fun hHeld => ?_)
 generalize wq.drew = wd at *
 refine uPl [0, 2, 4] ?_
 iterate 3 (refine uTl (v := ?_) ?_ ?_; rotate_left; (focus (intro wS hSw; (try dsimp only at hSw); go_simp; try with_reducible rfl)); try simp only [Act.put, pq0, pq1, pq2])
 refine Pl.z ?_
 refine uRd 1 (fun KK hKK => ?_)
 go_simp
 have hs0 : Fct.at wd (fun _ => True) (.bs (.slice (some ⟨w2.heap.size, 0, none⟩) 32 32) H) := Bs.ofBox (E5.out.bx 0 rfl) HH.out.2.1 HH.out.2.2
 refine (bclone_c hs0 (by have := HH.out.2.1; omega)).mono ?_
 rintro e w3 ⟨⟨sg, cs, va, vc, rfl, hO, hG⟩, hb⟩
 have E6 := Zh (E5.out.gotSeg hb hG.out)
 clear E5 hb hG hs0
 (try dsimp only)
 refine hKK.out _ _ trivial (fun hHeld => ?_)
 clear hKK KK
 try simp only [Act.put, pq0, pq1, pq2]
 refine uRd 3 (fun KK hKK => ?_)
 refine op_appB (A := [(w2.heap.size, 69, bcl H), (w.heap.size, 69, Z32)]) (some 22) rfl rfl (.tmp 20) (.tmp 21) rfl E6.out hO.out rfl rfl (SrcN.box (cs := bcl H) (E6.out.bx 0 rfl) HL.out (bcl_one H)) HH.out.2.2 (by have := HH.out.2.1; omega) ?_
 intro sg1 cs1 p1 v1 c1 w4 hp1 hO1 E7
 clear E6 hO
 (try dsimp only)
 refine hKK.out _ _ trivial (fun hHeld => ?_)
 clear hKK KK
 try simp only [Act.put, pq0, pq1, pq2]
 refine uRd 5 (fun KK hKK => ?_)
 refine op_appB (A := [(w2.heap.size, 69, bcl H), (w.heap.size, 69, Z32)]) (some 24) rfl rfl (.tmp 22) (.tmp 23) rfl E7.out hO1.out rfl rfl (Bs.src (E7.out.fc 1 rfl)).2.1 (Bs.src (E7.out.fc 1 rfl)).2.2 (by have := HH.out.2.1; have := hm.out; rw [hp1.out, List.length_append]; omega) ?_
 intro sg2 cs2 p2 v2 c2 w5 hp2 hO2 E8
 have E9 := Zh (E8.out.freezeB (A := [(w2.heap.size, 69, bcl H), (w.heap.size, 69, Z32)]) hO2.out)
 clear E7 E8 hO1 hO2
 (try dsimp only)
 refine hKK.out _ _ trivial (fun hHeld => ?_)
 clear hKK KK
 try simp only [Act.put, pq0, pq1, pq2]
 refine uRd 6 (fun KK hKK => ?_)
 go_simp
 refine (sum_c p2 (Bs.any (E9.out.fc 0 rfl)) (ht.out.below E9.out.bel) (by have := HH.out.2.1; have := hm.out; rw [hp2.out, List.length_append, hp1.out, List.length_append]; omega)).mono ?_
 rintro e w6 ⟨rfl, hb⟩
 have hR : sumB p2 = tagB l := by rw [hp2.out, hp1.out, ← HH.out.1]; rfl
 rw [hR]
 have EA := Zh (E9.out.below hb)
 clear E9 hb hR
 (try dsimp only)
 refine hKK.out _ _ trivial (fun hHeld => ?_)
 clear hKK KK
 try simp only [Act.put, pq0, pq1, pq2]
 refine uRd 7 (fun KK hKK => ?_)
 refine op_store_b bW32 none rfl w.heap.size 0 (bcl (tagB l)) ⟨_, _, rfl, rfl, rfl⟩ (by kernel_rfl) (by rw [bcl_len]; exact sumB_len _) (Box.there (EA.out.bx 1 rfl) (Nat.le_refl _)) (bcl_one _) ?_
 have EB := Zh (EA.out.whole 1 (bcl (tagB l)) rfl (by rw [bcl_len]; exact sumB_len _))
 clear EA
 (try dsimp only)
 refine hKK.out _ _ trivial (fun hHeld => ?_)
 clear hKK KK
 try simp only [Act.put, pq0, pq1, pq2]
 refine uTk (i := 8) (some 5) (v := ?_) ?_ ?_
 rotate_left
 ·(intro wS hSw; (try dsimp only at hSw); go_simp; try with_reducible rfl)
 try simp only [Act.put, pq0, pq1, pq2]
 refine uDone (by kernel_rfl) ?_ _
 go_wp2_with fail
 exact bodyPost_ret (results_b2 bW32 Tryz.results43 _ (EB.out.bx 1 rfl) (by rw [bcl_len]; exact sumB_len _) rfl) rfl ⟨rfl, EB.out.bel⟩
open Go.RowKit
def expB (H : List Nat) : Nat → List Nat
 | 0 => []
 | k + 1 => expB H k ++ sumB (H ++ cntN k)
theorem expB_len (H : List Nat) (k : Nat) : (expB H k).length = 32 * k := by
 induction k with
 | zero => rfl
 | succ k ih => rw [expB, List.length_append, ih, sumB_len]; omega
theorem expB_8 (H : List Nat) (k : Nat) : B8 (expB H k) := by
 induction k with
 | zero => intro u hu; cases hu
 | succ k ih => exact ih.app (sumB_8 _)
theorem Bs.cut {W : World} {D : Nat → Prop} {a : Option Addr} {n c m : Nat} {l : List Nat} (h : Bs W D (.slice a n c) l) (hm : l.length = m) : Bs W D (.slice a m m) l := by
 subst hm
 obtain ⟨ao, cap, h1, h2, h3, h4, h5, h6⟩ := h
 simp only [Value.slice.injEq] at h1
 obtain ⟨rfl, _, _⟩ := h1
 exact ⟨a, l.length, rfl, Nat.le_refl _, Nat.le_trans h2 h3, h4, h5, trivial⟩
theorem expand_c (H : List Nat) (hl0 : H.length = 32) (h80 : B8 H) {w : World} (ht0 : TabD w) :
  Calls Tryz.prog 44 #[.agg (bcl H).toArray, .int .i64 96] w fun e w' => (∃ g, e = .returned (.tuple #[.slice (some ⟨g, 0, none⟩) 96 96, .int .i64 0]) ∧ Hid (Bs w' (fun b => w.heap.size ≤ b) (.slice (some ⟨g, 0, none⟩) 96 96) (expB H 3))) ∧ Below w.heap.size w w' := by
 have E0 := Zh (Env.start (fun _ => True) w)
 have ht := Zh ht0
 have HH := Zh (And.intro hl0 h80)
 clear hl0 ht0 h80
 go_enter Tryz.func44, Tryz.ntmps44
 go_wp2_with fail
 have E1 := Zh (E0.out.push 69 (bcl H) w.heap.size rfl)
 clear E0
 go_loopg [6, 7] (3) (fun gk z6 z7 wr => ∃ (sg : List Bx) (cs : List Value) (p : List Nat) (va : Option Addr) (vc k : Nat), z6 = .slice va p.length vc ∧ z7 = .int .u64 (k : Int) ∧ Hid (Env (fun _ => True) w ([(w.heap.size, 69, bcl H)] ++ sg) [] wr) ∧ Hid (OB sg cs (.slice va p.length vc) p) ∧ Hid ((k ≤ 3 ∧ p = expB H k) ∧ gk = 3 - k))
 case atStart => exact ⟨[], [], [], none, 0, 0, rfl, rfl, E1, Zh OB.nil, Zh ⟨⟨Nat.zero_le _, rfl⟩, rfl⟩⟩
 case round =>
  clear E1
  obtain ⟨sg, cs, p, va, vc, k, rfl, rfl, EL, hO, HA⟩ := hrel
  have hp : p.length = 32 * k := by rw [HA.out.1.2, expB_len]
  by_cases hy : k = 3
  rotate_left
  ·have hk : k < 3 := by have := HA.out; omega
   have t1 : decide ((p.length : Int) < 96) = true := decide_eq_true (by omega)
   have t2 : decide (p.length < 96) = true := decide_eq_true (by omega)
   have u1 : IntKind.u64.wrap ((k : Int) + 1) = ((k + 1 : Nat) : Int) := by unfold IntKind.wrap; simp [IntKind.bits]; omega
   have HK := Zh (And.intro hk hp)
   clear hk hy hp
   go_wp2_with fail
   refine (bclone_c (Bs.ofBox (EL.out.bx 0 rfl) HH.out.1 HH.out.2) (by have := HH.out.1; omega)).mono ?_
   rintro e w1 ⟨⟨sc, cc, ca, ck, rfl, hC, hG⟩, hb⟩
   have E2 := Zh (EL.out.gotSeg hb hG.out)
   clear EL hb hG
   go_wp2_with fail
   refine (count_c (k : Int)).mono ?_
   rintro e w2 ⟨⟨rfl, hX⟩, hb⟩
   have E3 := Zh (E2.out.gotBox hb (by rw [cnt_nat] at hX; exact hX))
   clear E2 hX hb
   go_wp2_with (at_builtin; refine wpl_appB (A := (w1.heap.size, 5, bcl (cntN k)) :: (w.heap.size, 69, bcl H) :: sg) rfl _ _ rfl E3.out hC.out rfl rfl (SrcN.bytes (E3.out.bx 0 rfl)) (cntN_8 _) (by have := HH.out.1; simp [cntN]; omega) ?_)
   intro s1 cs1 q v1 c1 w3 hq hO1 E4
   have E5 := Zh (E4.out.freezeB (A := (w1.heap.size, 5, bcl (cntN k)) :: (w.heap.size, 69, bcl H) :: sg) hO1.out)
   clear E3 E4 hO1 hC
   go_wp2_with fail
   refine (sum_c q (Bs.any (E5.out.fc 0 rfl)) (ht.out.below E5.out.bel) (by have := HH.out.1; rw [hq.out]; simp [cntN]; omega)).mono ?_
   rintro e w4 ⟨rfl, hb⟩
   have E6 := Zh (((E5.out.below hb).forget.drop).push 69 Z32 w4.heap.size rfl)
   clear E5 hb
   obtain ⟨H2, hH2⟩ : ∃ H2, sumB q = H2 := ⟨_, rfl⟩
   have HR : Hid (H2 = sumB (H ++ cntN k) ∧ H2.length = 32 ∧ B8 H2) := Zh ⟨by rw [← hH2, hq.out], by rw [← hH2, sumB_len], by rw [← hH2]; exact sumB_8 _⟩
   rw [hH2]
   have HL : Hid ((bcl H2).length = 32) := Zh (by rw [bcl_len, HR.out.2.1])
   have HO : Hid (∀ v ∈ bcl H2, v.oneCell' = true) := Zh (bcl_one _)
   have b2 := Zh (Box.there (E6.out.bx 0 rfl) (n := 32) (Nat.le_refl _))
   clear hH2
   go_upto_region 8 with (with_reducible refine wpl_store_b bW32 w4.heap.size 0 (bcl H2) ?_ ?_ HL.out b2.out HO.out ?_; (· exact ⟨_, _, rfl, rfl, rfl⟩); (· kernel_rfl))
   have E7 := Zh (E6.out.whole 0 (bcl H2) rfl HL.out)
   clear E6 b2 HO
   generalize World.setCells _ _ _ _ = wq at *
   go_wp2_with (at_builtin; refine wpl_appB (A := [(w4.heap.size, 69, bcl H2), (w.heap.size, 69, bcl H)]) (news := H2) (m := 32) rfl _ _ rfl E7.out hO.out rfl rfl (SrcN.box (cs := bcl H2) (E7.out.bx 0 rfl) HL.out (bcl_one _)) HR.out.2.2 (by have := HK.out; omega) ?_)
   intro s2 cs2 p2 v2 c2 w5 hp2 hO2 E8
   go_wp2
   go_roundg (3 - (k + 1))
   case rel => exact ⟨s2, cs2, p2, v2, c2, k + 1, rfl, by first | rfl | rw [u1], Zh E8.out.drop, hO2, Zh ⟨⟨by have := HK.out; omega, by rw [hp2.out, HA.out.1.2, HR.out.1]; rfl⟩, rfl⟩⟩
   case measure => exact by have := HK.out; have := HA.out; omega
  subst hy
  have t1 : decide ((p.length : Int) < 96) = false := decide_eq_false (by omega)
  have t2 : decide (p.length < 96) = false := decide_eq_false (by omega)
  have hB := Zh (hO.out.bs (Env.heldS (A := [(w.heap.size, 69, bcl H)]) EL.out))
  obtain ⟨g, h2, rfl⟩ : ∃ g, p.length ≤ vc ∧ va = some ⟨g, 0, none⟩ := by
   rcases hO.out.1.1 with ⟨_, _, _, h0⟩ | ⟨g, cap, h1, h0, h2, _⟩
   ·omega
   ·simp only [Value.slice.injEq, true_and] at h0
    obtain ⟨rfl, rfl⟩ := h0
    exact ⟨g, h2, rfl⟩
  have q1 : 96 ≤ vc := by omega
  have q2 : (96 : Int) ≤ (vc : Int) := by omega
  have HP := Zh (And.intro hp HA.out.1.2)
  have hbel := Zh EL.out.bel
  clear HA h2 hp EL hO
  go_wp2
  go_ret2
  exact ⟨⟨g, rfl, Zh (by have h := hB.out; rw [HP.out.2] at h; exact h.cut (by rw [expB_len]))⟩, hbel.out⟩
end Go.Proofs.YtikopkkebdobdaaGreatDoor

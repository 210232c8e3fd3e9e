/- NaturalInts: the walk of the statement. -/
import Derived.Test.YtgogfjehbaiklaaNatEnv3
import Derived.Test.YtgogfjehbaiklaaNatV
import Derived.Test.YtgogfjehbaiklaaNatReg
namespace Go.Proofs.Ytgogfjehbaiklaa
open Go.RowKit NatMath
set_option linter.unusedVariables false
set_option linter.unusedSimpArgs false

theorem ofN {x : Int} {w : World} (hx : x < 0) :
    Calls Try.prog 25 #[.int .i64 x] w fun e w' => ResN 0 2 e w' ∧ Below w.heap.size w w' :=
  (Of_neg x w hx).mono (fun e w' k => ⟨by rw [k.1]; exact errN.res _ _, k.2⟩)
theorem bit_two (v : Value) (N : Nat) (i : Int) (hl : len N ≤ 64) (h2 : i ≤ 9223372036854775807) : ∃ t : Bool,
    (∀ W, Nt W v N → Calls Try.prog 29 #[.agg #[v], .int .i64 i] W fun e w' => e = .returned (.bool t) ∧ Below W.heap.size W w') ∧
    (∀ W, Nt W v N → Calls Try.prog 31 #[.agg #[v], .int .i64 i] W fun e w' => e = .returned (.bool t) ∧ Below W.heap.size W w') := by
  by_cases h : i < 0
  · exact ⟨false, fun W hW => Bit_neg v (digs N) i W hW (Or.inl h), fun W hW => refBit_neg v i W h⟩
  · obtain ⟨n, rfl⟩ := Int.eq_ofNat_of_zero_le (Int.not_lt.1 h)
    exact ⟨bt N n, fun W hW => Bit_c v N n W hW hl h2, fun W hW => refBit_c v N n W hW (by omega) h2⟩
theorem validM {a : Value} {l : List Nat} {w : World} {t : Bool} (ht : Hid (vld l = t)) (ha : Sl w a l) :
    Calls Try.prog 22 #[.agg #[a]] w fun e w' => e = .returned (.bool t) ∧ Below w.heap.size w w' := by
  have := Valid_c a l w ha
  rwa [ht.out] at this


set_option maxRecDepth 100000 in
set_option maxHeartbeats 4000000 in
theorem NaturalInts_valid_neg (ao : Option Addr) (ca N : Nat) (x : Int) (hx : x < 0) (i : Int) (w : World) (ha : Nt w (.slice ao (len N) ca) N) (hl : len N ≤ 64) (hi : i ≤ 9223372036854775807) :
    Calls Try.prog 5 #[.agg #[.slice ao (len N) ca], .int .i64 x, .int .i64 i] w fun e w' => e = .returned (.bool true) ∧ Below w.heap.size w w' := by
  have hn1 : (len N : Int) ≤ 64 := by omega
  have K : Hid (vld (digs N) = true) := Lib.hid (by rw [vld_digs]; exact decide_eq_true hl)
  obtain ⟨t, cb, cr⟩ := bit_two (.slice ao (len N) ca) N i hl hi
  have CB := Lib.hid cb
  have CR := Lib.hid cr
  have HL := Lib.hid hl
  have htt : (t != t) = false := by cases t <;> rfl
  have E0 := Lib.hid ((EnvN.start w).numN ha)
  clear ha hl cb cr
  have g0 : decide (x < 0) = true := decide_eq_true hx
  have g0b : decide (0 ≤ x) = false := decide_eq_false (by omega)
  have HX := Lib.hid hx
  clear hx
  go_enter Try.func5, Try.ntmps5
  go_wp2_with fail
  have EB := Lib.hid ((E0.out.push (.slice ao (len N) ca) 24))
  refine (awake_c _).mono ?_
  rintro e w1 ⟨rfl, hb⟩
  have E1 := Lib.hid ((EB.out.below hb))
  clear hb EB E0
  obtain ⟨⟨_, ⟨p0, q0⟩, _⟩, _⟩ := E1.out
  go_wp2_with fail
  refine (great_one_c ao (len N) ca w1 (by omega) _ rfl).mono ?_
  rintro e w2 ⟨⟨hg, rfl⟩ | ⟨_, rfl⟩, hb⟩
  · exact absurd hg (by omega)
  have E2 := Lib.hid ((E1.out.below hb))
  clear p0 q0 hb E1
  obtain ⟨⟨_, ⟨p0, q0⟩, _⟩, _⟩ := E2.out
  go_wp2_with fail
  refine (validS K (E2.out.sl 0 rfl)).mono ?_
  rintro e w3 ⟨rfl, hb⟩
  have E3 := Lib.hid ((E2.out.below hb))
  clear p0 q0 hb E2
  obtain ⟨⟨_, ⟨p0, q0⟩, _⟩, _⟩ := E3.out
  go_wp2_with fail
  refine (ofN HX.out).mono ?_
  rintro e w4 ⟨⟨oa, ok, rfl, ho⟩, hb⟩
  have E4 := Lib.hid (((E3.out.below hb).numN (ho.out : Nt _ _ 0)))
  clear p0 q0 hb ho E3
  obtain ⟨⟨_, ⟨p0, q0⟩, _⟩, _⟩ := E4.out
  go_wp2_with fail
  have EB := Lib.hid ((E4.out.push (.slice oa (len 0) ok) 24))
  refine (Int_c _ N _ (EB.out.nt 1 rfl) HL.out).mono ?_
  rintro e w5 ⟨rfl, hb⟩
  have E5 := Lib.hid ((EB.out.below hb))
  clear p0 q0 hb EB E4
  obtain ⟨⟨_, ⟨p0, q0⟩, ⟨p1, q1⟩, _⟩, _⟩ := E5.out
  generalize hiv : iv N = v at *
  have HV := Lib.hid hiv
  clear hiv
  go_wp2_with fail
  have BB : Hid (Below w5.heap.size w5 w5.drew) := Lib.hid (below_drewN (Below.refl _ _) 1)
  obtain ⟨⟨_, ⟨z0, _⟩, ⟨z1, _⟩, _⟩, _⟩ := E5.out.below BB.out
  refine wp_region_held_drew (S := fun w' => w'.cell? ⟨w4.heap.size, 0, none⟩ = some (.slice oa (len 0) ok) ∧ w'.cell? ⟨w.heap.size, 0, none⟩ = some (.slice ao (len N) ca) ∧ Hid (Below w5.heap.size w5 w')) (by kernel_rfl) (by exact ⟨z0, z1, BB⟩) (fun hHeld => ?_)
  refine takeW (i := 0) (some 31) (v := ?_) rfl rfl (by kernel_rfl) (by kernel_rfl) (by kernel_rfl) (fun _ _ _ h => h) (by rfl) (by assumption) ?_ ?_
  rotate_left
  · (intro wS hSw; (try dsimp only at hSw); go_simp; try with_reducible rfl)
  try simp only [Act.put, List.setIfInBounds_toArray, List.set_cons_zero, List.set_cons_succ]
  refine takeW (i := 2) (some 33) (v := ?_) rfl rfl (by kernel_rfl) (by kernel_rfl) (by kernel_rfl) (fun _ _ _ h => h) (by rfl) (by assumption) ?_ ?_
  rotate_left
  · (intro wS hSw; (try dsimp only at hSw); go_simp; try with_reducible rfl)
  try simp only [Act.put, List.setIfInBounds_toArray, List.set_cons_zero, List.set_cons_succ]
  refine wpAnyH_ready (rs := [1]) (by kernel_rfl) (by simp) ?_
  refine AllReadyH.cons rfl (fun KK hKK => ?_) AllReadyH.nil
  go_simp
  refine (validM K ((E5.out.below BB.out).sl 1 rfl)).mono ?_
  rintro e w6r0 ⟨rfl, hbr⟩
  replace BB := Lib.hid (below_step2 BB.out hbr)
  clear z0 z1
  obtain ⟨⟨_, ⟨z0, _⟩, ⟨z1, _⟩, _⟩, _⟩ := E5.out.below BB.out
  (try dsimp only)
  clear hHeld hbr
  refine hKK.out _ _ ?_ (fun hHeld => ?_)
  · exact ⟨z0, z1, BB⟩
  clear hKK KK
  try simp only [Act.put, List.setIfInBounds_toArray, List.set_cons_zero, List.set_cons_succ]
  refine takeW (i := 3) (some 34) (v := ?_) rfl rfl (by kernel_rfl) (by kernel_rfl) (by kernel_rfl) (fun _ _ _ h => h) (by rfl) (by assumption) ?_ ?_
  rotate_left
  · (intro wS hSw; (try dsimp only at hSw); go_simp; try with_reducible rfl)
  try simp only [Act.put, List.setIfInBounds_toArray, List.set_cons_zero, List.set_cons_succ]
  refine takeW (i := 4) (some 35) (v := ?_) rfl rfl (by kernel_rfl) (by kernel_rfl) (by kernel_rfl) (fun _ _ _ h => h) (by rfl) (by assumption) ?_ ?_
  rotate_left
  · (intro wS hSw; (try dsimp only at hSw); go_simp; try with_reducible rfl)
  try simp only [Act.put, List.setIfInBounds_toArray, List.set_cons_zero, List.set_cons_succ]
  refine takeW (i := 5) (some 36) (v := ?_) rfl rfl (by kernel_rfl) (by kernel_rfl) (by kernel_rfl) (fun _ _ _ h => h) (by rfl) (by assumption) ?_ ?_
  rotate_left
  · (intro wS hSw; (try dsimp only at hSw); go_simp; try with_reducible rfl)
  try simp only [Act.put, List.setIfInBounds_toArray, List.set_cons_zero, List.set_cons_succ]
  refine takeW (i := 6) (some 37) (v := ?_) rfl rfl (by kernel_rfl) (by kernel_rfl) (by kernel_rfl) (fun _ _ _ h => h) (by rfl) (by assumption) ?_ ?_
  rotate_left
  · (intro wS hSw; (try dsimp only at hSw); go_simp; try with_reducible rfl)
  try simp only [Act.put, List.setIfInBounds_toArray, List.set_cons_zero, List.set_cons_succ]
  refine takeW (i := 7) (some 38) (v := ?_) rfl rfl (by kernel_rfl) (by kernel_rfl) (by kernel_rfl) (fun _ _ _ h => h) (by rfl) (by assumption) ?_ ?_
  rotate_left
  · (intro wS hSw; (try dsimp only at hSw); go_simp; try with_reducible rfl)
  try simp only [Act.put, List.setIfInBounds_toArray, List.set_cons_zero, List.set_cons_succ]
  refine takeW (i := 8) (some 39) (v := ?_) rfl rfl (by kernel_rfl) (by kernel_rfl) (by kernel_rfl) (fun _ _ _ h => h) (by rfl) (by assumption) ?_ ?_
  rotate_left
  · (intro wS hSw; (try dsimp only at hSw); go_simp; try with_reducible rfl)
  try simp only [Act.put, List.setIfInBounds_toArray, List.set_cons_zero, List.set_cons_succ]
  refine takeW (i := 9) (some 40) (v := ?_) rfl rfl (by kernel_rfl) (by kernel_rfl) (by kernel_rfl) (fun _ _ _ h => h) (by rfl) (by assumption) ?_ ?_
  rotate_left
  · (intro wS hSw; (try dsimp only at hSw); go_simp; try with_reducible rfl)
  try simp only [Act.put, List.setIfInBounds_toArray, List.set_cons_zero, List.set_cons_succ]
  refine takeW (i := 10) (some 41) (v := ?_) rfl rfl (by kernel_rfl) (by kernel_rfl) (by kernel_rfl) (fun _ _ _ h => h) (by rfl) (by assumption) ?_ ?_
  rotate_left
  · (intro wS hSw; (try dsimp only at hSw); go_simp; try with_reducible rfl)
  try simp only [Act.put, List.setIfInBounds_toArray, List.set_cons_zero, List.set_cons_succ]
  refine wpAnyH_ready (rs := [11]) (by kernel_rfl) (by simp) ?_
  refine AllReadyH.cons rfl (fun KK hKK => ?_) AllReadyH.nil
  go_simp
  refine (isB 2 ((E5.out.below BB.out).nt 0 rfl) (Nt.zero _)).mono ?_
  rintro e w6r1 ⟨rfl, hbr⟩
  replace BB := Lib.hid (below_step2 BB.out hbr)
  clear z0 z1
  obtain ⟨⟨_, ⟨z0, _⟩, ⟨z1, _⟩, _⟩, _⟩ := E5.out.below BB.out
  (try dsimp only)
  clear hHeld hbr
  refine hKK.out _ _ ?_ (fun hHeld => ?_)
  · exact ⟨z0, z1, BB⟩
  clear hKK KK
  try simp only [Act.put, List.setIfInBounds_toArray, List.set_cons_zero, List.set_cons_succ]
  refine takeW (i := 12) (some 43) (v := ?_) rfl rfl (by kernel_rfl) (by kernel_rfl) (by kernel_rfl) (fun _ _ _ h => h) (by rfl) (by assumption) ?_ ?_
  rotate_left
  · (intro wS hSw; (try dsimp only at hSw); go_simp; try with_reducible rfl)
  try simp only [Act.put, List.setIfInBounds_toArray, List.set_cons_zero, List.set_cons_succ]
  refine takeW (i := 13) (some 44) (v := ?_) rfl rfl (by kernel_rfl) (by kernel_rfl) (by kernel_rfl) (fun _ _ _ h => h) (by rfl) (by assumption) ?_ ?_
  rotate_left
  · (intro wS hSw; (try dsimp only at hSw); go_simp; try with_reducible rfl)
  try simp only [Act.put, List.setIfInBounds_toArray, List.set_cons_zero, List.set_cons_succ]
  refine takeW (i := 14) (some 45) (v := ?_) rfl rfl (by kernel_rfl) (by kernel_rfl) (by kernel_rfl) (fun _ _ _ h => h) (by rfl) (by assumption) ?_ ?_
  rotate_left
  · (intro wS hSw; (try dsimp only at hSw); go_simp; try with_reducible rfl)
  try simp only [Act.put, List.setIfInBounds_toArray, List.set_cons_zero, List.set_cons_succ]
  refine takeW (i := 15) (some 46) (v := ?_) rfl rfl (by kernel_rfl) (by kernel_rfl) (by kernel_rfl) (fun _ _ _ h => h) (by rfl) (by assumption) ?_ ?_
  rotate_left
  · (intro wS hSw; (try dsimp only at hSw); go_simp; try with_reducible rfl)
  try simp only [Act.put, List.setIfInBounds_toArray, List.set_cons_zero, List.set_cons_succ]
  refine takeW (i := 16) (some 47) (v := ?_) rfl rfl (by kernel_rfl) (by kernel_rfl) (by kernel_rfl) (fun _ _ _ h => h) (by rfl) (by assumption) ?_ ?_
  rotate_left
  · (intro wS hSw; (try dsimp only at hSw); go_simp; try with_reducible rfl)
  try simp only [Act.put, List.setIfInBounds_toArray, List.set_cons_zero, List.set_cons_succ]
  refine takeW (i := 17) (some 48) (v := ?_) rfl rfl (by kernel_rfl) (by kernel_rfl) (by kernel_rfl) (fun _ _ _ h => h) (by rfl) (by assumption) ?_ ?_
  rotate_left
  · (intro wS hSw; (try dsimp only at hSw); go_simp; try with_reducible rfl)
  try simp only [Act.put, List.setIfInBounds_toArray, List.set_cons_zero, List.set_cons_succ]
  refine takeW (i := 18) (some 49) (v := ?_) rfl rfl (by kernel_rfl) (by kernel_rfl) (by kernel_rfl) (fun _ _ _ h => h) (by rfl) (by assumption) ?_ ?_
  rotate_left
  · (intro wS hSw; (try dsimp only at hSw); go_simp; try with_reducible rfl)
  try simp only [Act.put, List.setIfInBounds_toArray, List.set_cons_zero, List.set_cons_succ]
  refine takeU (i := 19) (some 50) rfl rfl (by kernel_rfl) (by kernel_rfl) (by kernel_rfl) (fun _ _ _ h => h) (by rfl) (by assumption) ?_
  try simp only [Act.put, List.setIfInBounds_toArray, List.set_cons_zero, List.set_cons_succ]
  refine takeU (i := 20) (some 51) rfl rfl (by kernel_rfl) (by kernel_rfl) (by kernel_rfl) (fun _ _ _ h => h) (by rfl) (by assumption) ?_
  try simp only [Act.put, List.setIfInBounds_toArray, List.set_cons_zero, List.set_cons_succ]
  refine takeU (i := 21) (some 52) rfl rfl (by kernel_rfl) (by kernel_rfl) (by kernel_rfl) (fun _ _ _ h => h) (by rfl) (by assumption) ?_
  try simp only [Act.put, List.setIfInBounds_toArray, List.set_cons_zero, List.set_cons_succ]
  refine takeU (i := 22) (some 53) rfl rfl (by kernel_rfl) (by kernel_rfl) (by kernel_rfl) (fun _ _ _ h => h) (by rfl) (by assumption) ?_
  try simp only [Act.put, List.setIfInBounds_toArray, List.set_cons_zero, List.set_cons_succ]
  refine takeU (i := 23) (some 54) rfl rfl (by kernel_rfl) (by kernel_rfl) (by kernel_rfl) (fun _ _ _ h => h) (by rfl) (by assumption) ?_
  try simp only [Act.put, List.setIfInBounds_toArray, List.set_cons_zero, List.set_cons_succ]
  refine takeU (i := 24) (some 55) rfl rfl (by kernel_rfl) (by kernel_rfl) (by kernel_rfl) (fun _ _ _ h => h) (by rfl) (by assumption) ?_
  try simp only [Act.put, List.setIfInBounds_toArray, List.set_cons_zero, List.set_cons_succ]
  refine takeW (i := 25) (some 56) (v := ?_) rfl rfl (by kernel_rfl) (by kernel_rfl) (by kernel_rfl) (fun _ _ _ h => h) (by rfl) (by assumption) ?_ ?_
  rotate_left
  · (intro wS hSw; (try dsimp only at hSw); go_simp; try with_reducible rfl)
  try simp only [Act.put, List.setIfInBounds_toArray, List.set_cons_zero, List.set_cons_succ]
  refine takeW (i := 26) (some 57) (v := ?_) rfl rfl (by kernel_rfl) (by kernel_rfl) (by kernel_rfl) (fun _ _ _ h => h) (by rfl) (by assumption) ?_ ?_
  rotate_left
  · (intro wS hSw; (try dsimp only at hSw); go_simp; try with_reducible rfl)
  try simp only [Act.put, List.setIfInBounds_toArray, List.set_cons_zero, List.set_cons_succ]
  refine wpAnyH_done (by kernel_rfl) ?_ _
  clear hHeld
  have E6 := Lib.hid ((E5.out.below BB.out))
  clear p0 q0 p1 q1 BB z0 z1 E5
  obtain ⟨⟨_, ⟨p0, q0⟩, ⟨p1, q1⟩, _⟩, _⟩ := E6.out
  go_wp2_with fail
  have BB : Hid (Below w6r1.heap.size w6r1 w6r1.drew) := Lib.hid (below_drewN (Below.refl _ _) 1)
  obtain ⟨⟨_, ⟨z0, _⟩, ⟨z1, _⟩, _⟩, _⟩ := E6.out.below BB.out
  refine wp_region_held_drew (S := fun w' => w'.cell? ⟨w4.heap.size, 0, none⟩ = some (.slice oa (len 0) ok) ∧ w'.cell? ⟨w.heap.size, 0, none⟩ = some (.slice ao (len N) ca) ∧ Hid (Below w6r1.heap.size w6r1 w')) (by kernel_rfl) (by exact ⟨z0, z1, BB⟩) (fun hHeld => ?_)
  refine takeW (i := 0) (some 77) (v := ?_) rfl rfl (by kernel_rfl) (by kernel_rfl) (by kernel_rfl) (fun _ _ _ h => h) (by rfl) (by assumption) ?_ ?_
  rotate_left
  · (intro wS hSw; (try dsimp only at hSw); go_simp; try with_reducible rfl)
  try simp only [Act.put, List.setIfInBounds_toArray, List.set_cons_zero, List.set_cons_succ]
  refine takeW (i := 2) (some 79) (v := ?_) rfl rfl (by kernel_rfl) (by kernel_rfl) (by kernel_rfl) (fun _ _ _ h => h) (by rfl) (by assumption) ?_ ?_
  rotate_left
  · (intro wS hSw; (try dsimp only at hSw); go_simp; try with_reducible rfl)
  try simp only [Act.put, List.setIfInBounds_toArray, List.set_cons_zero, List.set_cons_succ]
  refine wpAnyH_ready (rs := [1]) (by kernel_rfl) (by simp) ?_
  refine AllReadyH.cons rfl (fun KK hKK => ?_) AllReadyH.nil
  go_simp
  refine (Bits_c _ N _ ((E6.out.below BB.out).nt 1 rfl) HL.out).mono ?_
  rintro e w7r0 ⟨rfl, hbr⟩
  replace BB := Lib.hid (below_step2 BB.out hbr)
  clear z0 z1
  obtain ⟨⟨_, ⟨z0, _⟩, ⟨z1, _⟩, _⟩, _⟩ := E6.out.below BB.out
  (try dsimp only)
  clear hHeld hbr
  refine hKK.out _ _ ?_ (fun hHeld => ?_)
  · exact ⟨z0, z1, BB⟩
  clear hKK KK
  try simp only [Act.put, List.setIfInBounds_toArray, List.set_cons_zero, List.set_cons_succ]
  refine wpAnyH_ready (rs := [3]) (by kernel_rfl) (by simp) ?_
  refine AllReadyH.cons rfl (fun KK hKK => ?_) AllReadyH.nil
  go_simp
  refine (refBits_c _ N _ ((E6.out.below BB.out).nt 1 rfl) (Nat.le_trans HL.out (by omega))).mono ?_
  rintro e w7r1 ⟨rfl, hbr⟩
  replace BB := Lib.hid (below_step2 BB.out hbr)
  clear z0 z1
  obtain ⟨⟨_, ⟨z0, _⟩, ⟨z1, _⟩, _⟩, _⟩ := E6.out.below BB.out
  (try dsimp only)
  clear hHeld hbr
  refine hKK.out _ _ ?_ (fun hHeld => ?_)
  · exact ⟨z0, z1, BB⟩
  clear hKK KK
  try simp only [Act.put, List.setIfInBounds_toArray, List.set_cons_zero, List.set_cons_succ]
  refine takeW (i := 4) (some 81) (v := ?_) rfl rfl (by kernel_rfl) (by kernel_rfl) (by kernel_rfl) (fun _ _ _ h => h) (by rfl) (by assumption) ?_ ?_
  rotate_left
  · (intro wS hSw; (try dsimp only at hSw); go_simp; try with_reducible rfl)
  try simp only [Act.put, List.setIfInBounds_toArray, List.set_cons_zero, List.set_cons_succ]
  refine takeW (i := 5) (some 82) (v := ?_) rfl rfl (by kernel_rfl) (by kernel_rfl) (by kernel_rfl) (fun _ _ _ h => h) (by rfl) (by assumption) ?_ ?_
  rotate_left
  · (intro wS hSw; (try dsimp only at hSw); go_simp; try with_reducible rfl)
  try simp only [Act.put, List.setIfInBounds_toArray, List.set_cons_zero, List.set_cons_succ]
  refine takeW (i := 6) (some 83) (v := ?_) rfl rfl (by kernel_rfl) (by kernel_rfl) (by kernel_rfl) (fun _ _ _ h => h) (by rfl) (by assumption) ?_ ?_
  rotate_left
  · (intro wS hSw; (try dsimp only at hSw); go_simp; try with_reducible rfl)
  try simp only [Act.put, List.setIfInBounds_toArray, List.set_cons_zero, List.set_cons_succ]
  refine takeW (i := 7) (some 84) (v := ?_) rfl rfl (by kernel_rfl) (by kernel_rfl) (by kernel_rfl) (fun _ _ _ h => h) (by rfl) (by assumption) ?_ ?_
  rotate_left
  · (intro wS hSw; (try dsimp only at hSw); go_simp; try with_reducible rfl)
  try simp only [Act.put, List.setIfInBounds_toArray, List.set_cons_zero, List.set_cons_succ]
  refine takeW (i := 9) (some 86) (v := ?_) rfl rfl (by kernel_rfl) (by kernel_rfl) (by kernel_rfl) (fun _ _ _ h => h) (by rfl) (by assumption) ?_ ?_
  rotate_left
  · (intro wS hSw; (try dsimp only at hSw); go_simp; try with_reducible rfl)
  try simp only [Act.put, List.setIfInBounds_toArray, List.set_cons_zero, List.set_cons_succ]
  refine takeW (i := 10) (some 87) (v := ?_) rfl rfl (by kernel_rfl) (by kernel_rfl) (by kernel_rfl) (fun _ _ _ h => h) (by rfl) (by assumption) ?_ ?_
  rotate_left
  · (intro wS hSw; (try dsimp only at hSw); go_simp; try with_reducible rfl)
  try simp only [Act.put, List.setIfInBounds_toArray, List.set_cons_zero, List.set_cons_succ]
  refine wpAnyH_ready (rs := [8]) (by kernel_rfl) (by simp) ?_
  refine AllReadyH.cons rfl (fun KK hKK => ?_) AllReadyH.nil
  go_simp
  refine (CB.out _ ((E6.out.below BB.out).nt 1 rfl)).mono ?_
  rintro e w7r2 ⟨rfl, hbr⟩
  replace BB := Lib.hid (below_step2 BB.out hbr)
  clear z0 z1
  obtain ⟨⟨_, ⟨z0, _⟩, ⟨z1, _⟩, _⟩, _⟩ := E6.out.below BB.out
  (try dsimp only)
  clear hHeld hbr
  refine hKK.out _ _ ?_ (fun hHeld => ?_)
  · exact ⟨z0, z1, BB⟩
  clear hKK KK
  try simp only [Act.put, List.setIfInBounds_toArray, List.set_cons_zero, List.set_cons_succ]
  refine wpAnyH_ready (rs := [11]) (by kernel_rfl) (by simp) ?_
  refine AllReadyH.cons rfl (fun KK hKK => ?_) AllReadyH.nil
  go_simp
  refine (CR.out _ ((E6.out.below BB.out).nt 1 rfl)).mono ?_
  rintro e w7r3 ⟨rfl, hbr⟩
  replace BB := Lib.hid (below_step2 BB.out hbr)
  clear z0 z1
  obtain ⟨⟨_, ⟨z0, _⟩, ⟨z1, _⟩, _⟩, _⟩ := E6.out.below BB.out
  (try dsimp only)
  clear hHeld hbr
  refine hKK.out _ _ ?_ (fun hHeld => ?_)
  · exact ⟨z0, z1, BB⟩
  clear hKK KK
  try simp only [Act.put, List.setIfInBounds_toArray, List.set_cons_zero, List.set_cons_succ]
  refine takeW (i := 12) (some 89) (v := ?_) rfl rfl (by kernel_rfl) (by kernel_rfl) (by kernel_rfl) (fun _ _ _ h => h) (by rfl) (by assumption) ?_ ?_
  rotate_left
  · (intro wS hSw; (try dsimp only at hSw); go_simp; try with_reducible rfl)
  try simp only [Act.put, List.setIfInBounds_toArray, List.set_cons_zero, List.set_cons_succ]
  refine takeW (i := 13) (some 90) (v := ?_) rfl rfl (by kernel_rfl) (by kernel_rfl) (by kernel_rfl) (fun _ _ _ h => h) (by rfl) (by assumption) ?_ ?_
  rotate_left
  · (intro wS hSw; (try dsimp only at hSw); go_simp; try with_reducible rfl)
  try simp only [Act.put, List.setIfInBounds_toArray, List.set_cons_zero, List.set_cons_succ]
  refine wpAnyH_done (by kernel_rfl) ?_ _
  clear hHeld
  have E7 := Lib.hid ((E6.out.below BB.out))
  clear p0 q0 p1 q1 BB z0 z1 E6
  obtain ⟨⟨_, ⟨p0, q0⟩, ⟨p1, q1⟩, _⟩, _⟩ := E7.out
  go_wp2_with fail
  refine (refInt_c _ N _ (E7.out.nt 1 rfl)).mono ?_
  rintro e w8 ⟨rfl, hb⟩
  have E8 := Lib.hid ((E7.out.below hb))
  clear p0 q0 p1 q1 hb E7
  obtain ⟨⟨_, ⟨p0, q0⟩, ⟨p1, q1⟩, _⟩, _⟩ := E8.out
  have hv2 := HV.out
  by_cases hN : N < 9223372036854775808
  · have hd : decide (N < 9223372036854775808) = true := decide_eq_true hN
    have hc : ic N = 0 := if_pos hN
    have hivv : iv N = v := hv2
    clear hv2 hN
    have hfin := Lib.hid E8.out.1.1
    clear p0 q0 p1 q1
    go_wp2
    go_ret
    exact ⟨rfl, hfin.out⟩
  · have hd : decide (N < 9223372036854775808) = false := decide_eq_false hN
    have hc : ic N = 9 := if_neg hN
    have hivv : v = 0 := by rw [← hv2]; exact if_neg hN
    clear hv2 hN
    subst hivv
    have hfin := Lib.hid E8.out.1.1
    clear p0 q0 p1 q1
    go_wp2
    go_ret
    exact ⟨rfl, hfin.out⟩

set_option maxRecDepth 100000 in
set_option maxHeartbeats 4000000 in
theorem NaturalInts_valid_pos (ao : Option Addr) (ca N : Nat) (y : Nat) (hy : (y : Int) ≤ 9223372036854775807) (i : Int) (w : World) (ha : Nt w (.slice ao (len N) ca) N) (hl : len N ≤ 64) (hi : i ≤ 9223372036854775807) :
    Calls Try.prog 5 #[.agg #[.slice ao (len N) ca], .int .i64 (y : Int), .int .i64 i] w fun e w' => e = .returned (.bool true) ∧ Below w.heap.size w w' := by
  have hn1 : (len N : Int) ≤ 64 := by omega
  have K : Hid (vld (digs N) = true) := Lib.hid (by rw [vld_digs]; exact decide_eq_true hl)
  obtain ⟨t, cb, cr⟩ := bit_two (.slice ao (len N) ca) N i hl hi
  have CB := Lib.hid cb
  have CR := Lib.hid cr
  have HL := Lib.hid hl
  have htt : (t != t) = false := by cases t <;> rfl
  have E0 := Lib.hid ((EnvN.start w).numN ha)
  clear ha hl cb cr
  have g0 : decide ((y : Int) < 0) = false := decide_eq_false (by omega)
  have g0b : decide (0 ≤ (y : Int)) = true := decide_eq_true (by omega)
  go_enter Try.func5, Try.ntmps5
  go_wp2_with fail
  have EB := Lib.hid ((E0.out.push (.slice ao (len N) ca) 24))
  refine (awake_c _).mono ?_
  rintro e w1 ⟨rfl, hb⟩
  have E1 := Lib.hid ((EB.out.below hb))
  clear hb EB E0
  obtain ⟨⟨_, ⟨p0, q0⟩, _⟩, _⟩ := E1.out
  go_wp2_with fail
  refine (great_one_c ao (len N) ca w1 (by omega) _ rfl).mono ?_
  rintro e w2 ⟨⟨hg, rfl⟩ | ⟨_, rfl⟩, hb⟩
  · exact absurd hg (by omega)
  have E2 := Lib.hid ((E1.out.below hb))
  clear p0 q0 hb E1
  obtain ⟨⟨_, ⟨p0, q0⟩, _⟩, _⟩ := E2.out
  go_wp2_with fail
  refine (validS K (E2.out.sl 0 rfl)).mono ?_
  rintro e w3 ⟨rfl, hb⟩
  have E3 := Lib.hid ((E2.out.below hb))
  clear p0 q0 hb E2
  obtain ⟨⟨_, ⟨p0, q0⟩, _⟩, _⟩ := E3.out
  go_wp2_with fail
  refine (ofRes y _ hy).mono ?_
  rintro e w4 ⟨⟨oa, ok, rfl, ho⟩, hb⟩
  have E4 := Lib.hid (((E3.out.below hb).numN (ho.out : Nt _ _ y)))
  clear p0 q0 hb ho E3
  obtain ⟨⟨_, ⟨p0, q0⟩, _⟩, _⟩ := E4.out
  go_wp2_with fail
  have EB := Lib.hid ((E4.out.push (.slice oa (len y) ok) 24))
  refine (Int_c _ N _ (EB.out.nt 1 rfl) HL.out).mono ?_
  rintro e w5 ⟨rfl, hb⟩
  have E5 := Lib.hid ((EB.out.below hb))
  clear p0 q0 hb EB E4
  obtain ⟨⟨_, ⟨p0, q0⟩, ⟨p1, q1⟩, _⟩, _⟩ := E5.out
  generalize hiv : iv N = v at *
  have HV := Lib.hid hiv
  clear hiv
  go_wp2_with fail
  have BB : Hid (Below w5.heap.size w5 w5.drew) := Lib.hid (below_drewN (Below.refl _ _) 1)
  obtain ⟨⟨_, ⟨z0, _⟩, ⟨z1, _⟩, _⟩, _⟩ := E5.out.below BB.out
  refine wp_region_held_drew (S := fun w' => w'.cell? ⟨w4.heap.size, 0, none⟩ = some (.slice oa (len y) ok) ∧ w'.cell? ⟨w.heap.size, 0, none⟩ = some (.slice ao (len N) ca) ∧ Hid (Below w5.heap.size w5 w')) (by kernel_rfl) (by exact ⟨z0, z1, BB⟩) (fun hHeld => ?_)
  refine takeW (i := 0) (some 31) (v := ?_) rfl rfl (by kernel_rfl) (by kernel_rfl) (by kernel_rfl) (fun _ _ _ h => h) (by rfl) (by assumption) ?_ ?_
  rotate_left
  · (intro wS hSw; (try dsimp only at hSw); go_simp; try with_reducible rfl)
  try simp only [Act.put, List.setIfInBounds_toArray, List.set_cons_zero, List.set_cons_succ]
  refine takeW (i := 2) (some 33) (v := ?_) rfl rfl (by kernel_rfl) (by kernel_rfl) (by kernel_rfl) (fun _ _ _ h => h) (by rfl) (by assumption) ?_ ?_
  rotate_left
  · (intro wS hSw; (try dsimp only at hSw); go_simp; try with_reducible rfl)
  try simp only [Act.put, List.setIfInBounds_toArray, List.set_cons_zero, List.set_cons_succ]
  refine wpAnyH_ready (rs := [1]) (by kernel_rfl) (by simp) ?_
  refine AllReadyH.cons rfl (fun KK hKK => ?_) AllReadyH.nil
  go_simp
  refine (validM K ((E5.out.below BB.out).sl 1 rfl)).mono ?_
  rintro e w6r0 ⟨rfl, hbr⟩
  replace BB := Lib.hid (below_step2 BB.out hbr)
  clear z0 z1
  obtain ⟨⟨_, ⟨z0, _⟩, ⟨z1, _⟩, _⟩, _⟩ := E5.out.below BB.out
  (try dsimp only)
  clear hHeld hbr
  refine hKK.out _ _ ?_ (fun hHeld => ?_)
  · exact ⟨z0, z1, BB⟩
  clear hKK KK
  try simp only [Act.put, List.setIfInBounds_toArray, List.set_cons_zero, List.set_cons_succ]
  refine takeW (i := 3) (some 34) (v := ?_) rfl rfl (by kernel_rfl) (by kernel_rfl) (by kernel_rfl) (fun _ _ _ h => h) (by rfl) (by assumption) ?_ ?_
  rotate_left
  · (intro wS hSw; (try dsimp only at hSw); go_simp; try with_reducible rfl)
  try simp only [Act.put, List.setIfInBounds_toArray, List.set_cons_zero, List.set_cons_succ]
  refine takeW (i := 4) (some 35) (v := ?_) rfl rfl (by kernel_rfl) (by kernel_rfl) (by kernel_rfl) (fun _ _ _ h => h) (by rfl) (by assumption) ?_ ?_
  rotate_left
  · (intro wS hSw; (try dsimp only at hSw); go_simp; try with_reducible rfl)
  try simp only [Act.put, List.setIfInBounds_toArray, List.set_cons_zero, List.set_cons_succ]
  refine takeW (i := 5) (some 36) (v := ?_) rfl rfl (by kernel_rfl) (by kernel_rfl) (by kernel_rfl) (fun _ _ _ h => h) (by rfl) (by assumption) ?_ ?_
  rotate_left
  · (intro wS hSw; (try dsimp only at hSw); go_simp; try with_reducible rfl)
  try simp only [Act.put, List.setIfInBounds_toArray, List.set_cons_zero, List.set_cons_succ]
  refine takeW (i := 6) (some 37) (v := ?_) rfl rfl (by kernel_rfl) (by kernel_rfl) (by kernel_rfl) (fun _ _ _ h => h) (by rfl) (by assumption) ?_ ?_
  rotate_left
  · (intro wS hSw; (try dsimp only at hSw); go_simp; try with_reducible rfl)
  try simp only [Act.put, List.setIfInBounds_toArray, List.set_cons_zero, List.set_cons_succ]
  refine takeW (i := 7) (some 38) (v := ?_) rfl rfl (by kernel_rfl) (by kernel_rfl) (by kernel_rfl) (fun _ _ _ h => h) (by rfl) (by assumption) ?_ ?_
  rotate_left
  · (intro wS hSw; (try dsimp only at hSw); go_simp; try with_reducible rfl)
  try simp only [Act.put, List.setIfInBounds_toArray, List.set_cons_zero, List.set_cons_succ]
  refine takeU (i := 8) (some 39) rfl rfl (by kernel_rfl) (by kernel_rfl) (by kernel_rfl) (fun _ _ _ h => h) (by rfl) (by assumption) ?_
  try simp only [Act.put, List.setIfInBounds_toArray, List.set_cons_zero, List.set_cons_succ]
  refine takeU (i := 9) (some 40) rfl rfl (by kernel_rfl) (by kernel_rfl) (by kernel_rfl) (fun _ _ _ h => h) (by rfl) (by assumption) ?_
  try simp only [Act.put, List.setIfInBounds_toArray, List.set_cons_zero, List.set_cons_succ]
  refine takeU (i := 10) (some 41) rfl rfl (by kernel_rfl) (by kernel_rfl) (by kernel_rfl) (fun _ _ _ h => h) (by rfl) (by assumption) ?_
  try simp only [Act.put, List.setIfInBounds_toArray, List.set_cons_zero, List.set_cons_succ]
  refine takeU (i := 11) (some 42) rfl rfl (by kernel_rfl) (by kernel_rfl) (by kernel_rfl) (fun _ _ _ h => h) (by rfl) (by assumption) ?_
  try simp only [Act.put, List.setIfInBounds_toArray, List.set_cons_zero, List.set_cons_succ]
  refine takeU (i := 12) (some 43) rfl rfl (by kernel_rfl) (by kernel_rfl) (by kernel_rfl) (fun _ _ _ h => h) (by rfl) (by assumption) ?_
  try simp only [Act.put, List.setIfInBounds_toArray, List.set_cons_zero, List.set_cons_succ]
  refine takeW (i := 13) (some 44) (v := ?_) rfl rfl (by kernel_rfl) (by kernel_rfl) (by kernel_rfl) (fun _ _ _ h => h) (by rfl) (by assumption) ?_ ?_
  rotate_left
  · (intro wS hSw; (try dsimp only at hSw); go_simp; try with_reducible rfl)
  try simp only [Act.put, List.setIfInBounds_toArray, List.set_cons_zero, List.set_cons_succ]
  refine takeW (i := 14) (some 45) (v := ?_) rfl rfl (by kernel_rfl) (by kernel_rfl) (by kernel_rfl) (fun _ _ _ h => h) (by rfl) (by assumption) ?_ ?_
  rotate_left
  · (intro wS hSw; (try dsimp only at hSw); go_simp; try with_reducible rfl)
  try simp only [Act.put, List.setIfInBounds_toArray, List.set_cons_zero, List.set_cons_succ]
  refine takeW (i := 15) (some 46) (v := ?_) rfl rfl (by kernel_rfl) (by kernel_rfl) (by kernel_rfl) (fun _ _ _ h => h) (by rfl) (by assumption) ?_ ?_
  rotate_left
  · (intro wS hSw; (try dsimp only at hSw); go_simp; try with_reducible rfl)
  try simp only [Act.put, List.setIfInBounds_toArray, List.set_cons_zero, List.set_cons_succ]
  refine takeW (i := 16) (some 47) (v := ?_) rfl rfl (by kernel_rfl) (by kernel_rfl) (by kernel_rfl) (fun _ _ _ h => h) (by rfl) (by assumption) ?_ ?_
  rotate_left
  · (intro wS hSw; (try dsimp only at hSw); go_simp; try with_reducible rfl)
  try simp only [Act.put, List.setIfInBounds_toArray, List.set_cons_zero, List.set_cons_succ]
  refine takeW (i := 17) (some 48) (v := ?_) rfl rfl (by kernel_rfl) (by kernel_rfl) (by kernel_rfl) (fun _ _ _ h => h) (by rfl) (by assumption) ?_ ?_
  rotate_left
  · (intro wS hSw; (try dsimp only at hSw); go_simp; try with_reducible rfl)
  try simp only [Act.put, List.setIfInBounds_toArray, List.set_cons_zero, List.set_cons_succ]
  refine takeW (i := 18) (some 49) (v := ?_) rfl rfl (by kernel_rfl) (by kernel_rfl) (by kernel_rfl) (fun _ _ _ h => h) (by rfl) (by assumption) ?_ ?_
  rotate_left
  · (intro wS hSw; (try dsimp only at hSw); go_simp; try with_reducible rfl)
  try simp only [Act.put, List.setIfInBounds_toArray, List.set_cons_zero, List.set_cons_succ]
  refine takeW (i := 19) (some 50) (v := ?_) rfl rfl (by kernel_rfl) (by kernel_rfl) (by kernel_rfl) (fun _ _ _ h => h) (by rfl) (by assumption) ?_ ?_
  rotate_left
  · (intro wS hSw; (try dsimp only at hSw); go_simp; try with_reducible rfl)
  try simp only [Act.put, List.setIfInBounds_toArray, List.set_cons_zero, List.set_cons_succ]
  refine takeW (i := 20) (some 51) (v := ?_) rfl rfl (by kernel_rfl) (by kernel_rfl) (by kernel_rfl) (fun _ _ _ h => h) (by rfl) (by assumption) ?_ ?_
  rotate_left
  · (intro wS hSw; (try dsimp only at hSw); go_simp; try with_reducible rfl)
  try simp only [Act.put, List.setIfInBounds_toArray, List.set_cons_zero, List.set_cons_succ]
  refine takeW (i := 21) (some 52) (v := ?_) rfl rfl (by kernel_rfl) (by kernel_rfl) (by kernel_rfl) (fun _ _ _ h => h) (by rfl) (by assumption) ?_ ?_
  rotate_left
  · (intro wS hSw; (try dsimp only at hSw); go_simp; try with_reducible rfl)
  try simp only [Act.put, List.setIfInBounds_toArray, List.set_cons_zero, List.set_cons_succ]
  refine wpAnyH_ready (rs := [22]) (by kernel_rfl) (by simp) ?_
  refine AllReadyH.cons rfl (fun KK hKK => ?_) AllReadyH.nil
  go_simp
  refine (refOf_c y _ hy).mono ?_
  rintro e w6r1 ⟨⟨ra, rk, rfl, hr⟩, hbr⟩
  replace BB := Lib.hid (below_step2 BB.out hbr)
  clear z0 z1
  obtain ⟨⟨_, ⟨z0, _⟩, ⟨z1, _⟩, _⟩, _⟩ := E5.out.below BB.out
  (try dsimp only)
  clear hHeld hbr
  refine hKK.out _ _ ?_ (fun hHeld => ?_)
  · exact ⟨z0, z1, BB⟩
  clear hKK KK
  try simp only [Act.put, List.setIfInBounds_toArray, List.set_cons_zero, List.set_cons_succ]
  refine wpAnyH_ready (rs := [23]) (by kernel_rfl) (by simp) ?_
  refine AllReadyH.cons rfl (fun KK hKK => ?_) AllReadyH.nil
  go_simp
  refine (isB 0 ((E5.out.below BB.out).nt 0 rfl) hr.out.1).mono ?_
  rintro e w6r2 ⟨rfl, hbr⟩
  replace BB := Lib.hid (below_step2 BB.out hbr)
  clear z0 z1
  obtain ⟨⟨_, ⟨z0, _⟩, ⟨z1, _⟩, _⟩, _⟩ := E5.out.below BB.out
  (try dsimp only)
  clear hHeld hbr
  refine hKK.out _ _ ?_ (fun hHeld => ?_)
  · exact ⟨z0, z1, BB⟩
  clear hKK KK
  try simp only [Act.put, List.setIfInBounds_toArray, List.set_cons_zero, List.set_cons_succ]
  refine takeW (i := 24) (some 55) (v := ?_) rfl rfl (by kernel_rfl) (by kernel_rfl) (by kernel_rfl) (fun _ _ _ h => h) (by rfl) (by assumption) ?_ ?_
  rotate_left
  · (intro wS hSw; (try dsimp only at hSw); go_simp; try with_reducible rfl)
  try simp only [Act.put, List.setIfInBounds_toArray, List.set_cons_zero, List.set_cons_succ]
  refine takeW (i := 25) (some 56) (v := ?_) rfl rfl (by kernel_rfl) (by kernel_rfl) (by kernel_rfl) (fun _ _ _ h => h) (by rfl) (by assumption) ?_ ?_
  rotate_left
  · (intro wS hSw; (try dsimp only at hSw); go_simp; try with_reducible rfl)
  try simp only [Act.put, List.setIfInBounds_toArray, List.set_cons_zero, List.set_cons_succ]
  refine takeW (i := 26) (some 57) (v := ?_) rfl rfl (by kernel_rfl) (by kernel_rfl) (by kernel_rfl) (fun _ _ _ h => h) (by rfl) (by assumption) ?_ ?_
  rotate_left
  · (intro wS hSw; (try dsimp only at hSw); go_simp; try with_reducible rfl)
  try simp only [Act.put, List.setIfInBounds_toArray, List.set_cons_zero, List.set_cons_succ]
  refine wpAnyH_done (by kernel_rfl) ?_ _
  clear hHeld
  have E6 := Lib.hid ((E5.out.below BB.out))
  clear p0 q0 p1 q1 BB z0 z1 E5
  obtain ⟨⟨_, ⟨p0, q0⟩, ⟨p1, q1⟩, _⟩, _⟩ := E6.out
  go_wp2_with fail
  have BB : Hid (Below w6r2.heap.size w6r2 w6r2.drew) := Lib.hid (below_drewN (Below.refl _ _) 1)
  obtain ⟨⟨_, ⟨z0, _⟩, ⟨z1, _⟩, _⟩, _⟩ := E6.out.below BB.out
  refine wp_region_held_drew (S := fun w' => w'.cell? ⟨w4.heap.size, 0, none⟩ = some (.slice oa (len y) ok) ∧ w'.cell? ⟨w.heap.size, 0, none⟩ = some (.slice ao (len N) ca) ∧ Hid (Below w6r2.heap.size w6r2 w')) (by kernel_rfl) (by exact ⟨z0, z1, BB⟩) (fun hHeld => ?_)
  refine takeW (i := 0) (some 77) (v := ?_) rfl rfl (by kernel_rfl) (by kernel_rfl) (by kernel_rfl) (fun _ _ _ h => h) (by rfl) (by assumption) ?_ ?_
  rotate_left
  · (intro wS hSw; (try dsimp only at hSw); go_simp; try with_reducible rfl)
  try simp only [Act.put, List.setIfInBounds_toArray, List.set_cons_zero, List.set_cons_succ]
  refine takeW (i := 2) (some 79) (v := ?_) rfl rfl (by kernel_rfl) (by kernel_rfl) (by kernel_rfl) (fun _ _ _ h => h) (by rfl) (by assumption) ?_ ?_
  rotate_left
  · (intro wS hSw; (try dsimp only at hSw); go_simp; try with_reducible rfl)
  try simp only [Act.put, List.setIfInBounds_toArray, List.set_cons_zero, List.set_cons_succ]
  refine wpAnyH_ready (rs := [1]) (by kernel_rfl) (by simp) ?_
  refine AllReadyH.cons rfl (fun KK hKK => ?_) AllReadyH.nil
  go_simp
  refine (Bits_c _ N _ ((E6.out.below BB.out).nt 1 rfl) HL.out).mono ?_
  rintro e w7r0 ⟨rfl, hbr⟩
  replace BB := Lib.hid (below_step2 BB.out hbr)
  clear z0 z1
  obtain ⟨⟨_, ⟨z0, _⟩, ⟨z1, _⟩, _⟩, _⟩ := E6.out.below BB.out
  (try dsimp only)
  clear hHeld hbr
  refine hKK.out _ _ ?_ (fun hHeld => ?_)
  · exact ⟨z0, z1, BB⟩
  clear hKK KK
  try simp only [Act.put, List.setIfInBounds_toArray, List.set_cons_zero, List.set_cons_succ]
  refine wpAnyH_ready (rs := [3]) (by kernel_rfl) (by simp) ?_
  refine AllReadyH.cons rfl (fun KK hKK => ?_) AllReadyH.nil
  go_simp
  refine (refBits_c _ N _ ((E6.out.below BB.out).nt 1 rfl) (Nat.le_trans HL.out (by omega))).mono ?_
  rintro e w7r1 ⟨rfl, hbr⟩
  replace BB := Lib.hid (below_step2 BB.out hbr)
  clear z0 z1
  obtain ⟨⟨_, ⟨z0, _⟩, ⟨z1, _⟩, _⟩, _⟩ := E6.out.below BB.out
  (try dsimp only)
  clear hHeld hbr
  refine hKK.out _ _ ?_ (fun hHeld => ?_)
  · exact ⟨z0, z1, BB⟩
  clear hKK KK
  try simp only [Act.put, List.setIfInBounds_toArray, List.set_cons_zero, List.set_cons_succ]
  refine takeW (i := 4) (some 81) (v := ?_) rfl rfl (by kernel_rfl) (by kernel_rfl) (by kernel_rfl) (fun _ _ _ h => h) (by rfl) (by assumption) ?_ ?_
  rotate_left
  · (intro wS hSw; (try dsimp only at hSw); go_simp; try with_reducible rfl)
  try simp only [Act.put, List.setIfInBounds_toArray, List.set_cons_zero, List.set_cons_succ]
  refine takeW (i := 5) (some 82) (v := ?_) rfl rfl (by kernel_rfl) (by kernel_rfl) (by kernel_rfl) (fun _ _ _ h => h) (by rfl) (by assumption) ?_ ?_
  rotate_left
  · (intro wS hSw; (try dsimp only at hSw); go_simp; try with_reducible rfl)
  try simp only [Act.put, List.setIfInBounds_toArray, List.set_cons_zero, List.set_cons_succ]
  refine takeW (i := 6) (some 83) (v := ?_) rfl rfl (by kernel_rfl) (by kernel_rfl) (by kernel_rfl) (fun _ _ _ h => h) (by rfl) (by assumption) ?_ ?_
  rotate_left
  · (intro wS hSw; (try dsimp only at hSw); go_simp; try with_reducible rfl)
  try simp only [Act.put, List.setIfInBounds_toArray, List.set_cons_zero, List.set_cons_succ]
  refine takeW (i := 7) (some 84) (v := ?_) rfl rfl (by kernel_rfl) (by kernel_rfl) (by kernel_rfl) (fun _ _ _ h => h) (by rfl) (by assumption) ?_ ?_
  rotate_left
  · (intro wS hSw; (try dsimp only at hSw); go_simp; try with_reducible rfl)
  try simp only [Act.put, List.setIfInBounds_toArray, List.set_cons_zero, List.set_cons_succ]
  refine takeW (i := 9) (some 86) (v := ?_) rfl rfl (by kernel_rfl) (by kernel_rfl) (by kernel_rfl) (fun _ _ _ h => h) (by rfl) (by assumption) ?_ ?_
  rotate_left
  · (intro wS hSw; (try dsimp only at hSw); go_simp; try with_reducible rfl)
  try simp only [Act.put, List.setIfInBounds_toArray, List.set_cons_zero, List.set_cons_succ]
  refine takeW (i := 10) (some 87) (v := ?_) rfl rfl (by kernel_rfl) (by kernel_rfl) (by kernel_rfl) (fun _ _ _ h => h) (by rfl) (by assumption) ?_ ?_
  rotate_left
  · (intro wS hSw; (try dsimp only at hSw); go_simp; try with_reducible rfl)
  try simp only [Act.put, List.setIfInBounds_toArray, List.set_cons_zero, List.set_cons_succ]
  refine wpAnyH_ready (rs := [8]) (by kernel_rfl) (by simp) ?_
  refine AllReadyH.cons rfl (fun KK hKK => ?_) AllReadyH.nil
  go_simp
  refine (CB.out _ ((E6.out.below BB.out).nt 1 rfl)).mono ?_
  rintro e w7r2 ⟨rfl, hbr⟩
  replace BB := Lib.hid (below_step2 BB.out hbr)
  clear z0 z1
  obtain ⟨⟨_, ⟨z0, _⟩, ⟨z1, _⟩, _⟩, _⟩ := E6.out.below BB.out
  (try dsimp only)
  clear hHeld hbr
  refine hKK.out _ _ ?_ (fun hHeld => ?_)
  · exact ⟨z0, z1, BB⟩
  clear hKK KK
  try simp only [Act.put, List.setIfInBounds_toArray, List.set_cons_zero, List.set_cons_succ]
  refine wpAnyH_ready (rs := [11]) (by kernel_rfl) (by simp) ?_
  refine AllReadyH.cons rfl (fun KK hKK => ?_) AllReadyH.nil
  go_simp
  refine (CR.out _ ((E6.out.below BB.out).nt 1 rfl)).mono ?_
  rintro e w7r3 ⟨rfl, hbr⟩
  replace BB := Lib.hid (below_step2 BB.out hbr)
  clear z0 z1
  obtain ⟨⟨_, ⟨z0, _⟩, ⟨z1, _⟩, _⟩, _⟩ := E6.out.below BB.out
  (try dsimp only)
  clear hHeld hbr
  refine hKK.out _ _ ?_ (fun hHeld => ?_)
  · exact ⟨z0, z1, BB⟩
  clear hKK KK
  try simp only [Act.put, List.setIfInBounds_toArray, List.set_cons_zero, List.set_cons_succ]
  refine takeW (i := 12) (some 89) (v := ?_) rfl rfl (by kernel_rfl) (by kernel_rfl) (by kernel_rfl) (fun _ _ _ h => h) (by rfl) (by assumption) ?_ ?_
  rotate_left
  · (intro wS hSw; (try dsimp only at hSw); go_simp; try with_reducible rfl)
  try simp only [Act.put, List.setIfInBounds_toArray, List.set_cons_zero, List.set_cons_succ]
  refine takeW (i := 13) (some 90) (v := ?_) rfl rfl (by kernel_rfl) (by kernel_rfl) (by kernel_rfl) (fun _ _ _ h => h) (by rfl) (by assumption) ?_ ?_
  rotate_left
  · (intro wS hSw; (try dsimp only at hSw); go_simp; try with_reducible rfl)
  try simp only [Act.put, List.setIfInBounds_toArray, List.set_cons_zero, List.set_cons_succ]
  refine wpAnyH_done (by kernel_rfl) ?_ _
  clear hHeld
  have E7 := Lib.hid ((E6.out.below BB.out))
  clear p0 q0 p1 q1 BB z0 z1 E6
  obtain ⟨⟨_, ⟨p0, q0⟩, ⟨p1, q1⟩, _⟩, _⟩ := E7.out
  go_wp2_with fail
  refine (refInt_c _ N _ (E7.out.nt 1 rfl)).mono ?_
  rintro e w8 ⟨rfl, hb⟩
  have E8 := Lib.hid ((E7.out.below hb))
  clear p0 q0 p1 q1 hb E7
  obtain ⟨⟨_, ⟨p0, q0⟩, ⟨p1, q1⟩, _⟩, _⟩ := E8.out
  have hv2 := HV.out
  by_cases hN : N < 9223372036854775808
  · have hd : decide (N < 9223372036854775808) = true := decide_eq_true hN
    have hc : ic N = 0 := if_pos hN
    have hivv : iv N = v := hv2
    clear hv2 hN
    have hfin := Lib.hid E8.out.1.1
    clear p0 q0 p1 q1
    go_wp2
    go_ret
    exact ⟨rfl, hfin.out⟩
  · have hd : decide (N < 9223372036854775808) = false := decide_eq_false hN
    have hc : ic N = 9 := if_neg hN
    have hivv : v = 0 := by rw [← hv2]; exact if_neg hN
    clear hv2 hN
    subst hivv
    have hfin := Lib.hid E8.out.1.1
    clear p0 q0 p1 q1
    go_wp2
    go_ret
    exact ⟨rfl, hfin.out⟩

set_option maxRecDepth 100000 in
set_option maxHeartbeats 4000000 in
theorem NaturalInts_bad_neg (ao : Option Addr) (ca : Nat) (l : List Nat) (x : Int) (hx : x < 0) (i : Int) (w : World) (ha : Sl w (.slice ao l.length ca) l) (hl : vld l = false) :
    Calls Try.prog 5 #[.agg #[.slice ao l.length ca], .int .i64 x, .int .i64 i] w fun e w' => e = .returned (.bool true) ∧ Below w.heap.size w w' := by
  have hn1 := ha.len63
  have K := Lib.hid hl
  have E0 := Lib.hid ((EnvN.start w).num ha)
  clear ha hl
  generalize hll : l.length = n at *
  clear hll
  have g0 : decide (x < 0) = true := decide_eq_true hx
  have g0b : decide (0 ≤ x) = false := decide_eq_false (by omega)
  have HX := Lib.hid hx
  clear hx
  go_enter Try.func5, Try.ntmps5
  go_wp2_with fail
  have EB := Lib.hid ((E0.out.push (.slice ao n ca) 24))
  refine (awake_c _).mono ?_
  rintro e w1 ⟨rfl, hb⟩
  have E1 := Lib.hid ((EB.out.below hb))
  clear hb EB E0
  obtain ⟨⟨_, ⟨p0, q0⟩, _⟩, _⟩ := E1.out
  go_wp2_with fail
  refine (great_one_c ao n ca w1 (by omega) _ rfl).mono ?_
  rintro e w2 ⟨⟨hg, rfl⟩ | ⟨_, rfl⟩, hb⟩
  · have hfin := Lib.hid (E1.out.below hb).1.1
    clear hb
    go_wp2
    go_ret
    exact ⟨rfl, hfin.out⟩
  have E2 := Lib.hid ((E1.out.below hb))
  clear p0 q0 hb E1
  obtain ⟨⟨_, ⟨p0, q0⟩, _⟩, _⟩ := E2.out
  go_wp2_with fail
  refine (validS K (E2.out.sl 0 rfl)).mono ?_
  rintro e w3 ⟨rfl, hb⟩
  have E3 := Lib.hid ((E2.out.below hb))
  clear p0 q0 hb E2
  obtain ⟨⟨_, ⟨p0, q0⟩, _⟩, _⟩ := E3.out
  go_wp2_with fail
  refine (ofN HX.out).mono ?_
  rintro e w4 ⟨⟨oa, ok, rfl, ho⟩, hb⟩
  have E4 := Lib.hid (((E3.out.below hb).numN (ho.out : Nt _ _ 0)))
  clear p0 q0 hb ho E3
  obtain ⟨⟨_, ⟨p0, q0⟩, _⟩, _⟩ := E4.out
  go_wp2_with fail
  have EB := Lib.hid ((E4.out.push (.slice oa (len 0) ok) 24))
  refine (Int_bad _ l _ (EB.out.sl 1 rfl) K.out).mono ?_
  rintro e w5 ⟨rfl, hb⟩
  have E5 := Lib.hid ((EB.out.below hb))
  clear p0 q0 hb EB E4
  obtain ⟨⟨_, ⟨p0, q0⟩, ⟨p1, q1⟩, _⟩, _⟩ := E5.out
  go_wp2_with fail
  have BB : Hid (Below w5.heap.size w5 w5.drew) := Lib.hid (below_drewN (Below.refl _ _) 1)
  obtain ⟨⟨_, ⟨z0, _⟩, ⟨z1, _⟩, _⟩, _⟩ := E5.out.below BB.out
  refine wp_region_held_drew (S := fun w' => w'.cell? ⟨w4.heap.size, 0, none⟩ = some (.slice oa (len 0) ok) ∧ w'.cell? ⟨w.heap.size, 0, none⟩ = some (.slice ao n ca) ∧ Hid (Below w5.heap.size w5 w')) (by kernel_rfl) (by exact ⟨z0, z1, BB⟩) (fun hHeld => ?_)
  refine takeW (i := 0) (some 31) (v := ?_) rfl rfl (by kernel_rfl) (by kernel_rfl) (by kernel_rfl) (fun _ _ _ h => h) (by rfl) (by assumption) ?_ ?_
  rotate_left
  · (intro wS hSw; (try dsimp only at hSw); go_simp; try with_reducible rfl)
  try simp only [Act.put, List.setIfInBounds_toArray, List.set_cons_zero, List.set_cons_succ]
  refine takeW (i := 2) (some 33) (v := ?_) rfl rfl (by kernel_rfl) (by kernel_rfl) (by kernel_rfl) (fun _ _ _ h => h) (by rfl) (by assumption) ?_ ?_
  rotate_left
  · (intro wS hSw; (try dsimp only at hSw); go_simp; try with_reducible rfl)
  try simp only [Act.put, List.setIfInBounds_toArray, List.set_cons_zero, List.set_cons_succ]
  refine wpAnyH_ready (rs := [1]) (by kernel_rfl) (by simp) ?_
  refine AllReadyH.cons rfl (fun KK hKK => ?_) AllReadyH.nil
  go_simp
  refine (validM K ((E5.out.below BB.out).sl 1 rfl)).mono ?_
  rintro e w6r0 ⟨rfl, hbr⟩
  replace BB := Lib.hid (below_step2 BB.out hbr)
  clear z0 z1
  obtain ⟨⟨_, ⟨z0, _⟩, ⟨z1, _⟩, _⟩, _⟩ := E5.out.below BB.out
  (try dsimp only)
  clear hHeld hbr
  refine hKK.out _ _ ?_ (fun hHeld => ?_)
  · exact ⟨z0, z1, BB⟩
  clear hKK KK
  try simp only [Act.put, List.setIfInBounds_toArray, List.set_cons_zero, List.set_cons_succ]
  refine takeW (i := 3) (some 34) (v := ?_) rfl rfl (by kernel_rfl) (by kernel_rfl) (by kernel_rfl) (fun _ _ _ h => h) (by rfl) (by assumption) ?_ ?_
  rotate_left
  · (intro wS hSw; (try dsimp only at hSw); go_simp; try with_reducible rfl)
  try simp only [Act.put, List.setIfInBounds_toArray, List.set_cons_zero, List.set_cons_succ]
  refine takeW (i := 4) (some 35) (v := ?_) rfl rfl (by kernel_rfl) (by kernel_rfl) (by kernel_rfl) (fun _ _ _ h => h) (by rfl) (by assumption) ?_ ?_
  rotate_left
  · (intro wS hSw; (try dsimp only at hSw); go_simp; try with_reducible rfl)
  try simp only [Act.put, List.setIfInBounds_toArray, List.set_cons_zero, List.set_cons_succ]
  refine takeW (i := 5) (some 36) (v := ?_) rfl rfl (by kernel_rfl) (by kernel_rfl) (by kernel_rfl) (fun _ _ _ h => h) (by rfl) (by assumption) ?_ ?_
  rotate_left
  · (intro wS hSw; (try dsimp only at hSw); go_simp; try with_reducible rfl)
  try simp only [Act.put, List.setIfInBounds_toArray, List.set_cons_zero, List.set_cons_succ]
  refine takeW (i := 6) (some 37) (v := ?_) rfl rfl (by kernel_rfl) (by kernel_rfl) (by kernel_rfl) (fun _ _ _ h => h) (by rfl) (by assumption) ?_ ?_
  rotate_left
  · (intro wS hSw; (try dsimp only at hSw); go_simp; try with_reducible rfl)
  try simp only [Act.put, List.setIfInBounds_toArray, List.set_cons_zero, List.set_cons_succ]
  refine takeW (i := 7) (some 38) (v := ?_) rfl rfl (by kernel_rfl) (by kernel_rfl) (by kernel_rfl) (fun _ _ _ h => h) (by rfl) (by assumption) ?_ ?_
  rotate_left
  · (intro wS hSw; (try dsimp only at hSw); go_simp; try with_reducible rfl)
  try simp only [Act.put, List.setIfInBounds_toArray, List.set_cons_zero, List.set_cons_succ]
  refine takeW (i := 8) (some 39) (v := ?_) rfl rfl (by kernel_rfl) (by kernel_rfl) (by kernel_rfl) (fun _ _ _ h => h) (by rfl) (by assumption) ?_ ?_
  rotate_left
  · (intro wS hSw; (try dsimp only at hSw); go_simp; try with_reducible rfl)
  try simp only [Act.put, List.setIfInBounds_toArray, List.set_cons_zero, List.set_cons_succ]
  refine takeW (i := 9) (some 40) (v := ?_) rfl rfl (by kernel_rfl) (by kernel_rfl) (by kernel_rfl) (fun _ _ _ h => h) (by rfl) (by assumption) ?_ ?_
  rotate_left
  · (intro wS hSw; (try dsimp only at hSw); go_simp; try with_reducible rfl)
  try simp only [Act.put, List.setIfInBounds_toArray, List.set_cons_zero, List.set_cons_succ]
  refine takeW (i := 10) (some 41) (v := ?_) rfl rfl (by kernel_rfl) (by kernel_rfl) (by kernel_rfl) (fun _ _ _ h => h) (by rfl) (by assumption) ?_ ?_
  rotate_left
  · (intro wS hSw; (try dsimp only at hSw); go_simp; try with_reducible rfl)
  try simp only [Act.put, List.setIfInBounds_toArray, List.set_cons_zero, List.set_cons_succ]
  refine wpAnyH_ready (rs := [11]) (by kernel_rfl) (by simp) ?_
  refine AllReadyH.cons rfl (fun KK hKK => ?_) AllReadyH.nil
  go_simp
  refine (isB 2 ((E5.out.below BB.out).nt 0 rfl) (Nt.zero _)).mono ?_
  rintro e w6r1 ⟨rfl, hbr⟩
  replace BB := Lib.hid (below_step2 BB.out hbr)
  clear z0 z1
  obtain ⟨⟨_, ⟨z0, _⟩, ⟨z1, _⟩, _⟩, _⟩ := E5.out.below BB.out
  (try dsimp only)
  clear hHeld hbr
  refine hKK.out _ _ ?_ (fun hHeld => ?_)
  · exact ⟨z0, z1, BB⟩
  clear hKK KK
  try simp only [Act.put, List.setIfInBounds_toArray, List.set_cons_zero, List.set_cons_succ]
  refine takeW (i := 12) (some 43) (v := ?_) rfl rfl (by kernel_rfl) (by kernel_rfl) (by kernel_rfl) (fun _ _ _ h => h) (by rfl) (by assumption) ?_ ?_
  rotate_left
  · (intro wS hSw; (try dsimp only at hSw); go_simp; try with_reducible rfl)
  try simp only [Act.put, List.setIfInBounds_toArray, List.set_cons_zero, List.set_cons_succ]
  refine takeW (i := 13) (some 44) (v := ?_) rfl rfl (by kernel_rfl) (by kernel_rfl) (by kernel_rfl) (fun _ _ _ h => h) (by rfl) (by assumption) ?_ ?_
  rotate_left
  · (intro wS hSw; (try dsimp only at hSw); go_simp; try with_reducible rfl)
  try simp only [Act.put, List.setIfInBounds_toArray, List.set_cons_zero, List.set_cons_succ]
  refine takeW (i := 14) (some 45) (v := ?_) rfl rfl (by kernel_rfl) (by kernel_rfl) (by kernel_rfl) (fun _ _ _ h => h) (by rfl) (by assumption) ?_ ?_
  rotate_left
  · (intro wS hSw; (try dsimp only at hSw); go_simp; try with_reducible rfl)
  try simp only [Act.put, List.setIfInBounds_toArray, List.set_cons_zero, List.set_cons_succ]
  refine takeW (i := 15) (some 46) (v := ?_) rfl rfl (by kernel_rfl) (by kernel_rfl) (by kernel_rfl) (fun _ _ _ h => h) (by rfl) (by assumption) ?_ ?_
  rotate_left
  · (intro wS hSw; (try dsimp only at hSw); go_simp; try with_reducible rfl)
  try simp only [Act.put, List.setIfInBounds_toArray, List.set_cons_zero, List.set_cons_succ]
  refine takeW (i := 16) (some 47) (v := ?_) rfl rfl (by kernel_rfl) (by kernel_rfl) (by kernel_rfl) (fun _ _ _ h => h) (by rfl) (by assumption) ?_ ?_
  rotate_left
  · (intro wS hSw; (try dsimp only at hSw); go_simp; try with_reducible rfl)
  try simp only [Act.put, List.setIfInBounds_toArray, List.set_cons_zero, List.set_cons_succ]
  refine takeW (i := 17) (some 48) (v := ?_) rfl rfl (by kernel_rfl) (by kernel_rfl) (by kernel_rfl) (fun _ _ _ h => h) (by rfl) (by assumption) ?_ ?_
  rotate_left
  · (intro wS hSw; (try dsimp only at hSw); go_simp; try with_reducible rfl)
  try simp only [Act.put, List.setIfInBounds_toArray, List.set_cons_zero, List.set_cons_succ]
  refine takeW (i := 18) (some 49) (v := ?_) rfl rfl (by kernel_rfl) (by kernel_rfl) (by kernel_rfl) (fun _ _ _ h => h) (by rfl) (by assumption) ?_ ?_
  rotate_left
  · (intro wS hSw; (try dsimp only at hSw); go_simp; try with_reducible rfl)
  try simp only [Act.put, List.setIfInBounds_toArray, List.set_cons_zero, List.set_cons_succ]
  refine takeU (i := 19) (some 50) rfl rfl (by kernel_rfl) (by kernel_rfl) (by kernel_rfl) (fun _ _ _ h => h) (by rfl) (by assumption) ?_
  try simp only [Act.put, List.setIfInBounds_toArray, List.set_cons_zero, List.set_cons_succ]
  refine takeU (i := 20) (some 51) rfl rfl (by kernel_rfl) (by kernel_rfl) (by kernel_rfl) (fun _ _ _ h => h) (by rfl) (by assumption) ?_
  try simp only [Act.put, List.setIfInBounds_toArray, List.set_cons_zero, List.set_cons_succ]
  refine takeU (i := 21) (some 52) rfl rfl (by kernel_rfl) (by kernel_rfl) (by kernel_rfl) (fun _ _ _ h => h) (by rfl) (by assumption) ?_
  try simp only [Act.put, List.setIfInBounds_toArray, List.set_cons_zero, List.set_cons_succ]
  refine takeU (i := 22) (some 53) rfl rfl (by kernel_rfl) (by kernel_rfl) (by kernel_rfl) (fun _ _ _ h => h) (by rfl) (by assumption) ?_
  try simp only [Act.put, List.setIfInBounds_toArray, List.set_cons_zero, List.set_cons_succ]
  refine takeU (i := 23) (some 54) rfl rfl (by kernel_rfl) (by kernel_rfl) (by kernel_rfl) (fun _ _ _ h => h) (by rfl) (by assumption) ?_
  try simp only [Act.put, List.setIfInBounds_toArray, List.set_cons_zero, List.set_cons_succ]
  refine takeU (i := 24) (some 55) rfl rfl (by kernel_rfl) (by kernel_rfl) (by kernel_rfl) (fun _ _ _ h => h) (by rfl) (by assumption) ?_
  try simp only [Act.put, List.setIfInBounds_toArray, List.set_cons_zero, List.set_cons_succ]
  refine takeW (i := 25) (some 56) (v := ?_) rfl rfl (by kernel_rfl) (by kernel_rfl) (by kernel_rfl) (fun _ _ _ h => h) (by rfl) (by assumption) ?_ ?_
  rotate_left
  · (intro wS hSw; (try dsimp only at hSw); go_simp; try with_reducible rfl)
  try simp only [Act.put, List.setIfInBounds_toArray, List.set_cons_zero, List.set_cons_succ]
  refine takeW (i := 26) (some 57) (v := ?_) rfl rfl (by kernel_rfl) (by kernel_rfl) (by kernel_rfl) (fun _ _ _ h => h) (by rfl) (by assumption) ?_ ?_
  rotate_left
  · (intro wS hSw; (try dsimp only at hSw); go_simp; try with_reducible rfl)
  try simp only [Act.put, List.setIfInBounds_toArray, List.set_cons_zero, List.set_cons_succ]
  refine wpAnyH_done (by kernel_rfl) ?_ _
  clear hHeld
  have E6 := Lib.hid ((E5.out.below BB.out))
  clear p0 q0 p1 q1 BB z0 z1 E5
  obtain ⟨⟨_, ⟨p0, q0⟩, ⟨p1, q1⟩, _⟩, _⟩ := E6.out
  go_wp2_with fail
  refine (Bits_bad _ l _ (E6.out.sl 1 rfl) K.out).mono ?_
  rintro e w7 ⟨rfl, hb⟩
  have E7 := Lib.hid ((E6.out.below hb))
  clear p0 q0 p1 q1 hb E6
  obtain ⟨⟨_, ⟨p0, q0⟩, ⟨p1, q1⟩, _⟩, _⟩ := E7.out
  go_wp2_with fail
  refine (Bit_neg _ l i _ (E7.out.sl 1 rfl) (Or.inr K.out)).mono ?_
  rintro e w8 ⟨rfl, hb⟩
  have E8 := Lib.hid ((E7.out.below hb))
  clear p0 q0 p1 q1 hb E7
  obtain ⟨⟨_, ⟨p0, q0⟩, ⟨p1, q1⟩, _⟩, _⟩ := E8.out
  have hfin := Lib.hid E8.out.1.1
  clear p0 q0 p1 q1
  go_wp2
  go_ret
  exact ⟨rfl, hfin.out⟩

set_option maxRecDepth 100000 in
set_option maxHeartbeats 4000000 in
theorem NaturalInts_bad_pos (ao : Option Addr) (ca : Nat) (l : List Nat) (y : Nat) (hy : (y : Int) ≤ 9223372036854775807) (i : Int) (w : World) (ha : Sl w (.slice ao l.length ca) l) (hl : vld l = false) :
    Calls Try.prog 5 #[.agg #[.slice ao l.length ca], .int .i64 (y : Int), .int .i64 i] w fun e w' => e = .returned (.bool true) ∧ Below w.heap.size w w' := by
  have hn1 := ha.len63
  have K := Lib.hid hl
  have E0 := Lib.hid ((EnvN.start w).num ha)
  clear ha hl
  generalize hll : l.length = n at *
  clear hll
  have g0 : decide ((y : Int) < 0) = false := decide_eq_false (by omega)
  have g0b : decide (0 ≤ (y : Int)) = true := decide_eq_true (by omega)
  go_enter Try.func5, Try.ntmps5
  go_wp2_with fail
  have EB := Lib.hid ((E0.out.push (.slice ao n ca) 24))
  refine (awake_c _).mono ?_
  rintro e w1 ⟨rfl, hb⟩
  have E1 := Lib.hid ((EB.out.below hb))
  clear hb EB E0
  obtain ⟨⟨_, ⟨p0, q0⟩, _⟩, _⟩ := E1.out
  go_wp2_with fail
  refine (great_one_c ao n ca w1 (by omega) _ rfl).mono ?_
  rintro e w2 ⟨⟨hg, rfl⟩ | ⟨_, rfl⟩, hb⟩
  · have hfin := Lib.hid (E1.out.below hb).1.1
    clear hb
    go_wp2
    go_ret
    exact ⟨rfl, hfin.out⟩
  have E2 := Lib.hid ((E1.out.below hb))
  clear p0 q0 hb E1
  obtain ⟨⟨_, ⟨p0, q0⟩, _⟩, _⟩ := E2.out
  go_wp2_with fail
  refine (validS K (E2.out.sl 0 rfl)).mono ?_
  rintro e w3 ⟨rfl, hb⟩
  have E3 := Lib.hid ((E2.out.below hb))
  clear p0 q0 hb E2
  obtain ⟨⟨_, ⟨p0, q0⟩, _⟩, _⟩ := E3.out
  go_wp2_with fail
  refine (ofRes y _ hy).mono ?_
  rintro e w4 ⟨⟨oa, ok, rfl, ho⟩, hb⟩
  have E4 := Lib.hid (((E3.out.below hb).numN (ho.out : Nt _ _ y)))
  clear p0 q0 hb ho E3
  obtain ⟨⟨_, ⟨p0, q0⟩, _⟩, _⟩ := E4.out
  go_wp2_with fail
  have EB := Lib.hid ((E4.out.push (.slice oa (len y) ok) 24))
  refine (Int_bad _ l _ (EB.out.sl 1 rfl) K.out).mono ?_
  rintro e w5 ⟨rfl, hb⟩
  have E5 := Lib.hid ((EB.out.below hb))
  clear p0 q0 hb EB E4
  obtain ⟨⟨_, ⟨p0, q0⟩, ⟨p1, q1⟩, _⟩, _⟩ := E5.out
  go_wp2_with fail
  have BB : Hid (Below w5.heap.size w5 w5.drew) := Lib.hid (below_drewN (Below.refl _ _) 1)
  obtain ⟨⟨_, ⟨z0, _⟩, ⟨z1, _⟩, _⟩, _⟩ := E5.out.below BB.out
  refine wp_region_held_drew (S := fun w' => w'.cell? ⟨w4.heap.size, 0, none⟩ = some (.slice oa (len y) ok) ∧ w'.cell? ⟨w.heap.size, 0, none⟩ = some (.slice ao n ca) ∧ Hid (Below w5.heap.size w5 w')) (by kernel_rfl) (by exact ⟨z0, z1, BB⟩) (fun hHeld => ?_)
  refine takeW (i := 0) (some 31) (v := ?_) rfl rfl (by kernel_rfl) (by kernel_rfl) (by kernel_rfl) (fun _ _ _ h => h) (by rfl) (by assumption) ?_ ?_
  rotate_left
  · (intro wS hSw; (try dsimp only at hSw); go_simp; try with_reducible rfl)
  try simp only [Act.put, List.setIfInBounds_toArray, List.set_cons_zero, List.set_cons_succ]
  refine takeW (i := 2) (some 33) (v := ?_) rfl rfl (by kernel_rfl) (by kernel_rfl) (by kernel_rfl) (fun _ _ _ h => h) (by rfl) (by assumption) ?_ ?_
  rotate_left
  · (intro wS hSw; (try dsimp only at hSw); go_simp; try with_reducible rfl)
  try simp only [Act.put, List.setIfInBounds_toArray, List.set_cons_zero, List.set_cons_succ]
  refine wpAnyH_ready (rs := [1]) (by kernel_rfl) (by simp) ?_
  refine AllReadyH.cons rfl (fun KK hKK => ?_) AllReadyH.nil
  go_simp
  refine (validM K ((E5.out.below BB.out).sl 1 rfl)).mono ?_
  rintro e w6r0 ⟨rfl, hbr⟩
  replace BB := Lib.hid (below_step2 BB.out hbr)
  clear z0 z1
  obtain ⟨⟨_, ⟨z0, _⟩, ⟨z1, _⟩, _⟩, _⟩ := E5.out.below BB.out
  (try dsimp only)
  clear hHeld hbr
  refine hKK.out _ _ ?_ (fun hHeld => ?_)
  · exact ⟨z0, z1, BB⟩
  clear hKK KK
  try simp only [Act.put, List.setIfInBounds_toArray, List.set_cons_zero, List.set_cons_succ]
  refine takeW (i := 3) (some 34) (v := ?_) rfl rfl (by kernel_rfl) (by kernel_rfl) (by kernel_rfl) (fun _ _ _ h => h) (by rfl) (by assumption) ?_ ?_
  rotate_left
  · (intro wS hSw; (try dsimp only at hSw); go_simp; try with_reducible rfl)
  try simp only [Act.put, List.setIfInBounds_toArray, List.set_cons_zero, List.set_cons_succ]
  refine takeW (i := 4) (some 35) (v := ?_) rfl rfl (by kernel_rfl) (by kernel_rfl) (by kernel_rfl) (fun _ _ _ h => h) (by rfl) (by assumption) ?_ ?_
  rotate_left
  · (intro wS hSw; (try dsimp only at hSw); go_simp; try with_reducible rfl)
  try simp only [Act.put, List.setIfInBounds_toArray, List.set_cons_zero, List.set_cons_succ]
  refine takeW (i := 5) (some 36) (v := ?_) rfl rfl (by kernel_rfl) (by kernel_rfl) (by kernel_rfl) (fun _ _ _ h => h) (by rfl) (by assumption) ?_ ?_
  rotate_left
  · (intro wS hSw; (try dsimp only at hSw); go_simp; try with_reducible rfl)
  try simp only [Act.put, List.setIfInBounds_toArray, List.set_cons_zero, List.set_cons_succ]
  refine takeW (i := 6) (some 37) (v := ?_) rfl rfl (by kernel_rfl) (by kernel_rfl) (by kernel_rfl) (fun _ _ _ h => h) (by rfl) (by assumption) ?_ ?_
  rotate_left
  · (intro wS hSw; (try dsimp only at hSw); go_simp; try with_reducible rfl)
  try simp only [Act.put, List.setIfInBounds_toArray, List.set_cons_zero, List.set_cons_succ]
  refine takeW (i := 7) (some 38) (v := ?_) rfl rfl (by kernel_rfl) (by kernel_rfl) (by kernel_rfl) (fun _ _ _ h => h) (by rfl) (by assumption) ?_ ?_
  rotate_left
  · (intro wS hSw; (try dsimp only at hSw); go_simp; try with_reducible rfl)
  try simp only [Act.put, List.setIfInBounds_toArray, List.set_cons_zero, List.set_cons_succ]
  refine takeU (i := 8) (some 39) rfl rfl (by kernel_rfl) (by kernel_rfl) (by kernel_rfl) (fun _ _ _ h => h) (by rfl) (by assumption) ?_
  try simp only [Act.put, List.setIfInBounds_toArray, List.set_cons_zero, List.set_cons_succ]
  refine takeU (i := 9) (some 40) rfl rfl (by kernel_rfl) (by kernel_rfl) (by kernel_rfl) (fun _ _ _ h => h) (by rfl) (by assumption) ?_
  try simp only [Act.put, List.setIfInBounds_toArray, List.set_cons_zero, List.set_cons_succ]
  refine takeU (i := 10) (some 41) rfl rfl (by kernel_rfl) (by kernel_rfl) (by kernel_rfl) (fun _ _ _ h => h) (by rfl) (by assumption) ?_
  try simp only [Act.put, List.setIfInBounds_toArray, List.set_cons_zero, List.set_cons_succ]
  refine takeU (i := 11) (some 42) rfl rfl (by kernel_rfl) (by kernel_rfl) (by kernel_rfl) (fun _ _ _ h => h) (by rfl) (by assumption) ?_
  try simp only [Act.put, List.setIfInBounds_toArray, List.set_cons_zero, List.set_cons_succ]
  refine takeU (i := 12) (some 43) rfl rfl (by kernel_rfl) (by kernel_rfl) (by kernel_rfl) (fun _ _ _ h => h) (by rfl) (by assumption) ?_
  try simp only [Act.put, List.setIfInBounds_toArray, List.set_cons_zero, List.set_cons_succ]
  refine takeW (i := 13) (some 44) (v := ?_) rfl rfl (by kernel_rfl) (by kernel_rfl) (by kernel_rfl) (fun _ _ _ h => h) (by rfl) (by assumption) ?_ ?_
  rotate_left
  · (intro wS hSw; (try dsimp only at hSw); go_simp; try with_reducible rfl)
  try simp only [Act.put, List.setIfInBounds_toArray, List.set_cons_zero, List.set_cons_succ]
  refine takeW (i := 14) (some 45) (v := ?_) rfl rfl (by kernel_rfl) (by kernel_rfl) (by kernel_rfl) (fun _ _ _ h => h) (by rfl) (by assumption) ?_ ?_
  rotate_left
  · (intro wS hSw; (try dsimp only at hSw); go_simp; try with_reducible rfl)
  try simp only [Act.put, List.setIfInBounds_toArray, List.set_cons_zero, List.set_cons_succ]
  refine takeW (i := 15) (some 46) (v := ?_) rfl rfl (by kernel_rfl) (by kernel_rfl) (by kernel_rfl) (fun _ _ _ h => h) (by rfl) (by assumption) ?_ ?_
  rotate_left
  · (intro wS hSw; (try dsimp only at hSw); go_simp; try with_reducible rfl)
  try simp only [Act.put, List.setIfInBounds_toArray, List.set_cons_zero, List.set_cons_succ]
  refine takeW (i := 16) (some 47) (v := ?_) rfl rfl (by kernel_rfl) (by kernel_rfl) (by kernel_rfl) (fun _ _ _ h => h) (by rfl) (by assumption) ?_ ?_
  rotate_left
  · (intro wS hSw; (try dsimp only at hSw); go_simp; try with_reducible rfl)
  try simp only [Act.put, List.setIfInBounds_toArray, List.set_cons_zero, List.set_cons_succ]
  refine takeW (i := 17) (some 48) (v := ?_) rfl rfl (by kernel_rfl) (by kernel_rfl) (by kernel_rfl) (fun _ _ _ h => h) (by rfl) (by assumption) ?_ ?_
  rotate_left
  · (intro wS hSw; (try dsimp only at hSw); go_simp; try with_reducible rfl)
  try simp only [Act.put, List.setIfInBounds_toArray, List.set_cons_zero, List.set_cons_succ]
  refine takeW (i := 18) (some 49) (v := ?_) rfl rfl (by kernel_rfl) (by kernel_rfl) (by kernel_rfl) (fun _ _ _ h => h) (by rfl) (by assumption) ?_ ?_
  rotate_left
  · (intro wS hSw; (try dsimp only at hSw); go_simp; try with_reducible rfl)
  try simp only [Act.put, List.setIfInBounds_toArray, List.set_cons_zero, List.set_cons_succ]
  refine takeW (i := 19) (some 50) (v := ?_) rfl rfl (by kernel_rfl) (by kernel_rfl) (by kernel_rfl) (fun _ _ _ h => h) (by rfl) (by assumption) ?_ ?_
  rotate_left
  · (intro wS hSw; (try dsimp only at hSw); go_simp; try with_reducible rfl)
  try simp only [Act.put, List.setIfInBounds_toArray, List.set_cons_zero, List.set_cons_succ]
  refine takeW (i := 20) (some 51) (v := ?_) rfl rfl (by kernel_rfl) (by kernel_rfl) (by kernel_rfl) (fun _ _ _ h => h) (by rfl) (by assumption) ?_ ?_
  rotate_left
  · (intro wS hSw; (try dsimp only at hSw); go_simp; try with_reducible rfl)
  try simp only [Act.put, List.setIfInBounds_toArray, List.set_cons_zero, List.set_cons_succ]
  refine takeW (i := 21) (some 52) (v := ?_) rfl rfl (by kernel_rfl) (by kernel_rfl) (by kernel_rfl) (fun _ _ _ h => h) (by rfl) (by assumption) ?_ ?_
  rotate_left
  · (intro wS hSw; (try dsimp only at hSw); go_simp; try with_reducible rfl)
  try simp only [Act.put, List.setIfInBounds_toArray, List.set_cons_zero, List.set_cons_succ]
  refine wpAnyH_ready (rs := [22]) (by kernel_rfl) (by simp) ?_
  refine AllReadyH.cons rfl (fun KK hKK => ?_) AllReadyH.nil
  go_simp
  refine (refOf_c y _ hy).mono ?_
  rintro e w6r1 ⟨⟨ra, rk, rfl, hr⟩, hbr⟩
  replace BB := Lib.hid (below_step2 BB.out hbr)
  clear z0 z1
  obtain ⟨⟨_, ⟨z0, _⟩, ⟨z1, _⟩, _⟩, _⟩ := E5.out.below BB.out
  (try dsimp only)
  clear hHeld hbr
  refine hKK.out _ _ ?_ (fun hHeld => ?_)
  · exact ⟨z0, z1, BB⟩
  clear hKK KK
  try simp only [Act.put, List.setIfInBounds_toArray, List.set_cons_zero, List.set_cons_succ]
  refine wpAnyH_ready (rs := [23]) (by kernel_rfl) (by simp) ?_
  refine AllReadyH.cons rfl (fun KK hKK => ?_) AllReadyH.nil
  go_simp
  refine (isB 0 ((E5.out.below BB.out).nt 0 rfl) hr.out.1).mono ?_
  rintro e w6r2 ⟨rfl, hbr⟩
  replace BB := Lib.hid (below_step2 BB.out hbr)
  clear z0 z1
  obtain ⟨⟨_, ⟨z0, _⟩, ⟨z1, _⟩, _⟩, _⟩ := E5.out.below BB.out
  (try dsimp only)
  clear hHeld hbr
  refine hKK.out _ _ ?_ (fun hHeld => ?_)
  · exact ⟨z0, z1, BB⟩
  clear hKK KK
  try simp only [Act.put, List.setIfInBounds_toArray, List.set_cons_zero, List.set_cons_succ]
  refine takeW (i := 24) (some 55) (v := ?_) rfl rfl (by kernel_rfl) (by kernel_rfl) (by kernel_rfl) (fun _ _ _ h => h) (by rfl) (by assumption) ?_ ?_
  rotate_left
  · (intro wS hSw; (try dsimp only at hSw); go_simp; try with_reducible rfl)
  try simp only [Act.put, List.setIfInBounds_toArray, List.set_cons_zero, List.set_cons_succ]
  refine takeW (i := 25) (some 56) (v := ?_) rfl rfl (by kernel_rfl) (by kernel_rfl) (by kernel_rfl) (fun _ _ _ h => h) (by rfl) (by assumption) ?_ ?_
  rotate_left
  · (intro wS hSw; (try dsimp only at hSw); go_simp; try with_reducible rfl)
  try simp only [Act.put, List.setIfInBounds_toArray, List.set_cons_zero, List.set_cons_succ]
  refine takeW (i := 26) (some 57) (v := ?_) rfl rfl (by kernel_rfl) (by kernel_rfl) (by kernel_rfl) (fun _ _ _ h => h) (by rfl) (by assumption) ?_ ?_
  rotate_left
  · (intro wS hSw; (try dsimp only at hSw); go_simp; try with_reducible rfl)
  try simp only [Act.put, List.setIfInBounds_toArray, List.set_cons_zero, List.set_cons_succ]
  refine wpAnyH_done (by kernel_rfl) ?_ _
  clear hHeld
  have E6 := Lib.hid ((E5.out.below BB.out))
  clear p0 q0 p1 q1 BB z0 z1 E5
  obtain ⟨⟨_, ⟨p0, q0⟩, ⟨p1, q1⟩, _⟩, _⟩ := E6.out
  go_wp2_with fail
  refine (Bits_bad _ l _ (E6.out.sl 1 rfl) K.out).mono ?_
  rintro e w7 ⟨rfl, hb⟩
  have E7 := Lib.hid ((E6.out.below hb))
  clear p0 q0 p1 q1 hb E6
  obtain ⟨⟨_, ⟨p0, q0⟩, ⟨p1, q1⟩, _⟩, _⟩ := E7.out
  go_wp2_with fail
  refine (Bit_neg _ l i _ (E7.out.sl 1 rfl) (Or.inr K.out)).mono ?_
  rintro e w8 ⟨rfl, hb⟩
  have E8 := Lib.hid ((E7.out.below hb))
  clear p0 q0 p1 q1 hb E7
  obtain ⟨⟨_, ⟨p0, q0⟩, ⟨p1, q1⟩, _⟩, _⟩ := E8.out
  have hfin := Lib.hid E8.out.1.1
  clear p0 q0 p1 q1
  go_wp2
  go_ret
  exact ⟨rfl, hfin.out⟩

theorem NaturalInts_walk (a : Value) (x i : Int) (l : List Nat) (hx : (Lit.int IntKind.i64 x).wf = true) (hi : (Lit.int IntKind.i64 i).wf = true) (w : World) (ha : Sl w a l) :
    Calls Try.prog 5 #[.agg #[a], .int .i64 x, .int .i64 i] w fun e w' => e = .returned (.bool true) ∧ Below w.heap.size w w' := by
  simp only [Lit.wf, Bool.and_eq_true, decide_eq_true_eq] at hx hi
  have h1 : x ≤ 9223372036854775807 := hx.2
  have h2 : i ≤ 9223372036854775807 := hi.2
  cases hv : vld l
  · obtain ⟨ao, ca, rfl, _⟩ := ha.open
    by_cases h : x < 0
    · exact NaturalInts_bad_neg ao ca l x h i w ha hv
    · obtain ⟨n, rfl⟩ := Int.eq_ofNat_of_zero_le (Int.not_lt.1 h)
      exact NaturalInts_bad_pos ao ca l n h1 i w ha hv
  · obtain ⟨N, rfl, hl, hN⟩ := vld_nt ha hv
    obtain ⟨ao, ca, rfl, _⟩ := hN.open
    by_cases h : x < 0
    · exact NaturalInts_valid_neg ao ca N x h i w hN hl h2
    · obtain ⟨n, rfl⟩ := Int.eq_ofNat_of_zero_le (Int.not_lt.1 h)
      exact NaturalInts_valid_pos ao ca N n h1 i w hN hl h2
end Go.Proofs.Ytgogfjehbaiklaa

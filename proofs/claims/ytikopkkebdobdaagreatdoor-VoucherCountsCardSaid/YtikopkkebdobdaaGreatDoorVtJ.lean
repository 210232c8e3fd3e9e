/- Picked declarations of VsO, VsP. -/
import Derived.Test.YtikopkkebdobdaaGreatDoorVtU
import Derived.Test.YtikopkkebdobdaaGreatDoorVtK
import Derived.Test.YtikopkkebdobdaaGreatDoorVtI
namespace Go.Proofs.YtikopkkebdobdaaGreatDoor
set_option linter.unusedVariables false
set_option linter.unusedSimpArgs false
open Go.RowKit
/-- a new box, by its cells -/
def PBx (B : Nat) (T : TypeId) (cs : List Value) : Fact := fun v b e W => ∃ g, v = .pointer (some ⟨g, 0, none⟩) ∧ b ≤ g ∧ g < e ∧ Box B g T cs W
theorem PBx.st (B : Nat) (T : TypeId) (cs : List Value) : (PBx B T cs).Stable := fun _ _ _ _ _ ⟨g, h1, h2, h3, h4⟩ hb => ⟨g, h1, h2, h3, h4.below hb⟩
theorem PBx.mk {B : Nat} {w W : World} (hB : Below w.heap.size w W) (hw : B = w.heap.size) (T : TypeId) (cs : List Value) : PBx B T cs (.pointer (some ⟨W.heap.size, 0, none⟩)) W.heap.size (W.alloc (.cells cs.toArray T)).heap.size (W.alloc (.cells cs.toArray T)) :=
  ⟨W.heap.size, rfl, Nat.le_refl _, by simp, hw ▸ hB.size, heap_alloc_new _ _⟩
theorem Env.gotBox2 {D0 : Nat → Prop} {w W W' : World} {F : List Bx} {G : List Fct} (h : Env D0 w F G W) (hb : Below W.heap.size W W') {g g2 : Nat} {T T2 : TypeId} {cs cs2 : List Value} (hB : Box W.heap.size g T cs W') (hB2 : Box W.heap.size g2 T2 cs2 W') (hne : g ≠ g2) : Env D0 w ((g, T, cs) :: (g2, T2, cs2) :: F) G W' := by
  have h1 := h.gotBox hb hB2
  refine ⟨h1.bel, ⟨⟨Nat.le_trans h.bel.size hB.1, hB.2⟩, fun q hq e => ?_, h1.box⟩, ?_⟩
  · rcases List.mem_cons.1 hq with rfl | hq
    · exact hne e.symm
    · have := h.box.old q hq; have := hB.1; simp only at e; omega
  · refine h.fct.turn hb.size (fun b hl hd => ⟨fun p hp => ?_, hd.2⟩) (fun b i hl _ => hb.cell (p := ⟨b, i, none⟩) hl)
    rcases List.mem_cons.1 hp with rfl | hp
    · have := hB.1; simp only; omega
    · rcases List.mem_cons.1 hp with rfl | hp
      · have := hB2.1; simp only; omega
      · exact hd.1 p hp
theorem unitg_c (K X : Nat) {pa qa xa : Option Addr} {pk qn qk xk : Nat} {w : World} (ha : Nn.Sl w (.slice pa (Nn.NatMath.len K) pk) (Nn.NatMath.digs K)) (hx : Nn.Sl w (.slice xa (Nn.NatMath.len X) xk) (Nn.NatMath.digs X)) {t : Bool} (ht0 : decide (Nat.gcd X K = 1) = t) (hK : 2 ≤ K) (h1 : Nn.NatMath.len X ≤ 64) (h2 : Nn.NatMath.len K ≤ 64) :
    Calls Tryz.prog 27 #[.agg #[.slice pa (Nn.NatMath.len K) pk, .slice qa qn qk], .agg #[.slice xa (Nn.NatMath.len X) xk]] w fun e w' => e = .returned (.bool t) ∧ Below w.heap.size w w' := by
  by_cases h0 : Nn.NatMath.len X = 0
  · have hX := Nn.NatMath.len_eq_zero.1 h0
    have : t = false := by rw [← ht0, hX]; exact decide_eq_false (by rw [Nat.gcd_zero_left]; omega)
    subst this
    rw [h0]; exact unit_0 K ha
  · exact unit_c K X ha hx ht0 (Nat.pos_of_ne_zero h0) h1 h2
set_option maxRecDepth 100000 in
set_option maxHeartbeats 8000000 in
theorem VC_1 (lN lE : List Nat) (X0 Y0 : Nat) (l : List Nat) {na ea ba : Option Addr} {nk ek bk : Nat} {w : World} (hN : Nn.Sl w (.slice na lN.length nk) lN) (hE : Nn.Sl w (.slice ea lE.length ek) lE) (hl0 : Laid w) (hg0 : [lN, lE].any big = true) :
    Calls Tryz.prog 6 #[.agg #[.slice na lN.length nk, .slice ea lE.length ek], .int .u16 (X0 : Nat), .int .u16 (Y0 : Nat), .slice ba l.length bk] w fun e w' => e = .returned (.bool true) ∧ Below w.heap.size w w' := by
  have E0 := Lib.hid (((Env.start (fun _ => True) w).argS hN).argS hE)
  clear hN hE
  go_enter Tryz.func6, Tryz.ntmps6
  have hl := Lib.hid hl0
  have hg := Lib.hid hg0
  clear hl0 hg0
  go_wp2_with fail
  have E1 := Lib.hid ((E0.out.push 26 [.slice na lN.length nk, .slice ea lE.length ek] (w.heap.size) (by simp)))
  refine (awake24_c (hl.out.below E1.out.bel)).mono ?_
  rintro e w1 ⟨rfl, hb⟩
  have E2 := Lib.hid (E1.out.below hb)
  clear E0 E1 hb
  go_wp2_with fail
  have E3 := Lib.hid E2.out.drew
  clear E2
  refine wp_regionU (S := fun w' => w'.cell? ⟨w.heap.size, 0, none⟩ = some (.slice na lN.length nk) ∧ w'.cell? ⟨w.heap.size, 1, none⟩ = some (.slice ea lE.length ek)) [] (by kernel_rfl) (⟨((E3.out.bx 0 rfl).cell 0 rfl), ((E3.out.bx 0 rfl).cell 1 rfl)⟩) (fun hHeld => ?_)
  generalize w1.drew = w2 at *
  refine uPl [0, 1, 2, 3] ?_
  iterate 4 (refine uTl (v := ?_) ?_ ?_; rotate_left; (focus (intro wS hSw; (try dsimp only at hSw); go_simp; try with_reducible rfl)); try simp only [Act.put, pq0, pq1, pq2])
  refine Pl.z ?_
  refine uRd 4 (fun KK hKK => ?_)
  go_simp
  have E4 := Lib.hid ((E3.out.push 24 [.slice na lN.length nk, .slice ea lE.length ek] (w2.heap.size) (by simp)))
  (try dsimp only)
  clear hHeld
  refine hKK.out _ _ (⟨((E4.out.bx 1 rfl).cell 0 rfl), ((E4.out.bx 1 rfl).cell 1 rfl)⟩) (fun hHeld => ?_)
  clear hKK KK
  try simp only [Act.put, pq0, pq1, pq2]
  clear E3
  generalize w2.alloc (.cells #[.slice na lN.length nk, .slice ea lE.length ek] 24) = w3 at *
  refine uRd 5 (fun KK hKK => ?_)
  go_simp
  refine (great_c [lN, lE] (xb := w2.heap.size) (xo := 0) (xk := 2) (gNs.box (E4.out.bx 0 rfl) ⟨(gS.sl (E4.out.fc 1 rfl)), ⟨(gS.sl (E4.out.fc 0 rfl)), trivial⟩⟩) (t := true) hg.out (by simp)).mono ?_
  rintro e w4 ⟨rfl, hb⟩
  have E5 := Lib.hid (E4.out.below hb)
  clear E4 hb
  (try dsimp only)
  clear hHeld
  refine hKK.out _ _ (⟨((E5.out.bx 1 rfl).cell 0 rfl), ((E5.out.bx 1 rfl).cell 1 rfl)⟩) (fun hHeld => ?_)
  clear hKK KK
  try simp only [Act.put, pq0, pq1, pq2]
  refine uTk (i := 6) (some 27) (v := ?_) ?_ ?_
  rotate_left
  · (intro wS hSw; (try dsimp only at hSw); go_simp; try with_reducible rfl)
  try simp only [Act.put, pq0, pq1, pq2]
  refine uPs (i := 7) (some 28) ?_
  try simp only [Act.put, pq0, pq1, pq2]
  refine uPs (i := 8) (some 29) ?_
  try simp only [Act.put, pq0, pq1, pq2]
  refine uPs (i := 9) (some 30) ?_
  try simp only [Act.put, pq0, pq1, pq2]
  refine uPl [10, 11] ?_
  iterate 2 (refine uTl (v := ?_) ?_ ?_; rotate_left; (focus (intro wS hSw; (try dsimp only at hSw); go_simp; try with_reducible rfl)); try simp only [Act.put, pq0, pq1, pq2])
  refine Pl.z ?_
  refine uPs (i := 12) (some 33) ?_
  try simp only [Act.put, pq0, pq1, pq2]
  refine uPs (i := 13) (some 34) ?_
  try simp only [Act.put, pq0, pq1, pq2]
  refine uPs (i := 14) (some 35) ?_
  try simp only [Act.put, pq0, pq1, pq2]
  refine uPl [15, 16] ?_
  iterate 2 (refine uTl (v := ?_) ?_ ?_; rotate_left; (focus (intro wS hSw; (try dsimp only at hSw); go_simp; try with_reducible rfl)); try simp only [Act.put, pq0, pq1, pq2])
  refine Pl.z ?_
  refine uPs (i := 17) (some 38) ?_
  try simp only [Act.put, pq0, pq1, pq2]
  refine uPs (i := 18) (some 39) ?_
  try simp only [Act.put, pq0, pq1, pq2]
  refine uPs (i := 19) (some 40) ?_
  try simp only [Act.put, pq0, pq1, pq2]
  refine uPs (i := 20) (some 41) ?_
  try simp only [Act.put, pq0, pq1, pq2]
  refine uPs (i := 21) (some 42) ?_
  try simp only [Act.put, pq0, pq1, pq2]
  refine uTk (i := 22) (some 43) (v := ?_) ?_ ?_
  rotate_left
  · (intro wS hSw; (try dsimp only at hSw); go_simp; try with_reducible rfl)
  try simp only [Act.put, pq0, pq1, pq2]
  refine uDone (by kernel_rfl) ?_ _
  have hfin := Lib.hid E5.out.bel
  go_wp2
  go_ret
  exact ⟨rfl, hfin.out⟩
set_option maxRecDepth 100000 in
set_option maxHeartbeats 8000000 in
theorem VC_2 (lN lE : List Nat) (X0 Y0 : Nat) (l : List Nat) {na ea ba : Option Addr} {nk ek bk : Nat} {w : World} (hN : Nn.Sl w (.slice na lN.length nk) lN) (hE : Nn.Sl w (.slice ea lE.length ek) lE) (hl0 : Laid w) (hg0 : [lN, lE].any big = false) (hk0 : kV lN lE = false) :
    Calls Tryz.prog 6 #[.agg #[.slice na lN.length nk, .slice ea lE.length ek], .int .u16 (X0 : Nat), .int .u16 (Y0 : Nat), .slice ba l.length bk] w fun e w' => e = .returned (.bool true) ∧ Below w.heap.size w w' := by
  have E0 := Lib.hid (((Env.start (fun _ => True) w).argS hN).argS hE)
  clear hN hE
  go_enter Tryz.func6, Tryz.ntmps6
  have hl := Lib.hid hl0
  have hg := Lib.hid hg0
  have hk := Lib.hid hk0
  clear hl0 hg0 hk0
  go_wp2_with fail
  have E1 := Lib.hid ((E0.out.push 26 [.slice na lN.length nk, .slice ea lE.length ek] (w.heap.size) (by simp)))
  refine (awake24_c (hl.out.below E1.out.bel)).mono ?_
  rintro e w1 ⟨rfl, hb⟩
  have E2 := Lib.hid (E1.out.below hb)
  clear E0 E1 hb
  go_wp2_with fail
  have E3 := Lib.hid E2.out.drew
  clear E2
  refine wp_regionU (S := fun w' => w'.cell? ⟨w.heap.size, 0, none⟩ = some (.slice na lN.length nk) ∧ w'.cell? ⟨w.heap.size, 1, none⟩ = some (.slice ea lE.length ek)) [] (by kernel_rfl) (⟨((E3.out.bx 0 rfl).cell 0 rfl), ((E3.out.bx 0 rfl).cell 1 rfl)⟩) (fun hHeld => ?_)
  generalize w1.drew = w2 at *
  refine uPl [0, 1, 2, 3] ?_
  iterate 4 (refine uTl (v := ?_) ?_ ?_; rotate_left; (focus (intro wS hSw; (try dsimp only at hSw); go_simp; try with_reducible rfl)); try simp only [Act.put, pq0, pq1, pq2])
  refine Pl.z ?_
  refine uRd 4 (fun KK hKK => ?_)
  go_simp
  have E4 := Lib.hid ((E3.out.push 24 [.slice na lN.length nk, .slice ea lE.length ek] (w2.heap.size) (by simp)))
  (try dsimp only)
  clear hHeld
  refine hKK.out _ _ (⟨((E4.out.bx 1 rfl).cell 0 rfl), ((E4.out.bx 1 rfl).cell 1 rfl)⟩) (fun hHeld => ?_)
  clear hKK KK
  try simp only [Act.put, pq0, pq1, pq2]
  clear E3
  generalize w2.alloc (.cells #[.slice na lN.length nk, .slice ea lE.length ek] 24) = w3 at *
  refine uRd 5 (fun KK hKK => ?_)
  go_simp
  refine (great_c [lN, lE] (xb := w2.heap.size) (xo := 0) (xk := 2) (gNs.box (E4.out.bx 0 rfl) ⟨(gS.sl (E4.out.fc 1 rfl)), ⟨(gS.sl (E4.out.fc 0 rfl)), trivial⟩⟩) (t := false) hg.out (by simp)).mono ?_
  rintro e w4 ⟨rfl, hb⟩
  have E5 := Lib.hid (E4.out.below hb)
  clear E4 hb
  (try dsimp only)
  clear hHeld
  refine hKK.out _ _ (⟨((E5.out.bx 1 rfl).cell 0 rfl), ((E5.out.bx 1 rfl).cell 1 rfl)⟩) (fun hHeld => ?_)
  clear hKK KK
  try simp only [Act.put, pq0, pq1, pq2]
  refine uPl [6, 7] ?_
  iterate 2 (refine uTl (v := ?_) ?_ ?_; rotate_left; (focus (intro wS hSw; (try dsimp only at hSw); go_simp; try with_reducible rfl)); try simp only [Act.put, pq0, pq1, pq2])
  refine Pl.z ?_
  refine uRd 8 (fun KK hKK => ?_)
  go_simp
  refine (rKey_c hk.out (gS.sl (E5.out.fc 1 rfl)) (gS.sl (E5.out.fc 0 rfl))).mono ?_
  rintro e w5 ⟨rfl, hb⟩
  have E6 := Lib.hid (E5.out.below hb)
  clear E5 hb
  (try dsimp only)
  clear hHeld
  refine hKK.out _ _ (⟨((E6.out.bx 1 rfl).cell 0 rfl), ((E6.out.bx 1 rfl).cell 1 rfl)⟩) (fun hHeld => ?_)
  clear hKK KK
  try simp only [Act.put, pq0, pq1, pq2]
  refine uPl [9, 10, 11] ?_
  iterate 3 (refine uTl (v := ?_) ?_ ?_; rotate_left; (focus (intro wS hSw; (try dsimp only at hSw); go_simp; try with_reducible rfl)); try simp only [Act.put, pq0, pq1, pq2])
  refine Pl.z ?_
  refine uPs (i := 12) (some 33) ?_
  try simp only [Act.put, pq0, pq1, pq2]
  refine uPs (i := 13) (some 34) ?_
  try simp only [Act.put, pq0, pq1, pq2]
  refine uPs (i := 14) (some 35) ?_
  try simp only [Act.put, pq0, pq1, pq2]
  refine uPl [15, 16] ?_
  iterate 2 (refine uTl (v := ?_) ?_ ?_; rotate_left; (focus (intro wS hSw; (try dsimp only at hSw); go_simp; try with_reducible rfl)); try simp only [Act.put, pq0, pq1, pq2])
  refine Pl.z ?_
  refine uPs (i := 17) (some 38) ?_
  try simp only [Act.put, pq0, pq1, pq2]
  refine uPs (i := 18) (some 39) ?_
  try simp only [Act.put, pq0, pq1, pq2]
  refine uPs (i := 19) (some 40) ?_
  try simp only [Act.put, pq0, pq1, pq2]
  refine uPs (i := 20) (some 41) ?_
  try simp only [Act.put, pq0, pq1, pq2]
  refine uPs (i := 21) (some 42) ?_
  try simp only [Act.put, pq0, pq1, pq2]
  refine uTk (i := 22) (some 43) (v := ?_) ?_ ?_
  rotate_left
  · (intro wS hSw; (try dsimp only at hSw); go_simp; try with_reducible rfl)
  try simp only [Act.put, pq0, pq1, pq2]
  refine uDone (by kernel_rfl) ?_ _
  have hfin := Lib.hid E6.out.bel
  go_wp2
  go_ret
  exact ⟨rfl, hfin.out⟩
set_option maxRecDepth 100000 in
set_option maxHeartbeats 8000000 in
theorem VC_3 (N E : Nat) (X0 Y0 : Nat) (l : List Nat) {na ea ba : Option Addr} {nk ek bk : Nat} {w : World} (hN : Nn.Sl w (.slice na (Nn.NatMath.len N) nk) (Nn.NatMath.digs N)) (hE : Nn.Sl w (.slice ea (Nn.NatMath.len E) ek) (Nn.NatMath.digs E)) (hl0 : Laid w) (hg0 : [Nn.NatMath.digs N, Nn.NatMath.digs E].any big = false) (HK0 : Key N E) (hm0 : 1000 < l.length) :
    Calls Tryz.prog 6 #[.agg #[.slice na (Nn.NatMath.len N) nk, .slice ea (Nn.NatMath.len E) ek], .int .u16 (X0 : Nat), .int .u16 (Y0 : Nat), .slice ba l.length bk] w fun e w' => e = .returned (.bool true) ∧ Below w.heap.size w w' := by
  have E0 := Lib.hid (((Env.start (fun _ => True) w).argS hN).argS hE)
  clear hN hE
  go_enter Tryz.func6, Tryz.ntmps6
  have hl := Lib.hid hl0
  have hg := Lib.hid hg0
  have HK := Lib.hid HK0
  have hm := Lib.hid hm0
  clear hl0 hg0 HK0 hm0
  have q1 : decide ((1000 : Int) < (l.length : Int)) = true := decide_eq_true (by have := hm.out; omega)
  have q2 : decide (1000 < l.length) = true := decide_eq_true hm.out
  go_wp2_with fail
  have E1 := Lib.hid ((E0.out.push 26 [.slice na (Nn.NatMath.len N) nk, .slice ea (Nn.NatMath.len E) ek] (w.heap.size) (by simp)))
  refine (awake24_c (hl.out.below E1.out.bel)).mono ?_
  rintro e w1 ⟨rfl, hb⟩
  have E2 := Lib.hid (E1.out.below hb)
  clear E0 E1 hb
  go_wp2_with fail
  have E3 := Lib.hid E2.out.drew
  clear E2
  refine wp_regionU (S := fun w' => w'.cell? ⟨w.heap.size, 0, none⟩ = some (.slice na (Nn.NatMath.len N) nk) ∧ w'.cell? ⟨w.heap.size, 1, none⟩ = some (.slice ea (Nn.NatMath.len E) ek)) [] (by kernel_rfl) (⟨((E3.out.bx 0 rfl).cell 0 rfl), ((E3.out.bx 0 rfl).cell 1 rfl)⟩) (fun hHeld => ?_)
  generalize w1.drew = w2 at *
  refine uPl [0, 1, 2, 3] ?_
  iterate 4 (refine uTl (v := ?_) ?_ ?_; rotate_left; (focus (intro wS hSw; (try dsimp only at hSw); go_simp; try with_reducible rfl)); try simp only [Act.put, pq0, pq1, pq2])
  refine Pl.z ?_
  refine uRd 4 (fun KK hKK => ?_)
  go_simp
  have E4 := Lib.hid ((E3.out.push 24 [.slice na (Nn.NatMath.len N) nk, .slice ea (Nn.NatMath.len E) ek] (w2.heap.size) (by simp)))
  (try dsimp only)
  clear hHeld
  refine hKK.out _ _ (⟨((E4.out.bx 1 rfl).cell 0 rfl), ((E4.out.bx 1 rfl).cell 1 rfl)⟩) (fun hHeld => ?_)
  clear hKK KK
  try simp only [Act.put, pq0, pq1, pq2]
  clear E3
  generalize w2.alloc (.cells #[.slice na (Nn.NatMath.len N) nk, .slice ea (Nn.NatMath.len E) ek] 24) = w3 at *
  refine uRd 5 (fun KK hKK => ?_)
  go_simp
  refine (great_c [(Nn.NatMath.digs N), (Nn.NatMath.digs E)] (xb := w2.heap.size) (xo := 0) (xk := 2) (gNs.box (E4.out.bx 0 rfl) ⟨(gS.sl (E4.out.fc 1 rfl)), ⟨(gS.sl (E4.out.fc 0 rfl)), trivial⟩⟩) (t := false) hg.out (by simp)).mono ?_
  rintro e w4 ⟨rfl, hb⟩
  have E5 := Lib.hid (E4.out.below hb)
  clear E4 hb
  (try dsimp only)
  clear hHeld
  refine hKK.out _ _ (⟨((E5.out.bx 1 rfl).cell 0 rfl), ((E5.out.bx 1 rfl).cell 1 rfl)⟩) (fun hHeld => ?_)
  clear hKK KK
  try simp only [Act.put, pq0, pq1, pq2]
  refine uPl [6, 7] ?_
  iterate 2 (refine uTl (v := ?_) ?_ ?_; rotate_left; (focus (intro wS hSw; (try dsimp only at hSw); go_simp; try with_reducible rfl)); try simp only [Act.put, pq0, pq1, pq2])
  refine Pl.z ?_
  refine uRd 8 (fun KK hKK => ?_)
  go_simp
  refine (rKey_c HK.out.k (gS.sl (E5.out.fc 1 rfl)) (gS.sl (E5.out.fc 0 rfl))).mono ?_
  rintro e w5 ⟨rfl, hb⟩
  have E6 := Lib.hid (E5.out.below hb)
  clear E5 hb
  (try dsimp only)
  clear hHeld
  refine hKK.out _ _ (⟨((E6.out.bx 1 rfl).cell 0 rfl), ((E6.out.bx 1 rfl).cell 1 rfl)⟩) (fun hHeld => ?_)
  clear hKK KK
  try simp only [Act.put, pq0, pq1, pq2]
  refine uPl [9, 10, 11, 12, 13, 14, 15, 16] ?_
  iterate 8 (refine uTl (v := ?_) ?_ ?_; rotate_left; (focus (intro wS hSw; (try dsimp only at hSw); go_simp; try with_reducible rfl)); try simp only [Act.put, pq0, pq1, pq2])
  refine Pl.z ?_
  refine uPs (i := 17) (some 38) ?_
  try simp only [Act.put, pq0, pq1, pq2]
  refine uPs (i := 18) (some 39) ?_
  try simp only [Act.put, pq0, pq1, pq2]
  refine uPs (i := 19) (some 40) ?_
  try simp only [Act.put, pq0, pq1, pq2]
  refine uPs (i := 20) (some 41) ?_
  try simp only [Act.put, pq0, pq1, pq2]
  refine uPs (i := 21) (some 42) ?_
  try simp only [Act.put, pq0, pq1, pq2]
  refine uTk (i := 22) (some 43) (v := ?_) ?_ ?_
  rotate_left
  · (intro wS hSw; (try dsimp only at hSw); go_simp; try with_reducible rfl)
  try simp only [Act.put, pq0, pq1, pq2]
  refine uDone (by kernel_rfl) ?_ _
  have hfin := Lib.hid E6.out.bel
  go_wp2
  go_ret
  exact ⟨rfl, hfin.out⟩
set_option maxRecDepth 100000 in
set_option maxHeartbeats 8000000 in
theorem VC_4 (N E : Nat) (X0 Y0 : Nat) (l : List Nat) {na ea ba : Option Addr} {nk ek bk : Nat} {w : World} (hN : Nn.Sl w (.slice na (Nn.NatMath.len N) nk) (Nn.NatMath.digs N)) (hE : Nn.Sl w (.slice ea (Nn.NatMath.len E) ek) (Nn.NatMath.digs E)) (hl0 : Laid w) (hg0 : [Nn.NatMath.digs N, Nn.NatMath.digs E].any big = false) (HK0 : Key N E) (hm0 : ¬ 1000 < l.length) (hq0 : decide (N < 401) = false) :
    Calls Tryz.prog 6 #[.agg #[.slice na (Nn.NatMath.len N) nk, .slice ea (Nn.NatMath.len E) ek], .int .u16 (X0 : Nat), .int .u16 (Y0 : Nat), .slice ba l.length bk] w fun e w' => e = .returned (.bool true) ∧ Below w.heap.size w w' := by
  have E0 := Lib.hid (((Env.start (fun _ => True) w).argS hN).argS hE)
  clear hN hE
  go_enter Tryz.func6, Tryz.ntmps6
  have hl := Lib.hid hl0
  have hg := Lib.hid hg0
  have HK := Lib.hid HK0
  have hm := Lib.hid hm0
  have hq := Lib.hid hq0
  clear hl0 hg0 HK0 hm0 hq0
  have q1 : decide ((1000 : Int) < (l.length : Int)) = false := decide_eq_false (by have := hm.out; omega)
  have q2 : decide (1000 < l.length) = false := decide_eq_false (by have := hm.out; omega)
  go_wp2_with fail
  have E1 := Lib.hid ((E0.out.push 26 [.slice na (Nn.NatMath.len N) nk, .slice ea (Nn.NatMath.len E) ek] (w.heap.size) (by simp)))
  refine (awake24_c (hl.out.below E1.out.bel)).mono ?_
  rintro e w1 ⟨rfl, hb⟩
  have E2 := Lib.hid (E1.out.below hb)
  clear E0 E1 hb
  go_wp2_with fail
  have E3 := Lib.hid E2.out.drew
  clear E2
  refine wp_regionU (S := fun w' => w'.cell? ⟨w.heap.size, 0, none⟩ = some (.slice na (Nn.NatMath.len N) nk) ∧ w'.cell? ⟨w.heap.size, 1, none⟩ = some (.slice ea (Nn.NatMath.len E) ek)) [] (by kernel_rfl) (⟨((E3.out.bx 0 rfl).cell 0 rfl), ((E3.out.bx 0 rfl).cell 1 rfl)⟩) (fun hHeld => ?_)
  generalize w1.drew = w2 at *
  refine uPl [0, 1, 2, 3] ?_
  iterate 4 (refine uTl (v := ?_) ?_ ?_; rotate_left; (focus (intro wS hSw; (try dsimp only at hSw); go_simp; try with_reducible rfl)); try simp only [Act.put, pq0, pq1, pq2])
  refine Pl.z ?_
  refine uRd 4 (fun KK hKK => ?_)
  go_simp
  have E4 := Lib.hid ((E3.out.push 24 [.slice na (Nn.NatMath.len N) nk, .slice ea (Nn.NatMath.len E) ek] (w2.heap.size) (by simp)))
  (try dsimp only)
  clear hHeld
  refine hKK.out _ _ (⟨((E4.out.bx 1 rfl).cell 0 rfl), ((E4.out.bx 1 rfl).cell 1 rfl)⟩) (fun hHeld => ?_)
  clear hKK KK
  try simp only [Act.put, pq0, pq1, pq2]
  clear E3
  generalize w2.alloc (.cells #[.slice na (Nn.NatMath.len N) nk, .slice ea (Nn.NatMath.len E) ek] 24) = w3 at *
  refine uRd 5 (fun KK hKK => ?_)
  go_simp
  refine (great_c [(Nn.NatMath.digs N), (Nn.NatMath.digs E)] (xb := w2.heap.size) (xo := 0) (xk := 2) (gNs.box (E4.out.bx 0 rfl) ⟨(gS.sl (E4.out.fc 1 rfl)), ⟨(gS.sl (E4.out.fc 0 rfl)), trivial⟩⟩) (t := false) hg.out (by simp)).mono ?_
  rintro e w4 ⟨rfl, hb⟩
  have E5 := Lib.hid (E4.out.below hb)
  clear E4 hb
  (try dsimp only)
  clear hHeld
  refine hKK.out _ _ (⟨((E5.out.bx 1 rfl).cell 0 rfl), ((E5.out.bx 1 rfl).cell 1 rfl)⟩) (fun hHeld => ?_)
  clear hKK KK
  try simp only [Act.put, pq0, pq1, pq2]
  refine uPl [6, 7] ?_
  iterate 2 (refine uTl (v := ?_) ?_ ?_; rotate_left; (focus (intro wS hSw; (try dsimp only at hSw); go_simp; try with_reducible rfl)); try simp only [Act.put, pq0, pq1, pq2])
  refine Pl.z ?_
  refine uRd 8 (fun KK hKK => ?_)
  go_simp
  refine (rKey_c HK.out.k (gS.sl (E5.out.fc 1 rfl)) (gS.sl (E5.out.fc 0 rfl))).mono ?_
  rintro e w5 ⟨rfl, hb⟩
  have E6 := Lib.hid (E5.out.below hb)
  clear E5 hb
  (try dsimp only)
  clear hHeld
  refine hKK.out _ _ (⟨((E6.out.bx 1 rfl).cell 0 rfl), ((E6.out.bx 1 rfl).cell 1 rfl)⟩) (fun hHeld => ?_)
  clear hKK KK
  try simp only [Act.put, pq0, pq1, pq2]
  refine uPl [9, 10, 11, 12, 13, 14, 15, 16, 17, 18] ?_
  iterate 10 (refine uTl (v := ?_) ?_ ?_; rotate_left; (focus (intro wS hSw; (try dsimp only at hSw); go_simp; try with_reducible rfl)); try simp only [Act.put, pq0, pq1, pq2])
  refine Pl.z ?_
  refine uRd 19 (fun KK hKK => ?_)
  go_simp
  refine (of_c 401 (by omega)).mono ?_
  rintro e w6 ⟨⟨lma, lmk, rfl, lmh⟩, hb⟩
  have E7 := Lib.hid ((E6.out.below hb).noteS lmh.out rfl)
  clear E6 hb lmh
  (try dsimp only)
  clear hHeld
  refine hKK.out _ _ (⟨((E7.out.bx 1 rfl).cell 0 rfl), ((E7.out.bx 1 rfl).cell 1 rfl)⟩) (fun hHeld => ?_)
  clear hKK KK
  try simp only [Act.put, pq0, pq1, pq2]
  refine uRd 20 (fun KK hKK => ?_)
  go_simp
  refine (Nn.rLess_c hq.out (gS.sl (E7.out.fc 2 rfl)) (gS.sl (E7.out.fc 0 rfl))).mono ?_
  rintro e w7 ⟨rfl, hb⟩
  have E8 := Lib.hid (E7.out.below hb)
  clear E7 hb
  (try dsimp only)
  clear hHeld
  refine hKK.out _ _ (⟨((E8.out.bx 1 rfl).cell 0 rfl), ((E8.out.bx 1 rfl).cell 1 rfl)⟩) (fun hHeld => ?_)
  clear hKK KK
  try simp only [Act.put, pq0, pq1, pq2]
  refine uPl [21, 22] ?_
  iterate 2 (refine uTl (v := ?_) ?_ ?_; rotate_left; (focus (intro wS hSw; (try dsimp only at hSw); go_simp; try with_reducible rfl)); try simp only [Act.put, pq0, pq1, pq2])
  refine Pl.z ?_
  refine uDone (by kernel_rfl) ?_ _
  have hfin := Lib.hid E8.out.bel
  go_wp2
  go_ret
  exact ⟨rfl, hfin.out⟩
set_option maxRecDepth 100000 in
set_option maxHeartbeats 8000000 in
theorem VC_5 (N E : Nat) (X0 Y0 : Nat) (l : List Nat) {na ea ba : Option Addr} {nk ek bk : Nat} {w : World} (hN : Nn.Sl w (.slice na (Nn.NatMath.len N) nk) (Nn.NatMath.digs N)) (hE : Nn.Sl w (.slice ea (Nn.NatMath.len E) ek) (Nn.NatMath.digs E)) (hM : Fct.at w (fun _ => True) (.bs (.slice ba l.length bk) l)) (hl0 : Laid w) (hg0 : [Nn.NatMath.digs N, Nn.NatMath.digs E].any big = false) (HK0 : Key N E) (ht0 : TabD w) (hm0 : ¬ 1000 < l.length) (hq0N0 : decide (N < 401) = true) (bX0 : X0 < 65536) (bY0 : Y0 < 65536) {X Y : Nat} (hX0 : X0 % N = X) (hY0 : Y0 % N = Y)  :
    Calls Tryz.prog 6 #[.agg #[.slice na (Nn.NatMath.len N) nk, .slice ea (Nn.NatMath.len E) ek], .int .u16 (X0 : Nat), .int .u16 (Y0 : Nat), .slice ba l.length bk] w fun e w' => e = .returned (.bool true) ∧ Below w.heap.size w w' := by
  have E0 := Lib.hid ((((Env.start (fun _ => True) w).arg (.bs (.slice ba l.length bk) l) hM).argS hN).argS hE)
  clear hN hE hM
  go_enter Tryz.func6, Tryz.ntmps6
  have hl := Lib.hid hl0
  have hg := Lib.hid hg0
  have HK := Lib.hid HK0
  have ht := Lib.hid ht0
  have hm := Lib.hid hm0
  have hq0N := Lib.hid hq0N0
  have bX := Lib.hid bX0
  have bY := Lib.hid bY0
  have hX := Lib.hid hX0
  have hY := Lib.hid hY0
  clear hl0 hg0 HK0 ht0 hm0 hq0N0 bX0 bY0 hX0 hY0
  have q1 : decide ((1000 : Int) < (l.length : Int)) = false := decide_eq_false (by have := hm.out; omega)
  have q2 : decide (1000 < l.length) = false := decide_eq_false (by have := hm.out; omega)
  go_wp2_with fail
  have E1 := Lib.hid ((E0.out.push 26 [.slice na (Nn.NatMath.len N) nk, .slice ea (Nn.NatMath.len E) ek] (w.heap.size) (by simp)))
  refine (awake24_c (hl.out.below E1.out.bel)).mono ?_
  rintro e w1 ⟨rfl, hb⟩
  have E2 := Lib.hid (E1.out.below hb)
  clear E0 E1 hb
  go_wp2_with fail
  have E3 := Lib.hid E2.out.drew
  clear E2
  refine wp_regionU (S := fun w' => w'.cell? ⟨w.heap.size, 0, none⟩ = some (.slice na (Nn.NatMath.len N) nk) ∧ w'.cell? ⟨w.heap.size, 1, none⟩ = some (.slice ea (Nn.NatMath.len E) ek)) [] (by kernel_rfl) (⟨((E3.out.bx 0 rfl).cell 0 rfl), ((E3.out.bx 0 rfl).cell 1 rfl)⟩) (fun hHeld => ?_)
  generalize w1.drew = w2 at *
  refine uPl [0, 1, 2, 3] ?_
  iterate 4 (refine uTl (v := ?_) ?_ ?_; rotate_left; (focus (intro wS hSw; (try dsimp only at hSw); go_simp; try with_reducible rfl)); try simp only [Act.put, pq0, pq1, pq2])
  refine Pl.z ?_
  refine uRd 4 (fun KK hKK => ?_)
  go_simp
  have E4 := Lib.hid ((E3.out.push 24 [.slice na (Nn.NatMath.len N) nk, .slice ea (Nn.NatMath.len E) ek] (w2.heap.size) (by simp)))
  (try dsimp only)
  clear hHeld
  refine hKK.out _ _ (⟨((E4.out.bx 1 rfl).cell 0 rfl), ((E4.out.bx 1 rfl).cell 1 rfl)⟩) (fun hHeld => ?_)
  clear hKK KK
  try simp only [Act.put, pq0, pq1, pq2]
  clear E3
  generalize w2.alloc (.cells #[.slice na (Nn.NatMath.len N) nk, .slice ea (Nn.NatMath.len E) ek] 24) = w3 at *
  refine uRd 5 (fun KK hKK => ?_)
  go_simp
  refine (great_c [(Nn.NatMath.digs N), (Nn.NatMath.digs E)] (xb := w2.heap.size) (xo := 0) (xk := 2) (gNs.box (E4.out.bx 0 rfl) ⟨(gS.sl (E4.out.fc 1 rfl)), ⟨(gS.sl (E4.out.fc 0 rfl)), trivial⟩⟩) (t := false) hg.out (by simp)).mono ?_
  rintro e w4 ⟨rfl, hb⟩
  have E5 := Lib.hid (E4.out.below hb)
  clear E4 hb
  (try dsimp only)
  clear hHeld
  refine hKK.out _ _ (⟨((E5.out.bx 1 rfl).cell 0 rfl), ((E5.out.bx 1 rfl).cell 1 rfl)⟩) (fun hHeld => ?_)
  clear hKK KK
  try simp only [Act.put, pq0, pq1, pq2]
  refine uPl [6, 7] ?_
  iterate 2 (refine uTl (v := ?_) ?_ ?_; rotate_left; (focus (intro wS hSw; (try dsimp only at hSw); go_simp; try with_reducible rfl)); try simp only [Act.put, pq0, pq1, pq2])
  refine Pl.z ?_
  refine uRd 8 (fun KK hKK => ?_)
  go_simp
  refine (rKey_c HK.out.k (gS.sl (E5.out.fc 1 rfl)) (gS.sl (E5.out.fc 0 rfl))).mono ?_
  rintro e w5 ⟨rfl, hb⟩
  have E6 := Lib.hid (E5.out.below hb)
  clear E5 hb
  (try dsimp only)
  clear hHeld
  refine hKK.out _ _ (⟨((E6.out.bx 1 rfl).cell 0 rfl), ((E6.out.bx 1 rfl).cell 1 rfl)⟩) (fun hHeld => ?_)
  clear hKK KK
  try simp only [Act.put, pq0, pq1, pq2]
  refine uPl [9, 10, 11, 12, 13, 14, 15, 16, 17, 18] ?_
  iterate 10 (refine uTl (v := ?_) ?_ ?_; rotate_left; (focus (intro wS hSw; (try dsimp only at hSw); go_simp; try with_reducible rfl)); try simp only [Act.put, pq0, pq1, pq2])
  refine Pl.z ?_
  refine uRd 19 (fun KK hKK => ?_)
  go_simp
  refine (of_c 401 (by omega)).mono ?_
  rintro e w6 ⟨⟨lma, lmk, rfl, lmh⟩, hb⟩
  have E7 := Lib.hid ((E6.out.below hb).noteS lmh.out rfl)
  clear E6 hb lmh
  (try dsimp only)
  clear hHeld
  refine hKK.out _ _ (⟨((E7.out.bx 1 rfl).cell 0 rfl), ((E7.out.bx 1 rfl).cell 1 rfl)⟩) (fun hHeld => ?_)
  clear hKK KK
  try simp only [Act.put, pq0, pq1, pq2]
  refine uRd 20 (fun KK hKK => ?_)
  go_simp
  refine (Nn.rLess_c hq0N.out (gS.sl (E7.out.fc 2 rfl)) (gS.sl (E7.out.fc 0 rfl))).mono ?_
  rintro e w7 ⟨rfl, hb⟩
  have E8 := Lib.hid (E7.out.below hb)
  clear E7 hb
  (try dsimp only)
  clear hHeld
  refine hKK.out _ _ (⟨((E8.out.bx 1 rfl).cell 0 rfl), ((E8.out.bx 1 rfl).cell 1 rfl)⟩) (fun hHeld => ?_)
  clear hKK KK
  try simp only [Act.put, pq0, pq1, pq2]
  refine uPl [21, 22] ?_
  iterate 2 (refine uTl (v := ?_) ?_ ?_; rotate_left; (focus (intro wS hSw; (try dsimp only at hSw); go_simp; try with_reducible rfl)); try simp only [Act.put, pq0, pq1, pq2])
  refine Pl.z ?_
  refine uDone (by kernel_rfl) ?_ _
  have HX : Hid (X < N ∧ Y < N) := Lib.hid ⟨by rw [← hX.out]; exact Nat.mod_lt _ (by have := HK.out.n15; omega), by rw [← hY.out]; exact Nat.mod_lt _ (by have := HK.out.n15; omega)⟩
  have HL : Hid (Nn.NatMath.len N ≤ 64 ∧ Nn.NatMath.len X ≤ 64 ∧ Nn.NatMath.len Y ≤ 64) := Lib.hid ⟨Nat.le_trans HK.out.lN (by omega), Nat.le_trans (Nn.NatMath.len_mono (Nat.le_of_lt HX.out.1)) (Nat.le_trans HK.out.lN (by omega)), Nat.le_trans (Nn.NatMath.len_mono (Nat.le_of_lt HX.out.2)) (Nat.le_trans HK.out.lN (by omega))⟩
  have y1 : IntKind.u64.wrap (X0 : Int) = (X0 : Int) := by have := bX.out; unfold IntKind.wrap; simp [IntKind.bits]; omega
  have y2 : IntKind.u64.wrap (Y0 : Int) = (Y0 : Int) := by have := bY.out; unfold IntKind.wrap; simp [IntKind.bits]; omega
  go_wp2_with fail
  refine' wp_region_phase (by kernel_rfl) [0, 1, 2, 3, 4, 5, 6, 7, 8, 9, 10, 11, 12, 13] (by kernel_rfl) #[true, true, true, true, true, true, true, true, true, true, true, true, true, true, false, false] (by kernel_rfl) 2 (by kernel_rfl) [Nn.PEq (.int .u16 (X0 : Nat)), Nn.PEq (.int .u64 (X0 : Nat)), Nn.PNum X0, Nn.PEq (.pointer (some ⟨w.heap.size, 0, none⟩)), Nn.PEq (.agg #[.slice na (Nn.NatMath.len N) nk]), Nn.PNum X, Nn.PEq (.int .u16 (Y0 : Nat)), Nn.PEq (.int .u64 (Y0 : Nat)), Nn.PNum Y0, Nn.PEq (.pointer (some ⟨w.heap.size, 0, none⟩)), Nn.PEq (.agg #[.slice na (Nn.NatMath.len N) nk]), Nn.PNum Y, PBx w7.heap.size 24 [.slice none 0 0], PBx w7.heap.size 24 [.slice none 0 0], Fact.none, Fact.none] (List.forall_mem_cons.2 ⟨Nn.PEq.st _, List.forall_mem_cons.2 ⟨Nn.PEq.st _, List.forall_mem_cons.2 ⟨Nn.PNum.st _, List.forall_mem_cons.2 ⟨Nn.PEq.st _, List.forall_mem_cons.2 ⟨Nn.PEq.st _, List.forall_mem_cons.2 ⟨Nn.PNum.st _, List.forall_mem_cons.2 ⟨Nn.PEq.st _, List.forall_mem_cons.2 ⟨Nn.PEq.st _, List.forall_mem_cons.2 ⟨Nn.PNum.st _, List.forall_mem_cons.2 ⟨Nn.PEq.st _, List.forall_mem_cons.2 ⟨Nn.PEq.st _, List.forall_mem_cons.2 ⟨Nn.PNum.st _, List.forall_mem_cons.2 ⟨PBx.st _ _ _, List.forall_mem_cons.2 ⟨PBx.st _ _ _, List.forall_mem_cons.2 ⟨Fact.none_st, List.forall_mem_cons.2 ⟨Fact.none_st, List.forall_mem_nil _⟩⟩⟩⟩⟩⟩⟩⟩⟩⟩⟩⟩⟩⟩⟩⟩) _ ?hFq1 ?stepq1 ?doneq1
  case hFq1 => intro x; simp only [frameL, Act.put, List.setIfInBounds_toArray, List.set_cons_zero, List.set_cons_succ, Nat.zero_add, Nat.reduceAdd]; exact rfl
  case stepq1 =>
    refine List.forall_mem_cons.2 ⟨?_, ?_⟩
    · intro xv bv ev WW hB hdp
      refine Nn.op_of rfl ?_
      clear hdp
      intro KK hKK
      go_simp
      exact Nn.act_eq (hKK.out _ _ (Below.refl _ _) rfl) (by first | rfl | simp [upd])
    refine List.forall_mem_cons.2 ⟨?_, ?_⟩
    · intro xv bv ev WW hB hdp
      refine Nn.op_of rfl ?_
      have ed0 : xv 0 = .int .u16 (X0 : Nat) := hdp 0 (by kernel_rfl)
      clear hdp
      intro KK hKK
      go_simp
      exact Nn.act_eq (hKK.out _ _ (Below.refl _ _) rfl) (by first | rfl | simp [upd, ed0])
    refine List.forall_mem_cons.2 ⟨?_, ?_⟩
    · intro xv bv ev WW hB hdp
      refine Nn.op_of rfl ?_
      have ed1 : xv 1 = .int .u64 (X0 : Nat) := hdp 1 (by kernel_rfl)
      clear hdp
      intro KK hKK
      go_simp
      refine (of_c X0 (by have := bX.out; omega)).mono ?_
      rintro e WW' ⟨⟨ua, uk, rfl, hu⟩, hb⟩
      (try dsimp only)
      (try simp only [Act.put, pq0, pq1, pq2])
      exact Nn.act_eq (hKK.out _ _ hb ⟨_, _, rfl, hu⟩) (by first | rfl | simp [upd, ed1])
    refine List.forall_mem_cons.2 ⟨?_, ?_⟩
    · intro xv bv ev WW hB hdp
      refine Nn.op_of rfl ?_
      clear hdp
      intro KK hKK
      go_simp
      exact Nn.act_eq (hKK.out _ _ (Below.refl _ _) rfl) (by first | rfl | simp [upd])
    refine List.forall_mem_cons.2 ⟨?_, ?_⟩
    · intro xv bv ev WW hB hdp
      refine Nn.op_of rfl ?_
      have ed3 : xv 3 = .pointer (some ⟨w.heap.size, 0, none⟩) := hdp 3 (by kernel_rfl)
      clear hdp
      intro KK hKK
      have z0 := ((E8.out.below hB).bx 1 rfl).cell 0 rfl
      go_simp
      exact Nn.act_eq (hKK.out (.agg #[.slice na (Nn.NatMath.len N) nk]) _ (Below.refl _ _) rfl) (by first | rfl | simp [upd, ed3])
    refine List.forall_mem_cons.2 ⟨?_, ?_⟩
    · intro xv bv ev WW hB hdp
      refine Nn.op_of rfl ?_
      obtain ⟨ua, uk, ed2, hu⟩ := (show (Nn.PNum X0) (xv 2) (bv 2) (ev 2) WW from hdp 2 (by kernel_rfl))
      have ed4 : xv 4 = .agg #[.slice na (Nn.NatMath.len N) nk] := hdp 4 (by kernel_rfl)
      clear hdp
      intro KK hKK
      go_simp
      refine (Nn.rMod_n hX.out (by have := len_small (N := X0) (by have := bX.out; omega); omega) (by have := HK.out.n15; omega) (Nat.le_trans HL.out.1 (by omega)) hu.out (gS.sl ((E8.out.below hB).fc 2 rfl))).mono ?_
      rintro e WW' ⟨⟨xa, xk, rfl, hx⟩, hb⟩
      (try dsimp only)
      (try simp only [Act.put, pq0, pq1, pq2])
      exact Nn.act_eq (hKK.out _ _ hb ⟨_, _, rfl, hx⟩) (by first | rfl | simp [upd, ed2, ed4])
    refine List.forall_mem_cons.2 ⟨?_, ?_⟩
    · intro xv bv ev WW hB hdp
      refine Nn.op_of rfl ?_
      clear hdp
      intro KK hKK
      go_simp
      exact Nn.act_eq (hKK.out _ _ (Below.refl _ _) rfl) (by first | rfl | simp [upd])
    refine List.forall_mem_cons.2 ⟨?_, ?_⟩
    · intro xv bv ev WW hB hdp
      refine Nn.op_of rfl ?_
      have ed6 : xv 6 = .int .u16 (Y0 : Nat) := hdp 6 (by kernel_rfl)
      clear hdp
      intro KK hKK
      go_simp
      exact Nn.act_eq (hKK.out _ _ (Below.refl _ _) rfl) (by first | rfl | simp [upd, ed6])
    refine List.forall_mem_cons.2 ⟨?_, ?_⟩
    · intro xv bv ev WW hB hdp
      refine Nn.op_of rfl ?_
      have ed7 : xv 7 = .int .u64 (Y0 : Nat) := hdp 7 (by kernel_rfl)
      clear hdp
      intro KK hKK
      go_simp
      refine (of_c Y0 (by have := bY.out; omega)).mono ?_
      rintro e WW' ⟨⟨va, vk, rfl, hv⟩, hb⟩
      (try dsimp only)
      (try simp only [Act.put, pq0, pq1, pq2])
      exact Nn.act_eq (hKK.out _ _ hb ⟨_, _, rfl, hv⟩) (by first | rfl | simp [upd, ed7])
    refine List.forall_mem_cons.2 ⟨?_, ?_⟩
    · intro xv bv ev WW hB hdp
      refine Nn.op_of rfl ?_
      clear hdp
      intro KK hKK
      go_simp
      exact Nn.act_eq (hKK.out _ _ (Below.refl _ _) rfl) (by first | rfl | simp [upd])
    refine List.forall_mem_cons.2 ⟨?_, ?_⟩
    · intro xv bv ev WW hB hdp
      refine Nn.op_of rfl ?_
      have ed9 : xv 9 = .pointer (some ⟨w.heap.size, 0, none⟩) := hdp 9 (by kernel_rfl)
      clear hdp
      intro KK hKK
      have z0 := ((E8.out.below hB).bx 1 rfl).cell 0 rfl
      go_simp
      exact Nn.act_eq (hKK.out (.agg #[.slice na (Nn.NatMath.len N) nk]) _ (Below.refl _ _) rfl) (by first | rfl | simp [upd, ed9])
    refine List.forall_mem_cons.2 ⟨?_, ?_⟩
    · intro xv bv ev WW hB hdp
      refine Nn.op_of rfl ?_
      obtain ⟨va, vk, ed8, hv⟩ := (show (Nn.PNum Y0) (xv 8) (bv 8) (ev 8) WW from hdp 8 (by kernel_rfl))
      have ed10 : xv 10 = .agg #[.slice na (Nn.NatMath.len N) nk] := hdp 10 (by kernel_rfl)
      clear hdp
      intro KK hKK
      go_simp
      refine (Nn.rMod_n hY.out (by have := len_small (N := Y0) (by have := bY.out; omega); omega) (by have := HK.out.n15; omega) (Nat.le_trans HL.out.1 (by omega)) hv.out (gS.sl ((E8.out.below hB).fc 2 rfl))).mono ?_
      rintro e WW' ⟨⟨ya, yk, rfl, hy⟩, hb⟩
      (try dsimp only)
      (try simp only [Act.put, pq0, pq1, pq2])
      exact Nn.act_eq (hKK.out _ _ hb ⟨_, _, rfl, hy⟩) (by first | rfl | simp [upd, ed8, ed10])
    refine List.forall_mem_cons.2 ⟨?_, ?_⟩
    · intro xv bv ev WW hB hdp
      refine Nn.op_of rfl ?_
      clear hdp
      intro KK hKK
      go_simp
      exact Nn.act_eq (hKK.out (.pointer (some ⟨WW.heap.size, 0, none⟩)) _ (Nn.below_one _ _) (PBx.mk hB rfl 24 [.slice none 0 0])) (by first | rfl | simp [upd])
    refine List.forall_mem_cons.2 ⟨?_, ?_⟩
    · intro xv bv ev WW hB hdp
      refine Nn.op_of rfl ?_
      clear hdp
      intro KK hKK
      go_simp
      exact Nn.act_eq (hKK.out (.pointer (some ⟨WW.heap.size, 0, none⟩)) _ (Nn.below_one _ _) (PBx.mk hB rfl 24 [.slice none 0 0])) (by first | rfl | simp [upd])
    exact List.forall_mem_nil _
  intro xv bv ev w8 hB hR hO
  have ed0 : xv 0 = .int .u16 (X0 : Nat) := hR 0 (by kernel_rfl)
  have ed1 : xv 1 = .int .u64 (X0 : Nat) := hR 1 (by kernel_rfl)
  obtain ⟨ua, uk, ed2, hu⟩ := (show (Nn.PNum X0) (xv 2) (bv 2) (ev 2) w8 from hR 2 (by kernel_rfl))
  have ed3 : xv 3 = .pointer (some ⟨w.heap.size, 0, none⟩) := hR 3 (by kernel_rfl)
  have ed4 : xv 4 = .agg #[.slice na (Nn.NatMath.len N) nk] := hR 4 (by kernel_rfl)
  obtain ⟨xa, xk, ed5, hx⟩ := (show (Nn.PNum X) (xv 5) (bv 5) (ev 5) w8 from hR 5 (by kernel_rfl))
  have ed6 : xv 6 = .int .u16 (Y0 : Nat) := hR 6 (by kernel_rfl)
  have ed7 : xv 7 = .int .u64 (Y0 : Nat) := hR 7 (by kernel_rfl)
  obtain ⟨va, vk, ed8, hv⟩ := (show (Nn.PNum Y0) (xv 8) (bv 8) (ev 8) w8 from hR 8 (by kernel_rfl))
  have ed9 : xv 9 = .pointer (some ⟨w.heap.size, 0, none⟩) := hR 9 (by kernel_rfl)
  have ed10 : xv 10 = .agg #[.slice na (Nn.NatMath.len N) nk] := hR 10 (by kernel_rfl)
  obtain ⟨ya, yk, ed11, hy⟩ := (show (Nn.PNum Y) (xv 11) (bv 11) (ev 11) w8 from hR 11 (by kernel_rfl))
  obtain ⟨gx, ed12, hl12, hr12, hX12⟩ := (show (PBx w7.heap.size 24 [.slice none 0 0]) (xv 12) (bv 12) (ev 12) w8 from hR 12 (by kernel_rfl))
  obtain ⟨gy, ed13, hl13, hr13, hX13⟩ := (show (PBx w7.heap.size 24 [.slice none 0 0]) (xv 13) (bv 13) (ev 13) w8 from hR 13 (by kernel_rfl))
  simp only [ed0, ed1, ed2, ed3, ed4, ed5, ed6, ed7, ed8, ed9, ed10, ed11, ed12, ed13]
  have hne : gx ≠ gy := by have := hO 12 13 (by kernel_rfl) (by kernel_rfl) (by decide); omega
  have E9 := Lib.hid (((((E8.out.gotBox2 hB hX12 hX13 hne).noteS hu.out rfl).noteS hx.out rfl).noteS hv.out rfl).noteS hy.out rfl)
  clear hB hR hO ed0 ed1 ed2 ed3 ed4 ed5 ed6 ed7 ed8 ed9 ed10 ed11 ed12 ed13 hu hx hv hy hl12 hr12 hX12 hl13 hr13 hX13 hne E8
  have b1 := E9.out.bx 0 rfl
  have c1_0 := b1.cell 0 rfl
  have f1_0 := b1.frozen 0
  clear b1
  refine wpAny_next (i := 14) (by kernel_rfl) rfl (fun KK hKK => ?_)
  go_simp
  have E10 : Hid (Env (fun _ => True) w [(gx, 24, [.slice xa (Nn.NatMath.len X) xk]), (gy, 24, [.slice none 0 0]), (w2.heap.size, 24, [.slice na (Nn.NatMath.len N) nk, .slice ea (Nn.NatMath.len E) ek]), (w.heap.size, 26, [.slice na (Nn.NatMath.len N) nk, .slice ea (Nn.NatMath.len E) ek])] [.gn (gS (.slice ya (Nn.NatMath.len Y) yk) (Nn.NatMath.digs Y)), .gn (gS (.slice va (Nn.NatMath.len Y0) vk) (Nn.NatMath.digs Y0)), .gn (gS (.slice xa (Nn.NatMath.len X) xk) (Nn.NatMath.digs X)), .gn (gS (.slice ua (Nn.NatMath.len X0) uk) (Nn.NatMath.digs X0)), .gn (gS (.slice lma (Nn.NatMath.len 401) lmk) (Nn.NatMath.digs 401)), .gn (gS (.slice ea (Nn.NatMath.len E) ek) (Nn.NatMath.digs E)), .gn (gS (.slice na (Nn.NatMath.len N) nk) (Nn.NatMath.digs N)), .bs (.slice ba l.length bk) l] _) := Lib.hid ((E9.out.set 0 0 (.slice xa (Nn.NatMath.len X) xk) rfl))
  refine hKK.out _ _ ?_
  clear hKK KK
  have b2 := E10.out.bx 1 rfl
  have c2_0 := b2.cell 0 rfl
  have f2_0 := b2.frozen 0
  clear b2
  refine wpAny_next (i := 15) (by kernel_rfl) rfl (fun KK hKK => ?_)
  go_simp
  have E11 : Hid (Env (fun _ => True) w [(gx, 24, [.slice xa (Nn.NatMath.len X) xk]), (gy, 24, [.slice ya (Nn.NatMath.len Y) yk]), (w2.heap.size, 24, [.slice na (Nn.NatMath.len N) nk, .slice ea (Nn.NatMath.len E) ek]), (w.heap.size, 26, [.slice na (Nn.NatMath.len N) nk, .slice ea (Nn.NatMath.len E) ek])] [.gn (gS (.slice ya (Nn.NatMath.len Y) yk) (Nn.NatMath.digs Y)), .gn (gS (.slice va (Nn.NatMath.len Y0) vk) (Nn.NatMath.digs Y0)), .gn (gS (.slice xa (Nn.NatMath.len X) xk) (Nn.NatMath.digs X)), .gn (gS (.slice ua (Nn.NatMath.len X0) uk) (Nn.NatMath.digs X0)), .gn (gS (.slice lma (Nn.NatMath.len 401) lmk) (Nn.NatMath.digs 401)), .gn (gS (.slice ea (Nn.NatMath.len E) ek) (Nn.NatMath.digs E)), .gn (gS (.slice na (Nn.NatMath.len N) nk) (Nn.NatMath.digs N)), .bs (.slice ba l.length bk) l] _) := Lib.hid ((E10.out.set 1 0 (.slice ya (Nn.NatMath.len Y) yk) rfl))
  refine hKK.out _ _ ?_
  clear hKK KK
  refine wpAny_done (by kernel_rfl) ?_ _
  obtain ⟨thu, hu0⟩ : ∃ t, decide (Nat.gcd X N = 1) = t := ⟨_, rfl⟩
  have hu := Lib.hid hu0
  clear hu0
  cases thu
  · skip
    have b3 := E11.out.bx 3 rfl
    have c3_0 := b3.cell 0 rfl
    have c3_1 := b3.cell 1 rfl
    clear b3
    have b4 := E11.out.bx 0 rfl
    have c4_0 := b4.cell 0 rfl
    clear b4
    go_wp2_with fail
    refine (unitg_c N X (gS.sl (E11.out.fc 6 rfl)) (gS.sl (E11.out.fc 2 rfl)) hu.out (by have := HK.out.n15; omega) HL.out.2.1 HL.out.1).mono ?_
    rintro e w9 ⟨rfl, hb⟩
    have E12 := Lib.hid (E11.out.below hb)
    clear c1_0 f1_0 c2_0 f2_0 c3_0 c3_1 c4_0 E9 E10 E11 hb
    have hfin := Lib.hid E12.out.bel
    go_wp2
    go_ret
    exact ⟨rfl, hfin.out⟩
  · skip
    obtain ⟨thv, hv0⟩ : ∃ t, decide (Nat.gcd Y N = 1) = t := ⟨_, rfl⟩
    have hv := Lib.hid hv0
    clear hv0
    cases thv
    · skip
      have b3 := E11.out.bx 3 rfl
      have c3_0 := b3.cell 0 rfl
      have c3_1 := b3.cell 1 rfl
      clear b3
      have b4 := E11.out.bx 0 rfl
      have c4_0 := b4.cell 0 rfl
      clear b4
      go_wp2_with fail
      refine (unitg_c N X (gS.sl (E11.out.fc 6 rfl)) (gS.sl (E11.out.fc 2 rfl)) hu.out (by have := HK.out.n15; omega) HL.out.2.1 HL.out.1).mono ?_
      rintro e w9 ⟨rfl, hb⟩
      have E12 := Lib.hid (E11.out.below hb)
      clear c1_0 f1_0 c2_0 f2_0 c3_0 c3_1 c4_0 E9 E10 E11 hb
      have b5 := E12.out.bx 3 rfl
      have c5_0 := b5.cell 0 rfl
      have c5_1 := b5.cell 1 rfl
      clear b5
      have b6 := E12.out.bx 1 rfl
      have c6_0 := b6.cell 0 rfl
      clear b6
      go_wp2_with fail
      refine (unitg_c N Y (gS.sl (E12.out.fc 6 rfl)) (gS.sl (E12.out.fc 0 rfl)) hv.out (by have := HK.out.n15; omega) HL.out.2.2 HL.out.1).mono ?_
      rintro e w10 ⟨rfl, hb⟩
      have E13 := Lib.hid (E12.out.below hb)
      clear c5_0 c5_1 c6_0 E12 hb
      have hfin := Lib.hid E13.out.bel
      go_wp2
      go_ret
      exact ⟨rfl, hfin.out⟩
    · skip
      obtain ⟨h, hh0⟩ : ∃ h, hshN l % N = h := ⟨_, rfl⟩
      obtain ⟨p, hp0⟩ : ∃ p, Y ^ E % N = p := ⟨_, rfl⟩
      have hh := Lib.hid hh0
      have hp := Lib.hid hp0
      clear hh0 hp0
      obtain ⟨thq, hq0⟩ : ∃ t, decide (h = p) = t := ⟨_, rfl⟩
      have hq := Lib.hid hq0
      clear hq0
      cases thq
      · skip
        have b3 := E11.out.bx 3 rfl
        have c3_0 := b3.cell 0 rfl
        have c3_1 := b3.cell 1 rfl
        clear b3
        have b4 := E11.out.bx 0 rfl
        have c4_0 := b4.cell 0 rfl
        clear b4
        go_wp2_with fail
        refine (unitg_c N X (gS.sl (E11.out.fc 6 rfl)) (gS.sl (E11.out.fc 2 rfl)) hu.out (by have := HK.out.n15; omega) HL.out.2.1 HL.out.1).mono ?_
        rintro e w9 ⟨rfl, hb⟩
        have E12 := Lib.hid (E11.out.below hb)
        clear c1_0 f1_0 c2_0 f2_0 c3_0 c3_1 c4_0 E9 E10 E11 hb
        have b5 := E12.out.bx 3 rfl
        have c5_0 := b5.cell 0 rfl
        have c5_1 := b5.cell 1 rfl
        clear b5
        have b6 := E12.out.bx 1 rfl
        have c6_0 := b6.cell 0 rfl
        clear b6
        go_wp2_with fail
        refine (unitg_c N Y (gS.sl (E12.out.fc 6 rfl)) (gS.sl (E12.out.fc 0 rfl)) hv.out (by have := HK.out.n15; omega) HL.out.2.2 HL.out.1).mono ?_
        rintro e w10 ⟨rfl, hb⟩
        have E13 := Lib.hid (E12.out.below hb)
        clear c5_0 c5_1 c6_0 E12 hb
        have b7 := E13.out.bx 3 rfl
        have c7_0 := b7.cell 0 rfl
        have c7_1 := b7.cell 1 rfl
        clear b7
        have b8 := E13.out.bx 1 rfl
        have c8_0 := b8.cell 0 rfl
        clear b8
        go_wp2_with fail
        refine (Verify_ok N E Y l (gS.sl (E13.out.fc 6 rfl)) (gS.sl (E13.out.fc 5 rfl)) (gS.sl (E13.out.fc 0 rfl)) (Bs.any (E13.out.fc 7 rfl)) HK.out (show [Nn.NatMath.digs Y].all Nn.vld = true by simp [Nn.vld_digs, HL.out]) HL.out.2.2 (decide_eq_true HX.out.2) hp.out (ht.out.below E13.out.bel) (by have := hm.out; omega) hh.out hq.out).mono ?_
        rintro e w11 ⟨rfl, hb⟩
        have E14 := Lib.hid (E13.out.below hb)
        clear c7_0 c7_1 c8_0 E13 hb
        have hfin := Lib.hid E14.out.bel
        go_wp2
        go_ret
        exact ⟨rfl, hfin.out⟩
      · skip
        have b3 := E11.out.bx 3 rfl
        have c3_0 := b3.cell 0 rfl
        have c3_1 := b3.cell 1 rfl
        clear b3
        have b4 := E11.out.bx 0 rfl
        have c4_0 := b4.cell 0 rfl
        clear b4
        go_wp2_with fail
        refine (unitg_c N X (gS.sl (E11.out.fc 6 rfl)) (gS.sl (E11.out.fc 2 rfl)) hu.out (by have := HK.out.n15; omega) HL.out.2.1 HL.out.1).mono ?_
        rintro e w9 ⟨rfl, hb⟩
        have E12 := Lib.hid (E11.out.below hb)
        clear c1_0 f1_0 c2_0 f2_0 c3_0 c3_1 c4_0 E9 E10 E11 hb
        have b5 := E12.out.bx 3 rfl
        have c5_0 := b5.cell 0 rfl
        have c5_1 := b5.cell 1 rfl
        clear b5
        have b6 := E12.out.bx 1 rfl
        have c6_0 := b6.cell 0 rfl
        clear b6
        go_wp2_with fail
        refine (unitg_c N Y (gS.sl (E12.out.fc 6 rfl)) (gS.sl (E12.out.fc 0 rfl)) hv.out (by have := HK.out.n15; omega) HL.out.2.2 HL.out.1).mono ?_
        rintro e w10 ⟨rfl, hb⟩
        have E13 := Lib.hid (E12.out.below hb)
        clear c5_0 c5_1 c6_0 E12 hb
        have b7 := E13.out.bx 3 rfl
        have c7_0 := b7.cell 0 rfl
        have c7_1 := b7.cell 1 rfl
        clear b7
        have b8 := E13.out.bx 1 rfl
        have c8_0 := b8.cell 0 rfl
        clear b8
        go_wp2_with fail
        refine (Verify_ok N E Y l (gS.sl (E13.out.fc 6 rfl)) (gS.sl (E13.out.fc 5 rfl)) (gS.sl (E13.out.fc 0 rfl)) (Bs.any (E13.out.fc 7 rfl)) HK.out (show [Nn.NatMath.digs Y].all Nn.vld = true by simp [Nn.vld_digs, HL.out]) HL.out.2.2 (decide_eq_true HX.out.2) hp.out (ht.out.below E13.out.bel) (by have := hm.out; omega) hh.out hq.out).mono ?_
        rintro e w11 ⟨rfl, hb⟩
        have E14 := Lib.hid (E13.out.below hb)
        clear c7_0 c7_1 c8_0 E13 hb
        obtain ⟨B, hB0⟩ : ∃ B, X ^ E % N = B := ⟨_, rfl⟩
        have hB := Lib.hid hB0
        clear hB0
        have lB : Hid (Nn.NatMath.len B ≤ 64) := Lib.hid (by rw [← hB.out]; exact Nat.le_trans (Nn.NatMath.len_mono (Nat.le_of_lt (Nat.mod_lt _ (by have := HK.out.n15; omega)))) (Nat.le_trans HK.out.lN (by omega)))
        obtain ⟨r0, hr00⟩ : ∃ r0, r0 = X * Nn.NatMath.invV Y N % N := ⟨_, rfl⟩
        have HG : Hid ((∀ k, k < N → (Nn.NatMath.invG k N = 1 ∧ h * (k ^ E % N) % N = B ∧ X * Nn.NatMath.invV k N % N = Y) → k = r0) ∧ (r0 ≠ 0 ∧ r0 < N ∧ Nn.NatMath.invG r0 N = 1 ∧ h * (r0 ^ E % N) % N = B ∧ X * Nn.NatMath.invV r0 N % N = Y)) := Lib.hid ⟨fun k hk hg => by rw [hr00]; exact good_iff (by have := HK.out.n15; omega) (of_decide_eq_true hu.out) (of_decide_eq_true hv.out) HX.out.1 ((of_decide_eq_true hq.out).trans hp.out.symm) hB.out hk hg, good_of (by have := HK.out.n15; omega) (of_decide_eq_true hu.out) (of_decide_eq_true hv.out) HX.out.1 HX.out.2 ((of_decide_eq_true hq.out).trans hp.out.symm) hB.out hr00⟩
        clear hr00 hu hv hq hp
        have b9 := E14.out.bx 3 rfl
        have c9_0 := b9.cell 0 rfl
        have c9_1 := b9.cell 1 rfl
        clear b9
        have b10 := E14.out.bx 0 rfl
        have c10_0 := b10.cell 0 rfl
        clear b10
        go_wp2_with fail
        refine (Sign_ok N E E X (gS.sl (E14.out.fc 6 rfl)) (gS.sl (E14.out.fc 5 rfl)) (gS.sl (E14.out.fc 5 rfl)) (gS.sl (E14.out.fc 2 rfl)) HK.out (by have h1 := Nat.le_trans HK.out.lE (show 32 ≤ 64 by omega); simp [Nn.vld_digs, HL.out, h1]) (Nat.le_trans HK.out.lE (by omega)) HL.out.2.1 (decide_eq_true HK.out.eN) (decide_eq_true HX.out.1) hB.out).mono ?_
        rintro e w12 ⟨⟨b2a, b2k, rfl, b2h⟩, hb⟩
        have E15 := Lib.hid ((E14.out.below hb).noteS b2h.out rfl)
        clear c9_0 c9_1 c10_0 E14 hb b2h
        go_wp2_with fail
        have E16 := Lib.hid ((E15.out.push 24 [.slice b2a (Nn.NatMath.len B) b2k] (w12.heap.size) (by simp)))
        go_loopg [13, 14] (N - 1) (fun gk s13 s14 wr => ∃ (c k : Nat), s13 = .int .i64 (c : Int) ∧ s14 = .int .u64 (k : Int) ∧ Hid (Env (fun _ => True) w [(w12.heap.size, 24, [.slice b2a (Nn.NatMath.len B) b2k]), (gx, 24, [.slice xa (Nn.NatMath.len X) xk]), (gy, 24, [.slice ya (Nn.NatMath.len Y) yk]), (w2.heap.size, 24, [.slice na (Nn.NatMath.len N) nk, .slice ea (Nn.NatMath.len E) ek]), (w.heap.size, 26, [.slice na (Nn.NatMath.len N) nk, .slice ea (Nn.NatMath.len E) ek])] [.gn (gS (.slice b2a (Nn.NatMath.len B) b2k) (Nn.NatMath.digs B)), .gn (gS (.slice ya (Nn.NatMath.len Y) yk) (Nn.NatMath.digs Y)), .gn (gS (.slice va (Nn.NatMath.len Y0) vk) (Nn.NatMath.digs Y0)), .gn (gS (.slice xa (Nn.NatMath.len X) xk) (Nn.NatMath.digs X)), .gn (gS (.slice ua (Nn.NatMath.len X0) uk) (Nn.NatMath.digs X0)), .gn (gS (.slice lma (Nn.NatMath.len 401) lmk) (Nn.NatMath.digs 401)), .gn (gS (.slice ea (Nn.NatMath.len E) ek) (Nn.NatMath.digs E)), .gn (gS (.slice na (Nn.NatMath.len N) nk) (Nn.NatMath.digs N)), .bs (.slice ba l.length bk) l] wr) ∧ Hid (((1 ≤ k ∧ k ≤ N) ∧ c = cG r0 (k - 1)) ∧ gk = N - k))
        case atStart => exact ⟨0, 1, rfl, rfl, Lib.hid E16.out, Lib.hid ⟨⟨⟨Nat.le_refl _, by have := HK.out.n15; omega⟩, rfl⟩, rfl⟩⟩
        case round =>
          clear E15 E16
          obtain ⟨c, k, rfl, rfl, EL, HA⟩ := hrel
          have HN : Hid (N < 401) := Lib.hid (of_decide_eq_true hq0N.out)
          have hk9 : k < 18446744073709551616 := by have := HA.out; have := HN.out; omega
          have HK9 := Lib.hid hk9
          clear hk9
          by_cases hy : k < N
          rotate_left
          · have HE : Hid (k = N) := Lib.hid (by have := HA.out; omega)
            have HC : Hid (c = 1) := Lib.hid (by rw [HA.out.1.2, HE.out, cG_eq HG.out.2.1, if_pos (by have := HG.out.2.2.1; omega)])
            have HLs := Lib.hid (decide_eq_false hy)
            have d1 : ((c : Int) == 1) = true := by rw [HC.out]; rfl
            have d2 : (c == 1) = true := by rw [HC.out]; rfl
            clear hy
            go_wp2_with fail
            have E17 := Lib.hid EL.out.drew
            clear EL
            refine wp_regionU (S := fun w' => w'.cell? ⟨w.heap.size, 0, none⟩ = some (.slice na (Nn.NatMath.len N) nk)) [] (by kernel_rfl) (((E17.out.bx 4 rfl).cell 0 rfl)) (fun hHeld => ?_)
            generalize wr.drew = w13 at *
            refine uPl [0, 2, 3] ?_
            iterate 3 (refine uTl (v := ?_) ?_ ?_; rotate_left; (focus (intro wS hSw; (try dsimp only at hSw); go_simp; try with_reducible rfl)); try simp only [Act.put, pq0, pq1, pq2])
            refine Pl.z ?_
            refine uRd 1 (fun KK hKK => ?_)
            go_simp
            refine (of_c k HK9.out).mono ?_
            rintro e w14 ⟨⟨lsa, lsk, rfl, lsh⟩, hb⟩
            have E18 := Lib.hid ((E17.out.below hb).noteS lsh.out rfl)
            clear E17 hb lsh
            (try dsimp only)
            clear hHeld
            refine hKK.out _ _ (((E18.out.bx 4 rfl).cell 0 rfl)) (fun hHeld => ?_)
            clear hKK KK
            try simp only [Act.put, pq0, pq1, pq2]
            refine uRd 4 (fun KK hKK => ?_)
            go_simp
            refine (Nn.rLess_c HLs.out (gS.sl (E18.out.fc 0 rfl)) (gS.sl (E18.out.fc 8 rfl))).mono ?_
            rintro e w15 ⟨rfl, hb⟩
            have E19 := Lib.hid (E18.out.below hb)
            clear E18 hb
            (try dsimp only)
            clear hHeld
            refine hKK.out _ _ (((E19.out.bx 4 rfl).cell 0 rfl)) (fun hHeld => ?_)
            clear hKK KK
            try simp only [Act.put, pq0, pq1, pq2]
            refine uDone (by kernel_rfl) ?_ _
            have hfin := Lib.hid E19.out.bel
            go_wp2
            go_ret
            exact ⟨rfl, hfin.out⟩
          · have HY := Lib.hid hy
            have HLs := Lib.hid (decide_eq_true hy)
            clear hy
            have lk : Hid (Nn.NatMath.len k ≤ 64) := Lib.hid (len_small (by have := HN.out; have := HY.out; omega))
            have u1 : IntKind.u64.wrap ((k : Int) + 1) = ((k + 1 : Nat) : Int) := by have := HN.out; have := HY.out; unfold IntKind.wrap; simp [IntKind.bits]; omega
            have u2 : wrap64 ((c : Int) + 1) = ((c + 1 : Nat) : Int) := by have h1 := HA.out.1.2; rw [cG_eq HG.out.2.1] at h1; unfold wrap64; split at h1 <;> omega
            go_wp2_with fail
            have E17 := Lib.hid EL.out.drew
            clear EL
            refine wp_regionU (S := fun w' => w'.cell? ⟨w.heap.size, 0, none⟩ = some (.slice na (Nn.NatMath.len N) nk)) [] (by kernel_rfl) (((E17.out.bx 4 rfl).cell 0 rfl)) (fun hHeld => ?_)
            generalize wr.drew = w13 at *
            refine uPl [0, 2, 3] ?_
            iterate 3 (refine uTl (v := ?_) ?_ ?_; rotate_left; (focus (intro wS hSw; (try dsimp only at hSw); go_simp; try with_reducible rfl)); try simp only [Act.put, pq0, pq1, pq2])
            refine Pl.z ?_
            refine uRd 1 (fun KK hKK => ?_)
            go_simp
            refine (of_c k HK9.out).mono ?_
            rintro e w14 ⟨⟨lsa, lsk, rfl, lsh⟩, hb⟩
            have E18 := Lib.hid ((E17.out.below hb).noteS lsh.out rfl)
            clear E17 hb lsh
            (try dsimp only)
            clear hHeld
            refine hKK.out _ _ (((E18.out.bx 4 rfl).cell 0 rfl)) (fun hHeld => ?_)
            clear hKK KK
            try simp only [Act.put, pq0, pq1, pq2]
            refine uRd 4 (fun KK hKK => ?_)
            go_simp
            refine (Nn.rLess_c HLs.out (gS.sl (E18.out.fc 0 rfl)) (gS.sl (E18.out.fc 8 rfl))).mono ?_
            rintro e w15 ⟨rfl, hb⟩
            have E19 := Lib.hid (E18.out.below hb)
            clear E18 hb
            (try dsimp only)
            clear hHeld
            refine hKK.out _ _ (((E19.out.bx 4 rfl).cell 0 rfl)) (fun hHeld => ?_)
            clear hKK KK
            try simp only [Act.put, pq0, pq1, pq2]
            refine uDone (by kernel_rfl) ?_ _
            obtain ⟨cf, hc0⟩ : ∃ cf, facC k N = cf := ⟨_, rfl⟩
            have hc := Lib.hid hc0
            clear hc0
            by_cases hcz : cf = 0
            rotate_left
            · have hcn := Lib.hid hcz
              clear hcz
              have HNE : Hid (k ≠ r0) := Lib.hid (fun e => hcn.out (by rw [← hc.out, e]; have h1 := HG.out.2; unfold facC; rw [if_neg (by omega), if_pos h1.2.2.1]))
              have d1 : (cf == 0) = false := beq_eq_false_iff_ne.2 hcn.out
              go_wp2_with fail
              refine' wp_region_phaseU (by kernel_rfl) [0, 1, 2, 3, 4, 5, 6, 8] 7 (by kernel_rfl) #[true, true, true, true, true, true, true, false, true, false, false] (by kernel_rfl) 3 (by kernel_rfl) #[true, true, true, true, true, true, true, true, true, false, false] (by kernel_rfl) 2 (by kernel_rfl) [Nn.PEq (.agg #[.slice na (Nn.NatMath.len N) nk, .slice ea (Nn.NatMath.len E) ek]), Nn.PEq (.slice ba l.length bk), Nn.PEq (.int .u64 (k : Int)), Nn.PNum k, Nn.PEq (.tuple #[.agg #[.slice none 0 0], .int .i64 cf]), Nn.PEq (.tuple #[.agg #[.slice none 0 0], .int .i64 cf]), Nn.PEq (.agg #[.slice none 0 0]), Nn.PEq (.int .i64 cf), PBx w15.heap.size 24 [.slice none 0 0], Fact.none, Fact.none] (List.forall_mem_cons.2 ⟨Nn.PEq.st _, List.forall_mem_cons.2 ⟨Nn.PEq.st _, List.forall_mem_cons.2 ⟨Nn.PEq.st _, List.forall_mem_cons.2 ⟨Nn.PNum.st _, List.forall_mem_cons.2 ⟨Nn.PEq.st _, List.forall_mem_cons.2 ⟨Nn.PEq.st _, List.forall_mem_cons.2 ⟨Nn.PEq.st _, List.forall_mem_cons.2 ⟨Nn.PEq.st _, List.forall_mem_cons.2 ⟨PBx.st _ _ _, List.forall_mem_cons.2 ⟨Fact.none_st, List.forall_mem_cons.2 ⟨Fact.none_st, List.forall_mem_nil _⟩⟩⟩⟩⟩⟩⟩⟩⟩⟩⟩) _ ?hFq2 ?stepq2 ?lateq2 ?doneq2
              case hFq2 => intro x; simp only [frameL, Act.put, List.setIfInBounds_toArray, List.set_cons_zero, List.set_cons_succ, Nat.zero_add, Nat.reduceAdd]; exact rfl
              case stepq2 =>
                refine List.forall_mem_cons.2 ⟨?_, ?_⟩
                · intro xv bv ev WW hB hdp
                  refine Nn.op_of rfl ?_
                  have ed5 : xv 5 = .tuple #[.agg #[.slice none 0 0], .int .i64 cf] := hdp 5 (by kernel_rfl)
                  clear hdp
                  intro KK hKK
                  go_simp
                  exact Nn.act_eq (hKK.out _ _ (Below.refl _ _) rfl) (by first | rfl | simp [upd, ed5])
                refine List.forall_mem_cons.2 ⟨?_, ?_⟩
                · intro xv bv ev WW hB hdp
                  refine Nn.op_of rfl ?_
                  clear hdp
                  intro KK hKK
                  have z0 := ((E19.out.below hB).bx 4 rfl).cell 0 rfl
                  have z1 := ((E19.out.below hB).bx 4 rfl).cell 1 rfl
                  go_simp
                  exact Nn.act_eq (hKK.out (.agg #[.slice na (Nn.NatMath.len N) nk, .slice ea (Nn.NatMath.len E) ek]) _ (Below.refl _ _) rfl) (by first | rfl | simp [upd])
                refine List.forall_mem_cons.2 ⟨?_, ?_⟩
                · intro xv bv ev WW hB hdp
                  refine Nn.op_of rfl ?_
                  clear hdp
                  intro KK hKK
                  go_simp
                  exact Nn.act_eq (hKK.out _ _ (Below.refl _ _) rfl) (by first | rfl | simp [upd])
                refine List.forall_mem_cons.2 ⟨?_, ?_⟩
                · intro xv bv ev WW hB hdp
                  refine Nn.op_of rfl ?_
                  clear hdp
                  intro KK hKK
                  go_simp
                  exact Nn.act_eq (hKK.out _ _ (Below.refl _ _) rfl) (by first | rfl | simp [upd])
                refine List.forall_mem_cons.2 ⟨?_, ?_⟩
                · intro xv bv ev WW hB hdp
                  refine Nn.op_of rfl ?_
                  have ed2 : xv 2 = .int .u64 (k : Int) := hdp 2 (by kernel_rfl)
                  clear hdp
                  intro KK hKK
                  go_simp
                  refine (of_c k HK9.out).mono ?_
                  rintro e WW' ⟨⟨da, dk, rfl, hd⟩, hb⟩
                  (try dsimp only)
                  (try simp only [Act.put, pq0, pq1, pq2])
                  exact Nn.act_eq (hKK.out _ _ hb ⟨_, _, rfl, hd⟩) (by first | rfl | simp [upd, ed2])
                refine List.forall_mem_cons.2 ⟨?_, ?_⟩
                · intro xv bv ev WW hB hdp
                  refine Nn.op_of rfl ?_
                  have ed0 : xv 0 = .agg #[.slice na (Nn.NatMath.len N) nk, .slice ea (Nn.NatMath.len E) ek] := hdp 0 (by kernel_rfl)
                  have ed1 : xv 1 = .slice ba l.length bk := hdp 1 (by kernel_rfl)
                  obtain ⟨da, dk, ed3, hd⟩ := (show (Nn.PNum k) (xv 3) (bv 3) (ev 3) WW from hdp 3 (by kernel_rfl))
                  clear hdp
                  intro KK hKK
                  go_simp
                  refine (Blind_e N E k l (gS.sl ((E19.out.below hB).fc 8 rfl)) (gS.sl ((E19.out.below hB).fc 7 rfl)) hd.out (Bs.any ((E19.out.below hB).fc 9 rfl)) HK.out (by simp [Nn.vld_digs, lk.out]) lk.out (ht.out.below (E19.out.below hB).bel) (by have := hm.out; omega) hh.out hc.out hcn.out).mono ?_
                  rintro e WW' ⟨rfl, hb⟩
                  (try dsimp only)
                  (try simp only [Act.put, pq0, pq1, pq2])
                  exact Nn.act_eq (hKK.out _ _ hb rfl) (by first | rfl | simp [upd, ed0, ed1, ed3])
                refine List.forall_mem_cons.2 ⟨?_, ?_⟩
                · intro xv bv ev WW hB hdp
                  refine Nn.op_of rfl ?_
                  have ed4 : xv 4 = .tuple #[.agg #[.slice none 0 0], .int .i64 cf] := hdp 4 (by kernel_rfl)
                  clear hdp
                  intro KK hKK
                  go_simp
                  exact Nn.act_eq (hKK.out _ _ (Below.refl _ _) rfl) (by first | rfl | simp [upd, ed4])
                refine List.forall_mem_cons.2 ⟨?_, ?_⟩
                · intro xv bv ev WW hB hdp
                  refine Nn.op_of rfl ?_
                  have ed5 : xv 5 = .tuple #[.agg #[.slice none 0 0], .int .i64 cf] := hdp 5 (by kernel_rfl)
                  clear hdp
                  intro KK hKK
                  go_simp
                  exact Nn.act_eq (hKK.out _ _ (Below.refl _ _) rfl) (by first | rfl | simp [upd, ed5])
                refine List.forall_mem_cons.2 ⟨?_, ?_⟩
                · intro xv bv ev WW hB hdp
                  refine Nn.op_of rfl ?_
                  clear hdp
                  intro KK hKK
                  go_simp
                  exact Nn.act_eq (hKK.out (.pointer (some ⟨WW.heap.size, 0, none⟩)) _ (Nn.below_one _ _) (PBx.mk hB rfl 24 [.slice none 0 0])) (by first | rfl | simp [upd])
                exact List.forall_mem_nil _
              case lateq2 =>
                intro xv bv ev WW hB hR
                have ed5 : xv 5 = .tuple #[.agg #[.slice none 0 0], .int .i64 cf] := hR 5 (by kernel_rfl)
                refine ⟨.int .i64 cf, rfl, fun hw => ?_⟩
                refine Nn.takeP (i := 7) (some 97) (v := .int .i64 cf) rfl rfl (by kernel_rfl) (by kernel_rfl) (by kernel_rfl) (fun _ _ _ h => h) (by rfl) ?_ ?_
                · (intro wS; go_simp; try with_reducible rfl)
                rw [show (#[true, true, true, true, true, true, true, false, true, false, false] : Array Bool).setIfInBounds 7 true = #[true, true, true, true, true, true, true, true, true, false, false] from by kernel_rfl]
                exact hw
              intro xv bv ev w16 hB hR hO
              have ed0 : xv 0 = .agg #[.slice na (Nn.NatMath.len N) nk, .slice ea (Nn.NatMath.len E) ek] := hR 0 (by kernel_rfl)
              have ed1 : xv 1 = .slice ba l.length bk := hR 1 (by kernel_rfl)
              have ed2 : xv 2 = .int .u64 (k : Int) := hR 2 (by kernel_rfl)
              obtain ⟨da, dk, ed3, hd⟩ := (show (Nn.PNum k) (xv 3) (bv 3) (ev 3) w16 from hR 3 (by kernel_rfl))
              have ed4 : xv 4 = .tuple #[.agg #[.slice none 0 0], .int .i64 cf] := hR 4 (by kernel_rfl)
              have ed5 : xv 5 = .tuple #[.agg #[.slice none 0 0], .int .i64 cf] := hR 5 (by kernel_rfl)
              have ed6 : xv 6 = .agg #[.slice none 0 0] := hR 6 (by kernel_rfl)
              have ed7 : xv 7 = .int .i64 cf := hR 7 (by kernel_rfl)
              obtain ⟨gb, ed8, hl8, hr8, hX8⟩ := (show (PBx w15.heap.size 24 [.slice none 0 0]) (xv 8) (bv 8) (ev 8) w16 from hR 8 (by kernel_rfl))
              simp only [ed0, ed1, ed2, ed3, ed4, ed5, ed6, ed7, ed8]
              have E20 := Lib.hid ((E19.out.gotBox hB hX8).noteS hd.out rfl)
              clear hB hR hO ed0 ed1 ed2 ed3 ed4 ed5 ed6 ed7 ed8 hd hl8 hr8 hX8 E19
              have b11 := E20.out.bx 0 rfl
              have c11_0 := b11.cell 0 rfl
              have f11_0 := b11.frozen 0
              clear b11
              refine wpAny_next (i := 9) (by kernel_rfl) rfl (fun KK hKK => ?_)
              go_simp
              have E21 : Hid (Env (fun _ => True) w [(gb, 24, [.slice none 0 0]), (w12.heap.size, 24, [.slice b2a (Nn.NatMath.len B) b2k]), (gx, 24, [.slice xa (Nn.NatMath.len X) xk]), (gy, 24, [.slice ya (Nn.NatMath.len Y) yk]), (w2.heap.size, 24, [.slice na (Nn.NatMath.len N) nk, .slice ea (Nn.NatMath.len E) ek]), (w.heap.size, 26, [.slice na (Nn.NatMath.len N) nk, .slice ea (Nn.NatMath.len E) ek])] [.gn (gS (.slice da (Nn.NatMath.len k) dk) (Nn.NatMath.digs k)), .gn (gS (.slice lsa (Nn.NatMath.len k) lsk) (Nn.NatMath.digs k)), .gn (gS (.slice b2a (Nn.NatMath.len B) b2k) (Nn.NatMath.digs B)), .gn (gS (.slice ya (Nn.NatMath.len Y) yk) (Nn.NatMath.digs Y)), .gn (gS (.slice va (Nn.NatMath.len Y0) vk) (Nn.NatMath.digs Y0)), .gn (gS (.slice xa (Nn.NatMath.len X) xk) (Nn.NatMath.digs X)), .gn (gS (.slice ua (Nn.NatMath.len X0) uk) (Nn.NatMath.digs X0)), .gn (gS (.slice lma (Nn.NatMath.len 401) lmk) (Nn.NatMath.digs 401)), .gn (gS (.slice ea (Nn.NatMath.len E) ek) (Nn.NatMath.digs E)), .gn (gS (.slice na (Nn.NatMath.len N) nk) (Nn.NatMath.digs N)), .bs (.slice ba l.length bk) l] _) := Lib.hid ((E20.out.set 0 0 (.slice none 0 0) rfl))
              refine hKK.out _ _ ?_
              clear hKK KK
              refine wpAny_next (i := 10) (by kernel_rfl) rfl (fun KK hKK => ?_)
              go_simp
              refine hKK.out _ _ ?_
              clear hKK KK
              refine wpAny_done (by kernel_rfl) ?_ _
              go_wp2_with fail
              clear c11_0 f11_0 E20
              generalize w16.setCell ⟨gb, 0, none⟩ (.slice none 0 0) = w17 at *
              refine' wp_region_phaseU (by kernel_rfl) [0, 1, 2, 3, 4, 5, 6, 8] 7 (by kernel_rfl) #[true, true, true, true, true, true, true, false, true, false, false] (by kernel_rfl) 3 (by kernel_rfl) #[true, true, true, true, true, true, true, true, true, false, false] (by kernel_rfl) 2 (by kernel_rfl) [Nn.PEq (.agg #[.slice na (Nn.NatMath.len N) nk, .slice ea (Nn.NatMath.len E) ek]), Nn.PEq (.agg #[.slice xa (Nn.NatMath.len X) xk]), Nn.PEq (.int .u64 (k : Int)), Nn.PNum k, Nn.PEq (.tuple #[.agg #[.slice none 0 0], .int .i64 cf]), Nn.PEq (.tuple #[.agg #[.slice none 0 0], .int .i64 cf]), Nn.PEq (.agg #[.slice none 0 0]), Nn.PEq (.int .i64 cf), PBx w17.heap.size 24 [.slice none 0 0], Fact.none, Fact.none] (List.forall_mem_cons.2 ⟨Nn.PEq.st _, List.forall_mem_cons.2 ⟨Nn.PEq.st _, List.forall_mem_cons.2 ⟨Nn.PEq.st _, List.forall_mem_cons.2 ⟨Nn.PNum.st _, List.forall_mem_cons.2 ⟨Nn.PEq.st _, List.forall_mem_cons.2 ⟨Nn.PEq.st _, List.forall_mem_cons.2 ⟨Nn.PEq.st _, List.forall_mem_cons.2 ⟨Nn.PEq.st _, List.forall_mem_cons.2 ⟨PBx.st _ _ _, List.forall_mem_cons.2 ⟨Fact.none_st, List.forall_mem_cons.2 ⟨Fact.none_st, List.forall_mem_nil _⟩⟩⟩⟩⟩⟩⟩⟩⟩⟩⟩) _ ?hFq3 ?stepq3 ?lateq3 ?doneq3
              case hFq3 => intro x; simp only [frameL, Act.put, List.setIfInBounds_toArray, List.set_cons_zero, List.set_cons_succ, Nat.zero_add, Nat.reduceAdd]; exact rfl
              case stepq3 =>
                refine List.forall_mem_cons.2 ⟨?_, ?_⟩
                · intro xv bv ev WW hB hdp
                  refine Nn.op_of rfl ?_
                  have ed5 : xv 5 = .tuple #[.agg #[.slice none 0 0], .int .i64 cf] := hdp 5 (by kernel_rfl)
                  clear hdp
                  intro KK hKK
                  go_simp
                  exact Nn.act_eq (hKK.out _ _ (Below.refl _ _) rfl) (by first | rfl | simp [upd, ed5])
                refine List.forall_mem_cons.2 ⟨?_, ?_⟩
                · intro xv bv ev WW hB hdp
                  refine Nn.op_of rfl ?_
                  clear hdp
                  intro KK hKK
                  have z0 := ((E21.out.below hB).bx 5 rfl).cell 0 rfl
                  have z1 := ((E21.out.below hB).bx 5 rfl).cell 1 rfl
                  go_simp
                  exact Nn.act_eq (hKK.out (.agg #[.slice na (Nn.NatMath.len N) nk, .slice ea (Nn.NatMath.len E) ek]) _ (Below.refl _ _) rfl) (by first | rfl | simp [upd])
                refine List.forall_mem_cons.2 ⟨?_, ?_⟩
                · intro xv bv ev WW hB hdp
                  refine Nn.op_of rfl ?_
                  clear hdp
                  intro KK hKK
                  have z0 := ((E21.out.below hB).bx 2 rfl).cell 0 rfl
                  go_simp
                  exact Nn.act_eq (hKK.out (.agg #[.slice xa (Nn.NatMath.len X) xk]) _ (Below.refl _ _) rfl) (by first | rfl | simp [upd])
                refine List.forall_mem_cons.2 ⟨?_, ?_⟩
                · intro xv bv ev WW hB hdp
                  refine Nn.op_of rfl ?_
                  clear hdp
                  intro KK hKK
                  go_simp
                  exact Nn.act_eq (hKK.out _ _ (Below.refl _ _) rfl) (by first | rfl | simp [upd])
                refine List.forall_mem_cons.2 ⟨?_, ?_⟩
                · intro xv bv ev WW hB hdp
                  refine Nn.op_of rfl ?_
                  have ed2 : xv 2 = .int .u64 (k : Int) := hdp 2 (by kernel_rfl)
                  clear hdp
                  intro KK hKK
                  go_simp
                  refine (of_c k HK9.out).mono ?_
                  rintro e WW' ⟨⟨fa, fk, rfl, hf⟩, hb⟩
                  (try dsimp only)
                  (try simp only [Act.put, pq0, pq1, pq2])
                  exact Nn.act_eq (hKK.out _ _ hb ⟨_, _, rfl, hf⟩) (by first | rfl | simp [upd, ed2])
                refine List.forall_mem_cons.2 ⟨?_, ?_⟩
                · intro xv bv ev WW hB hdp
                  refine Nn.op_of rfl ?_
                  have ed0 : xv 0 = .agg #[.slice na (Nn.NatMath.len N) nk, .slice ea (Nn.NatMath.len E) ek] := hdp 0 (by kernel_rfl)
                  have ed1 : xv 1 = .agg #[.slice xa (Nn.NatMath.len X) xk] := hdp 1 (by kernel_rfl)
                  obtain ⟨fa, fk, ed3, hf⟩ := (show (Nn.PNum k) (xv 3) (bv 3) (ev 3) WW from hdp 3 (by kernel_rfl))
                  clear hdp
                  intro KK hKK
                  go_simp
                  refine (Unblind_e N E X k (gS.sl ((E21.out.below hB).fc 9 rfl)) (gS.sl ((E21.out.below hB).fc 8 rfl)) (gS.sl ((E21.out.below hB).fc 5 rfl)) hf.out HK.out (by simp [Nn.vld_digs, lk.out, HL.out]) HL.out.2.1 lk.out (decide_eq_true HX.out.1) hc.out hcn.out).mono ?_
                  rintro e WW' ⟨rfl, hb⟩
                  (try dsimp only)
                  (try simp only [Act.put, pq0, pq1, pq2])
                  exact Nn.act_eq (hKK.out _ _ hb rfl) (by first | rfl | simp [upd, ed0, ed1, ed3])
                refine List.forall_mem_cons.2 ⟨?_, ?_⟩
                · intro xv bv ev WW hB hdp
                  refine Nn.op_of rfl ?_
                  have ed4 : xv 4 = .tuple #[.agg #[.slice none 0 0], .int .i64 cf] := hdp 4 (by kernel_rfl)
                  clear hdp
                  intro KK hKK
                  go_simp
                  exact Nn.act_eq (hKK.out _ _ (Below.refl _ _) rfl) (by first | rfl | simp [upd, ed4])
                refine List.forall_mem_cons.2 ⟨?_, ?_⟩
                · intro xv bv ev WW hB hdp
                  refine Nn.op_of rfl ?_
                  have ed5 : xv 5 = .tuple #[.agg #[.slice none 0 0], .int .i64 cf] := hdp 5 (by kernel_rfl)
                  clear hdp
                  intro KK hKK
                  go_simp
                  exact Nn.act_eq (hKK.out _ _ (Below.refl _ _) rfl) (by first | rfl | simp [upd, ed5])
                refine List.forall_mem_cons.2 ⟨?_, ?_⟩
                · intro xv bv ev WW hB hdp
                  refine Nn.op_of rfl ?_
                  clear hdp
                  intro KK hKK
                  go_simp
                  exact Nn.act_eq (hKK.out (.pointer (some ⟨WW.heap.size, 0, none⟩)) _ (Nn.below_one _ _) (PBx.mk hB rfl 24 [.slice none 0 0])) (by first | rfl | simp [upd])
                exact List.forall_mem_nil _
              case lateq3 =>
                intro xv bv ev WW hB hR
                have ed5 : xv 5 = .tuple #[.agg #[.slice none 0 0], .int .i64 cf] := hR 5 (by kernel_rfl)
                refine ⟨.int .i64 cf, rfl, fun hw => ?_⟩
                refine Nn.takeP (i := 7) (some 105) (v := .int .i64 cf) rfl rfl (by kernel_rfl) (by kernel_rfl) (by kernel_rfl) (fun _ _ _ h => h) (by rfl) ?_ ?_
                · (intro wS; go_simp; try with_reducible rfl)
                rw [show (#[true, true, true, true, true, true, true, false, true, false, false] : Array Bool).setIfInBounds 7 true = #[true, true, true, true, true, true, true, true, true, false, false] from by kernel_rfl]
                exact hw
              intro xv bv ev w18 hB hR hO
              have ed0 : xv 0 = .agg #[.slice na (Nn.NatMath.len N) nk, .slice ea (Nn.NatMath.len E) ek] := hR 0 (by kernel_rfl)
              have ed1 : xv 1 = .agg #[.slice xa (Nn.NatMath.len X) xk] := hR 1 (by kernel_rfl)
              have ed2 : xv 2 = .int .u64 (k : Int) := hR 2 (by kernel_rfl)
              obtain ⟨fa, fk, ed3, hf⟩ := (show (Nn.PNum k) (xv 3) (bv 3) (ev 3) w18 from hR 3 (by kernel_rfl))
              have ed4 : xv 4 = .tuple #[.agg #[.slice none 0 0], .int .i64 cf] := hR 4 (by kernel_rfl)
              have ed5 : xv 5 = .tuple #[.agg #[.slice none 0 0], .int .i64 cf] := hR 5 (by kernel_rfl)
              have ed6 : xv 6 = .agg #[.slice none 0 0] := hR 6 (by kernel_rfl)
              have ed7 : xv 7 = .int .i64 cf := hR 7 (by kernel_rfl)
              obtain ⟨gu, ed8, hl8, hr8, hX8⟩ := (show (PBx w17.heap.size 24 [.slice none 0 0]) (xv 8) (bv 8) (ev 8) w18 from hR 8 (by kernel_rfl))
              simp only [ed0, ed1, ed2, ed3, ed4, ed5, ed6, ed7, ed8]
              have E22 := Lib.hid ((E21.out.gotBox hB hX8).noteS hf.out rfl)
              clear hB hR hO ed0 ed1 ed2 ed3 ed4 ed5 ed6 ed7 ed8 hf hl8 hr8 hX8 E21
              have b12 := E22.out.bx 0 rfl
              have c12_0 := b12.cell 0 rfl
              have f12_0 := b12.frozen 0
              clear b12
              refine wpAny_next (i := 9) (by kernel_rfl) rfl (fun KK hKK => ?_)
              go_simp
              have E23 : Hid (Env (fun _ => True) w [(gu, 24, [.slice none 0 0]), (gb, 24, [.slice none 0 0]), (w12.heap.size, 24, [.slice b2a (Nn.NatMath.len B) b2k]), (gx, 24, [.slice xa (Nn.NatMath.len X) xk]), (gy, 24, [.slice ya (Nn.NatMath.len Y) yk]), (w2.heap.size, 24, [.slice na (Nn.NatMath.len N) nk, .slice ea (Nn.NatMath.len E) ek]), (w.heap.size, 26, [.slice na (Nn.NatMath.len N) nk, .slice ea (Nn.NatMath.len E) ek])] [.gn (gS (.slice fa (Nn.NatMath.len k) fk) (Nn.NatMath.digs k)), .gn (gS (.slice da (Nn.NatMath.len k) dk) (Nn.NatMath.digs k)), .gn (gS (.slice lsa (Nn.NatMath.len k) lsk) (Nn.NatMath.digs k)), .gn (gS (.slice b2a (Nn.NatMath.len B) b2k) (Nn.NatMath.digs B)), .gn (gS (.slice ya (Nn.NatMath.len Y) yk) (Nn.NatMath.digs Y)), .gn (gS (.slice va (Nn.NatMath.len Y0) vk) (Nn.NatMath.digs Y0)), .gn (gS (.slice xa (Nn.NatMath.len X) xk) (Nn.NatMath.digs X)), .gn (gS (.slice ua (Nn.NatMath.len X0) uk) (Nn.NatMath.digs X0)), .gn (gS (.slice lma (Nn.NatMath.len 401) lmk) (Nn.NatMath.digs 401)), .gn (gS (.slice ea (Nn.NatMath.len E) ek) (Nn.NatMath.digs E)), .gn (gS (.slice na (Nn.NatMath.len N) nk) (Nn.NatMath.digs N)), .bs (.slice ba l.length bk) l] _) := Lib.hid ((E22.out.set 0 0 (.slice none 0 0) rfl))
              refine hKK.out _ _ ?_
              clear hKK KK
              refine wpAny_next (i := 10) (by kernel_rfl) rfl (fun KK hKK => ?_)
              go_simp
              refine hKK.out _ _ ?_
              clear hKK KK
              refine wpAny_done (by kernel_rfl) ?_ _
              have EZ := Lib.hid (((((E23.out.drop).drop).forget).forget).forget)
              go_wp2
              go_roundg (N - (k + 1))
              case rel => exact ⟨c, k + 1, by first | rfl | rw [u2], by first | rfl | rw [u1], EZ, Lib.hid ⟨⟨⟨by omega, by have := HY.out; omega⟩, by rw [HA.out.1.2]; obtain ⟨j, rfl⟩ : ∃ j, k = j + 1 := ⟨k - 1, by have := HA.out; omega⟩; rw [Nat.add_sub_cancel, Nat.add_sub_cancel, cG, if_neg HNE.out]; rfl⟩, rfl⟩⟩
              case measure => exact by have := HY.out; have := HA.out; omega
            · subst hcz
              obtain ⟨r1, hr10⟩ : ∃ r1, h * (k ^ E % N) % N = r1 := ⟨_, rfl⟩
              obtain ⟨r2, hr20⟩ : ∃ r2, X * Nn.NatMath.invV k N % N = r2 := ⟨_, rfl⟩
              have hr1 := Lib.hid hr10
              have hr2 := Lib.hid hr20
              clear hr10 hr20
              have LR : Hid (Nn.NatMath.len r1 ≤ 64 ∧ Nn.NatMath.len r2 ≤ 64) := Lib.hid ⟨by rw [← hr1.out]; exact Nat.le_trans (Nn.NatMath.len_mono (Nat.le_of_lt (Nat.mod_lt _ (by have := HK.out.n15; omega)))) (Nat.le_trans HK.out.lN (by omega)), by rw [← hr2.out]; exact Nat.le_trans (Nn.NatMath.len_mono (Nat.le_of_lt (Nat.mod_lt _ (by have := HK.out.n15; omega)))) (Nat.le_trans HK.out.lN (by omega))⟩
              go_wp2_with fail
              refine' wp_region_phaseU (by kernel_rfl) [0, 1, 2, 3, 4, 5, 6, 8] 7 (by kernel_rfl) #[true, true, true, true, true, true, true, false, true, false, false] (by kernel_rfl) 3 (by kernel_rfl) #[true, true, true, true, true, true, true, true, true, false, false] (by kernel_rfl) 2 (by kernel_rfl) [Nn.PEq (.agg #[.slice na (Nn.NatMath.len N) nk, .slice ea (Nn.NatMath.len E) ek]), Nn.PEq (.slice ba l.length bk), Nn.PEq (.int .u64 (k : Int)), Nn.PNum k, Nn.PTup r1 (.int .i64 0), Nn.PTup r1 (.int .i64 0), Nn.PNum r1, Nn.PEq (.int .i64 0), PBx w15.heap.size 24 [.slice none 0 0], Fact.none, Fact.none] (List.forall_mem_cons.2 ⟨Nn.PEq.st _, List.forall_mem_cons.2 ⟨Nn.PEq.st _, List.forall_mem_cons.2 ⟨Nn.PEq.st _, List.forall_mem_cons.2 ⟨Nn.PNum.st _, List.forall_mem_cons.2 ⟨Nn.PTup.st _ _, List.forall_mem_cons.2 ⟨Nn.PTup.st _ _, List.forall_mem_cons.2 ⟨Nn.PNum.st _, List.forall_mem_cons.2 ⟨Nn.PEq.st _, List.forall_mem_cons.2 ⟨PBx.st _ _ _, List.forall_mem_cons.2 ⟨Fact.none_st, List.forall_mem_cons.2 ⟨Fact.none_st, List.forall_mem_nil _⟩⟩⟩⟩⟩⟩⟩⟩⟩⟩⟩) _ ?hFq4 ?stepq4 ?lateq4 ?doneq4
              case hFq4 => intro x; simp only [frameL, Act.put, List.setIfInBounds_toArray, List.set_cons_zero, List.set_cons_succ, Nat.zero_add, Nat.reduceAdd]; exact rfl
              case stepq4 =>
                refine List.forall_mem_cons.2 ⟨?_, ?_⟩
                · intro xv bv ev WW hB hdp
                  refine Nn.op_of rfl ?_
                  obtain ⟨ia, ik, ed5, hi⟩ := (show (Nn.PTup r1 (.int .i64 0)) (xv 5) (bv 5) (ev 5) WW from hdp 5 (by kernel_rfl))
                  clear hdp
                  intro KK hKK
                  go_simp
                  exact Nn.act_eq (hKK.out _ _ (Below.refl _ _) rfl) (by first | rfl | simp [upd, ed5])
                refine List.forall_mem_cons.2 ⟨?_, ?_⟩
                · intro xv bv ev WW hB hdp
                  refine Nn.op_of rfl ?_
                  clear hdp
                  intro KK hKK
                  have z0 := ((E19.out.below hB).bx 4 rfl).cell 0 rfl
                  have z1 := ((E19.out.below hB).bx 4 rfl).cell 1 rfl
                  go_simp
                  exact Nn.act_eq (hKK.out (.agg #[.slice na (Nn.NatMath.len N) nk, .slice ea (Nn.NatMath.len E) ek]) _ (Below.refl _ _) rfl) (by first | rfl | simp [upd])
                refine List.forall_mem_cons.2 ⟨?_, ?_⟩
                · intro xv bv ev WW hB hdp
                  refine Nn.op_of rfl ?_
                  clear hdp
                  intro KK hKK
                  go_simp
                  exact Nn.act_eq (hKK.out _ _ (Below.refl _ _) rfl) (by first | rfl | simp [upd])
                refine List.forall_mem_cons.2 ⟨?_, ?_⟩
                · intro xv bv ev WW hB hdp
                  refine Nn.op_of rfl ?_
                  clear hdp
                  intro KK hKK
                  go_simp
                  exact Nn.act_eq (hKK.out _ _ (Below.refl _ _) rfl) (by first | rfl | simp [upd])
                refine List.forall_mem_cons.2 ⟨?_, ?_⟩
                · intro xv bv ev WW hB hdp
                  refine Nn.op_of rfl ?_
                  have ed2 : xv 2 = .int .u64 (k : Int) := hdp 2 (by kernel_rfl)
                  clear hdp
                  intro KK hKK
                  go_simp
                  refine (of_c k HK9.out).mono ?_
                  rintro e WW' ⟨⟨da, dk, rfl, hd⟩, hb⟩
                  (try dsimp only)
                  (try simp only [Act.put, pq0, pq1, pq2])
                  exact Nn.act_eq (hKK.out _ _ hb ⟨_, _, rfl, hd⟩) (by first | rfl | simp [upd, ed2])
                refine List.forall_mem_cons.2 ⟨?_, ?_⟩
                · intro xv bv ev WW hB hdp
                  refine Nn.op_of rfl ?_
                  have ed0 : xv 0 = .agg #[.slice na (Nn.NatMath.len N) nk, .slice ea (Nn.NatMath.len E) ek] := hdp 0 (by kernel_rfl)
                  have ed1 : xv 1 = .slice ba l.length bk := hdp 1 (by kernel_rfl)
                  obtain ⟨da, dk, ed3, hd⟩ := (show (Nn.PNum k) (xv 3) (bv 3) (ev 3) WW from hdp 3 (by kernel_rfl))
                  clear hdp
                  intro KK hKK
                  go_simp
                  refine (Blind_ok N E k l (gS.sl ((E19.out.below hB).fc 8 rfl)) (gS.sl ((E19.out.below hB).fc 7 rfl)) hd.out (Bs.any ((E19.out.below hB).fc 9 rfl)) HK.out (by simp [Nn.vld_digs, lk.out]) lk.out (ht.out.below (E19.out.below hB).bel) (by have := hm.out; omega) hh.out hc.out rfl hr1.out).mono ?_
                  rintro e WW' ⟨⟨ia, ik, rfl, hi⟩, hb⟩
                  (try dsimp only)
                  (try simp only [Act.put, pq0, pq1, pq2])
                  exact Nn.act_eq (hKK.out _ _ hb ⟨_, _, rfl, hi⟩) (by first | rfl | simp [upd, ed0, ed1, ed3])
                refine List.forall_mem_cons.2 ⟨?_, ?_⟩
                · intro xv bv ev WW hB hdp
                  refine Nn.op_of rfl ?_
                  obtain ⟨ia, ik, ed4, hi⟩ := (show (Nn.PTup r1 (.int .i64 0)) (xv 4) (bv 4) (ev 4) WW from hdp 4 (by kernel_rfl))
                  clear hdp
                  intro KK hKK
                  go_simp
                  exact Nn.act_eq (hKK.out _ _ (Below.refl _ _) ⟨_, _, rfl, hi⟩) (by first | rfl | simp [upd, ed4])
                refine List.forall_mem_cons.2 ⟨?_, ?_⟩
                · intro xv bv ev WW hB hdp
                  refine Nn.op_of rfl ?_
                  obtain ⟨ia, ik, ed5, hi⟩ := (show (Nn.PTup r1 (.int .i64 0)) (xv 5) (bv 5) (ev 5) WW from hdp 5 (by kernel_rfl))
                  clear hdp
                  intro KK hKK
                  go_simp
                  exact Nn.act_eq (hKK.out _ _ (Below.refl _ _) ⟨_, _, rfl, hi⟩) (by first | rfl | simp [upd, ed5])
                refine List.forall_mem_cons.2 ⟨?_, ?_⟩
                · intro xv bv ev WW hB hdp
                  refine Nn.op_of rfl ?_
                  clear hdp
                  intro KK hKK
                  go_simp
                  exact Nn.act_eq (hKK.out (.pointer (some ⟨WW.heap.size, 0, none⟩)) _ (Nn.below_one _ _) (PBx.mk hB rfl 24 [.slice none 0 0])) (by first | rfl | simp [upd])
                exact List.forall_mem_nil _
              case lateq4 =>
                intro xv bv ev WW hB hR
                obtain ⟨ia, ik, ed5, hi⟩ := (show (Nn.PTup r1 (.int .i64 0)) (xv 5) (bv 5) (ev 5) WW from hR 5 (by kernel_rfl))
                refine ⟨.int .i64 0, rfl, fun hw => ?_⟩
                refine Nn.takeP (i := 7) (some 97) (v := .int .i64 0) rfl rfl (by kernel_rfl) (by kernel_rfl) (by kernel_rfl) (fun _ _ _ h => h) (by rfl) ?_ ?_
                · (intro wS; go_simp; try with_reducible rfl)
                rw [show (#[true, true, true, true, true, true, true, false, true, false, false] : Array Bool).setIfInBounds 7 true = #[true, true, true, true, true, true, true, true, true, false, false] from by kernel_rfl]
                exact hw
              intro xv bv ev w16 hB hR hO
              have ed0 : xv 0 = .agg #[.slice na (Nn.NatMath.len N) nk, .slice ea (Nn.NatMath.len E) ek] := hR 0 (by kernel_rfl)
              have ed1 : xv 1 = .slice ba l.length bk := hR 1 (by kernel_rfl)
              have ed2 : xv 2 = .int .u64 (k : Int) := hR 2 (by kernel_rfl)
              obtain ⟨da, dk, ed3, hd⟩ := (show (Nn.PNum k) (xv 3) (bv 3) (ev 3) w16 from hR 3 (by kernel_rfl))
              obtain ⟨ia, ik, ed6, hi⟩ := (show (Nn.PNum r1) (xv 6) (bv 6) (ev 6) w16 from hR 6 (by kernel_rfl))
              have ed7 : xv 7 = .int .i64 0 := hR 7 (by kernel_rfl)
              obtain ⟨gb, ed8, hl8, hr8, hX8⟩ := (show (PBx w15.heap.size 24 [.slice none 0 0]) (xv 8) (bv 8) (ev 8) w16 from hR 8 (by kernel_rfl))
              simp only [ed0, ed1, ed2, ed3, ed6, ed7, ed8]
              have E20 := Lib.hid (((E19.out.gotBox hB hX8).noteS hd.out rfl).noteS hi.out rfl)
              clear hB hR hO ed0 ed1 ed2 ed3 ed6 ed7 ed8 hd hi hl8 hr8 hX8 E19
              have b11 := E20.out.bx 0 rfl
              have c11_0 := b11.cell 0 rfl
              have f11_0 := b11.frozen 0
              clear b11
              refine wpAny_next (i := 9) (by kernel_rfl) rfl (fun KK hKK => ?_)
              go_simp
              have E21 : Hid (Env (fun _ => True) w [(gb, 24, [.slice ia (Nn.NatMath.len r1) ik]), (w12.heap.size, 24, [.slice b2a (Nn.NatMath.len B) b2k]), (gx, 24, [.slice xa (Nn.NatMath.len X) xk]), (gy, 24, [.slice ya (Nn.NatMath.len Y) yk]), (w2.heap.size, 24, [.slice na (Nn.NatMath.len N) nk, .slice ea (Nn.NatMath.len E) ek]), (w.heap.size, 26, [.slice na (Nn.NatMath.len N) nk, .slice ea (Nn.NatMath.len E) ek])] [.gn (gS (.slice ia (Nn.NatMath.len r1) ik) (Nn.NatMath.digs r1)), .gn (gS (.slice da (Nn.NatMath.len k) dk) (Nn.NatMath.digs k)), .gn (gS (.slice lsa (Nn.NatMath.len k) lsk) (Nn.NatMath.digs k)), .gn (gS (.slice b2a (Nn.NatMath.len B) b2k) (Nn.NatMath.digs B)), .gn (gS (.slice ya (Nn.NatMath.len Y) yk) (Nn.NatMath.digs Y)), .gn (gS (.slice va (Nn.NatMath.len Y0) vk) (Nn.NatMath.digs Y0)), .gn (gS (.slice xa (Nn.NatMath.len X) xk) (Nn.NatMath.digs X)), .gn (gS (.slice ua (Nn.NatMath.len X0) uk) (Nn.NatMath.digs X0)), .gn (gS (.slice lma (Nn.NatMath.len 401) lmk) (Nn.NatMath.digs 401)), .gn (gS (.slice ea (Nn.NatMath.len E) ek) (Nn.NatMath.digs E)), .gn (gS (.slice na (Nn.NatMath.len N) nk) (Nn.NatMath.digs N)), .bs (.slice ba l.length bk) l] _) := Lib.hid ((E20.out.set 0 0 (.slice ia (Nn.NatMath.len r1) ik) rfl))
              refine hKK.out _ _ ?_
              clear hKK KK
              refine wpAny_next (i := 10) (by kernel_rfl) rfl (fun KK hKK => ?_)
              go_simp
              refine hKK.out _ _ ?_
              clear hKK KK
              refine wpAny_done (by kernel_rfl) ?_ _
              go_wp2_with fail
              clear c11_0 f11_0 E20
              generalize w16.setCell ⟨gb, 0, none⟩ (.slice ia (Nn.NatMath.len r1) ik) = w17 at *
              refine' wp_region_phaseU (by kernel_rfl) [0, 1, 2, 3, 4, 5, 6, 8] 7 (by kernel_rfl) #[true, true, true, true, true, true, true, false, true, false, false] (by kernel_rfl) 3 (by kernel_rfl) #[true, true, true, true, true, true, true, true, true, false, false] (by kernel_rfl) 2 (by kernel_rfl) [Nn.PEq (.agg #[.slice na (Nn.NatMath.len N) nk, .slice ea (Nn.NatMath.len E) ek]), Nn.PEq (.agg #[.slice xa (Nn.NatMath.len X) xk]), Nn.PEq (.int .u64 (k : Int)), Nn.PNum k, Nn.PTup r2 (.int .i64 0), Nn.PTup r2 (.int .i64 0), Nn.PNum r2, Nn.PEq (.int .i64 0), PBx w17.heap.size 24 [.slice none 0 0], Fact.none, Fact.none] (List.forall_mem_cons.2 ⟨Nn.PEq.st _, List.forall_mem_cons.2 ⟨Nn.PEq.st _, List.forall_mem_cons.2 ⟨Nn.PEq.st _, List.forall_mem_cons.2 ⟨Nn.PNum.st _, List.forall_mem_cons.2 ⟨Nn.PTup.st _ _, List.forall_mem_cons.2 ⟨Nn.PTup.st _ _, List.forall_mem_cons.2 ⟨Nn.PNum.st _, List.forall_mem_cons.2 ⟨Nn.PEq.st _, List.forall_mem_cons.2 ⟨PBx.st _ _ _, List.forall_mem_cons.2 ⟨Fact.none_st, List.forall_mem_cons.2 ⟨Fact.none_st, List.forall_mem_nil _⟩⟩⟩⟩⟩⟩⟩⟩⟩⟩⟩) _ ?hFq5 ?stepq5 ?lateq5 ?doneq5
              case hFq5 => intro x; simp only [frameL, Act.put, List.setIfInBounds_toArray, List.set_cons_zero, List.set_cons_succ, Nat.zero_add, Nat.reduceAdd]; exact rfl
              case stepq5 =>
                refine List.forall_mem_cons.2 ⟨?_, ?_⟩
                · intro xv bv ev WW hB hdp
                  refine Nn.op_of rfl ?_
                  obtain ⟨ja, jk, ed5, hj⟩ := (show (Nn.PTup r2 (.int .i64 0)) (xv 5) (bv 5) (ev 5) WW from hdp 5 (by kernel_rfl))
                  clear hdp
                  intro KK hKK
                  go_simp
                  exact Nn.act_eq (hKK.out _ _ (Below.refl _ _) rfl) (by first | rfl | simp [upd, ed5])
                refine List.forall_mem_cons.2 ⟨?_, ?_⟩
                · intro xv bv ev WW hB hdp
                  refine Nn.op_of rfl ?_
                  clear hdp
                  intro KK hKK
                  have z0 := ((E21.out.below hB).bx 5 rfl).cell 0 rfl
                  have z1 := ((E21.out.below hB).bx 5 rfl).cell 1 rfl
                  go_simp
                  exact Nn.act_eq (hKK.out (.agg #[.slice na (Nn.NatMath.len N) nk, .slice ea (Nn.NatMath.len E) ek]) _ (Below.refl _ _) rfl) (by first | rfl | simp [upd])
                refine List.forall_mem_cons.2 ⟨?_, ?_⟩
                · intro xv bv ev WW hB hdp
                  refine Nn.op_of rfl ?_
                  clear hdp
                  intro KK hKK
                  have z0 := ((E21.out.below hB).bx 2 rfl).cell 0 rfl
                  go_simp
                  exact Nn.act_eq (hKK.out (.agg #[.slice xa (Nn.NatMath.len X) xk]) _ (Below.refl _ _) rfl) (by first | rfl | simp [upd])
                refine List.forall_mem_cons.2 ⟨?_, ?_⟩
                · intro xv bv ev WW hB hdp
                  refine Nn.op_of rfl ?_
                  clear hdp
                  intro KK hKK
                  go_simp
                  exact Nn.act_eq (hKK.out _ _ (Below.refl _ _) rfl) (by first | rfl | simp [upd])
                refine List.forall_mem_cons.2 ⟨?_, ?_⟩
                · intro xv bv ev WW hB hdp
                  refine Nn.op_of rfl ?_
                  have ed2 : xv 2 = .int .u64 (k : Int) := hdp 2 (by kernel_rfl)
                  clear hdp
                  intro KK hKK
                  go_simp
                  refine (of_c k HK9.out).mono ?_
                  rintro e WW' ⟨⟨fa, fk, rfl, hf⟩, hb⟩
                  (try dsimp only)
                  (try simp only [Act.put, pq0, pq1, pq2])
                  exact Nn.act_eq (hKK.out _ _ hb ⟨_, _, rfl, hf⟩) (by first | rfl | simp [upd, ed2])
                refine List.forall_mem_cons.2 ⟨?_, ?_⟩
                · intro xv bv ev WW hB hdp
                  refine Nn.op_of rfl ?_
                  have ed0 : xv 0 = .agg #[.slice na (Nn.NatMath.len N) nk, .slice ea (Nn.NatMath.len E) ek] := hdp 0 (by kernel_rfl)
                  have ed1 : xv 1 = .agg #[.slice xa (Nn.NatMath.len X) xk] := hdp 1 (by kernel_rfl)
                  obtain ⟨fa, fk, ed3, hf⟩ := (show (Nn.PNum k) (xv 3) (bv 3) (ev 3) WW from hdp 3 (by kernel_rfl))
                  clear hdp
                  intro KK hKK
                  go_simp
                  refine (Unblind_ok N E X k (gS.sl ((E21.out.below hB).fc 10 rfl)) (gS.sl ((E21.out.below hB).fc 9 rfl)) (gS.sl ((E21.out.below hB).fc 6 rfl)) hf.out HK.out (by simp [Nn.vld_digs, lk.out, HL.out]) HL.out.2.1 lk.out (decide_eq_true HX.out.1) hc.out rfl hr2.out).mono ?_
                  rintro e WW' ⟨⟨ja, jk, rfl, hj⟩, hb⟩
                  (try dsimp only)
                  (try simp only [Act.put, pq0, pq1, pq2])
                  exact Nn.act_eq (hKK.out _ _ hb ⟨_, _, rfl, hj⟩) (by first | rfl | simp [upd, ed0, ed1, ed3])
                refine List.forall_mem_cons.2 ⟨?_, ?_⟩
                · intro xv bv ev WW hB hdp
                  refine Nn.op_of rfl ?_
                  obtain ⟨ja, jk, ed4, hj⟩ := (show (Nn.PTup r2 (.int .i64 0)) (xv 4) (bv 4) (ev 4) WW from hdp 4 (by kernel_rfl))
                  clear hdp
                  intro KK hKK
                  go_simp
                  exact Nn.act_eq (hKK.out _ _ (Below.refl _ _) ⟨_, _, rfl, hj⟩) (by first | rfl | simp [upd, ed4])
                refine List.forall_mem_cons.2 ⟨?_, ?_⟩
                · intro xv bv ev WW hB hdp
                  refine Nn.op_of rfl ?_
                  obtain ⟨ja, jk, ed5, hj⟩ := (show (Nn.PTup r2 (.int .i64 0)) (xv 5) (bv 5) (ev 5) WW from hdp 5 (by kernel_rfl))
                  clear hdp
                  intro KK hKK
                  go_simp
                  exact Nn.act_eq (hKK.out _ _ (Below.refl _ _) ⟨_, _, rfl, hj⟩) (by first | rfl | simp [upd, ed5])
                refine List.forall_mem_cons.2 ⟨?_, ?_⟩
                · intro xv bv ev WW hB hdp
                  refine Nn.op_of rfl ?_
                  clear hdp
                  intro KK hKK
                  go_simp
                  exact Nn.act_eq (hKK.out (.pointer (some ⟨WW.heap.size, 0, none⟩)) _ (Nn.below_one _ _) (PBx.mk hB rfl 24 [.slice none 0 0])) (by first | rfl | simp [upd])
                exact List.forall_mem_nil _
              case lateq5 =>
                intro xv bv ev WW hB hR
                obtain ⟨ja, jk, ed5, hj⟩ := (show (Nn.PTup r2 (.int .i64 0)) (xv 5) (bv 5) (ev 5) WW from hR 5 (by kernel_rfl))
                refine ⟨.int .i64 0, rfl, fun hw => ?_⟩
                refine Nn.takeP (i := 7) (some 105) (v := .int .i64 0) rfl rfl (by kernel_rfl) (by kernel_rfl) (by kernel_rfl) (fun _ _ _ h => h) (by rfl) ?_ ?_
                · (intro wS; go_simp; try with_reducible rfl)
                rw [show (#[true, true, true, true, true, true, true, false, true, false, false] : Array Bool).setIfInBounds 7 true = #[true, true, true, true, true, true, true, true, true, false, false] from by kernel_rfl]
                exact hw
              intro xv bv ev w18 hB hR hO
              have ed0 : xv 0 = .agg #[.slice na (Nn.NatMath.len N) nk, .slice ea (Nn.NatMath.len E) ek] := hR 0 (by kernel_rfl)
              have ed1 : xv 1 = .agg #[.slice xa (Nn.NatMath.len X) xk] := hR 1 (by kernel_rfl)
              have ed2 : xv 2 = .int .u64 (k : Int) := hR 2 (by kernel_rfl)
              obtain ⟨fa, fk, ed3, hf⟩ := (show (Nn.PNum k) (xv 3) (bv 3) (ev 3) w18 from hR 3 (by kernel_rfl))
              obtain ⟨ja, jk, ed6, hj⟩ := (show (Nn.PNum r2) (xv 6) (bv 6) (ev 6) w18 from hR 6 (by kernel_rfl))
              have ed7 : xv 7 = .int .i64 0 := hR 7 (by kernel_rfl)
              obtain ⟨gu, ed8, hl8, hr8, hX8⟩ := (show (PBx w17.heap.size 24 [.slice none 0 0]) (xv 8) (bv 8) (ev 8) w18 from hR 8 (by kernel_rfl))
              simp only [ed0, ed1, ed2, ed3, ed6, ed7, ed8]
              have E22 := Lib.hid (((E21.out.gotBox hB hX8).noteS hf.out rfl).noteS hj.out rfl)
              clear hB hR hO ed0 ed1 ed2 ed3 ed6 ed7 ed8 hf hj hl8 hr8 hX8 E21
              have b12 := E22.out.bx 0 rfl
              have c12_0 := b12.cell 0 rfl
              have f12_0 := b12.frozen 0
              clear b12
              refine wpAny_next (i := 9) (by kernel_rfl) rfl (fun KK hKK => ?_)
              go_simp
              have E23 : Hid (Env (fun _ => True) w [(gu, 24, [.slice ja (Nn.NatMath.len r2) jk]), (gb, 24, [.slice ia (Nn.NatMath.len r1) ik]), (w12.heap.size, 24, [.slice b2a (Nn.NatMath.len B) b2k]), (gx, 24, [.slice xa (Nn.NatMath.len X) xk]), (gy, 24, [.slice ya (Nn.NatMath.len Y) yk]), (w2.heap.size, 24, [.slice na (Nn.NatMath.len N) nk, .slice ea (Nn.NatMath.len E) ek]), (w.heap.size, 26, [.slice na (Nn.NatMath.len N) nk, .slice ea (Nn.NatMath.len E) ek])] [.gn (gS (.slice ja (Nn.NatMath.len r2) jk) (Nn.NatMath.digs r2)), .gn (gS (.slice fa (Nn.NatMath.len k) fk) (Nn.NatMath.digs k)), .gn (gS (.slice ia (Nn.NatMath.len r1) ik) (Nn.NatMath.digs r1)), .gn (gS (.slice da (Nn.NatMath.len k) dk) (Nn.NatMath.digs k)), .gn (gS (.slice lsa (Nn.NatMath.len k) lsk) (Nn.NatMath.digs k)), .gn (gS (.slice b2a (Nn.NatMath.len B) b2k) (Nn.NatMath.digs B)), .gn (gS (.slice ya (Nn.NatMath.len Y) yk) (Nn.NatMath.digs Y)), .gn (gS (.slice va (Nn.NatMath.len Y0) vk) (Nn.NatMath.digs Y0)), .gn (gS (.slice xa (Nn.NatMath.len X) xk) (Nn.NatMath.digs X)), .gn (gS (.slice ua (Nn.NatMath.len X0) uk) (Nn.NatMath.digs X0)), .gn (gS (.slice lma (Nn.NatMath.len 401) lmk) (Nn.NatMath.digs 401)), .gn (gS (.slice ea (Nn.NatMath.len E) ek) (Nn.NatMath.digs E)), .gn (gS (.slice na (Nn.NatMath.len N) nk) (Nn.NatMath.digs N)), .bs (.slice ba l.length bk) l] _) := Lib.hid ((E22.out.set 0 0 (.slice ja (Nn.NatMath.len r2) jk) rfl))
              refine hKK.out _ _ ?_
              clear hKK KK
              refine wpAny_next (i := 10) (by kernel_rfl) rfl (fun KK hKK => ?_)
              go_simp
              refine hKK.out _ _ ?_
              clear hKK KK
              refine wpAny_done (by kernel_rfl) ?_ _
              obtain ⟨c1, hc1⟩ : ∃ c, Nn.NatMath.cmp r1 B = c := ⟨_, rfl⟩
              have HC1 := Lib.hid hc1
              obtain ⟨c2, hc2⟩ : ∃ c, Nn.NatMath.cmp r2 Y = c := ⟨_, rfl⟩
              have HC2 := Lib.hid hc2
              clear hc1 hc2
              obtain ⟨te1, e10⟩ : ∃ t, decide (r1 = B) = t := ⟨_, rfl⟩
              have e1 := Lib.hid e10
              clear e10
              cases te1
              · skip
                have HNE : Hid (k ≠ r0) := Lib.hid (fun e => of_decide_eq_false e1.out (by rw [← hr1.out, e]; exact HG.out.2.2.2.2.1))
                have d1 := cmp_eq HC1.out e1.out
                have b13 := E23.out.bx 1 rfl
                have c13_0 := b13.cell 0 rfl
                clear b13
                have b14 := E23.out.bx 2 rfl
                have c14_0 := b14.cell 0 rfl
                clear b14
                go_wp2_with fail
                refine (Nn.compareF HC1.out (gS.sl (E23.out.fc 2 rfl)) (gS.sl (E23.out.fc 5 rfl)) LR.out.1 lB.out).mono ?_
                rintro e w19 ⟨rfl, hb⟩
                have E24 := Lib.hid (E23.out.below hb)
                clear c12_0 f12_0 c13_0 c14_0 E22 E23 hb
                have EZ := Lib.hid (((((((E24.out.drop).drop).forget).forget).forget).forget).forget)
                go_wp2
                go_roundg (N - (k + 1))
                case rel => exact ⟨c, k + 1, by first | rfl | rw [u2], by first | rfl | rw [u1], EZ, Lib.hid ⟨⟨⟨by omega, by have := HY.out; omega⟩, by rw [HA.out.1.2]; obtain ⟨j, rfl⟩ : ∃ j, k = j + 1 := ⟨k - 1, by have := HA.out; omega⟩; rw [Nat.add_sub_cancel, Nat.add_sub_cancel, cG, if_neg HNE.out]; rfl⟩, rfl⟩⟩
                case measure => exact by have := HY.out; have := HA.out; omega
              · skip
                obtain ⟨te2, e20⟩ : ∃ t, decide (r2 = Y) = t := ⟨_, rfl⟩
                have e2 := Lib.hid e20
                clear e20
                cases te2
                · skip
                  have HNE : Hid (k ≠ r0) := Lib.hid (fun e => of_decide_eq_false e2.out (by rw [← hr2.out, e]; exact HG.out.2.2.2.2.2))
                  have d1 := cmp_eq HC1.out e1.out
                  have d2 := cmp_eq HC2.out e2.out
                  have b13 := E23.out.bx 1 rfl
                  have c13_0 := b13.cell 0 rfl
                  clear b13
                  have b14 := E23.out.bx 2 rfl
                  have c14_0 := b14.cell 0 rfl
                  clear b14
                  go_wp2_with fail
                  refine (Nn.compareF HC1.out (gS.sl (E23.out.fc 2 rfl)) (gS.sl (E23.out.fc 5 rfl)) LR.out.1 lB.out).mono ?_
                  rintro e w19 ⟨rfl, hb⟩
                  have E24 := Lib.hid (E23.out.below hb)
                  clear c12_0 f12_0 c13_0 c14_0 E22 E23 hb
                  have b15 := E24.out.bx 0 rfl
                  have c15_0 := b15.cell 0 rfl
                  clear b15
                  have b16 := E24.out.bx 4 rfl
                  have c16_0 := b16.cell 0 rfl
                  clear b16
                  go_wp2_with fail
                  refine (Nn.compareF HC2.out (gS.sl (E24.out.fc 0 rfl)) (gS.sl (E24.out.fc 6 rfl)) LR.out.2 HL.out.2.2).mono ?_
                  rintro e w20 ⟨rfl, hb⟩
                  have E25 := Lib.hid (E24.out.below hb)
                  clear c15_0 c16_0 E24 hb
                  have EZ := Lib.hid (((((((E25.out.drop).drop).forget).forget).forget).forget).forget)
                  go_wp2
                  go_roundg (N - (k + 1))
                  case rel => exact ⟨c, k + 1, by first | rfl | rw [u2], by first | rfl | rw [u1], EZ, Lib.hid ⟨⟨⟨by omega, by have := HY.out; omega⟩, by rw [HA.out.1.2]; obtain ⟨j, rfl⟩ : ∃ j, k = j + 1 := ⟨k - 1, by have := HA.out; omega⟩; rw [Nat.add_sub_cancel, Nat.add_sub_cancel, cG, if_neg HNE.out]; rfl⟩, rfl⟩⟩
                  case measure => exact by have := HY.out; have := HA.out; omega
                · skip
                  have HEQ : Hid (k = r0) := Lib.hid (HG.out.1 k HY.out ⟨(facC_0 hc.out).2, hr1.out.trans (of_decide_eq_true e1.out), hr2.out.trans (of_decide_eq_true e2.out)⟩)
                  have d1 := cmp_eq HC1.out e1.out
                  have d2 := cmp_eq HC2.out e2.out
                  have b13 := E23.out.bx 1 rfl
                  have c13_0 := b13.cell 0 rfl
                  clear b13
                  have b14 := E23.out.bx 2 rfl
                  have c14_0 := b14.cell 0 rfl
                  clear b14
                  go_wp2_with fail
                  refine (Nn.compareF HC1.out (gS.sl (E23.out.fc 2 rfl)) (gS.sl (E23.out.fc 5 rfl)) LR.out.1 lB.out).mono ?_
                  rintro e w19 ⟨rfl, hb⟩
                  have E24 := Lib.hid (E23.out.below hb)
                  clear c12_0 f12_0 c13_0 c14_0 E22 E23 hb
                  have b15 := E24.out.bx 0 rfl
                  have c15_0 := b15.cell 0 rfl
                  clear b15
                  have b16 := E24.out.bx 4 rfl
                  have c16_0 := b16.cell 0 rfl
                  clear b16
                  go_wp2_with fail
                  refine (Nn.compareF HC2.out (gS.sl (E24.out.fc 0 rfl)) (gS.sl (E24.out.fc 6 rfl)) LR.out.2 HL.out.2.2).mono ?_
                  rintro e w20 ⟨rfl, hb⟩
                  have E25 := Lib.hid (E24.out.below hb)
                  clear c15_0 c16_0 E24 hb
                  have EZ := Lib.hid (((((((E25.out.drop).drop).forget).forget).forget).forget).forget)
                  go_wp2
                  go_roundg (N - (k + 1))
                  case rel => exact ⟨c + 1, k + 1, by first | rfl | rw [u2], by first | rfl | rw [u1], EZ, Lib.hid ⟨⟨⟨by omega, by have := HY.out; omega⟩, by rw [HA.out.1.2]; obtain ⟨j, rfl⟩ : ∃ j, k = j + 1 := ⟨k - 1, by have := HA.out; omega⟩; rw [Nat.add_sub_cancel, Nat.add_sub_cancel, cG, if_pos HEQ.out]⟩, rfl⟩⟩
                  case measure => exact by have := HY.out; have := HA.out; omega
open Go.RowKit
theorem VoucherCounts_walk {w : World} (S1 S2 : Int) {lN lE l : List Nat} {na ea ba : Option Addr} {nk ek bk : Nat} (hn : Nn.Sl w (.slice na lN.length nk) lN) (he : Nn.Sl w (.slice ea lE.length ek) lE) (hM : Fct.at w (fun _ => True) (.bs (.slice ba l.length bk) l)) (hL : Laid w ∧ TabD w) (b1 : 0 ≤ S1 ∧ S1 ≤ 65535) (b2 : 0 ≤ S2 ∧ S2 ≤ 65535) :
    Calls Tryz.prog 6 #[.agg #[.slice na lN.length nk, .slice ea lE.length ek], .int .u16 S1, .int .u16 S2, .slice ba l.length bk] w fun e w' => e = .returned (.bool true) ∧ Below w.heap.size w w' := by
  obtain ⟨X0, rfl⟩ : ∃ n : Nat, S1 = (n : Int) := ⟨S1.toNat, by omega⟩
  obtain ⟨Y0, rfl⟩ : ∃ n : Nat, S2 = (n : Int) := ⟨S2.toNat, by omega⟩
  cases hg : [lN, lE].any big with
  | true => exact VC_1 lN lE X0 Y0 l hn he hL.1 hg
  | false =>
    cases hk : kV lN lE with
    | false => exact VC_2 lN lE X0 Y0 l hn he hL.1 hg hk
    | true =>
      obtain ⟨N, E, rfl, rfl, HK⟩ := Key.of hn he hk
      by_cases hm : 1000 < l.length
      · exact VC_3 N E X0 Y0 l hn he hL.1 hg HK hm
      · cases hq : decide (N < 401) with
        | false => exact VC_4 N E X0 Y0 l hn he hL.1 hg HK hm hq
        | true => exact VC_5 N E X0 Y0 l hn he hM hL.1 hg HK hL.2 hm hq (by omega) (by omega) rfl rfl
end Go.Proofs.YtikopkkebdobdaaGreatDoor

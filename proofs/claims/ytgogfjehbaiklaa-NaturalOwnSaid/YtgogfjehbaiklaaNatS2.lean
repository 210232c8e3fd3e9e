/- Shift. -/
import Derived.Test.YtgogfjehbaiklaaNatS1
namespace Go.Proofs.Ytgogfjehbaiklaa
open Go.RowKit NatMath
set_option linter.unusedVariables false
set_option linter.unusedSimpArgs false

/-- the argument's box and the result's, behind w -/
def BX (w : World) (v : Value) (W : World) : Prop := Below w.heap.size w W ∧ w.heap.size + 1 < W.heap.size ∧ W.cell? ⟨w.heap.size, 0, none⟩ = some v ∧
  W.cell? ⟨w.heap.size + 1, 0, none⟩ = some (.slice none 0 0) ∧ W.frozen? ⟨w.heap.size + 1, 0, none⟩ = false
theorem BX.on {w W V : World} {v : Value} (h : BX w v W) (hb : Below W.heap.size W V) : BX w v V := by
  obtain ⟨h1, h2, h3, h4, h5⟩ := h
  refine ⟨h1.trans (hb.mono h1.size), Nat.lt_of_lt_of_le h2 hb.size, ?_, ?_, ?_⟩
  · exact (hb.cell (by dsimp only; omega)).trans h3
  · exact (hb.cell (by dsimp only; omega)).trans h4
  · exact (hb.frozen (by dsimp only; omega)).trans h5
theorem BX.on2 {w W V : World} {v : Value} (h : BX w v W) (hb : Below (w.heap.size + 2) W V) : BX w v V := by
  obtain ⟨h1, h2, h3, h4, h5⟩ := h
  refine ⟨h1.trans (hb.mono (by omega)), Nat.lt_of_lt_of_le h2 hb.size, ?_, ?_, ?_⟩
  · exact (hb.cell (by dsimp only; omega)).trans h3
  · exact (hb.cell (by dsimp only; omega)).trans h4
  · exact (hb.frozen (by dsimp only; omega)).trans h5
theorem BX.drew {w W : World} {v : Value} (h : BX w v W) : BX w v W.drew := h.on ⟨rfl, rfl, rfl, Nat.le_refl _, fun _ _ => rfl⟩
theorem addr0 (g j : Nat) : (⟨g, 0, none⟩ : Addr).add j = ⟨g, j, none⟩ := by
  unfold Addr.add; simp; intro h; exact h.symm
theorem BX.start (w w1 : World) (v : Value) (hb : Below ((w.alloc (.cells #[v] 24)).alloc (.cells #[.slice none 0 0] 24)).heap.size ((w.alloc (.cells #[v] 24)).alloc (.cells #[.slice none 0 0] 24)) w1) : BX w v w1 := by
  have h1 := hb.size
  rw [size_two] at h1
  refine ⟨(below_two w _ _).trans (hb.mono (by simp; omega)), by omega, ?_, ?_, ?_⟩
  · exact (hb.cell (p := ⟨w.heap.size, 0, none⟩) (by simp; omega)).trans (box2a ..)
  · exact (hb.cell (p := ⟨w.heap.size + 1, 0, none⟩) (by simp)).trans (box2b ..)
  · exact (hb.frozen (p := ⟨w.heap.size + 1, 0, none⟩) (by simp)).trans (by rw [← size_one w (.cells #[v] 24)]; exact box1f _ _ _)


set_option maxRecDepth 100000 in
set_option maxHeartbeats 1000000 in
theorem Shift_bad (a : Value) (l : List Nat) (n : Int) (w : World) (ha : Sl w a l) (hv : vld l = false) :
    Calls Try.prog 15 #[.agg #[a], .int .i64 n] w fun e w' => e = errN 1 ∧ Below w.heap.size w w' := by
  have cv := Lib.hid (fun W h => Valid_c a l W h)
  rw [hv] at cv
  have HV := Lib.hid ha
  clear ha hv
  go_enter Try.func15, Try.ntmps15
  go_wp2_with fail
  refine (cv.out _ (HV.out.below' (below_two _ _ _))).mono ?_
  rintro e w1 ⟨rfl, hb1⟩
  have B1 := Lib.hid (BX.start w w1 _ hb1)
  clear hb1
  obtain ⟨_, z1, f1, f2, f3⟩ := B1.out
  go_wp2
  exact bodyPost_ret (v := .tuple #[.agg #[.slice none 0 0], .int .i64 1]) (by simp [results, Try.results15, go_sem, f2]) rfl ⟨rfl, B1.out.1.setCell (by dsimp only; omega) _⟩

set_option maxRecDepth 100000 in
set_option maxHeartbeats 1000000 in
theorem Shift_lo (a : Value) (N : Nat) (n : Int) (w : World) (ha : Nt w a N) (hl : len N ≤ 64) (hn : n < -10000) :
    Calls Try.prog 15 #[.agg #[a], .int .i64 n] w fun e w' => e = errN 2 ∧ Below w.heap.size w w' := by
  have cv := Lib.hid (fun W h => Valid_c a (digs N) W h)
  rw [vld_digs, decide_eq_true hl] at cv
  have HV := Lib.hid ha
  have t1 : decide (n < -10000) = true := decide_eq_true hn
  clear ha hn hl
  go_enter Try.func15, Try.ntmps15
  go_wp2_with fail
  refine (cv.out _ (HV.out.below' (below_two _ _ _))).mono ?_
  rintro e w1 ⟨rfl, hb1⟩
  have B1 := Lib.hid (BX.start w w1 _ hb1)
  clear hb1
  obtain ⟨_, z1, f1, f2, f3⟩ := B1.out
  go_wp2
  exact bodyPost_ret (v := .tuple #[.agg #[.slice none 0 0], .int .i64 2]) (by simp [results, Try.results15, go_sem, f2]) rfl ⟨rfl, B1.out.1.setCell (by dsimp only; omega) _⟩

set_option maxRecDepth 100000 in
set_option maxHeartbeats 1000000 in
theorem Shift_hi (a : Value) (N : Nat) (n : Int) (w : World) (ha : Nt w a N) (hl : len N ≤ 64) (hn : 10000 < n) :
    Calls Try.prog 15 #[.agg #[a], .int .i64 n] w fun e w' => e = errN 2 ∧ Below w.heap.size w w' := by
  have cv := Lib.hid (fun W h => Valid_c a (digs N) W h)
  rw [vld_digs, decide_eq_true hl] at cv
  have HV := Lib.hid ha
  have t1 : decide (n < -10000) = false := decide_eq_false (by omega)
  have t2 : decide (10000 < n) = true := decide_eq_true hn
  clear ha hn hl
  go_enter Try.func15, Try.ntmps15
  go_wp2_with fail
  refine (cv.out _ (HV.out.below' (below_two _ _ _))).mono ?_
  rintro e w1 ⟨rfl, hb1⟩
  have B1 := Lib.hid (BX.start w w1 _ hb1)
  clear hb1
  obtain ⟨_, z1, f1, f2, f3⟩ := B1.out
  go_wp2
  exact bodyPost_ret (v := .tuple #[.agg #[.slice none 0 0], .int .i64 2]) (by simp [results, Try.results15, go_sem, f2]) rfl ⟨rfl, B1.out.1.setCell (by dsimp only; omega) _⟩

set_option maxRecDepth 100000 in
set_option maxHeartbeats 1000000 in
theorem Shift_zero (a : Value) (n : Int) (w : World) (ha : Nt w a 0) (h1 : -10000 ≤ n) (h2 : n ≤ 10000) :
    Calls Try.prog 15 #[.agg #[a], .int .i64 n] w fun e w' => e = errN 0 ∧ Below w.heap.size w w' := by
  have hl : len 0 ≤ 64 := by rw [len_zero]; omega
  have cv := Lib.hid (fun W h => Valid_c a (digs 0) W h)
  rw [vld_digs, decide_eq_true hl] at cv
  have HV := Lib.hid ha
  obtain ⟨ao, ca, rfl, _⟩ := ha.open
  have t1 : decide (n < -10000) = false := decide_eq_false (by omega)
  have t2 : decide (10000 < n) = false := decide_eq_false (by omega)
  rw [len_zero] at *
  clear ha hl h1 h2
  go_enter Try.func15, Try.ntmps15
  go_wp2_with fail
  refine (cv.out _ (HV.out.below' (below_two _ _ _))).mono ?_
  rintro e w1 ⟨rfl, hb1⟩
  have B1 := Lib.hid (BX.start w w1 _ hb1)
  clear hb1
  obtain ⟨_, z1, f1, f2, f3⟩ := B1.out
  go_wp2
  exact bodyPost_ret (v := .tuple #[.agg #[.slice none 0 0], .int .i64 0]) (by simp [results, Try.results15, go_sem, f2]) rfl ⟨rfl, B1.out.1.setCell (by dsimp only; omega) _⟩

set_option maxRecDepth 100000 in
set_option maxHeartbeats 1000000 in
theorem Shift_leftU (a : Value) (N n : Nat) (w : World) (ha : Nt w a N) (hl : len N ≤ 64) (h0 : N ≠ 0) (h2 : (n : Int) ≤ 10000) :
    Calls Try.prog 15 #[.agg #[a], .int .i64 n] w fun e w' => BigPostU (N * 2 ^ n) w.heap.size e w' ∧ Below w.heap.size w w' := by
  have cv := Lib.hid (fun W h => Valid_c a (digs N) W h)
  rw [vld_digs, decide_eq_true hl] at cv
  have HV := Lib.hid ha
  have cS := Lib.hid (fun W h => shifted_c a N (n % 32) W h (by omega) (Nat.mod_lt _ (by omega)))
  obtain ⟨ao, ca, rfl, a1, a2, _⟩ := ha.open
  have t1 : decide ((n : Int) < -10000) = false := decide_eq_false (by omega)
  have t2 : decide (10000 < (n : Int)) = false := decide_eq_false (by omega)
  have t3 : decide (0 ≤ (n : Int)) = true := decide_eq_true (by omega)
  have t4 : ((len N : Int) == 0) = false := by
    have : len N ≠ 0 := fun e => h0 (len_eq_zero.1 e)
    simp; omega
  have hln : (len N : Int) ≤ 64 := by omega
  have e1 : (n : Int).tdiv 32 = ((n / 32 : Nat) : Int) := by rw [Int.tdiv_eq_ediv_of_nonneg (by omega)]; rfl
  have e2 : (n : Int).tmod 32 = ((n % 32 : Nat) : Int) := by rw [Int.tmod_eq_emod_of_nonneg (by omega)]; rfl
  have e3 : (n : Int) / 32 = ((n / 32 : Nat) : Int) := rfl
  have e4 : (n : Int) % 32 = ((n % 32 : Nat) : Int) := rfl
  have hk : n / 32 ≤ 1000 := by omega
  have hsm : n % 32 < 32 := Nat.mod_lt _ (by omega)
  generalize hkk : n / 32 = k at *
  generalize hss : n % 32 = s at *
  have kk := Lib.hid hkk
  have ss := Lib.hid hss
  have e5 : IntKind.i64.wrap (k : Int) = (k : Int) := IntWalk.i64_in _ (by omega)
  clear ha h0 hkk hss
  go_enter Try.func15, Try.ntmps15
  go_wp2_with fail
  refine (cv.out _ (HV.out.below' (below_two _ _ _))).mono ?_
  rintro e w1 ⟨rfl, hb1⟩
  have B1 := Lib.hid (BX.start w w1 _ hb1)
  clear hb1
  obtain ⟨_, z1, f1, f2, f3⟩ := B1.out
  go_wp2_with fail
  refine wp_region_held_drew (S := fun w' => w'.cell? ⟨w.heap.size, 0, none⟩ = some (.slice ao (len N) ca)) (by kernel_rfl) (by exact B1.out.drew.2.2.1) (fun hHeld => ?_)
  have B2 := Lib.hid B1.out.drew
  clear f1 f2 f3 z1
  refine takeW (i := 0) (some 33) (v := ?_) rfl rfl (by kernel_rfl) (by kernel_rfl) (by kernel_rfl) (fun _ _ _ h => h) (by rfl) (by assumption) ?_ ?_
  rotate_left
  · (intro wS hSw; (try dsimp only at hSw); go_simp; try with_reducible rfl)
  try simp only [Act.put, List.setIfInBounds_toArray, List.set_cons_zero, List.set_cons_succ]
  refine takeW (i := 1) (some 34) (v := ?_) rfl rfl (by kernel_rfl) (by kernel_rfl) (by kernel_rfl) (fun _ _ _ h => h) (by rfl) (by assumption) ?_ ?_
  rotate_left
  · (intro wS hSw; (try dsimp only at hSw); go_simp; try with_reducible rfl)
  try simp only [Act.put, List.setIfInBounds_toArray, List.set_cons_zero, List.set_cons_succ]
  refine takeW (i := 3) (some 36) (v := ?_) rfl rfl (by kernel_rfl) (by kernel_rfl) (by kernel_rfl) (fun _ _ _ h => h) (by rfl) (by assumption) ?_ ?_
  rotate_left
  · (intro wS hSw; (try dsimp only at hSw); go_simp; try with_reducible rfl)
  try simp only [Act.put, List.setIfInBounds_toArray, List.set_cons_zero, List.set_cons_succ]
  refine takeW (i := 4) (some 37) (v := ?_) rfl rfl (by kernel_rfl) (by kernel_rfl) (by kernel_rfl) (fun _ _ _ h => h) (by rfl) (by assumption) ?_ ?_
  rotate_left
  · (intro wS hSw; (try dsimp only at hSw); go_simp; try with_reducible rfl)
  try simp only [Act.put, List.setIfInBounds_toArray, List.set_cons_zero, List.set_cons_succ]
  refine takeW (i := 5) (some 38) (v := ?_) rfl rfl (by kernel_rfl) (by kernel_rfl) (by kernel_rfl) (fun _ _ _ h => h) (by rfl) (by assumption) ?_ ?_
  rotate_left
  · (intro wS hSw; (try dsimp only at hSw); go_simp; try with_reducible rfl)
  try simp only [Act.put, List.setIfInBounds_toArray, List.set_cons_zero, List.set_cons_succ]
  refine takeW (i := 6) (some 39) (v := ?_) rfl rfl (by kernel_rfl) (by kernel_rfl) (by kernel_rfl) (fun _ _ _ h => h) (by rfl) (by assumption) ?_ ?_
  rotate_left
  · (intro wS hSw; (try dsimp only at hSw); go_simp; try with_reducible rfl)
  try simp only [Act.put, List.setIfInBounds_toArray, List.set_cons_zero, List.set_cons_succ]
  refine wpAnyH_ready (rs := [2, 7]) (by kernel_rfl) (by simp) ?_
  refine AllReadyH.cons rfl (fun KK hKK => ?_) (AllReadyH.cons rfl (fun KK hKK => ?_) AllReadyH.nil)
  · refine op_make_words _ (some 35) rfl rfl _ _ rfl k _ _ rfl rfl rfl rfl (by omega) _ rfl _ ?_
    intro w5 hO5 hb5
    have B5 := Lib.hid (B2.out.on hb5)
    have HO5 := Lib.hid hO5
    have HG5 : Hid (w.heap.size + 2 ≤ w1.drew.heap.size) := Lib.hid (by have := B2.out.2.1; omega)
    refine hKK.out _ _ ?_ (fun hHeld => ?_)
    · exact B5.out.2.2.1
    clear hKK KK
    try simp only [Act.put, List.setIfInBounds_toArray, List.set_cons_zero, List.set_cons_succ]
    refine wpAnyH_ready (rs := [7]) (by kernel_rfl) (by simp) ?_
    refine AllReadyH.cons rfl (fun KK hKK => ?_) AllReadyH.nil
    go_simp
    refine (cS.out _ (HV.out.below' B5.out.1)).mono ?_
    rintro e w6 ⟨gs, ls, rfl, hs, hs1, hs2, hb6⟩
    have B6 := Lib.hid (B5.out.on hb6)
    (try dsimp only)
    refine hKK.out _ _ ?_ (fun hHeld => ?_)
    · exact B6.out.2.2.1
    clear hKK KK
    try simp only [Act.put, List.setIfInBounds_toArray, List.set_cons_zero, List.set_cons_succ]
    have hs0 : Hid (Own w6 gs ls ∧ ls.length = len N + 1 ∧ words ls ∧ val ls = N * 2 ^ s) := hs
    have hv0 : Hid (OwnV w6 (w.heap.size + 2) (.slice (some ⟨w1.drew.heap.size, 0, none⟩) k k) (List.replicate k 0)) := Lib.hid (by have := (HO5.out.below' hb6).v (words_zeros k) HG5.out (by simp; omega); rwa [List.length_replicate] at this)
    have hlen := hs0.out.2.1
    have hcs : ∀ j, j < len N + 1 → w6.cell? ((⟨gs, 0, none⟩ : Addr).add j) = some (.int .u32 ((ls.getD j 0 : Nat) : Int)) := fun j hj => by
      have := hs0.out.1.cell (i := j) (by omega)
      rwa [addr0]
    refine wpAnyH_ready (rs := [8]) (by kernel_rfl) (by simp) ?_
    refine AllReadyH.cons rfl (fun KK hKK => ?_) AllReadyH.nil
    refine op_pushes _ (some 41) rfl rfl _ _ rfl (w.heap.size + 2) _ (List.replicate k 0) ls (len N + 1) hlen rfl hv0.out ⟨gs, 0, none⟩ _ rfl hcs hs0.out.2.2.1 (by simp; omega) (by omega) (by have := B6.out.2.1; omega) _ ?_
    intro v7 w7 hv7 hb7
    have B7 := Lib.hid (B6.out.on2 hb7)
    refine hKK.out _ _ ?_ (fun hHeld => ?_)
    · exact B7.out.2.2.1
    clear hKK KK
    try simp only [Act.put, List.setIfInBounds_toArray, List.set_cons_zero, List.set_cons_succ]
    have HV7 := Lib.hid hv7
    clear hcs hv7 hb7
    obtain ⟨m7, hm7⟩ : ∃ m, (List.replicate k 0 ++ ls).length = m := ⟨_, rfl⟩
    obtain ⟨a7, c7, rfl⟩ := HV7.out.form m7 hm7
    clear hm7
    refine wpAnyH_ready (rs := [9]) (by kernel_rfl) (by simp) ?_
    refine AllReadyH.cons rfl (fun KK hKK => ?_) AllReadyH.nil
    go_simp
    refine (checked_v _ _ _ _ HV7.out).mono ?_
    rw [show val (List.replicate k 0 ++ ls) = N * 2 ^ n from by rw [← kk.out]; exact shl_val N n ls (by rw [← ss.out] at hs0; exact hs0.out.2.2.2)]
    rintro e w8 ⟨h8, hb8⟩
    have B8 := Lib.hid (B7.out.on hb8)
    have HV8 := Lib.hid (HV7.out.below hb8)
    obtain ⟨_, z8, _, f8, f9⟩ := B8.out
    rcases h8 with ⟨hl8, v8, hv8, rfl⟩ | ⟨hl8, rfl⟩
    · have hN : ∀ Y : Value, NtU (w8.setCell ⟨w.heap.size + 1, 0, none⟩ Y) v8 (N * 2 ^ n) := fun Y => hv8.out.1 _ (HV8.out.set (by dsimp only; omega) Y)
      obtain ⟨a8, c8, rfl, _⟩ := (hN (.slice none 0 0)).open
      have HN := Lib.hid hN
      have HF := Lib.hid hv8.out.2
      clear hN hv8
      (try dsimp only)
      refine hKK.out _ _ ?_ (fun hHeld => ?_)
      · exact B8.out.2.2.1
      clear hKK KK
      try simp only [Act.put, List.setIfInBounds_toArray, List.set_cons_zero, List.set_cons_succ]
      refine takeW (i := 10) (some 43) (v := ?_) rfl rfl (by kernel_rfl) (by kernel_rfl) (by kernel_rfl) (fun _ _ _ h => h) (by rfl) (by assumption) ?_ ?_
      rotate_left
      · (intro wS hSw; (try dsimp only at hSw); go_simp; try with_reducible rfl)
      try simp only [Act.put, List.setIfInBounds_toArray, List.set_cons_zero, List.set_cons_succ]
      refine takeW (i := 11) (some 44) (v := ?_) rfl rfl (by kernel_rfl) (by kernel_rfl) (by kernel_rfl) (fun _ _ _ h => h) (by rfl) (by assumption) ?_ ?_
      rotate_left
      · (intro wS hSw; (try dsimp only at hSw); go_simp; try with_reducible rfl)
      try simp only [Act.put, List.setIfInBounds_toArray, List.set_cons_zero, List.set_cons_succ]
      refine wpAnyH_ready (rs := [12]) (by kernel_rfl) (by simp) ?_
      refine AllReadyH.cons rfl (fun KK hKK => ?_) AllReadyH.nil
      go_simp
      refine hKK.out _ _ ?_ (fun hHeld => ?_)
      · exact (World.cell?_setCell_far w8 ⟨w.heap.size + 1, 0, none⟩ ⟨w.heap.size, 0, none⟩ _ (by simp)).trans B8.out.2.2.1
      clear hKK KK
      try simp only [Act.put, List.setIfInBounds_toArray, List.set_cons_zero, List.set_cons_succ]
      refine takeW (i := 13) (some 5) (v := ?_) rfl rfl (by kernel_rfl) (by kernel_rfl) (by kernel_rfl) (fun _ _ _ h => h) (by rfl) (by assumption) ?_ ?_
      rotate_left
      · (intro wS hSw; (try dsimp only at hSw); go_simp; try with_reducible rfl)
      try simp only [Act.put, List.setIfInBounds_toArray, List.set_cons_zero, List.set_cons_succ]
      refine wpAnyH_done (by kernel_rfl) ?_ _
      go_wp2
      exact bodyPost_ret (v := .tuple #[.agg #[.slice a8 (len (N * 2 ^ n)) c8], .int .i64 0]) (by simp [results, Try.results15, go_sem, f8]) rfl ⟨Or.inl ⟨hl8, _, Lib.hid ⟨HN.out _, Fr.mono HF.out (by omega)⟩, rfl⟩, B8.out.1.setCell (by dsimp only; omega) _⟩
    · unfold errN
      (try dsimp only)
      refine hKK.out _ _ ?_ (fun hHeld => ?_)
      · exact B8.out.2.2.1
      clear hKK KK
      try simp only [Act.put, List.setIfInBounds_toArray, List.set_cons_zero, List.set_cons_succ]
      refine takeW (i := 10) (some 43) (v := ?_) rfl rfl (by kernel_rfl) (by kernel_rfl) (by kernel_rfl) (fun _ _ _ h => h) (by rfl) (by assumption) ?_ ?_
      rotate_left
      · (intro wS hSw; (try dsimp only at hSw); go_simp; try with_reducible rfl)
      try simp only [Act.put, List.setIfInBounds_toArray, List.set_cons_zero, List.set_cons_succ]
      refine takeW (i := 11) (some 44) (v := ?_) rfl rfl (by kernel_rfl) (by kernel_rfl) (by kernel_rfl) (fun _ _ _ h => h) (by rfl) (by assumption) ?_ ?_
      rotate_left
      · (intro wS hSw; (try dsimp only at hSw); go_simp; try with_reducible rfl)
      try simp only [Act.put, List.setIfInBounds_toArray, List.set_cons_zero, List.set_cons_succ]
      refine wpAnyH_ready (rs := [12]) (by kernel_rfl) (by simp) ?_
      refine AllReadyH.cons rfl (fun KK hKK => ?_) AllReadyH.nil
      go_simp
      refine hKK.out _ _ ?_ (fun hHeld => ?_)
      · exact (World.cell?_setCell_far w8 ⟨w.heap.size + 1, 0, none⟩ ⟨w.heap.size, 0, none⟩ _ (by simp)).trans B8.out.2.2.1
      clear hKK KK
      try simp only [Act.put, List.setIfInBounds_toArray, List.set_cons_zero, List.set_cons_succ]
      refine takeW (i := 13) (some 5) (v := ?_) rfl rfl (by kernel_rfl) (by kernel_rfl) (by kernel_rfl) (fun _ _ _ h => h) (by rfl) (by assumption) ?_ ?_
      rotate_left
      · (intro wS hSw; (try dsimp only at hSw); go_simp; try with_reducible rfl)
      try simp only [Act.put, List.setIfInBounds_toArray, List.set_cons_zero, List.set_cons_succ]
      refine wpAnyH_done (by kernel_rfl) ?_ _
      go_wp2
      exact bodyPost_ret (v := .tuple #[.agg #[.slice none 0 0], .int .i64 9]) (by simp [results, Try.results15, go_sem, f8]) rfl ⟨Or.inr ⟨hl8, rfl⟩, B8.out.1.setCell (by dsimp only; omega) _⟩
  · go_simp
    refine (cS.out _ (HV.out.below' B2.out.1)).mono ?_
    rintro e w6 ⟨gs, ls, rfl, hs, hs1, hs2, hb6⟩
    have B6 := Lib.hid (B2.out.on hb6)
    (try dsimp only)
    refine hKK.out _ _ ?_ (fun hHeld => ?_)
    · exact B6.out.2.2.1
    clear hKK KK
    try simp only [Act.put, List.setIfInBounds_toArray, List.set_cons_zero, List.set_cons_succ]
    refine wpAnyH_ready (rs := [2]) (by kernel_rfl) (by simp) ?_
    refine AllReadyH.cons rfl (fun KK hKK => ?_) AllReadyH.nil
    refine op_make_words _ (some 35) rfl rfl _ _ rfl k _ _ rfl rfl rfl rfl (by omega) _ rfl _ ?_
    intro w5 hO5 hb5
    have B5 := Lib.hid (B6.out.on hb5)
    have HO5 := Lib.hid hO5
    have HG5 : Hid (w.heap.size + 2 ≤ w6.heap.size) := Lib.hid (by have := B6.out.2.1; omega)
    refine hKK.out _ _ ?_ (fun hHeld => ?_)
    · exact B5.out.2.2.1
    clear hKK KK
    try simp only [Act.put, List.setIfInBounds_toArray, List.set_cons_zero, List.set_cons_succ]
    have hs0 : Hid (Own w5 gs ls ∧ ls.length = len N + 1 ∧ words ls ∧ val ls = N * 2 ^ s) := Lib.hid ⟨hs.out.1.below' hb5, hs.out.2⟩
    have hv0 : Hid (OwnV w5 (w.heap.size + 2) (.slice (some ⟨w6.heap.size, 0, none⟩) k k) (List.replicate k 0)) := Lib.hid (by have := HO5.out.v (words_zeros k) HG5.out (by simp; omega); rwa [List.length_replicate] at this)
    have hlen := hs0.out.2.1
    have hcs : ∀ j, j < len N + 1 → w5.cell? ((⟨gs, 0, none⟩ : Addr).add j) = some (.int .u32 ((ls.getD j 0 : Nat) : Int)) := fun j hj => by
      have := hs0.out.1.cell (i := j) (by omega)
      rwa [addr0]
    refine wpAnyH_ready (rs := [8]) (by kernel_rfl) (by simp) ?_
    refine AllReadyH.cons rfl (fun KK hKK => ?_) AllReadyH.nil
    refine op_pushes _ (some 41) rfl rfl _ _ rfl (w.heap.size + 2) _ (List.replicate k 0) ls (len N + 1) hlen rfl hv0.out ⟨gs, 0, none⟩ _ rfl hcs hs0.out.2.2.1 (by simp; omega) (by omega) (by have := B5.out.2.1; omega) _ ?_
    intro v7 w7 hv7 hb7
    have B7 := Lib.hid (B5.out.on2 hb7)
    refine hKK.out _ _ ?_ (fun hHeld => ?_)
    · exact B7.out.2.2.1
    clear hKK KK
    try simp only [Act.put, List.setIfInBounds_toArray, List.set_cons_zero, List.set_cons_succ]
    have HV7 := Lib.hid hv7
    clear hcs hv7 hb7
    obtain ⟨m7, hm7⟩ : ∃ m, (List.replicate k 0 ++ ls).length = m := ⟨_, rfl⟩
    obtain ⟨a7, c7, rfl⟩ := HV7.out.form m7 hm7
    clear hm7
    refine wpAnyH_ready (rs := [9]) (by kernel_rfl) (by simp) ?_
    refine AllReadyH.cons rfl (fun KK hKK => ?_) AllReadyH.nil
    go_simp
    refine (checked_v _ _ _ _ HV7.out).mono ?_
    rw [show val (List.replicate k 0 ++ ls) = N * 2 ^ n from by rw [← kk.out]; exact shl_val N n ls (by rw [← ss.out] at hs0; exact hs0.out.2.2.2)]
    rintro e w8 ⟨h8, hb8⟩
    have B8 := Lib.hid (B7.out.on hb8)
    have HV8 := Lib.hid (HV7.out.below hb8)
    obtain ⟨_, z8, _, f8, f9⟩ := B8.out
    rcases h8 with ⟨hl8, v8, hv8, rfl⟩ | ⟨hl8, rfl⟩
    · have hN : ∀ Y : Value, NtU (w8.setCell ⟨w.heap.size + 1, 0, none⟩ Y) v8 (N * 2 ^ n) := fun Y => hv8.out.1 _ (HV8.out.set (by dsimp only; omega) Y)
      obtain ⟨a8, c8, rfl, _⟩ := (hN (.slice none 0 0)).open
      have HN := Lib.hid hN
      have HF := Lib.hid hv8.out.2
      clear hN hv8
      (try dsimp only)
      refine hKK.out _ _ ?_ (fun hHeld => ?_)
      · exact B8.out.2.2.1
      clear hKK KK
      try simp only [Act.put, List.setIfInBounds_toArray, List.set_cons_zero, List.set_cons_succ]
      refine takeW (i := 10) (some 43) (v := ?_) rfl rfl (by kernel_rfl) (by kernel_rfl) (by kernel_rfl) (fun _ _ _ h => h) (by rfl) (by assumption) ?_ ?_
      rotate_left
      · (intro wS hSw; (try dsimp only at hSw); go_simp; try with_reducible rfl)
      try simp only [Act.put, List.setIfInBounds_toArray, List.set_cons_zero, List.set_cons_succ]
      refine takeW (i := 11) (some 44) (v := ?_) rfl rfl (by kernel_rfl) (by kernel_rfl) (by kernel_rfl) (fun _ _ _ h => h) (by rfl) (by assumption) ?_ ?_
      rotate_left
      · (intro wS hSw; (try dsimp only at hSw); go_simp; try with_reducible rfl)
      try simp only [Act.put, List.setIfInBounds_toArray, List.set_cons_zero, List.set_cons_succ]
      refine wpAnyH_ready (rs := [12]) (by kernel_rfl) (by simp) ?_
      refine AllReadyH.cons rfl (fun KK hKK => ?_) AllReadyH.nil
      go_simp
      refine hKK.out _ _ ?_ (fun hHeld => ?_)
      · exact (World.cell?_setCell_far w8 ⟨w.heap.size + 1, 0, none⟩ ⟨w.heap.size, 0, none⟩ _ (by simp)).trans B8.out.2.2.1
      clear hKK KK
      try simp only [Act.put, List.setIfInBounds_toArray, List.set_cons_zero, List.set_cons_succ]
      refine takeW (i := 13) (some 5) (v := ?_) rfl rfl (by kernel_rfl) (by kernel_rfl) (by kernel_rfl) (fun _ _ _ h => h) (by rfl) (by assumption) ?_ ?_
      rotate_left
      · (intro wS hSw; (try dsimp only at hSw); go_simp; try with_reducible rfl)
      try simp only [Act.put, List.setIfInBounds_toArray, List.set_cons_zero, List.set_cons_succ]
      refine wpAnyH_done (by kernel_rfl) ?_ _
      go_wp2
      exact bodyPost_ret (v := .tuple #[.agg #[.slice a8 (len (N * 2 ^ n)) c8], .int .i64 0]) (by simp [results, Try.results15, go_sem, f8]) rfl ⟨Or.inl ⟨hl8, _, Lib.hid ⟨HN.out _, Fr.mono HF.out (by omega)⟩, rfl⟩, B8.out.1.setCell (by dsimp only; omega) _⟩
    · unfold errN
      (try dsimp only)
      refine hKK.out _ _ ?_ (fun hHeld => ?_)
      · exact B8.out.2.2.1
      clear hKK KK
      try simp only [Act.put, List.setIfInBounds_toArray, List.set_cons_zero, List.set_cons_succ]
      refine takeW (i := 10) (some 43) (v := ?_) rfl rfl (by kernel_rfl) (by kernel_rfl) (by kernel_rfl) (fun _ _ _ h => h) (by rfl) (by assumption) ?_ ?_
      rotate_left
      · (intro wS hSw; (try dsimp only at hSw); go_simp; try with_reducible rfl)
      try simp only [Act.put, List.setIfInBounds_toArray, List.set_cons_zero, List.set_cons_succ]
      refine takeW (i := 11) (some 44) (v := ?_) rfl rfl (by kernel_rfl) (by kernel_rfl) (by kernel_rfl) (fun _ _ _ h => h) (by rfl) (by assumption) ?_ ?_
      rotate_left
      · (intro wS hSw; (try dsimp only at hSw); go_simp; try with_reducible rfl)
      try simp only [Act.put, List.setIfInBounds_toArray, List.set_cons_zero, List.set_cons_succ]
      refine wpAnyH_ready (rs := [12]) (by kernel_rfl) (by simp) ?_
      refine AllReadyH.cons rfl (fun KK hKK => ?_) AllReadyH.nil
      go_simp
      refine hKK.out _ _ ?_ (fun hHeld => ?_)
      · exact (World.cell?_setCell_far w8 ⟨w.heap.size + 1, 0, none⟩ ⟨w.heap.size, 0, none⟩ _ (by simp)).trans B8.out.2.2.1
      clear hKK KK
      try simp only [Act.put, List.setIfInBounds_toArray, List.set_cons_zero, List.set_cons_succ]
      refine takeW (i := 13) (some 5) (v := ?_) rfl rfl (by kernel_rfl) (by kernel_rfl) (by kernel_rfl) (fun _ _ _ h => h) (by rfl) (by assumption) ?_ ?_
      rotate_left
      · (intro wS hSw; (try dsimp only at hSw); go_simp; try with_reducible rfl)
      try simp only [Act.put, List.setIfInBounds_toArray, List.set_cons_zero, List.set_cons_succ]
      refine wpAnyH_done (by kernel_rfl) ?_ _
      go_wp2
      exact bodyPost_ret (v := .tuple #[.agg #[.slice none 0 0], .int .i64 9]) (by simp [results, Try.results15, go_sem, f8]) rfl ⟨Or.inr ⟨hl8, rfl⟩, B8.out.1.setCell (by dsimp only; omega) _⟩
theorem Shift_left (a : Value) (N n : Nat) (w : World) (ha : Nt w a N) (hl : len N ≤ 64) (h0 : N ≠ 0) (h2 : (n : Int) ≤ 10000) :
    Calls Try.prog 15 #[.agg #[a], .int .i64 n] w fun e w' => BigPost (N * 2 ^ n) w.heap.size e w' ∧ Below w.heap.size w w' :=
  (Shift_leftU a N n w ha hl h0 h2).mono fun _ _ h => ⟨h.1.old, h.2⟩
end Go.Proofs.Ytgogfjehbaiklaa

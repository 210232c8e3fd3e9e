/- The reference's Div. -/
import Derived.Test.YtgogfjehbaiklaaNatP3
import Derived.Deep.DeepCutAuto
namespace Go.Proofs.Ytgogfjehbaiklaa
open Go.RowKit NatMath
set_option linter.unusedVariables false
set_option linter.unusedSimpArgs false

/-- what the reference's division holds: the arguments' boxes, the results', the quotient's block, the remainder's box -/
def DV (w : World) (u v : Value) (g gr : Nat) (l : List Nat) (R : Nat) (W : World) : Prop :=
  (Boxes w W ∧ W.cell? ⟨w.heap.size, 0, none⟩ = some u ∧ W.cell? ⟨w.heap.size + 1, 0, none⟩ = some v) ∧ Own W g l ∧ gr < W.heap.size ∧ W.frozen? ⟨gr, 0, none⟩ = false ∧
    ∃ ra rk, W.cell? ⟨gr, 0, none⟩ = some (.slice ra (len R) rk) ∧ Nt W (.slice ra (len R) rk) R ∧ Fr (gr + 1) (.slice ra (len R) rk)
section
variable {w W V : World} {u v : Value} {g gr R : Nat} {l : List Nat}
theorem DV.on (h : DV w u v g gr l R W) (hb : Below W.heap.size W V) : DV w u v g gr l R V := by
  obtain ⟨⟨h1, h2, h3⟩, h4, h5, h6, ra, rk, h7, h8, h9⟩ := h
  have hs := h1.2.1
  exact ⟨⟨h1.on hb, (hb.cell (by dsimp only; omega)).trans h2, (hb.cell (by dsimp only; omega)).trans h3⟩, h4.below' hb, Nat.lt_of_lt_of_le h5 hb.size, (hb.frozen h5).trans h6, ra, rk, (hb.cell h5).trans h7, h8.below' hb, h9⟩
theorem Boxes.far {w W : World} {p : Addr} (h : Boxes w W) (hp : w.heap.size + 4 ≤ p.block) (x : Value) : Boxes w (W.setCell p x) := by
  obtain ⟨h1, h2, h3, h4, h5, h6⟩ := h
  refine ⟨h1.setCell (by omega) _, by simpa using h2, ?_, (World.frozen?_setCell _ _ _ _).trans h4, ?_, (World.frozen?_setCell _ _ _ _).trans h6⟩
  · exact (World.cell?_setCell_far W p _ x (by dsimp only; omega)).trans h3
  · exact (World.cell?_setCell_far W p _ x (by dsimp only; omega)).trans h5
theorem DV.put (h : DV w u v g gr l R W) (hg : w.heap.size + 4 ≤ g) (hgr : g < gr) {a : Option Addr} {c R' : Nat} (hN : Nt W (.slice a (len R') c) R') (hF : Fr (gr + 1) (.slice a (len R') c)) :
    DV w u v g gr l R' (W.setCell ⟨gr, 0, none⟩ (.slice a (len R') c)) := by
  obtain ⟨⟨h1, h2, h3⟩, h4, h5, h6, ra, rk, h7, h8, h9⟩ := h
  refine ⟨⟨h1.far (by dsimp only; omega) _, (World.cell?_setCell_far W _ _ _ (by dsimp only; omega)).trans h2, (World.cell?_setCell_far W _ _ _ (by dsimp only; omega)).trans h3⟩, h4.setOther (by dsimp only; omega) _, by simpa using h5, (World.frozen?_setCell _ _ _ _).trans h6, a, c, ?_, hN.set hF (by dsimp only; omega) _, hF⟩
  exact World.cell?_setCell_same' _ _ _ (by rw [h7]; rfl)
theorem DV.bit (h : DV w u v g gr l R W) (hg : w.heap.size + 4 ≤ g) (hgr : g < gr) (i x : Nat) : DV w u v g gr (l.set i x) R (W.setCell ⟨g, i, none⟩ (.int .u32 (x : Int))) := by
  obtain ⟨⟨h1, h2, h3⟩, h4, h5, h6, ra, rk, h7, h8, h9⟩ := h
  exact ⟨⟨h1.far (by dsimp only; omega) _, (World.cell?_setCell_far W _ _ _ (by dsimp only; omega)).trans h2, (World.cell?_setCell_far W _ _ _ (by dsimp only; omega)).trans h3⟩, h4.set _ _, by simpa using h5, (World.frozen?_setCell _ _ _ _).trans h6, ra, rk,
    (World.cell?_setCell_far W _ _ _ (by dsimp only; omega)).trans h7, h8.set h9 (by dsimp only; omega) _, h9⟩
end
theorem DV.start (w W W1 : World) (u v : Value) (g : Nat) (l : List Nat) (hB : Boxes w W) (hu : W.cell? ⟨w.heap.size, 0, none⟩ = some u) (hv : W.cell? ⟨w.heap.size + 1, 0, none⟩ = some v) (hO : Own W g l) :
    DV w u v g W.heap.size l 0 (W.alloc (.cells #[.slice none 0 0] 24)) := by
  have hs := hB.2.1
  have hb := below_one W (.cells #[.slice none 0 0] 24)
  exact ⟨⟨hB.on hb, (hb.cell (by dsimp only; omega)).trans hu, (hb.cell (by dsimp only; omega)).trans hv⟩, hO.below' hb, by simp, box1f _ _ _, none, 0, by rw [len_zero]; exact box1a _ _ _, by rw [len_zero]; exact Nt.zero _, by rw [len_zero]; exact Fr.nil _⟩


set_option maxRecDepth 100000 in
set_option maxHeartbeats 4000000 in
theorem refDiv_c (a b : Value) (N M : Nat) (w : World) (ha : Nt w a N) (hb : Nt w b M) (h1 : len N ≤ 64) (h2 : len M ≤ 64) (hM : M ≠ 0) :
    Calls Try.prog 21 #[.agg #[a], .agg #[b]] w fun e w' => (∃ qa qk ra rk, e = .returned (.tuple #[.agg #[.slice qa (len (N / M)) qk], .agg #[.slice ra (len (N % M)) rk]]) ∧ Hid (Nt w' (.slice qa (len (N / M)) qk) (N / M) ∧ Nt w' (.slice ra (len (N % M)) rk) (N % M))) ∧ Below w.heap.size w w' := by
  have HA := Lib.hid ha
  have HB := Lib.hid hb
  obtain ⟨ao, ca, rfl, a1, a2, -⟩ := ha.open
  obtain ⟨bo, cb, rfl, b1, b2, -⟩ := hb.open
  have l1 : (len N : Int) ≤ 64 := by omega
  obtain ⟨x1, x2, x3, x4, x5, x6⟩ := box4 w (.slice ao (len N) ca) (.slice bo (len M) cb) (.slice none 0 0) (.slice none 0 0) 24 24 24 24
  have BX0 : Hid (Boxes w ((((w.alloc (.cells #[.slice ao (len N) ca] 24)).alloc (.cells #[.slice bo (len M) cb] 24)).alloc (.cells #[.slice none 0 0] 24)).alloc (.cells #[.slice none 0 0] 24))) := Lib.hid ⟨below_four _ _ _ _ _, by simp, x3, x4, x5, x6⟩
  clear ha hb
  go_enter Try.func21, Try.ntmps21
  go_wp2_with (at_make; go_loud (refine wpList_make_words _ rfl _ _ rfl (len N) _ _ rfl rfl rfl rfl (by omega) (w.heap.size + 4) (by simp) ?_; intro w3 hO hB; have y1 := (hB.cell (p := ⟨w.heap.size, 0, none⟩) (by dsimp only; omega)).trans x1; have y0 : w.heap.size < w3.heap.size := Nat.lt_trans (by omega) hO.lt))
  have hB3 : Boxes w w3 := BX0.out.on (hB.mono (by simp))
  have y2 := (hB.cell (p := ⟨w.heap.size + 1, 0, none⟩) (by dsimp only; omega)).trans x2
  have D0 := Lib.hid (DV.start w w3 w3 _ _ _ _ hB3 y1 y2 hO)
  have hgr0 : w.heap.size + 4 < w3.heap.size := hO.lt
  clear x1 x2 x3 x4 x5 x6 hO hB hB3 y1 y2
  refine (refBits_c _ N _ (HA.out.below' D0.out.1.1.1) (by omega)).mono ?_
  rintro e w4 ⟨rfl, hb4⟩
  have D4 := Lib.hid (D0.out.on hb4)
  obtain ⟨gr, hgr⟩ : ∃ gr, gr = w3.heap.size := ⟨_, rfl⟩
  obtain ⟨g, hg⟩ : ∃ g, g = w.heap.size + 4 := ⟨_, rfl⟩
  rw [← hgr, ← hg] at D4
  rw [← hgr, ← hg]
  have hg4 : w.heap.size + 4 ≤ g := by omega
  have hggr : g < gr := by omega
  have hbl : bl N ≤ 2048 := Nat.le_trans (len_bl.1 (Nat.le_refl (len N))) (by omega)
  have hI0 : Hid (∃ l, l.length = len N ∧ words l ∧ val l = N / M / 2 ^ bl N * 2 ^ bl N ∧ DV w (.slice ao (len N) ca) (.slice bo (len M) cb) g gr l (N / 2 ^ bl N % M) w4) := Lib.hid (by
    have e1 : N / 2 ^ bl N = 0 := Nat.div_eq_of_lt (lt_two_bl N)
    have e2 : N / M / 2 ^ bl N = 0 := Nat.div_eq_of_lt (Nat.lt_of_le_of_lt (Nat.div_le_self _ _) (lt_two_bl N))
    rw [e1, e2, Nat.zero_mod, Nat.zero_mul]
    exact ⟨_, by simp, words_zeros _, val_zeros _, D4.out⟩)
  have hbN := Lib.hid (len_bl (n := N) (k := len N))
  clear D0 D4 hgr hg hb4 hgr0 BX0
  generalize hB : bl N = B at *
  have HBl : Hid (B ≤ 32 * len N) := Lib.hid (hbN.out.1 (Nat.le_refl _))
  clear hbN hB
  go_wp2_with fail
  go_loopw [8] (fun s8 wr => ∃ k : Nat, s8 = .int .i64 ((k : Int) - 1) ∧ k ≤ B ∧ Hid (∃ l, l.length = len N ∧ words l ∧ val l = N / M / 2 ^ k * 2 ^ k ∧ DV w (.slice ao (len N) ca) (.slice bo (len M) cb) g gr l (N / 2 ^ k % M) wr)) (fun s8 _ => (RowKit.intOf s8 + 1).toNat)
  case atStart => exact ⟨B, rfl, Nat.le_refl _, hI0⟩
  case round =>
    clear hI0
    obtain ⟨k, rfl, hk, hI⟩ := hrel
    obtain ⟨l, hl1, hl2, hl3, hDD⟩ := hI.out
    by_cases h0 : k = 0
    · as_aux_lemma =>
      subst h0
      rw [Nat.pow_zero, Nat.div_one, Nat.mul_one] at hl3
      rw [Nat.pow_zero, Nat.div_one] at hDD
      have hge : decide (1 ≤ ((0 : Nat) : Int)) = false := rfl
      have hge2 : decide ((0 : Int) ≤ ((0 : Nat) : Int) - 1) = false := rfl
      obtain ⟨⟨hbx, f1, f2⟩, hOq, hgrs, hfr, ra, rk, hcr, hNr, hFr⟩ := hDD
      have hOd := hOq.qw (w' := wr.drew) ⟨1, rfl⟩
      have hS := hOd.sl hl2 (by omega)
      rw [hl1] at hS
      have cT := Lib.hid (trim_c _ _ wr.drew hS (by omega))
      rw [hl3] at cT
      clear hI hOq hOd hS hl1 hl2 hl3
      go_wp2_with fail
      refine wp_region_held_drew (S := fun w' => w'.cell? ⟨gr, 0, none⟩ = some (.slice ra (len (N % M)) rk)) (by kernel_rfl) (by exact hcr) (fun hHeld => ?_)
      refine takeW (i := 0) (some 44) (v := ?_) rfl rfl (by kernel_rfl) (by kernel_rfl) (by kernel_rfl) (fun _ _ _ h => h) (by rfl) (by assumption) ?_ ?_
      rotate_left
      · (intro wS hSw; (try dsimp only at hSw); go_simp; try with_reducible rfl)
      try simp only [Act.put, List.setIfInBounds_toArray, List.set_cons_zero, List.set_cons_succ]
      refine takeW (i := 2) (some 46) (v := ?_) rfl rfl (by kernel_rfl) (by kernel_rfl) (by kernel_rfl) (fun _ _ _ h => h) (by rfl) (by assumption) ?_ ?_
      rotate_left
      · (intro wS hSw; (try dsimp only at hSw); go_simp; try with_reducible rfl)
      try simp only [Act.put, List.setIfInBounds_toArray, List.set_cons_zero, List.set_cons_succ]
      refine wpAnyH_ready (rs := [1]) (by kernel_rfl) (by simp) ?_
      refine AllReadyH.cons rfl (fun KK hKK => ?_) AllReadyH.nil
      go_simp
      refine cT.out.mono ?_
      rintro e w6 ⟨⟨a6, c6, rfl, hN6⟩, hb6⟩
      have hB6 := hbx.drew.on hb6
      have hcr6 := (hb6.cell (p := ⟨gr, 0, none⟩) hgrs).trans hcr
      have hN7 := Lib.hid hN6.out
      have hR7 : Nt w6 (.slice ra (len (N % M)) rk) (N % M) := Nt.below' (w := wr.drew) (Nt.below' hNr (below_drewN (Below.refl _ _) 1)) hb6
      have hq6 := Fr.mono hN7.out.2 (show w.heap.size + 4 ≤ wr.drew.heap.size from hbx.2.1)
      obtain ⟨u1, u2, u3, u4, u5, u6⟩ := hB6
      have HF : Hid (Nt ((w6.setCell ⟨w.heap.size + 1 + 1, 0, none⟩ (.slice a6 (len (N / M)) c6)).setCell ⟨w.heap.size + 1 + 1 + 1, 0, none⟩ (.slice ra (len (N % M)) rk)) (.slice a6 (len (N / M)) c6) (N / M) ∧ Nt ((w6.setCell ⟨w.heap.size + 1 + 1, 0, none⟩ (.slice a6 (len (N / M)) c6)).setCell ⟨w.heap.size + 1 + 1 + 1, 0, none⟩ (.slice ra (len (N % M)) rk)) (.slice ra (len (N % M)) rk) (N % M)) := Lib.hid ⟨(hN7.out.1.set hq6 (by dsimp only; omega) _).set hq6 (by dsimp only; omega) _, (hR7.set hFr (by dsimp only; omega) _).set hFr (by dsimp only; omega) _⟩
      have HB2 := Lib.hid (Below.setCell (Below.setCell u1 (show w.heap.size ≤ (⟨w.heap.size + 1 + 1, 0, none⟩ : Addr).block from by dsimp only; omega) (.slice a6 (len (N / M)) c6)) (show w.heap.size ≤ (⟨w.heap.size + 1 + 1 + 1, 0, none⟩ : Addr).block from by dsimp only; omega) (.slice ra (len (N % M)) rk))
      clear hN6 hb6 hR7 hq6
      (try dsimp only)
      refine hKK.out _ _ ?_ (fun hHeld => ?_)
      · exact hcr6
      clear hKK KK
      try simp only [Act.put, List.setIfInBounds_toArray, List.set_cons_zero, List.set_cons_succ]
      refine wpAnyH_ready (rs := [3]) (by kernel_rfl) (by simp) ?_
      refine AllReadyH.cons rfl (fun KK hKK => ?_) AllReadyH.nil
      go_simp
      refine hKK.out _ _ ?_ (fun hHeld => ?_)
      · exact (World.cell?_setCell_far w6 _ ⟨gr, 0, none⟩ _ (by dsimp only; omega)).trans hcr6
      clear hKK KK
      try simp only [Act.put, List.setIfInBounds_toArray, List.set_cons_zero, List.set_cons_succ]
      refine wpAnyH_ready (rs := [4]) (by kernel_rfl) (by simp) ?_
      refine AllReadyH.cons rfl (fun KK hKK => ?_) AllReadyH.nil
      go_simp
      refine hKK.out _ _ ?_ (fun hHeld => ?_)
      · exact (World.cell?_setCell_far _ _ ⟨gr, 0, none⟩ _ (by dsimp only; omega)).trans ((World.cell?_setCell_far w6 _ ⟨gr, 0, none⟩ _ (by dsimp only; omega)).trans hcr6)
      clear hKK KK
      try simp only [Act.put, List.setIfInBounds_toArray, List.set_cons_zero, List.set_cons_succ]
      refine wpAnyH_done (by kernel_rfl) ?_ _
      go_wp2
      exact bodyPost_ret (v := .tuple #[.agg #[.slice a6 (len (N / M)) c6], .agg #[.slice ra (len (N % M)) rk]]) (by simp [results, Try.results21, go_sem, u3, u5]) rfl ⟨⟨a6, c6, ra, rk, rfl, HF⟩, HB2.out⟩
    · obtain ⟨j, rfl⟩ : ∃ j, k = j + 1 := ⟨k - 1, by omega⟩
      have ej : (((j + 1 : Nat) : Int) - 1) = (j : Int) := by omega
      rw [ej]
      clear ej h0
      have hjB : j < 32 * len N := by have := HBl.out; omega
      obtain ⟨R0, hR0⟩ : ∃ R, N / 2 ^ (j + 1) % M = R := ⟨_, rfl⟩
      have hR0M : R0 < M := by rw [← hR0]; exact Nat.mod_lt _ (by omega)
      obtain ⟨R1, hR1'⟩ : ∃ R, R = 2 * R0 + b2n (bt N j) := ⟨_, rfl⟩
      have hR1 := Lib.hid hR1'
      have hdb := Lib.hid (div_bit N M j (b2n (bt N j)) R1 (by omega) rfl (by rw [hR0]; exact hR1'))
      rw [hR0] at hDD
      have hlenM : len R0 ≤ 64 := Nat.le_trans (len_mono (Nat.le_of_lt hR0M)) h2
      obtain ⟨⟨hbx, f1, f2⟩, hOq, hgrs, hfr, ra, rk, hcr, hNr, hFr⟩ := hDD
      have hDD : DV w (.slice ao (len N) ca) (.slice bo (len M) cb) g gr l R0 wr := ⟨⟨hbx, f1, f2⟩, hOq, hgrs, hfr, ra, rk, hcr, hNr, hFr⟩
      have hHI := Lib.hid (And.intro hl1 (And.intro hl2 hl3))
      clear hI hl1 hl2 hl3 hR1'
      go_upto_region 6 with (fail)
      go_cut [] (fun wx => Hid (DV w (.slice ao (len N) ca) (.slice bo (len M) cb) g gr l R1 wx))
      case first => as_aux_lemma =>
        have hj63 : (j : Int) ≤ 9223372036854775807 := by omega
        have hBB0 : Below wr.heap.size wr wr.drew := below_drewN (Below.refl _ _) 1
        have hd0 := hDD.on hBB0
        refine wp_region_held_drew (S := fun w' => w'.cell? ⟨w.heap.size, 0, none⟩ = some (.slice ao (len N) ca)) (by kernel_rfl) (by exact hd0.1.2.1) (fun hHeld => ?_)
        refine takeW (i := 1) (some 21) (v := ?_) rfl rfl (by kernel_rfl) (by kernel_rfl) (by kernel_rfl) (fun _ _ _ h => h) (by rfl) (by assumption) ?_ ?_
        rotate_left
        · (intro wS hSw; (try dsimp only at hSw); go_simp; try with_reducible rfl)
        try simp only [Act.put, List.setIfInBounds_toArray, List.set_cons_zero, List.set_cons_succ]
        refine takeW (i := 2) (some 22) (v := ?_) rfl rfl (by kernel_rfl) (by kernel_rfl) (by kernel_rfl) (fun _ _ _ h => h) (by rfl) (by assumption) ?_ ?_
        rotate_left
        · (intro wS hSw; (try dsimp only at hSw); go_simp; try with_reducible rfl)
        try simp only [Act.put, List.setIfInBounds_toArray, List.set_cons_zero, List.set_cons_succ]
        refine wpAnyH_ready (rs := [0, 3]) (by kernel_rfl) (by simp) ?_
        refine AllReadyH.cons rfl (fun KK hKK => ?_) (AllReadyH.cons rfl (fun KK hKK => ?_) AllReadyH.nil)
        · go_simp
          refine hKK.out _ _ ?_ (fun hHeld => ?_)
          · exact hd0.1.2.1
          clear hKK KK
          try simp only [Act.put, List.setIfInBounds_toArray, List.set_cons_zero, List.set_cons_succ]
          refine wpAnyH_ready (rs := [3]) (by kernel_rfl) (by simp) ?_
          refine AllReadyH.cons rfl (fun KK hKK => ?_) AllReadyH.nil
          go_simp
          refine (refBit_c _ N j _ (HA.out.below' hd0.1.1.1) (by omega) hj63).mono ?_
          rintro e w5 ⟨rfl, hb5⟩
          have hd5 := hd0.on hb5
          (try dsimp only)
          refine hKK.out _ _ ?_ (fun hHeld => ?_)
          · exact hd5.1.2.1
          clear hKK KK
          try simp only [Act.put, List.setIfInBounds_toArray, List.set_cons_zero, List.set_cons_succ]
          have hd5n : Nt w5 (.slice ra (len R0) rk) R0 := (hNr.below' hBB0).below' hb5
          refine wpAnyH_ready (rs := [4]) (by kernel_rfl) (by simp) ?_
          refine AllReadyH.cons rfl (fun KK hKK => ?_) AllReadyH.nil
          go_simp
          refine (twice_c _ R0 (bt N j) _ (show Nt _ (.slice ra (len R0) rk) R0 from hd5n) (by omega)).mono ?_
          rw [show 2 * R0 + b2n (bt N j) = R1 from hR1.out.symm]
          rintro e w6 ⟨⟨a6, c6, rfl, hN6⟩, hb6⟩
          have hd6 := hd5.on hb6
          have hF6 := Fr.mono hN6.out.2 (show gr + 1 ≤ _ from hd5.2.2.1)
          (try dsimp only)
          refine hKK.out _ _ ?_ (fun hHeld => ?_)
          · exact hd6.1.2.1
          clear hKK KK
          try simp only [Act.put, List.setIfInBounds_toArray, List.set_cons_zero, List.set_cons_succ]
          refine wpAnyH_ready (rs := [5]) (by kernel_rfl) (by simp) ?_
          refine AllReadyH.cons rfl (fun KK hKK => ?_) AllReadyH.nil
          have hP := hd6.put hg4 hggr hN6.out.1 hF6
          obtain ⟨_, _, hs6, hf6, ra6, rk6, hc6, _, _⟩ := hd6
          go_simp
          refine hKK.out _ _ ?_ (fun hHeld => ?_)
          · exact hP.1.2.1
          clear hKK KK
          try simp only [Act.put, List.setIfInBounds_toArray, List.set_cons_zero, List.set_cons_succ]
          refine wpAnyH_done (by kernel_rfl) ?_ _
          go_wp2_with fail
          go_meet
          exact Lib.hid hP
        · go_simp
          refine (refBit_c _ N j _ (HA.out.below' hd0.1.1.1) (by omega) hj63).mono ?_
          rintro e w5 ⟨rfl, hb5⟩
          have hd5 := hd0.on hb5
          (try dsimp only)
          refine hKK.out _ _ ?_ (fun hHeld => ?_)
          · exact hd5.1.2.1
          clear hKK KK
          try simp only [Act.put, List.setIfInBounds_toArray, List.set_cons_zero, List.set_cons_succ]
          have hd5n : Nt w5 (.slice ra (len R0) rk) R0 := (hNr.below' hBB0).below' hb5
          have hc5 := (hb5.cell (p := ⟨gr, 0, none⟩) hd0.2.2.1).trans hcr
          refine wpAnyH_ready (rs := [0]) (by kernel_rfl) (by simp) ?_
          refine AllReadyH.cons rfl (fun KK hKK => ?_) AllReadyH.nil
          go_simp
          refine hKK.out _ _ ?_ (fun hHeld => ?_)
          · exact hd5.1.2.1
          clear hKK KK
          try simp only [Act.put, List.setIfInBounds_toArray, List.set_cons_zero, List.set_cons_succ]
          refine wpAnyH_ready (rs := [4]) (by kernel_rfl) (by simp) ?_
          refine AllReadyH.cons rfl (fun KK hKK => ?_) AllReadyH.nil
          go_simp
          refine (twice_c _ R0 (bt N j) _ (show Nt _ (.slice ra (len R0) rk) R0 from hd5n) (by omega)).mono ?_
          rw [show 2 * R0 + b2n (bt N j) = R1 from hR1.out.symm]
          rintro e w6 ⟨⟨a6, c6, rfl, hN6⟩, hb6⟩
          have hd6 := hd5.on hb6
          have hF6 := Fr.mono hN6.out.2 (show gr + 1 ≤ _ from hd5.2.2.1)
          (try dsimp only)
          refine hKK.out _ _ ?_ (fun hHeld => ?_)
          · exact hd6.1.2.1
          clear hKK KK
          try simp only [Act.put, List.setIfInBounds_toArray, List.set_cons_zero, List.set_cons_succ]
          refine wpAnyH_ready (rs := [5]) (by kernel_rfl) (by simp) ?_
          refine AllReadyH.cons rfl (fun KK hKK => ?_) AllReadyH.nil
          have hP := hd6.put hg4 hggr hN6.out.1 hF6
          obtain ⟨_, _, hs6, hf6, ra6, rk6, hc6, _, _⟩ := hd6
          go_simp
          refine hKK.out _ _ ?_ (fun hHeld => ?_)
          · exact hP.1.2.1
          clear hKK KK
          try simp only [Act.put, List.setIfInBounds_toArray, List.set_cons_zero, List.set_cons_succ]
          refine wpAnyH_done (by kernel_rfl) ?_ _
          go_wp2_with fail
          go_meet
          exact Lib.hid hP
      case rest => as_aux_lemma =>
        clear hDD hbx f1 f2 hOq hgrs hfr hcr hNr hFr
        have hC := hcut.out
        obtain ⟨⟨hbx, f1, f2⟩, hOq, hgrs, hfr, ra1, rk1, hcr, hNr, hFr⟩ := hcut.out
        have hR1l : len R1 ≤ 65 := by
          have h3 := hdb.out.2.2
          have h4 := len_le_iff.1 h2
          rw [len_le_iff, show (65 : Nat) = 64 + 1 from rfl, Bp_succ]; omega
        go_wp2_with fail
        refine (longer_c _ _ R1 M _ hNr (HB.out.below' hbx.1) (by omega) h2).mono ?_
        rintro e w7 ⟨rfl, hb7⟩
        have hD7 := Lib.hid (hC.on hb7)
        clear hC hcut hbx f1 f2 hOq hgrs hfr hcr hNr hFr hb7
        obtain ⟨⟨hbx, f1, f2⟩, hOq, hgrs, hfr, ra2, rk2, hcr, hNr, hFr⟩ := hD7.out
        have hs7 := hbx.2.1
        by_cases hMR : M ≤ R1
        · have t1 : decide (M ≤ R1) = true := decide_eq_true hMR
          obtain ⟨v1, v2⟩ := hdb.out.1 hMR
          go_wp2_with fail
          refine (refSub100_c _ _ R1 M _ hNr (HB.out.below' hbx.1) (by omega) hMR).mono ?_
          rintro e w8 ⟨⟨a8, c8, rfl, hN8⟩, hb8⟩
          have hD8 := hD7.out.on hb8
          have hD9 := Lib.hid (hD8.put hg4 hggr hN8.out.1 (Fr.mono hN8.out.2 hgrs))
          clear hbx f1 f2 hOq hgrs hfr hcr hNr hFr hs7
          obtain ⟨⟨hbx, f1, f2⟩, hOq, hgrs, hfr, ra3, rk3, hcr, hNr, hFr⟩ := hD8
          clear hb8 hN8
          go_wp2_with fail
          generalize hW9 : w8.setCell ⟨gr, 0, none⟩ (.slice a8 (len (R1 - M)) c8) = W9 at *
          clear hbx f1 f2 hOq hgrs hfr hcr hNr hFr
          obtain ⟨⟨hbx, f1, f2⟩, hOq, hgrs, hfr, ra3', rk3', hcr, hNr, hFr⟩ := hD9.out
          obtain ⟨hl1, hl2, hl3⟩ := hHI.out
          obtain ⟨sb1, sb2, sb3⟩ := set_bit (j := j) hl2 (by rw [hl1]; exact hjB) (by rw [hl3]; exact Nat.mul_mod_left _ _)
          have hq2 := hOq.cell (i := j / 32) (by omega)
          have hf2 := hOq.frozen (j / 32)
          have hD10 := Lib.hid (fun V (hq : Qw W9 V) => (hD9.out.on (hq.below _)).bit hg4 hggr (j / 32) (l.getD (j / 32) 0 + 2 ^ (j % 32)))
          have HL : Hid ((l.set (j / 32) (l.getD (j / 32) 0 + 2 ^ (j % 32))).length = len N ∧ words (l.set (j / 32) (l.getD (j / 32) 0 + 2 ^ (j % 32))) ∧ val (l.set (j / 32) (l.getD (j / 32) 0 + 2 ^ (j % 32))) = N / M / 2 ^ j * 2 ^ j) := Lib.hid ⟨by rw [List.length_set, hl1], sb2, by rw [sb3, hl3, v2, Nat.pow_succ, Nat.add_mul, Nat.one_mul]; congr 1; rw [Nat.mul_comm 2, Nat.mul_assoc, Nat.mul_comm 2 (2 ^ j)]⟩
          generalize l.set (j / 32) (l.getD (j / 32) 0 + 2 ^ (j % 32)) = l2 at *
          have hu := getD_lt hl2 (j / 32)
          have jd32 : j / 32 < len N := by omega
          have jd33 : ((j / 32 : Nat) : Int) < (len N : Int) := by omega
          have hjs : j % 32 < 32 := Nat.mod_lt _ (by omega)
          have e1 : (j : Int).tdiv 32 = ((j / 32 : Nat) : Int) := by rw [Int.tdiv_eq_ediv_of_nonneg (by omega)]; rfl
          have e2 : (j : Int).tmod 32 = ((j % 32 : Nat) : Int) := by rw [Int.tmod_eq_emod_of_nonneg (by omega)]; rfl
          have e3 : (j : Int) / 32 = ((j / 32 : Nat) : Int) := rfl
          have e4 : (j : Int) % 32 = ((j % 32 : Nat) : Int) := rfl
          have e0 : IntKind.i64.wrap ((j / 32 : Nat) : Int) = ((j / 32 : Nat) : Int) := IntWalk.i64_in _ (by omega)
          generalize l.getD (j / 32) 0 = u at *
          generalize j / 32 = jd at *
          generalize j % 32 = js at *
          have hp2 : 2 ^ js < 4294967296 := by omega
          have e5 : ∀ p : Nat, p = 2 ^ js → p < 4294967296 → IntKind.u32.wrap ((2 : Int) ^ js) = (p : Int) := fun p hp hl => by
            rw [show (2 : Int) ^ js = (p : Int) from by rw [hp]; push_cast; rfl, IntKind.wrap_u32]; omega
          generalize hpp : 2 ^ js = p at *
          replace e5 := e5 p rfl hp2
          clear hpp
          have e6 : IntKind.u32.wrap ((u : Int) + (p : Int)) = ((u + p : Nat) : Int) := by rw [IntKind.wrap_u32]; omega
          generalize u + p = nw at *
          clear sb2 sb3 hl1 hl2 hl3 v2 hW9 hbx f1 f2 hOq hgrs hfr hcr hNr hFr hD9 hD7
          refine wp_region_held_drew (S := fun _ => True) (by kernel_rfl) trivial (fun hHeld => ?_)
          refine takeW (i := 0) (some 31) (v := ?_) rfl rfl (by kernel_rfl) (by kernel_rfl) (by kernel_rfl) (fun _ _ _ h => h) (by rfl) (by assumption) ?_ ?_
          rotate_left
          · (intro wS hSw; (try dsimp only at hSw); go_simp; try with_reducible rfl)
          try simp only [Act.put, List.setIfInBounds_toArray, List.set_cons_zero, List.set_cons_succ]
          refine takeW (i := 1) (some 32) (v := ?_) rfl rfl (by kernel_rfl) (by kernel_rfl) (by kernel_rfl) (fun _ _ _ h => h) (by rfl) (by assumption) ?_ ?_
          rotate_left
          · (intro wS hSw; (try dsimp only at hSw); go_simp; try with_reducible rfl)
          try simp only [Act.put, List.setIfInBounds_toArray, List.set_cons_zero, List.set_cons_succ]
          refine takeW (i := 2) (some 33) (v := ?_) rfl rfl (by kernel_rfl) (by kernel_rfl) (by kernel_rfl) (fun _ _ _ h => h) (by rfl) (by assumption) ?_ ?_
          rotate_left
          · (intro wS hSw; (try dsimp only at hSw); go_simp; try with_reducible rfl)
          try simp only [Act.put, List.setIfInBounds_toArray, List.set_cons_zero, List.set_cons_succ]
          refine takeW (i := 3) (some 34) (v := ?_) rfl rfl (by kernel_rfl) (by kernel_rfl) (by kernel_rfl) (fun _ _ _ h => h) (by rfl) (by assumption) ?_ ?_
          rotate_left
          · (intro wS hSw; (try dsimp only at hSw); go_simp; try with_reducible rfl)
          try simp only [Act.put, List.setIfInBounds_toArray, List.set_cons_zero, List.set_cons_succ]
          refine takeW (i := 4) (some 35) (v := ?_) rfl rfl (by kernel_rfl) (by kernel_rfl) (by kernel_rfl) (fun _ _ _ h => h) (by rfl) (by assumption) ?_ ?_
          rotate_left
          · (intro wS hSw; (try dsimp only at hSw); go_simp; try with_reducible rfl)
          try simp only [Act.put, List.setIfInBounds_toArray, List.set_cons_zero, List.set_cons_succ]
          refine takeW (i := 5) (some 36) (v := ?_) rfl rfl (by kernel_rfl) (by kernel_rfl) (by kernel_rfl) (fun _ _ _ h => h) (by rfl) (by assumption) ?_ ?_
          rotate_left
          · (intro wS hSw; (try dsimp only at hSw); go_simp; try with_reducible rfl)
          try simp only [Act.put, List.setIfInBounds_toArray, List.set_cons_zero, List.set_cons_succ]
          refine takeW (i := 6) (some 37) (v := ?_) rfl rfl (by kernel_rfl) (by kernel_rfl) (by kernel_rfl) (fun _ _ _ h => h) (by rfl) (by assumption) ?_ ?_
          rotate_left
          · (intro wS hSw; (try dsimp only at hSw); go_simp; try with_reducible rfl)
          try simp only [Act.put, List.setIfInBounds_toArray, List.set_cons_zero, List.set_cons_succ]
          refine takeW (i := 8) (some 39) (v := ?_) rfl rfl (by kernel_rfl) (by kernel_rfl) (by kernel_rfl) (fun _ _ _ h => h) (by rfl) (by assumption) ?_ ?_
          rotate_left
          · (intro wS hSw; (try dsimp only at hSw); go_simp; try with_reducible rfl)
          try simp only [Act.put, List.setIfInBounds_toArray, List.set_cons_zero, List.set_cons_succ]
          refine takeW (i := 9) (some 40) (v := ?_) rfl rfl (by kernel_rfl) (by kernel_rfl) (by kernel_rfl) (fun _ _ _ h => h) (by rfl) (by assumption) ?_ ?_
          rotate_left
          · (intro wS hSw; (try dsimp only at hSw); go_simp; try with_reducible rfl)
          try simp only [Act.put, List.setIfInBounds_toArray, List.set_cons_zero, List.set_cons_succ]
          refine takeW (i := 10) (some 41) (v := ?_) rfl rfl (by kernel_rfl) (by kernel_rfl) (by kernel_rfl) (fun _ _ _ h => h) (by rfl) (by assumption) ?_ ?_
          rotate_left
          · (intro wS hSw; (try dsimp only at hSw); go_simp; try with_reducible rfl)
          try simp only [Act.put, List.setIfInBounds_toArray, List.set_cons_zero, List.set_cons_succ]
          refine wpAnyH_ready (rs := [7]) (by kernel_rfl) (by simp) ?_
          refine AllReadyH.cons rfl (fun KK hKK => ?_) AllReadyH.nil
          go_simp
          refine hKK.out _ _ ?_ (fun hHeld => ?_)
          · exact trivial
          clear hKK KK
          try simp only [Act.put, List.setIfInBounds_toArray, List.set_cons_zero, List.set_cons_succ]
          refine takeW (i := 11) (some 42) (v := ?_) rfl rfl (by kernel_rfl) (by kernel_rfl) (by kernel_rfl) (fun _ _ _ h => h) (by rfl) (by assumption) ?_ ?_
          rotate_left
          · (intro wS hSw; (try dsimp only at hSw); go_simp; try with_reducible rfl)
          try simp only [Act.put, List.setIfInBounds_toArray, List.set_cons_zero, List.set_cons_succ]
          refine takeW (i := 12) (some 43) (v := ?_) rfl rfl (by kernel_rfl) (by kernel_rfl) (by kernel_rfl) (fun _ _ _ h => h) (by rfl) (by assumption) ?_ ?_
          rotate_left
          · (intro wS hSw; (try dsimp only at hSw); go_simp; try with_reducible rfl)
          try simp only [Act.put, List.setIfInBounds_toArray, List.set_cons_zero, List.set_cons_succ]
          refine wpAnyH_ready (rs := [13]) (by kernel_rfl) (by simp) ?_
          refine AllReadyH.cons rfl (fun KK hKK => ?_) AllReadyH.nil
          go_simp
          refine hKK.out _ _ ?_ (fun hHeld => ?_)
          · exact trivial
          clear hKK KK
          try simp only [Act.put, List.setIfInBounds_toArray, List.set_cons_zero, List.set_cons_succ]
          refine wpAnyH_done (by kernel_rfl) ?_ _
          have hqw : Qw W9 W9.drew := ⟨1, rfl⟩
          have HF := Lib.hid (hD10.out _ hqw)
          rw [← v1] at HF
          clear hqw hD10 e0 e1 e2 e3 e4 e5 e6
          go_wp2
          go_roundw
          case rel => exact ⟨j, rfl, by omega, Lib.hid ⟨l2, HL.out.1, HL.out.2.1, HL.out.2.2, HF.out⟩⟩
          case measure => simp [RowKit.intOf]
        · have t1 : decide (M ≤ R1) = false := decide_eq_false hMR
          obtain ⟨v1, v2⟩ := hdb.out.2.1 hMR
          obtain ⟨hl1, hl2, hl3⟩ := hHI.out
          have HF : Hid (∃ l, l.length = len N ∧ words l ∧ val l = N / M / 2 ^ j * 2 ^ j ∧ DV w (.slice ao (len N) ca) (.slice bo (len M) cb) g gr l (N / 2 ^ j % M) w7) := Lib.hid ⟨l, hl1, hl2, by rw [hl3, v2, Nat.pow_succ, Nat.mul_comm 2, Nat.mul_assoc, Nat.mul_comm 2 (2 ^ j)], by rw [v1]; exact hD7.out⟩
          clear v1 v2 hl1 hl2 hl3 hbx f1 f2 hOq hgrs hfr hcr hNr hFr
          go_wp2
          go_roundw
          case rel => exact ⟨j, rfl, by omega, HF⟩
          case measure => simp [RowKit.intOf]
end Go.Proofs.Ytgogfjehbaiklaa

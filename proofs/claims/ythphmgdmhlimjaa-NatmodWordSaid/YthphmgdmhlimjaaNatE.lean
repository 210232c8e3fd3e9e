/- The contract of Add. -/
import Derived.Test.YthphmgdmhlimjaaNatD
namespace Go.Proofs.Ythphmgdmhlimjaa
open Go.RowKit NatMath
set_option linter.unusedVariables false

/-- the number S, or the error that it is too big -/
def BigPost (S : Nat) (n : Nat) (e : Ending) (w' : World) : Prop := (len S ≤ 64 ∧ RetN (fun w' v' => Nt w' v' S ∧ Fr n v') e w') ∨ (¬ len S ≤ 64 ∧ e = errN 9)

/-- the number S, in a block that may be written to, or the error that it is too big -/
def BigPostU (S : Nat) (n : Nat) (e : Ending) (w' : World) : Prop := (len S ≤ 64 ∧ RetN (fun w' v' => NtU w' v' S ∧ Fr n v') e w') ∨ (¬ len S ≤ 64 ∧ e = errN 9)
theorem RetN.old {S n : Nat} {e : Ending} {w' : World} (h : RetN (fun w' v' => NtU w' v' S ∧ Fr n v') e w') : RetN (fun w' v' => Nt w' v' S ∧ Fr n v') e w' := by
  obtain ⟨v, hv, he⟩ := h
  exact ⟨v, Lib.hid ⟨hv.out.1.1, hv.out.2⟩, he⟩
theorem BigPostU.old {S n : Nat} {e : Ending} {w' : World} (h : BigPostU S n e w') : BigPost S n e w' := h.imp (fun h => ⟨h.1, h.2.old⟩) id

theorem Fr.block {n g k c : Nat} (h : n ≤ g) : Fr n (.slice (some ⟨g, 0, none⟩) k c) := by
  intro a k' c' e
  simp at e
  rw [← e.1]; exact h
theorem Fr.same {n : Nat} {v v' : Value} (h : Fr n v) (e : v'.ownBlock = v.ownBlock) : Fr n v' := by
  intro a k c hv
  subst hv
  cases v with
  | slice ao k' c' =>
    cases ao with
    | none => simp [Value.ownBlock] at e
    | some a' => simp [Value.ownBlock] at e; rw [e]; exact h a' _ _ rfl
  | _ => simp [Value.ownBlock] at e

/-- checked, of a block of the call's own -/
theorem checked_ownU (g : Nat) (l : List Nat) (w : World) (h : Own w g l) (hw : words l) (m : Nat) (hm : l.length = m) (hl : m ≤ 9223372036854775807) (n : Nat) (hn : n ≤ g) :
    Calls Try.prog 73 #[.slice (some ⟨g, 0, none⟩) m m] w fun e w' =>
      ((len (val l) ≤ 64 ∧ ∃ v : Value, Hid ((∀ W, Own W g l → NtU W v (val l)) ∧ Fr n v) ∧ e = .returned (.tuple #[.agg #[v], .int .i64 0])) ∨ (¬ len (val l) ≤ 64 ∧ e = errN 9)) ∧ Below w.heap.size w w' := by
  subst hm
  have hS := h.sl hw hl
  by_cases hc : len (val l) ≤ 64
  · refine (checked_ok _ l w hS hc).mono ?_
    rintro e w' ⟨⟨v, hv, he⟩, hb⟩
    exact ⟨Or.inl ⟨hc, v, Lib.hid ⟨fun W hW => ⟨hv.out.1 W (hW.sl hw hl), hW.uf hv.out.2⟩, (Fr.block hn).same hv.out.2⟩, he⟩, hb⟩
  · refine (checked_big _ l w hS hc).mono ?_
    rintro e w' ⟨he, hb⟩
    exact ⟨Or.inr ⟨hc, he⟩, hb⟩

theorem add32_dig (X Y k : Nat) (w : World) :
    Calls Try.prog 85 #[.int .u32 (dig X k : Nat), .int .u32 (dig Y k : Nat), .int .u32 (car X Y k : Nat)] w fun e w' => e = .returned (.tuple #[.int .u32 (dig (X + Y) k : Nat), .int .u32 (car X Y (k + 1) : Nat)]) ∧ w = w' := by
  rw [dig_add, car_step]
  have h1 := dig_lt X k
  have h2 := dig_lt Y k
  have h3 := car_le X Y k
  exact add32_c _ _ _ w (by omega) (by omega) (by omega)

theorem sum_lt {X Y : Nat} (h : len Y ≤ len X) : X + Y < Bp (len X + 1) := by
  have h1 := lt_Bp_len X
  have h2 := len_le_iff.1 h
  rw [Bp_succ]; omega

set_option maxRecDepth 100000 in
set_option maxHeartbeats 2000000 in
theorem Add_okU (a b : Value) (N M : Nat) (w : World) (ha : Nt w a N) (hb : Nt w b M) (h1 : len N ≤ 64) (h2 : len M ≤ 64) :
    Calls Try.prog 56 #[.agg #[a], .agg #[b]] w fun e w' => BigPostU (N + M) w.heap.size e w' ∧ Below w.heap.size w w' := by
  have c1 := fun w h => Valid_c a (digs N) w h
  have c2 := fun w h => Valid_c b (digs M) w h
  rw [vld_digs, decide_eq_true h1] at c1
  rw [vld_digs, decide_eq_true h2] at c2
  have C1 := Lib.hid c1
  have C2 := Lib.hid c2
  have HA := Lib.hid ha
  have HB := Lib.hid hb
  obtain ⟨ao, ca, rfl, a1, a2, _⟩ := ha.open
  obtain ⟨bo, cb, rfl, b1, b2, _⟩ := hb.open
  have hlt : decide (len N < len M) = true ∨ decide (len N < len M) = false := by cases decide (len N < len M) <;> simp
  have l1 : (len N : Int) ≤ 64 := by omega
  have l2 : (len M : Int) ≤ 64 := by omega
  obtain ⟨S, hS⟩ : ∃ S, N + M = S := ⟨_, rfl⟩
  rw [hS]
  have HS := Lib.hid hS
  clear c1 c2 ha hb h1 h2 hS
  go_enter Try.func56, Try.ntmps56
  go_wp2_with fail
  refine (C1.out _ (HA.out.below' (below_three _ _ _ _))).mono ?_; rintro e w1 ⟨rfl, hb1⟩
  have z1 : w.heap.size + 2 < w1.heap.size := by have := hb1.size; simp at this; omega
  have B1 : Hid (Below w.heap.size w w1) := Lib.hid ((below_three _ _ _ _).trans (hb1.mono (by simp; omega)))
  obtain ⟨x1, x2, x3, x4⟩ := box3 w (.slice ao (len N) ca) (.slice bo (len M) cb) (.slice none 0 0) 24 24 24
  have f1 := (hb1.cell (p := ⟨w.heap.size, 0, none⟩) (by simp; omega)).trans x1
  have f2 := (hb1.cell (p := ⟨w.heap.size + 1, 0, none⟩) (by simp)).trans x2
  have f3 := (hb1.cell (p := ⟨w.heap.size + 1 + 1, 0, none⟩) (by simp)).trans x3
  have f4 := (hb1.frozen (p := ⟨w.heap.size + 1 + 1, 0, none⟩) (by simp)).trans x4
  clear x1 x2 x3 x4
  clear hb1
  go_wp2_with fail
  refine (C2.out _ (HB.out.below' B1.out)).mono ?_; rintro e w2 ⟨rfl, hb2⟩
  have z2 : w.heap.size + 2 < w2.heap.size := by have := hb2.size; omega
  have B2 : Hid (Below w.heap.size w w2) := Lib.hid (B1.out.trans (hb2.mono (by omega)))
  have g1 := (hb2.cell (p := ⟨w.heap.size, 0, none⟩) (by dsimp only; omega)).trans f1
  have g2 := (hb2.cell (p := ⟨w.heap.size + 1, 0, none⟩) (by dsimp only; omega)).trans f2
  have g3 := (hb2.cell (p := ⟨w.heap.size + 1 + 1, 0, none⟩) (by dsimp only; omega)).trans f3
  have g4 := (hb2.frozen (p := ⟨w.heap.size + 1 + 1, 0, none⟩) (by dsimp only; omega)).trans f4
  clear hb2 f1 f2 f3 f4 z1 B1 C1 C2
  go_wp2_with fail
  go_quiet (fail)
  have B3 : Hid (Below w.heap.size w (w2.drewN nq)) := Lib.hid (below_drewN B2.out _)
  have z3 : w.heap.size + 2 < (w2.drewN nq).heap.size := z2
  have q3 : Hid ((w2.drewN nq).cell? ⟨w.heap.size + 1 + 1, 0, none⟩ = some (.slice none 0 0)) := Lib.hid g3
  have q4 : Hid ((w2.drewN nq).frozen? ⟨w.heap.size + 1 + 1, 0, none⟩ = false) := Lib.hid g4
  clear g1 g2 g3 g4 z2 B2
  generalize w2.drewN nq = W at *
  rcases hlt with g5 | g5
  · have hYX : len N ≤ len M := by have := of_decide_eq_true g5; omega
    have hadd : Hid (M + N = S) := Lib.hid (by have := HS.out; omega)
    obtain ⟨g, hg⟩ : ∃ g, W.heap.size = g := ⟨_, rfl⟩
    go_wp2_with (at_make; go_loud (refine wpList_make_words _ rfl _ _ rfl (len M + 1) _ _ rfl rfl rfl rfl (by omega) g hg ?_; intro w3 hO hB))
    go_wp2
    have B4 : Hid (Below w.heap.size w w3) := Lib.hid (B3.out.trans (hB.mono (by omega)))
    have hO0 : Hid (Own w3 g (fill (dig (M + N)) 0 (len M + 1))) := Lib.hid (by rw [fill_zero]; exact hO)
    have BW : Hid (Below g W w3) := Lib.hid hB
    clear hO hB
    go_loopw [39, 9] (fun s39 s9 wr => ∃ k : Nat, s39 = .int .i64 (k : Int) ∧ s9 = .int .u32 (car M N k : Nat) ∧ k ≤ len M ∧ Hid (Own wr g (fill (dig (M + N)) k (len M + 1))) ∧ Hid (Below g W wr)) (fun s39 _ _ => (len M - RowKit.intOf s39).toNat)
    case atStart => exact ⟨0, rfl, by rw [car_zero]; rfl, Nat.zero_le _, hO0, BW⟩
    case round =>
      obtain ⟨k, rfl, rfl, hk, hO, hB⟩ := hrel
      have hgr : g < wr.heap.size := hO.out.lt
      have hBW : Hid (Below w.heap.size w wr) := Lib.hid (B3.out.trans (hB.out.mono (by omega)))
      by_cases h0 : k = len M
      · have ht : decide (k < len M) = false := decide_eq_false (by omega)
        subst h0
        have hfr := hO.out.frozen (len M)
        have hcell := hO.out.cell (i := len M) (by rw [fill_length]; omega)
        have hO2 := hO.out.set (len M) (car M N (len M))
        rw [← car_last (lt_Bp_len _) (len_le_iff.1 hYX), fill_set _ (Nat.lt_succ_self _), car_last (lt_Bp_len _) (len_le_iff.1 hYX)] at hO2
        have HO2 := Lib.hid hO2
        have hlen : len M < len M + 1 := by omega
        clear hO2
        go_wp2_with fail
        refine (checked_ownU g _ _ HO2.out (fill_words (dig_lt _)) _ (fill_length _ _ _) (by omega) w.heap.size (by omega)).mono ?_
        rw [fill_val (sum_lt hYX), hadd.out]
        rintro e w5 ⟨h5, hb5⟩
        have z5 : w.heap.size + 1 + 1 < w5.heap.size := by have := hb5.size; simp at this; omega
        have hBg : Below g W w5 := (hB.out.setCell (p := ⟨g, len M, none⟩) (Nat.le_refl _) _).trans (hb5.mono (by simp; omega))
        have r3 := (hBg.cell (p := ⟨w.heap.size + 1 + 1, 0, none⟩) (by dsimp only; omega)).trans q3.out
        have r4 := (hBg.frozen (p := ⟨w.heap.size + 1 + 1, 0, none⟩) (by dsimp only; omega)).trans q4.out
        have hO5 := HO2.out.below' hb5
        rw [hadd.out] at hO5
        have HO5 := Lib.hid hO5
        clear hO5
        have B5 : Hid (Below w.heap.size w w5) := Lib.hid ((hBW.out.setCell (p := ⟨g, len M, none⟩) (by dsimp only; omega) _).trans (hb5.mono (by simp; omega)))
        have hne : w.heap.size + 1 + 1 ≠ g := by omega
        rcases h5 with ⟨hl5, v5, hv5, rfl⟩ | ⟨hl5, rfl⟩
        · have hN : ∀ Y : Value, NtU (w5.setCell ⟨w.heap.size + 1 + 1, 0, none⟩ Y) v5 S := fun Y => hv5.out.1 _ (HO5.out.setOther hne Y)
          obtain ⟨a5, c5, rfl, _⟩ := (hN (.slice none 0 0)).open
          have HN := Lib.hid hN
          have HF := Lib.hid hv5.out.2
          clear hv5 hN hb5 hfr hcell hBg
          go_wp2
          exact bodyPost_ret (v := .tuple #[.agg #[.slice a5 (len S) c5], .int .i64 0]) (by simp [results, Try.results56, go_sem, r3]) rfl ⟨Or.inl ⟨hl5, _, Lib.hid ⟨HN.out _, HF.out⟩, rfl⟩, B5.out.setCell (by dsimp only; omega) _⟩
        · clear hb5 hfr hcell hBg
          unfold errN
          go_wp2
          exact bodyPost_ret (v := .tuple #[.agg #[.slice none 0 0], .int .i64 9]) (by simp [results, Try.results56, go_sem, r3]) rfl ⟨Or.inr ⟨hl5, rfl⟩, B5.out.setCell (by dsimp only; omega) _⟩
      · have ht : decide (k < len M) = true := decide_eq_true (by omega)
        have hkx : k < len M := by omega
        have hx0 : M ≠ 0 := fun e => by rw [e, len_zero] at hkx; omega
        obtain ⟨ao', cx', ex, _, _, hx⟩ := (HB.out.below' hBW.out).open
        obtain ⟨rfl, rfl⟩ : ao' = bo ∧ cx' = cb := by simp at ex; exact ⟨ex.1.symm, ex.2.symm⟩
        obtain ⟨bx, offx, rfl, hbx, hcx⟩ := hx hx0
        have hcx1 := hcx k hkx
        have hfr := hO.out.frozen k
        have hcell := hO.out.cell (i := k) (by rw [fill_length]; omega)
        have hlen : k < len M + 1 := by omega
        have HO2 := hO.out.set k (dig (M + N) k)
        rw [fill_set _ (by omega)] at HO2
        have HO3 := Lib.hid HO2
        have cc := add32_dig M N k
        clear hcx ex HO2
        by_cases hy : k < len N
        · have hty : decide (k < len N) = true := decide_eq_true hy
          have hy0 : N ≠ 0 := fun e => by rw [e, len_zero] at hy; omega
          obtain ⟨bo', cy', ey, _, _, hyy⟩ := (HA.out.below' hBW.out).open
          obtain ⟨rfl, rfl⟩ : bo' = ao ∧ cy' = ca := by simp at ey; exact ⟨ey.1.symm, ey.2.symm⟩
          obtain ⟨by0, offy, rfl, hby, hcy⟩ := hyy hy0
          have hcy1 := hcy k hy
          have CC := Lib.hid cc
          clear hcy ey cc
          go_wp2_with fail
          refine (CC.out _).mono ?_; rintro e w' ⟨rfl, rfl⟩
          go_wp2
          go_roundw
          case rel => exact ⟨k + 1, rfl, rfl, by omega, HO3, Lib.hid (hB.out.setCell (Nat.le_refl _) _)⟩
          case measure => simp [RowKit.intOf]; omega
        · have hty : decide (k < len N) = false := decide_eq_false hy
          rw [dig_above (show len N ≤ k by omega)] at cc
          have CC := Lib.hid cc
          clear cc
          go_wp2_with fail
          refine (CC.out _).mono ?_; rintro e w' ⟨rfl, rfl⟩
          go_wp2
          go_roundw
          case rel => exact ⟨k + 1, rfl, rfl, by omega, HO3, Lib.hid (hB.out.setCell (Nat.le_refl _) _)⟩
          case measure => simp [RowKit.intOf]; omega
  · have hYX : len M ≤ len N := by have := of_decide_eq_false g5; omega
    have hadd : Hid (N + M = S) := Lib.hid (by have := HS.out; omega)
    obtain ⟨g, hg⟩ : ∃ g, W.heap.size = g := ⟨_, rfl⟩
    go_wp2_with (at_make; go_loud (refine wpList_make_words _ rfl _ _ rfl (len N + 1) _ _ rfl rfl rfl rfl (by omega) g hg ?_; intro w3 hO hB))
    go_wp2
    have B4 : Hid (Below w.heap.size w w3) := Lib.hid (B3.out.trans (hB.mono (by omega)))
    have hO0 : Hid (Own w3 g (fill (dig (N + M)) 0 (len N + 1))) := Lib.hid (by rw [fill_zero]; exact hO)
    have BW : Hid (Below g W w3) := Lib.hid hB
    clear hO hB
    go_loopw [39, 9] (fun s39 s9 wr => ∃ k : Nat, s39 = .int .i64 (k : Int) ∧ s9 = .int .u32 (car N M k : Nat) ∧ k ≤ len N ∧ Hid (Own wr g (fill (dig (N + M)) k (len N + 1))) ∧ Hid (Below g W wr)) (fun s39 _ _ => (len N - RowKit.intOf s39).toNat)
    case atStart => exact ⟨0, rfl, by rw [car_zero]; rfl, Nat.zero_le _, hO0, BW⟩
    case round =>
      obtain ⟨k, rfl, rfl, hk, hO, hB⟩ := hrel
      have hgr : g < wr.heap.size := hO.out.lt
      have hBW : Hid (Below w.heap.size w wr) := Lib.hid (B3.out.trans (hB.out.mono (by omega)))
      by_cases h0 : k = len N
      · have ht : decide (k < len N) = false := decide_eq_false (by omega)
        subst h0
        have hfr := hO.out.frozen (len N)
        have hcell := hO.out.cell (i := len N) (by rw [fill_length]; omega)
        have hO2 := hO.out.set (len N) (car N M (len N))
        rw [← car_last (lt_Bp_len _) (len_le_iff.1 hYX), fill_set _ (Nat.lt_succ_self _), car_last (lt_Bp_len _) (len_le_iff.1 hYX)] at hO2
        have HO2 := Lib.hid hO2
        have hlen : len N < len N + 1 := by omega
        clear hO2
        go_wp2_with fail
        refine (checked_ownU g _ _ HO2.out (fill_words (dig_lt _)) _ (fill_length _ _ _) (by omega) w.heap.size (by omega)).mono ?_
        rw [fill_val (sum_lt hYX), hadd.out]
        rintro e w5 ⟨h5, hb5⟩
        have z5 : w.heap.size + 1 + 1 < w5.heap.size := by have := hb5.size; simp at this; omega
        have hBg : Below g W w5 := (hB.out.setCell (p := ⟨g, len N, none⟩) (Nat.le_refl _) _).trans (hb5.mono (by simp; omega))
        have r3 := (hBg.cell (p := ⟨w.heap.size + 1 + 1, 0, none⟩) (by dsimp only; omega)).trans q3.out
        have r4 := (hBg.frozen (p := ⟨w.heap.size + 1 + 1, 0, none⟩) (by dsimp only; omega)).trans q4.out
        have hO5 := HO2.out.below' hb5
        rw [hadd.out] at hO5
        have HO5 := Lib.hid hO5
        clear hO5
        have B5 : Hid (Below w.heap.size w w5) := Lib.hid ((hBW.out.setCell (p := ⟨g, len N, none⟩) (by dsimp only; omega) _).trans (hb5.mono (by simp; omega)))
        have hne : w.heap.size + 1 + 1 ≠ g := by omega
        rcases h5 with ⟨hl5, v5, hv5, rfl⟩ | ⟨hl5, rfl⟩
        · have hN : ∀ Y : Value, NtU (w5.setCell ⟨w.heap.size + 1 + 1, 0, none⟩ Y) v5 S := fun Y => hv5.out.1 _ (HO5.out.setOther hne Y)
          obtain ⟨a5, c5, rfl, _⟩ := (hN (.slice none 0 0)).open
          have HN := Lib.hid hN
          have HF := Lib.hid hv5.out.2
          clear hv5 hN hb5 hfr hcell hBg
          go_wp2
          exact bodyPost_ret (v := .tuple #[.agg #[.slice a5 (len S) c5], .int .i64 0]) (by simp [results, Try.results56, go_sem, r3]) rfl ⟨Or.inl ⟨hl5, _, Lib.hid ⟨HN.out _, HF.out⟩, rfl⟩, B5.out.setCell (by dsimp only; omega) _⟩
        · clear hb5 hfr hcell hBg
          unfold errN
          go_wp2
          exact bodyPost_ret (v := .tuple #[.agg #[.slice none 0 0], .int .i64 9]) (by simp [results, Try.results56, go_sem, r3]) rfl ⟨Or.inr ⟨hl5, rfl⟩, B5.out.setCell (by dsimp only; omega) _⟩
      · have ht : decide (k < len N) = true := decide_eq_true (by omega)
        have hkx : k < len N := by omega
        have hx0 : N ≠ 0 := fun e => by rw [e, len_zero] at hkx; omega
        obtain ⟨ao', cx', ex, _, _, hx⟩ := (HA.out.below' hBW.out).open
        obtain ⟨rfl, rfl⟩ : ao' = ao ∧ cx' = ca := by simp at ex; exact ⟨ex.1.symm, ex.2.symm⟩
        obtain ⟨bx, offx, rfl, hbx, hcx⟩ := hx hx0
        have hcx1 := hcx k hkx
        have hfr := hO.out.frozen k
        have hcell := hO.out.cell (i := k) (by rw [fill_length]; omega)
        have hlen : k < len N + 1 := by omega
        have HO2 := hO.out.set k (dig (N + M) k)
        rw [fill_set _ (by omega)] at HO2
        have HO3 := Lib.hid HO2
        have cc := add32_dig N M k
        clear hcx ex HO2
        by_cases hy : k < len M
        · have hty : decide (k < len M) = true := decide_eq_true hy
          have hy0 : M ≠ 0 := fun e => by rw [e, len_zero] at hy; omega
          obtain ⟨bo', cy', ey, _, _, hyy⟩ := (HB.out.below' hBW.out).open
          obtain ⟨rfl, rfl⟩ : bo' = bo ∧ cy' = cb := by simp at ey; exact ⟨ey.1.symm, ey.2.symm⟩
          obtain ⟨by0, offy, rfl, hby, hcy⟩ := hyy hy0
          have hcy1 := hcy k hy
          have CC := Lib.hid cc
          clear hcy ey cc
          go_wp2_with fail
          refine (CC.out _).mono ?_; rintro e w' ⟨rfl, rfl⟩
          go_wp2
          go_roundw
          case rel => exact ⟨k + 1, rfl, rfl, by omega, HO3, Lib.hid (hB.out.setCell (Nat.le_refl _) _)⟩
          case measure => simp [RowKit.intOf]; omega
        · have hty : decide (k < len M) = false := decide_eq_false hy
          rw [dig_above (show len M ≤ k by omega)] at cc
          have CC := Lib.hid cc
          clear cc
          go_wp2_with fail
          refine (CC.out _).mono ?_; rintro e w' ⟨rfl, rfl⟩
          go_wp2
          go_roundw
          case rel => exact ⟨k + 1, rfl, rfl, by omega, HO3, Lib.hid (hB.out.setCell (Nat.le_refl _) _)⟩
          case measure => simp [RowKit.intOf]; omega

theorem Add_ok (a b : Value) (N M : Nat) (w : World) (ha : Nt w a N) (hb : Nt w b M) (h1 : len N ≤ 64) (h2 : len M ≤ 64) :
    Calls Try.prog 56 #[.agg #[a], .agg #[b]] w fun e w' => BigPost (N + M) w.heap.size e w' ∧ Below w.heap.size w w' :=
  (Add_okU a b N M w ha hb h1 h2).mono fun _ _ h => ⟨h.1.old, h.2⟩
end Go.Proofs.Ythphmgdmhlimjaa

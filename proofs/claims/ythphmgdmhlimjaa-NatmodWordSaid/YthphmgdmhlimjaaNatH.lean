/- Mul. -/
import Derived.Test.YthphmgdmhlimjaaNatG
import Derived.Test.YthphmgdmhlimjaaNatMath2
namespace Go.Proofs.Ythphmgdmhlimjaa
open Go.RowKit NatMath
set_option linter.unusedVariables false

set_option maxRecDepth 100000 in
set_option maxHeartbeats 2000000 in
theorem Mul_okU (a b : Value) (N M : Nat) (w : World) (ha : Nt w a N) (hb : Nt w b M) (h1 : len N ≤ 64) (h2 : len M ≤ 64) :
    Calls Try.prog 35 #[.agg #[a], .agg #[b]] w fun e w' => BigPostU (N * M) w.heap.size e w' ∧ Below w.heap.size w w' := by
  have c1 := fun w h => Valid_c a (digs N) w h
  have c2 := fun w h => Valid_c b (digs M) w h
  rw [vld_digs, decide_eq_true h1] at c1
  rw [vld_digs, decide_eq_true h2] at c2
  have C1 := Lib.hid c1
  have C2 := Lib.hid c2
  have HA := Lib.hid ha
  have HB := Lib.hid hb
  have HN64 := Lib.hid h1
  have HM64 := Lib.hid h2
  clear c1 c2 ha hb h1 h2
  go_enter Try.func35, Try.ntmps35
  go_wp2_with fail
  refine (C1.out _ (HA.out.below' (below_three _ _ _ _))).mono ?_; rintro e w1 ⟨rfl, hb1⟩
  have z1 : w.heap.size + 2 < w1.heap.size := by have := hb1.size; simp at this; omega
  have B1 : Hid (Below w.heap.size w w1) := Lib.hid ((below_three _ _ _ _).trans (hb1.mono (by simp; omega)))
  obtain ⟨x1, x2, x3, x4⟩ := box3 w a b (.slice none 0 0) 24 24 24
  have f1 := (hb1.cell (p := ⟨w.heap.size, 0, none⟩) (by simp; omega)).trans x1
  have f2 := (hb1.cell (p := ⟨w.heap.size + 1, 0, none⟩) (by simp)).trans x2
  have f3 := (hb1.cell (p := ⟨w.heap.size + 1 + 1, 0, none⟩) (by simp)).trans x3
  have f4 := (hb1.frozen (p := ⟨w.heap.size + 1 + 1, 0, none⟩) (by simp)).trans x4
  clear x1 x2 x3 x4 hb1
  go_wp2_with fail
  refine (C2.out _ (HB.out.below' B1.out)).mono ?_; rintro e w2 ⟨rfl, hb2⟩
  have z2 : w.heap.size + 2 < w2.heap.size := by have := hb2.size; omega
  have B2 : Hid (Below w.heap.size w w2) := Lib.hid (B1.out.trans (hb2.mono (by omega)))
  have g1 := (hb2.cell (p := ⟨w.heap.size, 0, none⟩) (by dsimp only; omega)).trans f1
  have g2 := (hb2.cell (p := ⟨w.heap.size + 1, 0, none⟩) (by dsimp only; omega)).trans f2
  have g3 := (hb2.cell (p := ⟨w.heap.size + 1 + 1, 0, none⟩) (by dsimp only; omega)).trans f3
  have g4 := (hb2.frozen (p := ⟨w.heap.size + 1 + 1, 0, none⟩) (by dsimp only; omega)).trans f4
  clear hb2 f1 f2 f3 f4 z1 B1 C1 C2
  have z3 : w.heap.size + 2 < w2.heap.size := z2
  have q1 := Lib.hid g1
  have q2 := Lib.hid g2
  have q3 := Lib.hid g3
  have q4 := Lib.hid g4
  obtain ⟨ao, ca, rfl, a1, a2, _⟩ := HA.out.open
  obtain ⟨bo, cb, rfl, b1, b2, _⟩ := HB.out.open
  have l1 : (len N : Int) ≤ 64 := by have := HN64.out; omega
  have l2 : (len M : Int) ≤ 64 := by have := HM64.out; omega
  obtain ⟨g, hg⟩ : ∃ g, w2.heap.size = g := ⟨_, rfl⟩
  go_wp2_with (at_make; go_loud (refine wpList_make_words _ rfl _ _ rfl (len N + len M) _ _ rfl rfl rfl rfl (by omega) g hg ?_; intro w3 hO hB; have k1 := (hB.cell (p := ⟨w.heap.size, 0, none⟩) (by dsimp only; omega)).trans q1.out))
  have BW : Hid (Below g w2 w3) := Lib.hid hB
  have HO : Hid (Own w3 g (List.replicate (len N + len M) 0)) := Lib.hid hO
  clear hO hB g1 g2 g3 g4
  go_loopw [33] (fun s33 wr => ∃ i : Nat, s33 = .int .i64 (i : Int) ∧ i ≤ len N ∧ (∃ l, Hid (Own wr g l) ∧ Hid (MulO N M i l)) ∧ Hid (Below g w2 wr)) (fun s33 _ => (len N - RowKit.intOf s33).toNat)
  case atStart => exact ⟨0, rfl, Nat.zero_le _, ⟨_, HO, Lib.hid (MulO.zero N M)⟩, BW⟩
  case round =>
    obtain ⟨i, rfl, hi, ⟨l, hO, hP⟩, hB⟩ := hrel
    have hgr : g < wr.heap.size := hO.out.lt
    have hBW : Hid (Below w.heap.size w wr) := Lib.hid (B2.out.trans (hB.out.mono (by omega)))
    by_cases h0 : i = len N
    · have ht : decide (i < len N) = false := decide_eq_false (by omega)
      subst h0
      go_wp2_with fail
      obtain ⟨p1, p2, p3⟩ := hP.out.done
      have ck := checked_ownU g l _ hO.out p2 _ p1 (by omega) w.heap.size (by omega)
      rw [p3] at ck
      refine ck.mono ?_; rintro e w5 ⟨h5, hb5⟩
      have z5 : w.heap.size + 1 + 1 < w5.heap.size := by have := hb5.size; omega
      have B5 : Hid (Below w.heap.size w w5) := Lib.hid (hBW.out.trans (hb5.mono (by omega)))
      have hBg : Below g w2 w5 := hB.out.trans (hb5.mono (by omega))
      have r3 := (hBg.cell (p := ⟨w.heap.size + 1 + 1, 0, none⟩) (by dsimp only; omega)).trans q3.out
      have r4 := (hBg.frozen (p := ⟨w.heap.size + 1 + 1, 0, none⟩) (by dsimp only; omega)).trans q4.out
      have hne : w.heap.size + 1 + 1 ≠ g := by omega
      have HO5 := Lib.hid (hO.out.below' hb5)
      clear ck p1 p2 p3 hb5 hBg
      rcases h5 with ⟨hl5, v5, hv5, rfl⟩ | ⟨hl5, rfl⟩
      · have hN : ∀ Y : Value, NtU (w5.setCell ⟨w.heap.size + 1 + 1, 0, none⟩ Y) v5 (N * M) := fun Y => hv5.out.1 _ (HO5.out.setOther hne Y)
        obtain ⟨a5, c5, rfl, _⟩ := (hN (.slice none 0 0)).open
        have HN := Lib.hid hN
        have HF := Lib.hid hv5.out.2
        clear hv5 hN
        go_wp2
        exact bodyPost_ret (v := .tuple #[.agg #[.slice a5 (len (N * M)) c5], .int .i64 0]) (by simp [results, Try.results35, go_sem, r3]) rfl ⟨Or.inl ⟨hl5, _, Lib.hid ⟨HN.out _, HF.out⟩, rfl⟩, B5.out.setCell (by dsimp only; omega) _⟩
      · unfold errN
        go_wp2
        exact bodyPost_ret (v := .tuple #[.agg #[.slice none 0 0], .int .i64 9]) (by simp [results, Try.results35, go_sem, r3]) rfl ⟨Or.inr ⟨hl5, rfl⟩, B5.out.setCell (by dsimp only; omega) _⟩
    · have ht : decide (i < len N) = true := decide_eq_true (by omega)
      have hix : i < len N := by omega
      have hx0 : N ≠ 0 := fun e => by rw [e, len_zero] at hix; omega
      obtain ⟨ao', cx', ex, _, _, hx⟩ := (HA.out.below' hBW.out).open
      obtain ⟨rfl, rfl⟩ : ao' = ao ∧ cx' = ca := by simp at ex; exact ⟨ex.1.symm, ex.2.symm⟩
      obtain ⟨bx, offx, rfl, hbx, hcx⟩ := hx hx0
      have hcx1 := hcx i hix
      have k2 := (hB.out.cell (p := ⟨w.heap.size + 1, 0, none⟩) (by dsimp only; omega)).trans q2.out
      have hP0 := Lib.hid hP.out.row
      have xb := dig_lt N i
      obtain ⟨x, hx'⟩ : ∃ x, x = dig N i := ⟨_, rfl⟩
      rw [← hx'] at hcx1 xb
      have hX := Lib.hid hx'
      clear hcx ex hx' hx
      go_wp2
      go_loopw [41, 9] (fun s41 s9 wr => ∃ k c : Nat, s41 = .int .i64 (k : Int) ∧ s9 = .int .u64 (c : Int) ∧ k ≤ len M ∧ (∃ l, Hid (Own wr g l) ∧ Hid (MulI N M i k c l)) ∧ Hid (Below g w2 wr)) (fun s41 _ _ => (len M - RowKit.intOf s41).toNat)
      case atStart => exact ⟨0, 0, rfl, rfl, Nat.zero_le _, ⟨_, hO, hP0⟩, hB⟩
      case round =>
        obtain ⟨k, c, rfl, rfl, hk, ⟨l2, hO2, hP2⟩, hB2⟩ := hrel
        have hgr2 : g < wr.heap.size := hO2.out.lt
        have hBW2 : Hid (Below w.heap.size w wr) := Lib.hid (B2.out.trans (hB2.out.mono (by omega)))
        have hlen := hP2.out.1
        have hc32 := hP2.out.2.2.1
        by_cases k0 : k = len M
        · have ht2 : decide (k < len M) = false := decide_eq_false (by omega)
          subst k0
          have hP3 := hP2.out.done hix
          have hfr := hO2.out.frozen (i + len M)
          have hcell := hO2.out.cell (i := i + len M) (by rw [hlen]; omega)
          have k3 := (hB2.out.cell (p := ⟨w.heap.size + 1, 0, none⟩) (by dsimp only; omega)).trans q2.out
          have hO3 := Lib.hid (hO2.out.set (i + len M) c)
          have HP3 := Lib.hid hP3
          have hidx : i + len M < len N + len M := by omega
          clear hP3 hlen
          go_wp2
          go_roundw
          case rel => exact ⟨i + 1, rfl, by omega, ⟨_, hO3, HP3⟩, Lib.hid (hB2.out.setCell (Nat.le_refl _) _)⟩
          case measure => simp [RowKit.intOf]; omega
        · have ht2 : decide (k < len M) = true := decide_eq_true (by omega)
          have hkx : k < len M := by omega
          have hy0 : M ≠ 0 := fun e => by rw [e, len_zero] at hkx; omega
          obtain ⟨bo', cy', ey, _, _, hyy⟩ := (HB.out.below' hBW2.out).open
          obtain ⟨rfl, rfl⟩ : bo' = bo ∧ cy' = cb := by simp at ey; exact ⟨ey.1.symm, ey.2.symm⟩
          obtain ⟨by0, offy, rfl, hby, hcy⟩ := hyy hy0
          have hcy1 := hcy k hkx
          have hfr := hO2.out.frozen (i + k)
          have hcell := hO2.out.cell (i := i + k) (by rw [hlen]; omega)
          have hob := getD_lt hP2.out.2.1 (i + k)
          have hyb := dig_lt M k
          obtain ⟨t, htt⟩ : ∃ t, t = dig N i * dig M k + l2.getD (i + k) 0 + c := ⟨_, rfl⟩
          obtain ⟨htb, hP3⟩ := hP2.out.step hkx hix htt
          have HP3 := Lib.hid hP3
          have hO3 := Lib.hid (hO2.out.set (i + k) (t % 4294967296))
          rw [← hX.out] at htt
          obtain ⟨y, hy'⟩ : ∃ y, y = dig M k := ⟨_, rfl⟩
          obtain ⟨o, ho'⟩ : ∃ o, o = l2.getD (i + k) 0 := ⟨_, rfl⟩
          rw [← hy'] at htt hyb hcy1
          rw [← ho'] at htt hob hcell
          obtain ⟨p, hp⟩ : ∃ p, p = x * y := ⟨_, rfl⟩
          rw [← hp] at htt
          obtain ⟨sm, hsm⟩ : ∃ sm, sm = p + o := ⟨_, rfl⟩
          obtain ⟨q, hq⟩ : ∃ q, q = t / 4294967296 := ⟨_, rfl⟩
          obtain ⟨r, hr⟩ : ∃ r, r = t % 4294967296 := ⟨_, rfl⟩
          rw [← hq, ← hr] at HP3
          rw [← hr] at hO3
          have e1 : IntKind.u64.wrap ((x : Int) * (y : Int)) = (p : Int) := by rw [IntKind.wrap_u64, hp, ← Int.natCast_mul]; omega
          have e2 : IntKind.u64.wrap ((p : Int) + (o : Int)) = (sm : Int) := by rw [IntKind.wrap_u64]; omega
          have e3 : IntKind.u64.wrap ((sm : Int) + (c : Int)) = (t : Int) := by rw [IntKind.wrap_u64]; omega
          have e4 : IntKind.u32.wrap (t : Int) = (r : Int) := by rw [IntKind.wrap_u32]; omega
          have e5 : (t : Int) / 4294967296 = (q : Int) := by omega
          have hidx : i + k < len N + len M := by omega
          clear hcy ey hP3 hlen hp hsm hq hr hy' ho' htb htt hyy
          go_wp2
          go_roundw
          case rel => exact ⟨k + 1, q, rfl, rfl, by omega, ⟨_, hO3, HP3⟩, Lib.hid (hB2.out.setCell (Nat.le_refl _) _)⟩
          case measure => simp [RowKit.intOf]; omega

theorem Mul_ok (a b : Value) (N M : Nat) (w : World) (ha : Nt w a N) (hb : Nt w b M) (h1 : len N ≤ 64) (h2 : len M ≤ 64) :
    Calls Try.prog 35 #[.agg #[a], .agg #[b]] w fun e w' => BigPost (N * M) w.heap.size e w' ∧ Below w.heap.size w w' :=
  (Mul_okU a b N M w ha hb h1 h2).mono fun _ _ h => ⟨h.1.old, h.2⟩

set_option maxRecDepth 100000 in
set_option maxHeartbeats 1000000 in
theorem Mul_bad (a b : Value) (la lb : List Nat) (w : World) (ha : Sl w a la) (hb : Sl w b lb) (h : vld la = false ∨ vld lb = false) :
    Calls Try.prog 35 #[.agg #[a], .agg #[b]] w fun e w' => e = errN 1 ∧ Below w.heap.size w w' := by
  have c1 := fun w h => Valid_c a la w h
  have c2 := fun w h => Valid_c b lb w h
  have HA := Lib.hid ha
  have HB := Lib.hid hb
  by_cases k : vld la = false
  · rw [k] at c1
    have C1 := Lib.hid c1
    clear c1 c2 ha hb h k
    go_enter Try.func35, Try.ntmps35
    go_wp2_with fail
    refine (C1.out _ (HA.out.below' (below_three _ _ _ _))).mono ?_; rintro e w1 ⟨rfl, hb1⟩
    have z1 : w.heap.size + 1 + 1 < w1.heap.size := by have := hb1.size; simp at this; omega
    have B1 : Hid (Below w.heap.size w w1) := Lib.hid ((below_three _ _ _ _).trans (hb1.mono (by simp; omega)))
    obtain ⟨x1, x2, x3, x4⟩ := box3 w a b (.slice none 0 0) 24 24 24
    have f3 := (hb1.cell (p := ⟨w.heap.size + 1 + 1, 0, none⟩) (by simp)).trans x3
    have f4 := (hb1.frozen (p := ⟨w.heap.size + 1 + 1, 0, none⟩) (by simp)).trans x4
    clear x1 x2 x3 x4 hb1
    go_wp2
    exact bodyPost_ret (v := .tuple #[.agg #[.slice none 0 0], .int .i64 1]) (by simp [results, Try.results35, go_sem, f3]) rfl ⟨rfl, B1.out.setCell (by dsimp only; omega) _⟩
  · have k2 : vld lb = false := by simpa [k] using h
    have k1 : vld la = true := by simpa using k
    rw [k1] at c1
    rw [k2] at c2
    have C1 := Lib.hid c1
    have C2 := Lib.hid c2
    clear c1 c2 ha hb h k k1 k2
    go_enter Try.func35, Try.ntmps35
    go_wp2_with fail
    refine (C1.out _ (HA.out.below' (below_three _ _ _ _))).mono ?_; rintro e w1 ⟨rfl, hb1⟩
    have z1 : w.heap.size + 1 + 1 < w1.heap.size := by have := hb1.size; simp at this; omega
    have B1 : Hid (Below w.heap.size w w1) := Lib.hid ((below_three _ _ _ _).trans (hb1.mono (by simp; omega)))
    obtain ⟨x1, x2, x3, x4⟩ := box3 w a b (.slice none 0 0) 24 24 24
    have f2 := (hb1.cell (p := ⟨w.heap.size + 1, 0, none⟩) (by simp)).trans x2
    have f3 := (hb1.cell (p := ⟨w.heap.size + 1 + 1, 0, none⟩) (by simp)).trans x3
    have f4 := (hb1.frozen (p := ⟨w.heap.size + 1 + 1, 0, none⟩) (by simp)).trans x4
    clear x1 x2 x3 x4 hb1
    go_wp2_with fail
    refine (C2.out _ (HB.out.below' B1.out)).mono ?_; rintro e w2 ⟨rfl, hb2⟩
    have z2 : w.heap.size + 1 + 1 < w2.heap.size := by have := hb2.size; omega
    have B2 : Hid (Below w.heap.size w w2) := Lib.hid (B1.out.trans (hb2.mono (by omega)))
    have g3 := (hb2.cell (p := ⟨w.heap.size + 1 + 1, 0, none⟩) (by dsimp only; omega)).trans f3
    have g4 := (hb2.frozen (p := ⟨w.heap.size + 1 + 1, 0, none⟩) (by dsimp only; omega)).trans f4
    clear hb2 f2 f3 f4
    go_wp2
    exact bodyPost_ret (v := .tuple #[.agg #[.slice none 0 0], .int .i64 1]) (by simp [results, Try.results35, go_sem, g3]) rfl ⟨rfl, B2.out.setCell (by dsimp only; omega) _⟩
end Go.Proofs.Ythphmgdmhlimjaa

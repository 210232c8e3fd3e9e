/- The reference's product and Mul. -/
import Derived.Test.YtgogfjehbaiklaaNatS4
namespace Go.Proofs.Ytgogfjehbaiklaa
open Go.RowKit NatMath
set_option linter.unusedVariables false

/-- the boxes of two arguments and a result, behind w -/
def BP (w : World) (u v : Value) (W : World) : Prop := Below w.heap.size w W ∧ w.heap.size + 2 < W.heap.size ∧ W.cell? ⟨w.heap.size, 0, none⟩ = some u ∧ W.cell? ⟨w.heap.size + 1, 0, none⟩ = some v ∧
  W.cell? ⟨w.heap.size + 1 + 1, 0, none⟩ = some (.slice none 0 0) ∧ W.frozen? ⟨w.heap.size + 1 + 1, 0, none⟩ = false
theorem BP.on {w W V : World} {u v : Value} (h : BP w u v W) (hb : Below (w.heap.size + 3) W V) : BP w u v V := by
  obtain ⟨h1, h2, h3, h4, h5, h6⟩ := h
  refine ⟨h1.trans (hb.mono (by omega)), Nat.lt_of_lt_of_le h2 hb.size, ?_, ?_, ?_, ?_⟩
  · exact (hb.cell (by dsimp only; omega)).trans h3
  · exact (hb.cell (by dsimp only; omega)).trans h4
  · exact (hb.cell (by dsimp only; omega)).trans h5
  · exact (hb.frozen (by dsimp only; omega)).trans h6
theorem BP.start (w : World) (u v : Value) : BP w u v (((w.alloc (.cells #[u] 24)).alloc (.cells #[v] 24)).alloc (.cells #[.slice none 0 0] 24)) := by
  obtain ⟨x1, x2, x3, x4⟩ := box3 w u v (.slice none 0 0) 24 24 24
  exact ⟨below_three _ _ _ _, by rw [size_three]; omega, x1, x2, x3, x4⟩
theorem BP.store {w W : World} {u v : Value} {g i : Nat} (h : BP w u v W) (hg : w.heap.size + 3 ≤ g) (x : Value) : BP w u v (W.setCell ⟨g, i, none⟩ x) :=
  h.on ((Below.refl _ _).setCell (show w.heap.size + 3 ≤ (⟨g, i, none⟩ : Addr).block from hg) x)
theorem getD_app {l : List Nat} {i : Nat} (h : i < l.length) : (l ++ [0]).getD i 0 = l.getD i 0 := by
  rw [List.getD_eq_getElem?_getD, List.getD_eq_getElem?_getD, List.getElem?_append_left h]
theorem set_app {l : List Nat} {i u : Nat} (h : i < l.length) : (l ++ [0]).set i u = l.set i u ++ [0] := List.set_append_left _ _ h

set_option maxRecDepth 100000 in
set_option maxHeartbeats 2000000 in
theorem product_c (a b : Value) (N M : Nat) (w : World) (ha : Nt w a N) (hb : Nt w b M) (h1 : len N ≤ 64) (h2 : len M ≤ 64) :
    Calls Try.prog 51 #[.agg #[a], .agg #[b]] w fun e w' => (∃ ao c, e = .returned (.agg #[.slice ao (len (N * M)) c]) ∧ Hid (Nt w' (.slice ao (len (N * M)) c) (N * M) ∧ Fr w.heap.size (.slice ao (len (N * M)) c))) ∧ Below w.heap.size w w' := by
  have HA := Lib.hid ha
  have HB := Lib.hid hb
  obtain ⟨ao, ca, rfl, a1, a2, -⟩ := ha.open
  obtain ⟨bo, cb, rfl, b1, b2, -⟩ := hb.open
  have l1 : (len N : Int) ≤ 64 := by omega
  have l2 : (len M : Int) ≤ 64 := by omega
  have B0 := Lib.hid (BP.start w (.slice ao (len N) ca) (.slice bo (len M) cb))
  clear ha hb
  obtain ⟨_, z0, p0, p1, p2, p3⟩ := B0.out
  go_enter Try.func51, Try.ntmps51
  go_wp2_with (at_make; go_loud (refine wpList_make_words _ rfl _ _ rfl (len N + len M + 1) _ _ rfl rfl (by push_cast; rfl) (by push_cast; rfl) (by omega) (w.heap.size + 3) (by simp) ?_; intro w3 hO hB))
  have B3 := Lib.hid (B0.out.on hB)
  have HO : Hid (∃ l, Own w3 (w.heap.size + 3) (l ++ [0]) ∧ MulO N M 0 l) := Lib.hid ⟨List.replicate (len N + len M) 0, by rw [← List.replicate_succ']; exact hO, MulO.zero N M⟩
  clear hO hB z0 p0 p1 p2 p3
  obtain ⟨g, hg⟩ : ∃ g, g = w.heap.size + 3 := ⟨_, rfl⟩
  have hg3 : w.heap.size + 3 ≤ g := by omega
  rw [← hg] at HO
  rw [← hg]
  clear hg
  generalize hLL : len N + len M + 1 = L at *
  have HLL := Lib.hid hLL
  have hL129 : L ≤ 129 := by omega
  clear hLL
  go_loopw [6] (fun s6 wr => ∃ i : Nat, s6 = .int .i64 (i : Int) ∧ i ≤ len N ∧ Hid (∃ l, Own wr g (l ++ [0]) ∧ MulO N M i l) ∧ Hid (BP w (.slice ao (len N) ca) (.slice bo (len M) cb) wr)) (fun s6 _ => (len N - RowKit.intOf s6).toNat)
  case atStart => exact ⟨0, rfl, Nat.zero_le _, HO, B3⟩
  case round =>
    obtain ⟨i, rfl, hi, hP, hB⟩ := hrel
    obtain ⟨l, hO, hM⟩ := hP.out
    have hgr : g < wr.heap.size := hO.lt
    obtain ⟨_, z0, p0, p1, p2, p3⟩ := hB.out
    by_cases h0 : i < len N
    · have t1 : decide (i < len N) = true := decide_eq_true h0
      have hx0 : N ≠ 0 := fun e => by rw [e, len_zero] at h0; omega
      have hM0 : Hid (∃ l, Own wr g (l ++ [0]) ∧ MulI N M i 0 0 l) := Lib.hid ⟨l, hO, hM.row⟩
      clear hP hO hM
      go_wp2_with fail
      go_loopw [8, 7] (fun s8 s7 wx => ∃ k c : Nat, s8 = .int .i64 (k : Int) ∧ s7 = .int .u64 (c : Int) ∧ k ≤ len M ∧ c < 4294967296 ∧ Hid (∃ l, Own wx g (l ++ [0]) ∧ MulI N M i k c l) ∧ Hid (BP w (.slice ao (len N) ca) (.slice bo (len M) cb) wx)) (fun s8 _ _ => (len M - RowKit.intOf s8).toNat)
      case atStart => exact ⟨0, 0, rfl, rfl, Nat.zero_le _, by omega, hM0, hB⟩
      case round =>
        clear z0 p0 p1 p2 p3 hM0
        obtain ⟨k, c, rfl, rfl, hk, hc32, hP2, hB2⟩ := hrel
        obtain ⟨l2, hO2, hM2⟩ := hP2.out
        have hgr2 : g < wr.heap.size := hO2.lt
        obtain ⟨hbel, z0, p0, p1, p2, p3⟩ := hB2.out
        have hlen := hM2.1
        by_cases hkm : k < len M
        · have t2 : decide (k < len M) = true := decide_eq_true hkm
          have hy0 : M ≠ 0 := fun e => by rw [e, len_zero] at hkm; omega
          obtain ⟨ao', cx', ex, _, _, hx⟩ := (HA.out.below' hbel).open
          obtain ⟨rfl, rfl⟩ : ao' = ao ∧ cx' = ca := by simp at ex; exact ⟨ex.1.symm, ex.2.symm⟩
          obtain ⟨bx, offx, rfl, hbx, hcx⟩ := hx hx0
          have hcx1 := hcx i h0
          obtain ⟨bo', cy', ey, _, _, hyy⟩ := (HB.out.below' hbel).open
          obtain ⟨rfl, rfl⟩ : bo' = bo ∧ cy' = cb := by simp at ey; exact ⟨ey.1.symm, ey.2.symm⟩
          obtain ⟨by0, offy, rfl, hby, hcy⟩ := hyy hy0
          have hcy1 := hcy k hkm
          have hfr := hO2.frozen (i + k)
          have hcell := hO2.cell (i := i + k) (by rw [List.length_append, hlen]; omega)
          rw [getD_app (by rw [hlen]; omega)] at hcell
          have hob := getD_lt hM2.2.1 (i + k)
          have hxb := dig_lt N i
          have hyb := dig_lt M k
          obtain ⟨t, htt⟩ : ∃ t, t = dig N i * dig M k + l2.getD (i + k) 0 + c := ⟨_, rfl⟩
          obtain ⟨htb, hP3⟩ := hM2.step hkm h0 htt
          have HP3 : Hid (∀ V, Qw wr V → ∃ l, Own (V.setCell ⟨g, i + k, none⟩ (.int .u32 ((t % 4294967296 : Nat) : Int))) g (l ++ [0]) ∧ MulI N M i (k + 1) (t / 4294967296) l) := Lib.hid (fun V hq => by
            have hO3 := (hO2.qw hq).set (i + k) (t % 4294967296)
            rw [set_app (by rw [hlen]; omega)] at hO3
            exact ⟨_, hO3, hP3⟩)
          generalize l2.getD (i + k) 0 = o at *
          generalize dig N i = x at *
          generalize dig M k = y at *
          obtain ⟨p, hp⟩ : ∃ p, p = x * y := ⟨_, rfl⟩
          rw [← hp] at htt
          have hxy : p ≤ 4294967295 * 4294967295 := by rw [hp]; exact Nat.mul_le_mul (by omega) (by omega)
          obtain ⟨sm, hsm⟩ : ∃ sm, sm = p + o := ⟨_, rfl⟩
          have e1 : IntKind.u64.wrap ((x : Int) * (y : Int)) = (p : Int) := by rw [IntKind.wrap_u64, hp, ← Int.natCast_mul, ← hp]; omega
          have e2 : IntKind.u64.wrap ((p : Int) + (o : Int)) = (sm : Int) := by rw [IntKind.wrap_u64]; omega
          have e3 : IntKind.u64.wrap ((sm : Int) + (c : Int)) = (t : Int) := by rw [IntKind.wrap_u64]; omega
          have e4 : (t : Int) % 4294967296 = ((t % 4294967296 : Nat) : Int) := by omega
          have e5 : (t : Int) / 4294967296 = ((t / 4294967296 : Nat) : Int) := by omega
          have htl : t % 4294967296 < 4294967296 := Nat.mod_lt _ (by omega)
          have hth : t / 4294967296 < 4294967296 := by omega
          generalize t % 4294967296 = tl at *
          generalize t / 4294967296 = th at *
          have e6 : IntKind.u32.wrap (tl : Int) = (tl : Int) := by rw [IntKind.wrap_u32]; omega
          have e7 : IntKind.i64.wrap ((i : Int) + (k : Int)) = ((i + k : Nat) : Int) := by rw [IntWalk.i64_in _ (by omega)]; omega
          have e8 : IntKind.u64.wrap (x : Int) = (x : Int) := IntWalk.u64_in _ (by omega)
          have e9 : IntKind.u64.wrap (y : Int) = (y : Int) := IntWalk.u64_in _ (by omega)
          have e10 : IntKind.u64.wrap (o : Int) = (o : Int) := IntWalk.u64_in _ (by omega)
          have hidx : i + k < L := by have := HLL.out; omega
          have hidx2 : ((i + k : Nat) : Int) < (L : Int) := by omega
          have iN : (i : Int) < (len N : Int) := by omega
          have kM : (k : Int) < (len M : Int) := by omega
          obtain ⟨ik, hik⟩ : ∃ ik, ik = i + k := ⟨_, rfl⟩
          rw [← hik] at e7 hidx hidx2 hcell hfr HP3
          have hB3 := Lib.hid (fun V (hq : Qw wr V) => (hB2.out.on (hq.below _)).store (i := ik) hg3 (.int .u32 (tl : Int)))
          have HIK := Lib.hid hik
          have e11 : (i : Int) + (k : Int) = (ik : Int) := by omega
          clear hcx ex hx hcy ey hyy hp hsm htt htb hP3 hM2 hO2 hlen hP2 hik hxy hbel
          go_wp2_with fail
          go_quiet (fail)
          go_wp2
          go_roundw
          case rel => exact ⟨k + 1, th, by go_num, rfl, by omega, hth, Lib.hid (HP3.out _ ⟨_, rfl⟩), Lib.hid (hB3.out _ ⟨_, rfl⟩)⟩
          case measure => simp [RowKit.intOf]; omega
        · obtain rfl : k = len M := by omega
          have t2 : decide (len M < len M) = false := decide_eq_false (Nat.lt_irrefl _)
          have hfr := hO2.frozen (i + len M)
          have hcell := hO2.cell (i := i + len M) (by rw [List.length_append, hlen]; omega)
          have hO3 := hO2.set (i + len M) c
          rw [set_app (by rw [hlen]; omega)] at hO3
          have HP3 : Hid (∃ l, Own (wr.setCell ⟨g, i + len M, none⟩ (.int .u32 (c : Int))) g (l ++ [0]) ∧ MulO N M (i + 1) l) := Lib.hid ⟨_, hO3, hM2.done h0⟩
          have hB3 := Lib.hid (hB2.out.store (i := i + len M) hg3 (.int .u32 (c : Int)))
          have e6 : IntKind.u32.wrap (c : Int) = (c : Int) := by rw [IntKind.wrap_u32]; omega
          have hidx : i + len M < L := by have := HLL.out; omega
          generalize (l2 ++ [0]).getD (i + len M) 0 = o at *
          clear hP2 hO2 hM2 hO3 hlen hbel
          go_wp2
          go_roundw
          case rel => exact ⟨i + 1, by go_num, by omega, HP3, hB3⟩
          case measure => simp [RowKit.intOf]; omega
    · obtain rfl : i = len N := by omega
      have t1 : decide (len N < len N) = false := decide_eq_false (Nat.lt_irrefl _)
      obtain ⟨m1, m2, m3⟩ := hM.done
      have hS : Sl wr (.slice (some ⟨g, 0, none⟩) L L) (l ++ [0]) := by
        have hw : words (l ++ [0]) := by
          intro u hu
          rcases List.mem_append.1 hu with hu | hu
          · exact m2 u hu
          · simp at hu; omega
        have hll : (l ++ [0]).length = L := by rw [List.length_append, m1, ← HLL.out]; rfl
        have := hO.sl hw (by omega)
        rwa [hll] at this
      have hv : val (l ++ [0]) = N * M := by rw [val_append, m3]; simp [val]
      have cT := Lib.hid (trim_c _ _ wr hS (by rw [List.length_append, m1]; simp; omega))
      rw [hv] at cT
      clear hP hO hM m1 m2 m3 hS hv
      go_wp2_with fail
      refine cT.out.mono ?_
      rintro e w6 ⟨⟨a6, c6, rfl, hN⟩, hb6⟩
      have B6 := Lib.hid (hB.out.on (hb6.mono (by omega)))
      have HN := Lib.hid (show Nt w6 (.slice a6 (len (N * M)) c6) (N * M) ∧ Fr (w.heap.size + 3) (.slice a6 (len (N * M)) c6) from ⟨hN.out.1, Fr.mono hN.out.2 (by omega)⟩)
      clear z0 p0 p1 p2 p3 hN hb6
      obtain ⟨_, z0, p0, p1, p2, p3⟩ := B6.out
      go_wp2
      exact bodyPost_ret (v := .agg #[.slice a6 (len (N * M)) c6]) (by simp [results, Try.results51, go_sem, p2]) rfl ⟨⟨a6, c6, rfl, Lib.hid ⟨HN.out.1.set (a := ⟨w.heap.size + 1 + 1, 0, none⟩) HN.out.2 (by dsimp only; omega) _, Fr.mono HN.out.2 (by omega)⟩⟩, B6.out.1.setCell (by dsimp only; omega) _⟩

set_option maxHeartbeats 400000 in
theorem refMul_c (a b : Value) (N M : Nat) (w : World) (ha : Nt w a N) (hb : Nt w b M) (h1 : len N ≤ 64) (h2 : len M ≤ 64) :
    Calls Try.prog 20 #[.agg #[a], .agg #[b]] w fun e w' => BigPost (N * M) w.heap.size e w' ∧ Below w.heap.size w w' := by
  have cs := fun w ha hb => product_c a b N M w ha hb h1 h2
  have CS := Lib.hid cs
  have HA := Lib.hid ha
  have HB := Lib.hid hb
  clear cs ha hb h1 h2
  generalize N * M = S at *
  go_enter Try.func20, Try.ntmps20
  go_wp2_with fail
  refine (CS.out _ (HA.out.below' (below_three _ _ _ _)) (HB.out.below' (below_three _ _ _ _))).mono ?_; rintro e w1 ⟨⟨a1, c1, rfl, hv⟩, hb1⟩
  obtain ⟨x1, x2, x3, x4⟩ := box3 w a b (.slice none 0 0) 24 24 24
  have z1 : w.heap.size + 2 < w1.heap.size := by have := hb1.size; simp at this; omega
  have f3 := (hb1.cell (p := ⟨w.heap.size + 1 + 1, 0, none⟩) (by simp)).trans x3
  have f4 := (hb1.frozen (p := ⟨w.heap.size + 1 + 1, 0, none⟩) (by simp)).trans x4
  have B1 : Hid (Below w.heap.size w w1) := Lib.hid ((below_three _ _ _ _).trans (hb1.mono (by simp; omega)))
  have hN := Lib.hid hv.out.1
  have hF : Hid (Fr (w.heap.size + 3) (.slice a1 (len S) c1)) := Lib.hid (Fr.mono hv.out.2 (by simp))
  have hlS : Hid ((len S : Int) ≤ 9223372036854775807) := Lib.hid (by
    obtain ⟨_, _, e, k1, k2, _⟩ := hN.out.open
    have := k1; omega)
  clear x1 x2 x3 x4 hb1 hv
  go_wp2_with fail
  refine (sized_c a1 (len S) c1 w1 hlS.out).mono ?_
  rintro e w2 ⟨h2, hb2⟩
  have z2 : w.heap.size + 1 + 1 < w2.heap.size := by have := hb2.size; omega
  have B2 : Hid (Below w.heap.size w w2) := Lib.hid (B1.out.trans (hb2.mono (by omega)))
  have g3 := (hb2.cell (p := ⟨w.heap.size + 1 + 1, 0, none⟩) (by dsimp only; omega)).trans f3
  have g4 := (hb2.frozen (p := ⟨w.heap.size + 1 + 1, 0, none⟩) (by dsimp only; omega)).trans f4
  have hN2 := Lib.hid (hN.out.below' hb2)
  clear hb2 f3 f4 hN
  rcases h2 with ⟨hl, rfl⟩ | ⟨hl, rfl⟩
  · have HL := Lib.hid hl
    clear hl
    go_wp2
    exact bodyPost_ret (v := .tuple #[.agg #[.slice a1 (len S) c1], .int .i64 0]) (by simp [results, Try.results20, go_sem, g3]) rfl ⟨Or.inl ⟨HL.out, _, Lib.hid ⟨hN2.out.set hF.out (by dsimp only; omega) _, Fr.mono hF.out (by omega)⟩, rfl⟩, B2.out.setCell (by dsimp only; omega) _⟩
  · have HL := Lib.hid hl
    clear hl
    unfold errN
    go_wp2
    exact bodyPost_ret (v := .tuple #[.agg #[.slice none 0 0], .int .i64 9]) (by simp [results, Try.results20, go_sem, g3]) rfl ⟨Or.inr ⟨HL.out, rfl⟩, B2.out.setCell (by dsimp only; omega) _⟩
end Go.Proofs.Ytgogfjehbaiklaa

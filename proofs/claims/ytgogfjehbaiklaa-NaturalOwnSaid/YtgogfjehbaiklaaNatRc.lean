/- The reference's Sub. -/
import Derived.Test.YtgogfjehbaiklaaNatRb
namespace Go.Proofs.Ytgogfjehbaiklaa
open Go.RowKit NatMath
set_option linter.unusedVariables false

set_option maxRecDepth 100000 in
set_option maxHeartbeats 2000000 in
theorem refSub_c (a b : Value) (N M : Nat) (w : World) (ha : Nt w a N) (hb : Nt w b M) (h1 : len N ≤ 64) (hl : M ≤ N) :
    Calls Try.prog 36 #[.agg #[a], .agg #[b]] w fun e w' => (∃ ao c, e = .returned (.agg #[.slice ao (len (N - M)) c]) ∧ Hid (Nt w' (.slice ao (len (N - M)) c) (N - M) ∧ Fr w.heap.size (.slice ao (len (N - M)) c))) ∧ Below w.heap.size w w' := by
  have HA := Lib.hid ha
  have HB := Lib.hid hb
  have WA := Lib.hid (fun i Wr h0 hi hp hq k1 k2 W hW => word_two a a b (digs N) i w.heap.size (w.heap.size + 1) w Wr ha h0 hi hp hq k1 k2 W hW)
  have WB := Lib.hid (fun i Wr h0 hi hp hq k1 k2 W hW => word_two b a b (digs M) i w.heap.size (w.heap.size + 1) w Wr hb h0 hi hp hq k1 k2 W hW)
  obtain ⟨ao, ca, rfl, a1, a2, _⟩ := ha.open
  obtain ⟨bo, cb, rfl, b1, b2, _⟩ := hb.open
  have l1 : (len N : Int) ≤ 64 := by omega
  obtain ⟨S, hS⟩ : ∃ S, N - M = S := ⟨_, rfl⟩
  rw [hS]
  have HS := Lib.hid hS
  have hlm := len_mono hl
  have HL := Lib.hid hl
  have HSB : Hid (S < Bp (len N)) := Lib.hid (by have := lt_Bp_len N; omega)
  clear ha hb h1 hl hS
  generalize len N = n1 at *
  generalize len M = n2 at *
  obtain ⟨W0, hW0⟩ : ∃ W0, W0 = ((w.alloc (.cells #[.slice ao (n1) ca] 24)).alloc (.cells #[.slice bo (n2) cb] 24)).alloc (.cells #[.slice none 0 0] 24) := ⟨_, rfl⟩
  have B0 : Hid (Below w.heap.size w W0) := Lib.hid (by rw [hW0]; exact below_three _ _ _ _)
  have z0 : W0.heap.size = w.heap.size + 3 := by rw [hW0]; simp
  have x0 : Hid (W0.cell? ⟨w.heap.size, 0, none⟩ = some (.slice ao (n1) ca) ∧ W0.cell? ⟨w.heap.size + 1, 0, none⟩ = some (.slice bo (n2) cb) ∧ W0.cell? ⟨w.heap.size + 1 + 1, 0, none⟩ = some (.slice none 0 0) ∧ W0.frozen? ⟨w.heap.size + 1 + 1, 0, none⟩ = false) := Lib.hid (by rw [hW0]; exact box3 ..)
  go_enter Try.func36, Try.ntmps36
  go_wp2
  rw [← hW0]
  clear hW0
  go_loopw [7, 5, 6] (fun s7 s5 s6 wr => ∃ k : Nat, s7 = .int .i64 (k : Int) ∧ s6 = .int .i64 (bor N M k : Nat) ∧ k ≤ n1 ∧ Hid (OwnV wr W0.heap.size s5 (lst (dig S) k)) ∧ Hid (Below W0.heap.size W0 wr)) (fun s7 _ _ _ => (n1 - RowKit.intOf s7).toNat)
  case atStart => exact ⟨0, rfl, by rw [bor_zero]; rfl, Nat.zero_le _, Lib.hid (OwnV.nil _ _), Lib.hid (Below.refl _ _)⟩
  case round =>
    obtain ⟨k, rfl, rfl, hk, hO, hB⟩ := hrel
    obtain ⟨x1, x2, x3, x4⟩ := x0.out
    have f1 := (hB.out.cell (p := ⟨w.heap.size, 0, none⟩) (by dsimp only; omega)).trans x1
    have f2 := (hB.out.cell (p := ⟨w.heap.size + 1, 0, none⟩) (by dsimp only; omega)).trans x2
    have f3 := (hB.out.cell (p := ⟨w.heap.size + 1 + 1, 0, none⟩) (by dsimp only; omega)).trans x3
    have f4 := (hB.out.frozen (p := ⟨w.heap.size + 1 + 1, 0, none⟩) (by dsimp only; omega)).trans x4
    have zr : w.heap.size + 3 ≤ wr.heap.size := by have := hB.out.size; omega
    have hBW : Hid (Below w.heap.size w wr) := Lib.hid (B0.out.trans (hB.out.mono (by omega)))
    clear x1 x2 x3 x4
    by_cases c0 : k < n1
    · have CA := WA.out k wr hBW.out (by omega) (by omega) (by omega) f1 f2
      have CB := WB.out k wr hBW.out (by omega) (by omega) (by omega) f1 f2
      rw [dig_digs] at CA CB
      have hxb := dig_lt N k
      have hyb := dig_lt M k
      have hcb := bor_le N M k
      have ed := dig_sub N M k HL.out
      have ec := bor_step N M k
      rw [HS.out] at ed
      have HD := Lib.hid ed
      have HC := Lib.hid ec
      have ht : decide (k < n1) = true := decide_eq_true c0
      clear ed ec
      generalize dig N k = x at *
      generalize dig M k = y at *
      generalize bor N M k = c at *
      have KA := Lib.hid CA
      have KB := Lib.hid CB
      have hd0 : Hid (Below wr.heap.size wr wr.drew) := Lib.hid (below_drewN (Below.refl _ _) 1)
      clear CA CB
      have q1 : IntKind.i64.wrap ((x : Int) - (y : Int)) = (x : Int) - (y : Int) := IntWalk.i64_in _ (by omega)
      obtain ⟨z, hz⟩ : ∃ z : Int, z = (x : Int) - (y : Int) - (c : Int) := ⟨_, rfl⟩
      have q2 : IntKind.i64.wrap ((x : Int) - (y : Int) - (c : Int)) = z := by rw [hz]; exact IntWalk.i64_in _ (by omega)
      obtain ⟨u, hu⟩ : ∃ u, u = (x + 8589934592 - y - c) % 4294967296 := ⟨_, rfl⟩
      have hub : (u : Int) < 4294967296 := by omega
      rw [← hu] at HD
      by_cases hneg : z < 0
      · have hc2 : x < y + c := by omega
        rw [if_pos hc2] at HC
        have htz : decide (z < 0) = true := decide_eq_true hneg
        have q3 : IntKind.i64.wrap (z + 4294967296) = (u : Int) := by rw [IntWalk.i64_in _ (by omega)]; omega
        clear hu hz hneg hc2
        go_wp2_with fail
        go_region_held3 (fun w' => w'.cell? ⟨w.heap.size, 0, none⟩ = some (.slice ao n1 ca) ∧ w'.cell? ⟨w.heap.size + 1, 0, none⟩ = some (.slice bo n2 cb) ∧ Hid (Below wr.heap.size wr w')) (first | exact ⟨p1, p2, hb1⟩ | exact ⟨f1, f2, hd0⟩)
          (first | (go_at_call_of 56 (Value.slice ao n1 ca); refine (KA.out _ ?_).mono ?_; (first | exact hb1.out | exact hd0.out); rintro e w1 ⟨rfl, hb1, p1, p2⟩) | (go_at_call_of 56 (Value.slice bo n2 cb); refine (KB.out _ ?_).mono ?_; (first | exact hb1.out | exact hd0.out); rintro e w1 ⟨rfl, hb1, p1, p2⟩))
        have hO1 := Lib.hid ((hO.out.below hb1.out).below (below_one w1 (.cells #[.int .u32 (u : Int)] 62)))
        have hs1 : W0.heap.size ≤ w1.heap.size := by have := hb1.out.size; omega
        have hll : (lst (dig S) k).length ≤ 1000000 := by rw [lst_length]; omega
        have hB1 : Hid (Below W0.heap.size W0 (w1.alloc (.cells #[.int .u32 (u : Int)] 62))) := Lib.hid (hB.out.trans ((hb1.out.mono (by omega)).alloc hs1 _))
        clear q1 q2 KA KB f1 f2 f3 f4 p1 p2
        go_wp2_with (at_builtin; go_loud (refine wpList_push _ rfl _ _ rfl W0.heap.size _ (lst (dig S) k) u rfl hO1.out ⟨w1.heap.size, 0, none⟩ _ rfl (box1a _ _ _) (by omega) hll (by simp; omega) ?_; intro v2 w2 hv2 hb2))
        rw [← HD.out, ← lst_succ] at hv2
        have HV := Lib.hid hv2
        have HB2 := Lib.hid (hB1.out.trans hb2)
        clear hv2 hb2
        go_roundw
        case rel => exact ⟨k + 1, rfl, by rw [HC.out]; rfl, by omega, HV, HB2⟩
        case measure => simp [RowKit.intOf]; omega
      · have hc2 : ¬ x < y + c := by omega
        rw [if_neg hc2] at HC
        obtain rfl : z = (u : Int) := by omega
        have htz : decide ((u : Int) < 0) = false := decide_eq_false hneg
        clear hu hz hneg hc2
        go_wp2_with fail
        go_region_held3 (fun w' => w'.cell? ⟨w.heap.size, 0, none⟩ = some (.slice ao n1 ca) ∧ w'.cell? ⟨w.heap.size + 1, 0, none⟩ = some (.slice bo n2 cb) ∧ Hid (Below wr.heap.size wr w')) (first | exact ⟨p1, p2, hb1⟩ | exact ⟨f1, f2, hd0⟩)
          (first | (go_at_call_of 56 (Value.slice ao n1 ca); refine (KA.out _ ?_).mono ?_; (first | exact hb1.out | exact hd0.out); rintro e w1 ⟨rfl, hb1, p1, p2⟩) | (go_at_call_of 56 (Value.slice bo n2 cb); refine (KB.out _ ?_).mono ?_; (first | exact hb1.out | exact hd0.out); rintro e w1 ⟨rfl, hb1, p1, p2⟩))
        have hO1 := Lib.hid ((hO.out.below hb1.out).below (below_one w1 (.cells #[.int .u32 (u : Int)] 62)))
        have hs1 : W0.heap.size ≤ w1.heap.size := by have := hb1.out.size; omega
        have hll : (lst (dig S) k).length ≤ 1000000 := by rw [lst_length]; omega
        have hB1 : Hid (Below W0.heap.size W0 (w1.alloc (.cells #[.int .u32 (u : Int)] 62))) := Lib.hid (hB.out.trans ((hb1.out.mono (by omega)).alloc hs1 _))
        clear q1 q2 KA KB f1 f2 f3 f4 p1 p2
        go_wp2_with (at_builtin; go_loud (refine wpList_push _ rfl _ _ rfl W0.heap.size _ (lst (dig S) k) u rfl hO1.out ⟨w1.heap.size, 0, none⟩ _ rfl (box1a _ _ _) (by omega) hll (by simp; omega) ?_; intro v2 w2 hv2 hb2))
        rw [← HD.out, ← lst_succ] at hv2
        have HV := Lib.hid hv2
        have HB2 := Lib.hid (hB1.out.trans hb2)
        clear hv2 hb2
        go_roundw
        case rel => exact ⟨k + 1, rfl, by rw [HC.out]; rfl, by omega, HV, HB2⟩
        case measure => simp [RowKit.intOf]; omega
    · obtain rfl : n1 = k := by omega
      have ht1 : decide (n1 < n1) = false := decide_eq_false (by omega)
      go_wp2_with fail
      refine (trim_c u5 _ wr hO.out.sl (by rw [lst_length]; omega)).mono ?_
      rw [lst_fill, fill_val HSB.out]
      rintro e w3 ⟨⟨a3, c3, rfl, hv3⟩, hb3⟩
      have HB3 : Below W0.heap.size W0 w3 := hB.out.trans (hb3.mono hB.out.size)
      obtain ⟨x1, x2, x3, x4⟩ := x0.out
      have r3 := (HB3.cell (p := ⟨w.heap.size + 1 + 1, 0, none⟩) (by dsimp only; omega)).trans x3
      have r4 := (HB3.frozen (p := ⟨w.heap.size + 1 + 1, 0, none⟩) (by dsimp only; omega)).trans x4
      have z3 : w.heap.size + 1 + 1 < w3.heap.size := by have := HB3.size; omega
      have hF : Fr (w.heap.size + 3) (.slice a3 (len S) c3) := Fr.mono hv3.out.2 (by have := hB.out.size; omega)
      have hN : Nt (w3.setCell ⟨w.heap.size + 1 + 1, 0, none⟩ (.slice a3 (len S) c3)) (.slice a3 (len S) c3) S := hv3.out.1.set hF (by dsimp only; omega) _
      have hBf : Below w.heap.size w (w3.setCell ⟨w.heap.size + 1 + 1, 0, none⟩ (.slice a3 (len S) c3)) := (B0.out.trans (HB3.mono (by omega))).setCell (by dsimp only; omega) _
      have HF := Lib.hid (Fr.mono hF (show w.heap.size ≤ w.heap.size + 3 by omega))
      have HN := Lib.hid hN
      have HBF := Lib.hid hBf
      clear hF hN hBf HB3 hb3 hv3 x1 x2 x3 x4 f1 f2 f3 f4
      go_wp2
      exact bodyPost_ret (v := .agg #[.slice a3 (len S) c3]) (by simp [results, Try.results36, go_sem, r3]) rfl ⟨⟨a3, c3, rfl, Lib.hid ⟨HN.out, HF.out⟩⟩, HBF.out⟩
end Go.Proofs.Ytgogfjehbaiklaa

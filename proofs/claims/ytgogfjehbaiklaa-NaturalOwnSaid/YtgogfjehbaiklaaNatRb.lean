/- The reference's sum. -/
import Derived.Test.YtgogfjehbaiklaaNatRa
import Derived.Deep.RegionHeld3
import Derived.IntWalk
namespace Go.Proofs.Ytgogfjehbaiklaa
open Go.RowKit NatMath
set_option linter.unusedVariables false

def lst (f : Nat → Nat) (k : Nat) : List Nat := (List.range k).map f
theorem lst_length (f : Nat → Nat) (k : Nat) : (lst f k).length = k := by simp [lst]
theorem lst_succ (f : Nat → Nat) (k : Nat) : lst f (k + 1) = lst f k ++ [f k] := by simp [lst, List.range_succ]
theorem lst_fill (f : Nat → Nat) (k : Nat) : lst f k = fill f k k := by
  apply List.ext_getElem
  · simp [lst, fill]
  · intro i h1 h2
    simp only [lst, List.length_map, List.length_range] at h1
    simp [lst, fill, h1]
theorem lst_zero (f : Nat → Nat) : lst f 0 = [] := rfl

/-- word, in a world behind Wr, in which two boxes lie -/
theorem word_two (v a b : Value) (l : List Nat) (i p q : Nat) (W0 Wr : World) (h : Sl W0 v l) (h0 : Below W0.heap.size W0 Wr) (hi : (i : Int) ≤ 1000000) (hp : p < Wr.heap.size) (hq : q < Wr.heap.size)
    (h1 : Wr.cell? ⟨p, 0, none⟩ = some a) (h2 : Wr.cell? ⟨q, 0, none⟩ = some b) (W : World) (hW : Below Wr.heap.size Wr W) :
    Calls Try.prog 56 #[.agg #[v], .int .i64 i] W fun e w' => e = .returned (.int .i64 (l.getD i 0 : Nat)) ∧ Hid (Below Wr.heap.size Wr w') ∧ w'.cell? ⟨p, 0, none⟩ = some a ∧ w'.cell? ⟨q, 0, none⟩ = some b := by
  refine (word_c v l i W (h.below' (h0.trans (hW.mono h0.size))) hi).mono ?_
  rintro e w' ⟨rfl, hb⟩
  have hB : Below Wr.heap.size Wr w' := hW.trans (hb.mono hW.size)
  exact ⟨rfl, Lib.hid hB, (hB.cell hp).trans h1, (hB.cell hq).trans h2⟩

set_option maxRecDepth 100000 in
set_option maxHeartbeats 2000000 in
theorem sum_c (a b : Value) (N M : Nat) (w : World) (ha : Nt w a N) (hb : Nt w b M) (h1 : len N ≤ 64) (h2 : len M ≤ 64) :
    Calls Try.prog 58 #[.agg #[a], .agg #[b]] w fun e w' => (∃ ao c, e = .returned (.agg #[.slice ao (len (N + M)) c]) ∧ Hid (Nt w' (.slice ao (len (N + M)) c) (N + M) ∧ Fr w.heap.size (.slice ao (len (N + M)) c))) ∧ Below w.heap.size w w' := by
  have HA := Lib.hid ha
  have HB := Lib.hid hb
  have WA := Lib.hid (fun i Wr h0 hi hp hq k1 k2 W hW => word_two a a b (digs N) i w.heap.size (w.heap.size + 1) w Wr ha h0 hi hp hq k1 k2 W hW)
  have WB := Lib.hid (fun i Wr h0 hi hp hq k1 k2 W hW => word_two b a b (digs M) i w.heap.size (w.heap.size + 1) w Wr hb h0 hi hp hq k1 k2 W hW)
  obtain ⟨ao, ca, rfl, a1, a2, _⟩ := ha.open
  obtain ⟨bo, cb, rfl, b1, b2, _⟩ := hb.open
  have l1 : (len N : Int) ≤ 64 := by omega
  have l2 : (len M : Int) ≤ 64 := by omega
  obtain ⟨S, hS⟩ : ∃ S, N + M = S := ⟨_, rfl⟩
  rw [hS]
  have HS := Lib.hid hS
  obtain ⟨n, hn⟩ : ∃ n, n = max (len N) (len M) := ⟨_, rfl⟩
  have hn1 : len N ≤ n := by omega
  have hn2 : len M ≤ n := by omega
  have hn3 : n ≤ 64 := by omega
  have HCL : Hid (car N M n = dig S n) := Lib.hid (by rw [← hS]; exact (car_last (len_le_iff.1 hn1) (len_le_iff.1 hn2)).symm)
  have HSB : Hid (S < Bp (n + 1)) := Lib.hid (by
    have e1 := len_le_iff.1 hn1
    have e2 := len_le_iff.1 hn2
    rw [Bp_succ]; omega)
  have hn4 : Hid (∀ k, ¬ k < len N → ¬ k < len M → k ≤ n → k = n) := Lib.hid (by omega)
  clear ha hb h1 h2 hS hn
  generalize len N = n1 at *
  generalize len M = n2 at *
  obtain ⟨W0, hW0⟩ : ∃ W0, W0 = ((w.alloc (.cells #[.slice ao (n1) ca] 24)).alloc (.cells #[.slice bo (n2) cb] 24)).alloc (.cells #[.slice none 0 0] 24) := ⟨_, rfl⟩
  have B0 : Hid (Below w.heap.size w W0) := Lib.hid (by rw [hW0]; exact below_three _ _ _ _)
  have z0 : W0.heap.size = w.heap.size + 3 := by rw [hW0]; simp
  have x0 : Hid (W0.cell? ⟨w.heap.size, 0, none⟩ = some (.slice ao (n1) ca) ∧ W0.cell? ⟨w.heap.size + 1, 0, none⟩ = some (.slice bo (n2) cb) ∧ W0.cell? ⟨w.heap.size + 1 + 1, 0, none⟩ = some (.slice none 0 0) ∧ W0.frozen? ⟨w.heap.size + 1 + 1, 0, none⟩ = false) := Lib.hid (by rw [hW0]; exact box3 ..)
  go_enter Try.func58, Try.ntmps58
  go_wp2
  rw [← hW0]
  clear hW0
  go_loopw [7, 5, 6] (fun s7 s5 s6 wr => ∃ k : Nat, s7 = .int .i64 (k : Int) ∧ s6 = .int .i64 (car N M k : Nat) ∧ k ≤ n ∧ Hid (OwnV wr W0.heap.size s5 (lst (dig S) k)) ∧ Hid (Below W0.heap.size W0 wr)) (fun s7 _ _ _ => (n - RowKit.intOf s7).toNat)
  case atStart => exact ⟨0, rfl, by rw [car_zero]; rfl, Nat.zero_le _, Lib.hid (OwnV.nil _ _), Lib.hid (Below.refl _ _)⟩
  case round =>
    obtain ⟨k, rfl, rfl, hk, hO, hB⟩ := hrel
    obtain ⟨x1, x2, x3, x4⟩ := x0.out
    have f1 := (hB.out.cell (p := ⟨w.heap.size, 0, none⟩) (by dsimp only; omega)).trans x1
    have f2 := (hB.out.cell (p := ⟨w.heap.size + 1, 0, none⟩) (by dsimp only; omega)).trans x2
    have f3 := (hB.out.cell (p := ⟨w.heap.size + 1 + 1, 0, none⟩) (by dsimp only; omega)).trans x3
    have f4 := (hB.out.frozen (p := ⟨w.heap.size + 1 + 1, 0, none⟩) (by dsimp only; omega)).trans x4
    have zr : w.heap.size + 3 ≤ wr.heap.size := by have := hB.out.size; omega
    have hBW : Hid (Below w.heap.size w wr) := Lib.hid (B0.out.trans (hB.out.mono (by omega)))
    clear x1 x2 x3 x4
    by_cases c0 : k < n
    · have CA := WA.out k wr hBW.out (by omega) (by omega) (by omega) f1 f2
      have CB := WB.out k wr hBW.out (by omega) (by omega) (by omega) f1 f2
      rw [dig_digs] at CA CB
      have hxb := dig_lt N k
      have hyb := dig_lt M k
      have hcb := car_le N M k
      have ed := dig_add N M k
      have ec := car_step N M k
      rw [HS.out] at ed
      have HD := Lib.hid ed
      have HC := Lib.hid ec
      have ht : decide (k < n1) = true ∨ (decide (k < n1) = false ∧ decide (k < n2) = true) := by
        by_cases h : k < n1
        · exact Or.inl (decide_eq_true h)
        · exact Or.inr ⟨decide_eq_false h, decide_eq_true (by have := hn4.out k h; omega)⟩
      clear ed ec
      generalize dig N k = x at *
      generalize dig M k = y at *
      generalize car N M k = c at *
      have KA := Lib.hid CA
      have KB := Lib.hid CB
      have hd0 : Hid (Below wr.heap.size wr wr.drew) := Lib.hid (below_drewN (Below.refl _ _) 1)
      clear CA CB
      have q1 : IntKind.i64.wrap ((x : Int) + (y : Int)) = (x : Int) + (y : Int) := IntWalk.i64_in _ (by omega)
      have q2 : IntKind.i64.wrap ((x : Int) + (y : Int) + (c : Int)) = (x : Int) + (y : Int) + (c : Int) := IntWalk.i64_in _ (by omega)
      obtain ⟨u, hu⟩ : ∃ u, u = (x + y + c) % 4294967296 := ⟨_, rfl⟩
      obtain ⟨c2, hc2⟩ : ∃ c2, c2 = (x + y + c) / 4294967296 := ⟨_, rfl⟩
      have q3 : ((x : Int) + (y : Int) + (c : Int)) % 4294967296 = (u : Int) := by omega
      have q4 : ((x : Int) + (y : Int) + (c : Int)) / 4294967296 = (c2 : Int) := by omega
      have hub : (u : Int) < 4294967296 := by omega
      rw [← hu] at HD
      rw [← hc2] at HC
      clear hu hc2
      rcases ht with ht | ⟨ht, ht2⟩
      · go_wp2_with fail
        go_region_held3 (fun w' => w'.cell? ⟨w.heap.size, 0, none⟩ = some (.slice ao n1 ca) ∧ w'.cell? ⟨w.heap.size + 1, 0, none⟩ = some (.slice bo n2 cb) ∧ Hid (Below wr.heap.size wr w')) (first | exact ⟨p1, p2, hb1⟩ | exact ⟨f1, f2, hd0⟩)
          (first | (go_at_call_of 56 (Value.slice ao n1 ca); refine (KA.out _ ?_).mono ?_; (first | exact hb1.out | exact hd0.out); rintro e w1 ⟨rfl, hb1, p1, p2⟩) | (go_at_call_of 56 (Value.slice bo n2 cb); refine (KB.out _ ?_).mono ?_; (first | exact hb1.out | exact hd0.out); rintro e w1 ⟨rfl, hb1, p1, p2⟩))
        have hO1 := Lib.hid ((hO.out.below hb1.out).below (below_one w1 (.cells #[.int .u32 (u : Int)] 62)))
        have hs1 : W0.heap.size ≤ w1.heap.size := by have := hb1.out.size; omega
        have hll : (lst (dig S) k).length ≤ 1000000 := by rw [lst_length]; omega
        have hB1 : Hid (Below W0.heap.size W0 (w1.alloc (.cells #[.int .u32 (u : Int)] 62))) := Lib.hid (hB.out.trans ((hb1.out.mono (by omega)).alloc hs1 _))
        clear q1 q2 KA KB f1 f2 f3 f4 p1 p2
        go_wp2_with (at_builtin; go_loud (refine wpList_push _ rfl _ _ rfl W0.heap.size _ (lst (dig S) k) u rfl hO1.out ⟨w1.heap.size, 0, none⟩ _ rfl (box1a _ _ _) (by omega) hll (by simp; omega) ?_; intro v2 w2 hv2 hb2))
        rw [← HD.out, ← lst_succ] at hv2
        have HV := Lib.hid hv2
        have HB2 := Lib.hid (hB1.out.trans hb2)
        clear hv2 hb2
        go_roundw
        case rel => exact ⟨k + 1, rfl, by rw [HC.out, q4], by omega, HV, HB2⟩
        case measure => simp [RowKit.intOf]; omega
      · go_wp2_with fail
        go_region_held3 (fun w' => w'.cell? ⟨w.heap.size, 0, none⟩ = some (.slice ao n1 ca) ∧ w'.cell? ⟨w.heap.size + 1, 0, none⟩ = some (.slice bo n2 cb) ∧ Hid (Below wr.heap.size wr w')) (first | exact ⟨p1, p2, hb1⟩ | exact ⟨f1, f2, hd0⟩)
          (first | (go_at_call_of 56 (Value.slice ao n1 ca); refine (KA.out _ ?_).mono ?_; (first | exact hb1.out | exact hd0.out); rintro e w1 ⟨rfl, hb1, p1, p2⟩) | (go_at_call_of 56 (Value.slice bo n2 cb); refine (KB.out _ ?_).mono ?_; (first | exact hb1.out | exact hd0.out); rintro e w1 ⟨rfl, hb1, p1, p2⟩))
        have hO1 := Lib.hid ((hO.out.below hb1.out).below (below_one w1 (.cells #[.int .u32 (u : Int)] 62)))
        have hs1 : W0.heap.size ≤ w1.heap.size := by have := hb1.out.size; omega
        have hll : (lst (dig S) k).length ≤ 1000000 := by rw [lst_length]; omega
        have hB1 : Hid (Below W0.heap.size W0 (w1.alloc (.cells #[.int .u32 (u : Int)] 62))) := Lib.hid (hB.out.trans ((hb1.out.mono (by omega)).alloc hs1 _))
        clear q1 q2 KA KB f1 f2 f3 f4 p1 p2
        go_wp2_with (at_builtin; go_loud (refine wpList_push _ rfl _ _ rfl W0.heap.size _ (lst (dig S) k) u rfl hO1.out ⟨w1.heap.size, 0, none⟩ _ rfl (box1a _ _ _) (by omega) hll (by simp; omega) ?_; intro v2 w2 hv2 hb2))
        rw [← HD.out, ← lst_succ] at hv2
        have HV := Lib.hid hv2
        have HB2 := Lib.hid (hB1.out.trans hb2)
        clear hv2 hb2
        go_roundw
        case rel => exact ⟨k + 1, rfl, by rw [HC.out, q4], by omega, HV, HB2⟩
        case measure => simp [RowKit.intOf]; omega
    · obtain rfl : k = n := by omega
      have ht1 : decide (k < n1) = false := decide_eq_false (by omega)
      have ht2 : decide (k < n2) = false := decide_eq_false (by omega)
      have hcar := HCL.out
      have hcb := car_le N M k
      generalize car N M k = c at *
      have HCC := Lib.hid hcar
      have hc1 : (c : Int) ≤ 1 := by omega
      have hO1 := Lib.hid (hO.out.below (below_one wr (.cells #[.int .u32 (c : Int)] 62)))
      have hs1 : W0.heap.size ≤ wr.heap.size := by omega
      have hll : (lst (dig S) k).length ≤ 1000000 := by rw [lst_length]; omega
      have hB1 : Hid (Below W0.heap.size W0 (wr.alloc (.cells #[.int .u32 (c : Int)] 62))) := Lib.hid (hB.out.alloc hs1 _)
      clear hcar
      go_wp2_with (at_builtin; go_loud (refine wpList_push _ rfl _ _ rfl W0.heap.size _ (lst (dig S) k) c rfl hO1.out ⟨wr.heap.size, 0, none⟩ _ rfl (box1a _ _ _) (by omega) hll (by simp; omega) ?_; intro v2 w2 hv2 hb2))
      rw [HCC.out, ← lst_succ] at hv2
      have HB2 : Hid (Below W0.heap.size W0 w2) := Lib.hid (hB1.out.trans hb2)
      refine (trim_c v2 _ w2 hv2.sl (by rw [lst_length]; omega)).mono ?_
      rw [lst_fill, fill_val HSB.out]
      rintro e w3 ⟨⟨a3, c3, rfl, hv3⟩, hb3⟩
      have HB3 : Below W0.heap.size W0 w3 := HB2.out.trans (hb3.mono HB2.out.size)
      obtain ⟨x1, x2, x3, x4⟩ := x0.out
      have r3 := (HB3.cell (p := ⟨w.heap.size + 1 + 1, 0, none⟩) (by dsimp only; omega)).trans x3
      have r4 := (HB3.frozen (p := ⟨w.heap.size + 1 + 1, 0, none⟩) (by dsimp only; omega)).trans x4
      have z3 : w.heap.size + 1 + 1 < w3.heap.size := by have := HB3.size; omega
      have hF : Fr (w.heap.size + 3) (.slice a3 (len S) c3) := Fr.mono hv3.out.2 (by have := HB2.out.size; omega)
      have hN : Nt (w3.setCell ⟨w.heap.size + 1 + 1, 0, none⟩ (.slice a3 (len S) c3)) (.slice a3 (len S) c3) S := hv3.out.1.set hF (by dsimp only; omega) _
      have hBf : Below w.heap.size w (w3.setCell ⟨w.heap.size + 1 + 1, 0, none⟩ (.slice a3 (len S) c3)) := (B0.out.trans (HB3.mono (by omega))).setCell (by dsimp only; omega) _
      have HF := Lib.hid (Fr.mono hF (show w.heap.size ≤ w.heap.size + 3 by omega))
      have HN := Lib.hid hN
      have HBF := Lib.hid hBf
      clear hF hN hBf HB3 hb3 hv3 hv2 hb2 x1 x2 x3 x4 f1 f2 f3 f4
      go_wp2
      exact bodyPost_ret (v := .agg #[.slice a3 (len S) c3]) (by simp [results, Try.results58, go_sem, r3]) rfl ⟨⟨a3, c3, rfl, Lib.hid ⟨HN.out, HF.out⟩⟩, HBF.out⟩
end Go.Proofs.Ytgogfjehbaiklaa

/- The reference: Plus, Minus. -/
import Derived.Test.YthphmgdmhlimjaaModR1
import Derived.Deep.RegionHeld3
import Derived.IntWalk
namespace Go.Proofs.Ythphmgdmhlimjaa
open Go.RowKit NatMath
set_option linter.unusedVariables false

theorem u64_in (z : Int) (h : 0 ≤ z ∧ z < 18446744073709551616) : IntKind.u64.wrap z = z := by rw [IntKind.wrap_u64]; omega
theorem rword_two (v a b : Value) (l : List Nat) (i p q : Nat) (W0 Wr : World) (h : Sl W0 v l) (h0 : Below W0.heap.size W0 Wr) (hi : (i : Int) ≤ 1000000) (hp : p < Wr.heap.size) (hq : q < Wr.heap.size)
    (h1 : Wr.cell? ⟨p, 0, none⟩ = some a) (h2 : Wr.cell? ⟨q, 0, none⟩ = some b) (W : World) (hW : Below Wr.heap.size Wr W) :
    Calls Try.prog 77 #[.agg #[v], .int .i64 i] W fun e w' => e = .returned (.int .u64 (l.getD i 0 : Nat)) ∧ Hid (Below Wr.heap.size Wr w') ∧ w'.cell? ⟨p, 0, none⟩ = some a ∧ w'.cell? ⟨q, 0, none⟩ = some b := by
  refine (rword_c v l i W (h.below' (h0.trans (hW.mono h0.size))) hi).mono ?_
  rintro e w' ⟨rfl, hb⟩
  have hB : Below Wr.heap.size Wr w' := hW.trans (hb.mono hW.size)
  exact ⟨rfl, Lib.hid hB, (hB.cell hp).trans h1, (hB.cell hq).trans h2⟩
theorem car_done {N M k : Nat} (h1 : N < Bp k) (h2 : M < Bp k) (h : car N M k = 0) : N + M < Bp k := by
  unfold car at h
  rw [Nat.mod_eq_of_lt h1, Nat.mod_eq_of_lt h2] at h
  have := Bp_pos k
  exact (Nat.div_eq_zero_iff_lt this).1 h

set_option maxRecDepth 100000 in
set_option maxHeartbeats 2000000 in
theorem rPlus_w (a b : Value) (N M S : Nat) (w : World) (hS : N + M = S) (ha : Nt w a N) (hb : Nt w b M) (h1 : len N ≤ 10000) (h2 : len M ≤ 10000) :
    Calls Try.prog 41 #[.agg #[a], .agg #[b]] w fun e w' => RetV S e w' ∧ Below w.heap.size w w' := by
  have WA := Lib.hid (fun i Wr h0 hi hp hq k1 k2 W hW => rword_two a a b (digs N) i w.heap.size (w.heap.size + 1) w Wr ha h0 hi hp hq k1 k2 W hW)
  have WB := Lib.hid (fun i Wr h0 hi hp hq k1 k2 W hW => rword_two b a b (digs M) i w.heap.size (w.heap.size + 1) w Wr hb h0 hi hp hq k1 k2 W hW)
  obtain ⟨ao, ca, rfl, a1, a2, _⟩ := ha.open
  obtain ⟨bo, cb, rfl, b1, b2, _⟩ := hb.open
  have l1 : (len N : Int) ≤ 10000 := by omega
  have l2 : (len M : Int) ≤ 10000 := by omega
  have HS := Lib.hid hS
  obtain ⟨n, hn⟩ : ∃ n, n = max (len N) (len M) := ⟨_, rfl⟩
  have hn1 : len N ≤ n := by omega
  have hn2 : len M ≤ n := by omega
  have hn3 : n ≤ 10000 := by omega
  have hn4 : Hid (∀ k, ¬ k < len N → ¬ k < len M → n ≤ k) := Lib.hid (by omega)
  have HBN : Hid (∀ k, n ≤ k → N < Bp k ∧ M < Bp k) := Lib.hid (fun k hk => ⟨len_le_iff.1 (by omega), len_le_iff.1 (by omega)⟩)
  have HTOP : Hid (∀ k, n < k → car N M k = 0) := Lib.hid (fun k hk => by
    have h1 : N < Bp n := len_le_iff.1 hn1
    have h2 : M < Bp n := len_le_iff.1 hn2
    have h3 : Bp (n + 1) ≤ Bp k := Bp_le hk
    rw [Bp_succ] at h3
    unfold car
    rw [Nat.mod_eq_of_lt (by omega), Nat.mod_eq_of_lt (by omega)]
    exact Nat.div_eq_of_lt (by omega))
  clear ha hb h1 h2 hS hn
  generalize len N = n1 at *
  generalize len M = n2 at *
  obtain ⟨W0, hW0⟩ : ∃ W0, W0 = ((w.alloc (.cells #[.slice ao (n1) ca] 24)).alloc (.cells #[.slice bo (n2) cb] 24)).alloc (.cells #[.slice none 0 0] 24) := ⟨_, rfl⟩
  have B0 : Hid (Below w.heap.size w W0) := Lib.hid (by rw [hW0]; exact below_three _ _ _ _)
  have z0 : W0.heap.size = w.heap.size + 3 := by rw [hW0]; simp
  have x0 : Hid (W0.cell? ⟨w.heap.size, 0, none⟩ = some (.slice ao (n1) ca) ∧ W0.cell? ⟨w.heap.size + 1, 0, none⟩ = some (.slice bo (n2) cb) ∧ W0.cell? ⟨w.heap.size + 1 + 1, 0, none⟩ = some (.slice none 0 0) ∧ W0.frozen? ⟨w.heap.size + 1 + 1, 0, none⟩ = false) := Lib.hid (by rw [hW0]; exact box3 ..)
  go_enter Try.func41, Try.ntmps41
  go_wp2
  rw [← hW0]
  clear hW0
  go_loopw [7, 5, 6, 8] (fun s7 s5 s6 _ wr => ∃ k : Nat, s7 = .int .i64 (k : Int) ∧ s6 = .int .u64 (car N M k : Nat) ∧ k ≤ n + 1 ∧ Hid (OwnV wr W0.heap.size s5 (lst (dig S) k)) ∧ Hid (Below W0.heap.size W0 wr)) (fun s7 _ _ _ _ => (n + 1 - RowKit.intOf s7).toNat)
  case atStart => exact ⟨0, rfl, by rw [car_zero]; rfl, Nat.zero_le _, Lib.hid (OwnV.nil _ _), Lib.hid (Below.refl _ _)⟩
  case round =>
    obtain ⟨k, rfl, rfl, hk, hO, hB⟩ := hrel
    obtain ⟨x1, x2, x3, x4⟩ := x0.out
    have f1 := (hB.out.cell (p := ⟨w.heap.size, 0, none⟩) (by dsimp only; omega)).trans x1
    have f2 := (hB.out.cell (p := ⟨w.heap.size + 1, 0, none⟩) (by dsimp only; omega)).trans x2
    have f3 := (hB.out.cell (p := ⟨w.heap.size + 1 + 1, 0, none⟩) (by dsimp only; omega)).trans x3
    have f4 := (hB.out.frozen (p := ⟨w.heap.size + 1 + 1, 0, none⟩) (by dsimp only; omega)).trans x4
    have zr : w.heap.size + 3 ≤ wr.heap.size := by have := hB.out.size; omega
    have hBW : Hid (Below w.heap.size w wr) := Lib.hid (B0.out.trans (hB.out.mono (by omega)))
    clear x1 x2 x3 x4
    by_cases c0 : (k < n1 ∨ k < n2) ∨ 0 < car N M k
    · have hkn : k ≤ n := by
        apply Nat.le_of_not_lt; intro h
        have := HTOP.out k h
        omega
      have CA := WA.out k wr hBW.out (by omega) (by omega) (by omega) f1 f2
      have CB := WB.out k wr hBW.out (by omega) (by omega) (by omega) f1 f2
      rw [dig_digs] at CA CB
      have hxb := dig_lt N k
      have hyb := dig_lt M k
      have hcb := car_le N M k
      have ed := dig_add N M k
      have ec := car_step N M k
      rw [HS.out] at ed
      have HD := Lib.hid ed
      have HC := Lib.hid ec
      have ht : decide (k < n1) = true ∨ (decide (k < n1) = false ∧ decide (k < n2) = true) ∨ (decide (k < n1) = false ∧ decide (k < n2) = false ∧ decide (0 < car N M k) = true) := by
        by_cases h : k < n1
        · exact Or.inl (decide_eq_true h)
        · by_cases h2 : k < n2
          · exact Or.inr (Or.inl ⟨decide_eq_false h, decide_eq_true h2⟩)
          · exact Or.inr (Or.inr ⟨decide_eq_false h, decide_eq_false h2, decide_eq_true (by omega)⟩)
      clear ed ec c0
      generalize dig N k = x at *
      generalize dig M k = y at *
      generalize car N M k = c at *
      have KA := Lib.hid CA
      have KB := Lib.hid CB
      have hd0 : Hid (Below wr.heap.size wr wr.drew) := Lib.hid (below_drewN (Below.refl _ _) 1)
      clear CA CB
      have q1 : IntKind.u64.wrap ((x : Int) + (y : Int)) = (x : Int) + (y : Int) := u64_in _ (by omega)
      have q2 : IntKind.u64.wrap ((x : Int) + (y : Int) + (c : Int)) = ((x + y + c : Nat) : Int) := by rw [u64_in _ (by omega)]; omega
      obtain ⟨s, hs⟩ : ∃ s, s = x + y + c := ⟨_, rfl⟩
      rw [← hs] at q2 HD HC
      obtain ⟨u, hu⟩ : ∃ u, u = s % 4294967296 := ⟨_, rfl⟩
      obtain ⟨c2, hc2⟩ : ∃ c2, c2 = s / 4294967296 := ⟨_, rfl⟩
      have q3 : (s : Int) % 4294967296 = (u : Int) := by omega
      have q4 : (s : Int) / 4294967296 = (c2 : Int) := by omega
      have hub : (u : Int) < 4294967296 := by omega
      have hsb : (s : Int) ≤ 8589934592 := by omega
      rw [← hu] at HD
      rw [← hc2] at HC
      clear hu hc2 hs
      rcases ht with ht | ⟨ht, ht2⟩ | ⟨ht, ht2, ht3⟩
      · go_wp2_with fail
        go_region_held3 (fun w' => w'.cell? ⟨w.heap.size, 0, none⟩ = some (.slice ao n1 ca) ∧ w'.cell? ⟨w.heap.size + 1, 0, none⟩ = some (.slice bo n2 cb) ∧ Hid (Below wr.heap.size wr w')) (first | exact ⟨p1, p2, hb1⟩ | exact ⟨f1, f2, hd0⟩)
          (first | (go_at_call_of 77 (Value.slice ao n1 ca); refine (KA.out _ ?_).mono ?_; (first | exact hb1.out | exact hd0.out); rintro e w1 ⟨rfl, hb1, p1, p2⟩) | (go_at_call_of 77 (Value.slice bo n2 cb); refine (KB.out _ ?_).mono ?_; (first | exact hb1.out | exact hd0.out); rintro e w1 ⟨rfl, hb1, p1, p2⟩))
        have hO1 := Lib.hid ((hO.out.below hb1.out).below (below_one w1 (.cells #[.int .u32 (u : Int)] 49)))
        have hs1 : W0.heap.size ≤ w1.heap.size := by have := hb1.out.size; omega
        have hll : (lst (dig S) k).length ≤ 1000000 := by rw [lst_length]; omega
        have hB1 : Hid (Below W0.heap.size W0 (w1.alloc (.cells #[.int .u32 (u : Int)] 49))) := Lib.hid (hB.out.trans ((hb1.out.mono (by omega)).alloc hs1 _))
        clear q1 q2 KA KB f1 f2 f3 f4 p1 p2
        go_wp2_with (at_builtin; go_loud (refine wpList_push _ rfl _ _ rfl W0.heap.size _ (lst (dig S) k) u rfl hO1.out ⟨w1.heap.size, 0, none⟩ _ rfl (box1a _ _ _) (by omega) hll (by simp; omega) ?_; intro v2 w2 hv2 hb2))
        rw [← HD.out, ← lst_succ] at hv2
        have HV := Lib.hid hv2
        have HB2 := Lib.hid (hB1.out.trans hb2)
        clear hv2 hb2
        go_roundw
        case rel => exact ⟨k + 1, by go_num, by rw [HC.out], by omega, HV, HB2⟩
        case measure => simp [RowKit.intOf]; omega
      · go_wp2_with fail
        go_region_held3 (fun w' => w'.cell? ⟨w.heap.size, 0, none⟩ = some (.slice ao n1 ca) ∧ w'.cell? ⟨w.heap.size + 1, 0, none⟩ = some (.slice bo n2 cb) ∧ Hid (Below wr.heap.size wr w')) (first | exact ⟨p1, p2, hb1⟩ | exact ⟨f1, f2, hd0⟩)
          (first | (go_at_call_of 77 (Value.slice ao n1 ca); refine (KA.out _ ?_).mono ?_; (first | exact hb1.out | exact hd0.out); rintro e w1 ⟨rfl, hb1, p1, p2⟩) | (go_at_call_of 77 (Value.slice bo n2 cb); refine (KB.out _ ?_).mono ?_; (first | exact hb1.out | exact hd0.out); rintro e w1 ⟨rfl, hb1, p1, p2⟩))
        have hO1 := Lib.hid ((hO.out.below hb1.out).below (below_one w1 (.cells #[.int .u32 (u : Int)] 49)))
        have hs1 : W0.heap.size ≤ w1.heap.size := by have := hb1.out.size; omega
        have hll : (lst (dig S) k).length ≤ 1000000 := by rw [lst_length]; omega
        have hB1 : Hid (Below W0.heap.size W0 (w1.alloc (.cells #[.int .u32 (u : Int)] 49))) := Lib.hid (hB.out.trans ((hb1.out.mono (by omega)).alloc hs1 _))
        clear q1 q2 KA KB f1 f2 f3 f4 p1 p2
        go_wp2_with (at_builtin; go_loud (refine wpList_push _ rfl _ _ rfl W0.heap.size _ (lst (dig S) k) u rfl hO1.out ⟨w1.heap.size, 0, none⟩ _ rfl (box1a _ _ _) (by omega) hll (by simp; omega) ?_; intro v2 w2 hv2 hb2))
        rw [← HD.out, ← lst_succ] at hv2
        have HV := Lib.hid hv2
        have HB2 := Lib.hid (hB1.out.trans hb2)
        clear hv2 hb2
        go_roundw
        case rel => exact ⟨k + 1, by go_num, by rw [HC.out], by omega, HV, HB2⟩
        case measure => simp [RowKit.intOf]; omega
      · have ht3' : decide (0 < (c : Int)) = true := by simpa using ht3
        go_wp2_with fail
        go_region_held3 (fun w' => w'.cell? ⟨w.heap.size, 0, none⟩ = some (.slice ao n1 ca) ∧ w'.cell? ⟨w.heap.size + 1, 0, none⟩ = some (.slice bo n2 cb) ∧ Hid (Below wr.heap.size wr w')) (first | exact ⟨p1, p2, hb1⟩ | exact ⟨f1, f2, hd0⟩)
          (first | (go_at_call_of 77 (Value.slice ao n1 ca); refine (KA.out _ ?_).mono ?_; (first | exact hb1.out | exact hd0.out); rintro e w1 ⟨rfl, hb1, p1, p2⟩) | (go_at_call_of 77 (Value.slice bo n2 cb); refine (KB.out _ ?_).mono ?_; (first | exact hb1.out | exact hd0.out); rintro e w1 ⟨rfl, hb1, p1, p2⟩))
        have hO1 := Lib.hid ((hO.out.below hb1.out).below (below_one w1 (.cells #[.int .u32 (u : Int)] 49)))
        have hs1 : W0.heap.size ≤ w1.heap.size := by have := hb1.out.size; omega
        have hll : (lst (dig S) k).length ≤ 1000000 := by rw [lst_length]; omega
        have hB1 : Hid (Below W0.heap.size W0 (w1.alloc (.cells #[.int .u32 (u : Int)] 49))) := Lib.hid (hB.out.trans ((hb1.out.mono (by omega)).alloc hs1 _))
        clear q1 q2 KA KB f1 f2 f3 f4 p1 p2
        go_wp2_with (at_builtin; go_loud (refine wpList_push _ rfl _ _ rfl W0.heap.size _ (lst (dig S) k) u rfl hO1.out ⟨w1.heap.size, 0, none⟩ _ rfl (box1a _ _ _) (by omega) hll (by simp; omega) ?_; intro v2 w2 hv2 hb2))
        rw [← HD.out, ← lst_succ] at hv2
        have HV := Lib.hid hv2
        have HB2 := Lib.hid (hB1.out.trans hb2)
        clear hv2 hb2
        go_roundw
        case rel => exact ⟨k + 1, by go_num, by rw [HC.out], by omega, HV, HB2⟩
        case measure => simp [RowKit.intOf]; omega
    · have t1 : decide (k < n1) = false := decide_eq_false (by omega)
      have t2 : decide (k < n2) = false := decide_eq_false (by omega)
      have hc0 : car N M k = 0 := by omega
      have t3 : decide (0 < car N M k) = false := decide_eq_false (by omega)
      have hnk := hn4.out k (by omega) (by omega)
      have HSB : S < Bp k := by rw [← HS.out]; exact car_done (HBN.out k hnk).1 (HBN.out k hnk).2 hc0
      rw [hc0]
      clear t3 c0 hc0
      go_wp2_with fail
      refine (rTrim_c u5 _ wr hO.out.sl).mono ?_
      rw [lst_fill, fill_val HSB]
      rintro e w3 ⟨⟨v3, hv3, rfl⟩, hb3⟩
      have HB3 : Below W0.heap.size W0 w3 := hB.out.trans (hb3.mono hB.out.size)
      obtain ⟨x1, x2, x3, x4⟩ := x0.out
      have r3 := (HB3.cell (p := ⟨w.heap.size + 1 + 1, 0, none⟩) (by dsimp only; omega)).trans x3
      have r4 := (HB3.frozen (p := ⟨w.heap.size + 1 + 1, 0, none⟩) (by dsimp only; omega)).trans x4
      have z3 : w.heap.size + 1 + 1 < w3.heap.size := by have := HB3.size; omega
      have hO3 := hO.out.below hb3
      rw [lst_fill] at hO3
      have hN : ∀ Y : Value, Nt (w3.setCell ⟨w.heap.size + 1 + 1, 0, none⟩ Y) v3 S := fun Y => hv3.out.1 _ (hO3.set (a := ⟨w.heap.size + 1 + 1, 0, none⟩) (by dsimp only; omega) Y).sl
      obtain ⟨a3, c3, rfl, _⟩ := (hN (.slice none 0 0)).open
      have hBf : Below w.heap.size w (w3.setCell ⟨w.heap.size + 1 + 1, 0, none⟩ (.slice a3 (len S) c3)) := (B0.out.trans (HB3.mono (by omega))).setCell (by dsimp only; omega) _
      have HN := Lib.hid (hN (.slice a3 (len S) c3))
      have HBF := Lib.hid hBf
      clear hN hBf HB3 hb3 hv3 hO3 x1 x2 x3 x4 f1 f2 f3 f4
      go_wp2
      exact bodyPost_ret (v := .agg #[.slice a3 (len S) c3]) (by simp [results, Try.results41, go_sem, r3]) rfl ⟨⟨a3, c3, rfl, Lib.hid HN.out⟩, HBF.out⟩

set_option maxRecDepth 100000 in
set_option maxHeartbeats 2000000 in
theorem rMinus_w (a b : Value) (N M S : Nat) (w : World) (hS : N - M = S) (ha : Nt w a N) (hb : Nt w b M) (h1 : len N ≤ 10000) (h2 : len M ≤ 10000) (hl : M ≤ N) :
    Calls Try.prog 63 #[.agg #[a], .agg #[b]] w fun e w' => RetV S e w' ∧ Below w.heap.size w w' := by
  have WA := Lib.hid (fun i Wr h0 hi hp hq k1 k2 W hW => rword_two a a b (digs N) i w.heap.size (w.heap.size + 1) w Wr ha h0 hi hp hq k1 k2 W hW)
  have WB := Lib.hid (fun i Wr h0 hi hp hq k1 k2 W hW => rword_two b a b (digs M) i w.heap.size (w.heap.size + 1) w Wr hb h0 hi hp hq k1 k2 W hW)
  obtain ⟨ao, ca, rfl, a1, a2, _⟩ := ha.open
  obtain ⟨bo, cb, rfl, b1, b2, _⟩ := hb.open
  have l1 : (len N : Int) ≤ 10000 := by omega
  have l2 : (len M : Int) ≤ 10000 := by omega
  have HS := Lib.hid hS
  have hlm := len_mono hl
  have HL := Lib.hid hl
  have HSB0 : Hid (S < Bp (len N)) := Lib.hid (Nat.lt_of_le_of_lt (by rw [← hS]; exact Nat.sub_le _ _) (lt_Bp_len N))
  clear ha hb h1 hl hS
  generalize len N = n1 at *
  generalize len M = n2 at *
  obtain ⟨W0, hW0⟩ : ∃ W0, W0 = ((w.alloc (.cells #[.slice ao (n1) ca] 24)).alloc (.cells #[.slice bo (n2) cb] 24)).alloc (.cells #[.slice none 0 0] 24) := ⟨_, rfl⟩
  have B0 : Hid (Below w.heap.size w W0) := Lib.hid (by rw [hW0]; exact below_three _ _ _ _)
  have z0 : W0.heap.size = w.heap.size + 3 := by rw [hW0]; simp
  have x0 : Hid (W0.cell? ⟨w.heap.size, 0, none⟩ = some (.slice ao (n1) ca) ∧ W0.cell? ⟨w.heap.size + 1, 0, none⟩ = some (.slice bo (n2) cb) ∧ W0.cell? ⟨w.heap.size + 1 + 1, 0, none⟩ = some (.slice none 0 0) ∧ W0.frozen? ⟨w.heap.size + 1 + 1, 0, none⟩ = false) := Lib.hid (by rw [hW0]; exact box3 ..)
  go_enter Try.func63, Try.ntmps63
  go_wp2
  rw [← hW0]
  clear hW0
  go_loopw [7, 5, 6, 8] (fun s7 s5 s6 _ wr => ∃ k : Nat, s7 = .int .i64 (k : Int) ∧ s6 = .int .u64 (bor N M k : Nat) ∧ k ≤ n1 ∧ Hid (OwnV wr W0.heap.size s5 (lst (dig S) k)) ∧ Hid (Below W0.heap.size W0 wr)) (fun s7 _ _ _ _ => (n1 - RowKit.intOf s7).toNat)
  case atStart => exact ⟨0, rfl, by rw [bor_zero]; rfl, Nat.zero_le _, Lib.hid (OwnV.nil _ _), Lib.hid (Below.refl _ _)⟩
  case round =>
    obtain ⟨k, rfl, rfl, hk, hO, hB⟩ := hrel
    obtain ⟨x1, x2, x3, x4⟩ := x0.out
    have f1 := (hB.out.cell (p := ⟨w.heap.size, 0, none⟩) (by dsimp only; omega)).trans x1
    have f2 := (hB.out.cell (p := ⟨w.heap.size + 1, 0, none⟩) (by dsimp only; omega)).trans x2
    have f3 := (hB.out.cell (p := ⟨w.heap.size + 1 + 1, 0, none⟩) (by dsimp only; omega)).trans x3
    have f4 := (hB.out.frozen (p := ⟨w.heap.size + 1 + 1, 0, none⟩) (by dsimp only; omega)).trans x4
    have zr : w.heap.size + 3 ≤ wr.heap.size := by have := hB.out.size; omega
    have hBW : Hid (Below w.heap.size w wr) := Lib.hid (B0.out.trans (hB.out.mono (by omega)))
    clear x1 x2 x3 x4
    by_cases c0 : k < n1
    · have CA := WA.out k wr hBW.out (by omega) (by omega) (by omega) f1 f2
      have CB := WB.out k wr hBW.out (by omega) (by omega) (by omega) f1 f2
      rw [dig_digs] at CA CB
      have hxb := dig_lt N k
      have hyb := dig_lt M k
      have hcb := bor_le N M k
      have ed := dig_sub N M k HL.out
      have ec := bor_step N M k
      rw [HS.out] at ed
      have HD := Lib.hid ed
      have HC := Lib.hid ec
      have ht : decide (k < n1) = true := decide_eq_true c0
      clear ed ec
      generalize dig N k = x at *
      generalize dig M k = y at *
      generalize bor N M k = c at *
      have KA := Lib.hid CA
      have KB := Lib.hid CB
      have hd0 : Hid (Below wr.heap.size wr wr.drew) := Lib.hid (below_drewN (Below.refl _ _) 1)
      clear CA CB
      have q1 : IntKind.u64.wrap ((x : Int) + 4294967296) = (x : Int) + 4294967296 := u64_in _ (by omega)
      have q2 : IntKind.u64.wrap ((x : Int) + 4294967296 - (y : Int)) = (x : Int) + 4294967296 - (y : Int) := u64_in _ (by omega)
      obtain ⟨s, hs⟩ : ∃ s, s = x + 4294967296 - y - c := ⟨_, rfl⟩
      have q5 : IntKind.u64.wrap ((x : Int) + 4294967296 - (y : Int) - (c : Int)) = (s : Int) := by rw [u64_in _ (by omega)]; omega
      obtain ⟨u, hu⟩ : ∃ u, u = (x + 8589934592 - y - c) % 4294967296 := ⟨_, rfl⟩
      obtain ⟨g, hg⟩ : ∃ g, g = s / 4294967296 := ⟨_, rfl⟩
      have q3 : (s : Int) % 4294967296 = (u : Int) := by omega
      have q4 : (s : Int) / 4294967296 = (g : Int) := by omega
      obtain ⟨c2, hc2⟩ : ∃ c2, c2 = (if x < y + c then 1 else 0 : Nat) := ⟨_, rfl⟩
      have q6 : IntKind.u64.wrap (1 - (g : Int)) = (c2 : Int) := by
        have : g ≤ 1 := by omega
        rw [u64_in _ (by omega), hc2]
        split <;> omega
      have hub : (u : Int) < 4294967296 := by omega
      have hsb : (s : Int) ≤ 8589934592 := by omega
      rw [← hu] at HD
      rw [← hc2] at HC
      clear hu hc2 hs hg
      skip
      go_wp2_with fail
      go_region_held3 (fun w' => w'.cell? ⟨w.heap.size, 0, none⟩ = some (.slice ao n1 ca) ∧ w'.cell? ⟨w.heap.size + 1, 0, none⟩ = some (.slice bo n2 cb) ∧ Hid (Below wr.heap.size wr w')) (first | exact ⟨p1, p2, hb1⟩ | exact ⟨f1, f2, hd0⟩)
        (first | (go_at_call_of 77 (Value.slice ao n1 ca); refine (KA.out _ ?_).mono ?_; (first | exact hb1.out | exact hd0.out); rintro e w1 ⟨rfl, hb1, p1, p2⟩) | (go_at_call_of 77 (Value.slice bo n2 cb); refine (KB.out _ ?_).mono ?_; (first | exact hb1.out | exact hd0.out); rintro e w1 ⟨rfl, hb1, p1, p2⟩))
      have hO1 := Lib.hid ((hO.out.below hb1.out).below (below_one w1 (.cells #[.int .u32 (u : Int)] 49)))
      have hs1 : W0.heap.size ≤ w1.heap.size := by have := hb1.out.size; omega
      have hll : (lst (dig S) k).length ≤ 1000000 := by rw [lst_length]; omega
      have hB1 : Hid (Below W0.heap.size W0 (w1.alloc (.cells #[.int .u32 (u : Int)] 49))) := Lib.hid (hB.out.trans ((hb1.out.mono (by omega)).alloc hs1 _))
      clear q1 q2 q5 KA KB f1 f2 f3 f4 p1 p2
      go_wp2_with (at_builtin; go_loud (refine wpList_push _ rfl _ _ rfl W0.heap.size _ (lst (dig S) k) u rfl hO1.out ⟨w1.heap.size, 0, none⟩ _ rfl (box1a _ _ _) (by omega) hll (by simp; omega) ?_; intro v2 w2 hv2 hb2))
      rw [← HD.out, ← lst_succ] at hv2
      have HV := Lib.hid hv2
      have HB2 := Lib.hid (hB1.out.trans hb2)
      clear hv2 hb2
      go_roundw
      case rel => exact ⟨k + 1, by go_num, by rw [HC.out], by omega, HV, HB2⟩
      case measure => simp [RowKit.intOf]; omega
    · obtain rfl : n1 = k := by omega
      have ht1 : decide (n1 < n1) = false := decide_eq_false (by omega)
      have HSB := HSB0.out
      go_wp2_with fail
      refine (rTrim_c u5 _ wr hO.out.sl).mono ?_
      rw [lst_fill, fill_val HSB]
      rintro e w3 ⟨⟨v3, hv3, rfl⟩, hb3⟩
      have HB3 : Below W0.heap.size W0 w3 := hB.out.trans (hb3.mono hB.out.size)
      obtain ⟨x1, x2, x3, x4⟩ := x0.out
      have r3 := (HB3.cell (p := ⟨w.heap.size + 1 + 1, 0, none⟩) (by dsimp only; omega)).trans x3
      have r4 := (HB3.frozen (p := ⟨w.heap.size + 1 + 1, 0, none⟩) (by dsimp only; omega)).trans x4
      have z3 : w.heap.size + 1 + 1 < w3.heap.size := by have := HB3.size; omega
      have hO3 := hO.out.below hb3
      rw [lst_fill] at hO3
      have hN : ∀ Y : Value, Nt (w3.setCell ⟨w.heap.size + 1 + 1, 0, none⟩ Y) v3 S := fun Y => hv3.out.1 _ (hO3.set (a := ⟨w.heap.size + 1 + 1, 0, none⟩) (by dsimp only; omega) Y).sl
      obtain ⟨a3, c3, rfl, _⟩ := (hN (.slice none 0 0)).open
      have hBf : Below w.heap.size w (w3.setCell ⟨w.heap.size + 1 + 1, 0, none⟩ (.slice a3 (len S) c3)) := (B0.out.trans (HB3.mono (by omega))).setCell (by dsimp only; omega) _
      have HN := Lib.hid (hN (.slice a3 (len S) c3))
      have HBF := Lib.hid hBf
      clear hN hBf HB3 hb3 hv3 hO3 x1 x2 x3 x4 f1 f2 f3 f4
      go_wp2
      exact bodyPost_ret (v := .agg #[.slice a3 (len S) c3]) (by simp [results, Try.results63, go_sem, r3]) rfl ⟨⟨a3, c3, rfl, Lib.hid HN.out⟩, HBF.out⟩

end Go.Proofs.Ythphmgdmhlimjaa

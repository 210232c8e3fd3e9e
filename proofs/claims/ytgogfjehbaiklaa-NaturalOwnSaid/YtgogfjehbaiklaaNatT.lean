/- awake. -/
import Derived.Test.YtgogfjehbaiklaaNatS
namespace Go.Proofs.Ytgogfjehbaiklaa
open Go.RowKit NatMath
set_option linter.unusedVariables false

theorem Own.nt {w : World} {g : Nat} {l : List Nat} (h : Own w g l) (hw : words l) (hn : normal l) (hl : l.length ≤ 64) (S : Nat) (hS : val l = S) : Nt w (.slice (some ⟨g, 0, none⟩) l.length l.length) S := by
  unfold Nt
  rw [← hS, digs_val hw hn]
  exact h.sl hw (by omega)
theorem len_val {l : List Nat} (hw : words l) (hn : normal l) {S : Nat} (hS : val l = S) : len S = l.length ∧ digs S = l := by
  rw [← hS]; exact ⟨len_of_normal hw hn, digs_val hw hn⟩
theorem Own.lit2 (w : World) (a b : Nat) : Own (w.alloc (.cells #[.int .u32 (a : Int), .int .u32 (b : Int)] 62)) w.heap.size [a, b] := by
  unfold Own
  show (w.heap.push _)[w.heap.size]? = _
  rw [Array.getElem?_push, if_pos rfl]
  rfl
theorem Own.lit4 (w : World) (a b c d : Nat) : Own (w.alloc (.cells #[.int .u32 (a : Int), .int .u32 (b : Int), .int .u32 (c : Int), .int .u32 (d : Int)] 62)) w.heap.size [a, b, c, d] := by
  unfold Own
  show (w.heap.push _)[w.heap.size]? = _
  rw [Array.getElem?_push, if_pos rfl]
  rfl

theorem Own.lit1at (w : World) (a g : Nat) (hg : w.heap.size = g) : Own (w.alloc (.cells #[.int .u32 (a : Int)] 62)) g [a] := by subst hg; exact Own.one w a
theorem Own.lit2at (w : World) (a b g : Nat) (hg : w.heap.size = g) : Own (w.alloc (.cells #[.int .u32 (a : Int), .int .u32 (b : Int)] 62)) g [a, b] := by subst hg; exact Own.lit2 w a b
theorem Own.lit4at (w : World) (a b c d g : Nat) (hg : w.heap.size = g) : Own (w.alloc (.cells #[.int .u32 (a : Int), .int .u32 (b : Int), .int .u32 (c : Int), .int .u32 (d : Int)] 62)) g [a, b, c, d] := by subst hg; exact Own.lit4 w a b c d

/-- the words of the example -/
theorem ex_words : words [4294967295, 4294967295] ∧ normal [4294967295, 4294967295] ∧ words [1, 0, 4294967294, 4294967295] ∧ normal [1, 0, 4294967294, 4294967295] ∧
    words [1410065408, 2] ∧ normal [1410065408, 2] ∧ words [3] ∧ normal [3] ∧ words [3333333333] ∧ normal [3333333333] ∧ words [1] ∧ normal [1] := by
  refine ⟨?_, ?_, ?_, ?_, ?_, ?_, ?_, ?_, ?_, ?_, ?_, ?_⟩ <;> first | (intro u hu; simp at hu; omega) | (right; simp)

set_option maxHeartbeats 400000 in
theorem mul_ex (g : Nat) (w : World) (h : Own w g [4294967295, 4294967295]) :
    Calls Try.prog 13 #[.agg #[.slice (some ⟨g, 0, none⟩) 2 2], .agg #[.slice (some ⟨g, 0, none⟩) 2 2]] w fun e w' =>
      (∃ ao c, e = .returned (.tuple #[.agg #[.slice ao 4 c], .int .i64 0]) ∧ Hid (Sl w' (.slice ao 4 c) [1, 0, 4294967294, 4294967295])) ∧ Below w.heap.size w w' := by
  obtain ⟨k1, k2, k3, k4, _⟩ := ex_words
  have hv1 : val [4294967295, 4294967295] = 18446744073709551615 := by simp [val]
  have hv2 : val [1, 0, 4294967294, 4294967295] = 18446744073709551615 * 18446744073709551615 := by simp [val]
  obtain ⟨l1, _⟩ := len_val k1 k2 hv1
  obtain ⟨l2, d2⟩ := len_val k3 k4 hv2
  have hN := h.nt k1 k2 (by simp) _ hv1
  refine (Mul_ok _ _ _ _ w hN hN (by rw [l1]; simp) (by rw [l1]; simp)).mono ?_
  rintro e w' ⟨⟨_, v, hv, rfl⟩ | ⟨hbig, _⟩, hb⟩
  · have hN := hv.out.1
    obtain ⟨ao, c, rfl, _⟩ := hN.open
    unfold Nt at hN
    rw [d2] at hN
    rw [l2] at hN ⊢
    exact ⟨⟨ao, c, rfl, Lib.hid hN⟩, hb⟩
  · rw [l2] at hbig; simp at hbig

set_option maxHeartbeats 400000 in
theorem div_ex (g h : Nat) (w : World) (hg : Own w g [1410065408, 2]) (hh : Own w h [3]) :
    Calls Try.prog 14 #[.agg #[.slice (some ⟨g, 0, none⟩) 2 2], .agg #[.slice (some ⟨h, 0, none⟩) 1 1]] w fun e w' =>
      (∃ ao c bo d, e = .returned (.tuple #[.agg #[.slice ao 1 c], .agg #[.slice bo 1 d], .int .i64 0]) ∧ Hid (Sl w' (.slice ao 1 c) [3333333333]) ∧ Hid (Sl w' (.slice bo 1 d) [1])) ∧ Below w.heap.size w w' := by
  obtain ⟨_, _, _, _, k1, k2, k3, k4, k5, k6, k7, k8⟩ := ex_words
  have hv1 : val [1410065408, 2] = 10000000000 := by simp [val]
  have hv2 : val [3] = 3 := by simp [val]
  have hv3 : val [3333333333] = 10000000000 / 3 := by simp [val]
  have hv4 : val [1] = 10000000000 % 3 := by simp [val]
  obtain ⟨l1, _⟩ := len_val k1 k2 hv1
  obtain ⟨l2, _⟩ := len_val k3 k4 hv2
  obtain ⟨l3, d3⟩ := len_val k5 k6 hv3
  obtain ⟨l4, d4⟩ := len_val k7 k8 hv4
  refine (Div_short _ _ _ _ w (hg.nt k1 k2 (by simp) _ hv1) (hh.nt k3 k4 (by simp) _ hv2) (by rw [l1]; simp) (by rw [l2]; simp) l2 (by omega)).mono ?_
  rintro e w' ⟨⟨u, v, hv, rfl⟩, hb⟩
  obtain ⟨h1, _, h2, _⟩ := hv.out
  obtain ⟨ao, c, rfl, _⟩ := h1.open
  obtain ⟨bo, d, rfl, _⟩ := h2.open
  unfold Nt at h1 h2
  rw [d3] at h1
  rw [d4] at h2
  rw [l3] at h1 ⊢
  rw [l4] at h2 ⊢
  exact ⟨⟨ao, c, bo, d, rfl, Lib.hid h1, Lib.hid h2⟩, hb⟩

theorem eq_lit (v : Value) (l : List Nat) (g n : Nat) (w : World) (hn : l.length = n) (h : Sl w v l) (ho : Own w g l) (hw : words l) (hl : n ≤ 64) :
    Calls Try.prog 40 #[v, .slice (some ⟨g, 0, none⟩) n n] w fun e w' => e = .returned (.bool true) ∧ Below w.heap.size w w' := by
  subst hn
  have := Equal_c v _ l l w h (ho.sl hw (by omega))
  rwa [show decide (l = l) = true from by simp] at this

set_option maxRecDepth 100000 in
set_option maxHeartbeats 1000000 in
theorem awake_c (w : World) :
    Calls Try.prog 11 #[] w fun e w' => e = .returned (.bool true) ∧ Below w.heap.size w w' := by
  obtain ⟨_, _, k3, _, _, _, _, _, k9, _, k11, _⟩ := ex_words
  go_enter Try.func11, Try.ntmps11
  go_wp2_with fail
  refine (mul_ex w.heap.size _ ((Own.lit2 w 4294967295 4294967295).alloc _)).mono ?_
  rintro e w2 ⟨⟨ao, c, rfl, hp⟩, hb2⟩
  have B2 : Hid (Below w.heap.size w w2) := Lib.hid ((below_two w _ _).trans (hb2.mono (by simp; omega)))
  have z2 : w.heap.size ≤ w2.heap.size := B2.out.size
  clear hb2
  go_wp2_with fail
  refine (div_ex (w2.heap.size + 1) (w2.heap.size + 1 + 1) _ ((Own.lit2at (w2.alloc _) 1410065408 2 _ (by simp)).alloc _) (Own.lit1at _ 3 _ (by simp))).mono ?_
  rintro e w4 ⟨⟨a4, c4, b4, d4, rfl, hq, hr⟩, hb4⟩
  have B4 : Hid (Below w2.heap.size w2 w4) := Lib.hid ((below_three w2 _ _ _).trans (hb4.mono (by simp; omega)))
  have z4 : w2.heap.size + 3 ≤ w4.heap.size := by have := hb4.size; simp at this; omega
  have p4 : w4.cell? ⟨w2.heap.size, 0, none⟩ = some (.slice ao 4 c) := (hb4.cell (p := ⟨w2.heap.size, 0, none⟩) (by simp; omega)).trans (((below_two (w2.alloc _) _ _).cell (by simp)).trans (box1a w2 _ _))
  have hp4 : Hid (Sl w4 (.slice ao 4 c) [1, 0, 4294967294, 4294967295]) := Lib.hid (hp.out.below' B4.out)
  have zz4 : w2.heap.size < w4.heap.size := by omega
  clear hb4
  go_wp2_with fail
  refine (eq_lit (.slice ao 4 c) _ (w4.heap.size + 1 + 1) 4 _ rfl (hp4.out.below' (below_three w4 _ _ _)) (Own.lit4at _ 1 0 4294967294 4294967295 _ (by simp)) k3 (by omega)).mono ?_
  rintro e w5 ⟨rfl, hb5⟩
  have z5 : w4.heap.size + 2 < w5.heap.size := by have := hb5.size; simp at this; omega
  have q5 : w5.cell? ⟨w4.heap.size, 0, none⟩ = some (.slice a4 1 c4) := (hb5.cell (p := ⟨w4.heap.size, 0, none⟩) (by simp; omega)).trans (((below_two (w4.alloc _) _ _).cell (by simp)).trans (box1a w4 _ _))
  have r5 : w5.cell? ⟨w4.heap.size + 1, 0, none⟩ = some (.slice b4 1 d4) := (hb5.cell (p := ⟨w4.heap.size + 1, 0, none⟩) (by simp)).trans (((below_one ((w4.alloc _).alloc _) _).cell (by simp)).trans (box2b w4 _ _ _))
  have B5 : Hid (Below w4.heap.size w4 w5) := Lib.hid ((below_three w4 _ _ _).trans (hb5.mono (by simp; omega)))
  have hq5 := Lib.hid (hq.out.below' B5.out)
  have hr5 := Lib.hid (hr.out.below' B5.out)
  have zz5 : w4.heap.size < w5.heap.size := by omega
  have zz6 : w4.heap.size + 1 < w5.heap.size := by omega
  clear hb5 p4
  go_wp2_with fail
  refine (eq_lit (.slice a4 1 c4) _ w5.heap.size 1 _ rfl (hq5.out.below' (below_one w5 _)) (Own.lit1at _ 3333333333 _ rfl) k9 (by omega)).mono ?_
  rintro e w6 ⟨rfl, hb6⟩
  have z6 : w5.heap.size < w6.heap.size := by have := hb6.size; simp at this; omega
  have B6 : Hid (Below w5.heap.size w5 w6) := Lib.hid ((below_one w5 _).trans (hb6.mono (by simp)))
  have r6 := (B6.out.cell (p := ⟨w4.heap.size + 1, 0, none⟩) (by dsimp only; omega)).trans r5
  have hr6 := Lib.hid (hr5.out.below' B6.out)
  have zz7 : w4.heap.size + 1 < w6.heap.size := by omega
  clear hb6 q5 r5
  go_wp2_with fail
  refine (eq_lit (.slice b4 1 d4) _ w6.heap.size 1 _ rfl (hr6.out.below' (below_one w6 _)) (Own.lit1at _ 1 _ rfl) k11 (by omega)).mono ?_
  rintro e w7 ⟨rfl, hb7⟩
  have B7 : Hid (Below w6.heap.size w6 w7) := Lib.hid ((below_one w6 _).trans (hb7.mono (by simp)))
  have hfin : Hid (Below w.heap.size w w7) := Lib.hid (B2.out.trans ((B4.out.trans ((B5.out.trans ((B6.out.trans (B7.out.mono (by omega))).mono (by omega))).mono (by omega))).mono z2))
  clear hb7
  go_wp2
  go_ret
  exact ⟨rfl, hfin.out⟩
end Go.Proofs.Ytgogfjehbaiklaa

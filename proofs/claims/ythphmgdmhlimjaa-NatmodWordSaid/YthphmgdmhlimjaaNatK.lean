/- Div but for the long division. -/
import Derived.Test.YthphmgdmhlimjaaNatJ
import Derived.Deep.RegionWith
namespace Go.Proofs.Ythphmgdmhlimjaa
open Go.RowKit NatMath
set_option linter.unusedVariables false

theorem below_four (w : World) (o p q r : Obj) : Below w.heap.size w ((((w.alloc o).alloc p).alloc q).alloc r) := (below_three w o p q).alloc (by simp; omega) _
theorem box4 (w : World) (a b c d : Value) (T U V X : TypeId) :
    ((((w.alloc (.cells #[a] T)).alloc (.cells #[b] U)).alloc (.cells #[c] V)).alloc (.cells #[d] X)).cell? ⟨w.heap.size, 0, none⟩ = some a ∧
    ((((w.alloc (.cells #[a] T)).alloc (.cells #[b] U)).alloc (.cells #[c] V)).alloc (.cells #[d] X)).cell? ⟨w.heap.size + 1, 0, none⟩ = some b ∧
    ((((w.alloc (.cells #[a] T)).alloc (.cells #[b] U)).alloc (.cells #[c] V)).alloc (.cells #[d] X)).cell? ⟨w.heap.size + 1 + 1, 0, none⟩ = some c ∧
    ((((w.alloc (.cells #[a] T)).alloc (.cells #[b] U)).alloc (.cells #[c] V)).alloc (.cells #[d] X)).frozen? ⟨w.heap.size + 1 + 1, 0, none⟩ = false ∧
    ((((w.alloc (.cells #[a] T)).alloc (.cells #[b] U)).alloc (.cells #[c] V)).alloc (.cells #[d] X)).cell? ⟨w.heap.size + 1 + 1 + 1, 0, none⟩ = some d ∧
    ((((w.alloc (.cells #[a] T)).alloc (.cells #[b] U)).alloc (.cells #[c] V)).alloc (.cells #[d] X)).frozen? ⟨w.heap.size + 1 + 1 + 1, 0, none⟩ = false := by
  have e3 : (((w.alloc (.cells #[a] T)).alloc (.cells #[b] U)).alloc (.cells #[c] V)).heap.size = w.heap.size + 1 + 1 + 1 := by simp
  obtain ⟨h1, h2, h3, h4⟩ := box3 w a b c T U V
  refine ⟨?_, ?_, ?_, ?_, ?_, ?_⟩
  · exact (World.cell?_alloc_old _ _ _ (by simp; omega)).trans h1
  · exact (World.cell?_alloc_old _ _ _ (by simp)).trans h2
  · exact (World.cell?_alloc_old _ _ _ (by simp)).trans h3
  · exact (World.frozen?_alloc_old _ _ _ (by simp)).trans h4
  · rw [← e3]; exact box1a _ d X
  · rw [← e3]; exact box1f _ d X

/-- two numbers and no error -/
def RetNN (P : World → Value → Value → Prop) (e : Ending) (w' : World) : Prop := ∃ u v : Value, Hid (P w' u v) ∧ e = .returned (.tuple #[.agg #[u], .agg #[v], .int .i64 0])
def errNN (c : Int) : Ending := .returned (.tuple #[.agg #[.slice none 0 0], .agg #[.slice none 0 0], .int .i64 c])

theorem RetNN.old {S T n : Nat} {e : Ending} {w' : World} (h : RetNN (fun w' u v => NtU w' u S ∧ Fr n u ∧ NtU w' v T ∧ Fr n v) e w') : RetNN (fun w' u v => Nt w' u S ∧ Fr n u ∧ Nt w' v T ∧ Fr n v) e w' := by
  obtain ⟨u, v, hv, he⟩ := h
  exact ⟨u, v, Lib.hid ⟨hv.out.1.1, hv.out.2.1, hv.out.2.2.1.1, hv.out.2.2.2⟩, he⟩

theorem Fr.nil (n : Nat) : Fr n (.slice none 0 0) := by intro a k c e; simp at e
theorem Fr.mono {n m : Nat} {v : Value} (h : Fr n v) (hm : m ≤ n) : Fr m v := fun a k c e => Nat.le_trans hm (h a k c e)

/-- the two results' cells, in a world behind w -/
def Boxes (w W : World) : Prop := Below w.heap.size w W ∧ w.heap.size + 3 < W.heap.size ∧
  W.cell? ⟨w.heap.size + 1 + 1, 0, none⟩ = some (.slice none 0 0) ∧ W.frozen? ⟨w.heap.size + 1 + 1, 0, none⟩ = false ∧
  W.cell? ⟨w.heap.size + 1 + 1 + 1, 0, none⟩ = some (.slice none 0 0) ∧ W.frozen? ⟨w.heap.size + 1 + 1 + 1, 0, none⟩ = false
theorem Boxes.on {w W V : World} (h : Boxes w W) (hb : Below W.heap.size W V) : Boxes w V := by
  obtain ⟨h1, h2, h3, h4, h5, h6⟩ := h
  refine ⟨h1.trans (hb.mono h1.size), Nat.lt_of_lt_of_le h2 hb.size, ?_, ?_, ?_, ?_⟩
  · exact (hb.cell (by dsimp only; omega)).trans h3
  · exact (hb.frozen (by dsimp only; omega)).trans h4
  · exact (hb.cell (by dsimp only; omega)).trans h5
  · exact (hb.frozen (by dsimp only; omega)).trans h6
theorem Boxes.drew {w W : World} (h : Boxes w W) : Boxes w W.drew := h.on ⟨rfl, rfl, rfl, Nat.le_refl _, fun _ _ => rfl⟩
theorem Boxes.again {w W : World} (h : Boxes w W) : Boxes w (W.setCell ⟨w.heap.size + 1 + 1, 0, none⟩ (.slice none 0 0)) := by
  obtain ⟨h1, h2, h3, h4, h5, h6⟩ := h
  refine ⟨h1.setCell (by dsimp only; omega) _, by simpa using h2, World.cell?_setCell_same' _ _ _ (by rw [h3]; rfl), (World.frozen?_setCell _ _ _ _).trans h4, ?_, (World.frozen?_setCell _ _ _ _).trans h6⟩
  rw [World.cell?_setCell_other _ _ _ _ (by simp)]; exact h5

theorem Clone_boxes (a : Value) (N : Nat) (w W : World) (ha : Nt w a N) (hN : len N ≤ 1000000) (hB : Boxes w W) :
    Calls Try.prog 64 #[a] W fun e w' => ∃ ao c, e = .returned (.slice ao (len N) c) ∧ Hid (NtU w' (.slice ao (len N) c) N) ∧ Hid (Fr (w.heap.size + 4) (.slice ao (len N) c)) ∧ Hid (Boxes w w') := by
  refine (Clone_cU a N W (ha.below' hB.1) hN).mono ?_
  rintro e w' ⟨⟨v, hv, rfl⟩, hb⟩
  have h1 := hv.out.1
  obtain ⟨ao, c, rfl, _⟩ := h1.open
  exact ⟨ao, c, rfl, Lib.hid h1, Lib.hid (fun a k c e => Nat.le_trans hB.2.1 (hv.out.2 a k c e)), Lib.hid (hB.on hb)⟩

set_option maxRecDepth 100000 in
set_option maxHeartbeats 1000000 in
theorem Div_smallU (a b : Value) (N M : Nat) (w : World) (ha : Nt w a N) (hb : Nt w b M) (h1 : len N ≤ 64) (h2 : len M ≤ 64) (hl : N < M) (h0 : M ≠ 0) :
    Calls Try.prog 32 #[.agg #[a], .agg #[b]] w fun e w' => RetNN (fun w' u v => NtU w' u 0 ∧ Fr w.heap.size u ∧ NtU w' v N ∧ Fr w.heap.size v) e w' ∧ Below w.heap.size w w' := by
  have c1 := fun w h => Valid_c a (digs N) w h
  have c2 := fun w h => Valid_c b (digs M) w h
  have c3 := fun w h1 h2 => compare_c a b N M w h1 h2
  have c4 := fun W h => Clone_boxes a N w W ha (by omega) h
  rw [vld_digs, decide_eq_true h1] at c1
  rw [vld_digs, decide_eq_true h2] at c2
  have C1 := Lib.hid c1
  have C2 := Lib.hid c2
  have C3 := Lib.hid c3
  have C4 := Lib.hid c4
  have HA := Lib.hid ha
  have HB := Lib.hid hb
  have hcmp : decide (cmp N M < 0) = true := decide_eq_true (by unfold cmp; rw [if_pos hl]; omega)
  have hm0 : len M ≠ 0 := fun e => h0 (len_eq_zero.1 e)
  have hmz : ((len M : Int) == 0) = false := by simp; omega
  obtain ⟨bo, cb, rfl, b1, b2, _⟩ := hb.open
  clear c1 c2 c3 c4 ha hb h1 h2 hl h0
  generalize cmp N M = R at *
  go_enter Try.func32, Try.ntmps32
  go_wp2_with fail
  refine (C1.out _ (HA.out.below' (below_four _ _ _ _ _))).mono ?_; rintro e w1 ⟨rfl, hb1⟩
  have z1 : w.heap.size + 3 < w1.heap.size := by have := hb1.size; simp at this; omega
  have B1 : Hid (Below w.heap.size w w1) := Lib.hid ((below_four _ _ _ _ _).trans (hb1.mono (by simp; omega)))
  obtain ⟨x1, x2, x3, x4, x5, x6⟩ := box4 w a (.slice bo (len M) cb) (.slice none 0 0) (.slice none 0 0) 24 24 24 24
  have f1 := (hb1.cell (p := ⟨w.heap.size, 0, none⟩) (by simp; omega)).trans x1
  have f2 := (hb1.cell (p := ⟨w.heap.size + 1, 0, none⟩) (by simp)).trans x2
  have f3 := (hb1.cell (p := ⟨w.heap.size + 1 + 1, 0, none⟩) (by simp)).trans x3
  have f4 := (hb1.frozen (p := ⟨w.heap.size + 1 + 1, 0, none⟩) (by simp)).trans x4
  have f5 := (hb1.cell (p := ⟨w.heap.size + 1 + 1 + 1, 0, none⟩) (by simp)).trans x5
  have f6 := (hb1.frozen (p := ⟨w.heap.size + 1 + 1 + 1, 0, none⟩) (by simp)).trans x6
  clear x1 x2 x3 x4 x5 x6 hb1
  go_wp2_with fail
  refine (C2.out _ (HB.out.below' B1.out)).mono ?_; rintro e w2 ⟨rfl, hb2⟩
  have z2 : w.heap.size + 3 < w2.heap.size := by have := hb2.size; omega
  have B2 : Hid (Below w.heap.size w w2) := Lib.hid (B1.out.trans (hb2.mono (by omega)))
  have g1 := (hb2.cell (p := ⟨w.heap.size, 0, none⟩) (by dsimp only; omega)).trans f1
  have g2 := (hb2.cell (p := ⟨w.heap.size + 1, 0, none⟩) (by dsimp only; omega)).trans f2
  have g3 := (hb2.cell (p := ⟨w.heap.size + 1 + 1, 0, none⟩) (by dsimp only; omega)).trans f3
  have g4 := (hb2.frozen (p := ⟨w.heap.size + 1 + 1, 0, none⟩) (by dsimp only; omega)).trans f4
  have g5 := (hb2.cell (p := ⟨w.heap.size + 1 + 1 + 1, 0, none⟩) (by dsimp only; omega)).trans f5
  have g6 := (hb2.frozen (p := ⟨w.heap.size + 1 + 1 + 1, 0, none⟩) (by dsimp only; omega)).trans f6
  clear hb2 f1 f2 f3 f4 f5 f6 z1 B1 C1 C2
  go_wp2_with fail
  refine (C3.out _ (HA.out.below' B2.out) (HB.out.below' B2.out)).mono ?_; rintro e w3 ⟨rfl, hq⟩
  have hb3 := hq.below w2.heap.size
  have z3 : w.heap.size + 3 < w3.heap.size := by have := hb3.size; omega
  have B3 : Hid (Below w.heap.size w w3) := Lib.hid (B2.out.trans (hb3.mono (by omega)))
  have f1 := (hb3.cell (p := ⟨w.heap.size, 0, none⟩) (by dsimp only; omega)).trans g1
  have f2 := (hb3.cell (p := ⟨w.heap.size + 1, 0, none⟩) (by dsimp only; omega)).trans g2
  have f3 := (hb3.cell (p := ⟨w.heap.size + 1 + 1, 0, none⟩) (by dsimp only; omega)).trans g3
  have f4 := (hb3.frozen (p := ⟨w.heap.size + 1 + 1, 0, none⟩) (by dsimp only; omega)).trans g4
  have f5 := (hb3.cell (p := ⟨w.heap.size + 1 + 1 + 1, 0, none⟩) (by dsimp only; omega)).trans g5
  have f6 := (hb3.frozen (p := ⟨w.heap.size + 1 + 1 + 1, 0, none⟩) (by dsimp only; omega)).trans g6
  clear hb3 hq g1 g2 g3 g4 g5 g6 z2 B2 C3
  go_wp2_with fail
  have FD : Boxes w w3 := ⟨B3.out, z3, f3, f4, f5, f6⟩
  have FH := Lib.hid FD
  clear FD
  go_region_with (go_at_call 64; refine (C4.out _ (by first | exact FH.out.drew | exact FH.out.drew.again)).mono ?_; rintro e w4 ⟨ao, c4, rfl, hv4, hf4, u⟩; obtain ⟨u1, u2, u3, u4, u5, u6⟩ := u.out)
  all_goals
    clear f1 f2 f3 f4 f5 f6
    go_wp2
    refine bodyPost_ret (v := .tuple #[.agg #[.slice none 0 0], .agg #[.slice ao (len N) c4], .int .i64 0]) (by simp [results, Try.results32, go_sem, u3, u5]) rfl ⟨⟨_, _, Lib.hid ⟨NtU.zero _, Fr.nil _, ?_, (Fr.mono hf4.out (by omega))⟩, rfl⟩, ?_⟩
    · first
      | exact (hv4.out.set hf4.out (by dsimp only; omega) _).set hf4.out (by dsimp only; omega) _
      | exact hv4.out.set hf4.out (by dsimp only; omega) _
    · first
      | exact (u1.setCell (by dsimp only; omega) _).setCell (by dsimp only; omega) _
      | exact u1.setCell (by dsimp only; omega) _

theorem Div_small (a b : Value) (N M : Nat) (w : World) (ha : Nt w a N) (hb : Nt w b M) (h1 : len N ≤ 64) (h2 : len M ≤ 64) (hl : N < M) (h0 : M ≠ 0) :
    Calls Try.prog 32 #[.agg #[a], .agg #[b]] w fun e w' => RetNN (fun w' u v => Nt w' u 0 ∧ Fr w.heap.size u ∧ Nt w' v N ∧ Fr w.heap.size v) e w' ∧ Below w.heap.size w w' :=
  (Div_smallU a b N M w ha hb h1 h2 hl h0).mono fun _ _ h => ⟨h.1.old, h.2⟩

set_option maxRecDepth 100000 in
set_option maxHeartbeats 2000000 in
theorem Div_zero (a b : Value) (N M : Nat) (w : World) (ha : Nt w a N) (hb : Nt w b M) (h1 : len N ≤ 64) (h2 : len M ≤ 64) (h0 : M = 0) :
    Calls Try.prog 32 #[.agg #[a], .agg #[b]] w fun e w' => e = errNN 10 ∧ Below w.heap.size w w' := by
  have c1 := fun w h => Valid_c a (digs N) w h
  have c2 := fun w h => Valid_c b (digs M) w h
  rw [vld_digs, decide_eq_true h1] at c1
  rw [vld_digs, decide_eq_true h2] at c2
  have C1 := Lib.hid c1
  have C2 := Lib.hid c2
  have HA := Lib.hid ha
  have HB := Lib.hid hb
  obtain ⟨bo, cb, rfl, b1, b2, _⟩ := hb.open
  have hmz : ((len M : Int) == 0) = true := by rw [h0, len_zero]; rfl
  clear c1 c2 ha hb h1 h2 h0
  go_enter Try.func32, Try.ntmps32
  go_wp2_with fail
  refine (C1.out _ (HA.out.below' (below_four _ _ _ _ _))).mono ?_; rintro e w1 ⟨rfl, hb1⟩
  have z1 : w.heap.size + 3 < w1.heap.size := by have := hb1.size; simp at this; omega
  have B1 : Hid (Below w.heap.size w w1) := Lib.hid ((below_four _ _ _ _ _).trans (hb1.mono (by simp; omega)))
  obtain ⟨x1, x2, x3, x4, x5, x6⟩ := box4 w a (.slice bo (len M) cb) (.slice none 0 0) (.slice none 0 0) 24 24 24 24
  have f1 := (hb1.cell (p := ⟨w.heap.size, 0, none⟩) (by simp; omega)).trans x1
  have f2 := (hb1.cell (p := ⟨w.heap.size + 1, 0, none⟩) (by simp)).trans x2
  have f3 := (hb1.cell (p := ⟨w.heap.size + 1 + 1, 0, none⟩) (by simp)).trans x3
  have f4 := (hb1.frozen (p := ⟨w.heap.size + 1 + 1, 0, none⟩) (by simp)).trans x4
  have f5 := (hb1.cell (p := ⟨w.heap.size + 1 + 1 + 1, 0, none⟩) (by simp)).trans x5
  have f6 := (hb1.frozen (p := ⟨w.heap.size + 1 + 1 + 1, 0, none⟩) (by simp)).trans x6
  clear x1 x2 x3 x4 x5 x6 hb1
  go_wp2_with fail
  refine (C2.out _ (HB.out.below' B1.out)).mono ?_; rintro e w2 ⟨rfl, hb2⟩
  have z2 : w.heap.size + 3 < w2.heap.size := by have := hb2.size; omega
  have B2 : Hid (Below w.heap.size w w2) := Lib.hid (B1.out.trans (hb2.mono (by omega)))
  have g1 := (hb2.cell (p := ⟨w.heap.size, 0, none⟩) (by dsimp only; omega)).trans f1
  have g2 := (hb2.cell (p := ⟨w.heap.size + 1, 0, none⟩) (by dsimp only; omega)).trans f2
  have g3 := (hb2.cell (p := ⟨w.heap.size + 1 + 1, 0, none⟩) (by dsimp only; omega)).trans f3
  have g4 := (hb2.frozen (p := ⟨w.heap.size + 1 + 1, 0, none⟩) (by dsimp only; omega)).trans f4
  have g5 := (hb2.cell (p := ⟨w.heap.size + 1 + 1 + 1, 0, none⟩) (by dsimp only; omega)).trans f5
  have g6 := (hb2.frozen (p := ⟨w.heap.size + 1 + 1 + 1, 0, none⟩) (by dsimp only; omega)).trans f6
  clear hb2 f1 f2 f3 f4 f5 f6 z1 B1 C1 C2
  go_wp2_with fail
  go_region
  have B4 : Below w.heap.size w ((w2.setCell ⟨w.heap.size + 1 + 1, 0, none⟩ (.slice none 0 0)).setCell ⟨w.heap.size + 1 + 1 + 1, 0, none⟩ (.slice none 0 0)).drew := below_drewN ((B2.out.setCell (by dsimp only; omega) _).setCell (by dsimp only; omega) _) 1
  go_wp2
  exact bodyPost_ret (v := .tuple #[.agg #[.slice none 0 0], .agg #[.slice none 0 0], .int .i64 10]) (by simp [results, Try.results32, go_sem, g3, g5]) rfl ⟨rfl, B4⟩

theorem trimmed_boxes (g : Nat) (l : List Nat) (w W : World) (h : Own W g l) (hw : words l) (m : Nat) (hm : l.length = m) (hl : m ≤ 9223372036854775807) (hn : w.heap.size + 3 < g) (hB : Boxes w W) :
    Calls Try.prog 69 #[.slice (some ⟨g, 0, none⟩) m m] W fun e w' => ∃ ao c, e = .returned (.agg #[.slice ao (len (val l)) c]) ∧ Hid (NtU w' (.slice ao (len (val l)) c) (val l)) ∧ Hid (Fr (w.heap.size + 4) (.slice ao (len (val l)) c)) ∧ Hid (Boxes w w') ∧ Hid (Below W.heap.size W w') := by
  refine (trimmed_ownU g l W h hw m hm hl (w.heap.size + 4) hn).mono ?_
  rintro e w' ⟨⟨v, hv, rfl⟩, hb⟩
  have h1 := hv.out.1 _ (h.below' hb)
  obtain ⟨ao, c, rfl, _⟩ := h1.open
  exact ⟨ao, c, rfl, Lib.hid h1, Lib.hid hv.out.2, Lib.hid (hB.on hb), Lib.hid hb⟩

theorem Own.one (w : World) (a : Nat) : Own (w.alloc (.cells #[.int .u32 (a : Int)] 49)) w.heap.size [a] := by
  unfold Own
  show (w.heap.push _)[w.heap.size]? = _
  rw [Array.getElem?_push, if_pos rfl]
  rfl

theorem short_boxes (a : Value) (N d : Nat) (w W : World) (ha : Nt w a N) (h1 : len N ≤ 64) (hd : 0 < d) (hd2 : d < 4294967296) (hB : Boxes w W) :
    Calls Try.prog 68 #[a, .int .u32 d] W fun e w' => ∃ g, e = .returned (.tuple #[.slice (some ⟨g, 0, none⟩) (len N) (len N), .int .u32 (N % d : Nat)]) ∧ Hid (Own w' g (fill (dig (N / d)) (len N) (len N))) ∧ w.heap.size + 3 < g ∧ Hid (Boxes w w') := by
  refine (short_c a N d W (ha.below' hB.1) h1 hd hd2).mono ?_
  rintro e w' ⟨g, rfl, hO, hg, hb⟩
  exact ⟨g, rfl, hO, Nat.lt_of_lt_of_le hB.2.1 hg, Lib.hid (hB.on hb)⟩

set_option maxRecDepth 100000 in
set_option maxHeartbeats 2000000 in
theorem Div_shortU (a b : Value) (N M : Nat) (w : World) (ha : Nt w a N) (hb : Nt w b M) (h1 : len N ≤ 64) (h2 : len M ≤ 64) (h0 : len M = 1) (hl : M ≤ N) :
    Calls Try.prog 32 #[.agg #[a], .agg #[b]] w fun e w' => RetNN (fun w' u v => NtU w' u (N / M) ∧ Fr w.heap.size u ∧ NtU w' v (N % M) ∧ Fr w.heap.size v) e w' ∧ Below w.heap.size w w' := by
  have c1 := fun w h => Valid_c a (digs N) w h
  have c2 := fun w h => Valid_c b (digs M) w h
  have c3 := fun w h1 h2 => compare_c a b N M w h1 h2
  rw [vld_digs, decide_eq_true h1] at c1
  rw [vld_digs, decide_eq_true h2] at c2
  have C1 := Lib.hid c1
  have C2 := Lib.hid c2
  have C3 := Lib.hid c3
  have HA := Lib.hid ha
  have HB := Lib.hid hb
  have hM0 : M ≠ 0 := fun e => by rw [e, len_zero] at h0; omega
  have hM32 : M < 4294967296 := by have := lt_Bp_len M; rw [h0, Bp_one] at this; exact this
  obtain ⟨r, hr⟩ : ∃ r, r = N % M := ⟨_, rfl⟩
  have c4 := fun W h => short_boxes a N M w W ha h1 (by omega) hM32 h
  rw [← hr] at c4 ⊢
  have C4 := Lib.hid c4
  have hcmp : decide (cmp N M < 0) = false := decide_eq_false (by unfold cmp; rw [if_neg (by omega)]; split <;> omega)
  obtain ⟨bo, cb, rfl, b1, b2, hbc⟩ := hb.open
  obtain ⟨bb, boff, rfl, hbb, hbc2⟩ := hbc hM0
  have hbc3 := hbc2 0 (by omega)
  rw [Nat.add_zero] at hbc3
  have hd0 : dig M 0 = M := by rw [dig_zero]; omega
  rw [hd0] at hbc3
  rw [h0] at *
  have hQ : N / M < Bp (len N) := Nat.lt_of_le_of_lt (Nat.div_le_self _ _) (lt_Bp_len N)
  have hrm : r < 4294967296 := by have := Nat.mod_lt N (show 0 < M by omega); omega
  have HQ := Lib.hid hQ
  have HN64 := Lib.hid h1
  have HBC := Lib.hid hbc3
  clear c4 hr hM0 h1 h2 h0 hl hbc2 hd0 hQ hbc hbc3
  clear c1 c2 c3 ha hb
  generalize cmp N M = R at *
  go_enter Try.func32, Try.ntmps32
  go_wp2_with fail
  refine (C1.out _ (HA.out.below' (below_four _ _ _ _ _))).mono ?_; rintro e w1 ⟨rfl, hb1⟩
  have z1 : w.heap.size + 3 < w1.heap.size := by have := hb1.size; simp at this; omega
  have B1 : Hid (Below w.heap.size w w1) := Lib.hid ((below_four _ _ _ _ _).trans (hb1.mono (by simp; omega)))
  obtain ⟨x1, x2, x3, x4, x5, x6⟩ := box4 w a (.slice (some ⟨bb, boff, none⟩) 1 cb) (.slice none 0 0) (.slice none 0 0) 24 24 24 24
  have f1 := (hb1.cell (p := ⟨w.heap.size, 0, none⟩) (by simp; omega)).trans x1
  have f2 := (hb1.cell (p := ⟨w.heap.size + 1, 0, none⟩) (by simp)).trans x2
  have f3 := (hb1.cell (p := ⟨w.heap.size + 1 + 1, 0, none⟩) (by simp)).trans x3
  have f4 := (hb1.frozen (p := ⟨w.heap.size + 1 + 1, 0, none⟩) (by simp)).trans x4
  have f5 := (hb1.cell (p := ⟨w.heap.size + 1 + 1 + 1, 0, none⟩) (by simp)).trans x5
  have f6 := (hb1.frozen (p := ⟨w.heap.size + 1 + 1 + 1, 0, none⟩) (by simp)).trans x6
  clear x1 x2 x3 x4 x5 x6 hb1
  go_wp2_with fail
  refine (C2.out _ (HB.out.below' B1.out)).mono ?_; rintro e w2 ⟨rfl, hb2⟩
  have z2 : w.heap.size + 3 < w2.heap.size := by have := hb2.size; omega
  have B2 : Hid (Below w.heap.size w w2) := Lib.hid (B1.out.trans (hb2.mono (by omega)))
  have g1 := (hb2.cell (p := ⟨w.heap.size, 0, none⟩) (by dsimp only; omega)).trans f1
  have g2 := (hb2.cell (p := ⟨w.heap.size + 1, 0, none⟩) (by dsimp only; omega)).trans f2
  have g3 := (hb2.cell (p := ⟨w.heap.size + 1 + 1, 0, none⟩) (by dsimp only; omega)).trans f3
  have g4 := (hb2.frozen (p := ⟨w.heap.size + 1 + 1, 0, none⟩) (by dsimp only; omega)).trans f4
  have g5 := (hb2.cell (p := ⟨w.heap.size + 1 + 1 + 1, 0, none⟩) (by dsimp only; omega)).trans f5
  have g6 := (hb2.frozen (p := ⟨w.heap.size + 1 + 1 + 1, 0, none⟩) (by dsimp only; omega)).trans f6
  clear hb2 f1 f2 f3 f4 f5 f6 z1 B1 C1 C2
  go_wp2_with fail
  refine (C3.out _ (HA.out.below' B2.out) (HB.out.below' B2.out)).mono ?_; rintro e w3 ⟨rfl, hq⟩
  have hb3 := hq.below w2.heap.size
  have z3 : w.heap.size + 3 < w3.heap.size := by have := hb3.size; omega
  have B3 : Hid (Below w.heap.size w w3) := Lib.hid (B2.out.trans (hb3.mono (by omega)))
  have f1 := (hb3.cell (p := ⟨w.heap.size, 0, none⟩) (by dsimp only; omega)).trans g1
  have f2 := (hb3.cell (p := ⟨w.heap.size + 1, 0, none⟩) (by dsimp only; omega)).trans g2
  have f3 := (hb3.cell (p := ⟨w.heap.size + 1 + 1, 0, none⟩) (by dsimp only; omega)).trans g3
  have f4 := (hb3.frozen (p := ⟨w.heap.size + 1 + 1, 0, none⟩) (by dsimp only; omega)).trans g4
  have f5 := (hb3.cell (p := ⟨w.heap.size + 1 + 1 + 1, 0, none⟩) (by dsimp only; omega)).trans g5
  have f6 := (hb3.frozen (p := ⟨w.heap.size + 1 + 1 + 1, 0, none⟩) (by dsimp only; omega)).trans g6
  clear hb3 hq g1 g2 g3 g4 g5 g6 z2 B2 C3
  have FD : Boxes w w3 := ⟨B3.out, z3, f3, f4, f5, f6⟩
  have FH := Lib.hid FD
  have hbd := (B3.out.cell (p := ⟨bb, boff, none⟩) hbb).trans HBC.out
  have hbs : bb < w3.heap.size := by omega
  go_wp2_with fail
  clear FD
  go_region_with (go_at_call 68; refine (C4.out _ FH.out.drew).mono ?_; rintro e w4 ⟨g, rfl, hO, hg, u⟩)
  all_goals
    have hO' := Lib.hid hO.out
    clear f1 f2 f3 f4 f5 f6 hbd hbs C4
    obtain ⟨u1, u2, u3, u4, u5, u6⟩ := u.out
    clear u3 u4 u5 u6
    go_wp2_with fail
    refine (trimmed_boxes g _ w w4 hO.out (fill_words (dig_lt _)) _ (fill_length _ _ _) (by have := HN64.out; omega) (by omega) u.out).mono ?_
    rw [fill_val HQ.out]
    rintro e w5 ⟨a5, c5, rfl, hv5, hf5, ub5, _⟩
    have hs5 : w.heap.size + 3 < w5.heap.size := ub5.out.2.1
    go_wp2_with fail
    refine (trimmed_boxes w5.heap.size [r] w _ (Own.one _ _) (by intro u hu; simp at hu; omega) _ rfl (by simp) hs5 (ub5.out.on (below_one _ _))).mono ?_
    rw [show val [r] = r from by simp [val]]
    rintro e w6 ⟨a6, c6, rfl, hv6, hf6, ub6, hb6⟩
    have hv56 : Hid (NtU w6 (.slice a5 (len (N / M)) c5) (N / M)) := Lib.hid (hv5.out.below' ((below_one _ _).trans (hb6.out.mono (by simp))))
    obtain ⟨u1, u2, u3, u4, u5, u6⟩ := ub6.out
    clear hv5 hb6 hs5
    go_wp2
    refine bodyPost_ret (v := .tuple #[.agg #[.slice a5 (len (N / M)) c5], .agg #[.slice a6 (len r) c6], .int .i64 0]) (by simp [results, Try.results32, go_sem, u3, u5]) rfl ⟨⟨_, _, Lib.hid ⟨?_, (Fr.mono hf5.out (by omega)), ?_, (Fr.mono hf6.out (by omega))⟩, rfl⟩, ?_⟩
    · exact (hv56.out.set hf5.out (by dsimp only; omega) _).set hf5.out (by dsimp only; omega) _
    · exact (hv6.out.set hf6.out (by dsimp only; omega) _).set hf6.out (by dsimp only; omega) _
    · exact (u1.setCell (by dsimp only; omega) _).setCell (by dsimp only; omega) _
theorem Div_short (a b : Value) (N M : Nat) (w : World) (ha : Nt w a N) (hb : Nt w b M) (h1 : len N ≤ 64) (h2 : len M ≤ 64) (h0 : len M = 1) (hl : M ≤ N) :
    Calls Try.prog 32 #[.agg #[a], .agg #[b]] w fun e w' => RetNN (fun w' u v => Nt w' u (N / M) ∧ Fr w.heap.size u ∧ Nt w' v (N % M) ∧ Fr w.heap.size v) e w' ∧ Below w.heap.size w w' :=
  (Div_shortU a b N M w ha hb h1 h2 h0 hl).mono fun _ _ h => ⟨h.1.old, h.2⟩

end Go.Proofs.Ythphmgdmhlimjaa

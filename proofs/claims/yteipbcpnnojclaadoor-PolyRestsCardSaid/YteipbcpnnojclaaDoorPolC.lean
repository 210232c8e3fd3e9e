/- poly.eval. -/
import Derived.Test.YteipbcpnnojclaaDoorPolB
import Derived.Test.YteipbcpnnojclaaDoorRegIn
namespace Go.Proofs.YteipbcpnnojclaaDoor
open Go.RowKit Go.Shelf DivMath WordMath Back
attribute [local go_sem] Oper.semAt_some
set_option linter.unusedVariables false
set_option maxRecDepth 100000 in
set_option maxHeartbeats 2000000 in
theorem eval_in (F : Fence) (hF : F = Fence.wide) (n q x len cap : Nat) (hn : 3 ≤ n) (a : Option Addr) (zs : List (Fin q)) (hq : 0 < q) (hqT : (q : Int) < Top) (hx : (x : Int) < (q : Int)) (hreach : zs.length * 8 ≤ 140737488351232) (w : World) (hlen : zs.length = len)
    (hI : (len = 0) ∨ ∃ b off, a = some ⟨b, off, none⟩ ∧ b < w.heap.size ∧ ∀ j, j < len → w.cell? ⟨b, off + j, none⟩ = some (.int .i64 ((zs[j]?.getD ⟨0, hq⟩).val : Int))) :
    CallsIn F n Tryd.prog 60 #[.int .i64 q, .slice a len cap, .int .i64 x] w fun e W' => e = .returned (.int .i64 (evP q x (upto (at_ hq zs) zs.length) : Nat)) ∧ Below w.heap.size w W' := by
  have h1 : 1 ≤ n := by omega
  have hro : F.round = none := by rw [hF]; rfl
  have hE : F.fn 60 := by rw [hF]; trivial
  have hB : F.fn 105 := by rw [hF]; trivial
  have hC : F.fn 145 := by rw [hF]; trivial
  have hM : F.fn 58 := by rw [hF]; trivial
  have HF := Lib.hid hF
  have HT := Lib.hid hqT
  have hq9 : (q : Int) ≤ 2305843009213693951 := by unfold Top at hqT; omega
  have hqz : ((q : Int) == 0) = false := by simp; omega
  have hqz2 : (q == 0) = false := by simp; omega
  clear hF hqT
  refine callsIn_of_wp_marks Tryd.func60 rfl hE ?_ hro
  simp only [Tryd.ntmps60, List.size_toArray, List.length_cons, List.length_nil, Nat.reduceAdd, Nat.reduceSub, Array.replicate_succ, Array.replicate_zero, List.push_toArray, List.append_toArray, List.nil_append, List.cons_append]
  gi_wp2_with (gi_at_call 105; refine (back_in F (n - 1) hB hro _ _ _ _).mono ?_; rintro e w' ⟨rfl, rfl⟩)
  have bQ := Boxed.new w 3 (.int .i64 (q : Int))
  have bX := Boxed.new (w.alloc (.cells #[.int .i64 (q : Int)] 3)) 3 (.int .i64 (x : Int))
  have bY := Boxed.new ((w.alloc (.cells #[.int .i64 (q : Int)] 3)).alloc (.cells #[.int .i64 (x : Int)] 3)) 3 (.int .i64 0)
  have bN := Boxed.new (((w.alloc (.cells #[.int .i64 (q : Int)] 3)).alloc (.cells #[.int .i64 (x : Int)] 3)).alloc (.cells #[.int .i64 0] 3)) 22 (.slice a len cap)
  simp only [World.size_alloc] at bX bY bN
  have hB0 : Below w.heap.size w ((((w.alloc (.cells #[.int .i64 (q : Int)] 3)).alloc (.cells #[.int .i64 (x : Int)] 3)).alloc (.cells #[.int .i64 0] 3)).alloc (.cells #[.slice a len cap] 22)) := ((((Below.refl _ w).alloc (Nat.le_refl _) _).alloc (by simp) _).alloc (by simp; omega) _).alloc (by simp; omega) _
  have hI' : (∃ a' c', Value.slice a len cap = .slice a' 0 c' ∧ zs.length = 0) ∨ ∃ b off cap', Value.slice a len cap = .slice (some ⟨b, off, none⟩) zs.length cap' ∧ b < w.heap.size ∧ ∀ j, j < zs.length → ((((w.alloc (.cells #[.int .i64 (q : Int)] 3)).alloc (.cells #[.int .i64 (x : Int)] 3)).alloc (.cells #[.int .i64 0] 3)).alloc (.cells #[.slice a len cap] 22)).cell? ⟨b, off + j, none⟩ = some (.int .i64 ((zs[j]?.getD ⟨0, hq⟩).val : Int)) := by
    rcases hI with h0 | ⟨b, off, rfl, hb, hc⟩
    · subst h0; exact .inl ⟨_, _, rfl, hlen⟩
    · exact .inr ⟨b, off, cap, by rw [hlen], hb, fun j hj => (hB0.cell (p := ⟨b, off + j, none⟩) hb).trans (hc j (by omega))⟩
  have hst := back_stops F (n - 1) hC hro (by omega) (w.heap.size + 1 + 1 + 1) w.heap.size q hq (.slice a len cap) zs hreach _ (by simp) (by simp; omega) bN.cell hI'
  have HST := Lib.hid hst
  clear hst hI' hI
  refine wpIn_rangeFunc_ownG hro h1 (gf := 145) (lb := #[.pointer (some ⟨w.heap.size + 1 + 1 + 1, 0, none⟩)]) rfl hC (enters_of Tryd.func145 (by kernel_rfl) rfl)
    HST.out KB.trans (KB.b (by simp; omega)) (Below.refl _ _) (fun _ => rfl)
    (fun pre W => (W.cell? ⟨w.heap.size, 0, none⟩ = some (.int .i64 (q : Int)) ∧ W.cell? ⟨w.heap.size + 1, 0, none⟩ = some (.int .i64 (x : Int)) ∧ W.cell? ⟨w.heap.size + 1 + 1, 0, none⟩ = some (.int .i64 (evP q x pre : Nat)) ∧ W.frozen? ⟨w.heap.size + 1 + 1, 0, none⟩ = false) ∧ Below w.heap.size w W)
    (fun _ _ _ => False)
    (OwnFrom.and (Own.from (fun s A B row hs hg hr => ⟨cell_kept hs.1 hg hr, cell_kept hs.2.1 hg hr, cell_kept hs.2.2.1 hg hr, (frozen_kept hs.2.2.1 hg hr).trans hs.2.2.2⟩) _) (ownFrom_below (Nat.le_refl _) (by simp; omega)))
    (fun _ _ _ _ _ hs _ _ => hs)
    ⟨⟨((bQ.alloc _).alloc _ |>.alloc _).cell, ((bX.alloc _).alloc _).cell, (bY.alloc _).cell, (bY.alloc _).frozen⟩, hB0⟩
    (fun p => { tmps := #[.int .i64 q, .slice a len cap, .int .i64 x, .pointer (some ⟨w.heap.size, 0, none⟩), undef, .pointer (some ⟨w.heap.size + 1, 0, none⟩), .int .i64 0, .pointer (some ⟨w.heap.size + 1 + 1, 0, none⟩), undef, .int .i64 (p.2.val : Int), .slice a len cap, .func (.func 145) #[] #[.pointer (some ⟨w.heap.size + 1 + 1 + 1, 0, none⟩)], .int .i64 (p.1 : Int), .int .i64 (p.2.val : Int), undef, undef, undef, undef, undef, undef, undef, undef, undef], defers := [] }) ?assign ?body ?done ?stop
  case assign =>
    intro l p W K hK
    gi_wp2
    exact hK
  case body =>
    rintro l pre ⟨pi, c, hc⟩ W ⟨⟨hc1, hc2, hc3, hf3⟩, hB⟩ _
    have hd : 1 ≤ n - 1 - 1 := by omega
    have hmx : Tryd.prog.follows .mixedOrders = true := by kernel_rfl
    have hsn := evP_snoc q x pre (pi, ⟨c, hc⟩)
    have hy : (evP q x pre : Int) < (q : Int) := by have := evP_lt (x := x) hq pre; omega
    generalize evP q x pre = y at *
    have hcq : (c : Int) < (q : Int) := by omega
    have HS := Lib.hid hsn
    clear hsn
    dsimp only
    gi_wp2
    rw [HF.out]
    refine wpIn_regionU (S := fun w' => w'.cell? ⟨w.heap.size, 0, none⟩ = some (.int .i64 (q : Int)) ∧ w'.cell? ⟨w.heap.size + 1, 0, none⟩ = some (.int .i64 (x : Int)) ∧ w'.cell? ⟨w.heap.size + 1 + 1, 0, none⟩ = some (.int .i64 (y : Int))) [8] (by kernel_rfl) (by kernel_rfl) (fun ⟨_, _, h⟩ => h) ⟨hc1, hc2, hc3⟩ (fun hHeld => ?_)
    refine uTake (i := 0) (some 14) (v := ?_) rfl rfl (by kernel_rfl) (by kernel_rfl) (by kernel_rfl) (by kernel_rfl) (fun _ _ _ h => h) (by rfl) (by assumption) ?_ ?_
    rotate_left
    · (intro wS hSw; (try dsimp only at hSw); obtain ⟨s1, s2, s3⟩ := hSw; go_simp; try with_reducible rfl)
    try simp only [Act.put, List.setIfInBounds_toArray, List.set_cons_zero, List.set_cons_succ]
    refine uTake (i := 1) (some 15) (v := ?_) rfl rfl (by kernel_rfl) (by kernel_rfl) (by kernel_rfl) (by kernel_rfl) (fun _ _ _ h => h) (by rfl) (by assumption) ?_ ?_
    rotate_left
    · (intro wS hSw; (try dsimp only at hSw); obtain ⟨s1, s2, s3⟩ := hSw; go_simp; try with_reducible rfl)
    try simp only [Act.put, List.setIfInBounds_toArray, List.set_cons_zero, List.set_cons_succ]
    refine uTake (i := 2) (some 16) (v := ?_) rfl rfl (by kernel_rfl) (by kernel_rfl) (by kernel_rfl) (by kernel_rfl) (fun _ _ _ h => h) (by rfl) (by assumption) ?_ ?_
    rotate_left
    · (intro wS hSw; (try dsimp only at hSw); obtain ⟨s1, s2, s3⟩ := hSw; go_simp; try with_reducible rfl)
    try simp only [Act.put, List.setIfInBounds_toArray, List.set_cons_zero, List.set_cons_succ]
    refine uTake (i := 4) (some 18) (v := ?_) rfl rfl (by kernel_rfl) (by kernel_rfl) (by kernel_rfl) (by kernel_rfl) (fun _ _ _ h => h) (by rfl) (by assumption) ?_ ?_
    rotate_left
    · (intro wS hSw; (try dsimp only at hSw); obtain ⟨s1, s2, s3⟩ := hSw; go_simp; try with_reducible rfl)
    try simp only [Act.put, List.setIfInBounds_toArray, List.set_cons_zero, List.set_cons_succ]
    refine uTake (i := 6) (some 20) (v := ?_) rfl rfl (by kernel_rfl) (by kernel_rfl) (by kernel_rfl) (by kernel_rfl) (fun _ _ _ h => h) (by rfl) (by assumption) ?_ ?_
    rotate_left
    · (intro wS hSw; (try dsimp only at hSw); obtain ⟨s1, s2, s3⟩ := hSw; go_simp; try with_reducible rfl)
    try simp only [Act.put, List.setIfInBounds_toArray, List.set_cons_zero, List.set_cons_succ]
    refine uReady (rs := [3]) (by kernel_rfl) (by simp) ?_
    refine ReadyU.cons rfl (fun KK hKK => ?_) ReadyU.nil
    go_simp
    refine (polmul_c q y x _ hy hx HT.out).mono ?_
    rintro e w2 ⟨⟨r, hr, rfl⟩, n1, rfl⟩
    have hrq : (r : Int) < (q : Int) := by rw [hr.out]; have := Nat.mod_lt (y * x) hq; omega
    have hw : IntKind.i64.wrap ((r : Int) + (c : Int)) = ((r + c : Nat) : Int) := by rw [IntKind.wrap_i64]; omega
    have ht : (((r + c : Nat) : Int)).tmod (q : Int) = (((r + c) % q : Nat) : Int) := by rw [Int.tmod_eq_emod_of_nonneg (by omega)]; rfl
    have hq0 : ¬ (q = 0) := by omega
    (try dsimp only)
    refine hKK.out _ _ hHeld (fun hHeld => ?_)
    clear hKK KK
    try simp only [Act.put, List.setIfInBounds_toArray, List.set_cons_zero, List.set_cons_succ]
    refine uTake (i := 5) (some 19) (v := .int .i64 ((r + c : Nat) : Int)) rfl rfl (by kernel_rfl) (by kernel_rfl) (by kernel_rfl) (by kernel_rfl) (fun _ _ _ h => h) (by rfl) (by assumption) ?_ ?_
    · (intro wS hSw; (try dsimp only at hSw); obtain ⟨s1, s2, s3⟩ := hSw; go_simp)
    try simp only [Act.put, List.setIfInBounds_toArray, List.set_cons_zero, List.set_cons_succ]
    refine uTake (i := 7) (some 21) (v := .int .i64 (((r + c) % q : Nat) : Int)) rfl rfl (by kernel_rfl) (by kernel_rfl) (by kernel_rfl) (by kernel_rfl) (fun _ _ _ h => h) (by rfl) (by assumption) ?_ ?_
    · (intro wS hSw; (try dsimp only at hSw); obtain ⟨s1, s2, s3⟩ := hSw; go_simp; exact Int.tmod_eq_emod_of_nonneg (by omega))
    try simp only [Act.put, List.setIfInBounds_toArray, List.set_cons_zero, List.set_cons_succ]
    refine uReady (rs := [8]) (by kernel_rfl) (by simp) ?_
    refine ReadyU.consU (by kernel_rfl) rfl (fun KK hKK => ?_) ReadyU.nil
    go_simp
    (try dsimp only)
    refine hKK.out _ _ ?_
    clear hKK KK
    try simp only [Act.put, List.setIfInBounds_toArray, List.set_cons_zero, List.set_cons_succ]
    refine uDone (by kernel_rfl) ?_ _
    have hb2 : Below w.heap.size W (W.drewN (1 + n1)) := below_drewN (Below.refl _ _) _
    have hval : ((r : Int) + (c : Int)) % (q : Int) = ((evP q x (pre ++ [(pi, ⟨c, hc⟩)]) : Nat) : Int) := by rw [HS.out, ← hr.out]; simp
    refine ⟨?_, ⟨?_, ?_⟩, ⟨?_, ?_, ?_, ?_⟩, ?_⟩
    · exact ((⟨Nat.le_refl _, fun _ _ h _ => h⟩ : KeepsOthers W (W.drewN (1 + n1))).trans (KeepsOthers.setCell _ _ _)).from _
    · exact hb2.setCell (p := ⟨w.heap.size + 1 + 1, 0, none⟩) (by simp only; omega) _
    · exact fun v e => (cell_other (by omega)).trans e
    · exact (cell_other (by omega)).trans hc1
    · exact (cell_other (by omega)).trans hc2
    · rw [hval]; exact World.cell?_setCell_same' _ _ _ (by rw [show (W.drewN (1 + n1)).cell? ⟨w.heap.size + 1 + 1, 0, none⟩ = _ from hc3]; rfl)
    · rw [World.frozen?_setCell]; exact hf3
    · exact (hB.trans hb2).setCell (p := ⟨w.heap.size + 1 + 1, 0, none⟩) (by simp only; omega) _
  case done =>
    rintro D ys W hD rfl ⟨⟨hc1, hc2, hc3, hf⟩, hB⟩ hK
    gi_wp2
    refine ⟨by simp, .inl ⟨_, _, rfl, run_takeDeferred hK, ?_⟩⟩
    exact ⟨_, results_tmp rfl _ _ _, by rw [hlen]; rfl, hB.trans (belowK_b (w := w) (Nat.le_refl _) W D _ _ (by simp at hD; omega) hK rfl rfl)⟩
  case stop =>
    rintro D c pre W _ _ h _
    exact h.elim
/-- poly.eval: the value of a polynomial with residues for coefficients -/
theorem eval_c {D : Nat → Prop} {q x : Nat} {l : List Nat} {xa : Option Addr} {xk : Nat} {w : World} (hxr : Fct.at w D (.rw (.slice xa l.length xk) l.length 1 (icl (nl l)))) (hl : ∀ c ∈ l, c < q) (hx : (x : Int) < (q : Int)) (hqT : (q : Int) < Top) (hlen : l.length ≤ 1000000) :
    Calls Tryd.prog 60 #[.int .i64 q, .slice xa l.length xk, .int .i64 x] w fun e W' => e = .returned (.int .i64 (evN q x l : Nat)) ∧ Below w.heap.size w W' := by
  have hq : 0 < q := by omega
  have h := eval_in Fence.wide rfl 3 q x l.length xk (Nat.le_refl _) xa (fins hq l) hq hqT hx (by simp [fins]; omega) w (by simp [fins]) (by
    by_cases h0 : l.length = 0
    · exact .inl h0
    · obtain ⟨b, o, rfl⟩ := Rw.addr hxr h0
      refine .inr ⟨b, o, rfl, ?_⟩
      have h0' := Rw.el hxr h0 (i := 0) (icl_get (nl l) 0 (by rw [nl_len]; omega))
      refine ⟨h0'.1.1, fun j hj => ?_⟩
      have h1 := (Rw.el hxr h0 (i := j) (icl_get (nl l) j (by rw [nl_len]; exact hj))).2
      rw [h1]
      simp only [nl, fins, List.getElem_map, List.getElem?_map, List.getElem?_eq_getElem hj, Option.map_some, Option.getD_some]
      rw [Nat.mod_eq_of_lt (hl _ (List.getElem_mem hj))])
  have e : (fins hq l).length = l.length := by simp [fins]
  rw [e, upto_at hq l hl x] at h
  exact callsIn_wide.1 h
end Go.Proofs.YteipbcpnnojclaaDoor

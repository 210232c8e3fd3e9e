/- a copy of a use. -/
import Derived.Test.YtfnnfmefihiefaaSpH
namespace Go.Proofs.Ytfnnfmefihiefaa
open Go.RowKit
set_option linter.unusedVariables false
set_option linter.unusedSimpArgs false
theorem Rw.ge {W : World} {D : Nat → Prop} {B n k : Nat} {v : Value} {cs : List Value} (h : Rw W (fun b => B ≤ b) v n k cs) : Rw W (fun b => D b ∨ B ≤ b) v n k cs := h.turn (Nat.le_refl _) (fun _ _ h => .inr h) (fun _ _ _ _ => rfl)
theorem results_b {fn : Func} {p : Tmp} {T T' : TypeId} {n B g : Nat} {cs : List Value} {W : World} (hT : Big T n) (h : fn.results = #[.cell p T]) (tmps : Array Value) (hb : Box B g T' cs W) (hl : cs.length = n) (hp : tmps.getD p undef = .pointer (some ⟨g, 0, none⟩)) :
    (results fn tmps).run Try.prog W = .ok (.agg cs.toArray) W := by
  obtain ⟨d, hu, hd⟩ := hT.row
  exact results_cell_row h tmps W g T' cs.toArray (0, 0) d hp hb.2 hu (by cases d <;> simp_all [TypeDesc.isRow]) (by rw [hT.size]; simp [hl])
theorem results_b2 {fn : Func} {p u : Tmp} {T T' : TypeId} {n B g : Nat} {cs : List Value} {W : World} (hT : Big T n) (h : fn.results = #[.cell p T, .tmp u]) (tmps : Array Value) (hb : Box B g T' cs W) (hl : cs.length = n) (hp : tmps.getD p undef = .pointer (some ⟨g, 0, none⟩)) :
    (results fn tmps).run Try.prog W = .ok (.tuple #[.agg cs.toArray, tmps.getD u undef]) W := by
  obtain ⟨d, hu, hd⟩ := hT.row
  rw [results_cell_tmp h, hp]
  simp [asAddr, run_loadVar_row W g T' T cs.toArray (0, 0) d hb.2 hu (by cases d <;> simp_all [TypeDesc.isRow]) (by rw [hT.size]; simp [hl])]
/-- the leaves' and the path's copies make a use's -/
theorem gSp.new {W : World} {D : Nat → Prop} {s : Sp} {la pa : Value} (h : SpOk s) (h1 : Rw W D la s.lv.length 3 (lcl s.lv)) (h2 : Rw W D pa s.pa.length 32 s.pa.flatten) : (gSp s la pa).at_ W D := ⟨h, h1, h2⟩
set_option maxRecDepth 100000 in
set_option maxHeartbeats 2000000 in
theorem copyOf_c {D : Nat → Prop} (u : Us) {la pa : Value} {w : World} (hs : Fct.at w D (.gn (gSp u.sp la pa))) (fs0 : u.sp.lv.length ≤ 1000000 ∧ u.sp.pa.length ≤ 1000000) :
    Calls Try.prog 40 #[.agg (usc u la pa).toArray] w fun e w' => RetU (fun b => D b ∨ w.heap.size ≤ b) u e w' ∧ Below w.heap.size w w' := by
  have E0 : Hid (Env D w [] [.gn (gSp u.sp la pa)] w) := Lib.hid ((Env.start D w).arg (.gn (gSp u.sp la pa)) hs)
  clear hs
  go_enter Try.func40, Try.ntmps40
  have fs := Lib.hid fs0
  clear fs0
  have HS := Lib.hid (E0.out.spOk 0 rfl)
  obtain ⟨xa, xk, xc, xj, rfl, rfl, E20⟩ := E0.out.elS 0 rfl
  have E2 : Hid (Env D w [] [.rw (.slice xa u.sp.lv.length xk) u.sp.lv.length 3 (lcl u.sp.lv), .rw (.slice xc u.sp.pa.length xj) u.sp.pa.length 32 u.sp.pa.flatten, .gn (gSp u.sp (.slice xa u.sp.lv.length xk) (.slice xc u.sp.pa.length xj))] _) := Lib.hid E20
  clear E20 E0
  go_upto_region 1 with (first | (with_reducible refine wpl_alloc_b ?_ ?_ _ zvUse ?_; (· rfl); (· rfl)))
  have E3 : Hid (Env D w [(w.heap.size + 1, 44, usc zU nilV nilV), (w.heap.size, 44, usc u (.slice xa u.sp.lv.length xk) (.slice xc u.sp.pa.length xj))] [.rw (.slice xa u.sp.lv.length xk) u.sp.lv.length 3 (lcl u.sp.lv), .rw (.slice xc u.sp.pa.length xj) u.sp.pa.length 32 u.sp.pa.flatten, .gn (gSp u.sp (.slice xa u.sp.lv.length xk) (.slice xc u.sp.pa.length xj))] _) := Lib.hid (((E2.out.push 44 (usc u (.slice xa u.sp.lv.length xk) (.slice xc u.sp.pa.length xj)) (w.heap.size) (by simp)).push 44 (usc zU nilV nilV) (w.heap.size + 1) (by simp)))
  clear E2
  generalize (w.alloc (.cells (usc u (.slice xa u.sp.lv.length xk) (.slice xc u.sp.pa.length xj)).toArray 44)).alloc (.cells (usc zU nilV nilV).toArray 44) = w1 at *
  have b1 := E3.out.bx 1 rfl
  have c1 := b1.cell 79 (usc_tail HS.out _ _).1
  clear b1
  go_wp2_with (first | (with_reducible refine wpl_alloc_b ?_ ?_ _ zvUse ?_; (· rfl); (· rfl)))
  refine (cloneLv (E3.out.fc 0 rfl) (by have := fs.out; omega)).mono ?_
  rintro e w2 ⟨⟨yaa, yak, rfl, yah⟩, hb⟩
  have E4 : Hid (Env D w [(w.heap.size + 1, 44, usc zU nilV nilV), (w.heap.size, 44, usc u (.slice xa u.sp.lv.length xk) (.slice xc u.sp.pa.length xj))] [.rw (.slice yaa u.sp.lv.length yak) u.sp.lv.length 3 (lcl u.sp.lv), .rw (.slice xa u.sp.lv.length xk) u.sp.lv.length 3 (lcl u.sp.lv), .rw (.slice xc u.sp.pa.length xj) u.sp.pa.length 32 u.sp.pa.flatten, .gn (gSp u.sp (.slice xa u.sp.lv.length xk) (.slice xc u.sp.pa.length xj))] w2) := Lib.hid (E3.out.got (E3.out.below hb) (.rw (.slice yaa u.sp.lv.length yak) u.sp.lv.length 3 (lcl u.sp.lv)) (Lib.hid (Rw.ge yah.out)).out)
  clear c1 E3 hb
  have b2 := E4.out.bx 1 rfl
  have c2 := b2.cell 79 (usc_tail HS.out _ _).1
  have f2 := b2.frozen 79
  clear b2
  have E5 : Hid (Env D w [(w.heap.size + 1, 44, usc zU nilV nilV), (w.heap.size, 44, (usc u (.slice xa u.sp.lv.length xk) (.slice xc u.sp.pa.length xj)).set 79 (.slice yaa u.sp.lv.length yak))] [.rw (.slice yaa u.sp.lv.length yak) u.sp.lv.length 3 (lcl u.sp.lv), .rw (.slice xa u.sp.lv.length xk) u.sp.lv.length 3 (lcl u.sp.lv), .rw (.slice xc u.sp.pa.length xj) u.sp.pa.length 32 u.sp.pa.flatten, .gn (gSp u.sp (.slice xa u.sp.lv.length xk) (.slice xc u.sp.pa.length xj))] _) := Lib.hid ((E4.out.set 1 79 (.slice yaa u.sp.lv.length yak) rfl))
  have E6 : Hid (Env D w [(w.heap.size + 1, 44, usc zU nilV nilV), (w.heap.size, 44, usc u (.slice yaa u.sp.lv.length yak) (.slice xc u.sp.pa.length xj))] [.rw (.slice yaa u.sp.lv.length yak) u.sp.lv.length 3 (lcl u.sp.lv), .rw (.slice xa u.sp.lv.length xk) u.sp.lv.length 3 (lcl u.sp.lv), .rw (.slice xc u.sp.pa.length xj) u.sp.pa.length 32 u.sp.pa.flatten, .gn (gSp u.sp (.slice xa u.sp.lv.length xk) (.slice xc u.sp.pa.length xj))] _) := Lib.hid (by have h := E5.out; rw [usc_setL HS.out] at h; exact h)
  have b3 := E6.out.bx 1 rfl
  have c3 := b3.cell 81 (usc_tail HS.out _ _).2.2
  clear b3
  go_wp2_with (first | (with_reducible refine wpl_alloc_b ?_ ?_ _ zvUse ?_; (· rfl); (· rfl)))
  refine (cloneHs (E6.out.fc 2 rfl) (by have := fs.out; omega)).mono ?_
  rintro e w3 ⟨⟨zaa, zak, rfl, zah⟩, hb⟩
  have E7 : Hid (Env D w [(w.heap.size + 1, 44, usc zU nilV nilV), (w.heap.size, 44, usc u (.slice yaa u.sp.lv.length yak) (.slice xc u.sp.pa.length xj))] [.rw (.slice zaa u.sp.pa.length zak) u.sp.pa.length 32 u.sp.pa.flatten, .rw (.slice yaa u.sp.lv.length yak) u.sp.lv.length 3 (lcl u.sp.lv), .rw (.slice xa u.sp.lv.length xk) u.sp.lv.length 3 (lcl u.sp.lv), .rw (.slice xc u.sp.pa.length xj) u.sp.pa.length 32 u.sp.pa.flatten, .gn (gSp u.sp (.slice xa u.sp.lv.length xk) (.slice xc u.sp.pa.length xj))] w3) := Lib.hid (E6.out.got (E6.out.below hb) (.rw (.slice zaa u.sp.pa.length zak) u.sp.pa.length 32 u.sp.pa.flatten) (Lib.hid (Rw.ge zah.out)).out)
  clear c2 f2 c3 E4 E5 E6 hb
  have b4 := E7.out.bx 1 rfl
  have c4 := b4.cell 81 (usc_tail HS.out _ _).2.2
  have f4 := b4.frozen 81
  clear b4
  have E8 : Hid (Env D w [(w.heap.size + 1, 44, usc zU nilV nilV), (w.heap.size, 44, (usc u (.slice yaa u.sp.lv.length yak) (.slice xc u.sp.pa.length xj)).set 81 (.slice zaa u.sp.pa.length zak))] [.rw (.slice zaa u.sp.pa.length zak) u.sp.pa.length 32 u.sp.pa.flatten, .rw (.slice yaa u.sp.lv.length yak) u.sp.lv.length 3 (lcl u.sp.lv), .rw (.slice xa u.sp.lv.length xk) u.sp.lv.length 3 (lcl u.sp.lv), .rw (.slice xc u.sp.pa.length xj) u.sp.pa.length 32 u.sp.pa.flatten, .gn (gSp u.sp (.slice xa u.sp.lv.length xk) (.slice xc u.sp.pa.length xj))] _) := Lib.hid ((E7.out.set 1 81 (.slice zaa u.sp.pa.length zak) rfl))
  have E9 : Hid (Env D w [(w.heap.size + 1, 44, usc zU nilV nilV), (w.heap.size, 44, usc u (.slice yaa u.sp.lv.length yak) (.slice zaa u.sp.pa.length zak))] [.rw (.slice zaa u.sp.pa.length zak) u.sp.pa.length 32 u.sp.pa.flatten, .rw (.slice yaa u.sp.lv.length yak) u.sp.lv.length 3 (lcl u.sp.lv), .rw (.slice xa u.sp.lv.length xk) u.sp.lv.length 3 (lcl u.sp.lv), .rw (.slice xc u.sp.pa.length xj) u.sp.pa.length 32 u.sp.pa.flatten, .gn (gSp u.sp (.slice xa u.sp.lv.length xk) (.slice xc u.sp.pa.length xj))] _) := Lib.hid (by have h := E8.out; rw [usc_setP HS.out] at h; exact h)
  have HN : Hid ((gSp u.sp (.slice yaa u.sp.lv.length yak) (.slice zaa u.sp.pa.length zak)).at_ _ _) := Lib.hid (gSp.new HS.out (E9.out.fc 1 rfl) (E9.out.fc 0 rfl))
  have E10 : Hid (Env D w [(w.heap.size + 1, 44, usc zU nilV nilV), (w.heap.size, 44, usc u (.slice yaa u.sp.lv.length yak) (.slice zaa u.sp.pa.length zak))] [.gn (gSp u.sp (.slice yaa u.sp.lv.length yak) (.slice zaa u.sp.pa.length zak)), .rw (.slice zaa u.sp.pa.length zak) u.sp.pa.length 32 u.sp.pa.flatten, .rw (.slice yaa u.sp.lv.length yak) u.sp.lv.length 3 (lcl u.sp.lv), .rw (.slice xa u.sp.lv.length xk) u.sp.lv.length 3 (lcl u.sp.lv), .rw (.slice xc u.sp.pa.length xj) u.sp.pa.length 32 u.sp.pa.flatten, .gn (gSp u.sp (.slice xa u.sp.lv.length xk) (.slice xc u.sp.pa.length xj))] _) := Lib.hid (E9.out.note (.gn (gSp u.sp (.slice yaa u.sp.lv.length yak) (.slice zaa u.sp.pa.length zak))) HN.out)
  clear HN E9
  have b5 := E10.out.bx 1 rfl
  have r5 := Lib.hid (b5.range (o := 0) (fun j hj => by rw [Nat.zero_add]))
  clear b5
  have b6 := Lib.hid (E10.out.bx 0 rfl)
  go_wp2_with (first | (with_reducible refine wpl_alloc_b ?_ ?_ _ zvUse ?_; (· rfl); (· rfl)) | (with_reducible refine wpl_load_b bUse w.heap.size 0 ?_ ?_ (usc u (.slice yaa u.sp.lv.length yak) (.slice zaa u.sp.pa.length zak)) (usc_len HS.out _ _) r5.out ?_; (· exact ⟨_, rfl, rfl⟩); (· kernel_rfl)) | (with_reducible refine wpl_store_b bUse (w.heap.size + 1) 0 (usc u (.slice yaa u.sp.lv.length yak) (.slice zaa u.sp.pa.length zak)) ?_ ?_ (usc_len HS.out _ _) (Box.there b6.out (Nat.le_of_eq (usc_len zS_ok _ _).symm)) (usc_one HS.out rfl rfl) ?_; (· exact ⟨_, _, rfl, rfl, rfl⟩); (· kernel_rfl)))
  have E11 : Hid (Env D w [(w.heap.size + 1, 44, usc u (.slice yaa u.sp.lv.length yak) (.slice zaa u.sp.pa.length zak)), (w.heap.size, 44, usc u (.slice yaa u.sp.lv.length yak) (.slice zaa u.sp.pa.length zak))] [.gn (gSp u.sp (.slice yaa u.sp.lv.length yak) (.slice zaa u.sp.pa.length zak)), .rw (.slice zaa u.sp.pa.length zak) u.sp.pa.length 32 u.sp.pa.flatten, .rw (.slice yaa u.sp.lv.length yak) u.sp.lv.length 3 (lcl u.sp.lv), .rw (.slice xa u.sp.lv.length xk) u.sp.lv.length 3 (lcl u.sp.lv), .rw (.slice xc u.sp.pa.length xj) u.sp.pa.length 32 u.sp.pa.flatten, .gn (gSp u.sp (.slice xa u.sp.lv.length xk) (.slice xc u.sp.pa.length xj))] _) := Lib.hid ((E10.out.whole 0 (usc u (.slice yaa u.sp.lv.length yak) (.slice zaa u.sp.pa.length zak)) rfl ((usc_len HS.out _ _).trans (usc_len zS_ok _ _).symm)))
  exact bodyPost_ret (results_b bUse Try.results40 _ (E11.out.bx 0 rfl) (usc_len HS.out _ _) rfl) rfl ⟨⟨_, _, rfl, Lib.hid (E11.out.out 0 rfl)⟩, E11.out.bel⟩
end Go.Proofs.Ytfnnfmefihiefaa

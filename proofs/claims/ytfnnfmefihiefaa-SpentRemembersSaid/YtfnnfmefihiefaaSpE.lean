/- two spends compared, by both texts. -/
import Derived.Test.YtfnnfmefihiefaaSpD
namespace Go.Proofs.Ytfnnfmefihiefaa
open Go.RowKit
set_option linter.unusedVariables false
set_option linter.unusedSimpArgs false
set_option maxRecDepth 100000 in
set_option maxHeartbeats 4000000 in
theorem equal_c {D : Nat → Prop} (s t : Sp) {la pa lb pb : Value} {w : World} (hs : Fct.at w D (.gn (gSp s la pa))) (ht : Fct.at w D (.gn (gSp t lb pb))) (fs0 : s.lv.length ≤ 1000000 ∧ s.pa.length ≤ 1000000) (ft0 : t.lv.length ≤ 1000000 ∧ t.pa.length ≤ 1000000) {r : Bool} (hr0 : r = true ↔ s = t) :
    Calls Try.prog 37 #[.agg (spc s la pa).toArray, .agg (spc t lb pb).toArray] w fun e w' => e = .returned (.bool r) ∧ Below w.heap.size w w' := by
  have E0 : Hid (Env D w [] [.gn (gSp t lb pb), .gn (gSp s la pa)] w) := Lib.hid (((Env.start D w).arg (.gn (gSp s la pa)) hs).arg (.gn (gSp t lb pb)) ht)
  clear hs ht
  go_enter Try.func37, Try.ntmps37
  have fs := Lib.hid fs0
  have ft := Lib.hid ft0
  have hr := Lib.hid hr0
  clear fs0 ft0 hr0
  have HS := Lib.hid (E0.out.spOk 1 rfl)
  have HT := Lib.hid (E0.out.spOk 0 rfl)
  obtain ⟨xa, xk, xc, xj, rfl, rfl, E10⟩ := E0.out.elS 1 rfl
  have E1 : Hid (Env D w [] [.rw (.slice xa s.lv.length xk) s.lv.length 3 (lcl s.lv), .rw (.slice xc s.pa.length xj) s.pa.length 32 s.pa.flatten, .gn (gSp t lb pb), .gn (gSp s (.slice xa s.lv.length xk) (.slice xc s.pa.length xj))] _) := Lib.hid E10
  clear E10 E0
  obtain ⟨ya, yk, yc, yj, rfl, rfl, E20⟩ := E1.out.elS 2 rfl
  have E2 : Hid (Env D w [] [.rw (.slice ya t.lv.length yk) t.lv.length 3 (lcl t.lv), .rw (.slice yc t.pa.length yj) t.pa.length 32 t.pa.flatten, .rw (.slice xa s.lv.length xk) s.lv.length 3 (lcl s.lv), .rw (.slice xc s.pa.length xj) s.pa.length 32 s.pa.flatten, .gn (gSp t (.slice ya t.lv.length yk) (.slice yc t.pa.length yj)), .gn (gSp s (.slice xa s.lv.length xk) (.slice xc s.pa.length xj))] _) := Lib.hid E20
  clear E20 E1
  go_upto_region 1 with (fail)
  have E3 : Hid (Env D w [(w.heap.size + 1, 41, spc t (.slice ya t.lv.length yk) (.slice yc t.pa.length yj)), (w.heap.size, 41, spc s (.slice xa s.lv.length xk) (.slice xc s.pa.length xj))] [.rw (.slice ya t.lv.length yk) t.lv.length 3 (lcl t.lv), .rw (.slice yc t.pa.length yj) t.pa.length 32 t.pa.flatten, .rw (.slice xa s.lv.length xk) s.lv.length 3 (lcl s.lv), .rw (.slice xc s.pa.length xj) s.pa.length 32 s.pa.flatten, .gn (gSp t (.slice ya t.lv.length yk) (.slice yc t.pa.length yj)), .gn (gSp s (.slice xa s.lv.length xk) (.slice xc s.pa.length xj))] _) := Lib.hid (((E2.out.push 41 (spc s (.slice xa s.lv.length xk) (.slice xc s.pa.length xj)) (w.heap.size) (by simp)).push 41 (spc t (.slice ya t.lv.length yk) (.slice yc t.pa.length yj)) (w.heap.size + 1) (by simp)))
  clear E2
  generalize (w.alloc (.cells (spc s (.slice xa s.lv.length xk) (.slice xc s.pa.length xj)).toArray 41)).alloc (.cells (spc t (.slice ya t.lv.length yk) (.slice yc t.pa.length yj)).toArray 41) = w1 at *
  obtain ⟨c1, c1h⟩ : ∃ b : Bool, b = true ↔ s.cn = t.cn := by by_cases h : s.cn = t.cn; (· exact ⟨true, ⟨fun _ => h, fun _ => rfl⟩⟩); exact ⟨false, ⟨fun h2 => Bool.noConfusion h2, fun h2 => absurd h2 h⟩⟩
  have c1q := eql_pl wCoin HS.out.cn HT.out.cn (c1h.trans (eqc_iff tCoin HS.out.cn HT.out.cn).symm)
  have c1H := Lib.hid c1h
  clear c1h
  obtain ⟨c2, c2h⟩ : ∃ b : Bool, b = true ↔ s.nd = t.nd := by by_cases h : s.nd = t.nd; (· exact ⟨true, ⟨fun _ => h, fun _ => rfl⟩⟩); exact ⟨false, ⟨fun h2 => Bool.noConfusion h2, fun h2 => absurd h2 h⟩⟩
  have c2q := eql_pl wNode HS.out.nd HT.out.nd (c2h.trans (eqc_iff tNode HS.out.nd HT.out.nd).symm)
  have c2H := Lib.hid c2h
  clear c2h
  obtain ⟨c3, c3h⟩ : ∃ b : Bool, b = true ↔ s.cx = t.cx := by by_cases h : s.cx = t.cx; (· exact ⟨true, ⟨fun _ => h, fun _ => rfl⟩⟩); exact ⟨false, ⟨fun h2 => Bool.noConfusion h2, fun h2 => absurd h2 h⟩⟩
  have c3q := eql_pl wCtx HS.out.cx HT.out.cx (c3h.trans (eqc_iff tCtx HS.out.cx HT.out.cx).symm)
  have c3H := Lib.hid c3h
  clear c3h
  cases c1 with
  | false =>
    have HR : Hid (r = false) := Lib.hid (by cases r; (· rfl); exact absurd (hr.out.1 rfl) (fun e => absurd (c1H.out.2 (by rw [e])) (by decide)))
    have b1 := E3.out.bx 1 rfl
    have r1 := Lib.hid (b1.range (o := 0) (spc_cn HS.out _ _))
    clear b1
    have b2 := E3.out.bx 0 rfl
    have r2 := Lib.hid (b2.range (o := 0) (spc_cn HT.out _ _))
    clear b2
    have hfin := Lib.hid E3.out.bel
    go_wp2_with (first | (with_reducible refine wpl_load_w wCoin w.heap.size 0 ?_ ?_ s.cn HS.out.cn r1.out ?_; (· exact ⟨_, rfl, rfl⟩); (· kernel_rfl)) | (with_reducible refine wpl_load_w wCoin (w.heap.size + 1) 0 ?_ ?_ t.cn HT.out.cn r2.out ?_; (· exact ⟨_, rfl, rfl⟩); (· kernel_rfl)))
    go_ret
    exact ⟨RetEqB HR.out.symm, hfin.out⟩
  | true =>
    cases c2 with
    | false =>
      have HR : Hid (r = false) := Lib.hid (by cases r; (· rfl); exact absurd (hr.out.1 rfl) (fun e => absurd (c2H.out.2 (by rw [e])) (by decide)))
      have b1 := E3.out.bx 1 rfl
      have r1 := Lib.hid (b1.range (o := 0) (spc_cn HS.out _ _))
      clear b1
      have b2 := E3.out.bx 0 rfl
      have r2 := Lib.hid (b2.range (o := 0) (spc_cn HT.out _ _))
      clear b2
      have b3 := E3.out.bx 1 rfl
      have r3 := Lib.hid (b3.range (o := 41) (spc_nd HS.out _ _))
      clear b3
      have b4 := E3.out.bx 0 rfl
      have r4 := Lib.hid (b4.range (o := 41) (spc_nd HT.out _ _))
      clear b4
      have hfin := Lib.hid E3.out.bel
      go_wp2_with (first | (with_reducible refine wpl_load_w wCoin w.heap.size 0 ?_ ?_ s.cn HS.out.cn r1.out ?_; (· exact ⟨_, rfl, rfl⟩); (· kernel_rfl)) | (with_reducible refine wpl_load_w wCoin (w.heap.size + 1) 0 ?_ ?_ t.cn HT.out.cn r2.out ?_; (· exact ⟨_, rfl, rfl⟩); (· kernel_rfl)) | (with_reducible refine wpl_load_w wNode w.heap.size 41 ?_ ?_ s.nd HS.out.nd r3.out ?_; (· exact ⟨_, rfl, rfl⟩); (· kernel_rfl)) | (with_reducible refine wpl_load_w wNode (w.heap.size + 1) 41 ?_ ?_ t.nd HT.out.nd r4.out ?_; (· exact ⟨_, rfl, rfl⟩); (· kernel_rfl)))
      go_ret
      exact ⟨RetEqB HR.out.symm, hfin.out⟩
    | true =>
      cases c3 with
      | false =>
        have HR : Hid (r = false) := Lib.hid (by cases r; (· rfl); exact absurd (hr.out.1 rfl) (fun e => absurd (c3H.out.2 (by rw [e])) (by decide)))
        have b1 := E3.out.bx 1 rfl
        have r1 := Lib.hid (b1.range (o := 0) (spc_cn HS.out _ _))
        clear b1
        have b2 := E3.out.bx 0 rfl
        have r2 := Lib.hid (b2.range (o := 0) (spc_cn HT.out _ _))
        clear b2
        have b3 := E3.out.bx 1 rfl
        have r3 := Lib.hid (b3.range (o := 41) (spc_nd HS.out _ _))
        clear b3
        have b4 := E3.out.bx 0 rfl
        have r4 := Lib.hid (b4.range (o := 41) (spc_nd HT.out _ _))
        clear b4
        have b5 := E3.out.bx 1 rfl
        have r5 := Lib.hid (b5.range (o := 43) (spc_cx HS.out _ _))
        clear b5
        have b6 := E3.out.bx 0 rfl
        have r6 := Lib.hid (b6.range (o := 43) (spc_cx HT.out _ _))
        clear b6
        have hfin := Lib.hid E3.out.bel
        go_wp2_with (first | (with_reducible refine wpl_load_w wCoin w.heap.size 0 ?_ ?_ s.cn HS.out.cn r1.out ?_; (· exact ⟨_, rfl, rfl⟩); (· kernel_rfl)) | (with_reducible refine wpl_load_w wCoin (w.heap.size + 1) 0 ?_ ?_ t.cn HT.out.cn r2.out ?_; (· exact ⟨_, rfl, rfl⟩); (· kernel_rfl)) | (with_reducible refine wpl_load_w wNode w.heap.size 41 ?_ ?_ s.nd HS.out.nd r3.out ?_; (· exact ⟨_, rfl, rfl⟩); (· kernel_rfl)) | (with_reducible refine wpl_load_w wNode (w.heap.size + 1) 41 ?_ ?_ t.nd HT.out.nd r4.out ?_; (· exact ⟨_, rfl, rfl⟩); (· kernel_rfl)) | (with_reducible refine wpl_load_w wCtx w.heap.size 43 ?_ ?_ s.cx HS.out.cx r5.out ?_; (· exact ⟨_, rfl, rfl⟩); (· kernel_rfl)) | (with_reducible refine wpl_load_w wCtx (w.heap.size + 1) 43 ?_ ?_ t.cx HT.out.cx r6.out ?_; (· exact ⟨_, rfl, rfl⟩); (· kernel_rfl)))
        go_ret
        exact ⟨RetEqB HR.out.symm, hfin.out⟩
      | true =>
        obtain ⟨c4, c4h⟩ : ∃ b : Bool, b = true ↔ s.lv = t.lv := by by_cases h : s.lv = t.lv; (· exact ⟨true, ⟨fun _ => h, fun _ => rfl⟩⟩); exact ⟨false, ⟨fun h2 => Bool.noConfusion h2, fun h2 => absurd h2 h⟩⟩
        have c4H := Lib.hid c4h
        clear c4h
        cases c4 with
        | false =>
          have HR : Hid (r = false) := Lib.hid (by cases r; (· rfl); exact absurd (hr.out.1 rfl) (fun e => absurd (c4H.out.2 (by rw [e])) (by decide)))
          have b1 := E3.out.bx 1 rfl
          have r1 := Lib.hid (b1.range (o := 0) (spc_cn HS.out _ _))
          clear b1
          have b2 := E3.out.bx 0 rfl
          have r2 := Lib.hid (b2.range (o := 0) (spc_cn HT.out _ _))
          clear b2
          have b3 := E3.out.bx 1 rfl
          have r3 := Lib.hid (b3.range (o := 41) (spc_nd HS.out _ _))
          clear b3
          have b4 := E3.out.bx 0 rfl
          have r4 := Lib.hid (b4.range (o := 41) (spc_nd HT.out _ _))
          clear b4
          have b5 := E3.out.bx 1 rfl
          have r5 := Lib.hid (b5.range (o := 43) (spc_cx HS.out _ _))
          clear b5
          have b6 := E3.out.bx 0 rfl
          have r6 := Lib.hid (b6.range (o := 43) (spc_cx HT.out _ _))
          clear b6
          have b7 := E3.out.bx 1 rfl
          have c7 := b7.cell 77 (spc_tail HS.out _ _).1
          clear b7
          have b8 := E3.out.bx 0 rfl
          have c8 := b8.cell 77 (spc_tail HT.out _ _).1
          clear b8
          go_wp2_with (first | (with_reducible refine wpl_load_w wCoin w.heap.size 0 ?_ ?_ s.cn HS.out.cn r1.out ?_; (· exact ⟨_, rfl, rfl⟩); (· kernel_rfl)) | (with_reducible refine wpl_load_w wCoin (w.heap.size + 1) 0 ?_ ?_ t.cn HT.out.cn r2.out ?_; (· exact ⟨_, rfl, rfl⟩); (· kernel_rfl)) | (with_reducible refine wpl_load_w wNode w.heap.size 41 ?_ ?_ s.nd HS.out.nd r3.out ?_; (· exact ⟨_, rfl, rfl⟩); (· kernel_rfl)) | (with_reducible refine wpl_load_w wNode (w.heap.size + 1) 41 ?_ ?_ t.nd HT.out.nd r4.out ?_; (· exact ⟨_, rfl, rfl⟩); (· kernel_rfl)) | (with_reducible refine wpl_load_w wCtx w.heap.size 43 ?_ ?_ s.cx HS.out.cx r5.out ?_; (· exact ⟨_, rfl, rfl⟩); (· kernel_rfl)) | (with_reducible refine wpl_load_w wCtx (w.heap.size + 1) 43 ?_ ?_ t.cx HT.out.cx r6.out ?_; (· exact ⟨_, rfl, rfl⟩); (· kernel_rfl)))
          refine (eqL s.lv t.lv (E3.out.fc 2 rfl) (E3.out.fc 0 rfl) (hm := ⟨fs.out.1, ft.out.1⟩) (t := false) (by first | exact c4H.out | simpa using c4H.out)).mono ?_
          rintro e w2 ⟨rfl, hb⟩
          have E4 : Hid (Env D w [(w.heap.size + 1, 41, spc t (.slice ya t.lv.length yk) (.slice yc t.pa.length yj)), (w.heap.size, 41, spc s (.slice xa s.lv.length xk) (.slice xc s.pa.length xj))] [.rw (.slice ya t.lv.length yk) t.lv.length 3 (lcl t.lv), .rw (.slice yc t.pa.length yj) t.pa.length 32 t.pa.flatten, .rw (.slice xa s.lv.length xk) s.lv.length 3 (lcl s.lv), .rw (.slice xc s.pa.length xj) s.pa.length 32 s.pa.flatten, .gn (gSp t (.slice ya t.lv.length yk) (.slice yc t.pa.length yj)), .gn (gSp s (.slice xa s.lv.length xk) (.slice xc s.pa.length xj))] w2) := Lib.hid (E3.out.below hb)
          clear r1 r2 r3 r4 r5 r6 c7 c8 E3 hb
          have hfin := Lib.hid E4.out.bel
          go_wp2
          go_ret
          exact ⟨RetEqB HR.out.symm, hfin.out⟩
        | true =>
          obtain ⟨c5, c5h⟩ : ∃ b : Bool, (s.pi == t.pi) = b := ⟨_, rfl⟩
          have c5H : Hid (c5 = true ↔ s.pi = t.pi) := Lib.hid (by rw [← c5h]; simp)
          cases c5 with
          | false =>
            have HR : Hid (r = false) := Lib.hid (by cases r; (· rfl); exact absurd (hr.out.1 rfl) (fun e => absurd (c5H.out.2 (by rw [e])) (by decide)))
            have b1 := E3.out.bx 1 rfl
            have r1 := Lib.hid (b1.range (o := 0) (spc_cn HS.out _ _))
            clear b1
            have b2 := E3.out.bx 0 rfl
            have r2 := Lib.hid (b2.range (o := 0) (spc_cn HT.out _ _))
            clear b2
            have b3 := E3.out.bx 1 rfl
            have r3 := Lib.hid (b3.range (o := 41) (spc_nd HS.out _ _))
            clear b3
            have b4 := E3.out.bx 0 rfl
            have r4 := Lib.hid (b4.range (o := 41) (spc_nd HT.out _ _))
            clear b4
            have b5 := E3.out.bx 1 rfl
            have r5 := Lib.hid (b5.range (o := 43) (spc_cx HS.out _ _))
            clear b5
            have b6 := E3.out.bx 0 rfl
            have r6 := Lib.hid (b6.range (o := 43) (spc_cx HT.out _ _))
            clear b6
            have b7 := E3.out.bx 1 rfl
            have c7 := b7.cell 77 (spc_tail HS.out _ _).1
            clear b7
            have b8 := E3.out.bx 0 rfl
            have c8 := b8.cell 77 (spc_tail HT.out _ _).1
            clear b8
            go_wp2_with (first | (with_reducible refine wpl_load_w wCoin w.heap.size 0 ?_ ?_ s.cn HS.out.cn r1.out ?_; (· exact ⟨_, rfl, rfl⟩); (· kernel_rfl)) | (with_reducible refine wpl_load_w wCoin (w.heap.size + 1) 0 ?_ ?_ t.cn HT.out.cn r2.out ?_; (· exact ⟨_, rfl, rfl⟩); (· kernel_rfl)) | (with_reducible refine wpl_load_w wNode w.heap.size 41 ?_ ?_ s.nd HS.out.nd r3.out ?_; (· exact ⟨_, rfl, rfl⟩); (· kernel_rfl)) | (with_reducible refine wpl_load_w wNode (w.heap.size + 1) 41 ?_ ?_ t.nd HT.out.nd r4.out ?_; (· exact ⟨_, rfl, rfl⟩); (· kernel_rfl)) | (with_reducible refine wpl_load_w wCtx w.heap.size 43 ?_ ?_ s.cx HS.out.cx r5.out ?_; (· exact ⟨_, rfl, rfl⟩); (· kernel_rfl)) | (with_reducible refine wpl_load_w wCtx (w.heap.size + 1) 43 ?_ ?_ t.cx HT.out.cx r6.out ?_; (· exact ⟨_, rfl, rfl⟩); (· kernel_rfl)))
            refine (eqL s.lv t.lv (E3.out.fc 2 rfl) (E3.out.fc 0 rfl) (hm := ⟨fs.out.1, ft.out.1⟩) (t := true) (by first | exact c4H.out | simpa using c4H.out)).mono ?_
            rintro e w2 ⟨rfl, hb⟩
            have E4 : Hid (Env D w [(w.heap.size + 1, 41, spc t (.slice ya t.lv.length yk) (.slice yc t.pa.length yj)), (w.heap.size, 41, spc s (.slice xa s.lv.length xk) (.slice xc s.pa.length xj))] [.rw (.slice ya t.lv.length yk) t.lv.length 3 (lcl t.lv), .rw (.slice yc t.pa.length yj) t.pa.length 32 t.pa.flatten, .rw (.slice xa s.lv.length xk) s.lv.length 3 (lcl s.lv), .rw (.slice xc s.pa.length xj) s.pa.length 32 s.pa.flatten, .gn (gSp t (.slice ya t.lv.length yk) (.slice yc t.pa.length yj)), .gn (gSp s (.slice xa s.lv.length xk) (.slice xc s.pa.length xj))] w2) := Lib.hid (E3.out.below hb)
            clear r1 r2 r3 r4 r5 r6 c7 c8 E3 hb
            have b9 := E4.out.bx 1 rfl
            have c9 := b9.cell 78 (spc_tail HS.out _ _).2.1
            clear b9
            have b10 := E4.out.bx 0 rfl
            have c10 := b10.cell 78 (spc_tail HT.out _ _).2.1
            clear b10
            have hfin := Lib.hid E4.out.bel
            go_wp2
            go_ret
            exact ⟨RetEqB HR.out.symm, hfin.out⟩
          | true =>
            obtain ⟨c6, c6h⟩ : ∃ b : Bool, b = true ↔ samePa s.pa t.pa := by by_cases h : samePa s.pa t.pa; (· exact ⟨true, ⟨fun _ => h, fun _ => rfl⟩⟩); exact ⟨false, ⟨fun h2 => Bool.noConfusion h2, fun h2 => absurd h2 h⟩⟩
            have c6H := Lib.hid c6h
            clear c6h
            have HR : Hid (r = c6) := Lib.hid (by rw [Bool.eq_iff_iff, hr.out, c6H.out, ← sameS_iff HS.out HT.out]; unfold sameS; rw [eqc_iff tCoin HS.out.cn HT.out.cn, eqc_iff tNode HS.out.nd HT.out.nd, eqc_iff tCtx HS.out.cx HT.out.cx]; exact ⟨fun h => h.2.2.2.2.2, fun h => ⟨c1H.out.1 rfl, c2H.out.1 rfl, c3H.out.1 rfl, c4H.out.1 rfl, c5H.out.1 rfl, h⟩⟩)
            have b1 := E3.out.bx 1 rfl
            have r1 := Lib.hid (b1.range (o := 0) (spc_cn HS.out _ _))
            clear b1
            have b2 := E3.out.bx 0 rfl
            have r2 := Lib.hid (b2.range (o := 0) (spc_cn HT.out _ _))
            clear b2
            have b3 := E3.out.bx 1 rfl
            have r3 := Lib.hid (b3.range (o := 41) (spc_nd HS.out _ _))
            clear b3
            have b4 := E3.out.bx 0 rfl
            have r4 := Lib.hid (b4.range (o := 41) (spc_nd HT.out _ _))
            clear b4
            have b5 := E3.out.bx 1 rfl
            have r5 := Lib.hid (b5.range (o := 43) (spc_cx HS.out _ _))
            clear b5
            have b6 := E3.out.bx 0 rfl
            have r6 := Lib.hid (b6.range (o := 43) (spc_cx HT.out _ _))
            clear b6
            have b7 := E3.out.bx 1 rfl
            have c7 := b7.cell 77 (spc_tail HS.out _ _).1
            clear b7
            have b8 := E3.out.bx 0 rfl
            have c8 := b8.cell 77 (spc_tail HT.out _ _).1
            clear b8
            go_wp2_with (first | (with_reducible refine wpl_load_w wCoin w.heap.size 0 ?_ ?_ s.cn HS.out.cn r1.out ?_; (· exact ⟨_, rfl, rfl⟩); (· kernel_rfl)) | (with_reducible refine wpl_load_w wCoin (w.heap.size + 1) 0 ?_ ?_ t.cn HT.out.cn r2.out ?_; (· exact ⟨_, rfl, rfl⟩); (· kernel_rfl)) | (with_reducible refine wpl_load_w wNode w.heap.size 41 ?_ ?_ s.nd HS.out.nd r3.out ?_; (· exact ⟨_, rfl, rfl⟩); (· kernel_rfl)) | (with_reducible refine wpl_load_w wNode (w.heap.size + 1) 41 ?_ ?_ t.nd HT.out.nd r4.out ?_; (· exact ⟨_, rfl, rfl⟩); (· kernel_rfl)) | (with_reducible refine wpl_load_w wCtx w.heap.size 43 ?_ ?_ s.cx HS.out.cx r5.out ?_; (· exact ⟨_, rfl, rfl⟩); (· kernel_rfl)) | (with_reducible refine wpl_load_w wCtx (w.heap.size + 1) 43 ?_ ?_ t.cx HT.out.cx r6.out ?_; (· exact ⟨_, rfl, rfl⟩); (· kernel_rfl)))
            refine (eqL s.lv t.lv (E3.out.fc 2 rfl) (E3.out.fc 0 rfl) (hm := ⟨fs.out.1, ft.out.1⟩) (t := true) (by first | exact c4H.out | simpa using c4H.out)).mono ?_
            rintro e w2 ⟨rfl, hb⟩
            have E4 : Hid (Env D w [(w.heap.size + 1, 41, spc t (.slice ya t.lv.length yk) (.slice yc t.pa.length yj)), (w.heap.size, 41, spc s (.slice xa s.lv.length xk) (.slice xc s.pa.length xj))] [.rw (.slice ya t.lv.length yk) t.lv.length 3 (lcl t.lv), .rw (.slice yc t.pa.length yj) t.pa.length 32 t.pa.flatten, .rw (.slice xa s.lv.length xk) s.lv.length 3 (lcl s.lv), .rw (.slice xc s.pa.length xj) s.pa.length 32 s.pa.flatten, .gn (gSp t (.slice ya t.lv.length yk) (.slice yc t.pa.length yj)), .gn (gSp s (.slice xa s.lv.length xk) (.slice xc s.pa.length xj))] w2) := Lib.hid (E3.out.below hb)
            clear r1 r2 r3 r4 r5 r6 c7 c8 E3 hb
            have b9 := E4.out.bx 1 rfl
            have c9 := b9.cell 78 (spc_tail HS.out _ _).2.1
            clear b9
            have b10 := E4.out.bx 0 rfl
            have c10 := b10.cell 78 (spc_tail HT.out _ _).2.1
            clear b10
            have b11 := E4.out.bx 1 rfl
            have c11 := b11.cell 79 (spc_tail HS.out _ _).2.2
            clear b11
            have b12 := E4.out.bx 0 rfl
            have c12 := b12.cell 79 (spc_tail HT.out _ _).2.2
            clear b12
            go_wp2_with fail
            refine (eqH s.pa t.pa (E4.out.fc 3 rfl) (E4.out.fc 1 rfl) HS.out.pa HT.out.pa (hm := ⟨fs.out.2, ft.out.2⟩) c6H.out).mono ?_
            rintro e w3 ⟨rfl, hb⟩
            have E5 : Hid (Env D w [(w.heap.size + 1, 41, spc t (.slice ya t.lv.length yk) (.slice yc t.pa.length yj)), (w.heap.size, 41, spc s (.slice xa s.lv.length xk) (.slice xc s.pa.length xj))] [.rw (.slice ya t.lv.length yk) t.lv.length 3 (lcl t.lv), .rw (.slice yc t.pa.length yj) t.pa.length 32 t.pa.flatten, .rw (.slice xa s.lv.length xk) s.lv.length 3 (lcl s.lv), .rw (.slice xc s.pa.length xj) s.pa.length 32 s.pa.flatten, .gn (gSp t (.slice ya t.lv.length yk) (.slice yc t.pa.length yj)), .gn (gSp s (.slice xa s.lv.length xk) (.slice xc s.pa.length xj))] w3) := Lib.hid (E4.out.below hb)
            clear c9 c10 c11 c12 E4 hb
            have hfin := Lib.hid E5.out.bel
            go_wp2
            go_ret
            exact ⟨RetEqB HR.out.symm, hfin.out⟩
end Go.Proofs.Ytfnnfmefihiefaa

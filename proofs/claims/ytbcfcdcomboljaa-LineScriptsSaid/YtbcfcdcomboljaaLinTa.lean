/- specieref39: Receive. -/
import Derived.Test.YtbcfcdcomboljaaLinR
import Derived.Test.YtbcfcdcomboljaaLinQb
namespace Go.Proofs.Ytbcfcdcomboljaa
open Go.RowKit
set_option linter.unusedVariables false
set_option linter.unusedSimpArgs false
/-- a line, a message and a truth value came back -/
def RetLMB (D : Nat → Prop) (l : Lin) (M : Msg) (t : Bool) (e : Ending) (W : World) : Prop := ∃ v ao k, e = .returned (.tuple #[v, .agg #[.int .i64 M.fr, .int .i64 M.to_, .int .i64 M.kd, .int .i64 M.nm, .slice ao M.body.length k], .bool t]) ∧ RetL D l v W ∧ Hid (Bs W D (.slice ao M.body.length k) M.body)
theorem Bs.u8 {W : World} {D : Nat → Prop} {v : Value} {l : List Nat} (h : Bs W D v l) : ∀ u ∈ l, u < 256 := by obtain ⟨_, _, _, _, _, h, _⟩ := h; exact h
/-- a part of a list without its f-th element -/
def er {α : Type} (l : List α) (k f : Nat) : List α := (l.take k).eraseIdx f
theorem er_zero {α : Type} (l : List α) (f : Nat) : er l 0 f = [] := by simp [er]
theorem er_app {α : Type} {l : List α} {k f : Nat} (hk : k < l.length) (h : k ≠ f) : er l k f ++ [l[k]] = er l (k + 1) f := by
  unfold er
  rw [List.take_succ_eq_append_getElem hk]
  have hl : (l.take k).length = k := by simp; omega
  by_cases hf : f < k
  · rw [List.eraseIdx_append_of_lt_length (by omega)]
  · rw [List.eraseIdx_append_of_length_le (by omega), hl, List.eraseIdx_of_length_le (by omega : (l.take k).length ≤ f), List.eraseIdx_of_length_le (by simp; omega)]
theorem er_at {α : Type} {l : List α} {f : Nat} (hf : f < l.length) : er l f f = er l (f + 1) f := by
  unfold er
  rw [List.take_succ_eq_append_getElem hf, List.eraseIdx_append_of_length_le (by rw [List.length_take]; omega), List.eraseIdx_of_length_le (by rw [List.length_take]; omega)]
  have : f - (l.take f).length = 0 := by simp; omega
  rw [this]; simp
theorem er_end {α : Type} (l : List α) (f : Nat) : er l l.length f = l.eraseIdx f := by simp [er]
theorem er_len_app {α : Type} {l : List α} {k f : Nat} (hk : k < l.length) (h : k ≠ f) : (er l k f).length + 1 = (er l (k + 1) f).length := by rw [← er_app hk h]; simp
theorem er_le {α : Type} (l : List α) (k f : Nat) : (er l k f).length ≤ k := by
  unfold er; rw [List.length_eraseIdx]; split <;> simp <;> omega
set_option maxRecDepth 100000 in
set_option maxHeartbeats 1000000 in
theorem rReceive_c {D : Nat → Prop} (l : Lin) (pt : Int) (f : Nat) (M : Msg) {xa xb xc : Option Addr} {xj xk xm : Nat} {w : World} (h1 : Fct.at w D (.ms (.slice xa l.L.length xj) l.L)) (h2 : Fct.at w D (.rw (.slice xb l.ats.length xk) l.ats.length 1 (icl l.ats))) (h3 : Fct.at w D (.rw (.slice xc l.ft.length xm) l.ft.length 2 (fcl l.ft))) (hf0 : (∀ j, j < f → arrB l pt j = false) ∧ (f < l.L.length → arrB l pt f = true ∧ ∀ h : f < l.L.length, l.L[f] = M)) (hbig0 : (l.L.length ≤ 100000 ∧ l.ats.length ≤ 100000 ∧ l.ft.length ≤ 100000) ∧ ∀ k (h : k < l.L.length), l.L[k].body.length ≤ 1000000) (H20 : l.L.length = l.ats.length) :
    Calls Try.prog 48 #[.agg #[.int .i64 l.nw, .slice xa l.L.length xj, .slice xb l.ats.length xk, .slice xc l.ft.length xm], .int .i64 pt] w fun e w' => ((f < l.L.length → RetLMB (fun b => D b ∨ w.heap.size ≤ b) (recvL l f) M true e w') ∧ (¬ f < l.L.length → RetLMB (fun b => D b ∨ w.heap.size ≤ b) L0 M0 false e w')) ∧ Below w.heap.size w w' := by
  have E0 := Lib.hid ((((Env.start D w).arg (.ms (.slice xa l.L.length xj) l.L) h1).arg (.rw (.slice xb l.ats.length xk) l.ats.length 1 (icl l.ats)) h2).arg (.rw (.slice xc l.ft.length xm) l.ft.length 2 (fcl l.ft)) h3)
  clear h1 h2 h3
  go_enter Try.func48, Try.ntmps48
  have hf := Lib.hid hf0
  have hbig := Lib.hid hbig0
  have H2 := Lib.hid H20
  clear hf0 hbig0 H20
  obtain ⟨l1, l2⟩ : l.L.length ≤ 100000 ∧ l.ats.length ≤ 100000 := ⟨hbig.out.1.1, hbig.out.1.2.1⟩
  go_upto_region 1 with (fail)
  have E1 := Lib.hid ((((E0.out.push 64 [.int .i64 l.nw, .slice xa l.L.length xj, .slice xb l.ats.length xk, .slice xc l.ft.length xm] (w.heap.size) (by simp)).push 64 [.int .i64 0, .slice none 0 0, .slice none 0 0, .slice none 0 0] (w.heap.size + 1) (by simp)).push 24 [.int .i64 0, .int .i64 0, .int .i64 0, .int .i64 0, .slice none 0 0] (w.heap.size + 1 + 1) (by simp)))
  clear E0
  generalize ((w.alloc (.cells #[.int .i64 l.nw, .slice xa l.L.length xj, .slice xb l.ats.length xk, .slice xc l.ft.length xm] 64)).alloc (.cells #[.int .i64 0, .slice none 0 0, .slice none 0 0, .slice none 0 0] 64)).alloc (.cells #[.int .i64 0, .int .i64 0, .int .i64 0, .int .i64 0, .slice none 0 0] 24) = w1 at *
  go_cut [7] (fun s7 wx => ∃ gO fts ftc fta ftk, s7 = .pointer (some ⟨gO, 0, none⟩) ∧ Hid (Env D w ((gO, 64, [.int .i64 l.nw, .slice none 0 0, .slice none 0 0, .slice fta l.ft.length ftk]) :: (w.heap.size + 1 + 1, 24, [.int .i64 0, .int .i64 0, .int .i64 0, .int .i64 0, .slice none 0 0]) :: (w.heap.size + 1, 64, [.int .i64 0, .slice none 0 0, .slice none 0 0, .slice none 0 0]) :: (w.heap.size, 64, [.int .i64 l.nw, .slice xa l.L.length xj, .slice xb l.ats.length xk, .slice xc l.ft.length xm]) :: fts) [.rw (.slice xc l.ft.length xm) l.ft.length 2 (fcl l.ft), .rw (.slice xb l.ats.length xk) l.ats.length 1 (icl l.ats), .ms (.slice xa l.L.length xj) l.L] wx) ∧ Hid (OS 72 2 fts ftc (.slice fta l.ft.length ftk) l.ft.length) ∧ Hid (ftc.take (l.ft.length * 2) = fcl l.ft))
  case first =>
    have E2 := Lib.hid E1.out.drew
    clear E1
    refine wp_regionU (S := fun w' => w'.cell? ⟨w.heap.size, 0, none⟩ = some (.int .i64 l.nw) ∧ w'.cell? ⟨w.heap.size, 3, none⟩ = some (.slice xc l.ft.length xm)) [] (by kernel_rfl) (⟨((E2.out.bx 2 rfl).cell 0 rfl), ((E2.out.bx 2 rfl).cell 3 rfl)⟩) (fun hHeld => ?_)
    generalize w1.drew = w2 at *
    refine uTake (i := 0) (some 11) (v := ?_) rfl rfl (by kernel_rfl) (by kernel_rfl) (by kernel_rfl) (by kernel_rfl) (fun _ _ _ h => h) (by rfl) (by assumption) ?_ ?_
    rotate_left
    · (intro wS hSw; (try dsimp only at hSw); go_simp; try with_reducible rfl)
    try simp only [Act.put, List.setIfInBounds_toArray, List.set_cons_zero, List.set_cons_succ]
    refine uTake (i := 1) (some 12) (v := ?_) rfl rfl (by kernel_rfl) (by kernel_rfl) (by kernel_rfl) (by kernel_rfl) (fun _ _ _ h => h) (by rfl) (by assumption) ?_ ?_
    rotate_left
    · (intro wS hSw; (try dsimp only at hSw); go_simp; try with_reducible rfl)
    try simp only [Act.put, List.setIfInBounds_toArray, List.set_cons_zero, List.set_cons_succ]
    refine uTake (i := 3) (some 14) (v := ?_) rfl rfl (by kernel_rfl) (by kernel_rfl) (by kernel_rfl) (by kernel_rfl) (fun _ _ _ h => h) (by rfl) (by assumption) ?_ ?_
    rotate_left
    · (intro wS hSw; (try dsimp only at hSw); go_simp; try with_reducible rfl)
    try simp only [Act.put, List.setIfInBounds_toArray, List.set_cons_zero, List.set_cons_succ]
    refine uTake (i := 4) (some 15) (v := ?_) rfl rfl (by kernel_rfl) (by kernel_rfl) (by kernel_rfl) (by kernel_rfl) (fun _ _ _ h => h) (by rfl) (by assumption) ?_ ?_
    rotate_left
    · (intro wS hSw; (try dsimp only at hSw); go_simp; try with_reducible rfl)
    try simp only [Act.put, List.setIfInBounds_toArray, List.set_cons_zero, List.set_cons_succ]
    refine uReady (rs := [2, 7]) (by kernel_rfl) (by simp) ?_
    refine (ReadyU.cons rfl (fun KK hKK => ?_) (ReadyU.cons rfl (fun KK hKK => ?_) ReadyU.nil))
    · skip
      go_simp
      have E3 := Lib.hid ((E2.out.push 72 [] (w2.heap.size) (by simp)))
      (try dsimp only)
      clear hHeld
      refine hKK.out _ _ (⟨((E3.out.bx 3 rfl).cell 0 rfl), ((E3.out.bx 3 rfl).cell 3 rfl)⟩) (fun hHeld => ?_)
      clear hKK KK
      try simp only [Act.put, List.setIfInBounds_toArray, List.set_cons_zero, List.set_cons_succ]
      clear E2
      generalize w2.alloc (.cells #[] 72) = w3 at *
      refine uReady (rs := [5, 7]) (by kernel_rfl) (by simp) ?_
      refine (ReadyU.cons rfl (fun KK hKK => ?_) (ReadyU.cons rfl (fun KK hKK => ?_) ReadyU.nil))
      · skip
        refine op_appN (c := xm) tiF (some 16) rfl rfl (.tmp 13) (.tmp 15) rfl E3.out (A := []) (sg := [(w2.heap.size, 72, [])]) (B' := [(w.heap.size + 1 + 1, 24, [.int .i64 0, .int .i64 0, .int .i64 0, .int .i64 0, .slice none 0 0]), (w.heap.size + 1, 64, [.int .i64 0, .slice none 0 0, .slice none 0 0, .slice none 0 0]), (w.heap.size, 64, [.int .i64 l.nw, .slice xa l.L.length xj, .slice xb l.ats.length xk, .slice xc l.ft.length xm])]) (n := 0) (by simp) (.inr ⟨w2.heap.size, 0, rfl, rfl, Nat.le_refl _, by omega, rfl⟩) (by simp [Act.eval, Act.put]; done) (by simp [Act.eval, Act.put]; done) (Rw.src (E3.out.fc 0 rfl)) (by have := hbig.out.1; omega) ?_
        intro fts ftv ftc w4 ftO ftT ftE
        (try simp only [Nat.zero_add] at ftO ftT)
        obtain ⟨fta, ftk, rfl⟩ := ftO.out.len
        have E4 : Hid (Env D w ((w.heap.size + 1 + 1, 24, [.int .i64 0, .int .i64 0, .int .i64 0, .int .i64 0, .slice none 0 0]) :: (w.heap.size + 1, 64, [.int .i64 0, .slice none 0 0, .slice none 0 0, .slice none 0 0]) :: (w.heap.size, 64, [.int .i64 l.nw, .slice xa l.L.length xj, .slice xb l.ats.length xk, .slice xc l.ft.length xm]) :: fts) [.rw (.slice xc l.ft.length xm) l.ft.length 2 (fcl l.ft), .rw (.slice xb l.ats.length xk) l.ats.length 1 (icl l.ats), .ms (.slice xa l.L.length xj) l.L] w4) := Lib.hid ((ftE.out.perm (List.Perm.append_left _ List.perm_append_comm)).cast (by simp))
        clear E3 ftE
        (try dsimp only)
        clear hHeld
        refine hKK.out _ _ (⟨((E4.out.bx 2 rfl).cell 0 rfl), ((E4.out.bx 2 rfl).cell 3 rfl)⟩) (fun hHeld => ?_)
        clear hKK KK
        try simp only [Act.put, List.setIfInBounds_toArray, List.set_cons_zero, List.set_cons_succ]
        refine uTake (i := 6) (some 17) (v := ?_) rfl rfl (by kernel_rfl) (by kernel_rfl) (by kernel_rfl) (by kernel_rfl) (fun _ _ _ h => h) (by rfl) (by assumption) ?_ ?_
        rotate_left
        · (intro wS hSw; (try dsimp only at hSw); go_simp; try with_reducible rfl)
        try simp only [Act.put, List.setIfInBounds_toArray, List.set_cons_zero, List.set_cons_succ]
        refine uReady (rs := [7]) (by kernel_rfl) (by simp) ?_
        refine ReadyU.cons rfl (fun KK hKK => ?_) ReadyU.nil
        go_simp
        have E5 := Lib.hid ((E4.out.push 64 [.int .i64 0, .slice none 0 0, .slice none 0 0, .slice none 0 0] (w4.heap.size) (by simp)))
        (try dsimp only)
        clear hHeld
        refine hKK.out _ _ (⟨((E5.out.bx 3 rfl).cell 0 rfl), ((E5.out.bx 3 rfl).cell 3 rfl)⟩) (fun hHeld => ?_)
        clear hKK KK
        try simp only [Act.put, List.setIfInBounds_toArray, List.set_cons_zero, List.set_cons_succ]
        clear E4
        generalize w4.alloc (.cells #[.int .i64 0, .slice none 0 0, .slice none 0 0, .slice none 0 0] 64) = w5 at *
        have b1 := E5.out.bx 0 rfl
        have c1_0 := b1.cell 0 rfl
        have c1_1 := b1.cell 1 rfl
        have c1_2 := b1.cell 2 rfl
        have c1_3 := b1.cell 3 rfl
        have f1_0 := b1.frozen 0
        have f1_1 := b1.frozen 1
        have f1_2 := b1.frozen 2
        have f1_3 := b1.frozen 3
        clear b1
        refine uReady (rs := [8]) (by kernel_rfl) (by simp) ?_
        refine ReadyU.cons rfl (fun KK hKK => ?_) ReadyU.nil
        go_simp
        have E6 : Hid (Env D w ((w4.heap.size, 64, [.int .i64 l.nw, .slice none 0 0, .slice none 0 0, .slice fta l.ft.length ftk]) :: (w.heap.size + 1 + 1, 24, [.int .i64 0, .int .i64 0, .int .i64 0, .int .i64 0, .slice none 0 0]) :: (w.heap.size + 1, 64, [.int .i64 0, .slice none 0 0, .slice none 0 0, .slice none 0 0]) :: (w.heap.size, 64, [.int .i64 l.nw, .slice xa l.L.length xj, .slice xb l.ats.length xk, .slice xc l.ft.length xm]) :: fts) [.rw (.slice xc l.ft.length xm) l.ft.length 2 (fcl l.ft), .rw (.slice xb l.ats.length xk) l.ats.length 1 (icl l.ats), .ms (.slice xa l.L.length xj) l.L] _) := Lib.hid (((((E5.out.set 0 0 (.int .i64 l.nw) rfl).set 0 1 (.slice none 0 0) rfl).set 0 2 (.slice none 0 0) rfl).set 0 3 (.slice fta l.ft.length ftk) rfl))
        (try dsimp only)
        clear hHeld
        refine hKK.out _ _ (⟨((E6.out.bx 3 rfl).cell 0 rfl), ((E6.out.bx 3 rfl).cell 3 rfl)⟩) (fun hHeld => ?_)
        clear hKK KK
        try simp only [Act.put, List.setIfInBounds_toArray, List.set_cons_zero, List.set_cons_succ]
        refine uDone (by kernel_rfl) ?_ _
        go_wp2_with fail
        go_meet
        exact ⟨w4.heap.size, fts, ftc, fta, ftk, rfl, Lib.hid E6.out, ftO, ftT⟩
      · skip
        go_simp
        have E4 := Lib.hid ((E3.out.push 64 [.int .i64 0, .slice none 0 0, .slice none 0 0, .slice none 0 0] (w3.heap.size) (by simp)))
        (try dsimp only)
        clear hHeld
        refine hKK.out _ _ (⟨((E4.out.bx 4 rfl).cell 0 rfl), ((E4.out.bx 4 rfl).cell 3 rfl)⟩) (fun hHeld => ?_)
        clear hKK KK
        try simp only [Act.put, List.setIfInBounds_toArray, List.set_cons_zero, List.set_cons_succ]
        clear E3
        generalize w3.alloc (.cells #[.int .i64 0, .slice none 0 0, .slice none 0 0, .slice none 0 0] 64) = w4 at *
        refine uReady (rs := [5]) (by kernel_rfl) (by simp) ?_
        refine ReadyU.cons rfl (fun KK hKK => ?_) ReadyU.nil
        refine op_appN (c := xm) tiF (some 16) rfl rfl (.tmp 13) (.tmp 15) rfl E4.out (A := [(w3.heap.size, 64, [.int .i64 0, .slice none 0 0, .slice none 0 0, .slice none 0 0])]) (sg := [(w2.heap.size, 72, [])]) (B' := [(w.heap.size + 1 + 1, 24, [.int .i64 0, .int .i64 0, .int .i64 0, .int .i64 0, .slice none 0 0]), (w.heap.size + 1, 64, [.int .i64 0, .slice none 0 0, .slice none 0 0, .slice none 0 0]), (w.heap.size, 64, [.int .i64 l.nw, .slice xa l.L.length xj, .slice xb l.ats.length xk, .slice xc l.ft.length xm])]) (n := 0) (by simp) (.inr ⟨w2.heap.size, 0, rfl, rfl, Nat.le_refl _, by omega, rfl⟩) (by simp [Act.eval, Act.put]; done) (by simp [Act.eval, Act.put]; done) (Rw.src (E4.out.fc 0 rfl)) (by have := hbig.out.1; omega) ?_
        intro fts ftv ftc w5 ftO ftT ftE
        (try simp only [Nat.zero_add] at ftO ftT)
        obtain ⟨fta, ftk, rfl⟩ := ftO.out.len
        have E5 : Hid (Env D w ((w3.heap.size, 64, [.int .i64 0, .slice none 0 0, .slice none 0 0, .slice none 0 0]) :: (w.heap.size + 1 + 1, 24, [.int .i64 0, .int .i64 0, .int .i64 0, .int .i64 0, .slice none 0 0]) :: (w.heap.size + 1, 64, [.int .i64 0, .slice none 0 0, .slice none 0 0, .slice none 0 0]) :: (w.heap.size, 64, [.int .i64 l.nw, .slice xa l.L.length xj, .slice xb l.ats.length xk, .slice xc l.ft.length xm]) :: fts) [.rw (.slice xc l.ft.length xm) l.ft.length 2 (fcl l.ft), .rw (.slice xb l.ats.length xk) l.ats.length 1 (icl l.ats), .ms (.slice xa l.L.length xj) l.L] w5) := Lib.hid ((ftE.out.perm (List.Perm.append_left _ List.perm_append_comm)).cast (by simp))
        clear E4 ftE
        (try dsimp only)
        clear hHeld
        refine hKK.out _ _ (⟨((E5.out.bx 3 rfl).cell 0 rfl), ((E5.out.bx 3 rfl).cell 3 rfl)⟩) (fun hHeld => ?_)
        clear hKK KK
        try simp only [Act.put, List.setIfInBounds_toArray, List.set_cons_zero, List.set_cons_succ]
        refine uTake (i := 6) (some 17) (v := ?_) rfl rfl (by kernel_rfl) (by kernel_rfl) (by kernel_rfl) (by kernel_rfl) (fun _ _ _ h => h) (by rfl) (by assumption) ?_ ?_
        rotate_left
        · (intro wS hSw; (try dsimp only at hSw); go_simp; try with_reducible rfl)
        try simp only [Act.put, List.setIfInBounds_toArray, List.set_cons_zero, List.set_cons_succ]
        have b1 := E5.out.bx 0 rfl
        have c1_0 := b1.cell 0 rfl
        have c1_1 := b1.cell 1 rfl
        have c1_2 := b1.cell 2 rfl
        have c1_3 := b1.cell 3 rfl
        have f1_0 := b1.frozen 0
        have f1_1 := b1.frozen 1
        have f1_2 := b1.frozen 2
        have f1_3 := b1.frozen 3
        clear b1
        refine uReady (rs := [8]) (by kernel_rfl) (by simp) ?_
        refine ReadyU.cons rfl (fun KK hKK => ?_) ReadyU.nil
        go_simp
        have E6 : Hid (Env D w ((w3.heap.size, 64, [.int .i64 l.nw, .slice none 0 0, .slice none 0 0, .slice fta l.ft.length ftk]) :: (w.heap.size + 1 + 1, 24, [.int .i64 0, .int .i64 0, .int .i64 0, .int .i64 0, .slice none 0 0]) :: (w.heap.size + 1, 64, [.int .i64 0, .slice none 0 0, .slice none 0 0, .slice none 0 0]) :: (w.heap.size, 64, [.int .i64 l.nw, .slice xa l.L.length xj, .slice xb l.ats.length xk, .slice xc l.ft.length xm]) :: fts) [.rw (.slice xc l.ft.length xm) l.ft.length 2 (fcl l.ft), .rw (.slice xb l.ats.length xk) l.ats.length 1 (icl l.ats), .ms (.slice xa l.L.length xj) l.L] _) := Lib.hid (((((E5.out.set 0 0 (.int .i64 l.nw) rfl).set 0 1 (.slice none 0 0) rfl).set 0 2 (.slice none 0 0) rfl).set 0 3 (.slice fta l.ft.length ftk) rfl))
        (try dsimp only)
        clear hHeld
        refine hKK.out _ _ (⟨((E6.out.bx 3 rfl).cell 0 rfl), ((E6.out.bx 3 rfl).cell 3 rfl)⟩) (fun hHeld => ?_)
        clear hKK KK
        try simp only [Act.put, List.setIfInBounds_toArray, List.set_cons_zero, List.set_cons_succ]
        refine uDone (by kernel_rfl) ?_ _
        go_wp2_with fail
        go_meet
        exact ⟨w3.heap.size, fts, ftc, fta, ftk, rfl, Lib.hid E6.out, ftO, ftT⟩
    · skip
      go_simp
      have E3 := Lib.hid ((E2.out.push 64 [.int .i64 0, .slice none 0 0, .slice none 0 0, .slice none 0 0] (w2.heap.size) (by simp)))
      (try dsimp only)
      clear hHeld
      refine hKK.out _ _ (⟨((E3.out.bx 3 rfl).cell 0 rfl), ((E3.out.bx 3 rfl).cell 3 rfl)⟩) (fun hHeld => ?_)
      clear hKK KK
      try simp only [Act.put, List.setIfInBounds_toArray, List.set_cons_zero, List.set_cons_succ]
      clear E2
      generalize w2.alloc (.cells #[.int .i64 0, .slice none 0 0, .slice none 0 0, .slice none 0 0] 64) = w3 at *
      refine uReady (rs := [2]) (by kernel_rfl) (by simp) ?_
      refine ReadyU.cons rfl (fun KK hKK => ?_) ReadyU.nil
      go_simp
      have E4 := Lib.hid ((E3.out.push 72 [] (w3.heap.size) (by simp)))
      (try dsimp only)
      clear hHeld
      refine hKK.out _ _ (⟨((E4.out.bx 4 rfl).cell 0 rfl), ((E4.out.bx 4 rfl).cell 3 rfl)⟩) (fun hHeld => ?_)
      clear hKK KK
      try simp only [Act.put, List.setIfInBounds_toArray, List.set_cons_zero, List.set_cons_succ]
      clear E3
      generalize w3.alloc (.cells #[] 72) = w4 at *
      refine uReady (rs := [5]) (by kernel_rfl) (by simp) ?_
      refine ReadyU.cons rfl (fun KK hKK => ?_) ReadyU.nil
      refine op_appN (c := xm) tiF (some 16) rfl rfl (.tmp 13) (.tmp 15) rfl E4.out (A := []) (sg := [(w3.heap.size, 72, [])]) (B' := [(w2.heap.size, 64, [.int .i64 0, .slice none 0 0, .slice none 0 0, .slice none 0 0]), (w.heap.size + 1 + 1, 24, [.int .i64 0, .int .i64 0, .int .i64 0, .int .i64 0, .slice none 0 0]), (w.heap.size + 1, 64, [.int .i64 0, .slice none 0 0, .slice none 0 0, .slice none 0 0]), (w.heap.size, 64, [.int .i64 l.nw, .slice xa l.L.length xj, .slice xb l.ats.length xk, .slice xc l.ft.length xm])]) (n := 0) (by simp) (.inr ⟨w3.heap.size, 0, rfl, rfl, Nat.le_refl _, by omega, rfl⟩) (by simp [Act.eval, Act.put]; done) (by simp [Act.eval, Act.put]; done) (Rw.src (E4.out.fc 0 rfl)) (by have := hbig.out.1; omega) ?_
      intro fts ftv ftc w5 ftO ftT ftE
      (try simp only [Nat.zero_add] at ftO ftT)
      obtain ⟨fta, ftk, rfl⟩ := ftO.out.len
      have E5 : Hid (Env D w ((w2.heap.size, 64, [.int .i64 0, .slice none 0 0, .slice none 0 0, .slice none 0 0]) :: (w.heap.size + 1 + 1, 24, [.int .i64 0, .int .i64 0, .int .i64 0, .int .i64 0, .slice none 0 0]) :: (w.heap.size + 1, 64, [.int .i64 0, .slice none 0 0, .slice none 0 0, .slice none 0 0]) :: (w.heap.size, 64, [.int .i64 l.nw, .slice xa l.L.length xj, .slice xb l.ats.length xk, .slice xc l.ft.length xm]) :: fts) [.rw (.slice xc l.ft.length xm) l.ft.length 2 (fcl l.ft), .rw (.slice xb l.ats.length xk) l.ats.length 1 (icl l.ats), .ms (.slice xa l.L.length xj) l.L] w5) := Lib.hid ((ftE.out.perm (List.Perm.append_left _ List.perm_append_comm)).cast (by simp))
      clear E4 ftE
      (try dsimp only)
      clear hHeld
      refine hKK.out _ _ (⟨((E5.out.bx 3 rfl).cell 0 rfl), ((E5.out.bx 3 rfl).cell 3 rfl)⟩) (fun hHeld => ?_)
      clear hKK KK
      try simp only [Act.put, List.setIfInBounds_toArray, List.set_cons_zero, List.set_cons_succ]
      refine uTake (i := 6) (some 17) (v := ?_) rfl rfl (by kernel_rfl) (by kernel_rfl) (by kernel_rfl) (by kernel_rfl) (fun _ _ _ h => h) (by rfl) (by assumption) ?_ ?_
      rotate_left
      · (intro wS hSw; (try dsimp only at hSw); go_simp; try with_reducible rfl)
      try simp only [Act.put, List.setIfInBounds_toArray, List.set_cons_zero, List.set_cons_succ]
      have b1 := E5.out.bx 0 rfl
      have c1_0 := b1.cell 0 rfl
      have c1_1 := b1.cell 1 rfl
      have c1_2 := b1.cell 2 rfl
      have c1_3 := b1.cell 3 rfl
      have f1_0 := b1.frozen 0
      have f1_1 := b1.frozen 1
      have f1_2 := b1.frozen 2
      have f1_3 := b1.frozen 3
      clear b1
      refine uReady (rs := [8]) (by kernel_rfl) (by simp) ?_
      refine ReadyU.cons rfl (fun KK hKK => ?_) ReadyU.nil
      go_simp
      have E6 : Hid (Env D w ((w2.heap.size, 64, [.int .i64 l.nw, .slice none 0 0, .slice none 0 0, .slice fta l.ft.length ftk]) :: (w.heap.size + 1 + 1, 24, [.int .i64 0, .int .i64 0, .int .i64 0, .int .i64 0, .slice none 0 0]) :: (w.heap.size + 1, 64, [.int .i64 0, .slice none 0 0, .slice none 0 0, .slice none 0 0]) :: (w.heap.size, 64, [.int .i64 l.nw, .slice xa l.L.length xj, .slice xb l.ats.length xk, .slice xc l.ft.length xm]) :: fts) [.rw (.slice xc l.ft.length xm) l.ft.length 2 (fcl l.ft), .rw (.slice xb l.ats.length xk) l.ats.length 1 (icl l.ats), .ms (.slice xa l.L.length xj) l.L] _) := Lib.hid (((((E5.out.set 0 0 (.int .i64 l.nw) rfl).set 0 1 (.slice none 0 0) rfl).set 0 2 (.slice none 0 0) rfl).set 0 3 (.slice fta l.ft.length ftk) rfl))
      (try dsimp only)
      clear hHeld
      refine hKK.out _ _ (⟨((E6.out.bx 3 rfl).cell 0 rfl), ((E6.out.bx 3 rfl).cell 3 rfl)⟩) (fun hHeld => ?_)
      clear hKK KK
      try simp only [Act.put, List.setIfInBounds_toArray, List.set_cons_zero, List.set_cons_succ]
      refine uDone (by kernel_rfl) ?_ _
      go_wp2_with fail
      go_meet
      exact ⟨w2.heap.size, fts, ftc, fta, ftk, rfl, Lib.hid E6.out, ftO, ftT⟩
  case rest =>
    obtain ⟨gO, fts, ftc, fta, ftk, rfl, E7, ftO, ftT⟩ := hcut
    clear E1
    go_wp2_with fail
    have E8 := Lib.hid ((E7.out.push 24 [.int .i64 0, .int .i64 0, .int .i64 0, .int .i64 0, .slice none 0 0] (wc.heap.size) (by simp)))
    go_loopg [8, 10] (l.L.length) (fun gk s8 s10 wr => ∃ (k : Nat) (fd : Bool) (Q : Msg) (qa : Option Addr) (qk : Nat) (sgA : List Bx) (csA : List Value) (aa : Option Addr) (ak : Nat) (sgL : List Bx) (csL : List Value) (la : Option Addr) (lj : Nat), s8 = .bool fd ∧ s10 = .int .i64 (k : Int) ∧ Hid (Env D w ((wc.heap.size, 24, [.int .i64 Q.fr, .int .i64 Q.to_, .int .i64 Q.kd, .int .i64 Q.nm, .slice qa Q.body.length qk]) :: (gO, 64, [.int .i64 l.nw, .slice la (er l.L k f).length lj, .slice aa (er l.ats k f).length ak, .slice fta l.ft.length ftk]) :: (w.heap.size + 1 + 1, 24, [.int .i64 0, .int .i64 0, .int .i64 0, .int .i64 0, .slice none 0 0]) :: (w.heap.size + 1, 64, [.int .i64 0, .slice none 0 0, .slice none 0 0, .slice none 0 0]) :: (w.heap.size, 64, [.int .i64 l.nw, .slice xa l.L.length xj, .slice xb l.ats.length xk, .slice xc l.ft.length xm]) :: (fts ++ (sgA ++ sgL))) [.mc csL (er l.L k f), .bs (.slice qa Q.body.length qk) Q.body, .rw (.slice xc l.ft.length xm) l.ft.length 2 (fcl l.ft), .rw (.slice xb l.ats.length xk) l.ats.length 1 (icl l.ats), .ms (.slice xa l.L.length xj) l.L] wr) ∧ Hid (OI sgA csA (.slice aa (er l.ats k f).length ak) (er l.ats k f)) ∧ Hid (LS sgL csL (.slice la (er l.L k f).length lj) (er l.L k f)) ∧ Hid ((k ≤ l.L.length ∧ gk = l.L.length - k) ∧ (k ≤ f → fd = false) ∧ (f < k → fd = true ∧ Q = M)))
    case atStart => exact ⟨0, false, M0, none, 0, [], [], none, 0, [], [], none, 0, rfl, rfl, Lib.hid (((E8.out.note (.bs (.slice none M0.body.length 0) M0.body) (Bs.nil _ _)).note (.mc [] (er l.L 0 f)) (by rw [er_zero]; exact mc_nil _ _)).cast (by simp [er_zero, M0])), by rw [er_zero]; exact Lib.hid OI.nil, by rw [er_zero]; exact Lib.hid LS.nil, Lib.hid ⟨⟨Nat.zero_le _, rfl⟩, fun _ => rfl, fun h => absurd h (Nat.not_lt_zero _)⟩⟩
    case round =>
      clear E7 E8
      obtain ⟨k, fd, Q, qa, qk, sgA, csA, aa, ak, sgL, csL, la, lj, rfl, rfl, EL, hOI, hLS, HA⟩ := hrel
      obtain ⟨⟨a1, a2⟩, a3, a4⟩ := HA.out
      have HF1 := Lib.hid a3
      have HF2 := Lib.hid a4
      clear HA a3 a4
      have el1 := er_le l.L k f
      have el2 := er_le l.ats k f
      by_cases hy : k = l.L.length
      rotate_left
      · have hk : k < l.L.length := by omega
        have t6 : decide ((k : Int) < (l.L.length : Int)) = true := decide_eq_true (by omega)
        have t7 : decide (k < l.L.length) = true := decide_eq_true hk
        have hk2 : k < l.ats.length := by have := H2.out; omega
        clear hy
        have hae := Lib.hid (arrB_eq (pt := pt) hk hk2)
        obtain ⟨xab, xao, rfl⟩ := Ms.addr (EL.out.fc 4 rfl) hk
        obtain ⟨ua, uk, E90⟩ := EL.out.els 4 rfl (k) hk
        have E9 : Hid (Env D w ((wc.heap.size, 24, [.int .i64 Q.fr, .int .i64 Q.to_, .int .i64 Q.kd, .int .i64 Q.nm, .slice qa Q.body.length qk]) :: (gO, 64, [.int .i64 l.nw, .slice la (er l.L k f).length lj, .slice aa (er l.ats k f).length ak, .slice fta l.ft.length ftk]) :: (w.heap.size + 1 + 1, 24, [.int .i64 0, .int .i64 0, .int .i64 0, .int .i64 0, .slice none 0 0]) :: (w.heap.size + 1, 64, [.int .i64 0, .slice none 0 0, .slice none 0 0, .slice none 0 0]) :: (w.heap.size, 64, [.int .i64 l.nw, .slice (some ⟨xab, xao, none⟩) l.L.length xj, .slice xb l.ats.length xk, .slice xc l.ft.length xm]) :: (fts ++ (sgA ++ sgL))) [.ce xab (xao + k * 5) (.int .i64 l.L[k].fr), .ce xab (xao + k * 5 + 1) (.int .i64 l.L[k].to_), .ce xab (xao + k * 5 + 2) (.int .i64 l.L[k].kd), .ce xab (xao + k * 5 + 3) (.int .i64 l.L[k].nm), .ce xab (xao + k * 5 + 4) (.slice ua l.L[k].body.length uk), .bs (.slice ua l.L[k].body.length uk) l.L[k].body, .mc csL (er l.L k f), .bs (.slice qa Q.body.length qk) Q.body, .rw (.slice xc l.ft.length xm) l.ft.length 2 (fcl l.ft), .rw (.slice xb l.ats.length xk) l.ats.length 1 (icl l.ats), .ms (.slice (some ⟨xab, xao, none⟩) l.L.length xj) l.L] _) := Lib.hid E90
        clear E90 EL
        have u0 := (E9.out.fc 0 rfl).2
        have u1 := (E9.out.fc 1 rfl).2
        have u2 := (E9.out.fc 2 rfl).2
        have u3 := (E9.out.fc 3 rfl).2
        have u4 := (E9.out.fc 4 rfl).2
        obtain ⟨xbb, xbo, rfl⟩ := Rw.addr (E9.out.fc 9 rfl) (by omega)
        have E10 := Lib.hid (E9.out.elI 9 rfl rfl (k) hk2)
        clear E9
        have v0 := (E10.out.fc 0 rfl).2
        have b2 := E10.out.bx 4 rfl
        have c2_1 := b2.cell 1 rfl
        clear b2
        by_cases hfk : f < k
        · obtain ⟨rfl, hQ⟩ := HF2.out hfk
          have HQ := Lib.hid hQ
          have hkf : Hid (k ≠ f) := Lib.hid (by omega)
          have HFK := Lib.hid hfk
          clear hfk hQ HF1
          go_wp2_with fail
          have E11 := Lib.hid E10.out.drew
          clear u0 u1 u2 u3 u4 v0 c2_1 E10
          refine wp_regionU (S := fun w' => w'.cell? ⟨xab, xao + k * 5, none⟩ = some (.int .i64 l.L[k].fr) ∧ w'.cell? ⟨xab, xao + k * 5 + 1, none⟩ = some (.int .i64 l.L[k].to_) ∧ w'.cell? ⟨xab, xao + k * 5 + 2, none⟩ = some (.int .i64 l.L[k].kd) ∧ w'.cell? ⟨xab, xao + k * 5 + 3, none⟩ = some (.int .i64 l.L[k].nm) ∧ w'.cell? ⟨xab, xao + k * 5 + 4, none⟩ = some (.slice ua l.L[k].body.length uk) ∧ w'.cell? ⟨xbb, xbo + k, none⟩ = some (.int .i64 l.ats[k])) [] (by kernel_rfl) (⟨(E11.out.fc 1 rfl).2, (E11.out.fc 2 rfl).2, (E11.out.fc 3 rfl).2, (E11.out.fc 4 rfl).2, (E11.out.fc 5 rfl).2, (E11.out.fc 0 rfl).2⟩) (fun hHeld => ?_)
          generalize wr.drew = w6 at *
          refine uTake (i := 0) (some 25) (v := ?_) rfl rfl (by kernel_rfl) (by kernel_rfl) (by kernel_rfl) (by kernel_rfl) (fun _ _ _ h => h) (by rfl) (by assumption) ?_ ?_
          rotate_left
          · (intro wS hSw; (try dsimp only at hSw); go_simp; try with_reducible rfl)
          try simp only [Act.put, List.setIfInBounds_toArray, List.set_cons_zero, List.set_cons_succ]
          refine uTake (i := 1) (some 26) (v := .bool false) rfl rfl (by kernel_rfl) (by kernel_rfl) (by kernel_rfl) (by kernel_rfl) (fun _ _ _ h => h) (by rfl) (by assumption) ?_ ?_
          · (intro wS hSw; (try dsimp only at hSw); go_simp; try with_reducible rfl)
          try simp only [Act.put, List.setIfInBounds_toArray, List.set_cons_zero, List.set_cons_succ]
          refine uTake (i := 2) (some 27) (v := ?_) rfl rfl (by kernel_rfl) (by kernel_rfl) (by kernel_rfl) (by kernel_rfl) (fun _ _ _ h => h) (by rfl) (by assumption) ?_ ?_
          rotate_left
          · (intro wS hSw; (try dsimp only at hSw); go_simp; try with_reducible rfl)
          try simp only [Act.put, List.setIfInBounds_toArray, List.set_cons_zero, List.set_cons_succ]
          refine uPass (i := 3) (some 28) rfl rfl (by kernel_rfl) (by kernel_rfl) (by kernel_rfl) (by kernel_rfl) (fun _ _ _ h => h) (by rfl) (by assumption) ?_
          try simp only [Act.put, List.setIfInBounds_toArray, List.set_cons_zero, List.set_cons_succ]
          refine uPass (i := 4) (some 29) rfl rfl (by kernel_rfl) (by kernel_rfl) (by kernel_rfl) (by kernel_rfl) (fun _ _ _ h => h) (by rfl) (by assumption) ?_
          try simp only [Act.put, List.setIfInBounds_toArray, List.set_cons_zero, List.set_cons_succ]
          refine uPass (i := 5) (some 30) rfl rfl (by kernel_rfl) (by kernel_rfl) (by kernel_rfl) (by kernel_rfl) (fun _ _ _ h => h) (by rfl) (by assumption) ?_
          try simp only [Act.put, List.setIfInBounds_toArray, List.set_cons_zero, List.set_cons_succ]
          refine uPass (i := 6) (some 31) rfl rfl (by kernel_rfl) (by kernel_rfl) (by kernel_rfl) (by kernel_rfl) (fun _ _ _ h => h) (by rfl) (by assumption) ?_
          try simp only [Act.put, List.setIfInBounds_toArray, List.set_cons_zero, List.set_cons_succ]
          refine uPass (i := 7) (some 32) rfl rfl (by kernel_rfl) (by kernel_rfl) (by kernel_rfl) (by kernel_rfl) (fun _ _ _ h => h) (by rfl) (by assumption) ?_
          try simp only [Act.put, List.setIfInBounds_toArray, List.set_cons_zero, List.set_cons_succ]
          refine uPass (i := 8) (some 33) rfl rfl (by kernel_rfl) (by kernel_rfl) (by kernel_rfl) (by kernel_rfl) (fun _ _ _ h => h) (by rfl) (by assumption) ?_
          try simp only [Act.put, List.setIfInBounds_toArray, List.set_cons_zero, List.set_cons_succ]
          refine uPass (i := 9) (some 34) rfl rfl (by kernel_rfl) (by kernel_rfl) (by kernel_rfl) (by kernel_rfl) (fun _ _ _ h => h) (by rfl) (by assumption) ?_
          try simp only [Act.put, List.setIfInBounds_toArray, List.set_cons_zero, List.set_cons_succ]
          refine uPass (i := 10) (some 35) rfl rfl (by kernel_rfl) (by kernel_rfl) (by kernel_rfl) (by kernel_rfl) (fun _ _ _ h => h) (by rfl) (by assumption) ?_
          try simp only [Act.put, List.setIfInBounds_toArray, List.set_cons_zero, List.set_cons_succ]
          refine uTake (i := 11) (some 36) (v := ?_) rfl rfl (by kernel_rfl) (by kernel_rfl) (by kernel_rfl) (by kernel_rfl) (fun _ _ _ h => h) (by rfl) (by assumption) ?_ ?_
          rotate_left
          · (intro wS hSw; (try dsimp only at hSw); go_simp; try with_reducible rfl)
          try simp only [Act.put, List.setIfInBounds_toArray, List.set_cons_zero, List.set_cons_succ]
          refine uTake (i := 12) (some 37) (v := ?_) rfl rfl (by kernel_rfl) (by kernel_rfl) (by kernel_rfl) (by kernel_rfl) (fun _ _ _ h => h) (by rfl) (by assumption) ?_ ?_
          rotate_left
          · (intro wS hSw; (try dsimp only at hSw); go_simp; try with_reducible rfl)
          try simp only [Act.put, List.setIfInBounds_toArray, List.set_cons_zero, List.set_cons_succ]
          refine uPass (i := 13) (some 38) rfl rfl (by kernel_rfl) (by kernel_rfl) (by kernel_rfl) (by kernel_rfl) (fun _ _ _ h => h) (by rfl) (by assumption) ?_
          try simp only [Act.put, List.setIfInBounds_toArray, List.set_cons_zero, List.set_cons_succ]
          refine uPass (i := 14) (some 39) rfl rfl (by kernel_rfl) (by kernel_rfl) (by kernel_rfl) (by kernel_rfl) (fun _ _ _ h => h) (by rfl) (by assumption) ?_
          try simp only [Act.put, List.setIfInBounds_toArray, List.set_cons_zero, List.set_cons_succ]
          refine uPass (i := 15) (some 40) rfl rfl (by kernel_rfl) (by kernel_rfl) (by kernel_rfl) (by kernel_rfl) (fun _ _ _ h => h) (by rfl) (by assumption) ?_
          try simp only [Act.put, List.setIfInBounds_toArray, List.set_cons_zero, List.set_cons_succ]
          refine uPass (i := 16) (some 41) rfl rfl (by kernel_rfl) (by kernel_rfl) (by kernel_rfl) (by kernel_rfl) (fun _ _ _ h => h) (by rfl) (by assumption) ?_
          try simp only [Act.put, List.setIfInBounds_toArray, List.set_cons_zero, List.set_cons_succ]
          refine uPass (i := 17) (some 42) rfl rfl (by kernel_rfl) (by kernel_rfl) (by kernel_rfl) (by kernel_rfl) (fun _ _ _ h => h) (by rfl) (by assumption) ?_
          try simp only [Act.put, List.setIfInBounds_toArray, List.set_cons_zero, List.set_cons_succ]
          refine uPass (i := 18) (some 43) rfl rfl (by kernel_rfl) (by kernel_rfl) (by kernel_rfl) (by kernel_rfl) (fun _ _ _ h => h) (by rfl) (by assumption) ?_
          try simp only [Act.put, List.setIfInBounds_toArray, List.set_cons_zero, List.set_cons_succ]
          refine uPass (i := 19) (some 44) rfl rfl (by kernel_rfl) (by kernel_rfl) (by kernel_rfl) (by kernel_rfl) (fun _ _ _ h => h) (by rfl) (by assumption) ?_
          try simp only [Act.put, List.setIfInBounds_toArray, List.set_cons_zero, List.set_cons_succ]
          refine uPass (i := 20) (some 45) rfl rfl (by kernel_rfl) (by kernel_rfl) (by kernel_rfl) (by kernel_rfl) (fun _ _ _ h => h) (by rfl) (by assumption) ?_
          try simp only [Act.put, List.setIfInBounds_toArray, List.set_cons_zero, List.set_cons_succ]
          refine uTake (i := 21) (some 46) (v := ?_) rfl rfl (by kernel_rfl) (by kernel_rfl) (by kernel_rfl) (by kernel_rfl) (fun _ _ _ h => h) (by rfl) (by assumption) ?_ ?_
          rotate_left
          · (intro wS hSw; (try dsimp only at hSw); go_simp; try with_reducible rfl)
          try simp only [Act.put, List.setIfInBounds_toArray, List.set_cons_zero, List.set_cons_succ]
          refine uDone (by kernel_rfl) ?_ _
          have hu8 := Lib.hid (Bs.u8 (E11.out.fc 6 rfl))
          go_wp2_with fail
          have E12 := Lib.hid E11.out.drew
          clear E11
          refine wp_regionU (S := fun w' => w'.cell? ⟨gO, 1, none⟩ = some (.slice la (er l.L k f).length lj) ∧ w'.cell? ⟨w.heap.size, 1, none⟩ = some (.slice (some ⟨xab, xao, none⟩) l.L.length xj) ∧ w'.cell? ⟨xab, xao + k * 5, none⟩ = some (.int .i64 l.L[k].fr) ∧ w'.cell? ⟨xab, xao + k * 5 + 1, none⟩ = some (.int .i64 l.L[k].to_) ∧ w'.cell? ⟨xab, xao + k * 5 + 2, none⟩ = some (.int .i64 l.L[k].kd) ∧ w'.cell? ⟨xab, xao + k * 5 + 3, none⟩ = some (.int .i64 l.L[k].nm) ∧ w'.cell? ⟨xab, xao + k * 5 + 4, none⟩ = some (.slice ua l.L[k].body.length uk)) [11] (by kernel_rfl) (⟨((E12.out.bx 1 rfl).cell 1 rfl), ((E12.out.bx 4 rfl).cell 1 rfl), (E12.out.fc 1 rfl).2, (E12.out.fc 2 rfl).2, (E12.out.fc 3 rfl).2, (E12.out.fc 4 rfl).2, (E12.out.fc 5 rfl).2⟩) (fun hHeld => ?_)
          generalize w6.drew = w7 at *
          refine uTake (i := 0) (some 53) (v := ?_) rfl rfl (by kernel_rfl) (by kernel_rfl) (by kernel_rfl) (by kernel_rfl) (fun _ _ _ h => h) (by rfl) (by assumption) ?_ ?_
          rotate_left
          · (intro wS hSw; (try dsimp only at hSw); go_simp; try with_reducible rfl)
          try simp only [Act.put, List.setIfInBounds_toArray, List.set_cons_zero, List.set_cons_succ]
          refine uTake (i := 1) (some 54) (v := ?_) rfl rfl (by kernel_rfl) (by kernel_rfl) (by kernel_rfl) (by kernel_rfl) (fun _ _ _ h => h) (by rfl) (by assumption) ?_ ?_
          rotate_left
          · (intro wS hSw; (try dsimp only at hSw); go_simp; try with_reducible rfl)
          try simp only [Act.put, List.setIfInBounds_toArray, List.set_cons_zero, List.set_cons_succ]
          refine uTake (i := 2) (some 55) (v := ?_) rfl rfl (by kernel_rfl) (by kernel_rfl) (by kernel_rfl) (by kernel_rfl) (fun _ _ _ h => h) (by rfl) (by assumption) ?_ ?_
          rotate_left
          · (intro wS hSw; (try dsimp only at hSw); go_simp; try with_reducible rfl)
          try simp only [Act.put, List.setIfInBounds_toArray, List.set_cons_zero, List.set_cons_succ]
          refine uTake (i := 3) (some 56) (v := ?_) rfl rfl (by kernel_rfl) (by kernel_rfl) (by kernel_rfl) (by kernel_rfl) (fun _ _ _ h => h) (by rfl) (by assumption) ?_ ?_
          rotate_left
          · (intro wS hSw; (try dsimp only at hSw); go_simp; try with_reducible rfl)
          try simp only [Act.put, List.setIfInBounds_toArray, List.set_cons_zero, List.set_cons_succ]
          refine uTake (i := 4) (some 57) (v := ?_) rfl rfl (by kernel_rfl) (by kernel_rfl) (by kernel_rfl) (by kernel_rfl) (fun _ _ _ h => h) (by rfl) (by assumption) ?_ ?_
          rotate_left
          · (intro wS hSw; (try dsimp only at hSw); go_simp; try with_reducible rfl)
          try simp only [Act.put, List.setIfInBounds_toArray, List.set_cons_zero, List.set_cons_succ]
          refine uTake (i := 5) (some 58) (v := ?_) rfl rfl (by kernel_rfl) (by kernel_rfl) (by kernel_rfl) (by kernel_rfl) (fun _ _ _ h => h) (by rfl) (by assumption) ?_ ?_
          rotate_left
          · (intro wS hSw; (try dsimp only at hSw); go_simp; try with_reducible rfl)
          try simp only [Act.put, List.setIfInBounds_toArray, List.set_cons_zero, List.set_cons_succ]
          refine uTake (i := 6) (some 59) (v := ?_) rfl rfl (by kernel_rfl) (by kernel_rfl) (by kernel_rfl) (by kernel_rfl) (fun _ _ _ h => h) (by rfl) (by assumption) ?_ ?_
          rotate_left
          · (intro wS hSw; (try dsimp only at hSw); go_simp; try with_reducible rfl)
          try simp only [Act.put, List.setIfInBounds_toArray, List.set_cons_zero, List.set_cons_succ]
          refine uReady (rs := [7]) (by kernel_rfl) (by simp) ?_
          refine ReadyU.cons rfl (fun KK hKK => ?_) ReadyU.nil
          go_simp
          refine (rCopy_c l.L[k] (E12.out.fc 6 rfl) (hbig.out.2 k hk) hu8.out).mono ?_
          rintro e w8 ⟨⟨nba, nbk, rfl, hnb⟩, hb⟩
          have E13 := Lib.hid (E12.out.got (E12.out.below hb) (.bs (.slice nba l.L[k].body.length nbk) l.L[k].body) hnb.out)
          clear E12 hb hnb
          (try dsimp only)
          clear hHeld
          refine hKK.out _ _ (⟨((E13.out.bx 1 rfl).cell 1 rfl), ((E13.out.bx 4 rfl).cell 1 rfl), (E13.out.fc 2 rfl).2, (E13.out.fc 3 rfl).2, (E13.out.fc 4 rfl).2, (E13.out.fc 5 rfl).2, (E13.out.fc 6 rfl).2⟩) (fun hHeld => ?_)
          clear hKK KK
          try simp only [Act.put, List.setIfInBounds_toArray, List.set_cons_zero, List.set_cons_succ]
          refine uReady (rs := [8]) (by kernel_rfl) (by simp) ?_
          refine ReadyU.cons rfl (fun KK hKK => ?_) ReadyU.nil
          go_simp
          have E14 := Lib.hid ((E13.out.push 24 [.int .i64 l.L[k].fr, .int .i64 l.L[k].to_, .int .i64 l.L[k].kd, .int .i64 l.L[k].nm, .slice nba l.L[k].body.length nbk] (w8.heap.size) (by simp)))
          (try dsimp only)
          clear hHeld
          refine hKK.out _ _ (⟨((E14.out.bx 2 rfl).cell 1 rfl), ((E14.out.bx 5 rfl).cell 1 rfl), (E14.out.fc 2 rfl).2, (E14.out.fc 3 rfl).2, (E14.out.fc 4 rfl).2, (E14.out.fc 5 rfl).2, (E14.out.fc 6 rfl).2⟩) (fun hHeld => ?_)
          clear hKK KK
          try simp only [Act.put, List.setIfInBounds_toArray, List.set_cons_zero, List.set_cons_succ]
          clear E13
          generalize w8.alloc (.cells #[.int .i64 l.L[k].fr, .int .i64 l.L[k].to_, .int .i64 l.L[k].kd, .int .i64 l.L[k].nm, .slice nba l.L[k].body.length nbk] 24) = w9 at *
          refine uReady (rs := [9]) (by kernel_rfl) (by simp) ?_
          refine ReadyU.cons rfl (fun KK hKK => ?_) ReadyU.nil
          refine op_app1 (c := 1) tiM (some 62) rfl rfl (.tmp 54) (.tmp 61) rfl E14.out (A := ((w8.heap.size, 24, [.int .i64 l.L[k].fr, .int .i64 l.L[k].to_, .int .i64 l.L[k].kd, .int .i64 l.L[k].nm, .slice nba l.L[k].body.length nbk]) :: (wc.heap.size, 24, [.int .i64 Q.fr, .int .i64 Q.to_, .int .i64 Q.kd, .int .i64 Q.nm, .slice qa Q.body.length qk]) :: (gO, 64, [.int .i64 l.nw, .slice la (er l.L k f).length lj, .slice aa (er l.ats k f).length ak, .slice fta l.ft.length ftk]) :: (w.heap.size + 1 + 1, 24, [.int .i64 0, .int .i64 0, .int .i64 0, .int .i64 0, .slice none 0 0]) :: (w.heap.size + 1, 64, [.int .i64 0, .slice none 0 0, .slice none 0 0, .slice none 0 0]) :: (w.heap.size, 64, [.int .i64 l.nw, .slice (some ⟨xab, xao, none⟩) l.L.length xj, .slice (some ⟨xbb, xbo, none⟩) l.ats.length xk, .slice xc l.ft.length xm]) :: (fts ++ sgA))) (sg := sgL) (B' := []) (F := ((w8.heap.size, 24, [.int .i64 l.L[k].fr, .int .i64 l.L[k].to_, .int .i64 l.L[k].kd, .int .i64 l.L[k].nm, .slice nba l.L[k].body.length nbk]) :: (wc.heap.size, 24, [.int .i64 Q.fr, .int .i64 Q.to_, .int .i64 Q.kd, .int .i64 Q.nm, .slice qa Q.body.length qk]) :: (gO, 64, [.int .i64 l.nw, .slice la (er l.L k f).length lj, .slice aa (er l.ats k f).length ak, .slice fta l.ft.length ftk]) :: (w.heap.size + 1 + 1, 24, [.int .i64 0, .int .i64 0, .int .i64 0, .int .i64 0, .slice none 0 0]) :: (w.heap.size + 1, 64, [.int .i64 0, .slice none 0 0, .slice none 0 0, .slice none 0 0]) :: (w.heap.size, 64, [.int .i64 l.nw, .slice (some ⟨xab, xao, none⟩) l.L.length xj, .slice (some ⟨xbb, xbo, none⟩) l.ats.length xk, .slice xc l.ft.length xm]) :: (fts ++ (sgA ++ sgL)))) (by simp) (hLS.out.os rfl) (by simp [Act.eval, Act.put]) (by simp [Act.eval, Act.put]; done) (SrcN.msg l.L[k] (E14.out.bx 0 rfl)) (by omega) ?_
          intro yg yp yc w10 yH yT yE
          obtain ⟨yO0, yM⟩ := LS.app (g' := yg) hLS.out rfl yH.out yT.out (yE.out.fc 8 rfl) (yE.out.fc 0 rfl)
          have yO := Lib.hid yO0
          have E15 : Hid (Env D w ((w8.heap.size, 24, [.int .i64 l.L[k].fr, .int .i64 l.L[k].to_, .int .i64 l.L[k].kd, .int .i64 l.L[k].nm, .slice nba l.L[k].body.length nbk]) :: (wc.heap.size, 24, [.int .i64 Q.fr, .int .i64 Q.to_, .int .i64 Q.kd, .int .i64 Q.nm, .slice qa Q.body.length qk]) :: (gO, 64, [.int .i64 l.nw, .slice la (er l.L k f).length lj, .slice aa (er l.ats k f).length ak, .slice fta l.ft.length ftk]) :: (w.heap.size + 1 + 1, 24, [.int .i64 0, .int .i64 0, .int .i64 0, .int .i64 0, .slice none 0 0]) :: (w.heap.size + 1, 64, [.int .i64 0, .slice none 0 0, .slice none 0 0, .slice none 0 0]) :: (w.heap.size, 64, [.int .i64 l.nw, .slice (some ⟨xab, xao, none⟩) l.L.length xj, .slice (some ⟨xbb, xbo, none⟩) l.ats.length xk, .slice xc l.ft.length xm]) :: (fts ++ (sgA ++ [(yg, 24, yc)]))) [.mc yc (er l.L k f ++ [l.L[k]]), .bs (.slice nba l.L[k].body.length nbk) l.L[k].body, .ce xbb (xbo + k) (.int .i64 l.ats[k]), .ce xab (xao + k * 5) (.int .i64 l.L[k].fr), .ce xab (xao + k * 5 + 1) (.int .i64 l.L[k].to_), .ce xab (xao + k * 5 + 2) (.int .i64 l.L[k].kd), .ce xab (xao + k * 5 + 3) (.int .i64 l.L[k].nm), .ce xab (xao + k * 5 + 4) (.slice ua l.L[k].body.length uk), .bs (.slice ua l.L[k].body.length uk) l.L[k].body, .mc csL (er l.L k f), .bs (.slice qa Q.body.length qk) Q.body, .rw (.slice xc l.ft.length xm) l.ft.length 2 (fcl l.ft), .rw (.slice (some ⟨xbb, xbo, none⟩) l.ats.length xk) l.ats.length 1 (icl l.ats), .ms (.slice (some ⟨xab, xao, none⟩) l.L.length xj) l.L] w10) := Lib.hid ((yE.out.note _ yM).cast (by simp))
          clear E14 yE yM yO0 yH yT hLS
          (try dsimp only)
          clear hHeld
          refine hKK.out _ _ (⟨((E15.out.bx 2 rfl).cell 1 rfl), ((E15.out.bx 5 rfl).cell 1 rfl), (E15.out.fc 3 rfl).2, (E15.out.fc 4 rfl).2, (E15.out.fc 5 rfl).2, (E15.out.fc 6 rfl).2, (E15.out.fc 7 rfl).2⟩) (fun hHeld => ?_)
          clear hKK KK
          try simp only [Act.put, List.setIfInBounds_toArray, List.set_cons_zero, List.set_cons_succ]
          refine uTake (i := 10) (some 63) (v := ?_) rfl rfl (by kernel_rfl) (by kernel_rfl) (by kernel_rfl) (by kernel_rfl) (fun _ _ _ h => h) (by rfl) (by assumption) ?_ ?_
          rotate_left
          · (intro wS hSw; (try dsimp only at hSw); go_simp; try with_reducible rfl)
          try simp only [Act.put, List.setIfInBounds_toArray, List.set_cons_zero, List.set_cons_succ]
          have b3 := E15.out.bx 2 rfl
          have c3_1 := b3.cell 1 rfl
          have f3_1 := b3.frozen 1
          clear b3
          refine uReady (rs := [11]) (by kernel_rfl) (by simp) ?_
          refine ReadyU.consU (by kernel_rfl) rfl (fun KK hKK => ?_) ReadyU.nil
          go_simp
          have E16 : Hid (Env D w ((w8.heap.size, 24, [.int .i64 l.L[k].fr, .int .i64 l.L[k].to_, .int .i64 l.L[k].kd, .int .i64 l.L[k].nm, .slice nba l.L[k].body.length nbk]) :: (wc.heap.size, 24, [.int .i64 Q.fr, .int .i64 Q.to_, .int .i64 Q.kd, .int .i64 Q.nm, .slice qa Q.body.length qk]) :: (gO, 64, [.int .i64 l.nw, .slice (some ⟨yg, 0, none⟩) ((er l.L k f).length + 1) yp, .slice aa (er l.ats k f).length ak, .slice fta l.ft.length ftk]) :: (w.heap.size + 1 + 1, 24, [.int .i64 0, .int .i64 0, .int .i64 0, .int .i64 0, .slice none 0 0]) :: (w.heap.size + 1, 64, [.int .i64 0, .slice none 0 0, .slice none 0 0, .slice none 0 0]) :: (w.heap.size, 64, [.int .i64 l.nw, .slice (some ⟨xab, xao, none⟩) l.L.length xj, .slice (some ⟨xbb, xbo, none⟩) l.ats.length xk, .slice xc l.ft.length xm]) :: (fts ++ (sgA ++ [(yg, 24, yc)]))) [.mc yc (er l.L k f ++ [l.L[k]]), .bs (.slice nba l.L[k].body.length nbk) l.L[k].body, .ce xbb (xbo + k) (.int .i64 l.ats[k]), .ce xab (xao + k * 5) (.int .i64 l.L[k].fr), .ce xab (xao + k * 5 + 1) (.int .i64 l.L[k].to_), .ce xab (xao + k * 5 + 2) (.int .i64 l.L[k].kd), .ce xab (xao + k * 5 + 3) (.int .i64 l.L[k].nm), .ce xab (xao + k * 5 + 4) (.slice ua l.L[k].body.length uk), .bs (.slice ua l.L[k].body.length uk) l.L[k].body, .mc csL (er l.L k f), .bs (.slice qa Q.body.length qk) Q.body, .rw (.slice xc l.ft.length xm) l.ft.length 2 (fcl l.ft), .rw (.slice (some ⟨xbb, xbo, none⟩) l.ats.length xk) l.ats.length 1 (icl l.ats), .ms (.slice (some ⟨xab, xao, none⟩) l.L.length xj) l.L] _) := Lib.hid ((E15.out.set 2 1 (.slice (some ⟨yg, 0, none⟩) ((er l.L k f).length + 1) yp) rfl))
          (try dsimp only)
          (try clear hHeld)
          refine hKK.out _ _ ?_
          clear hKK KK
          try simp only [Act.put, List.setIfInBounds_toArray, List.set_cons_zero, List.set_cons_succ]
          refine uDone (by kernel_rfl) ?_ _
          go_wp2_with fail
          clear c3_1 f3_1 E15
          generalize w10.setCell ⟨gO, 1, none⟩ (.slice (some ⟨yg, 0, none⟩) ((er l.L k f).length + 1) yp) = w11 at *
          have E17 := Lib.hid E16.out.drew
          clear E16
          refine wp_regionU (S := fun w' => w'.cell? ⟨gO, 2, none⟩ = some (.slice aa (er l.ats k f).length ak) ∧ w'.cell? ⟨w.heap.size, 2, none⟩ = some (.slice (some ⟨xbb, xbo, none⟩) l.ats.length xk) ∧ w'.cell? ⟨xbb, xbo + k, none⟩ = some (.int .i64 l.ats[k])) [10] (by kernel_rfl) (⟨((E17.out.bx 2 rfl).cell 2 rfl), ((E17.out.bx 5 rfl).cell 2 rfl), (E17.out.fc 2 rfl).2⟩) (fun hHeld => ?_)
          generalize w11.drew = w12 at *
          refine uTake (i := 0) (some 64) (v := ?_) rfl rfl (by kernel_rfl) (by kernel_rfl) (by kernel_rfl) (by kernel_rfl) (fun _ _ _ h => h) (by rfl) (by assumption) ?_ ?_
          rotate_left
          · (intro wS hSw; (try dsimp only at hSw); go_simp; try with_reducible rfl)
          try simp only [Act.put, List.setIfInBounds_toArray, List.set_cons_zero, List.set_cons_succ]
          refine uTake (i := 1) (some 65) (v := ?_) rfl rfl (by kernel_rfl) (by kernel_rfl) (by kernel_rfl) (by kernel_rfl) (fun _ _ _ h => h) (by rfl) (by assumption) ?_ ?_
          rotate_left
          · (intro wS hSw; (try dsimp only at hSw); go_simp; try with_reducible rfl)
          try simp only [Act.put, List.setIfInBounds_toArray, List.set_cons_zero, List.set_cons_succ]
          refine uTake (i := 2) (some 66) (v := ?_) rfl rfl (by kernel_rfl) (by kernel_rfl) (by kernel_rfl) (by kernel_rfl) (fun _ _ _ h => h) (by rfl) (by assumption) ?_ ?_
          rotate_left
          · (intro wS hSw; (try dsimp only at hSw); go_simp; try with_reducible rfl)
          try simp only [Act.put, List.setIfInBounds_toArray, List.set_cons_zero, List.set_cons_succ]
          refine uTake (i := 3) (some 67) (v := ?_) rfl rfl (by kernel_rfl) (by kernel_rfl) (by kernel_rfl) (by kernel_rfl) (fun _ _ _ h => h) (by rfl) (by assumption) ?_ ?_
          rotate_left
          · (intro wS hSw; (try dsimp only at hSw); go_simp; try with_reducible rfl)
          try simp only [Act.put, List.setIfInBounds_toArray, List.set_cons_zero, List.set_cons_succ]
          refine uTake (i := 4) (some 68) (v := ?_) rfl rfl (by kernel_rfl) (by kernel_rfl) (by kernel_rfl) (by kernel_rfl) (fun _ _ _ h => h) (by rfl) (by assumption) ?_ ?_
          rotate_left
          · (intro wS hSw; (try dsimp only at hSw); go_simp; try with_reducible rfl)
          try simp only [Act.put, List.setIfInBounds_toArray, List.set_cons_zero, List.set_cons_succ]
          refine uTake (i := 5) (some 69) (v := ?_) rfl rfl (by kernel_rfl) (by kernel_rfl) (by kernel_rfl) (by kernel_rfl) (fun _ _ _ h => h) (by rfl) (by assumption) ?_ ?_
          rotate_left
          · (intro wS hSw; (try dsimp only at hSw); go_simp; try with_reducible rfl)
          try simp only [Act.put, List.setIfInBounds_toArray, List.set_cons_zero, List.set_cons_succ]
          refine uTake (i := 6) (some 70) (v := ?_) rfl rfl (by kernel_rfl) (by kernel_rfl) (by kernel_rfl) (by kernel_rfl) (fun _ _ _ h => h) (by rfl) (by assumption) ?_ ?_
          rotate_left
          · (intro wS hSw; (try dsimp only at hSw); go_simp; try with_reducible rfl)
          try simp only [Act.put, List.setIfInBounds_toArray, List.set_cons_zero, List.set_cons_succ]
          refine uReady (rs := [7]) (by kernel_rfl) (by simp) ?_
          refine ReadyU.cons rfl (fun KK hKK => ?_) ReadyU.nil
          go_simp
          have E18 := Lib.hid ((E17.out.push 3 [.int .i64 l.ats[k]] (w12.heap.size) (by simp)))
          (try dsimp only)
          clear hHeld
          refine hKK.out _ _ (⟨((E18.out.bx 3 rfl).cell 2 rfl), ((E18.out.bx 6 rfl).cell 2 rfl), (E18.out.fc 2 rfl).2⟩) (fun hHeld => ?_)
          clear hKK KK
          try simp only [Act.put, List.setIfInBounds_toArray, List.set_cons_zero, List.set_cons_succ]
          clear E17
          generalize w12.alloc (.cells #[.int .i64 l.ats[k]] 3) = w13 at *
          refine uReady (rs := [8]) (by kernel_rfl) (by simp) ?_
          refine ReadyU.cons rfl (fun KK hKK => ?_) ReadyU.nil
          refine op_app1 (c := 1) tiI (some 72) rfl rfl (.tmp 65) (.tmp 71) rfl E18.out (A := ((w12.heap.size, 3, [.int .i64 l.ats[k]]) :: (w8.heap.size, 24, [.int .i64 l.L[k].fr, .int .i64 l.L[k].to_, .int .i64 l.L[k].kd, .int .i64 l.L[k].nm, .slice nba l.L[k].body.length nbk]) :: (wc.heap.size, 24, [.int .i64 Q.fr, .int .i64 Q.to_, .int .i64 Q.kd, .int .i64 Q.nm, .slice qa Q.body.length qk]) :: (gO, 64, [.int .i64 l.nw, .slice (some ⟨yg, 0, none⟩) ((er l.L k f).length + 1) yp, .slice aa (er l.ats k f).length ak, .slice fta l.ft.length ftk]) :: (w.heap.size + 1 + 1, 24, [.int .i64 0, .int .i64 0, .int .i64 0, .int .i64 0, .slice none 0 0]) :: (w.heap.size + 1, 64, [.int .i64 0, .slice none 0 0, .slice none 0 0, .slice none 0 0]) :: (w.heap.size, 64, [.int .i64 l.nw, .slice (some ⟨xab, xao, none⟩) l.L.length xj, .slice (some ⟨xbb, xbo, none⟩) l.ats.length xk, .slice xc l.ft.length xm]) :: fts)) (sg := sgA) (B' := [(yg, 24, yc)]) (F := ((w12.heap.size, 3, [.int .i64 l.ats[k]]) :: (w8.heap.size, 24, [.int .i64 l.L[k].fr, .int .i64 l.L[k].to_, .int .i64 l.L[k].kd, .int .i64 l.L[k].nm, .slice nba l.L[k].body.length nbk]) :: (wc.heap.size, 24, [.int .i64 Q.fr, .int .i64 Q.to_, .int .i64 Q.kd, .int .i64 Q.nm, .slice qa Q.body.length qk]) :: (gO, 64, [.int .i64 l.nw, .slice (some ⟨yg, 0, none⟩) ((er l.L k f).length + 1) yp, .slice aa (er l.ats k f).length ak, .slice fta l.ft.length ftk]) :: (w.heap.size + 1 + 1, 24, [.int .i64 0, .int .i64 0, .int .i64 0, .int .i64 0, .slice none 0 0]) :: (w.heap.size + 1, 64, [.int .i64 0, .slice none 0 0, .slice none 0 0, .slice none 0 0]) :: (w.heap.size, 64, [.int .i64 l.nw, .slice (some ⟨xab, xao, none⟩) l.L.length xj, .slice (some ⟨xbb, xbo, none⟩) l.ats.length xk, .slice xc l.ft.length xm]) :: (fts ++ (sgA ++ [(yg, 24, yc)])))) (by simp) (hOI.out.os rfl) (by simp [Act.eval, Act.put]) (by simp [Act.eval, Act.put]; done) (SrcN.int (E18.out.bx 0 rfl)) (by omega) ?_
          intro zg zp zc w14 zH zT zE
          have zO := Lib.hid (OI.app (g' := zg) hOI.out rfl zH.out zT.out)
          have E19 : Hid (Env D w ((w12.heap.size, 3, [.int .i64 l.ats[k]]) :: (w8.heap.size, 24, [.int .i64 l.L[k].fr, .int .i64 l.L[k].to_, .int .i64 l.L[k].kd, .int .i64 l.L[k].nm, .slice nba l.L[k].body.length nbk]) :: (wc.heap.size, 24, [.int .i64 Q.fr, .int .i64 Q.to_, .int .i64 Q.kd, .int .i64 Q.nm, .slice qa Q.body.length qk]) :: (gO, 64, [.int .i64 l.nw, .slice (some ⟨yg, 0, none⟩) ((er l.L k f).length + 1) yp, .slice aa (er l.ats k f).length ak, .slice fta l.ft.length ftk]) :: (w.heap.size + 1 + 1, 24, [.int .i64 0, .int .i64 0, .int .i64 0, .int .i64 0, .slice none 0 0]) :: (w.heap.size + 1, 64, [.int .i64 0, .slice none 0 0, .slice none 0 0, .slice none 0 0]) :: (w.heap.size, 64, [.int .i64 l.nw, .slice (some ⟨xab, xao, none⟩) l.L.length xj, .slice (some ⟨xbb, xbo, none⟩) l.ats.length xk, .slice xc l.ft.length xm]) :: (fts ++ ((zg, 3, zc) :: [(yg, 24, yc)]))) [.mc yc (er l.L k f ++ [l.L[k]]), .bs (.slice nba l.L[k].body.length nbk) l.L[k].body, .ce xbb (xbo + k) (.int .i64 l.ats[k]), .ce xab (xao + k * 5) (.int .i64 l.L[k].fr), .ce xab (xao + k * 5 + 1) (.int .i64 l.L[k].to_), .ce xab (xao + k * 5 + 2) (.int .i64 l.L[k].kd), .ce xab (xao + k * 5 + 3) (.int .i64 l.L[k].nm), .ce xab (xao + k * 5 + 4) (.slice ua l.L[k].body.length uk), .bs (.slice ua l.L[k].body.length uk) l.L[k].body, .mc csL (er l.L k f), .bs (.slice qa Q.body.length qk) Q.body, .rw (.slice xc l.ft.length xm) l.ft.length 2 (fcl l.ft), .rw (.slice (some ⟨xbb, xbo, none⟩) l.ats.length xk) l.ats.length 1 (icl l.ats), .ms (.slice (some ⟨xab, xao, none⟩) l.L.length xj) l.L] w14) := Lib.hid (zE.out.cast (by simp))
          clear E18 zE zH zT hOI
          (try dsimp only)
          clear hHeld
          refine hKK.out _ _ (⟨((E19.out.bx 3 rfl).cell 2 rfl), ((E19.out.bx 6 rfl).cell 2 rfl), (E19.out.fc 2 rfl).2⟩) (fun hHeld => ?_)
          clear hKK KK
          try simp only [Act.put, List.setIfInBounds_toArray, List.set_cons_zero, List.set_cons_succ]
          refine uTake (i := 9) (some 73) (v := ?_) rfl rfl (by kernel_rfl) (by kernel_rfl) (by kernel_rfl) (by kernel_rfl) (fun _ _ _ h => h) (by rfl) (by assumption) ?_ ?_
          rotate_left
          · (intro wS hSw; (try dsimp only at hSw); go_simp; try with_reducible rfl)
          try simp only [Act.put, List.setIfInBounds_toArray, List.set_cons_zero, List.set_cons_succ]
          have b4 := E19.out.bx 3 rfl
          have c4_2 := b4.cell 2 rfl
          have f4_2 := b4.frozen 2
          clear b4
          refine uReady (rs := [10]) (by kernel_rfl) (by simp) ?_
          refine ReadyU.consU (by kernel_rfl) rfl (fun KK hKK => ?_) ReadyU.nil
          go_simp
          have E20 : Hid (Env D w ((w12.heap.size, 3, [.int .i64 l.ats[k]]) :: (w8.heap.size, 24, [.int .i64 l.L[k].fr, .int .i64 l.L[k].to_, .int .i64 l.L[k].kd, .int .i64 l.L[k].nm, .slice nba l.L[k].body.length nbk]) :: (wc.heap.size, 24, [.int .i64 Q.fr, .int .i64 Q.to_, .int .i64 Q.kd, .int .i64 Q.nm, .slice qa Q.body.length qk]) :: (gO, 64, [.int .i64 l.nw, .slice (some ⟨yg, 0, none⟩) ((er l.L k f).length + 1) yp, .slice (some ⟨zg, 0, none⟩) ((er l.ats k f).length + 1) zp, .slice fta l.ft.length ftk]) :: (w.heap.size + 1 + 1, 24, [.int .i64 0, .int .i64 0, .int .i64 0, .int .i64 0, .slice none 0 0]) :: (w.heap.size + 1, 64, [.int .i64 0, .slice none 0 0, .slice none 0 0, .slice none 0 0]) :: (w.heap.size, 64, [.int .i64 l.nw, .slice (some ⟨xab, xao, none⟩) l.L.length xj, .slice (some ⟨xbb, xbo, none⟩) l.ats.length xk, .slice xc l.ft.length xm]) :: (fts ++ ((zg, 3, zc) :: [(yg, 24, yc)]))) [.mc yc (er l.L k f ++ [l.L[k]]), .bs (.slice nba l.L[k].body.length nbk) l.L[k].body, .ce xbb (xbo + k) (.int .i64 l.ats[k]), .ce xab (xao + k * 5) (.int .i64 l.L[k].fr), .ce xab (xao + k * 5 + 1) (.int .i64 l.L[k].to_), .ce xab (xao + k * 5 + 2) (.int .i64 l.L[k].kd), .ce xab (xao + k * 5 + 3) (.int .i64 l.L[k].nm), .ce xab (xao + k * 5 + 4) (.slice ua l.L[k].body.length uk), .bs (.slice ua l.L[k].body.length uk) l.L[k].body, .mc csL (er l.L k f), .bs (.slice qa Q.body.length qk) Q.body, .rw (.slice xc l.ft.length xm) l.ft.length 2 (fcl l.ft), .rw (.slice (some ⟨xbb, xbo, none⟩) l.ats.length xk) l.ats.length 1 (icl l.ats), .ms (.slice (some ⟨xab, xao, none⟩) l.L.length xj) l.L] _) := Lib.hid ((E19.out.set 3 2 (.slice (some ⟨zg, 0, none⟩) ((er l.ats k f).length + 1) zp) rfl))
          (try dsimp only)
          (try clear hHeld)
          refine hKK.out _ _ ?_
          clear hKK KK
          try simp only [Act.put, List.setIfInBounds_toArray, List.set_cons_zero, List.set_cons_succ]
          refine uDone (by kernel_rfl) ?_ _
          clear c4_2 f4_2 E19
          generalize w14.setCell ⟨gO, 2, none⟩ (.slice (some ⟨zg, 0, none⟩) ((er l.ats k f).length + 1) zp) = w15 at *
          rw [er_app hk hkf.out] at yO
          rw [er_app hk2 hkf.out] at zO
          have hZ := ((E20.out.drop).drop)
          have EZ : Hid (Env D w ((wc.heap.size, 24, [.int .i64 Q.fr, .int .i64 Q.to_, .int .i64 Q.kd, .int .i64 Q.nm, .slice qa Q.body.length qk]) :: (gO, 64, [.int .i64 l.nw, .slice (some ⟨yg, 0, none⟩) ((er l.L k f).length + 1) yp, .slice (some ⟨zg, 0, none⟩) ((er l.ats k f).length + 1) zp, .slice fta l.ft.length ftk]) :: (w.heap.size + 1 + 1, 24, [.int .i64 0, .int .i64 0, .int .i64 0, .int .i64 0, .slice none 0 0]) :: (w.heap.size + 1, 64, [.int .i64 0, .slice none 0 0, .slice none 0 0, .slice none 0 0]) :: (w.heap.size, 64, [.int .i64 l.nw, .slice (some ⟨xab, xao, none⟩) l.L.length xj, .slice (some ⟨xbb, xbo, none⟩) l.ats.length xk, .slice xc l.ft.length xm]) :: (fts ++ ((zg, 3, zc) :: [(yg, 24, yc)]))) [.mc yc (er l.L (k + 1) f), .bs (.slice qa Q.body.length qk) Q.body, .rw (.slice xc l.ft.length xm) l.ft.length 2 (fcl l.ft), .rw (.slice (some ⟨xbb, xbo, none⟩) l.ats.length xk) l.ats.length 1 (icl l.ats), .ms (.slice (some ⟨xab, xao, none⟩) l.L.length xj) l.L] _) := Lib.hid ⟨hZ.bel, hZ.box, ⟨by have h9 := hZ.fc 0 rfl; rw [er_app hk hkf.out] at h9; exact h9, ⟨hZ.fc 10 rfl, ⟨hZ.fc 11 rfl, ⟨hZ.fc 12 rfl, ⟨hZ.fc 13 rfl, trivial⟩⟩⟩⟩⟩⟩
          clear hZ
          rw [er_len_app hk hkf.out] at yO EZ
          rw [er_len_app hk2 hkf.out] at zO EZ
          go_wp2
          go_roundg (l.L.length - (k + 1))
          case rel => exact ⟨k + 1, _, Q, qa, qk, _, _, _, _, _, _, _, _, rfl, rfl, EZ, zO, yO, Lib.hid ⟨⟨by omega, rfl⟩, fun h => by (have := HFK.out; omega), fun h => ⟨rfl, HQ.out⟩⟩⟩
          case measure => exact by omega
        obtain rfl := HF1.out (by omega)
        clear HF2
        by_cases hkq : k = f
        rotate_left
        · have hkf : Hid (k ≠ f) := Lib.hid hkq
          have hno := Lib.hid (hf.out.1 k (by omega))
          have HKF : Hid (k + 1 ≤ f) := Lib.hid (by omega)
          clear hkq hfk
          by_cases c2 : l.L[k].to_ = pt
          rotate_left
          · have d3 : (l.L[k].to_ == pt) = false := by simpa using c2
            clear c2
            go_wp2_with fail
            have E11 := Lib.hid E10.out.drew
            clear u0 u1 u2 u3 u4 v0 c2_1 E10
            refine wp_regionU (S := fun w' => w'.cell? ⟨w.heap.size, 1, none⟩ = some (.slice (some ⟨xab, xao, none⟩) l.L.length xj) ∧ w'.cell? ⟨xab, xao + k * 5, none⟩ = some (.int .i64 l.L[k].fr) ∧ w'.cell? ⟨xab, xao + k * 5 + 1, none⟩ = some (.int .i64 l.L[k].to_) ∧ w'.cell? ⟨xab, xao + k * 5 + 2, none⟩ = some (.int .i64 l.L[k].kd) ∧ w'.cell? ⟨xab, xao + k * 5 + 3, none⟩ = some (.int .i64 l.L[k].nm) ∧ w'.cell? ⟨xab, xao + k * 5 + 4, none⟩ = some (.slice ua l.L[k].body.length uk) ∧ w'.cell? ⟨xbb, xbo + k, none⟩ = some (.int .i64 l.ats[k])) [] (by kernel_rfl) (⟨((E11.out.bx 4 rfl).cell 1 rfl), (E11.out.fc 1 rfl).2, (E11.out.fc 2 rfl).2, (E11.out.fc 3 rfl).2, (E11.out.fc 4 rfl).2, (E11.out.fc 5 rfl).2, (E11.out.fc 0 rfl).2⟩) (fun hHeld => ?_)
            generalize wr.drew = w6 at *
            refine uTake (i := 0) (some 25) (v := ?_) rfl rfl (by kernel_rfl) (by kernel_rfl) (by kernel_rfl) (by kernel_rfl) (fun _ _ _ h => h) (by rfl) (by assumption) ?_ ?_
            rotate_left
            · (intro wS hSw; (try dsimp only at hSw); go_simp; try with_reducible rfl)
            try simp only [Act.put, List.setIfInBounds_toArray, List.set_cons_zero, List.set_cons_succ]
            refine uTake (i := 1) (some 26) (v := .bool true) rfl rfl (by kernel_rfl) (by kernel_rfl) (by kernel_rfl) (by kernel_rfl) (fun _ _ _ h => h) (by rfl) (by assumption) ?_ ?_
            · (intro wS hSw; (try dsimp only at hSw); go_simp; try with_reducible rfl)
            try simp only [Act.put, List.setIfInBounds_toArray, List.set_cons_zero, List.set_cons_succ]
            refine uTake (i := 2) (some 27) (v := ?_) rfl rfl (by kernel_rfl) (by kernel_rfl) (by kernel_rfl) (by kernel_rfl) (fun _ _ _ h => h) (by rfl) (by assumption) ?_ ?_
            rotate_left
            · (intro wS hSw; (try dsimp only at hSw); go_simp; try with_reducible rfl)
            try simp only [Act.put, List.setIfInBounds_toArray, List.set_cons_zero, List.set_cons_succ]
            refine uTake (i := 3) (some 28) (v := ?_) rfl rfl (by kernel_rfl) (by kernel_rfl) (by kernel_rfl) (by kernel_rfl) (fun _ _ _ h => h) (by rfl) (by assumption) ?_ ?_
            rotate_left
            · (intro wS hSw; (try dsimp only at hSw); go_simp; try with_reducible rfl)
            try simp only [Act.put, List.setIfInBounds_toArray, List.set_cons_zero, List.set_cons_succ]
            refine uTake (i := 4) (some 29) (v := ?_) rfl rfl (by kernel_rfl) (by kernel_rfl) (by kernel_rfl) (by kernel_rfl) (fun _ _ _ h => h) (by rfl) (by assumption) ?_ ?_
            rotate_left
            · (intro wS hSw; (try dsimp only at hSw); go_simp; try with_reducible rfl)
            try simp only [Act.put, List.setIfInBounds_toArray, List.set_cons_zero, List.set_cons_succ]
            refine uTake (i := 5) (some 30) (v := ?_) rfl rfl (by kernel_rfl) (by kernel_rfl) (by kernel_rfl) (by kernel_rfl) (fun _ _ _ h => h) (by rfl) (by assumption) ?_ ?_
            rotate_left
            · (intro wS hSw; (try dsimp only at hSw); go_simp; try with_reducible rfl)
            try simp only [Act.put, List.setIfInBounds_toArray, List.set_cons_zero, List.set_cons_succ]
            refine uTake (i := 6) (some 31) (v := ?_) rfl rfl (by kernel_rfl) (by kernel_rfl) (by kernel_rfl) (by kernel_rfl) (fun _ _ _ h => h) (by rfl) (by assumption) ?_ ?_
            rotate_left
            · (intro wS hSw; (try dsimp only at hSw); go_simp; try with_reducible rfl)
            try simp only [Act.put, List.setIfInBounds_toArray, List.set_cons_zero, List.set_cons_succ]
            refine uTake (i := 7) (some 32) (v := ?_) rfl rfl (by kernel_rfl) (by kernel_rfl) (by kernel_rfl) (by kernel_rfl) (fun _ _ _ h => h) (by rfl) (by assumption) ?_ ?_
            rotate_left
            · (intro wS hSw; (try dsimp only at hSw); go_simp; try with_reducible rfl)
            try simp only [Act.put, List.setIfInBounds_toArray, List.set_cons_zero, List.set_cons_succ]
            refine uTake (i := 8) (some 33) (v := ?_) rfl rfl (by kernel_rfl) (by kernel_rfl) (by kernel_rfl) (by kernel_rfl) (fun _ _ _ h => h) (by rfl) (by assumption) ?_ ?_
            rotate_left
            · (intro wS hSw; (try dsimp only at hSw); go_simp; try with_reducible rfl)
            try simp only [Act.put, List.setIfInBounds_toArray, List.set_cons_zero, List.set_cons_succ]
            refine uTake (i := 9) (some 34) (v := ?_) rfl rfl (by kernel_rfl) (by kernel_rfl) (by kernel_rfl) (by kernel_rfl) (fun _ _ _ h => h) (by rfl) (by assumption) ?_ ?_
            rotate_left
            · (intro wS hSw; (try dsimp only at hSw); go_simp; try with_reducible rfl)
            try simp only [Act.put, List.setIfInBounds_toArray, List.set_cons_zero, List.set_cons_succ]
            refine uTake (i := 10) (some 35) (v := .bool false) rfl rfl (by kernel_rfl) (by kernel_rfl) (by kernel_rfl) (by kernel_rfl) (fun _ _ _ h => h) (by rfl) (by assumption) ?_ ?_
            · (intro wS hSw; (try dsimp only at hSw); go_simp; try simp [*])
            try simp only [Act.put, List.setIfInBounds_toArray, List.set_cons_zero, List.set_cons_succ]
            refine uTake (i := 11) (some 36) (v := ?_) rfl rfl (by kernel_rfl) (by kernel_rfl) (by kernel_rfl) (by kernel_rfl) (fun _ _ _ h => h) (by rfl) (by assumption) ?_ ?_
            rotate_left
            · (intro wS hSw; (try dsimp only at hSw); go_simp; try with_reducible rfl)
            try simp only [Act.put, List.setIfInBounds_toArray, List.set_cons_zero, List.set_cons_succ]
            refine uTake (i := 12) (some 37) (v := ?_) rfl rfl (by kernel_rfl) (by kernel_rfl) (by kernel_rfl) (by kernel_rfl) (fun _ _ _ h => h) (by rfl) (by assumption) ?_ ?_
            rotate_left
            · (intro wS hSw; (try dsimp only at hSw); go_simp; try with_reducible rfl)
            try simp only [Act.put, List.setIfInBounds_toArray, List.set_cons_zero, List.set_cons_succ]
            refine uPass (i := 13) (some 38) rfl rfl (by kernel_rfl) (by kernel_rfl) (by kernel_rfl) (by kernel_rfl) (fun _ _ _ h => h) (by rfl) (by assumption) ?_
            try simp only [Act.put, List.setIfInBounds_toArray, List.set_cons_zero, List.set_cons_succ]
            refine uPass (i := 14) (some 39) rfl rfl (by kernel_rfl) (by kernel_rfl) (by kernel_rfl) (by kernel_rfl) (fun _ _ _ h => h) (by rfl) (by assumption) ?_
            try simp only [Act.put, List.setIfInBounds_toArray, List.set_cons_zero, List.set_cons_succ]
            refine uPass (i := 15) (some 40) rfl rfl (by kernel_rfl) (by kernel_rfl) (by kernel_rfl) (by kernel_rfl) (fun _ _ _ h => h) (by rfl) (by assumption) ?_
            try simp only [Act.put, List.setIfInBounds_toArray, List.set_cons_zero, List.set_cons_succ]
            refine uPass (i := 16) (some 41) rfl rfl (by kernel_rfl) (by kernel_rfl) (by kernel_rfl) (by kernel_rfl) (fun _ _ _ h => h) (by rfl) (by assumption) ?_
            try simp only [Act.put, List.setIfInBounds_toArray, List.set_cons_zero, List.set_cons_succ]
            refine uPass (i := 17) (some 42) rfl rfl (by kernel_rfl) (by kernel_rfl) (by kernel_rfl) (by kernel_rfl) (fun _ _ _ h => h) (by rfl) (by assumption) ?_
            try simp only [Act.put, List.setIfInBounds_toArray, List.set_cons_zero, List.set_cons_succ]
            refine uPass (i := 18) (some 43) rfl rfl (by kernel_rfl) (by kernel_rfl) (by kernel_rfl) (by kernel_rfl) (fun _ _ _ h => h) (by rfl) (by assumption) ?_
            try simp only [Act.put, List.setIfInBounds_toArray, List.set_cons_zero, List.set_cons_succ]
            refine uPass (i := 19) (some 44) rfl rfl (by kernel_rfl) (by kernel_rfl) (by kernel_rfl) (by kernel_rfl) (fun _ _ _ h => h) (by rfl) (by assumption) ?_
            try simp only [Act.put, List.setIfInBounds_toArray, List.set_cons_zero, List.set_cons_succ]
            refine uPass (i := 20) (some 45) rfl rfl (by kernel_rfl) (by kernel_rfl) (by kernel_rfl) (by kernel_rfl) (fun _ _ _ h => h) (by rfl) (by assumption) ?_
            try simp only [Act.put, List.setIfInBounds_toArray, List.set_cons_zero, List.set_cons_succ]
            refine uTake (i := 21) (some 46) (v := ?_) rfl rfl (by kernel_rfl) (by kernel_rfl) (by kernel_rfl) (by kernel_rfl) (fun _ _ _ h => h) (by rfl) (by assumption) ?_ ?_
            rotate_left
            · (intro wS hSw; (try dsimp only at hSw); go_simp; try with_reducible rfl)
            try simp only [Act.put, List.setIfInBounds_toArray, List.set_cons_zero, List.set_cons_succ]
            refine uDone (by kernel_rfl) ?_ _
            have hu8 := Lib.hid (Bs.u8 (E11.out.fc 6 rfl))
            go_wp2_with fail
            have E12 := Lib.hid E11.out.drew
            clear E11
            refine wp_regionU (S := fun w' => w'.cell? ⟨gO, 1, none⟩ = some (.slice la (er l.L k f).length lj) ∧ w'.cell? ⟨w.heap.size, 1, none⟩ = some (.slice (some ⟨xab, xao, none⟩) l.L.length xj) ∧ w'.cell? ⟨xab, xao + k * 5, none⟩ = some (.int .i64 l.L[k].fr) ∧ w'.cell? ⟨xab, xao + k * 5 + 1, none⟩ = some (.int .i64 l.L[k].to_) ∧ w'.cell? ⟨xab, xao + k * 5 + 2, none⟩ = some (.int .i64 l.L[k].kd) ∧ w'.cell? ⟨xab, xao + k * 5 + 3, none⟩ = some (.int .i64 l.L[k].nm) ∧ w'.cell? ⟨xab, xao + k * 5 + 4, none⟩ = some (.slice ua l.L[k].body.length uk)) [11] (by kernel_rfl) (⟨((E12.out.bx 1 rfl).cell 1 rfl), ((E12.out.bx 4 rfl).cell 1 rfl), (E12.out.fc 1 rfl).2, (E12.out.fc 2 rfl).2, (E12.out.fc 3 rfl).2, (E12.out.fc 4 rfl).2, (E12.out.fc 5 rfl).2⟩) (fun hHeld => ?_)
            generalize w6.drew = w7 at *
            refine uTake (i := 0) (some 53) (v := ?_) rfl rfl (by kernel_rfl) (by kernel_rfl) (by kernel_rfl) (by kernel_rfl) (fun _ _ _ h => h) (by rfl) (by assumption) ?_ ?_
            rotate_left
            · (intro wS hSw; (try dsimp only at hSw); go_simp; try with_reducible rfl)
            try simp only [Act.put, List.setIfInBounds_toArray, List.set_cons_zero, List.set_cons_succ]
            refine uTake (i := 1) (some 54) (v := ?_) rfl rfl (by kernel_rfl) (by kernel_rfl) (by kernel_rfl) (by kernel_rfl) (fun _ _ _ h => h) (by rfl) (by assumption) ?_ ?_
            rotate_left
            · (intro wS hSw; (try dsimp only at hSw); go_simp; try with_reducible rfl)
            try simp only [Act.put, List.setIfInBounds_toArray, List.set_cons_zero, List.set_cons_succ]
            refine uTake (i := 2) (some 55) (v := ?_) rfl rfl (by kernel_rfl) (by kernel_rfl) (by kernel_rfl) (by kernel_rfl) (fun _ _ _ h => h) (by rfl) (by assumption) ?_ ?_
            rotate_left
            · (intro wS hSw; (try dsimp only at hSw); go_simp; try with_reducible rfl)
            try simp only [Act.put, List.setIfInBounds_toArray, List.set_cons_zero, List.set_cons_succ]
            refine uTake (i := 3) (some 56) (v := ?_) rfl rfl (by kernel_rfl) (by kernel_rfl) (by kernel_rfl) (by kernel_rfl) (fun _ _ _ h => h) (by rfl) (by assumption) ?_ ?_
            rotate_left
            · (intro wS hSw; (try dsimp only at hSw); go_simp; try with_reducible rfl)
            try simp only [Act.put, List.setIfInBounds_toArray, List.set_cons_zero, List.set_cons_succ]
            refine uTake (i := 4) (some 57) (v := ?_) rfl rfl (by kernel_rfl) (by kernel_rfl) (by kernel_rfl) (by kernel_rfl) (fun _ _ _ h => h) (by rfl) (by assumption) ?_ ?_
            rotate_left
            · (intro wS hSw; (try dsimp only at hSw); go_simp; try with_reducible rfl)
            try simp only [Act.put, List.setIfInBounds_toArray, List.set_cons_zero, List.set_cons_succ]
            refine uTake (i := 5) (some 58) (v := ?_) rfl rfl (by kernel_rfl) (by kernel_rfl) (by kernel_rfl) (by kernel_rfl) (fun _ _ _ h => h) (by rfl) (by assumption) ?_ ?_
            rotate_left
            · (intro wS hSw; (try dsimp only at hSw); go_simp; try with_reducible rfl)
            try simp only [Act.put, List.setIfInBounds_toArray, List.set_cons_zero, List.set_cons_succ]
            refine uTake (i := 6) (some 59) (v := ?_) rfl rfl (by kernel_rfl) (by kernel_rfl) (by kernel_rfl) (by kernel_rfl) (fun _ _ _ h => h) (by rfl) (by assumption) ?_ ?_
            rotate_left
            · (intro wS hSw; (try dsimp only at hSw); go_simp; try with_reducible rfl)
            try simp only [Act.put, List.setIfInBounds_toArray, List.set_cons_zero, List.set_cons_succ]
            refine uReady (rs := [7]) (by kernel_rfl) (by simp) ?_
            refine ReadyU.cons rfl (fun KK hKK => ?_) ReadyU.nil
            go_simp
            refine (rCopy_c l.L[k] (E12.out.fc 6 rfl) (hbig.out.2 k hk) hu8.out).mono ?_
            rintro e w8 ⟨⟨nba, nbk, rfl, hnb⟩, hb⟩
            have E13 := Lib.hid (E12.out.got (E12.out.below hb) (.bs (.slice nba l.L[k].body.length nbk) l.L[k].body) hnb.out)
            clear E12 hb hnb
            (try dsimp only)
            clear hHeld
            refine hKK.out _ _ (⟨((E13.out.bx 1 rfl).cell 1 rfl), ((E13.out.bx 4 rfl).cell 1 rfl), (E13.out.fc 2 rfl).2, (E13.out.fc 3 rfl).2, (E13.out.fc 4 rfl).2, (E13.out.fc 5 rfl).2, (E13.out.fc 6 rfl).2⟩) (fun hHeld => ?_)
            clear hKK KK
            try simp only [Act.put, List.setIfInBounds_toArray, List.set_cons_zero, List.set_cons_succ]
            refine uReady (rs := [8]) (by kernel_rfl) (by simp) ?_
            refine ReadyU.cons rfl (fun KK hKK => ?_) ReadyU.nil
            go_simp
            have E14 := Lib.hid ((E13.out.push 24 [.int .i64 l.L[k].fr, .int .i64 l.L[k].to_, .int .i64 l.L[k].kd, .int .i64 l.L[k].nm, .slice nba l.L[k].body.length nbk] (w8.heap.size) (by simp)))
            (try dsimp only)
            clear hHeld
            refine hKK.out _ _ (⟨((E14.out.bx 2 rfl).cell 1 rfl), ((E14.out.bx 5 rfl).cell 1 rfl), (E14.out.fc 2 rfl).2, (E14.out.fc 3 rfl).2, (E14.out.fc 4 rfl).2, (E14.out.fc 5 rfl).2, (E14.out.fc 6 rfl).2⟩) (fun hHeld => ?_)
            clear hKK KK
            try simp only [Act.put, List.setIfInBounds_toArray, List.set_cons_zero, List.set_cons_succ]
            clear E13
            generalize w8.alloc (.cells #[.int .i64 l.L[k].fr, .int .i64 l.L[k].to_, .int .i64 l.L[k].kd, .int .i64 l.L[k].nm, .slice nba l.L[k].body.length nbk] 24) = w9 at *
            refine uReady (rs := [9]) (by kernel_rfl) (by simp) ?_
            refine ReadyU.cons rfl (fun KK hKK => ?_) ReadyU.nil
            refine op_app1 (c := 1) tiM (some 62) rfl rfl (.tmp 54) (.tmp 61) rfl E14.out (A := ((w8.heap.size, 24, [.int .i64 l.L[k].fr, .int .i64 l.L[k].to_, .int .i64 l.L[k].kd, .int .i64 l.L[k].nm, .slice nba l.L[k].body.length nbk]) :: (wc.heap.size, 24, [.int .i64 Q.fr, .int .i64 Q.to_, .int .i64 Q.kd, .int .i64 Q.nm, .slice qa Q.body.length qk]) :: (gO, 64, [.int .i64 l.nw, .slice la (er l.L k f).length lj, .slice aa (er l.ats k f).length ak, .slice fta l.ft.length ftk]) :: (w.heap.size + 1 + 1, 24, [.int .i64 0, .int .i64 0, .int .i64 0, .int .i64 0, .slice none 0 0]) :: (w.heap.size + 1, 64, [.int .i64 0, .slice none 0 0, .slice none 0 0, .slice none 0 0]) :: (w.heap.size, 64, [.int .i64 l.nw, .slice (some ⟨xab, xao, none⟩) l.L.length xj, .slice (some ⟨xbb, xbo, none⟩) l.ats.length xk, .slice xc l.ft.length xm]) :: (fts ++ sgA))) (sg := sgL) (B' := []) (F := ((w8.heap.size, 24, [.int .i64 l.L[k].fr, .int .i64 l.L[k].to_, .int .i64 l.L[k].kd, .int .i64 l.L[k].nm, .slice nba l.L[k].body.length nbk]) :: (wc.heap.size, 24, [.int .i64 Q.fr, .int .i64 Q.to_, .int .i64 Q.kd, .int .i64 Q.nm, .slice qa Q.body.length qk]) :: (gO, 64, [.int .i64 l.nw, .slice la (er l.L k f).length lj, .slice aa (er l.ats k f).length ak, .slice fta l.ft.length ftk]) :: (w.heap.size + 1 + 1, 24, [.int .i64 0, .int .i64 0, .int .i64 0, .int .i64 0, .slice none 0 0]) :: (w.heap.size + 1, 64, [.int .i64 0, .slice none 0 0, .slice none 0 0, .slice none 0 0]) :: (w.heap.size, 64, [.int .i64 l.nw, .slice (some ⟨xab, xao, none⟩) l.L.length xj, .slice (some ⟨xbb, xbo, none⟩) l.ats.length xk, .slice xc l.ft.length xm]) :: (fts ++ (sgA ++ sgL)))) (by simp) (hLS.out.os rfl) (by simp [Act.eval, Act.put]) (by simp [Act.eval, Act.put]; done) (SrcN.msg l.L[k] (E14.out.bx 0 rfl)) (by omega) ?_
            intro yg yp yc w10 yH yT yE
            obtain ⟨yO0, yM⟩ := LS.app (g' := yg) hLS.out rfl yH.out yT.out (yE.out.fc 8 rfl) (yE.out.fc 0 rfl)
            have yO := Lib.hid yO0
            have E15 : Hid (Env D w ((w8.heap.size, 24, [.int .i64 l.L[k].fr, .int .i64 l.L[k].to_, .int .i64 l.L[k].kd, .int .i64 l.L[k].nm, .slice nba l.L[k].body.length nbk]) :: (wc.heap.size, 24, [.int .i64 Q.fr, .int .i64 Q.to_, .int .i64 Q.kd, .int .i64 Q.nm, .slice qa Q.body.length qk]) :: (gO, 64, [.int .i64 l.nw, .slice la (er l.L k f).length lj, .slice aa (er l.ats k f).length ak, .slice fta l.ft.length ftk]) :: (w.heap.size + 1 + 1, 24, [.int .i64 0, .int .i64 0, .int .i64 0, .int .i64 0, .slice none 0 0]) :: (w.heap.size + 1, 64, [.int .i64 0, .slice none 0 0, .slice none 0 0, .slice none 0 0]) :: (w.heap.size, 64, [.int .i64 l.nw, .slice (some ⟨xab, xao, none⟩) l.L.length xj, .slice (some ⟨xbb, xbo, none⟩) l.ats.length xk, .slice xc l.ft.length xm]) :: (fts ++ (sgA ++ [(yg, 24, yc)]))) [.mc yc (er l.L k f ++ [l.L[k]]), .bs (.slice nba l.L[k].body.length nbk) l.L[k].body, .ce xbb (xbo + k) (.int .i64 l.ats[k]), .ce xab (xao + k * 5) (.int .i64 l.L[k].fr), .ce xab (xao + k * 5 + 1) (.int .i64 l.L[k].to_), .ce xab (xao + k * 5 + 2) (.int .i64 l.L[k].kd), .ce xab (xao + k * 5 + 3) (.int .i64 l.L[k].nm), .ce xab (xao + k * 5 + 4) (.slice ua l.L[k].body.length uk), .bs (.slice ua l.L[k].body.length uk) l.L[k].body, .mc csL (er l.L k f), .bs (.slice qa Q.body.length qk) Q.body, .rw (.slice xc l.ft.length xm) l.ft.length 2 (fcl l.ft), .rw (.slice (some ⟨xbb, xbo, none⟩) l.ats.length xk) l.ats.length 1 (icl l.ats), .ms (.slice (some ⟨xab, xao, none⟩) l.L.length xj) l.L] w10) := Lib.hid ((yE.out.note _ yM).cast (by simp))
            clear E14 yE yM yO0 yH yT hLS
            (try dsimp only)
            clear hHeld
            refine hKK.out _ _ (⟨((E15.out.bx 2 rfl).cell 1 rfl), ((E15.out.bx 5 rfl).cell 1 rfl), (E15.out.fc 3 rfl).2, (E15.out.fc 4 rfl).2, (E15.out.fc 5 rfl).2, (E15.out.fc 6 rfl).2, (E15.out.fc 7 rfl).2⟩) (fun hHeld => ?_)
            clear hKK KK
            try simp only [Act.put, List.setIfInBounds_toArray, List.set_cons_zero, List.set_cons_succ]
            refine uTake (i := 10) (some 63) (v := ?_) rfl rfl (by kernel_rfl) (by kernel_rfl) (by kernel_rfl) (by kernel_rfl) (fun _ _ _ h => h) (by rfl) (by assumption) ?_ ?_
            rotate_left
            · (intro wS hSw; (try dsimp only at hSw); go_simp; try with_reducible rfl)
            try simp only [Act.put, List.setIfInBounds_toArray, List.set_cons_zero, List.set_cons_succ]
            have b3 := E15.out.bx 2 rfl
            have c3_1 := b3.cell 1 rfl
            have f3_1 := b3.frozen 1
            clear b3
            refine uReady (rs := [11]) (by kernel_rfl) (by simp) ?_
            refine ReadyU.consU (by kernel_rfl) rfl (fun KK hKK => ?_) ReadyU.nil
            go_simp
            have E16 : Hid (Env D w ((w8.heap.size, 24, [.int .i64 l.L[k].fr, .int .i64 l.L[k].to_, .int .i64 l.L[k].kd, .int .i64 l.L[k].nm, .slice nba l.L[k].body.length nbk]) :: (wc.heap.size, 24, [.int .i64 Q.fr, .int .i64 Q.to_, .int .i64 Q.kd, .int .i64 Q.nm, .slice qa Q.body.length qk]) :: (gO, 64, [.int .i64 l.nw, .slice (some ⟨yg, 0, none⟩) ((er l.L k f).length + 1) yp, .slice aa (er l.ats k f).length ak, .slice fta l.ft.length ftk]) :: (w.heap.size + 1 + 1, 24, [.int .i64 0, .int .i64 0, .int .i64 0, .int .i64 0, .slice none 0 0]) :: (w.heap.size + 1, 64, [.int .i64 0, .slice none 0 0, .slice none 0 0, .slice none 0 0]) :: (w.heap.size, 64, [.int .i64 l.nw, .slice (some ⟨xab, xao, none⟩) l.L.length xj, .slice (some ⟨xbb, xbo, none⟩) l.ats.length xk, .slice xc l.ft.length xm]) :: (fts ++ (sgA ++ [(yg, 24, yc)]))) [.mc yc (er l.L k f ++ [l.L[k]]), .bs (.slice nba l.L[k].body.length nbk) l.L[k].body, .ce xbb (xbo + k) (.int .i64 l.ats[k]), .ce xab (xao + k * 5) (.int .i64 l.L[k].fr), .ce xab (xao + k * 5 + 1) (.int .i64 l.L[k].to_), .ce xab (xao + k * 5 + 2) (.int .i64 l.L[k].kd), .ce xab (xao + k * 5 + 3) (.int .i64 l.L[k].nm), .ce xab (xao + k * 5 + 4) (.slice ua l.L[k].body.length uk), .bs (.slice ua l.L[k].body.length uk) l.L[k].body, .mc csL (er l.L k f), .bs (.slice qa Q.body.length qk) Q.body, .rw (.slice xc l.ft.length xm) l.ft.length 2 (fcl l.ft), .rw (.slice (some ⟨xbb, xbo, none⟩) l.ats.length xk) l.ats.length 1 (icl l.ats), .ms (.slice (some ⟨xab, xao, none⟩) l.L.length xj) l.L] _) := Lib.hid ((E15.out.set 2 1 (.slice (some ⟨yg, 0, none⟩) ((er l.L k f).length + 1) yp) rfl))
            (try dsimp only)
            (try clear hHeld)
            refine hKK.out _ _ ?_
            clear hKK KK
            try simp only [Act.put, List.setIfInBounds_toArray, List.set_cons_zero, List.set_cons_succ]
            refine uDone (by kernel_rfl) ?_ _
            go_wp2_with fail
            clear c3_1 f3_1 E15
            generalize w10.setCell ⟨gO, 1, none⟩ (.slice (some ⟨yg, 0, none⟩) ((er l.L k f).length + 1) yp) = w11 at *
            have E17 := Lib.hid E16.out.drew
            clear E16
            refine wp_regionU (S := fun w' => w'.cell? ⟨gO, 2, none⟩ = some (.slice aa (er l.ats k f).length ak) ∧ w'.cell? ⟨w.heap.size, 2, none⟩ = some (.slice (some ⟨xbb, xbo, none⟩) l.ats.length xk) ∧ w'.cell? ⟨xbb, xbo + k, none⟩ = some (.int .i64 l.ats[k])) [10] (by kernel_rfl) (⟨((E17.out.bx 2 rfl).cell 2 rfl), ((E17.out.bx 5 rfl).cell 2 rfl), (E17.out.fc 2 rfl).2⟩) (fun hHeld => ?_)
            generalize w11.drew = w12 at *
            refine uTake (i := 0) (some 64) (v := ?_) rfl rfl (by kernel_rfl) (by kernel_rfl) (by kernel_rfl) (by kernel_rfl) (fun _ _ _ h => h) (by rfl) (by assumption) ?_ ?_
            rotate_left
            · (intro wS hSw; (try dsimp only at hSw); go_simp; try with_reducible rfl)
            try simp only [Act.put, List.setIfInBounds_toArray, List.set_cons_zero, List.set_cons_succ]
            refine uTake (i := 1) (some 65) (v := ?_) rfl rfl (by kernel_rfl) (by kernel_rfl) (by kernel_rfl) (by kernel_rfl) (fun _ _ _ h => h) (by rfl) (by assumption) ?_ ?_
            rotate_left
            · (intro wS hSw; (try dsimp only at hSw); go_simp; try with_reducible rfl)
            try simp only [Act.put, List.setIfInBounds_toArray, List.set_cons_zero, List.set_cons_succ]
            refine uTake (i := 2) (some 66) (v := ?_) rfl rfl (by kernel_rfl) (by kernel_rfl) (by kernel_rfl) (by kernel_rfl) (fun _ _ _ h => h) (by rfl) (by assumption) ?_ ?_
            rotate_left
            · (intro wS hSw; (try dsimp only at hSw); go_simp; try with_reducible rfl)
            try simp only [Act.put, List.setIfInBounds_toArray, List.set_cons_zero, List.set_cons_succ]
            refine uTake (i := 3) (some 67) (v := ?_) rfl rfl (by kernel_rfl) (by kernel_rfl) (by kernel_rfl) (by kernel_rfl) (fun _ _ _ h => h) (by rfl) (by assumption) ?_ ?_
            rotate_left
            · (intro wS hSw; (try dsimp only at hSw); go_simp; try with_reducible rfl)
            try simp only [Act.put, List.setIfInBounds_toArray, List.set_cons_zero, List.set_cons_succ]
            refine uTake (i := 4) (some 68) (v := ?_) rfl rfl (by kernel_rfl) (by kernel_rfl) (by kernel_rfl) (by kernel_rfl) (fun _ _ _ h => h) (by rfl) (by assumption) ?_ ?_
            rotate_left
            · (intro wS hSw; (try dsimp only at hSw); go_simp; try with_reducible rfl)
            try simp only [Act.put, List.setIfInBounds_toArray, List.set_cons_zero, List.set_cons_succ]
            refine uTake (i := 5) (some 69) (v := ?_) rfl rfl (by kernel_rfl) (by kernel_rfl) (by kernel_rfl) (by kernel_rfl) (fun _ _ _ h => h) (by rfl) (by assumption) ?_ ?_
            rotate_left
            · (intro wS hSw; (try dsimp only at hSw); go_simp; try with_reducible rfl)
            try simp only [Act.put, List.setIfInBounds_toArray, List.set_cons_zero, List.set_cons_succ]
            refine uTake (i := 6) (some 70) (v := ?_) rfl rfl (by kernel_rfl) (by kernel_rfl) (by kernel_rfl) (by kernel_rfl) (fun _ _ _ h => h) (by rfl) (by assumption) ?_ ?_
            rotate_left
            · (intro wS hSw; (try dsimp only at hSw); go_simp; try with_reducible rfl)
            try simp only [Act.put, List.setIfInBounds_toArray, List.set_cons_zero, List.set_cons_succ]
            refine uReady (rs := [7]) (by kernel_rfl) (by simp) ?_
            refine ReadyU.cons rfl (fun KK hKK => ?_) ReadyU.nil
            go_simp
            have E18 := Lib.hid ((E17.out.push 3 [.int .i64 l.ats[k]] (w12.heap.size) (by simp)))
            (try dsimp only)
            clear hHeld
            refine hKK.out _ _ (⟨((E18.out.bx 3 rfl).cell 2 rfl), ((E18.out.bx 6 rfl).cell 2 rfl), (E18.out.fc 2 rfl).2⟩) (fun hHeld => ?_)
            clear hKK KK
            try simp only [Act.put, List.setIfInBounds_toArray, List.set_cons_zero, List.set_cons_succ]
            clear E17
            generalize w12.alloc (.cells #[.int .i64 l.ats[k]] 3) = w13 at *
            refine uReady (rs := [8]) (by kernel_rfl) (by simp) ?_
            refine ReadyU.cons rfl (fun KK hKK => ?_) ReadyU.nil
            refine op_app1 (c := 1) tiI (some 72) rfl rfl (.tmp 65) (.tmp 71) rfl E18.out (A := ((w12.heap.size, 3, [.int .i64 l.ats[k]]) :: (w8.heap.size, 24, [.int .i64 l.L[k].fr, .int .i64 l.L[k].to_, .int .i64 l.L[k].kd, .int .i64 l.L[k].nm, .slice nba l.L[k].body.length nbk]) :: (wc.heap.size, 24, [.int .i64 Q.fr, .int .i64 Q.to_, .int .i64 Q.kd, .int .i64 Q.nm, .slice qa Q.body.length qk]) :: (gO, 64, [.int .i64 l.nw, .slice (some ⟨yg, 0, none⟩) ((er l.L k f).length + 1) yp, .slice aa (er l.ats k f).length ak, .slice fta l.ft.length ftk]) :: (w.heap.size + 1 + 1, 24, [.int .i64 0, .int .i64 0, .int .i64 0, .int .i64 0, .slice none 0 0]) :: (w.heap.size + 1, 64, [.int .i64 0, .slice none 0 0, .slice none 0 0, .slice none 0 0]) :: (w.heap.size, 64, [.int .i64 l.nw, .slice (some ⟨xab, xao, none⟩) l.L.length xj, .slice (some ⟨xbb, xbo, none⟩) l.ats.length xk, .slice xc l.ft.length xm]) :: fts)) (sg := sgA) (B' := [(yg, 24, yc)]) (F := ((w12.heap.size, 3, [.int .i64 l.ats[k]]) :: (w8.heap.size, 24, [.int .i64 l.L[k].fr, .int .i64 l.L[k].to_, .int .i64 l.L[k].kd, .int .i64 l.L[k].nm, .slice nba l.L[k].body.length nbk]) :: (wc.heap.size, 24, [.int .i64 Q.fr, .int .i64 Q.to_, .int .i64 Q.kd, .int .i64 Q.nm, .slice qa Q.body.length qk]) :: (gO, 64, [.int .i64 l.nw, .slice (some ⟨yg, 0, none⟩) ((er l.L k f).length + 1) yp, .slice aa (er l.ats k f).length ak, .slice fta l.ft.length ftk]) :: (w.heap.size + 1 + 1, 24, [.int .i64 0, .int .i64 0, .int .i64 0, .int .i64 0, .slice none 0 0]) :: (w.heap.size + 1, 64, [.int .i64 0, .slice none 0 0, .slice none 0 0, .slice none 0 0]) :: (w.heap.size, 64, [.int .i64 l.nw, .slice (some ⟨xab, xao, none⟩) l.L.length xj, .slice (some ⟨xbb, xbo, none⟩) l.ats.length xk, .slice xc l.ft.length xm]) :: (fts ++ (sgA ++ [(yg, 24, yc)])))) (by simp) (hOI.out.os rfl) (by simp [Act.eval, Act.put]) (by simp [Act.eval, Act.put]; done) (SrcN.int (E18.out.bx 0 rfl)) (by omega) ?_
            intro zg zp zc w14 zH zT zE
            have zO := Lib.hid (OI.app (g' := zg) hOI.out rfl zH.out zT.out)
            have E19 : Hid (Env D w ((w12.heap.size, 3, [.int .i64 l.ats[k]]) :: (w8.heap.size, 24, [.int .i64 l.L[k].fr, .int .i64 l.L[k].to_, .int .i64 l.L[k].kd, .int .i64 l.L[k].nm, .slice nba l.L[k].body.length nbk]) :: (wc.heap.size, 24, [.int .i64 Q.fr, .int .i64 Q.to_, .int .i64 Q.kd, .int .i64 Q.nm, .slice qa Q.body.length qk]) :: (gO, 64, [.int .i64 l.nw, .slice (some ⟨yg, 0, none⟩) ((er l.L k f).length + 1) yp, .slice aa (er l.ats k f).length ak, .slice fta l.ft.length ftk]) :: (w.heap.size + 1 + 1, 24, [.int .i64 0, .int .i64 0, .int .i64 0, .int .i64 0, .slice none 0 0]) :: (w.heap.size + 1, 64, [.int .i64 0, .slice none 0 0, .slice none 0 0, .slice none 0 0]) :: (w.heap.size, 64, [.int .i64 l.nw, .slice (some ⟨xab, xao, none⟩) l.L.length xj, .slice (some ⟨xbb, xbo, none⟩) l.ats.length xk, .slice xc l.ft.length xm]) :: (fts ++ ((zg, 3, zc) :: [(yg, 24, yc)]))) [.mc yc (er l.L k f ++ [l.L[k]]), .bs (.slice nba l.L[k].body.length nbk) l.L[k].body, .ce xbb (xbo + k) (.int .i64 l.ats[k]), .ce xab (xao + k * 5) (.int .i64 l.L[k].fr), .ce xab (xao + k * 5 + 1) (.int .i64 l.L[k].to_), .ce xab (xao + k * 5 + 2) (.int .i64 l.L[k].kd), .ce xab (xao + k * 5 + 3) (.int .i64 l.L[k].nm), .ce xab (xao + k * 5 + 4) (.slice ua l.L[k].body.length uk), .bs (.slice ua l.L[k].body.length uk) l.L[k].body, .mc csL (er l.L k f), .bs (.slice qa Q.body.length qk) Q.body, .rw (.slice xc l.ft.length xm) l.ft.length 2 (fcl l.ft), .rw (.slice (some ⟨xbb, xbo, none⟩) l.ats.length xk) l.ats.length 1 (icl l.ats), .ms (.slice (some ⟨xab, xao, none⟩) l.L.length xj) l.L] w14) := Lib.hid (zE.out.cast (by simp))
            clear E18 zE zH zT hOI
            (try dsimp only)
            clear hHeld
            refine hKK.out _ _ (⟨((E19.out.bx 3 rfl).cell 2 rfl), ((E19.out.bx 6 rfl).cell 2 rfl), (E19.out.fc 2 rfl).2⟩) (fun hHeld => ?_)
            clear hKK KK
            try simp only [Act.put, List.setIfInBounds_toArray, List.set_cons_zero, List.set_cons_succ]
            refine uTake (i := 9) (some 73) (v := ?_) rfl rfl (by kernel_rfl) (by kernel_rfl) (by kernel_rfl) (by kernel_rfl) (fun _ _ _ h => h) (by rfl) (by assumption) ?_ ?_
            rotate_left
            · (intro wS hSw; (try dsimp only at hSw); go_simp; try with_reducible rfl)
            try simp only [Act.put, List.setIfInBounds_toArray, List.set_cons_zero, List.set_cons_succ]
            have b4 := E19.out.bx 3 rfl
            have c4_2 := b4.cell 2 rfl
            have f4_2 := b4.frozen 2
            clear b4
            refine uReady (rs := [10]) (by kernel_rfl) (by simp) ?_
            refine ReadyU.consU (by kernel_rfl) rfl (fun KK hKK => ?_) ReadyU.nil
            go_simp
            have E20 : Hid (Env D w ((w12.heap.size, 3, [.int .i64 l.ats[k]]) :: (w8.heap.size, 24, [.int .i64 l.L[k].fr, .int .i64 l.L[k].to_, .int .i64 l.L[k].kd, .int .i64 l.L[k].nm, .slice nba l.L[k].body.length nbk]) :: (wc.heap.size, 24, [.int .i64 Q.fr, .int .i64 Q.to_, .int .i64 Q.kd, .int .i64 Q.nm, .slice qa Q.body.length qk]) :: (gO, 64, [.int .i64 l.nw, .slice (some ⟨yg, 0, none⟩) ((er l.L k f).length + 1) yp, .slice (some ⟨zg, 0, none⟩) ((er l.ats k f).length + 1) zp, .slice fta l.ft.length ftk]) :: (w.heap.size + 1 + 1, 24, [.int .i64 0, .int .i64 0, .int .i64 0, .int .i64 0, .slice none 0 0]) :: (w.heap.size + 1, 64, [.int .i64 0, .slice none 0 0, .slice none 0 0, .slice none 0 0]) :: (w.heap.size, 64, [.int .i64 l.nw, .slice (some ⟨xab, xao, none⟩) l.L.length xj, .slice (some ⟨xbb, xbo, none⟩) l.ats.length xk, .slice xc l.ft.length xm]) :: (fts ++ ((zg, 3, zc) :: [(yg, 24, yc)]))) [.mc yc (er l.L k f ++ [l.L[k]]), .bs (.slice nba l.L[k].body.length nbk) l.L[k].body, .ce xbb (xbo + k) (.int .i64 l.ats[k]), .ce xab (xao + k * 5) (.int .i64 l.L[k].fr), .ce xab (xao + k * 5 + 1) (.int .i64 l.L[k].to_), .ce xab (xao + k * 5 + 2) (.int .i64 l.L[k].kd), .ce xab (xao + k * 5 + 3) (.int .i64 l.L[k].nm), .ce xab (xao + k * 5 + 4) (.slice ua l.L[k].body.length uk), .bs (.slice ua l.L[k].body.length uk) l.L[k].body, .mc csL (er l.L k f), .bs (.slice qa Q.body.length qk) Q.body, .rw (.slice xc l.ft.length xm) l.ft.length 2 (fcl l.ft), .rw (.slice (some ⟨xbb, xbo, none⟩) l.ats.length xk) l.ats.length 1 (icl l.ats), .ms (.slice (some ⟨xab, xao, none⟩) l.L.length xj) l.L] _) := Lib.hid ((E19.out.set 3 2 (.slice (some ⟨zg, 0, none⟩) ((er l.ats k f).length + 1) zp) rfl))
            (try dsimp only)
            (try clear hHeld)
            refine hKK.out _ _ ?_
            clear hKK KK
            try simp only [Act.put, List.setIfInBounds_toArray, List.set_cons_zero, List.set_cons_succ]
            refine uDone (by kernel_rfl) ?_ _
            clear c4_2 f4_2 E19
            generalize w14.setCell ⟨gO, 2, none⟩ (.slice (some ⟨zg, 0, none⟩) ((er l.ats k f).length + 1) zp) = w15 at *
            rw [er_app hk hkf.out] at yO
            rw [er_app hk2 hkf.out] at zO
            have hZ := ((E20.out.drop).drop)
            have EZ : Hid (Env D w ((wc.heap.size, 24, [.int .i64 Q.fr, .int .i64 Q.to_, .int .i64 Q.kd, .int .i64 Q.nm, .slice qa Q.body.length qk]) :: (gO, 64, [.int .i64 l.nw, .slice (some ⟨yg, 0, none⟩) ((er l.L k f).length + 1) yp, .slice (some ⟨zg, 0, none⟩) ((er l.ats k f).length + 1) zp, .slice fta l.ft.length ftk]) :: (w.heap.size + 1 + 1, 24, [.int .i64 0, .int .i64 0, .int .i64 0, .int .i64 0, .slice none 0 0]) :: (w.heap.size + 1, 64, [.int .i64 0, .slice none 0 0, .slice none 0 0, .slice none 0 0]) :: (w.heap.size, 64, [.int .i64 l.nw, .slice (some ⟨xab, xao, none⟩) l.L.length xj, .slice (some ⟨xbb, xbo, none⟩) l.ats.length xk, .slice xc l.ft.length xm]) :: (fts ++ ((zg, 3, zc) :: [(yg, 24, yc)]))) [.mc yc (er l.L (k + 1) f), .bs (.slice qa Q.body.length qk) Q.body, .rw (.slice xc l.ft.length xm) l.ft.length 2 (fcl l.ft), .rw (.slice (some ⟨xbb, xbo, none⟩) l.ats.length xk) l.ats.length 1 (icl l.ats), .ms (.slice (some ⟨xab, xao, none⟩) l.L.length xj) l.L] _) := Lib.hid ⟨hZ.bel, hZ.box, ⟨by have h9 := hZ.fc 0 rfl; rw [er_app hk hkf.out] at h9; exact h9, ⟨hZ.fc 10 rfl, ⟨hZ.fc 11 rfl, ⟨hZ.fc 12 rfl, ⟨hZ.fc 13 rfl, trivial⟩⟩⟩⟩⟩⟩
            clear hZ
            rw [er_len_app hk hkf.out] at yO EZ
            rw [er_len_app hk2 hkf.out] at zO EZ
            go_wp2
            go_roundg (l.L.length - (k + 1))
            case rel => exact ⟨k + 1, _, Q, qa, qk, _, _, _, _, _, _, _, _, rfl, rfl, EZ, zO, yO, Lib.hid ⟨⟨by omega, rfl⟩, fun _ => rfl, fun h => by (have := HKF.out; omega)⟩⟩
            case measure => exact by omega
          · have d3 : (l.L[k].to_ == pt) = true := by simpa using c2
            have d1 : decide (l.ats[k] ≤ l.nw) = false := by (have h9 := hno.out; rw [hae.out, c2] at h9; simpa using h9)
            clear c2
            go_wp2_with fail
            have E11 := Lib.hid E10.out.drew
            clear u0 u1 u2 u3 u4 v0 c2_1 E10
            refine wp_regionU (S := fun w' => w'.cell? ⟨w.heap.size, 1, none⟩ = some (.slice (some ⟨xab, xao, none⟩) l.L.length xj) ∧ w'.cell? ⟨w.heap.size, 2, none⟩ = some (.slice (some ⟨xbb, xbo, none⟩) l.ats.length xk) ∧ w'.cell? ⟨w.heap.size, 0, none⟩ = some (.int .i64 l.nw) ∧ w'.cell? ⟨xab, xao + k * 5, none⟩ = some (.int .i64 l.L[k].fr) ∧ w'.cell? ⟨xab, xao + k * 5 + 1, none⟩ = some (.int .i64 l.L[k].to_) ∧ w'.cell? ⟨xab, xao + k * 5 + 2, none⟩ = some (.int .i64 l.L[k].kd) ∧ w'.cell? ⟨xab, xao + k * 5 + 3, none⟩ = some (.int .i64 l.L[k].nm) ∧ w'.cell? ⟨xab, xao + k * 5 + 4, none⟩ = some (.slice ua l.L[k].body.length uk) ∧ w'.cell? ⟨xbb, xbo + k, none⟩ = some (.int .i64 l.ats[k])) [] (by kernel_rfl) (⟨((E11.out.bx 4 rfl).cell 1 rfl), ((E11.out.bx 4 rfl).cell 2 rfl), ((E11.out.bx 4 rfl).cell 0 rfl), (E11.out.fc 1 rfl).2, (E11.out.fc 2 rfl).2, (E11.out.fc 3 rfl).2, (E11.out.fc 4 rfl).2, (E11.out.fc 5 rfl).2, (E11.out.fc 0 rfl).2⟩) (fun hHeld => ?_)
            generalize wr.drew = w6 at *
            refine uTake (i := 0) (some 25) (v := ?_) rfl rfl (by kernel_rfl) (by kernel_rfl) (by kernel_rfl) (by kernel_rfl) (fun _ _ _ h => h) (by rfl) (by assumption) ?_ ?_
            rotate_left
            · (intro wS hSw; (try dsimp only at hSw); go_simp; try with_reducible rfl)
            try simp only [Act.put, List.setIfInBounds_toArray, List.set_cons_zero, List.set_cons_succ]
            refine uTake (i := 1) (some 26) (v := .bool true) rfl rfl (by kernel_rfl) (by kernel_rfl) (by kernel_rfl) (by kernel_rfl) (fun _ _ _ h => h) (by rfl) (by assumption) ?_ ?_
            · (intro wS hSw; (try dsimp only at hSw); go_simp; try with_reducible rfl)
            try simp only [Act.put, List.setIfInBounds_toArray, List.set_cons_zero, List.set_cons_succ]
            refine uTake (i := 2) (some 27) (v := ?_) rfl rfl (by kernel_rfl) (by kernel_rfl) (by kernel_rfl) (by kernel_rfl) (fun _ _ _ h => h) (by rfl) (by assumption) ?_ ?_
            rotate_left
            · (intro wS hSw; (try dsimp only at hSw); go_simp; try with_reducible rfl)
            try simp only [Act.put, List.setIfInBounds_toArray, List.set_cons_zero, List.set_cons_succ]
            refine uTake (i := 3) (some 28) (v := ?_) rfl rfl (by kernel_rfl) (by kernel_rfl) (by kernel_rfl) (by kernel_rfl) (fun _ _ _ h => h) (by rfl) (by assumption) ?_ ?_
            rotate_left
            · (intro wS hSw; (try dsimp only at hSw); go_simp; try with_reducible rfl)
            try simp only [Act.put, List.setIfInBounds_toArray, List.set_cons_zero, List.set_cons_succ]
            refine uTake (i := 4) (some 29) (v := ?_) rfl rfl (by kernel_rfl) (by kernel_rfl) (by kernel_rfl) (by kernel_rfl) (fun _ _ _ h => h) (by rfl) (by assumption) ?_ ?_
            rotate_left
            · (intro wS hSw; (try dsimp only at hSw); go_simp; try with_reducible rfl)
            try simp only [Act.put, List.setIfInBounds_toArray, List.set_cons_zero, List.set_cons_succ]
            refine uTake (i := 5) (some 30) (v := ?_) rfl rfl (by kernel_rfl) (by kernel_rfl) (by kernel_rfl) (by kernel_rfl) (fun _ _ _ h => h) (by rfl) (by assumption) ?_ ?_
            rotate_left
            · (intro wS hSw; (try dsimp only at hSw); go_simp; try with_reducible rfl)
            try simp only [Act.put, List.setIfInBounds_toArray, List.set_cons_zero, List.set_cons_succ]
            refine uTake (i := 6) (some 31) (v := ?_) rfl rfl (by kernel_rfl) (by kernel_rfl) (by kernel_rfl) (by kernel_rfl) (fun _ _ _ h => h) (by rfl) (by assumption) ?_ ?_
            rotate_left
            · (intro wS hSw; (try dsimp only at hSw); go_simp; try with_reducible rfl)
            try simp only [Act.put, List.setIfInBounds_toArray, List.set_cons_zero, List.set_cons_succ]
            refine uTake (i := 7) (some 32) (v := ?_) rfl rfl (by kernel_rfl) (by kernel_rfl) (by kernel_rfl) (by kernel_rfl) (fun _ _ _ h => h) (by rfl) (by assumption) ?_ ?_
            rotate_left
            · (intro wS hSw; (try dsimp only at hSw); go_simp; try with_reducible rfl)
            try simp only [Act.put, List.setIfInBounds_toArray, List.set_cons_zero, List.set_cons_succ]
            refine uTake (i := 8) (some 33) (v := ?_) rfl rfl (by kernel_rfl) (by kernel_rfl) (by kernel_rfl) (by kernel_rfl) (fun _ _ _ h => h) (by rfl) (by assumption) ?_ ?_
            rotate_left
            · (intro wS hSw; (try dsimp only at hSw); go_simp; try with_reducible rfl)
            try simp only [Act.put, List.setIfInBounds_toArray, List.set_cons_zero, List.set_cons_succ]
            refine uTake (i := 9) (some 34) (v := ?_) rfl rfl (by kernel_rfl) (by kernel_rfl) (by kernel_rfl) (by kernel_rfl) (fun _ _ _ h => h) (by rfl) (by assumption) ?_ ?_
            rotate_left
            · (intro wS hSw; (try dsimp only at hSw); go_simp; try with_reducible rfl)
            try simp only [Act.put, List.setIfInBounds_toArray, List.set_cons_zero, List.set_cons_succ]
            refine uTake (i := 10) (some 35) (v := .bool true) rfl rfl (by kernel_rfl) (by kernel_rfl) (by kernel_rfl) (by kernel_rfl) (fun _ _ _ h => h) (by rfl) (by assumption) ?_ ?_
            · (intro wS hSw; (try dsimp only at hSw); go_simp; try simp [*])
            try simp only [Act.put, List.setIfInBounds_toArray, List.set_cons_zero, List.set_cons_succ]
            refine uTake (i := 11) (some 36) (v := ?_) rfl rfl (by kernel_rfl) (by kernel_rfl) (by kernel_rfl) (by kernel_rfl) (fun _ _ _ h => h) (by rfl) (by assumption) ?_ ?_
            rotate_left
            · (intro wS hSw; (try dsimp only at hSw); go_simp; try with_reducible rfl)
            try simp only [Act.put, List.setIfInBounds_toArray, List.set_cons_zero, List.set_cons_succ]
            refine uTake (i := 12) (some 37) (v := ?_) rfl rfl (by kernel_rfl) (by kernel_rfl) (by kernel_rfl) (by kernel_rfl) (fun _ _ _ h => h) (by rfl) (by assumption) ?_ ?_
            rotate_left
            · (intro wS hSw; (try dsimp only at hSw); go_simp; try with_reducible rfl)
            try simp only [Act.put, List.setIfInBounds_toArray, List.set_cons_zero, List.set_cons_succ]
            refine uTake (i := 13) (some 38) (v := ?_) rfl rfl (by kernel_rfl) (by kernel_rfl) (by kernel_rfl) (by kernel_rfl) (fun _ _ _ h => h) (by rfl) (by assumption) ?_ ?_
            rotate_left
            · (intro wS hSw; (try dsimp only at hSw); go_simp; try with_reducible rfl)
            try simp only [Act.put, List.setIfInBounds_toArray, List.set_cons_zero, List.set_cons_succ]
            refine uTake (i := 14) (some 39) (v := ?_) rfl rfl (by kernel_rfl) (by kernel_rfl) (by kernel_rfl) (by kernel_rfl) (fun _ _ _ h => h) (by rfl) (by assumption) ?_ ?_
            rotate_left
            · (intro wS hSw; (try dsimp only at hSw); go_simp; try with_reducible rfl)
            try simp only [Act.put, List.setIfInBounds_toArray, List.set_cons_zero, List.set_cons_succ]
            refine uTake (i := 15) (some 40) (v := ?_) rfl rfl (by kernel_rfl) (by kernel_rfl) (by kernel_rfl) (by kernel_rfl) (fun _ _ _ h => h) (by rfl) (by assumption) ?_ ?_
            rotate_left
            · (intro wS hSw; (try dsimp only at hSw); go_simp; try with_reducible rfl)
            try simp only [Act.put, List.setIfInBounds_toArray, List.set_cons_zero, List.set_cons_succ]
            refine uTake (i := 16) (some 41) (v := ?_) rfl rfl (by kernel_rfl) (by kernel_rfl) (by kernel_rfl) (by kernel_rfl) (fun _ _ _ h => h) (by rfl) (by assumption) ?_ ?_
            rotate_left
            · (intro wS hSw; (try dsimp only at hSw); go_simp; try with_reducible rfl)
            try simp only [Act.put, List.setIfInBounds_toArray, List.set_cons_zero, List.set_cons_succ]
            refine uTake (i := 17) (some 42) (v := ?_) rfl rfl (by kernel_rfl) (by kernel_rfl) (by kernel_rfl) (by kernel_rfl) (fun _ _ _ h => h) (by rfl) (by assumption) ?_ ?_
            rotate_left
            · (intro wS hSw; (try dsimp only at hSw); go_simp; try with_reducible rfl)
            try simp only [Act.put, List.setIfInBounds_toArray, List.set_cons_zero, List.set_cons_succ]
            refine uTake (i := 18) (some 43) (v := ?_) rfl rfl (by kernel_rfl) (by kernel_rfl) (by kernel_rfl) (by kernel_rfl) (fun _ _ _ h => h) (by rfl) (by assumption) ?_ ?_
            rotate_left
            · (intro wS hSw; (try dsimp only at hSw); go_simp; try with_reducible rfl)
            try simp only [Act.put, List.setIfInBounds_toArray, List.set_cons_zero, List.set_cons_succ]
            refine uTake (i := 19) (some 44) (v := ?_) rfl rfl (by kernel_rfl) (by kernel_rfl) (by kernel_rfl) (by kernel_rfl) (fun _ _ _ h => h) (by rfl) (by assumption) ?_ ?_
            rotate_left
            · (intro wS hSw; (try dsimp only at hSw); go_simp; try with_reducible rfl)
            try simp only [Act.put, List.setIfInBounds_toArray, List.set_cons_zero, List.set_cons_succ]
            refine uTake (i := 20) (some 45) (v := .bool false) rfl rfl (by kernel_rfl) (by kernel_rfl) (by kernel_rfl) (by kernel_rfl) (fun _ _ _ h => h) (by rfl) (by assumption) ?_ ?_
            · (intro wS hSw; (try dsimp only at hSw); go_simp; try simp [*])
            try simp only [Act.put, List.setIfInBounds_toArray, List.set_cons_zero, List.set_cons_succ]
            refine uTake (i := 21) (some 46) (v := ?_) rfl rfl (by kernel_rfl) (by kernel_rfl) (by kernel_rfl) (by kernel_rfl) (fun _ _ _ h => h) (by rfl) (by assumption) ?_ ?_
            rotate_left
            · (intro wS hSw; (try dsimp only at hSw); go_simp; try with_reducible rfl)
            try simp only [Act.put, List.setIfInBounds_toArray, List.set_cons_zero, List.set_cons_succ]
            refine uDone (by kernel_rfl) ?_ _
            have hu8 := Lib.hid (Bs.u8 (E11.out.fc 6 rfl))
            go_wp2_with fail
            have E12 := Lib.hid E11.out.drew
            clear E11
            refine wp_regionU (S := fun w' => w'.cell? ⟨gO, 1, none⟩ = some (.slice la (er l.L k f).length lj) ∧ w'.cell? ⟨w.heap.size, 1, none⟩ = some (.slice (some ⟨xab, xao, none⟩) l.L.length xj) ∧ w'.cell? ⟨xab, xao + k * 5, none⟩ = some (.int .i64 l.L[k].fr) ∧ w'.cell? ⟨xab, xao + k * 5 + 1, none⟩ = some (.int .i64 l.L[k].to_) ∧ w'.cell? ⟨xab, xao + k * 5 + 2, none⟩ = some (.int .i64 l.L[k].kd) ∧ w'.cell? ⟨xab, xao + k * 5 + 3, none⟩ = some (.int .i64 l.L[k].nm) ∧ w'.cell? ⟨xab, xao + k * 5 + 4, none⟩ = some (.slice ua l.L[k].body.length uk)) [11] (by kernel_rfl) (⟨((E12.out.bx 1 rfl).cell 1 rfl), ((E12.out.bx 4 rfl).cell 1 rfl), (E12.out.fc 1 rfl).2, (E12.out.fc 2 rfl).2, (E12.out.fc 3 rfl).2, (E12.out.fc 4 rfl).2, (E12.out.fc 5 rfl).2⟩) (fun hHeld => ?_)
            generalize w6.drew = w7 at *
            refine uTake (i := 0) (some 53) (v := ?_) rfl rfl (by kernel_rfl) (by kernel_rfl) (by kernel_rfl) (by kernel_rfl) (fun _ _ _ h => h) (by rfl) (by assumption) ?_ ?_
            rotate_left
            · (intro wS hSw; (try dsimp only at hSw); go_simp; try with_reducible rfl)
            try simp only [Act.put, List.setIfInBounds_toArray, List.set_cons_zero, List.set_cons_succ]
            refine uTake (i := 1) (some 54) (v := ?_) rfl rfl (by kernel_rfl) (by kernel_rfl) (by kernel_rfl) (by kernel_rfl) (fun _ _ _ h => h) (by rfl) (by assumption) ?_ ?_
            rotate_left
            · (intro wS hSw; (try dsimp only at hSw); go_simp; try with_reducible rfl)
            try simp only [Act.put, List.setIfInBounds_toArray, List.set_cons_zero, List.set_cons_succ]
            refine uTake (i := 2) (some 55) (v := ?_) rfl rfl (by kernel_rfl) (by kernel_rfl) (by kernel_rfl) (by kernel_rfl) (fun _ _ _ h => h) (by rfl) (by assumption) ?_ ?_
            rotate_left
            · (intro wS hSw; (try dsimp only at hSw); go_simp; try with_reducible rfl)
            try simp only [Act.put, List.setIfInBounds_toArray, List.set_cons_zero, List.set_cons_succ]
            refine uTake (i := 3) (some 56) (v := ?_) rfl rfl (by kernel_rfl) (by kernel_rfl) (by kernel_rfl) (by kernel_rfl) (fun _ _ _ h => h) (by rfl) (by assumption) ?_ ?_
            rotate_left
            · (intro wS hSw; (try dsimp only at hSw); go_simp; try with_reducible rfl)
            try simp only [Act.put, List.setIfInBounds_toArray, List.set_cons_zero, List.set_cons_succ]
            refine uTake (i := 4) (some 57) (v := ?_) rfl rfl (by kernel_rfl) (by kernel_rfl) (by kernel_rfl) (by kernel_rfl) (fun _ _ _ h => h) (by rfl) (by assumption) ?_ ?_
            rotate_left
            · (intro wS hSw; (try dsimp only at hSw); go_simp; try with_reducible rfl)
            try simp only [Act.put, List.setIfInBounds_toArray, List.set_cons_zero, List.set_cons_succ]
            refine uTake (i := 5) (some 58) (v := ?_) rfl rfl (by kernel_rfl) (by kernel_rfl) (by kernel_rfl) (by kernel_rfl) (fun _ _ _ h => h) (by rfl) (by assumption) ?_ ?_
            rotate_left
            · (intro wS hSw; (try dsimp only at hSw); go_simp; try with_reducible rfl)
            try simp only [Act.put, List.setIfInBounds_toArray, List.set_cons_zero, List.set_cons_succ]
            refine uTake (i := 6) (some 59) (v := ?_) rfl rfl (by kernel_rfl) (by kernel_rfl) (by kernel_rfl) (by kernel_rfl) (fun _ _ _ h => h) (by rfl) (by assumption) ?_ ?_
            rotate_left
            · (intro wS hSw; (try dsimp only at hSw); go_simp; try with_reducible rfl)
            try simp only [Act.put, List.setIfInBounds_toArray, List.set_cons_zero, List.set_cons_succ]
            refine uReady (rs := [7]) (by kernel_rfl) (by simp) ?_
            refine ReadyU.cons rfl (fun KK hKK => ?_) ReadyU.nil
            go_simp
            refine (rCopy_c l.L[k] (E12.out.fc 6 rfl) (hbig.out.2 k hk) hu8.out).mono ?_
            rintro e w8 ⟨⟨nba, nbk, rfl, hnb⟩, hb⟩
            have E13 := Lib.hid (E12.out.got (E12.out.below hb) (.bs (.slice nba l.L[k].body.length nbk) l.L[k].body) hnb.out)
            clear E12 hb hnb
            (try dsimp only)
            clear hHeld
            refine hKK.out _ _ (⟨((E13.out.bx 1 rfl).cell 1 rfl), ((E13.out.bx 4 rfl).cell 1 rfl), (E13.out.fc 2 rfl).2, (E13.out.fc 3 rfl).2, (E13.out.fc 4 rfl).2, (E13.out.fc 5 rfl).2, (E13.out.fc 6 rfl).2⟩) (fun hHeld => ?_)
            clear hKK KK
            try simp only [Act.put, List.setIfInBounds_toArray, List.set_cons_zero, List.set_cons_succ]
            refine uReady (rs := [8]) (by kernel_rfl) (by simp) ?_
            refine ReadyU.cons rfl (fun KK hKK => ?_) ReadyU.nil
            go_simp
            have E14 := Lib.hid ((E13.out.push 24 [.int .i64 l.L[k].fr, .int .i64 l.L[k].to_, .int .i64 l.L[k].kd, .int .i64 l.L[k].nm, .slice nba l.L[k].body.length nbk] (w8.heap.size) (by simp)))
            (try dsimp only)
            clear hHeld
            refine hKK.out _ _ (⟨((E14.out.bx 2 rfl).cell 1 rfl), ((E14.out.bx 5 rfl).cell 1 rfl), (E14.out.fc 2 rfl).2, (E14.out.fc 3 rfl).2, (E14.out.fc 4 rfl).2, (E14.out.fc 5 rfl).2, (E14.out.fc 6 rfl).2⟩) (fun hHeld => ?_)
            clear hKK KK
            try simp only [Act.put, List.setIfInBounds_toArray, List.set_cons_zero, List.set_cons_succ]
            clear E13
            generalize w8.alloc (.cells #[.int .i64 l.L[k].fr, .int .i64 l.L[k].to_, .int .i64 l.L[k].kd, .int .i64 l.L[k].nm, .slice nba l.L[k].body.length nbk] 24) = w9 at *
            refine uReady (rs := [9]) (by kernel_rfl) (by simp) ?_
            refine ReadyU.cons rfl (fun KK hKK => ?_) ReadyU.nil
            refine op_app1 (c := 1) tiM (some 62) rfl rfl (.tmp 54) (.tmp 61) rfl E14.out (A := ((w8.heap.size, 24, [.int .i64 l.L[k].fr, .int .i64 l.L[k].to_, .int .i64 l.L[k].kd, .int .i64 l.L[k].nm, .slice nba l.L[k].body.length nbk]) :: (wc.heap.size, 24, [.int .i64 Q.fr, .int .i64 Q.to_, .int .i64 Q.kd, .int .i64 Q.nm, .slice qa Q.body.length qk]) :: (gO, 64, [.int .i64 l.nw, .slice la (er l.L k f).length lj, .slice aa (er l.ats k f).length ak, .slice fta l.ft.length ftk]) :: (w.heap.size + 1 + 1, 24, [.int .i64 0, .int .i64 0, .int .i64 0, .int .i64 0, .slice none 0 0]) :: (w.heap.size + 1, 64, [.int .i64 0, .slice none 0 0, .slice none 0 0, .slice none 0 0]) :: (w.heap.size, 64, [.int .i64 l.nw, .slice (some ⟨xab, xao, none⟩) l.L.length xj, .slice (some ⟨xbb, xbo, none⟩) l.ats.length xk, .slice xc l.ft.length xm]) :: (fts ++ sgA))) (sg := sgL) (B' := []) (F := ((w8.heap.size, 24, [.int .i64 l.L[k].fr, .int .i64 l.L[k].to_, .int .i64 l.L[k].kd, .int .i64 l.L[k].nm, .slice nba l.L[k].body.length nbk]) :: (wc.heap.size, 24, [.int .i64 Q.fr, .int .i64 Q.to_, .int .i64 Q.kd, .int .i64 Q.nm, .slice qa Q.body.length qk]) :: (gO, 64, [.int .i64 l.nw, .slice la (er l.L k f).length lj, .slice aa (er l.ats k f).length ak, .slice fta l.ft.length ftk]) :: (w.heap.size + 1 + 1, 24, [.int .i64 0, .int .i64 0, .int .i64 0, .int .i64 0, .slice none 0 0]) :: (w.heap.size + 1, 64, [.int .i64 0, .slice none 0 0, .slice none 0 0, .slice none 0 0]) :: (w.heap.size, 64, [.int .i64 l.nw, .slice (some ⟨xab, xao, none⟩) l.L.length xj, .slice (some ⟨xbb, xbo, none⟩) l.ats.length xk, .slice xc l.ft.length xm]) :: (fts ++ (sgA ++ sgL)))) (by simp) (hLS.out.os rfl) (by simp [Act.eval, Act.put]) (by simp [Act.eval, Act.put]; done) (SrcN.msg l.L[k] (E14.out.bx 0 rfl)) (by omega) ?_
            intro yg yp yc w10 yH yT yE
            obtain ⟨yO0, yM⟩ := LS.app (g' := yg) hLS.out rfl yH.out yT.out (yE.out.fc 8 rfl) (yE.out.fc 0 rfl)
            have yO := Lib.hid yO0
            have E15 : Hid (Env D w ((w8.heap.size, 24, [.int .i64 l.L[k].fr, .int .i64 l.L[k].to_, .int .i64 l.L[k].kd, .int .i64 l.L[k].nm, .slice nba l.L[k].body.length nbk]) :: (wc.heap.size, 24, [.int .i64 Q.fr, .int .i64 Q.to_, .int .i64 Q.kd, .int .i64 Q.nm, .slice qa Q.body.length qk]) :: (gO, 64, [.int .i64 l.nw, .slice la (er l.L k f).length lj, .slice aa (er l.ats k f).length ak, .slice fta l.ft.length ftk]) :: (w.heap.size + 1 + 1, 24, [.int .i64 0, .int .i64 0, .int .i64 0, .int .i64 0, .slice none 0 0]) :: (w.heap.size + 1, 64, [.int .i64 0, .slice none 0 0, .slice none 0 0, .slice none 0 0]) :: (w.heap.size, 64, [.int .i64 l.nw, .slice (some ⟨xab, xao, none⟩) l.L.length xj, .slice (some ⟨xbb, xbo, none⟩) l.ats.length xk, .slice xc l.ft.length xm]) :: (fts ++ (sgA ++ [(yg, 24, yc)]))) [.mc yc (er l.L k f ++ [l.L[k]]), .bs (.slice nba l.L[k].body.length nbk) l.L[k].body, .ce xbb (xbo + k) (.int .i64 l.ats[k]), .ce xab (xao + k * 5) (.int .i64 l.L[k].fr), .ce xab (xao + k * 5 + 1) (.int .i64 l.L[k].to_), .ce xab (xao + k * 5 + 2) (.int .i64 l.L[k].kd), .ce xab (xao + k * 5 + 3) (.int .i64 l.L[k].nm), .ce xab (xao + k * 5 + 4) (.slice ua l.L[k].body.length uk), .bs (.slice ua l.L[k].body.length uk) l.L[k].body, .mc csL (er l.L k f), .bs (.slice qa Q.body.length qk) Q.body, .rw (.slice xc l.ft.length xm) l.ft.length 2 (fcl l.ft), .rw (.slice (some ⟨xbb, xbo, none⟩) l.ats.length xk) l.ats.length 1 (icl l.ats), .ms (.slice (some ⟨xab, xao, none⟩) l.L.length xj) l.L] w10) := Lib.hid ((yE.out.note _ yM).cast (by simp))
            clear E14 yE yM yO0 yH yT hLS
            (try dsimp only)
            clear hHeld
            refine hKK.out _ _ (⟨((E15.out.bx 2 rfl).cell 1 rfl), ((E15.out.bx 5 rfl).cell 1 rfl), (E15.out.fc 3 rfl).2, (E15.out.fc 4 rfl).2, (E15.out.fc 5 rfl).2, (E15.out.fc 6 rfl).2, (E15.out.fc 7 rfl).2⟩) (fun hHeld => ?_)
            clear hKK KK
            try simp only [Act.put, List.setIfInBounds_toArray, List.set_cons_zero, List.set_cons_succ]
            refine uTake (i := 10) (some 63) (v := ?_) rfl rfl (by kernel_rfl) (by kernel_rfl) (by kernel_rfl) (by kernel_rfl) (fun _ _ _ h => h) (by rfl) (by assumption) ?_ ?_
            rotate_left
            · (intro wS hSw; (try dsimp only at hSw); go_simp; try with_reducible rfl)
            try simp only [Act.put, List.setIfInBounds_toArray, List.set_cons_zero, List.set_cons_succ]
            have b3 := E15.out.bx 2 rfl
            have c3_1 := b3.cell 1 rfl
            have f3_1 := b3.frozen 1
            clear b3
            refine uReady (rs := [11]) (by kernel_rfl) (by simp) ?_
            refine ReadyU.consU (by kernel_rfl) rfl (fun KK hKK => ?_) ReadyU.nil
            go_simp
            have E16 : Hid (Env D w ((w8.heap.size, 24, [.int .i64 l.L[k].fr, .int .i64 l.L[k].to_, .int .i64 l.L[k].kd, .int .i64 l.L[k].nm, .slice nba l.L[k].body.length nbk]) :: (wc.heap.size, 24, [.int .i64 Q.fr, .int .i64 Q.to_, .int .i64 Q.kd, .int .i64 Q.nm, .slice qa Q.body.length qk]) :: (gO, 64, [.int .i64 l.nw, .slice (some ⟨yg, 0, none⟩) ((er l.L k f).length + 1) yp, .slice aa (er l.ats k f).length ak, .slice fta l.ft.length ftk]) :: (w.heap.size + 1 + 1, 24, [.int .i64 0, .int .i64 0, .int .i64 0, .int .i64 0, .slice none 0 0]) :: (w.heap.size + 1, 64, [.int .i64 0, .slice none 0 0, .slice none 0 0, .slice none 0 0]) :: (w.heap.size, 64, [.int .i64 l.nw, .slice (some ⟨xab, xao, none⟩) l.L.length xj, .slice (some ⟨xbb, xbo, none⟩) l.ats.length xk, .slice xc l.ft.length xm]) :: (fts ++ (sgA ++ [(yg, 24, yc)]))) [.mc yc (er l.L k f ++ [l.L[k]]), .bs (.slice nba l.L[k].body.length nbk) l.L[k].body, .ce xbb (xbo + k) (.int .i64 l.ats[k]), .ce xab (xao + k * 5) (.int .i64 l.L[k].fr), .ce xab (xao + k * 5 + 1) (.int .i64 l.L[k].to_), .ce xab (xao + k * 5 + 2) (.int .i64 l.L[k].kd), .ce xab (xao + k * 5 + 3) (.int .i64 l.L[k].nm), .ce xab (xao + k * 5 + 4) (.slice ua l.L[k].body.length uk), .bs (.slice ua l.L[k].body.length uk) l.L[k].body, .mc csL (er l.L k f), .bs (.slice qa Q.body.length qk) Q.body, .rw (.slice xc l.ft.length xm) l.ft.length 2 (fcl l.ft), .rw (.slice (some ⟨xbb, xbo, none⟩) l.ats.length xk) l.ats.length 1 (icl l.ats), .ms (.slice (some ⟨xab, xao, none⟩) l.L.length xj) l.L] _) := Lib.hid ((E15.out.set 2 1 (.slice (some ⟨yg, 0, none⟩) ((er l.L k f).length + 1) yp) rfl))
            (try dsimp only)
            (try clear hHeld)
            refine hKK.out _ _ ?_
            clear hKK KK
            try simp only [Act.put, List.setIfInBounds_toArray, List.set_cons_zero, List.set_cons_succ]
            refine uDone (by kernel_rfl) ?_ _
            go_wp2_with fail
            clear c3_1 f3_1 E15
            generalize w10.setCell ⟨gO, 1, none⟩ (.slice (some ⟨yg, 0, none⟩) ((er l.L k f).length + 1) yp) = w11 at *
            have E17 := Lib.hid E16.out.drew
            clear E16
            refine wp_regionU (S := fun w' => w'.cell? ⟨gO, 2, none⟩ = some (.slice aa (er l.ats k f).length ak) ∧ w'.cell? ⟨w.heap.size, 2, none⟩ = some (.slice (some ⟨xbb, xbo, none⟩) l.ats.length xk) ∧ w'.cell? ⟨xbb, xbo + k, none⟩ = some (.int .i64 l.ats[k])) [10] (by kernel_rfl) (⟨((E17.out.bx 2 rfl).cell 2 rfl), ((E17.out.bx 5 rfl).cell 2 rfl), (E17.out.fc 2 rfl).2⟩) (fun hHeld => ?_)
            generalize w11.drew = w12 at *
            refine uTake (i := 0) (some 64) (v := ?_) rfl rfl (by kernel_rfl) (by kernel_rfl) (by kernel_rfl) (by kernel_rfl) (fun _ _ _ h => h) (by rfl) (by assumption) ?_ ?_
            rotate_left
            · (intro wS hSw; (try dsimp only at hSw); go_simp; try with_reducible rfl)
            try simp only [Act.put, List.setIfInBounds_toArray, List.set_cons_zero, List.set_cons_succ]
            refine uTake (i := 1) (some 65) (v := ?_) rfl rfl (by kernel_rfl) (by kernel_rfl) (by kernel_rfl) (by kernel_rfl) (fun _ _ _ h => h) (by rfl) (by assumption) ?_ ?_
            rotate_left
            · (intro wS hSw; (try dsimp only at hSw); go_simp; try with_reducible rfl)
            try simp only [Act.put, List.setIfInBounds_toArray, List.set_cons_zero, List.set_cons_succ]
            refine uTake (i := 2) (some 66) (v := ?_) rfl rfl (by kernel_rfl) (by kernel_rfl) (by kernel_rfl) (by kernel_rfl) (fun _ _ _ h => h) (by rfl) (by assumption) ?_ ?_
            rotate_left
            · (intro wS hSw; (try dsimp only at hSw); go_simp; try with_reducible rfl)
            try simp only [Act.put, List.setIfInBounds_toArray, List.set_cons_zero, List.set_cons_succ]
            refine uTake (i := 3) (some 67) (v := ?_) rfl rfl (by kernel_rfl) (by kernel_rfl) (by kernel_rfl) (by kernel_rfl) (fun _ _ _ h => h) (by rfl) (by assumption) ?_ ?_
            rotate_left
            · (intro wS hSw; (try dsimp only at hSw); go_simp; try with_reducible rfl)
            try simp only [Act.put, List.setIfInBounds_toArray, List.set_cons_zero, List.set_cons_succ]
            refine uTake (i := 4) (some 68) (v := ?_) rfl rfl (by kernel_rfl) (by kernel_rfl) (by kernel_rfl) (by kernel_rfl) (fun _ _ _ h => h) (by rfl) (by assumption) ?_ ?_
            rotate_left
            · (intro wS hSw; (try dsimp only at hSw); go_simp; try with_reducible rfl)
            try simp only [Act.put, List.setIfInBounds_toArray, List.set_cons_zero, List.set_cons_succ]
            refine uTake (i := 5) (some 69) (v := ?_) rfl rfl (by kernel_rfl) (by kernel_rfl) (by kernel_rfl) (by kernel_rfl) (fun _ _ _ h => h) (by rfl) (by assumption) ?_ ?_
            rotate_left
            · (intro wS hSw; (try dsimp only at hSw); go_simp; try with_reducible rfl)
            try simp only [Act.put, List.setIfInBounds_toArray, List.set_cons_zero, List.set_cons_succ]
            refine uTake (i := 6) (some 70) (v := ?_) rfl rfl (by kernel_rfl) (by kernel_rfl) (by kernel_rfl) (by kernel_rfl) (fun _ _ _ h => h) (by rfl) (by assumption) ?_ ?_
            rotate_left
            · (intro wS hSw; (try dsimp only at hSw); go_simp; try with_reducible rfl)
            try simp only [Act.put, List.setIfInBounds_toArray, List.set_cons_zero, List.set_cons_succ]
            refine uReady (rs := [7]) (by kernel_rfl) (by simp) ?_
            refine ReadyU.cons rfl (fun KK hKK => ?_) ReadyU.nil
            go_simp
            have E18 := Lib.hid ((E17.out.push 3 [.int .i64 l.ats[k]] (w12.heap.size) (by simp)))
            (try dsimp only)
            clear hHeld
            refine hKK.out _ _ (⟨((E18.out.bx 3 rfl).cell 2 rfl), ((E18.out.bx 6 rfl).cell 2 rfl), (E18.out.fc 2 rfl).2⟩) (fun hHeld => ?_)
            clear hKK KK
            try simp only [Act.put, List.setIfInBounds_toArray, List.set_cons_zero, List.set_cons_succ]
            clear E17
            generalize w12.alloc (.cells #[.int .i64 l.ats[k]] 3) = w13 at *
            refine uReady (rs := [8]) (by kernel_rfl) (by simp) ?_
            refine ReadyU.cons rfl (fun KK hKK => ?_) ReadyU.nil
            refine op_app1 (c := 1) tiI (some 72) rfl rfl (.tmp 65) (.tmp 71) rfl E18.out (A := ((w12.heap.size, 3, [.int .i64 l.ats[k]]) :: (w8.heap.size, 24, [.int .i64 l.L[k].fr, .int .i64 l.L[k].to_, .int .i64 l.L[k].kd, .int .i64 l.L[k].nm, .slice nba l.L[k].body.length nbk]) :: (wc.heap.size, 24, [.int .i64 Q.fr, .int .i64 Q.to_, .int .i64 Q.kd, .int .i64 Q.nm, .slice qa Q.body.length qk]) :: (gO, 64, [.int .i64 l.nw, .slice (some ⟨yg, 0, none⟩) ((er l.L k f).length + 1) yp, .slice aa (er l.ats k f).length ak, .slice fta l.ft.length ftk]) :: (w.heap.size + 1 + 1, 24, [.int .i64 0, .int .i64 0, .int .i64 0, .int .i64 0, .slice none 0 0]) :: (w.heap.size + 1, 64, [.int .i64 0, .slice none 0 0, .slice none 0 0, .slice none 0 0]) :: (w.heap.size, 64, [.int .i64 l.nw, .slice (some ⟨xab, xao, none⟩) l.L.length xj, .slice (some ⟨xbb, xbo, none⟩) l.ats.length xk, .slice xc l.ft.length xm]) :: fts)) (sg := sgA) (B' := [(yg, 24, yc)]) (F := ((w12.heap.size, 3, [.int .i64 l.ats[k]]) :: (w8.heap.size, 24, [.int .i64 l.L[k].fr, .int .i64 l.L[k].to_, .int .i64 l.L[k].kd, .int .i64 l.L[k].nm, .slice nba l.L[k].body.length nbk]) :: (wc.heap.size, 24, [.int .i64 Q.fr, .int .i64 Q.to_, .int .i64 Q.kd, .int .i64 Q.nm, .slice qa Q.body.length qk]) :: (gO, 64, [.int .i64 l.nw, .slice (some ⟨yg, 0, none⟩) ((er l.L k f).length + 1) yp, .slice aa (er l.ats k f).length ak, .slice fta l.ft.length ftk]) :: (w.heap.size + 1 + 1, 24, [.int .i64 0, .int .i64 0, .int .i64 0, .int .i64 0, .slice none 0 0]) :: (w.heap.size + 1, 64, [.int .i64 0, .slice none 0 0, .slice none 0 0, .slice none 0 0]) :: (w.heap.size, 64, [.int .i64 l.nw, .slice (some ⟨xab, xao, none⟩) l.L.length xj, .slice (some ⟨xbb, xbo, none⟩) l.ats.length xk, .slice xc l.ft.length xm]) :: (fts ++ (sgA ++ [(yg, 24, yc)])))) (by simp) (hOI.out.os rfl) (by simp [Act.eval, Act.put]) (by simp [Act.eval, Act.put]; done) (SrcN.int (E18.out.bx 0 rfl)) (by omega) ?_
            intro zg zp zc w14 zH zT zE
            have zO := Lib.hid (OI.app (g' := zg) hOI.out rfl zH.out zT.out)
            have E19 : Hid (Env D w ((w12.heap.size, 3, [.int .i64 l.ats[k]]) :: (w8.heap.size, 24, [.int .i64 l.L[k].fr, .int .i64 l.L[k].to_, .int .i64 l.L[k].kd, .int .i64 l.L[k].nm, .slice nba l.L[k].body.length nbk]) :: (wc.heap.size, 24, [.int .i64 Q.fr, .int .i64 Q.to_, .int .i64 Q.kd, .int .i64 Q.nm, .slice qa Q.body.length qk]) :: (gO, 64, [.int .i64 l.nw, .slice (some ⟨yg, 0, none⟩) ((er l.L k f).length + 1) yp, .slice aa (er l.ats k f).length ak, .slice fta l.ft.length ftk]) :: (w.heap.size + 1 + 1, 24, [.int .i64 0, .int .i64 0, .int .i64 0, .int .i64 0, .slice none 0 0]) :: (w.heap.size + 1, 64, [.int .i64 0, .slice none 0 0, .slice none 0 0, .slice none 0 0]) :: (w.heap.size, 64, [.int .i64 l.nw, .slice (some ⟨xab, xao, none⟩) l.L.length xj, .slice (some ⟨xbb, xbo, none⟩) l.ats.length xk, .slice xc l.ft.length xm]) :: (fts ++ ((zg, 3, zc) :: [(yg, 24, yc)]))) [.mc yc (er l.L k f ++ [l.L[k]]), .bs (.slice nba l.L[k].body.length nbk) l.L[k].body, .ce xbb (xbo + k) (.int .i64 l.ats[k]), .ce xab (xao + k * 5) (.int .i64 l.L[k].fr), .ce xab (xao + k * 5 + 1) (.int .i64 l.L[k].to_), .ce xab (xao + k * 5 + 2) (.int .i64 l.L[k].kd), .ce xab (xao + k * 5 + 3) (.int .i64 l.L[k].nm), .ce xab (xao + k * 5 + 4) (.slice ua l.L[k].body.length uk), .bs (.slice ua l.L[k].body.length uk) l.L[k].body, .mc csL (er l.L k f), .bs (.slice qa Q.body.length qk) Q.body, .rw (.slice xc l.ft.length xm) l.ft.length 2 (fcl l.ft), .rw (.slice (some ⟨xbb, xbo, none⟩) l.ats.length xk) l.ats.length 1 (icl l.ats), .ms (.slice (some ⟨xab, xao, none⟩) l.L.length xj) l.L] w14) := Lib.hid (zE.out.cast (by simp))
            clear E18 zE zH zT hOI
            (try dsimp only)
            clear hHeld
            refine hKK.out _ _ (⟨((E19.out.bx 3 rfl).cell 2 rfl), ((E19.out.bx 6 rfl).cell 2 rfl), (E19.out.fc 2 rfl).2⟩) (fun hHeld => ?_)
            clear hKK KK
            try simp only [Act.put, List.setIfInBounds_toArray, List.set_cons_zero, List.set_cons_succ]
            refine uTake (i := 9) (some 73) (v := ?_) rfl rfl (by kernel_rfl) (by kernel_rfl) (by kernel_rfl) (by kernel_rfl) (fun _ _ _ h => h) (by rfl) (by assumption) ?_ ?_
            rotate_left
            · (intro wS hSw; (try dsimp only at hSw); go_simp; try with_reducible rfl)
            try simp only [Act.put, List.setIfInBounds_toArray, List.set_cons_zero, List.set_cons_succ]
            have b4 := E19.out.bx 3 rfl
            have c4_2 := b4.cell 2 rfl
            have f4_2 := b4.frozen 2
            clear b4
            refine uReady (rs := [10]) (by kernel_rfl) (by simp) ?_
            refine ReadyU.consU (by kernel_rfl) rfl (fun KK hKK => ?_) ReadyU.nil
            go_simp
            have E20 : Hid (Env D w ((w12.heap.size, 3, [.int .i64 l.ats[k]]) :: (w8.heap.size, 24, [.int .i64 l.L[k].fr, .int .i64 l.L[k].to_, .int .i64 l.L[k].kd, .int .i64 l.L[k].nm, .slice nba l.L[k].body.length nbk]) :: (wc.heap.size, 24, [.int .i64 Q.fr, .int .i64 Q.to_, .int .i64 Q.kd, .int .i64 Q.nm, .slice qa Q.body.length qk]) :: (gO, 64, [.int .i64 l.nw, .slice (some ⟨yg, 0, none⟩) ((er l.L k f).length + 1) yp, .slice (some ⟨zg, 0, none⟩) ((er l.ats k f).length + 1) zp, .slice fta l.ft.length ftk]) :: (w.heap.size + 1 + 1, 24, [.int .i64 0, .int .i64 0, .int .i64 0, .int .i64 0, .slice none 0 0]) :: (w.heap.size + 1, 64, [.int .i64 0, .slice none 0 0, .slice none 0 0, .slice none 0 0]) :: (w.heap.size, 64, [.int .i64 l.nw, .slice (some ⟨xab, xao, none⟩) l.L.length xj, .slice (some ⟨xbb, xbo, none⟩) l.ats.length xk, .slice xc l.ft.length xm]) :: (fts ++ ((zg, 3, zc) :: [(yg, 24, yc)]))) [.mc yc (er l.L k f ++ [l.L[k]]), .bs (.slice nba l.L[k].body.length nbk) l.L[k].body, .ce xbb (xbo + k) (.int .i64 l.ats[k]), .ce xab (xao + k * 5) (.int .i64 l.L[k].fr), .ce xab (xao + k * 5 + 1) (.int .i64 l.L[k].to_), .ce xab (xao + k * 5 + 2) (.int .i64 l.L[k].kd), .ce xab (xao + k * 5 + 3) (.int .i64 l.L[k].nm), .ce xab (xao + k * 5 + 4) (.slice ua l.L[k].body.length uk), .bs (.slice ua l.L[k].body.length uk) l.L[k].body, .mc csL (er l.L k f), .bs (.slice qa Q.body.length qk) Q.body, .rw (.slice xc l.ft.length xm) l.ft.length 2 (fcl l.ft), .rw (.slice (some ⟨xbb, xbo, none⟩) l.ats.length xk) l.ats.length 1 (icl l.ats), .ms (.slice (some ⟨xab, xao, none⟩) l.L.length xj) l.L] _) := Lib.hid ((E19.out.set 3 2 (.slice (some ⟨zg, 0, none⟩) ((er l.ats k f).length + 1) zp) rfl))
            (try dsimp only)
            (try clear hHeld)
            refine hKK.out _ _ ?_
            clear hKK KK
            try simp only [Act.put, List.setIfInBounds_toArray, List.set_cons_zero, List.set_cons_succ]
            refine uDone (by kernel_rfl) ?_ _
            clear c4_2 f4_2 E19
            generalize w14.setCell ⟨gO, 2, none⟩ (.slice (some ⟨zg, 0, none⟩) ((er l.ats k f).length + 1) zp) = w15 at *
            rw [er_app hk hkf.out] at yO
            rw [er_app hk2 hkf.out] at zO
            have hZ := ((E20.out.drop).drop)
            have EZ : Hid (Env D w ((wc.heap.size, 24, [.int .i64 Q.fr, .int .i64 Q.to_, .int .i64 Q.kd, .int .i64 Q.nm, .slice qa Q.body.length qk]) :: (gO, 64, [.int .i64 l.nw, .slice (some ⟨yg, 0, none⟩) ((er l.L k f).length + 1) yp, .slice (some ⟨zg, 0, none⟩) ((er l.ats k f).length + 1) zp, .slice fta l.ft.length ftk]) :: (w.heap.size + 1 + 1, 24, [.int .i64 0, .int .i64 0, .int .i64 0, .int .i64 0, .slice none 0 0]) :: (w.heap.size + 1, 64, [.int .i64 0, .slice none 0 0, .slice none 0 0, .slice none 0 0]) :: (w.heap.size, 64, [.int .i64 l.nw, .slice (some ⟨xab, xao, none⟩) l.L.length xj, .slice (some ⟨xbb, xbo, none⟩) l.ats.length xk, .slice xc l.ft.length xm]) :: (fts ++ ((zg, 3, zc) :: [(yg, 24, yc)]))) [.mc yc (er l.L (k + 1) f), .bs (.slice qa Q.body.length qk) Q.body, .rw (.slice xc l.ft.length xm) l.ft.length 2 (fcl l.ft), .rw (.slice (some ⟨xbb, xbo, none⟩) l.ats.length xk) l.ats.length 1 (icl l.ats), .ms (.slice (some ⟨xab, xao, none⟩) l.L.length xj) l.L] _) := Lib.hid ⟨hZ.bel, hZ.box, ⟨by have h9 := hZ.fc 0 rfl; rw [er_app hk hkf.out] at h9; exact h9, ⟨hZ.fc 10 rfl, ⟨hZ.fc 11 rfl, ⟨hZ.fc 12 rfl, ⟨hZ.fc 13 rfl, trivial⟩⟩⟩⟩⟩⟩
            clear hZ
            rw [er_len_app hk hkf.out] at yO EZ
            rw [er_len_app hk2 hkf.out] at zO EZ
            go_wp2
            go_roundg (l.L.length - (k + 1))
            case rel => exact ⟨k + 1, _, Q, qa, qk, _, _, _, _, _, _, _, _, rfl, rfl, EZ, zO, yO, Lib.hid ⟨⟨by omega, rfl⟩, fun _ => rfl, fun h => by (have := HKF.out; omega)⟩⟩
            case measure => exact by omega
        · subst hkq
          have hyes := Lib.hid (hf.out.2 hk)
          have hM := Lib.hid (hyes.out.2 hk)
          clear hfk
          have d3 : (l.L[k].to_ == pt) = true := by (have h9 := hyes.out.1; rw [hae.out] at h9; simp only [Bool.and_eq_true, decide_eq_true_eq] at h9; simpa using h9.2)
          have d1 : decide (l.ats[k] ≤ l.nw) = true := by (have h9 := hyes.out.1; rw [hae.out] at h9; simp only [Bool.and_eq_true] at h9; exact h9.1)
          have hu8 := Lib.hid (Bs.u8 (E10.out.fc 6 rfl))
          go_wp2_with fail
          have E11 := Lib.hid E10.out.drew
          clear u0 u1 u2 u3 u4 v0 c2_1 E10
          refine wp_regionU (S := fun w' => w'.cell? ⟨w.heap.size, 1, none⟩ = some (.slice (some ⟨xab, xao, none⟩) l.L.length xj) ∧ w'.cell? ⟨w.heap.size, 2, none⟩ = some (.slice (some ⟨xbb, xbo, none⟩) l.ats.length xk) ∧ w'.cell? ⟨w.heap.size, 0, none⟩ = some (.int .i64 l.nw) ∧ w'.cell? ⟨xab, xao + k * 5, none⟩ = some (.int .i64 l.L[k].fr) ∧ w'.cell? ⟨xab, xao + k * 5 + 1, none⟩ = some (.int .i64 l.L[k].to_) ∧ w'.cell? ⟨xab, xao + k * 5 + 2, none⟩ = some (.int .i64 l.L[k].kd) ∧ w'.cell? ⟨xab, xao + k * 5 + 3, none⟩ = some (.int .i64 l.L[k].nm) ∧ w'.cell? ⟨xab, xao + k * 5 + 4, none⟩ = some (.slice ua l.L[k].body.length uk) ∧ w'.cell? ⟨xbb, xbo + k, none⟩ = some (.int .i64 l.ats[k])) [] (by kernel_rfl) (⟨((E11.out.bx 4 rfl).cell 1 rfl), ((E11.out.bx 4 rfl).cell 2 rfl), ((E11.out.bx 4 rfl).cell 0 rfl), (E11.out.fc 1 rfl).2, (E11.out.fc 2 rfl).2, (E11.out.fc 3 rfl).2, (E11.out.fc 4 rfl).2, (E11.out.fc 5 rfl).2, (E11.out.fc 0 rfl).2⟩) (fun hHeld => ?_)
          generalize wr.drew = w6 at *
          refine uTake (i := 0) (some 25) (v := ?_) rfl rfl (by kernel_rfl) (by kernel_rfl) (by kernel_rfl) (by kernel_rfl) (fun _ _ _ h => h) (by rfl) (by assumption) ?_ ?_
          rotate_left
          · (intro wS hSw; (try dsimp only at hSw); go_simp; try with_reducible rfl)
          try simp only [Act.put, List.setIfInBounds_toArray, List.set_cons_zero, List.set_cons_succ]
          refine uTake (i := 1) (some 26) (v := .bool true) rfl rfl (by kernel_rfl) (by kernel_rfl) (by kernel_rfl) (by kernel_rfl) (fun _ _ _ h => h) (by rfl) (by assumption) ?_ ?_
          · (intro wS hSw; (try dsimp only at hSw); go_simp; try with_reducible rfl)
          try simp only [Act.put, List.setIfInBounds_toArray, List.set_cons_zero, List.set_cons_succ]
          refine uTake (i := 2) (some 27) (v := ?_) rfl rfl (by kernel_rfl) (by kernel_rfl) (by kernel_rfl) (by kernel_rfl) (fun _ _ _ h => h) (by rfl) (by assumption) ?_ ?_
          rotate_left
          · (intro wS hSw; (try dsimp only at hSw); go_simp; try with_reducible rfl)
          try simp only [Act.put, List.setIfInBounds_toArray, List.set_cons_zero, List.set_cons_succ]
          refine uTake (i := 3) (some 28) (v := ?_) rfl rfl (by kernel_rfl) (by kernel_rfl) (by kernel_rfl) (by kernel_rfl) (fun _ _ _ h => h) (by rfl) (by assumption) ?_ ?_
          rotate_left
          · (intro wS hSw; (try dsimp only at hSw); go_simp; try with_reducible rfl)
          try simp only [Act.put, List.setIfInBounds_toArray, List.set_cons_zero, List.set_cons_succ]
          refine uTake (i := 4) (some 29) (v := ?_) rfl rfl (by kernel_rfl) (by kernel_rfl) (by kernel_rfl) (by kernel_rfl) (fun _ _ _ h => h) (by rfl) (by assumption) ?_ ?_
          rotate_left
          · (intro wS hSw; (try dsimp only at hSw); go_simp; try with_reducible rfl)
          try simp only [Act.put, List.setIfInBounds_toArray, List.set_cons_zero, List.set_cons_succ]
          refine uTake (i := 5) (some 30) (v := ?_) rfl rfl (by kernel_rfl) (by kernel_rfl) (by kernel_rfl) (by kernel_rfl) (fun _ _ _ h => h) (by rfl) (by assumption) ?_ ?_
          rotate_left
          · (intro wS hSw; (try dsimp only at hSw); go_simp; try with_reducible rfl)
          try simp only [Act.put, List.setIfInBounds_toArray, List.set_cons_zero, List.set_cons_succ]
          refine uTake (i := 6) (some 31) (v := ?_) rfl rfl (by kernel_rfl) (by kernel_rfl) (by kernel_rfl) (by kernel_rfl) (fun _ _ _ h => h) (by rfl) (by assumption) ?_ ?_
          rotate_left
          · (intro wS hSw; (try dsimp only at hSw); go_simp; try with_reducible rfl)
          try simp only [Act.put, List.setIfInBounds_toArray, List.set_cons_zero, List.set_cons_succ]
          refine uTake (i := 7) (some 32) (v := ?_) rfl rfl (by kernel_rfl) (by kernel_rfl) (by kernel_rfl) (by kernel_rfl) (fun _ _ _ h => h) (by rfl) (by assumption) ?_ ?_
          rotate_left
          · (intro wS hSw; (try dsimp only at hSw); go_simp; try with_reducible rfl)
          try simp only [Act.put, List.setIfInBounds_toArray, List.set_cons_zero, List.set_cons_succ]
          refine uTake (i := 8) (some 33) (v := ?_) rfl rfl (by kernel_rfl) (by kernel_rfl) (by kernel_rfl) (by kernel_rfl) (fun _ _ _ h => h) (by rfl) (by assumption) ?_ ?_
          rotate_left
          · (intro wS hSw; (try dsimp only at hSw); go_simp; try with_reducible rfl)
          try simp only [Act.put, List.setIfInBounds_toArray, List.set_cons_zero, List.set_cons_succ]
          refine uTake (i := 9) (some 34) (v := ?_) rfl rfl (by kernel_rfl) (by kernel_rfl) (by kernel_rfl) (by kernel_rfl) (fun _ _ _ h => h) (by rfl) (by assumption) ?_ ?_
          rotate_left
          · (intro wS hSw; (try dsimp only at hSw); go_simp; try with_reducible rfl)
          try simp only [Act.put, List.setIfInBounds_toArray, List.set_cons_zero, List.set_cons_succ]
          refine uTake (i := 10) (some 35) (v := .bool true) rfl rfl (by kernel_rfl) (by kernel_rfl) (by kernel_rfl) (by kernel_rfl) (fun _ _ _ h => h) (by rfl) (by assumption) ?_ ?_
          · (intro wS hSw; (try dsimp only at hSw); go_simp; try simp [*])
          try simp only [Act.put, List.setIfInBounds_toArray, List.set_cons_zero, List.set_cons_succ]
          refine uTake (i := 11) (some 36) (v := ?_) rfl rfl (by kernel_rfl) (by kernel_rfl) (by kernel_rfl) (by kernel_rfl) (fun _ _ _ h => h) (by rfl) (by assumption) ?_ ?_
          rotate_left
          · (intro wS hSw; (try dsimp only at hSw); go_simp; try with_reducible rfl)
          try simp only [Act.put, List.setIfInBounds_toArray, List.set_cons_zero, List.set_cons_succ]
          refine uTake (i := 12) (some 37) (v := ?_) rfl rfl (by kernel_rfl) (by kernel_rfl) (by kernel_rfl) (by kernel_rfl) (fun _ _ _ h => h) (by rfl) (by assumption) ?_ ?_
          rotate_left
          · (intro wS hSw; (try dsimp only at hSw); go_simp; try with_reducible rfl)
          try simp only [Act.put, List.setIfInBounds_toArray, List.set_cons_zero, List.set_cons_succ]
          refine uTake (i := 13) (some 38) (v := ?_) rfl rfl (by kernel_rfl) (by kernel_rfl) (by kernel_rfl) (by kernel_rfl) (fun _ _ _ h => h) (by rfl) (by assumption) ?_ ?_
          rotate_left
          · (intro wS hSw; (try dsimp only at hSw); go_simp; try with_reducible rfl)
          try simp only [Act.put, List.setIfInBounds_toArray, List.set_cons_zero, List.set_cons_succ]
          refine uTake (i := 14) (some 39) (v := ?_) rfl rfl (by kernel_rfl) (by kernel_rfl) (by kernel_rfl) (by kernel_rfl) (fun _ _ _ h => h) (by rfl) (by assumption) ?_ ?_
          rotate_left
          · (intro wS hSw; (try dsimp only at hSw); go_simp; try with_reducible rfl)
          try simp only [Act.put, List.setIfInBounds_toArray, List.set_cons_zero, List.set_cons_succ]
          refine uTake (i := 15) (some 40) (v := ?_) rfl rfl (by kernel_rfl) (by kernel_rfl) (by kernel_rfl) (by kernel_rfl) (fun _ _ _ h => h) (by rfl) (by assumption) ?_ ?_
          rotate_left
          · (intro wS hSw; (try dsimp only at hSw); go_simp; try with_reducible rfl)
          try simp only [Act.put, List.setIfInBounds_toArray, List.set_cons_zero, List.set_cons_succ]
          refine uTake (i := 16) (some 41) (v := ?_) rfl rfl (by kernel_rfl) (by kernel_rfl) (by kernel_rfl) (by kernel_rfl) (fun _ _ _ h => h) (by rfl) (by assumption) ?_ ?_
          rotate_left
          · (intro wS hSw; (try dsimp only at hSw); go_simp; try with_reducible rfl)
          try simp only [Act.put, List.setIfInBounds_toArray, List.set_cons_zero, List.set_cons_succ]
          refine uTake (i := 17) (some 42) (v := ?_) rfl rfl (by kernel_rfl) (by kernel_rfl) (by kernel_rfl) (by kernel_rfl) (fun _ _ _ h => h) (by rfl) (by assumption) ?_ ?_
          rotate_left
          · (intro wS hSw; (try dsimp only at hSw); go_simp; try with_reducible rfl)
          try simp only [Act.put, List.setIfInBounds_toArray, List.set_cons_zero, List.set_cons_succ]
          refine uTake (i := 18) (some 43) (v := ?_) rfl rfl (by kernel_rfl) (by kernel_rfl) (by kernel_rfl) (by kernel_rfl) (fun _ _ _ h => h) (by rfl) (by assumption) ?_ ?_
          rotate_left
          · (intro wS hSw; (try dsimp only at hSw); go_simp; try with_reducible rfl)
          try simp only [Act.put, List.setIfInBounds_toArray, List.set_cons_zero, List.set_cons_succ]
          refine uTake (i := 19) (some 44) (v := ?_) rfl rfl (by kernel_rfl) (by kernel_rfl) (by kernel_rfl) (by kernel_rfl) (fun _ _ _ h => h) (by rfl) (by assumption) ?_ ?_
          rotate_left
          · (intro wS hSw; (try dsimp only at hSw); go_simp; try with_reducible rfl)
          try simp only [Act.put, List.setIfInBounds_toArray, List.set_cons_zero, List.set_cons_succ]
          refine uTake (i := 20) (some 45) (v := .bool true) rfl rfl (by kernel_rfl) (by kernel_rfl) (by kernel_rfl) (by kernel_rfl) (fun _ _ _ h => h) (by rfl) (by assumption) ?_ ?_
          · (intro wS hSw; (try dsimp only at hSw); go_simp; try simp [*])
          try simp only [Act.put, List.setIfInBounds_toArray, List.set_cons_zero, List.set_cons_succ]
          refine uTake (i := 21) (some 46) (v := ?_) rfl rfl (by kernel_rfl) (by kernel_rfl) (by kernel_rfl) (by kernel_rfl) (fun _ _ _ h => h) (by rfl) (by assumption) ?_ ?_
          rotate_left
          · (intro wS hSw; (try dsimp only at hSw); go_simp; try with_reducible rfl)
          try simp only [Act.put, List.setIfInBounds_toArray, List.set_cons_zero, List.set_cons_succ]
          refine uDone (by kernel_rfl) ?_ _
          have b3 := E11.out.bx 4 rfl
          have c3_1 := b3.cell 1 rfl
          clear b3
          have z4 := (E11.out.fc 1 rfl).2
          have z5 := (E11.out.fc 2 rfl).2
          have z6 := (E11.out.fc 3 rfl).2
          have z7 := (E11.out.fc 4 rfl).2
          have z8 := (E11.out.fc 5 rfl).2
          go_wp2_with fail
          refine (rCopy_c l.L[k] (E11.out.fc 6 rfl) (hbig.out.2 k hk) hu8.out).mono ?_
          rintro e w7 ⟨⟨nba, nbk, rfl, hnb⟩, hb⟩
          have E12 := Lib.hid (E11.out.got (E11.out.below hb) (.bs (.slice nba l.L[k].body.length nbk) l.L[k].body) hnb.out)
          clear c3_1 z4 z5 z6 z7 z8 E11 hb hnb
          have b9 := E12.out.bx 0 rfl
          have c9_0 := b9.cell 0 rfl
          have c9_1 := b9.cell 1 rfl
          have c9_2 := b9.cell 2 rfl
          have c9_3 := b9.cell 3 rfl
          have c9_4 := b9.cell 4 rfl
          have f9_0 := b9.frozen 0
          have f9_1 := b9.frozen 1
          have f9_2 := b9.frozen 2
          have f9_3 := b9.frozen 3
          have f9_4 := b9.frozen 4
          clear b9
          have E13 : Hid (Env D w ((wc.heap.size, 24, [.int .i64 l.L[k].fr, .int .i64 l.L[k].to_, .int .i64 l.L[k].kd, .int .i64 l.L[k].nm, .slice nba l.L[k].body.length nbk]) :: (gO, 64, [.int .i64 l.nw, .slice la (er l.L k k).length lj, .slice aa (er l.ats k k).length ak, .slice fta l.ft.length ftk]) :: (w.heap.size + 1 + 1, 24, [.int .i64 0, .int .i64 0, .int .i64 0, .int .i64 0, .slice none 0 0]) :: (w.heap.size + 1, 64, [.int .i64 0, .slice none 0 0, .slice none 0 0, .slice none 0 0]) :: (w.heap.size, 64, [.int .i64 l.nw, .slice (some ⟨xab, xao, none⟩) l.L.length xj, .slice (some ⟨xbb, xbo, none⟩) l.ats.length xk, .slice xc l.ft.length xm]) :: (fts ++ (sgA ++ sgL))) [.bs (.slice nba l.L[k].body.length nbk) l.L[k].body, .ce xbb (xbo + k) (.int .i64 l.ats[k]), .ce xab (xao + k * 5) (.int .i64 l.L[k].fr), .ce xab (xao + k * 5 + 1) (.int .i64 l.L[k].to_), .ce xab (xao + k * 5 + 2) (.int .i64 l.L[k].kd), .ce xab (xao + k * 5 + 3) (.int .i64 l.L[k].nm), .ce xab (xao + k * 5 + 4) (.slice ua l.L[k].body.length uk), .bs (.slice ua l.L[k].body.length uk) l.L[k].body, .mc csL (er l.L k k), .bs (.slice qa Q.body.length qk) Q.body, .rw (.slice xc l.ft.length xm) l.ft.length 2 (fcl l.ft), .rw (.slice (some ⟨xbb, xbo, none⟩) l.ats.length xk) l.ats.length 1 (icl l.ats), .ms (.slice (some ⟨xab, xao, none⟩) l.L.length xj) l.L] _) := Lib.hid ((((((E12.out.set 0 0 (.int .i64 l.L[k].fr) rfl).set 0 1 (.int .i64 l.L[k].to_) rfl).set 0 2 (.int .i64 l.L[k].kd) rfl).set 0 3 (.int .i64 l.L[k].nm) rfl).set 0 4 (.slice nba l.L[k].body.length nbk) rfl))
          have hZ := E13.out
          have EZ : Hid (Env D w ((wc.heap.size, 24, [.int .i64 l.L[k].fr, .int .i64 l.L[k].to_, .int .i64 l.L[k].kd, .int .i64 l.L[k].nm, .slice nba l.L[k].body.length nbk]) :: (gO, 64, [.int .i64 l.nw, .slice la (er l.L k k).length lj, .slice aa (er l.ats k k).length ak, .slice fta l.ft.length ftk]) :: (w.heap.size + 1 + 1, 24, [.int .i64 0, .int .i64 0, .int .i64 0, .int .i64 0, .slice none 0 0]) :: (w.heap.size + 1, 64, [.int .i64 0, .slice none 0 0, .slice none 0 0, .slice none 0 0]) :: (w.heap.size, 64, [.int .i64 l.nw, .slice (some ⟨xab, xao, none⟩) l.L.length xj, .slice (some ⟨xbb, xbo, none⟩) l.ats.length xk, .slice xc l.ft.length xm]) :: (fts ++ (sgA ++ sgL))) [.mc csL (er l.L (k + 1) k), .bs (.slice nba l.L[k].body.length nbk) l.L[k].body, .rw (.slice xc l.ft.length xm) l.ft.length 2 (fcl l.ft), .rw (.slice (some ⟨xbb, xbo, none⟩) l.ats.length xk) l.ats.length 1 (icl l.ats), .ms (.slice (some ⟨xab, xao, none⟩) l.L.length xj) l.L] _) := Lib.hid ⟨hZ.bel, hZ.box, ⟨by rw [← er_at hk]; exact hZ.fc 8 rfl, ⟨hZ.fc 0 rfl, ⟨hZ.fc 10 rfl, ⟨hZ.fc 11 rfl, ⟨hZ.fc 12 rfl, trivial⟩⟩⟩⟩⟩⟩
          clear hZ
          rw [er_at hk] at hLS EZ
          rw [er_at hk2] at hOI EZ
          go_wp2
          go_roundg (l.L.length - (k + 1))
          case rel => exact ⟨k + 1, true, l.L[k], _, _, _, _, _, _, _, _, _, _, rfl, rfl, EZ, hOI, hLS, Lib.hid ⟨⟨by omega, rfl⟩, fun h => by omega, fun h => ⟨rfl, hM.out⟩⟩⟩
          case measure => exact by omega
      have t6 : decide ((k : Int) < (l.L.length : Int)) = false := decide_eq_false (by omega)
      have t7 : decide (k < l.L.length) = false := decide_eq_false (by omega)
      have HF1b : Hid (¬ f < l.L.length → fd = false) := Lib.hid (fun h => HF1.out (by omega))
      have HF2b : Hid (f < l.L.length → fd = true ∧ Q = M) := Lib.hid (fun h => HF2.out (by omega))
      have HY := Lib.hid hy
      clear hy HF1 HF2
      have b2 := EL.out.bx 4 rfl
      have c2_1 := b2.cell 1 rfl
      clear b2
      by_cases hfn : f < l.L.length
      · obtain ⟨rfl, rfl⟩ := HF2b.out hfn
        have HFN := Lib.hid hfn
        clear hfn
        go_wp2_with fail
        have E9 := Lib.hid EL.out.drew
        clear c2_1 EL
        refine wp_regionU (S := fun w' => w'.cell? ⟨gO, 0, none⟩ = some (.int .i64 l.nw) ∧ w'.cell? ⟨gO, 1, none⟩ = some (.slice la (er l.L k f).length lj) ∧ w'.cell? ⟨gO, 2, none⟩ = some (.slice aa (er l.ats k f).length ak) ∧ w'.cell? ⟨gO, 3, none⟩ = some (.slice fta l.ft.length ftk) ∧ w'.cell? ⟨wc.heap.size, 0, none⟩ = some (.int .i64 Q.fr) ∧ w'.cell? ⟨wc.heap.size, 1, none⟩ = some (.int .i64 Q.to_) ∧ w'.cell? ⟨wc.heap.size, 2, none⟩ = some (.int .i64 Q.kd) ∧ w'.cell? ⟨wc.heap.size, 3, none⟩ = some (.int .i64 Q.nm) ∧ w'.cell? ⟨wc.heap.size, 4, none⟩ = some (.slice qa Q.body.length qk)) [] (by kernel_rfl) (⟨((E9.out.bx 1 rfl).cell 0 rfl), ((E9.out.bx 1 rfl).cell 1 rfl), ((E9.out.bx 1 rfl).cell 2 rfl), ((E9.out.bx 1 rfl).cell 3 rfl), ((E9.out.bx 0 rfl).cell 0 rfl), ((E9.out.bx 0 rfl).cell 1 rfl), ((E9.out.bx 0 rfl).cell 2 rfl), ((E9.out.bx 0 rfl).cell 3 rfl), ((E9.out.bx 0 rfl).cell 4 rfl)⟩) (fun hHeld => ?_)
        generalize wr.drew = w6 at *
        refine uTake (i := 0) (some 78) (v := ?_) rfl rfl (by kernel_rfl) (by kernel_rfl) (by kernel_rfl) (by kernel_rfl) (fun _ _ _ h => h) (by rfl) (by assumption) ?_ ?_
        rotate_left
        · (intro wS hSw; (try dsimp only at hSw); go_simp; try with_reducible rfl)
        try simp only [Act.put, List.setIfInBounds_toArray, List.set_cons_zero, List.set_cons_succ]
        refine uTake (i := 1) (some 79) (v := ?_) rfl rfl (by kernel_rfl) (by kernel_rfl) (by kernel_rfl) (by kernel_rfl) (fun _ _ _ h => h) (by rfl) (by assumption) ?_ ?_
        rotate_left
        · (intro wS hSw; (try dsimp only at hSw); go_simp; try with_reducible rfl)
        try simp only [Act.put, List.setIfInBounds_toArray, List.set_cons_zero, List.set_cons_succ]
        have b3 := E9.out.bx 3 rfl
        have c3_0 := b3.cell 0 rfl
        have c3_1 := b3.cell 1 rfl
        have c3_2 := b3.cell 2 rfl
        have c3_3 := b3.cell 3 rfl
        have f3_0 := b3.frozen 0
        have f3_1 := b3.frozen 1
        have f3_2 := b3.frozen 2
        have f3_3 := b3.frozen 3
        clear b3
        refine uReady (rs := [2]) (by kernel_rfl) (by simp) ?_
        refine ReadyU.cons rfl (fun KK hKK => ?_) ReadyU.nil
        go_simp
        have E10 : Hid (Env D w ((wc.heap.size, 24, [.int .i64 Q.fr, .int .i64 Q.to_, .int .i64 Q.kd, .int .i64 Q.nm, .slice qa Q.body.length qk]) :: (gO, 64, [.int .i64 l.nw, .slice la (er l.L k f).length lj, .slice aa (er l.ats k f).length ak, .slice fta l.ft.length ftk]) :: (w.heap.size + 1 + 1, 24, [.int .i64 0, .int .i64 0, .int .i64 0, .int .i64 0, .slice none 0 0]) :: (w.heap.size + 1, 64, [.int .i64 l.nw, .slice la (er l.L k f).length lj, .slice aa (er l.ats k f).length ak, .slice fta l.ft.length ftk]) :: (w.heap.size, 64, [.int .i64 l.nw, .slice xa l.L.length xj, .slice xb l.ats.length xk, .slice xc l.ft.length xm]) :: (fts ++ (sgA ++ sgL))) [.mc csL (er l.L k f), .bs (.slice qa Q.body.length qk) Q.body, .rw (.slice xc l.ft.length xm) l.ft.length 2 (fcl l.ft), .rw (.slice xb l.ats.length xk) l.ats.length 1 (icl l.ats), .ms (.slice xa l.L.length xj) l.L] _) := Lib.hid (((((E9.out.set 3 0 (.int .i64 l.nw) rfl).set 3 1 (.slice la (er l.L k f).length lj) rfl).set 3 2 (.slice aa (er l.ats k f).length ak) rfl).set 3 3 (.slice fta l.ft.length ftk) rfl))
        (try dsimp only)
        clear hHeld
        refine hKK.out _ _ (⟨((E10.out.bx 1 rfl).cell 0 rfl), ((E10.out.bx 1 rfl).cell 1 rfl), ((E10.out.bx 1 rfl).cell 2 rfl), ((E10.out.bx 1 rfl).cell 3 rfl), ((E10.out.bx 0 rfl).cell 0 rfl), ((E10.out.bx 0 rfl).cell 1 rfl), ((E10.out.bx 0 rfl).cell 2 rfl), ((E10.out.bx 0 rfl).cell 3 rfl), ((E10.out.bx 0 rfl).cell 4 rfl)⟩) (fun hHeld => ?_)
        clear hKK KK
        try simp only [Act.put, List.setIfInBounds_toArray, List.set_cons_zero, List.set_cons_succ]
        have b4 := E10.out.bx 2 rfl
        have c4_0 := b4.cell 0 rfl
        have c4_1 := b4.cell 1 rfl
        have c4_2 := b4.cell 2 rfl
        have c4_3 := b4.cell 3 rfl
        have c4_4 := b4.cell 4 rfl
        have f4_0 := b4.frozen 0
        have f4_1 := b4.frozen 1
        have f4_2 := b4.frozen 2
        have f4_3 := b4.frozen 3
        have f4_4 := b4.frozen 4
        clear b4
        refine uReady (rs := [3]) (by kernel_rfl) (by simp) ?_
        refine ReadyU.cons rfl (fun KK hKK => ?_) ReadyU.nil
        go_simp
        have E11 : Hid (Env D w ((wc.heap.size, 24, [.int .i64 Q.fr, .int .i64 Q.to_, .int .i64 Q.kd, .int .i64 Q.nm, .slice qa Q.body.length qk]) :: (gO, 64, [.int .i64 l.nw, .slice la (er l.L k f).length lj, .slice aa (er l.ats k f).length ak, .slice fta l.ft.length ftk]) :: (w.heap.size + 1 + 1, 24, [.int .i64 Q.fr, .int .i64 Q.to_, .int .i64 Q.kd, .int .i64 Q.nm, .slice qa Q.body.length qk]) :: (w.heap.size + 1, 64, [.int .i64 l.nw, .slice la (er l.L k f).length lj, .slice aa (er l.ats k f).length ak, .slice fta l.ft.length ftk]) :: (w.heap.size, 64, [.int .i64 l.nw, .slice xa l.L.length xj, .slice xb l.ats.length xk, .slice xc l.ft.length xm]) :: (fts ++ (sgA ++ sgL))) [.mc csL (er l.L k f), .bs (.slice qa Q.body.length qk) Q.body, .rw (.slice xc l.ft.length xm) l.ft.length 2 (fcl l.ft), .rw (.slice xb l.ats.length xk) l.ats.length 1 (icl l.ats), .ms (.slice xa l.L.length xj) l.L] _) := Lib.hid ((((((E10.out.set 2 0 (.int .i64 Q.fr) rfl).set 2 1 (.int .i64 Q.to_) rfl).set 2 2 (.int .i64 Q.kd) rfl).set 2 3 (.int .i64 Q.nm) rfl).set 2 4 (.slice qa Q.body.length qk) rfl))
        (try dsimp only)
        clear hHeld
        refine hKK.out _ _ (⟨((E11.out.bx 1 rfl).cell 0 rfl), ((E11.out.bx 1 rfl).cell 1 rfl), ((E11.out.bx 1 rfl).cell 2 rfl), ((E11.out.bx 1 rfl).cell 3 rfl), ((E11.out.bx 0 rfl).cell 0 rfl), ((E11.out.bx 0 rfl).cell 1 rfl), ((E11.out.bx 0 rfl).cell 2 rfl), ((E11.out.bx 0 rfl).cell 3 rfl), ((E11.out.bx 0 rfl).cell 4 rfl)⟩) (fun hHeld => ?_)
        clear hKK KK
        try simp only [Act.put, List.setIfInBounds_toArray, List.set_cons_zero, List.set_cons_succ]
        refine uTake (i := 4) (some 6) (v := ?_) rfl rfl (by kernel_rfl) (by kernel_rfl) (by kernel_rfl) (by kernel_rfl) (fun _ _ _ h => h) (by rfl) (by assumption) ?_ ?_
        rotate_left
        · (intro wS hSw; (try dsimp only at hSw); go_simp; try with_reducible rfl)
        try simp only [Act.put, List.setIfInBounds_toArray, List.set_cons_zero, List.set_cons_succ]
        refine uDone (by kernel_rfl) ?_ _
        go_wp2
        have hfin := E11.out
        have q5 := (hfin.bx 3 rfl).cell 0 rfl
        have q6 := (hfin.bx 3 rfl).cell 1 rfl
        have q7 := (hfin.bx 3 rfl).cell 2 rfl
        have q8 := (hfin.bx 3 rfl).cell 3 rfl
        have q9 := (hfin.bx 2 rfl).cell 0 rfl
        have q10 := (hfin.bx 2 rfl).cell 1 rfl
        have q11 := (hfin.bx 2 rfl).cell 2 rfl
        have q12 := (hfin.bx 2 rfl).cell 3 rfl
        have q13 := (hfin.bx 2 rfl).cell 4 rfl
        have hy := HY.out
        have hy2 : k = l.ats.length := by rw [hy]; exact H2.out
        refine bodyPost_ret (v := .tuple #[.agg #[.int .i64 l.nw, .slice la (er l.L k f).length lj, .slice aa (er l.ats k f).length ak, .slice fta l.ft.length ftk], .agg #[.int .i64 Q.fr, .int .i64 Q.to_, .int .i64 Q.kd, .int .i64 Q.nm, .slice qa Q.body.length qk], .bool true]) (by simp [results, Try.results48, go_sem, q5, q6, q7, q8, q9, q10, q11, q12, q13]) rfl ?_
        have e1 : er l.L k f = l.L.eraseIdx f := by rw [hy]; exact er_end _ _
        have e2 : er l.ats k f = l.ats.eraseIdx f := by rw [hy2]; exact er_end _ _
        refine ⟨⟨fun _ => ⟨_, qa, qk, rfl, RetL.mk rfl (by rw [e1]; rfl) (by rw [e2]; rfl) rfl (by have h9 := hLS.out.ms hfin (by intro p hp; simp [hp]) (hfin.fc 0 rfl); rw [e1] at h9; rw [e1]; exact h9) (by have h9 := hOI.out.rw hfin (by intro p hp; simp [hp]); rw [e2] at h9; rw [e2]; exact h9) (OS.rw ftO.out hfin (by intro p hp; simp [hp]) ftT.out (fcl_one _)), Lib.hid (hfin.out 1 rfl)⟩, fun h => absurd HFN.out h⟩, hfin.bel⟩
      · obtain rfl := HF1b.out hfn
        have HFN := Lib.hid hfn
        clear hfn
        have b3 := EL.out.bx 3 rfl
        have c3_0 := b3.cell 0 rfl
        have c3_1 := b3.cell 1 rfl
        have c3_2 := b3.cell 2 rfl
        have c3_3 := b3.cell 3 rfl
        have f3_0 := b3.frozen 0
        have f3_1 := b3.frozen 1
        have f3_2 := b3.frozen 2
        have f3_3 := b3.frozen 3
        clear b3
        have E9 : Hid (Env D w ((wc.heap.size, 24, [.int .i64 Q.fr, .int .i64 Q.to_, .int .i64 Q.kd, .int .i64 Q.nm, .slice qa Q.body.length qk]) :: (gO, 64, [.int .i64 l.nw, .slice la (er l.L k f).length lj, .slice aa (er l.ats k f).length ak, .slice fta l.ft.length ftk]) :: (w.heap.size + 1 + 1, 24, [.int .i64 0, .int .i64 0, .int .i64 0, .int .i64 0, .slice none 0 0]) :: (w.heap.size + 1, 64, [.int .i64 0, .slice none 0 0, .slice none 0 0, .slice none 0 0]) :: (w.heap.size, 64, [.int .i64 l.nw, .slice xa l.L.length xj, .slice xb l.ats.length xk, .slice xc l.ft.length xm]) :: (fts ++ (sgA ++ sgL))) [.mc csL (er l.L k f), .bs (.slice qa Q.body.length qk) Q.body, .rw (.slice xc l.ft.length xm) l.ft.length 2 (fcl l.ft), .rw (.slice xb l.ats.length xk) l.ats.length 1 (icl l.ats), .ms (.slice xa l.L.length xj) l.L] _) := Lib.hid (((((EL.out.set 3 0 (.int .i64 0) rfl).set 3 1 (.slice none 0 0) rfl).set 3 2 (.slice none 0 0) rfl).set 3 3 (.slice none 0 0) rfl))
        have b4 := E9.out.bx 2 rfl
        have c4_0 := b4.cell 0 rfl
        have c4_1 := b4.cell 1 rfl
        have c4_2 := b4.cell 2 rfl
        have c4_3 := b4.cell 3 rfl
        have c4_4 := b4.cell 4 rfl
        have f4_0 := b4.frozen 0
        have f4_1 := b4.frozen 1
        have f4_2 := b4.frozen 2
        have f4_3 := b4.frozen 3
        have f4_4 := b4.frozen 4
        clear b4
        have E10 : Hid (Env D w ((wc.heap.size, 24, [.int .i64 Q.fr, .int .i64 Q.to_, .int .i64 Q.kd, .int .i64 Q.nm, .slice qa Q.body.length qk]) :: (gO, 64, [.int .i64 l.nw, .slice la (er l.L k f).length lj, .slice aa (er l.ats k f).length ak, .slice fta l.ft.length ftk]) :: (w.heap.size + 1 + 1, 24, [.int .i64 0, .int .i64 0, .int .i64 0, .int .i64 0, .slice none 0 0]) :: (w.heap.size + 1, 64, [.int .i64 0, .slice none 0 0, .slice none 0 0, .slice none 0 0]) :: (w.heap.size, 64, [.int .i64 l.nw, .slice xa l.L.length xj, .slice xb l.ats.length xk, .slice xc l.ft.length xm]) :: (fts ++ (sgA ++ sgL))) [.mc csL (er l.L k f), .bs (.slice qa Q.body.length qk) Q.body, .rw (.slice xc l.ft.length xm) l.ft.length 2 (fcl l.ft), .rw (.slice xb l.ats.length xk) l.ats.length 1 (icl l.ats), .ms (.slice xa l.L.length xj) l.L] _) := Lib.hid ((((((E9.out.set 2 0 (.int .i64 0) rfl).set 2 1 (.int .i64 0) rfl).set 2 2 (.int .i64 0) rfl).set 2 3 (.int .i64 0) rfl).set 2 4 (.slice none 0 0) rfl))
        have b5 := E10.out.bx 3 rfl
        have c5_0 := b5.cell 0 rfl
        have c5_1 := b5.cell 1 rfl
        have c5_2 := b5.cell 2 rfl
        have c5_3 := b5.cell 3 rfl
        clear b5
        have b6 := E10.out.bx 2 rfl
        have c6_0 := b6.cell 0 rfl
        have c6_1 := b6.cell 1 rfl
        have c6_2 := b6.cell 2 rfl
        have c6_3 := b6.cell 3 rfl
        have c6_4 := b6.cell 4 rfl
        clear b6
        go_wp2
        have hfin := E10.out
        have q7 := (hfin.bx 3 rfl).cell 0 rfl
        have q8 := (hfin.bx 3 rfl).cell 1 rfl
        have q9 := (hfin.bx 3 rfl).cell 2 rfl
        have q10 := (hfin.bx 3 rfl).cell 3 rfl
        have q11 := (hfin.bx 2 rfl).cell 0 rfl
        have q12 := (hfin.bx 2 rfl).cell 1 rfl
        have q13 := (hfin.bx 2 rfl).cell 2 rfl
        have q14 := (hfin.bx 2 rfl).cell 3 rfl
        have q15 := (hfin.bx 2 rfl).cell 4 rfl
        exact bodyPost_ret (v := .tuple #[.agg #[.int .i64 0, .slice none 0 0, .slice none 0 0, .slice none 0 0], .agg #[.int .i64 0, .int .i64 0, .int .i64 0, .int .i64 0, .slice none 0 0], .bool false]) (by simp [results, Try.results48, go_sem, q7, q8, q9, q10, q11, q12, q13, q14, q15]) rfl ⟨⟨fun h => absurd h HFN.out, fun _ => ⟨_, none, 0, rfl, ⟨_, _, _, _, _, _, rfl, Lib.hid (Ms.nil _ _), Lib.hid (Rw.nil _ _ _), Lib.hid (Rw.nil _ _ _)⟩, Lib.hid (Bs.nil _ _)⟩⟩, hfin.bel⟩
end Go.Proofs.Ytbcfcdcomboljaa

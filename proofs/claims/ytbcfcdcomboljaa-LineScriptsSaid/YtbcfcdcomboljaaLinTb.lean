/- specieref39: Send. -/
import Derived.Test.YtbcfcdcomboljaaLinTa
namespace Go.Proofs.Ytbcfcdcomboljaa
open Go.RowKit
set_option linter.unusedVariables false
set_option linter.unusedSimpArgs false
/-- a line and a truth value came back -/
def RetLB (D : Nat → Prop) (l : Lin) (t : Bool) (e : Ending) (W : World) : Prop := ∃ v, e = .returned (.tuple #[v, .bool t]) ∧ RetL D l v W
theorem wpl_app1 {D0 : Nat → Prop} {w W : World} {F A B' sg : List Bx} {G : List Fct} {cs : List Value} {v : Value} {sl T : TypeId} {sz : Nat} (ti : TI sl T sz) {ops : Array Oper} {rest : List Oper} {o : Oper} {a : Act} {Q : Exit → Act → World → Prop} (hgd : o.guard = none) (s x : Operand)
    (ho : o.op = .call { callee := .builtin .append, args := #[s, x], argTypes := #[sl, sl] })
    (E : Env D0 w F G W) (hF : F = A ++ (sg ++ B')) {n : Nat} (hO : OS T sz sg cs v n) (hs : a.eval s = v) {ad : Option Addr} {c : Nat} {news : List Value} (hx : a.eval x = .slice ad 1 c) (hsrc : SrcN sz W ad 1 news) (hb : n + 1 ≤ 1000000)
    (h : ∀ (g' cap' : Nat) (cs' : List Value) (W' : World), Hid (n + 1 ≤ cap' ∧ cap' ≤ 9223372036854775807 ∧ cs'.length = cap' * sz) → Hid (cs'.take ((n + 1) * sz) = cs.take (n * sz) ++ news) → Hid (Env D0 w (A ++ ((g', T, cs') :: B')) G W') → wpList Try.prog ops Q rest (a.put o.dst (.slice (some ⟨g', 0, none⟩) (n + 1) cap')) W') :
    wpList Try.prog ops Q (o :: rest) a W := by
  refine wpList_plain hgd fun K hK => ?_
  obtain ⟨v', W', hr, sg', cs', h1, h2, h3, h4⟩ := app_run ti o.type E hF hO (c := c) hsrc hb
  obtain ⟨g', cap', rfl, rfl, h5⟩ := h4 (by omega)
  unfold Oper.wp execOp
  simp only [ho, resolve, invoke, builtin, Sem.run_bind, Sem.run_pure, Result.andThen_ok, List.map_toArray, List.map_cons, List.map_nil, hs, hx, hr]
  exact hK _ _ (h g' cap' cs' W' (Lib.hid h5) (Lib.hid h2) (Lib.hid h3))
def s2 {α : Type} (l : List α) (p k : Nat) (x : α) : List α := l.take p ++ List.replicate k x
theorem s2_zero {α : Type} (l : List α) (p : Nat) (x : α) : s2 l p 0 x = l.take p := by simp [s2]
theorem s2_app {α : Type} (l : List α) (p k : Nat) (x : α) : s2 l p k x ++ [x] = s2 l p (k + 1) x := by simp [s2, List.replicate_succ']
theorem s2_len {α : Type} {l : List α} {p : Nat} (h : p ≤ l.length) (k : Nat) (x : α) : (s2 l p k x).length = p + k := by simp [s2]; omega
def s3 {α : Type} (l : List α) (p c : Nat) (x : α) (j : Nat) : List α := l.take p ++ (List.replicate c x ++ (l.drop p).take j)
theorem s3_zero {α : Type} (l : List α) (p c : Nat) (x : α) : s3 l p c x 0 = s2 l p c x := by simp [s3, s2]
theorem s3_app {α : Type} {l : List α} {p c j q : Nat} {x : α} (hq : q < l.length) (e : q = p + j) : s3 l p c x j ++ [l[q]] = s3 l p c x (j + 1) := by
  subst e
  unfold s3
  rw [List.take_succ_eq_append_getElem (by rw [List.length_drop]; omega)]
  simp
theorem s3_len {α : Type} {l : List α} {p j : Nat} (c : Nat) (x : α) (h : p + j ≤ l.length) : (s3 l p c x j).length = p + c + j := by simp [s3]; omega
theorem s3_end {α : Type} {l : List α} {p j : Nat} (c : Nat) (x : α) (h : l.length = p + j) : s3 l p c x j = rep l p c x := by
  unfold s3 rep
  have e : (l.drop p).take j = l.drop p := List.take_of_length_le (by rw [List.length_drop]; omega)
  rw [e]
set_option maxRecDepth 100000 in
set_option maxHeartbeats 1000000 in
theorem rSend_full_n {D : Nat → Prop} (l : Lin) (M : Msg) (c : Nat) (d : Int) {xa xb xc : Option Addr} {xj xk xm : Nat} {ma : Option Addr} {mk : Nat} {w : World} (h1 : Fct.at w D (.ms (.slice xa l.L.length xj) l.L)) (h2 : Fct.at w D (.rw (.slice xb l.ats.length xk) l.ats.length 1 (icl l.ats))) (h3 : Fct.at w D (.rw (.slice xc l.ft.length xm) l.ft.length 2 (fcl l.ft))) (hm : Fct.at w D (.bs (.slice ma M.body.length mk) M.body)) (hv0 : LinOk l) (hf0 : fate0 l = ((c : Int), d)) (hbig0 : (l.L.length ≤ 100000 ∧ l.ats.length ≤ 100000 ∧ l.ft.length ≤ 100000) ∧ ∀ k (h : k < l.L.length), l.L[k].body.length ≤ 1000000) (hmb0 : M.body.length ≤ 1000000) (hfl : 1000 < l.L.length + c) (h0f0 : l.ft.length = 0) :
    Calls Try.prog 47 #[.agg #[.int .i64 l.nw, .slice xa l.L.length xj, .slice xb l.ats.length xk, .slice xc l.ft.length xm], .agg #[.int .i64 M.fr, .int .i64 M.to_, .int .i64 M.kd, .int .i64 M.nm, .slice ma M.body.length mk]] w fun e w' => RetLB (fun b => D b ∨ w.heap.size ≤ b) L0 false e w' ∧ Below w.heap.size w w' := by
  have E0 := Lib.hid (((((Env.start D w).arg (.ms (.slice xa l.L.length xj) l.L) h1).arg (.rw (.slice xb l.ats.length xk) l.ats.length 1 (icl l.ats)) h2).arg (.rw (.slice xc l.ft.length xm) l.ft.length 2 (fcl l.ft)) h3).arg (.bs (.slice ma M.body.length mk) M.body) hm)
  clear h1 h2 h3 hm
  go_enter Try.func47, Try.ntmps47
  have hv := Lib.hid hv0
  have hf := Lib.hid hf0
  have hbig := Lib.hid hbig0
  have hmb := Lib.hid hmb0
  clear hv0 hf0 hbig0 hmb0
  have hb := snd_bounds hv.out
  rw [hf.out] at hb
  dsimp only at hb
  obtain ⟨⟨b1, b2⟩, ⟨b3, b4⟩, b5, b6⟩ := hb
  obtain ⟨l1, l2⟩ : l.L.length ≤ 1000 ∧ l.ats.length ≤ 1000 := by obtain ⟨⟨_, h1, h2, _⟩, _⟩ := hv.out; omega
  have H2 := Lib.hid hv.out.1.2.1
  have c3 : c ≤ 3 := by omega
  clear b3 b4
  have t1 : decide ((0 : Int) < (l.ft.length : Int)) = false := decide_eq_false (by omega)
  have t2 : decide (0 < l.ft.length) = false := decide_eq_false (by omega)
  have hcd : Hid (c = 1 ∧ d = 0) := Lib.hid (by have h9 := hf.out; unfold fate0 at h9; rw [List.length_eq_zero_iff.1 h0f0] at h9; simp only [List.headD_nil, Prod.mk.injEq] at h9; omega)
  have H0F := Lib.hid h0f0
  clear h0f0
  go_upto_region 2 with (fail)
  have E1 := Lib.hid (((((E0.out.push 64 [.int .i64 l.nw, .slice xa l.L.length xj, .slice xb l.ats.length xk, .slice xc l.ft.length xm] (w.heap.size) (by simp)).push 24 [.int .i64 M.fr, .int .i64 M.to_, .int .i64 M.kd, .int .i64 M.nm, .slice ma M.body.length mk] (w.heap.size + 1) (by simp)).push 64 [.int .i64 0, .slice none 0 0, .slice none 0 0, .slice none 0 0] (w.heap.size + 1 + 1) (by simp)).push 72 [.int .i64 1, .int .i64 0] (w.heap.size + 1 + 1 + 1) (by simp)))
  clear E0
  generalize (((w.alloc (.cells #[.int .i64 l.nw, .slice xa l.L.length xj, .slice xb l.ats.length xk, .slice xc l.ft.length xm] 64)).alloc (.cells #[.int .i64 M.fr, .int .i64 M.to_, .int .i64 M.kd, .int .i64 M.nm, .slice ma M.body.length mk] 24)).alloc (.cells #[.int .i64 0, .slice none 0 0, .slice none 0 0, .slice none 0 0] 64)).alloc (.cells #[.int .i64 1, .int .i64 0] 72) = w1 at *
  go_cut [7] (fun s7 wx => ∃ gO fts ftc fta ftk, s7 = .pointer (some ⟨gO, 0, none⟩) ∧ Hid (Env D w ((gO, 64, [.int .i64 l.nw, .slice none 0 0, .slice none 0 0, .slice fta l.ft.length ftk]) :: (w.heap.size + 1 + 1 + 1, 72, [.int .i64 1, .int .i64 0]) :: (w.heap.size + 1 + 1, 64, [.int .i64 0, .slice none 0 0, .slice none 0 0, .slice none 0 0]) :: (w.heap.size + 1, 24, [.int .i64 M.fr, .int .i64 M.to_, .int .i64 M.kd, .int .i64 M.nm, .slice ma M.body.length mk]) :: (w.heap.size, 64, [.int .i64 l.nw, .slice xa l.L.length xj, .slice xb l.ats.length xk, .slice xc l.ft.length xm]) :: fts) [.bs (.slice ma M.body.length mk) M.body, .rw (.slice xc l.ft.length xm) l.ft.length 2 (fcl l.ft), .rw (.slice xb l.ats.length xk) l.ats.length 1 (icl l.ats), .ms (.slice xa l.L.length xj) l.L] wx) ∧ Hid (OS 72 2 fts ftc (.slice fta l.ft.length ftk) l.ft.length) ∧ Hid (ftc.take (l.ft.length * 2) = fcl l.ft))
  case first =>
    have E2 := Lib.hid E1.out.drew
    clear E1
    refine wp_regionU (S := fun w' => w'.cell? ⟨w.heap.size, 0, none⟩ = some (.int .i64 l.nw) ∧ w'.cell? ⟨w.heap.size, 3, none⟩ = some (.slice xc l.ft.length xm)) [] (by kernel_rfl) (⟨((E2.out.bx 3 rfl).cell 0 rfl), ((E2.out.bx 3 rfl).cell 3 rfl)⟩) (fun hHeld => ?_)
    generalize w1.drew = w2 at *
    refine uTake (i := 0) (some 12) (v := ?_) rfl rfl (by kernel_rfl) (by kernel_rfl) (by kernel_rfl) (by kernel_rfl) (fun _ _ _ h => h) (by rfl) (by assumption) ?_ ?_
    rotate_left
    · (intro wS hSw; (try dsimp only at hSw); go_simp; try with_reducible rfl)
    try simp only [Act.put, List.setIfInBounds_toArray, List.set_cons_zero, List.set_cons_succ]
    refine uTake (i := 1) (some 13) (v := ?_) rfl rfl (by kernel_rfl) (by kernel_rfl) (by kernel_rfl) (by kernel_rfl) (fun _ _ _ h => h) (by rfl) (by assumption) ?_ ?_
    rotate_left
    · (intro wS hSw; (try dsimp only at hSw); go_simp; try with_reducible rfl)
    try simp only [Act.put, List.setIfInBounds_toArray, List.set_cons_zero, List.set_cons_succ]
    refine uTake (i := 3) (some 15) (v := ?_) rfl rfl (by kernel_rfl) (by kernel_rfl) (by kernel_rfl) (by kernel_rfl) (fun _ _ _ h => h) (by rfl) (by assumption) ?_ ?_
    rotate_left
    · (intro wS hSw; (try dsimp only at hSw); go_simp; try with_reducible rfl)
    try simp only [Act.put, List.setIfInBounds_toArray, List.set_cons_zero, List.set_cons_succ]
    refine uTake (i := 4) (some 16) (v := ?_) rfl rfl (by kernel_rfl) (by kernel_rfl) (by kernel_rfl) (by kernel_rfl) (fun _ _ _ h => h) (by rfl) (by assumption) ?_ ?_
    rotate_left
    · (intro wS hSw; (try dsimp only at hSw); go_simp; try with_reducible rfl)
    try simp only [Act.put, List.setIfInBounds_toArray, List.set_cons_zero, List.set_cons_succ]
    refine uReady (rs := [2, 7]) (by kernel_rfl) (by simp) ?_
    refine (ReadyU.cons rfl (fun KK hKK => ?_) (ReadyU.cons rfl (fun KK hKK => ?_) ReadyU.nil))
    · skip
      go_simp
      have E3 := Lib.hid ((E2.out.push 72 [] (w2.heap.size) (by simp)))
      (try dsimp only)
      clear hHeld
      refine hKK.out _ _ (⟨((E3.out.bx 4 rfl).cell 0 rfl), ((E3.out.bx 4 rfl).cell 3 rfl)⟩) (fun hHeld => ?_)
      clear hKK KK
      try simp only [Act.put, List.setIfInBounds_toArray, List.set_cons_zero, List.set_cons_succ]
      clear E2
      generalize w2.alloc (.cells #[] 72) = w3 at *
      refine uReady (rs := [5, 7]) (by kernel_rfl) (by simp) ?_
      refine (ReadyU.cons rfl (fun KK hKK => ?_) (ReadyU.cons rfl (fun KK hKK => ?_) ReadyU.nil))
      · skip
        refine op_appN (c := xm) tiF (some 17) rfl rfl (.tmp 14) (.tmp 16) rfl E3.out (A := []) (sg := [(w2.heap.size, 72, [])]) (B' := [(w.heap.size + 1 + 1 + 1, 72, [.int .i64 1, .int .i64 0]), (w.heap.size + 1 + 1, 64, [.int .i64 0, .slice none 0 0, .slice none 0 0, .slice none 0 0]), (w.heap.size + 1, 24, [.int .i64 M.fr, .int .i64 M.to_, .int .i64 M.kd, .int .i64 M.nm, .slice ma M.body.length mk]), (w.heap.size, 64, [.int .i64 l.nw, .slice xa l.L.length xj, .slice xb l.ats.length xk, .slice xc l.ft.length xm])]) (n := 0) (by first | rfl | simp) (.inr ⟨w2.heap.size, 0, rfl, rfl, Nat.le_refl _, by omega, rfl⟩) (by simp [Act.eval, Act.put]; done) (by simp [Act.eval, Act.put]; done) (Rw.src (E3.out.fc 1 rfl)) (by have := hbig.out.1; omega) ?_
        intro fts ftv ftc w4 ftO ftT ftE
        (try simp only [Nat.zero_add] at ftO ftT)
        obtain ⟨fta, ftk, rfl⟩ := ftO.out.len
        have E4 : Hid (Env D w ((w.heap.size + 1 + 1 + 1, 72, [.int .i64 1, .int .i64 0]) :: (w.heap.size + 1 + 1, 64, [.int .i64 0, .slice none 0 0, .slice none 0 0, .slice none 0 0]) :: (w.heap.size + 1, 24, [.int .i64 M.fr, .int .i64 M.to_, .int .i64 M.kd, .int .i64 M.nm, .slice ma M.body.length mk]) :: (w.heap.size, 64, [.int .i64 l.nw, .slice xa l.L.length xj, .slice xb l.ats.length xk, .slice xc l.ft.length xm]) :: fts) [.bs (.slice ma M.body.length mk) M.body, .rw (.slice xc l.ft.length xm) l.ft.length 2 (fcl l.ft), .rw (.slice xb l.ats.length xk) l.ats.length 1 (icl l.ats), .ms (.slice xa l.L.length xj) l.L] w4) := Lib.hid ((ftE.out.perm (List.Perm.append_left [] (List.perm_append_comm (l₁ := fts) (l₂ := [(w.heap.size + 1 + 1 + 1, 72, [.int .i64 1, .int .i64 0]), (w.heap.size + 1 + 1, 64, [.int .i64 0, .slice none 0 0, .slice none 0 0, .slice none 0 0]), (w.heap.size + 1, 24, [.int .i64 M.fr, .int .i64 M.to_, .int .i64 M.kd, .int .i64 M.nm, .slice ma M.body.length mk]), (w.heap.size, 64, [.int .i64 l.nw, .slice xa l.L.length xj, .slice xb l.ats.length xk, .slice xc l.ft.length xm])])))).cast (by first | rfl | simp))
        clear E3 ftE
        (try dsimp only)
        clear hHeld
        refine hKK.out _ _ (⟨((E4.out.bx 3 rfl).cell 0 rfl), ((E4.out.bx 3 rfl).cell 3 rfl)⟩) (fun hHeld => ?_)
        clear hKK KK
        try simp only [Act.put, List.setIfInBounds_toArray, List.set_cons_zero, List.set_cons_succ]
        refine uTake (i := 6) (some 18) (v := ?_) rfl rfl (by kernel_rfl) (by kernel_rfl) (by kernel_rfl) (by kernel_rfl) (fun _ _ _ h => h) (by rfl) (by assumption) ?_ ?_
        rotate_left
        · (intro wS hSw; (try dsimp only at hSw); go_simp; try with_reducible rfl)
        try simp only [Act.put, List.setIfInBounds_toArray, List.set_cons_zero, List.set_cons_succ]
        refine uReady (rs := [7]) (by kernel_rfl) (by simp) ?_
        refine ReadyU.cons rfl (fun KK hKK => ?_) ReadyU.nil
        go_simp
        have E5 := Lib.hid ((E4.out.push 64 [.int .i64 0, .slice none 0 0, .slice none 0 0, .slice none 0 0] (w4.heap.size) (by simp)))
        (try dsimp only)
        clear hHeld
        refine hKK.out _ _ (⟨((E5.out.bx 4 rfl).cell 0 rfl), ((E5.out.bx 4 rfl).cell 3 rfl)⟩) (fun hHeld => ?_)
        clear hKK KK
        try simp only [Act.put, List.setIfInBounds_toArray, List.set_cons_zero, List.set_cons_succ]
        clear E4
        generalize w4.alloc (.cells #[.int .i64 0, .slice none 0 0, .slice none 0 0, .slice none 0 0] 64) = w5 at *
        have b1 := E5.out.bx 0 rfl
        have c1_0 := b1.cell 0 rfl
        have c1_1 := b1.cell 1 rfl
        have c1_2 := b1.cell 2 rfl
        have c1_3 := b1.cell 3 rfl
        have f1_0 := b1.frozen 0
        have f1_1 := b1.frozen 1
        have f1_2 := b1.frozen 2
        have f1_3 := b1.frozen 3
        clear b1
        refine uReady (rs := [8]) (by kernel_rfl) (by simp) ?_
        refine ReadyU.cons rfl (fun KK hKK => ?_) ReadyU.nil
        go_simp
        have E6 : Hid (Env D w ((w4.heap.size, 64, [.int .i64 l.nw, .slice none 0 0, .slice none 0 0, .slice fta l.ft.length ftk]) :: (w.heap.size + 1 + 1 + 1, 72, [.int .i64 1, .int .i64 0]) :: (w.heap.size + 1 + 1, 64, [.int .i64 0, .slice none 0 0, .slice none 0 0, .slice none 0 0]) :: (w.heap.size + 1, 24, [.int .i64 M.fr, .int .i64 M.to_, .int .i64 M.kd, .int .i64 M.nm, .slice ma M.body.length mk]) :: (w.heap.size, 64, [.int .i64 l.nw, .slice xa l.L.length xj, .slice xb l.ats.length xk, .slice xc l.ft.length xm]) :: fts) [.bs (.slice ma M.body.length mk) M.body, .rw (.slice xc l.ft.length xm) l.ft.length 2 (fcl l.ft), .rw (.slice xb l.ats.length xk) l.ats.length 1 (icl l.ats), .ms (.slice xa l.L.length xj) l.L] _) := Lib.hid (((((E5.out.set 0 0 (.int .i64 l.nw) rfl).set 0 1 (.slice none 0 0) rfl).set 0 2 (.slice none 0 0) rfl).set 0 3 (.slice fta l.ft.length ftk) rfl))
        (try dsimp only)
        clear hHeld
        refine hKK.out _ _ (⟨((E6.out.bx 4 rfl).cell 0 rfl), ((E6.out.bx 4 rfl).cell 3 rfl)⟩) (fun hHeld => ?_)
        clear hKK KK
        try simp only [Act.put, List.setIfInBounds_toArray, List.set_cons_zero, List.set_cons_succ]
        refine uDone (by kernel_rfl) ?_ _
        go_wp2_with fail
        go_meet
        exact ⟨w4.heap.size, fts, ftc, fta, ftk, rfl, Lib.hid E6.out, ftO, ftT⟩
      · skip
        go_simp
        have E4 := Lib.hid ((E3.out.push 64 [.int .i64 0, .slice none 0 0, .slice none 0 0, .slice none 0 0] (w3.heap.size) (by simp)))
        (try dsimp only)
        clear hHeld
        refine hKK.out _ _ (⟨((E4.out.bx 5 rfl).cell 0 rfl), ((E4.out.bx 5 rfl).cell 3 rfl)⟩) (fun hHeld => ?_)
        clear hKK KK
        try simp only [Act.put, List.setIfInBounds_toArray, List.set_cons_zero, List.set_cons_succ]
        clear E3
        generalize w3.alloc (.cells #[.int .i64 0, .slice none 0 0, .slice none 0 0, .slice none 0 0] 64) = w4 at *
        refine uReady (rs := [5]) (by kernel_rfl) (by simp) ?_
        refine ReadyU.cons rfl (fun KK hKK => ?_) ReadyU.nil
        refine op_appN (c := xm) tiF (some 17) rfl rfl (.tmp 14) (.tmp 16) rfl E4.out (A := [(w3.heap.size, 64, [.int .i64 0, .slice none 0 0, .slice none 0 0, .slice none 0 0])]) (sg := [(w2.heap.size, 72, [])]) (B' := [(w.heap.size + 1 + 1 + 1, 72, [.int .i64 1, .int .i64 0]), (w.heap.size + 1 + 1, 64, [.int .i64 0, .slice none 0 0, .slice none 0 0, .slice none 0 0]), (w.heap.size + 1, 24, [.int .i64 M.fr, .int .i64 M.to_, .int .i64 M.kd, .int .i64 M.nm, .slice ma M.body.length mk]), (w.heap.size, 64, [.int .i64 l.nw, .slice xa l.L.length xj, .slice xb l.ats.length xk, .slice xc l.ft.length xm])]) (n := 0) (by first | rfl | simp) (.inr ⟨w2.heap.size, 0, rfl, rfl, Nat.le_refl _, by omega, rfl⟩) (by simp [Act.eval, Act.put]; done) (by simp [Act.eval, Act.put]; done) (Rw.src (E4.out.fc 1 rfl)) (by have := hbig.out.1; omega) ?_
        intro fts ftv ftc w5 ftO ftT ftE
        (try simp only [Nat.zero_add] at ftO ftT)
        obtain ⟨fta, ftk, rfl⟩ := ftO.out.len
        have E5 : Hid (Env D w ((w3.heap.size, 64, [.int .i64 0, .slice none 0 0, .slice none 0 0, .slice none 0 0]) :: (w.heap.size + 1 + 1 + 1, 72, [.int .i64 1, .int .i64 0]) :: (w.heap.size + 1 + 1, 64, [.int .i64 0, .slice none 0 0, .slice none 0 0, .slice none 0 0]) :: (w.heap.size + 1, 24, [.int .i64 M.fr, .int .i64 M.to_, .int .i64 M.kd, .int .i64 M.nm, .slice ma M.body.length mk]) :: (w.heap.size, 64, [.int .i64 l.nw, .slice xa l.L.length xj, .slice xb l.ats.length xk, .slice xc l.ft.length xm]) :: fts) [.bs (.slice ma M.body.length mk) M.body, .rw (.slice xc l.ft.length xm) l.ft.length 2 (fcl l.ft), .rw (.slice xb l.ats.length xk) l.ats.length 1 (icl l.ats), .ms (.slice xa l.L.length xj) l.L] w5) := Lib.hid ((ftE.out.perm (List.Perm.append_left [(w3.heap.size, 64, [.int .i64 0, .slice none 0 0, .slice none 0 0, .slice none 0 0])] (List.perm_append_comm (l₁ := fts) (l₂ := [(w.heap.size + 1 + 1 + 1, 72, [.int .i64 1, .int .i64 0]), (w.heap.size + 1 + 1, 64, [.int .i64 0, .slice none 0 0, .slice none 0 0, .slice none 0 0]), (w.heap.size + 1, 24, [.int .i64 M.fr, .int .i64 M.to_, .int .i64 M.kd, .int .i64 M.nm, .slice ma M.body.length mk]), (w.heap.size, 64, [.int .i64 l.nw, .slice xa l.L.length xj, .slice xb l.ats.length xk, .slice xc l.ft.length xm])])))).cast (by first | rfl | simp))
        clear E4 ftE
        (try dsimp only)
        clear hHeld
        refine hKK.out _ _ (⟨((E5.out.bx 4 rfl).cell 0 rfl), ((E5.out.bx 4 rfl).cell 3 rfl)⟩) (fun hHeld => ?_)
        clear hKK KK
        try simp only [Act.put, List.setIfInBounds_toArray, List.set_cons_zero, List.set_cons_succ]
        refine uTake (i := 6) (some 18) (v := ?_) rfl rfl (by kernel_rfl) (by kernel_rfl) (by kernel_rfl) (by kernel_rfl) (fun _ _ _ h => h) (by rfl) (by assumption) ?_ ?_
        rotate_left
        · (intro wS hSw; (try dsimp only at hSw); go_simp; try with_reducible rfl)
        try simp only [Act.put, List.setIfInBounds_toArray, List.set_cons_zero, List.set_cons_succ]
        have b1 := E5.out.bx 0 rfl
        have c1_0 := b1.cell 0 rfl
        have c1_1 := b1.cell 1 rfl
        have c1_2 := b1.cell 2 rfl
        have c1_3 := b1.cell 3 rfl
        have f1_0 := b1.frozen 0
        have f1_1 := b1.frozen 1
        have f1_2 := b1.frozen 2
        have f1_3 := b1.frozen 3
        clear b1
        refine uReady (rs := [8]) (by kernel_rfl) (by simp) ?_
        refine ReadyU.cons rfl (fun KK hKK => ?_) ReadyU.nil
        go_simp
        have E6 : Hid (Env D w ((w3.heap.size, 64, [.int .i64 l.nw, .slice none 0 0, .slice none 0 0, .slice fta l.ft.length ftk]) :: (w.heap.size + 1 + 1 + 1, 72, [.int .i64 1, .int .i64 0]) :: (w.heap.size + 1 + 1, 64, [.int .i64 0, .slice none 0 0, .slice none 0 0, .slice none 0 0]) :: (w.heap.size + 1, 24, [.int .i64 M.fr, .int .i64 M.to_, .int .i64 M.kd, .int .i64 M.nm, .slice ma M.body.length mk]) :: (w.heap.size, 64, [.int .i64 l.nw, .slice xa l.L.length xj, .slice xb l.ats.length xk, .slice xc l.ft.length xm]) :: fts) [.bs (.slice ma M.body.length mk) M.body, .rw (.slice xc l.ft.length xm) l.ft.length 2 (fcl l.ft), .rw (.slice xb l.ats.length xk) l.ats.length 1 (icl l.ats), .ms (.slice xa l.L.length xj) l.L] _) := Lib.hid (((((E5.out.set 0 0 (.int .i64 l.nw) rfl).set 0 1 (.slice none 0 0) rfl).set 0 2 (.slice none 0 0) rfl).set 0 3 (.slice fta l.ft.length ftk) rfl))
        (try dsimp only)
        clear hHeld
        refine hKK.out _ _ (⟨((E6.out.bx 4 rfl).cell 0 rfl), ((E6.out.bx 4 rfl).cell 3 rfl)⟩) (fun hHeld => ?_)
        clear hKK KK
        try simp only [Act.put, List.setIfInBounds_toArray, List.set_cons_zero, List.set_cons_succ]
        refine uDone (by kernel_rfl) ?_ _
        go_wp2_with fail
        go_meet
        exact ⟨w3.heap.size, fts, ftc, fta, ftk, rfl, Lib.hid E6.out, ftO, ftT⟩
    · skip
      go_simp
      have E3 := Lib.hid ((E2.out.push 64 [.int .i64 0, .slice none 0 0, .slice none 0 0, .slice none 0 0] (w2.heap.size) (by simp)))
      (try dsimp only)
      clear hHeld
      refine hKK.out _ _ (⟨((E3.out.bx 4 rfl).cell 0 rfl), ((E3.out.bx 4 rfl).cell 3 rfl)⟩) (fun hHeld => ?_)
      clear hKK KK
      try simp only [Act.put, List.setIfInBounds_toArray, List.set_cons_zero, List.set_cons_succ]
      clear E2
      generalize w2.alloc (.cells #[.int .i64 0, .slice none 0 0, .slice none 0 0, .slice none 0 0] 64) = w3 at *
      refine uReady (rs := [2]) (by kernel_rfl) (by simp) ?_
      refine ReadyU.cons rfl (fun KK hKK => ?_) ReadyU.nil
      go_simp
      have E4 := Lib.hid ((E3.out.push 72 [] (w3.heap.size) (by simp)))
      (try dsimp only)
      clear hHeld
      refine hKK.out _ _ (⟨((E4.out.bx 5 rfl).cell 0 rfl), ((E4.out.bx 5 rfl).cell 3 rfl)⟩) (fun hHeld => ?_)
      clear hKK KK
      try simp only [Act.put, List.setIfInBounds_toArray, List.set_cons_zero, List.set_cons_succ]
      clear E3
      generalize w3.alloc (.cells #[] 72) = w4 at *
      refine uReady (rs := [5]) (by kernel_rfl) (by simp) ?_
      refine ReadyU.cons rfl (fun KK hKK => ?_) ReadyU.nil
      refine op_appN (c := xm) tiF (some 17) rfl rfl (.tmp 14) (.tmp 16) rfl E4.out (A := []) (sg := [(w3.heap.size, 72, [])]) (B' := [(w2.heap.size, 64, [.int .i64 0, .slice none 0 0, .slice none 0 0, .slice none 0 0]), (w.heap.size + 1 + 1 + 1, 72, [.int .i64 1, .int .i64 0]), (w.heap.size + 1 + 1, 64, [.int .i64 0, .slice none 0 0, .slice none 0 0, .slice none 0 0]), (w.heap.size + 1, 24, [.int .i64 M.fr, .int .i64 M.to_, .int .i64 M.kd, .int .i64 M.nm, .slice ma M.body.length mk]), (w.heap.size, 64, [.int .i64 l.nw, .slice xa l.L.length xj, .slice xb l.ats.length xk, .slice xc l.ft.length xm])]) (n := 0) (by first | rfl | simp) (.inr ⟨w3.heap.size, 0, rfl, rfl, Nat.le_refl _, by omega, rfl⟩) (by simp [Act.eval, Act.put]; done) (by simp [Act.eval, Act.put]; done) (Rw.src (E4.out.fc 1 rfl)) (by have := hbig.out.1; omega) ?_
      intro fts ftv ftc w5 ftO ftT ftE
      (try simp only [Nat.zero_add] at ftO ftT)
      obtain ⟨fta, ftk, rfl⟩ := ftO.out.len
      have E5 : Hid (Env D w ((w2.heap.size, 64, [.int .i64 0, .slice none 0 0, .slice none 0 0, .slice none 0 0]) :: (w.heap.size + 1 + 1 + 1, 72, [.int .i64 1, .int .i64 0]) :: (w.heap.size + 1 + 1, 64, [.int .i64 0, .slice none 0 0, .slice none 0 0, .slice none 0 0]) :: (w.heap.size + 1, 24, [.int .i64 M.fr, .int .i64 M.to_, .int .i64 M.kd, .int .i64 M.nm, .slice ma M.body.length mk]) :: (w.heap.size, 64, [.int .i64 l.nw, .slice xa l.L.length xj, .slice xb l.ats.length xk, .slice xc l.ft.length xm]) :: fts) [.bs (.slice ma M.body.length mk) M.body, .rw (.slice xc l.ft.length xm) l.ft.length 2 (fcl l.ft), .rw (.slice xb l.ats.length xk) l.ats.length 1 (icl l.ats), .ms (.slice xa l.L.length xj) l.L] w5) := Lib.hid ((ftE.out.perm (List.Perm.append_left [] (List.perm_append_comm (l₁ := fts) (l₂ := [(w2.heap.size, 64, [.int .i64 0, .slice none 0 0, .slice none 0 0, .slice none 0 0]), (w.heap.size + 1 + 1 + 1, 72, [.int .i64 1, .int .i64 0]), (w.heap.size + 1 + 1, 64, [.int .i64 0, .slice none 0 0, .slice none 0 0, .slice none 0 0]), (w.heap.size + 1, 24, [.int .i64 M.fr, .int .i64 M.to_, .int .i64 M.kd, .int .i64 M.nm, .slice ma M.body.length mk]), (w.heap.size, 64, [.int .i64 l.nw, .slice xa l.L.length xj, .slice xb l.ats.length xk, .slice xc l.ft.length xm])])))).cast (by first | rfl | simp))
      clear E4 ftE
      (try dsimp only)
      clear hHeld
      refine hKK.out _ _ (⟨((E5.out.bx 4 rfl).cell 0 rfl), ((E5.out.bx 4 rfl).cell 3 rfl)⟩) (fun hHeld => ?_)
      clear hKK KK
      try simp only [Act.put, List.setIfInBounds_toArray, List.set_cons_zero, List.set_cons_succ]
      refine uTake (i := 6) (some 18) (v := ?_) rfl rfl (by kernel_rfl) (by kernel_rfl) (by kernel_rfl) (by kernel_rfl) (fun _ _ _ h => h) (by rfl) (by assumption) ?_ ?_
      rotate_left
      · (intro wS hSw; (try dsimp only at hSw); go_simp; try with_reducible rfl)
      try simp only [Act.put, List.setIfInBounds_toArray, List.set_cons_zero, List.set_cons_succ]
      have b1 := E5.out.bx 0 rfl
      have c1_0 := b1.cell 0 rfl
      have c1_1 := b1.cell 1 rfl
      have c1_2 := b1.cell 2 rfl
      have c1_3 := b1.cell 3 rfl
      have f1_0 := b1.frozen 0
      have f1_1 := b1.frozen 1
      have f1_2 := b1.frozen 2
      have f1_3 := b1.frozen 3
      clear b1
      refine uReady (rs := [8]) (by kernel_rfl) (by simp) ?_
      refine ReadyU.cons rfl (fun KK hKK => ?_) ReadyU.nil
      go_simp
      have E6 : Hid (Env D w ((w2.heap.size, 64, [.int .i64 l.nw, .slice none 0 0, .slice none 0 0, .slice fta l.ft.length ftk]) :: (w.heap.size + 1 + 1 + 1, 72, [.int .i64 1, .int .i64 0]) :: (w.heap.size + 1 + 1, 64, [.int .i64 0, .slice none 0 0, .slice none 0 0, .slice none 0 0]) :: (w.heap.size + 1, 24, [.int .i64 M.fr, .int .i64 M.to_, .int .i64 M.kd, .int .i64 M.nm, .slice ma M.body.length mk]) :: (w.heap.size, 64, [.int .i64 l.nw, .slice xa l.L.length xj, .slice xb l.ats.length xk, .slice xc l.ft.length xm]) :: fts) [.bs (.slice ma M.body.length mk) M.body, .rw (.slice xc l.ft.length xm) l.ft.length 2 (fcl l.ft), .rw (.slice xb l.ats.length xk) l.ats.length 1 (icl l.ats), .ms (.slice xa l.L.length xj) l.L] _) := Lib.hid (((((E5.out.set 0 0 (.int .i64 l.nw) rfl).set 0 1 (.slice none 0 0) rfl).set 0 2 (.slice none 0 0) rfl).set 0 3 (.slice fta l.ft.length ftk) rfl))
      (try dsimp only)
      clear hHeld
      refine hKK.out _ _ (⟨((E6.out.bx 4 rfl).cell 0 rfl), ((E6.out.bx 4 rfl).cell 3 rfl)⟩) (fun hHeld => ?_)
      clear hKK KK
      try simp only [Act.put, List.setIfInBounds_toArray, List.set_cons_zero, List.set_cons_succ]
      refine uDone (by kernel_rfl) ?_ _
      go_wp2_with fail
      go_meet
      exact ⟨w2.heap.size, fts, ftc, fta, ftk, rfl, Lib.hid E6.out, ftO, ftT⟩
  case rest =>
    obtain ⟨gO, fts, ftc, fta, ftk, rfl, E7, ftO, ftT⟩ := hcut
    clear E1
    have b2 := E7.out.bx 4 rfl
    have c2_3 := b2.cell 3 rfl
    clear b2
    have E8 : Hid (Env D w ((gO, 64, [.int .i64 l.nw, .slice none 0 0, .slice none 0 0, .slice fta l.ft.length ftk]) :: (w.heap.size + 1 + 1 + 1, 72, [.int .i64 (c : Int), .int .i64 d]) :: (w.heap.size + 1 + 1, 64, [.int .i64 0, .slice none 0 0, .slice none 0 0, .slice none 0 0]) :: (w.heap.size + 1, 24, [.int .i64 M.fr, .int .i64 M.to_, .int .i64 M.kd, .int .i64 M.nm, .slice ma M.body.length mk]) :: (w.heap.size, 64, [.int .i64 l.nw, .slice xa l.L.length xj, .slice xb l.ats.length xk, .slice xc l.ft.length xm]) :: fts) [.bs (.slice ma M.body.length mk) M.body, .rw (.slice xc l.ft.length xm) l.ft.length 2 (fcl l.ft), .rw (.slice xb l.ats.length xk) l.ats.length 1 (icl l.ats), .ms (.slice xa l.L.length xj) l.L] _) := Lib.hid (E7.out.cast (by simp [hcd.out.1, hcd.out.2]))
    have ww1 : IntKind.i64.wrap ((l.L.length : Int) + (c : Int)) = ((l.L.length + c : Nat) : Int) := by rw [IntKind.wrap_i64]; omega
    have t3 : decide ((1000 : Int) < ((l.L.length + c : Nat) : Int)) = true := decide_eq_true (by omega)
    have t3b : decide ((1000 : Int) < (l.L.length : Int) + (c : Int)) = true := decide_eq_true (by omega)
    have b3 := E8.out.bx 4 rfl
    have c3_1 := b3.cell 1 rfl
    clear b3
    have b4 := E8.out.bx 1 rfl
    have c4_0 := b4.cell 0 rfl
    clear b4
    have b5 := E8.out.bx 2 rfl
    have c5_0 := b5.cell 0 rfl
    have c5_1 := b5.cell 1 rfl
    have c5_2 := b5.cell 2 rfl
    have c5_3 := b5.cell 3 rfl
    have f5_0 := b5.frozen 0
    have f5_1 := b5.frozen 1
    have f5_2 := b5.frozen 2
    have f5_3 := b5.frozen 3
    clear b5
    go_wp2
    have E9 : Hid (Env D w ((gO, 64, [.int .i64 l.nw, .slice none 0 0, .slice none 0 0, .slice fta l.ft.length ftk]) :: (w.heap.size + 1 + 1 + 1, 72, [.int .i64 (c : Int), .int .i64 d]) :: (w.heap.size + 1 + 1, 64, [.int .i64 0, .slice none 0 0, .slice none 0 0, .slice none 0 0]) :: (w.heap.size + 1, 24, [.int .i64 M.fr, .int .i64 M.to_, .int .i64 M.kd, .int .i64 M.nm, .slice ma M.body.length mk]) :: (w.heap.size, 64, [.int .i64 l.nw, .slice xa l.L.length xj, .slice xb l.ats.length xk, .slice xc l.ft.length xm]) :: fts) [.bs (.slice ma M.body.length mk) M.body, .rw (.slice xc l.ft.length xm) l.ft.length 2 (fcl l.ft), .rw (.slice xb l.ats.length xk) l.ats.length 1 (icl l.ats), .ms (.slice xa l.L.length xj) l.L] _) := Lib.hid (((((E8.out.set 2 0 (.int .i64 0) rfl).set 2 1 (.slice none 0 0) rfl).set 2 2 (.slice none 0 0) rfl).set 2 3 (.slice none 0 0) rfl))
    have hfin := E9.out
    have q6 := (hfin.bx 2 rfl).cell 0 rfl
    have q7 := (hfin.bx 2 rfl).cell 1 rfl
    have q8 := (hfin.bx 2 rfl).cell 2 rfl
    have q9 := (hfin.bx 2 rfl).cell 3 rfl
    exact bodyPost_ret (v := .tuple #[.agg #[.int .i64 0, .slice none 0 0, .slice none 0 0, .slice none 0 0], .bool false]) (by simp [results, Try.results47, go_sem, q6, q7, q8, q9]) rfl ⟨⟨_, rfl, _, _, _, _, _, _, rfl, Lib.hid (Ms.nil _ _), Lib.hid (Rw.nil _ _ _), Lib.hid (Rw.nil _ _ _)⟩, hfin.bel⟩
set_option maxRecDepth 100000 in
set_option maxHeartbeats 1000000 in
theorem rSend_ok_n {D : Nat → Prop} (l : Lin) (M : Msg) (c : Nat) (d : Int) (p : Nat) {xa xb xc : Option Addr} {xj xk xm : Nat} {ma : Option Addr} {mk : Nat} {w : World} (h1 : Fct.at w D (.ms (.slice xa l.L.length xj) l.L)) (h2 : Fct.at w D (.rw (.slice xb l.ats.length xk) l.ats.length 1 (icl l.ats))) (h3 : Fct.at w D (.rw (.slice xc l.ft.length xm) l.ft.length 2 (fcl l.ft))) (hm : Fct.at w D (.bs (.slice ma M.body.length mk) M.body)) (hv0 : LinOk l) (hf0 : fate0 l = ((c : Int), d)) (hi0 : PlaceIs l.ats (l.nw + d) p) (hbig0 : (l.L.length ≤ 100000 ∧ l.ats.length ≤ 100000 ∧ l.ft.length ≤ 100000) ∧ ∀ k (h : k < l.L.length), l.L[k].body.length ≤ 1000000) (hmb0 : M.body.length ≤ 1000000) (hnf : ¬ 1000 < l.L.length + c) (h0f0 : l.ft.length = 0) :
    Calls Try.prog 47 #[.agg #[.int .i64 l.nw, .slice xa l.L.length xj, .slice xb l.ats.length xk, .slice xc l.ft.length xm], .agg #[.int .i64 M.fr, .int .i64 M.to_, .int .i64 M.kd, .int .i64 M.nm, .slice ma M.body.length mk]] w fun e w' => RetLB (fun b => D b ∨ w.heap.size ≤ b) (sendL l M p c d) true e w' ∧ Below w.heap.size w w' := by
  have E0 := Lib.hid (((((Env.start D w).arg (.ms (.slice xa l.L.length xj) l.L) h1).arg (.rw (.slice xb l.ats.length xk) l.ats.length 1 (icl l.ats)) h2).arg (.rw (.slice xc l.ft.length xm) l.ft.length 2 (fcl l.ft)) h3).arg (.bs (.slice ma M.body.length mk) M.body) hm)
  clear h1 h2 h3 hm
  go_enter Try.func47, Try.ntmps47
  have hv := Lib.hid hv0
  have hf := Lib.hid hf0
  have hi := Lib.hid hi0
  have hbig := Lib.hid hbig0
  have hmb := Lib.hid hmb0
  clear hv0 hf0 hi0 hbig0 hmb0
  have hb := snd_bounds hv.out
  rw [hf.out] at hb
  dsimp only at hb
  obtain ⟨⟨b1, b2⟩, ⟨b3, b4⟩, b5, b6⟩ := hb
  obtain ⟨l1, l2⟩ : l.L.length ≤ 1000 ∧ l.ats.length ≤ 1000 := by obtain ⟨⟨_, h1, h2, _⟩, _⟩ := hv.out; omega
  have H2 := Lib.hid hv.out.1.2.1
  have c3 : c ≤ 3 := by omega
  clear b3 b4
  have t1 : decide ((0 : Int) < (l.ft.length : Int)) = false := decide_eq_false (by omega)
  have t2 : decide (0 < l.ft.length) = false := decide_eq_false (by omega)
  have hcd : Hid (c = 1 ∧ d = 0) := Lib.hid (by have h9 := hf.out; unfold fate0 at h9; rw [List.length_eq_zero_iff.1 h0f0] at h9; simp only [List.headD_nil, Prod.mk.injEq] at h9; omega)
  have H0F := Lib.hid h0f0
  clear h0f0
  go_upto_region 2 with (fail)
  have E1 := Lib.hid (((((E0.out.push 64 [.int .i64 l.nw, .slice xa l.L.length xj, .slice xb l.ats.length xk, .slice xc l.ft.length xm] (w.heap.size) (by simp)).push 24 [.int .i64 M.fr, .int .i64 M.to_, .int .i64 M.kd, .int .i64 M.nm, .slice ma M.body.length mk] (w.heap.size + 1) (by simp)).push 64 [.int .i64 0, .slice none 0 0, .slice none 0 0, .slice none 0 0] (w.heap.size + 1 + 1) (by simp)).push 72 [.int .i64 1, .int .i64 0] (w.heap.size + 1 + 1 + 1) (by simp)))
  clear E0
  generalize (((w.alloc (.cells #[.int .i64 l.nw, .slice xa l.L.length xj, .slice xb l.ats.length xk, .slice xc l.ft.length xm] 64)).alloc (.cells #[.int .i64 M.fr, .int .i64 M.to_, .int .i64 M.kd, .int .i64 M.nm, .slice ma M.body.length mk] 24)).alloc (.cells #[.int .i64 0, .slice none 0 0, .slice none 0 0, .slice none 0 0] 64)).alloc (.cells #[.int .i64 1, .int .i64 0] 72) = w1 at *
  go_cut [7] (fun s7 wx => ∃ gO fts ftc fta ftk, s7 = .pointer (some ⟨gO, 0, none⟩) ∧ Hid (Env D w ((gO, 64, [.int .i64 l.nw, .slice none 0 0, .slice none 0 0, .slice fta l.ft.length ftk]) :: (w.heap.size + 1 + 1 + 1, 72, [.int .i64 1, .int .i64 0]) :: (w.heap.size + 1 + 1, 64, [.int .i64 0, .slice none 0 0, .slice none 0 0, .slice none 0 0]) :: (w.heap.size + 1, 24, [.int .i64 M.fr, .int .i64 M.to_, .int .i64 M.kd, .int .i64 M.nm, .slice ma M.body.length mk]) :: (w.heap.size, 64, [.int .i64 l.nw, .slice xa l.L.length xj, .slice xb l.ats.length xk, .slice xc l.ft.length xm]) :: fts) [.bs (.slice ma M.body.length mk) M.body, .rw (.slice xc l.ft.length xm) l.ft.length 2 (fcl l.ft), .rw (.slice xb l.ats.length xk) l.ats.length 1 (icl l.ats), .ms (.slice xa l.L.length xj) l.L] wx) ∧ Hid (OS 72 2 fts ftc (.slice fta l.ft.length ftk) l.ft.length) ∧ Hid (ftc.take (l.ft.length * 2) = fcl l.ft))
  case first =>
    have E2 := Lib.hid E1.out.drew
    clear E1
    refine wp_regionU (S := fun w' => w'.cell? ⟨w.heap.size, 0, none⟩ = some (.int .i64 l.nw) ∧ w'.cell? ⟨w.heap.size, 3, none⟩ = some (.slice xc l.ft.length xm)) [] (by kernel_rfl) (⟨((E2.out.bx 3 rfl).cell 0 rfl), ((E2.out.bx 3 rfl).cell 3 rfl)⟩) (fun hHeld => ?_)
    generalize w1.drew = w2 at *
    refine uTake (i := 0) (some 12) (v := ?_) rfl rfl (by kernel_rfl) (by kernel_rfl) (by kernel_rfl) (by kernel_rfl) (fun _ _ _ h => h) (by rfl) (by assumption) ?_ ?_
    rotate_left
    · (intro wS hSw; (try dsimp only at hSw); go_simp; try with_reducible rfl)
    try simp only [Act.put, List.setIfInBounds_toArray, List.set_cons_zero, List.set_cons_succ]
    refine uTake (i := 1) (some 13) (v := ?_) rfl rfl (by kernel_rfl) (by kernel_rfl) (by kernel_rfl) (by kernel_rfl) (fun _ _ _ h => h) (by rfl) (by assumption) ?_ ?_
    rotate_left
    · (intro wS hSw; (try dsimp only at hSw); go_simp; try with_reducible rfl)
    try simp only [Act.put, List.setIfInBounds_toArray, List.set_cons_zero, List.set_cons_succ]
    refine uTake (i := 3) (some 15) (v := ?_) rfl rfl (by kernel_rfl) (by kernel_rfl) (by kernel_rfl) (by kernel_rfl) (fun _ _ _ h => h) (by rfl) (by assumption) ?_ ?_
    rotate_left
    · (intro wS hSw; (try dsimp only at hSw); go_simp; try with_reducible rfl)
    try simp only [Act.put, List.setIfInBounds_toArray, List.set_cons_zero, List.set_cons_succ]
    refine uTake (i := 4) (some 16) (v := ?_) rfl rfl (by kernel_rfl) (by kernel_rfl) (by kernel_rfl) (by kernel_rfl) (fun _ _ _ h => h) (by rfl) (by assumption) ?_ ?_
    rotate_left
    · (intro wS hSw; (try dsimp only at hSw); go_simp; try with_reducible rfl)
    try simp only [Act.put, List.setIfInBounds_toArray, List.set_cons_zero, List.set_cons_succ]
    refine uReady (rs := [2, 7]) (by kernel_rfl) (by simp) ?_
    refine (ReadyU.cons rfl (fun KK hKK => ?_) (ReadyU.cons rfl (fun KK hKK => ?_) ReadyU.nil))
    · skip
      go_simp
      have E3 := Lib.hid ((E2.out.push 72 [] (w2.heap.size) (by simp)))
      (try dsimp only)
      clear hHeld
      refine hKK.out _ _ (⟨((E3.out.bx 4 rfl).cell 0 rfl), ((E3.out.bx 4 rfl).cell 3 rfl)⟩) (fun hHeld => ?_)
      clear hKK KK
      try simp only [Act.put, List.setIfInBounds_toArray, List.set_cons_zero, List.set_cons_succ]
      clear E2
      generalize w2.alloc (.cells #[] 72) = w3 at *
      refine uReady (rs := [5, 7]) (by kernel_rfl) (by simp) ?_
      refine (ReadyU.cons rfl (fun KK hKK => ?_) (ReadyU.cons rfl (fun KK hKK => ?_) ReadyU.nil))
      · skip
        refine op_appN (c := xm) tiF (some 17) rfl rfl (.tmp 14) (.tmp 16) rfl E3.out (A := []) (sg := [(w2.heap.size, 72, [])]) (B' := [(w.heap.size + 1 + 1 + 1, 72, [.int .i64 1, .int .i64 0]), (w.heap.size + 1 + 1, 64, [.int .i64 0, .slice none 0 0, .slice none 0 0, .slice none 0 0]), (w.heap.size + 1, 24, [.int .i64 M.fr, .int .i64 M.to_, .int .i64 M.kd, .int .i64 M.nm, .slice ma M.body.length mk]), (w.heap.size, 64, [.int .i64 l.nw, .slice xa l.L.length xj, .slice xb l.ats.length xk, .slice xc l.ft.length xm])]) (n := 0) (by first | rfl | simp) (.inr ⟨w2.heap.size, 0, rfl, rfl, Nat.le_refl _, by omega, rfl⟩) (by simp [Act.eval, Act.put]; done) (by simp [Act.eval, Act.put]; done) (Rw.src (E3.out.fc 1 rfl)) (by have := hbig.out.1; omega) ?_
        intro fts ftv ftc w4 ftO ftT ftE
        (try simp only [Nat.zero_add] at ftO ftT)
        obtain ⟨fta, ftk, rfl⟩ := ftO.out.len
        have E4 : Hid (Env D w ((w.heap.size + 1 + 1 + 1, 72, [.int .i64 1, .int .i64 0]) :: (w.heap.size + 1 + 1, 64, [.int .i64 0, .slice none 0 0, .slice none 0 0, .slice none 0 0]) :: (w.heap.size + 1, 24, [.int .i64 M.fr, .int .i64 M.to_, .int .i64 M.kd, .int .i64 M.nm, .slice ma M.body.length mk]) :: (w.heap.size, 64, [.int .i64 l.nw, .slice xa l.L.length xj, .slice xb l.ats.length xk, .slice xc l.ft.length xm]) :: fts) [.bs (.slice ma M.body.length mk) M.body, .rw (.slice xc l.ft.length xm) l.ft.length 2 (fcl l.ft), .rw (.slice xb l.ats.length xk) l.ats.length 1 (icl l.ats), .ms (.slice xa l.L.length xj) l.L] w4) := Lib.hid ((ftE.out.perm (List.Perm.append_left [] (List.perm_append_comm (l₁ := fts) (l₂ := [(w.heap.size + 1 + 1 + 1, 72, [.int .i64 1, .int .i64 0]), (w.heap.size + 1 + 1, 64, [.int .i64 0, .slice none 0 0, .slice none 0 0, .slice none 0 0]), (w.heap.size + 1, 24, [.int .i64 M.fr, .int .i64 M.to_, .int .i64 M.kd, .int .i64 M.nm, .slice ma M.body.length mk]), (w.heap.size, 64, [.int .i64 l.nw, .slice xa l.L.length xj, .slice xb l.ats.length xk, .slice xc l.ft.length xm])])))).cast (by first | rfl | simp))
        clear E3 ftE
        (try dsimp only)
        clear hHeld
        refine hKK.out _ _ (⟨((E4.out.bx 3 rfl).cell 0 rfl), ((E4.out.bx 3 rfl).cell 3 rfl)⟩) (fun hHeld => ?_)
        clear hKK KK
        try simp only [Act.put, List.setIfInBounds_toArray, List.set_cons_zero, List.set_cons_succ]
        refine uTake (i := 6) (some 18) (v := ?_) rfl rfl (by kernel_rfl) (by kernel_rfl) (by kernel_rfl) (by kernel_rfl) (fun _ _ _ h => h) (by rfl) (by assumption) ?_ ?_
        rotate_left
        · (intro wS hSw; (try dsimp only at hSw); go_simp; try with_reducible rfl)
        try simp only [Act.put, List.setIfInBounds_toArray, List.set_cons_zero, List.set_cons_succ]
        refine uReady (rs := [7]) (by kernel_rfl) (by simp) ?_
        refine ReadyU.cons rfl (fun KK hKK => ?_) ReadyU.nil
        go_simp
        have E5 := Lib.hid ((E4.out.push 64 [.int .i64 0, .slice none 0 0, .slice none 0 0, .slice none 0 0] (w4.heap.size) (by simp)))
        (try dsimp only)
        clear hHeld
        refine hKK.out _ _ (⟨((E5.out.bx 4 rfl).cell 0 rfl), ((E5.out.bx 4 rfl).cell 3 rfl)⟩) (fun hHeld => ?_)
        clear hKK KK
        try simp only [Act.put, List.setIfInBounds_toArray, List.set_cons_zero, List.set_cons_succ]
        clear E4
        generalize w4.alloc (.cells #[.int .i64 0, .slice none 0 0, .slice none 0 0, .slice none 0 0] 64) = w5 at *
        have b1 := E5.out.bx 0 rfl
        have c1_0 := b1.cell 0 rfl
        have c1_1 := b1.cell 1 rfl
        have c1_2 := b1.cell 2 rfl
        have c1_3 := b1.cell 3 rfl
        have f1_0 := b1.frozen 0
        have f1_1 := b1.frozen 1
        have f1_2 := b1.frozen 2
        have f1_3 := b1.frozen 3
        clear b1
        refine uReady (rs := [8]) (by kernel_rfl) (by simp) ?_
        refine ReadyU.cons rfl (fun KK hKK => ?_) ReadyU.nil
        go_simp
        have E6 : Hid (Env D w ((w4.heap.size, 64, [.int .i64 l.nw, .slice none 0 0, .slice none 0 0, .slice fta l.ft.length ftk]) :: (w.heap.size + 1 + 1 + 1, 72, [.int .i64 1, .int .i64 0]) :: (w.heap.size + 1 + 1, 64, [.int .i64 0, .slice none 0 0, .slice none 0 0, .slice none 0 0]) :: (w.heap.size + 1, 24, [.int .i64 M.fr, .int .i64 M.to_, .int .i64 M.kd, .int .i64 M.nm, .slice ma M.body.length mk]) :: (w.heap.size, 64, [.int .i64 l.nw, .slice xa l.L.length xj, .slice xb l.ats.length xk, .slice xc l.ft.length xm]) :: fts) [.bs (.slice ma M.body.length mk) M.body, .rw (.slice xc l.ft.length xm) l.ft.length 2 (fcl l.ft), .rw (.slice xb l.ats.length xk) l.ats.length 1 (icl l.ats), .ms (.slice xa l.L.length xj) l.L] _) := Lib.hid (((((E5.out.set 0 0 (.int .i64 l.nw) rfl).set 0 1 (.slice none 0 0) rfl).set 0 2 (.slice none 0 0) rfl).set 0 3 (.slice fta l.ft.length ftk) rfl))
        (try dsimp only)
        clear hHeld
        refine hKK.out _ _ (⟨((E6.out.bx 4 rfl).cell 0 rfl), ((E6.out.bx 4 rfl).cell 3 rfl)⟩) (fun hHeld => ?_)
        clear hKK KK
        try simp only [Act.put, List.setIfInBounds_toArray, List.set_cons_zero, List.set_cons_succ]
        refine uDone (by kernel_rfl) ?_ _
        go_wp2_with fail
        go_meet
        exact ⟨w4.heap.size, fts, ftc, fta, ftk, rfl, Lib.hid E6.out, ftO, ftT⟩
      · skip
        go_simp
        have E4 := Lib.hid ((E3.out.push 64 [.int .i64 0, .slice none 0 0, .slice none 0 0, .slice none 0 0] (w3.heap.size) (by simp)))
        (try dsimp only)
        clear hHeld
        refine hKK.out _ _ (⟨((E4.out.bx 5 rfl).cell 0 rfl), ((E4.out.bx 5 rfl).cell 3 rfl)⟩) (fun hHeld => ?_)
        clear hKK KK
        try simp only [Act.put, List.setIfInBounds_toArray, List.set_cons_zero, List.set_cons_succ]
        clear E3
        generalize w3.alloc (.cells #[.int .i64 0, .slice none 0 0, .slice none 0 0, .slice none 0 0] 64) = w4 at *
        refine uReady (rs := [5]) (by kernel_rfl) (by simp) ?_
        refine ReadyU.cons rfl (fun KK hKK => ?_) ReadyU.nil
        refine op_appN (c := xm) tiF (some 17) rfl rfl (.tmp 14) (.tmp 16) rfl E4.out (A := [(w3.heap.size, 64, [.int .i64 0, .slice none 0 0, .slice none 0 0, .slice none 0 0])]) (sg := [(w2.heap.size, 72, [])]) (B' := [(w.heap.size + 1 + 1 + 1, 72, [.int .i64 1, .int .i64 0]), (w.heap.size + 1 + 1, 64, [.int .i64 0, .slice none 0 0, .slice none 0 0, .slice none 0 0]), (w.heap.size + 1, 24, [.int .i64 M.fr, .int .i64 M.to_, .int .i64 M.kd, .int .i64 M.nm, .slice ma M.body.length mk]), (w.heap.size, 64, [.int .i64 l.nw, .slice xa l.L.length xj, .slice xb l.ats.length xk, .slice xc l.ft.length xm])]) (n := 0) (by first | rfl | simp) (.inr ⟨w2.heap.size, 0, rfl, rfl, Nat.le_refl _, by omega, rfl⟩) (by simp [Act.eval, Act.put]; done) (by simp [Act.eval, Act.put]; done) (Rw.src (E4.out.fc 1 rfl)) (by have := hbig.out.1; omega) ?_
        intro fts ftv ftc w5 ftO ftT ftE
        (try simp only [Nat.zero_add] at ftO ftT)
        obtain ⟨fta, ftk, rfl⟩ := ftO.out.len
        have E5 : Hid (Env D w ((w3.heap.size, 64, [.int .i64 0, .slice none 0 0, .slice none 0 0, .slice none 0 0]) :: (w.heap.size + 1 + 1 + 1, 72, [.int .i64 1, .int .i64 0]) :: (w.heap.size + 1 + 1, 64, [.int .i64 0, .slice none 0 0, .slice none 0 0, .slice none 0 0]) :: (w.heap.size + 1, 24, [.int .i64 M.fr, .int .i64 M.to_, .int .i64 M.kd, .int .i64 M.nm, .slice ma M.body.length mk]) :: (w.heap.size, 64, [.int .i64 l.nw, .slice xa l.L.length xj, .slice xb l.ats.length xk, .slice xc l.ft.length xm]) :: fts) [.bs (.slice ma M.body.length mk) M.body, .rw (.slice xc l.ft.length xm) l.ft.length 2 (fcl l.ft), .rw (.slice xb l.ats.length xk) l.ats.length 1 (icl l.ats), .ms (.slice xa l.L.length xj) l.L] w5) := Lib.hid ((ftE.out.perm (List.Perm.append_left [(w3.heap.size, 64, [.int .i64 0, .slice none 0 0, .slice none 0 0, .slice none 0 0])] (List.perm_append_comm (l₁ := fts) (l₂ := [(w.heap.size + 1 + 1 + 1, 72, [.int .i64 1, .int .i64 0]), (w.heap.size + 1 + 1, 64, [.int .i64 0, .slice none 0 0, .slice none 0 0, .slice none 0 0]), (w.heap.size + 1, 24, [.int .i64 M.fr, .int .i64 M.to_, .int .i64 M.kd, .int .i64 M.nm, .slice ma M.body.length mk]), (w.heap.size, 64, [.int .i64 l.nw, .slice xa l.L.length xj, .slice xb l.ats.length xk, .slice xc l.ft.length xm])])))).cast (by first | rfl | simp))
        clear E4 ftE
        (try dsimp only)
        clear hHeld
        refine hKK.out _ _ (⟨((E5.out.bx 4 rfl).cell 0 rfl), ((E5.out.bx 4 rfl).cell 3 rfl)⟩) (fun hHeld => ?_)
        clear hKK KK
        try simp only [Act.put, List.setIfInBounds_toArray, List.set_cons_zero, List.set_cons_succ]
        refine uTake (i := 6) (some 18) (v := ?_) rfl rfl (by kernel_rfl) (by kernel_rfl) (by kernel_rfl) (by kernel_rfl) (fun _ _ _ h => h) (by rfl) (by assumption) ?_ ?_
        rotate_left
        · (intro wS hSw; (try dsimp only at hSw); go_simp; try with_reducible rfl)
        try simp only [Act.put, List.setIfInBounds_toArray, List.set_cons_zero, List.set_cons_succ]
        have b1 := E5.out.bx 0 rfl
        have c1_0 := b1.cell 0 rfl
        have c1_1 := b1.cell 1 rfl
        have c1_2 := b1.cell 2 rfl
        have c1_3 := b1.cell 3 rfl
        have f1_0 := b1.frozen 0
        have f1_1 := b1.frozen 1
        have f1_2 := b1.frozen 2
        have f1_3 := b1.frozen 3
        clear b1
        refine uReady (rs := [8]) (by kernel_rfl) (by simp) ?_
        refine ReadyU.cons rfl (fun KK hKK => ?_) ReadyU.nil
        go_simp
        have E6 : Hid (Env D w ((w3.heap.size, 64, [.int .i64 l.nw, .slice none 0 0, .slice none 0 0, .slice fta l.ft.length ftk]) :: (w.heap.size + 1 + 1 + 1, 72, [.int .i64 1, .int .i64 0]) :: (w.heap.size + 1 + 1, 64, [.int .i64 0, .slice none 0 0, .slice none 0 0, .slice none 0 0]) :: (w.heap.size + 1, 24, [.int .i64 M.fr, .int .i64 M.to_, .int .i64 M.kd, .int .i64 M.nm, .slice ma M.body.length mk]) :: (w.heap.size, 64, [.int .i64 l.nw, .slice xa l.L.length xj, .slice xb l.ats.length xk, .slice xc l.ft.length xm]) :: fts) [.bs (.slice ma M.body.length mk) M.body, .rw (.slice xc l.ft.length xm) l.ft.length 2 (fcl l.ft), .rw (.slice xb l.ats.length xk) l.ats.length 1 (icl l.ats), .ms (.slice xa l.L.length xj) l.L] _) := Lib.hid (((((E5.out.set 0 0 (.int .i64 l.nw) rfl).set 0 1 (.slice none 0 0) rfl).set 0 2 (.slice none 0 0) rfl).set 0 3 (.slice fta l.ft.length ftk) rfl))
        (try dsimp only)
        clear hHeld
        refine hKK.out _ _ (⟨((E6.out.bx 4 rfl).cell 0 rfl), ((E6.out.bx 4 rfl).cell 3 rfl)⟩) (fun hHeld => ?_)
        clear hKK KK
        try simp only [Act.put, List.setIfInBounds_toArray, List.set_cons_zero, List.set_cons_succ]
        refine uDone (by kernel_rfl) ?_ _
        go_wp2_with fail
        go_meet
        exact ⟨w3.heap.size, fts, ftc, fta, ftk, rfl, Lib.hid E6.out, ftO, ftT⟩
    · skip
      go_simp
      have E3 := Lib.hid ((E2.out.push 64 [.int .i64 0, .slice none 0 0, .slice none 0 0, .slice none 0 0] (w2.heap.size) (by simp)))
      (try dsimp only)
      clear hHeld
      refine hKK.out _ _ (⟨((E3.out.bx 4 rfl).cell 0 rfl), ((E3.out.bx 4 rfl).cell 3 rfl)⟩) (fun hHeld => ?_)
      clear hKK KK
      try simp only [Act.put, List.setIfInBounds_toArray, List.set_cons_zero, List.set_cons_succ]
      clear E2
      generalize w2.alloc (.cells #[.int .i64 0, .slice none 0 0, .slice none 0 0, .slice none 0 0] 64) = w3 at *
      refine uReady (rs := [2]) (by kernel_rfl) (by simp) ?_
      refine ReadyU.cons rfl (fun KK hKK => ?_) ReadyU.nil
      go_simp
      have E4 := Lib.hid ((E3.out.push 72 [] (w3.heap.size) (by simp)))
      (try dsimp only)
      clear hHeld
      refine hKK.out _ _ (⟨((E4.out.bx 5 rfl).cell 0 rfl), ((E4.out.bx 5 rfl).cell 3 rfl)⟩) (fun hHeld => ?_)
      clear hKK KK
      try simp only [Act.put, List.setIfInBounds_toArray, List.set_cons_zero, List.set_cons_succ]
      clear E3
      generalize w3.alloc (.cells #[] 72) = w4 at *
      refine uReady (rs := [5]) (by kernel_rfl) (by simp) ?_
      refine ReadyU.cons rfl (fun KK hKK => ?_) ReadyU.nil
      refine op_appN (c := xm) tiF (some 17) rfl rfl (.tmp 14) (.tmp 16) rfl E4.out (A := []) (sg := [(w3.heap.size, 72, [])]) (B' := [(w2.heap.size, 64, [.int .i64 0, .slice none 0 0, .slice none 0 0, .slice none 0 0]), (w.heap.size + 1 + 1 + 1, 72, [.int .i64 1, .int .i64 0]), (w.heap.size + 1 + 1, 64, [.int .i64 0, .slice none 0 0, .slice none 0 0, .slice none 0 0]), (w.heap.size + 1, 24, [.int .i64 M.fr, .int .i64 M.to_, .int .i64 M.kd, .int .i64 M.nm, .slice ma M.body.length mk]), (w.heap.size, 64, [.int .i64 l.nw, .slice xa l.L.length xj, .slice xb l.ats.length xk, .slice xc l.ft.length xm])]) (n := 0) (by first | rfl | simp) (.inr ⟨w3.heap.size, 0, rfl, rfl, Nat.le_refl _, by omega, rfl⟩) (by simp [Act.eval, Act.put]; done) (by simp [Act.eval, Act.put]; done) (Rw.src (E4.out.fc 1 rfl)) (by have := hbig.out.1; omega) ?_
      intro fts ftv ftc w5 ftO ftT ftE
      (try simp only [Nat.zero_add] at ftO ftT)
      obtain ⟨fta, ftk, rfl⟩ := ftO.out.len
      have E5 : Hid (Env D w ((w2.heap.size, 64, [.int .i64 0, .slice none 0 0, .slice none 0 0, .slice none 0 0]) :: (w.heap.size + 1 + 1 + 1, 72, [.int .i64 1, .int .i64 0]) :: (w.heap.size + 1 + 1, 64, [.int .i64 0, .slice none 0 0, .slice none 0 0, .slice none 0 0]) :: (w.heap.size + 1, 24, [.int .i64 M.fr, .int .i64 M.to_, .int .i64 M.kd, .int .i64 M.nm, .slice ma M.body.length mk]) :: (w.heap.size, 64, [.int .i64 l.nw, .slice xa l.L.length xj, .slice xb l.ats.length xk, .slice xc l.ft.length xm]) :: fts) [.bs (.slice ma M.body.length mk) M.body, .rw (.slice xc l.ft.length xm) l.ft.length 2 (fcl l.ft), .rw (.slice xb l.ats.length xk) l.ats.length 1 (icl l.ats), .ms (.slice xa l.L.length xj) l.L] w5) := Lib.hid ((ftE.out.perm (List.Perm.append_left [] (List.perm_append_comm (l₁ := fts) (l₂ := [(w2.heap.size, 64, [.int .i64 0, .slice none 0 0, .slice none 0 0, .slice none 0 0]), (w.heap.size + 1 + 1 + 1, 72, [.int .i64 1, .int .i64 0]), (w.heap.size + 1 + 1, 64, [.int .i64 0, .slice none 0 0, .slice none 0 0, .slice none 0 0]), (w.heap.size + 1, 24, [.int .i64 M.fr, .int .i64 M.to_, .int .i64 M.kd, .int .i64 M.nm, .slice ma M.body.length mk]), (w.heap.size, 64, [.int .i64 l.nw, .slice xa l.L.length xj, .slice xb l.ats.length xk, .slice xc l.ft.length xm])])))).cast (by first | rfl | simp))
      clear E4 ftE
      (try dsimp only)
      clear hHeld
      refine hKK.out _ _ (⟨((E5.out.bx 4 rfl).cell 0 rfl), ((E5.out.bx 4 rfl).cell 3 rfl)⟩) (fun hHeld => ?_)
      clear hKK KK
      try simp only [Act.put, List.setIfInBounds_toArray, List.set_cons_zero, List.set_cons_succ]
      refine uTake (i := 6) (some 18) (v := ?_) rfl rfl (by kernel_rfl) (by kernel_rfl) (by kernel_rfl) (by kernel_rfl) (fun _ _ _ h => h) (by rfl) (by assumption) ?_ ?_
      rotate_left
      · (intro wS hSw; (try dsimp only at hSw); go_simp; try with_reducible rfl)
      try simp only [Act.put, List.setIfInBounds_toArray, List.set_cons_zero, List.set_cons_succ]
      have b1 := E5.out.bx 0 rfl
      have c1_0 := b1.cell 0 rfl
      have c1_1 := b1.cell 1 rfl
      have c1_2 := b1.cell 2 rfl
      have c1_3 := b1.cell 3 rfl
      have f1_0 := b1.frozen 0
      have f1_1 := b1.frozen 1
      have f1_2 := b1.frozen 2
      have f1_3 := b1.frozen 3
      clear b1
      refine uReady (rs := [8]) (by kernel_rfl) (by simp) ?_
      refine ReadyU.cons rfl (fun KK hKK => ?_) ReadyU.nil
      go_simp
      have E6 : Hid (Env D w ((w2.heap.size, 64, [.int .i64 l.nw, .slice none 0 0, .slice none 0 0, .slice fta l.ft.length ftk]) :: (w.heap.size + 1 + 1 + 1, 72, [.int .i64 1, .int .i64 0]) :: (w.heap.size + 1 + 1, 64, [.int .i64 0, .slice none 0 0, .slice none 0 0, .slice none 0 0]) :: (w.heap.size + 1, 24, [.int .i64 M.fr, .int .i64 M.to_, .int .i64 M.kd, .int .i64 M.nm, .slice ma M.body.length mk]) :: (w.heap.size, 64, [.int .i64 l.nw, .slice xa l.L.length xj, .slice xb l.ats.length xk, .slice xc l.ft.length xm]) :: fts) [.bs (.slice ma M.body.length mk) M.body, .rw (.slice xc l.ft.length xm) l.ft.length 2 (fcl l.ft), .rw (.slice xb l.ats.length xk) l.ats.length 1 (icl l.ats), .ms (.slice xa l.L.length xj) l.L] _) := Lib.hid (((((E5.out.set 0 0 (.int .i64 l.nw) rfl).set 0 1 (.slice none 0 0) rfl).set 0 2 (.slice none 0 0) rfl).set 0 3 (.slice fta l.ft.length ftk) rfl))
      (try dsimp only)
      clear hHeld
      refine hKK.out _ _ (⟨((E6.out.bx 4 rfl).cell 0 rfl), ((E6.out.bx 4 rfl).cell 3 rfl)⟩) (fun hHeld => ?_)
      clear hKK KK
      try simp only [Act.put, List.setIfInBounds_toArray, List.set_cons_zero, List.set_cons_succ]
      refine uDone (by kernel_rfl) ?_ _
      go_wp2_with fail
      go_meet
      exact ⟨w2.heap.size, fts, ftc, fta, ftk, rfl, Lib.hid E6.out, ftO, ftT⟩
  case rest =>
    obtain ⟨gO, fts, ftc, fta, ftk, rfl, E7, ftO, ftT⟩ := hcut
    clear E1
    have b2 := E7.out.bx 4 rfl
    have c2_3 := b2.cell 3 rfl
    clear b2
    have E8 : Hid (Env D w ((gO, 64, [.int .i64 l.nw, .slice none 0 0, .slice none 0 0, .slice fta l.ft.length ftk]) :: (w.heap.size + 1 + 1 + 1, 72, [.int .i64 (c : Int), .int .i64 d]) :: (w.heap.size + 1 + 1, 64, [.int .i64 0, .slice none 0 0, .slice none 0 0, .slice none 0 0]) :: (w.heap.size + 1, 24, [.int .i64 M.fr, .int .i64 M.to_, .int .i64 M.kd, .int .i64 M.nm, .slice ma M.body.length mk]) :: (w.heap.size, 64, [.int .i64 l.nw, .slice xa l.L.length xj, .slice xb l.ats.length xk, .slice xc l.ft.length xm]) :: fts) [.bs (.slice ma M.body.length mk) M.body, .rw (.slice xc l.ft.length xm) l.ft.length 2 (fcl l.ft), .rw (.slice xb l.ats.length xk) l.ats.length 1 (icl l.ats), .ms (.slice xa l.L.length xj) l.L] _) := Lib.hid (E7.out.cast (by simp [hcd.out.1, hcd.out.2]))
    have ww1 : IntKind.i64.wrap ((l.L.length : Int) + (c : Int)) = ((l.L.length + c : Nat) : Int) := by rw [IntKind.wrap_i64]; omega
    have t3 : decide ((1000 : Int) < ((l.L.length + c : Nat) : Int)) = false := decide_eq_false (by omega)
    have t3b : decide ((1000 : Int) < (l.L.length : Int) + (c : Int)) = false := decide_eq_false (by omega)
    have b3 := E8.out.bx 4 rfl
    have c3_1 := b3.cell 1 rfl
    clear b3
    have b4 := E8.out.bx 1 rfl
    have c4_0 := b4.cell 0 rfl
    clear b4
    have ww2 : IntKind.i64.wrap (l.nw + d) = l.nw + d := by rw [IntKind.wrap_i64]; omega
    have b5 := E8.out.bx 4 rfl
    have c5_0 := b5.cell 0 rfl
    clear b5
    have b6 := E8.out.bx 1 rfl
    have c6_1 := b6.cell 1 rfl
    clear b6
    have hil : p ≤ l.L.length := by have := hi.out.1; have := H2.out; omega
    have hia : p ≤ l.ats.length := hi.out.1
    go_wp2_with fail
    go_loopg [9] (p) (fun gk s9 wr => ∃ (k : Nat) (sgA : List Bx) (csA : List Value) (aa : Option Addr) (ak : Nat) (sgL : List Bx) (csL : List Value) (la : Option Addr) (lj : Nat), s9 = .int .i64 (k : Int) ∧ Hid (Env D w ((gO, 64, [.int .i64 l.nw, .slice la (k) lj, .slice aa (k) ak, .slice fta l.ft.length ftk]) :: (w.heap.size + 1 + 1 + 1, 72, [.int .i64 (c : Int), .int .i64 d]) :: (w.heap.size + 1 + 1, 64, [.int .i64 0, .slice none 0 0, .slice none 0 0, .slice none 0 0]) :: (w.heap.size + 1, 24, [.int .i64 M.fr, .int .i64 M.to_, .int .i64 M.kd, .int .i64 M.nm, .slice ma M.body.length mk]) :: (w.heap.size, 64, [.int .i64 l.nw, .slice xa l.L.length xj, .slice xb l.ats.length xk, .slice xc l.ft.length xm]) :: (fts ++ (sgA ++ sgL))) [.mc csL (l.L.take k), .bs (.slice ma M.body.length mk) M.body, .rw (.slice xc l.ft.length xm) l.ft.length 2 (fcl l.ft), .rw (.slice xb l.ats.length xk) l.ats.length 1 (icl l.ats), .ms (.slice xa l.L.length xj) l.L] wr) ∧ Hid (OI sgA csA (.slice aa (k) ak) (l.ats.take k)) ∧ Hid (LS sgL csL (.slice la (k) lj) (l.L.take k)) ∧ Hid (k ≤ p ∧ gk = p - k))
    case atStart => exact ⟨0, [], [], none, 0, [], [], none, 0, rfl, Lib.hid ((E8.out.note _ (mc_nil _ _)).cast (by simp)), Lib.hid OI.nil, Lib.hid LS.nil, Lib.hid ⟨Nat.zero_le _, rfl⟩⟩
    case round =>
      clear c2_3 c3_1 c4_0 c5_0 c6_1 E7 E8
      obtain ⟨k, sgA, csA, aa, ak, sgL, csL, la, lj, rfl, EL, hOI, hLS, HA⟩ := hrel
      obtain ⟨a1, a2⟩ := HA.out
      clear HA
      by_cases hy : k = p
      rotate_left
      · have hkp : k < p := by omega
        have hk : k < l.L.length := by omega
        have hk2 : k < l.ats.length := by omega
        have t6 : decide ((k : Int) < (l.L.length : Int)) = true := decide_eq_true (by omega)
        have t7 : decide (k < l.L.length) = true := decide_eq_true hk
        have d1 : decide (l.ats[k] ≤ l.nw + d) = true := decide_eq_true (hi.out.2.1 k hk2 hkp)
        clear hy
        obtain ⟨xab, xao, rfl⟩ := Ms.addr (EL.out.fc 4 rfl) hk
        obtain ⟨ua, uk, E90⟩ := EL.out.els 4 rfl (k) hk
        have E9 : Hid (Env D w ((gO, 64, [.int .i64 l.nw, .slice la (k) lj, .slice aa (k) ak, .slice fta l.ft.length ftk]) :: (w.heap.size + 1 + 1 + 1, 72, [.int .i64 (c : Int), .int .i64 d]) :: (w.heap.size + 1 + 1, 64, [.int .i64 0, .slice none 0 0, .slice none 0 0, .slice none 0 0]) :: (w.heap.size + 1, 24, [.int .i64 M.fr, .int .i64 M.to_, .int .i64 M.kd, .int .i64 M.nm, .slice ma M.body.length mk]) :: (w.heap.size, 64, [.int .i64 l.nw, .slice (some ⟨xab, xao, none⟩) l.L.length xj, .slice xb l.ats.length xk, .slice xc l.ft.length xm]) :: (fts ++ (sgA ++ sgL))) [.ce xab (xao + k * 5) (.int .i64 l.L[k].fr), .ce xab (xao + k * 5 + 1) (.int .i64 l.L[k].to_), .ce xab (xao + k * 5 + 2) (.int .i64 l.L[k].kd), .ce xab (xao + k * 5 + 3) (.int .i64 l.L[k].nm), .ce xab (xao + k * 5 + 4) (.slice ua l.L[k].body.length uk), .bs (.slice ua l.L[k].body.length uk) l.L[k].body, .mc csL (l.L.take k), .bs (.slice ma M.body.length mk) M.body, .rw (.slice xc l.ft.length xm) l.ft.length 2 (fcl l.ft), .rw (.slice xb l.ats.length xk) l.ats.length 1 (icl l.ats), .ms (.slice (some ⟨xab, xao, none⟩) l.L.length xj) l.L] _) := Lib.hid E90
        clear E90 EL
        have u0 := (E9.out.fc 0 rfl).2
        have u1 := (E9.out.fc 1 rfl).2
        have u2 := (E9.out.fc 2 rfl).2
        have u3 := (E9.out.fc 3 rfl).2
        have u4 := (E9.out.fc 4 rfl).2
        obtain ⟨xbb, xbo, rfl⟩ := Rw.addr (E9.out.fc 9 rfl) (by omega)
        have E10 := Lib.hid (E9.out.elI 9 rfl rfl (k) hk2)
        clear E9
        have v0 := (E10.out.fc 0 rfl).2
        have HNL : Hid ((l.L.take k).length = k) := Lib.hid (by rw [List.length_take]; omega)
        have HNA : Hid ((l.ats.take k).length = k) := Lib.hid (by rw [List.length_take]; omega)
        have b7 := E10.out.bx 4 rfl
        have c7_1 := b7.cell 1 rfl
        clear b7
        have b8 := E10.out.bx 4 rfl
        have c8_2 := b8.cell 2 rfl
        clear b8
        have hu8 := Lib.hid (Bs.u8 (E10.out.fc 6 rfl))
        go_wp2_with fail
        have E11 := Lib.hid E10.out.drew
        clear u0 u1 u2 u3 u4 v0 c7_1 c8_2 E10
        refine wp_regionU (S := fun w' => w'.cell? ⟨gO, 1, none⟩ = some (.slice la (k) lj) ∧ w'.cell? ⟨w.heap.size, 1, none⟩ = some (.slice (some ⟨xab, xao, none⟩) l.L.length xj) ∧ w'.cell? ⟨xab, xao + k * 5, none⟩ = some (.int .i64 l.L[k].fr) ∧ w'.cell? ⟨xab, xao + k * 5 + 1, none⟩ = some (.int .i64 l.L[k].to_) ∧ w'.cell? ⟨xab, xao + k * 5 + 2, none⟩ = some (.int .i64 l.L[k].kd) ∧ w'.cell? ⟨xab, xao + k * 5 + 3, none⟩ = some (.int .i64 l.L[k].nm) ∧ w'.cell? ⟨xab, xao + k * 5 + 4, none⟩ = some (.slice ua l.L[k].body.length uk)) [11] (by kernel_rfl) (⟨((E11.out.bx 0 rfl).cell 1 rfl), ((E11.out.bx 4 rfl).cell 1 rfl), (E11.out.fc 1 rfl).2, (E11.out.fc 2 rfl).2, (E11.out.fc 3 rfl).2, (E11.out.fc 4 rfl).2, (E11.out.fc 5 rfl).2⟩) (fun hHeld => ?_)
        generalize wr.drew = w6 at *
        refine uTake (i := 0) (some 60) (v := ?_) rfl rfl (by kernel_rfl) (by kernel_rfl) (by kernel_rfl) (by kernel_rfl) (fun _ _ _ h => h) (by rfl) (by assumption) ?_ ?_
        rotate_left
        · (intro wS hSw; (try dsimp only at hSw); go_simp; try with_reducible rfl)
        try simp only [Act.put, List.setIfInBounds_toArray, List.set_cons_zero, List.set_cons_succ]
        refine uTake (i := 1) (some 61) (v := ?_) rfl rfl (by kernel_rfl) (by kernel_rfl) (by kernel_rfl) (by kernel_rfl) (fun _ _ _ h => h) (by rfl) (by assumption) ?_ ?_
        rotate_left
        · (intro wS hSw; (try dsimp only at hSw); go_simp; try with_reducible rfl)
        try simp only [Act.put, List.setIfInBounds_toArray, List.set_cons_zero, List.set_cons_succ]
        refine uTake (i := 2) (some 62) (v := ?_) rfl rfl (by kernel_rfl) (by kernel_rfl) (by kernel_rfl) (by kernel_rfl) (fun _ _ _ h => h) (by rfl) (by assumption) ?_ ?_
        rotate_left
        · (intro wS hSw; (try dsimp only at hSw); go_simp; try with_reducible rfl)
        try simp only [Act.put, List.setIfInBounds_toArray, List.set_cons_zero, List.set_cons_succ]
        refine uTake (i := 3) (some 63) (v := ?_) rfl rfl (by kernel_rfl) (by kernel_rfl) (by kernel_rfl) (by kernel_rfl) (fun _ _ _ h => h) (by rfl) (by assumption) ?_ ?_
        rotate_left
        · (intro wS hSw; (try dsimp only at hSw); go_simp; try with_reducible rfl)
        try simp only [Act.put, List.setIfInBounds_toArray, List.set_cons_zero, List.set_cons_succ]
        refine uTake (i := 4) (some 64) (v := ?_) rfl rfl (by kernel_rfl) (by kernel_rfl) (by kernel_rfl) (by kernel_rfl) (fun _ _ _ h => h) (by rfl) (by assumption) ?_ ?_
        rotate_left
        · (intro wS hSw; (try dsimp only at hSw); go_simp; try with_reducible rfl)
        try simp only [Act.put, List.setIfInBounds_toArray, List.set_cons_zero, List.set_cons_succ]
        refine uTake (i := 5) (some 65) (v := ?_) rfl rfl (by kernel_rfl) (by kernel_rfl) (by kernel_rfl) (by kernel_rfl) (fun _ _ _ h => h) (by rfl) (by assumption) ?_ ?_
        rotate_left
        · (intro wS hSw; (try dsimp only at hSw); go_simp; try with_reducible rfl)
        try simp only [Act.put, List.setIfInBounds_toArray, List.set_cons_zero, List.set_cons_succ]
        refine uTake (i := 6) (some 66) (v := ?_) rfl rfl (by kernel_rfl) (by kernel_rfl) (by kernel_rfl) (by kernel_rfl) (fun _ _ _ h => h) (by rfl) (by assumption) ?_ ?_
        rotate_left
        · (intro wS hSw; (try dsimp only at hSw); go_simp; try with_reducible rfl)
        try simp only [Act.put, List.setIfInBounds_toArray, List.set_cons_zero, List.set_cons_succ]
        refine uReady (rs := [7]) (by kernel_rfl) (by simp) ?_
        refine ReadyU.cons rfl (fun KK hKK => ?_) ReadyU.nil
        go_simp
        refine (rCopy_c l.L[k] (E11.out.fc 6 rfl) (hbig.out.2 k hk) hu8.out).mono ?_
        rintro e w7 ⟨⟨nba, nbk, rfl, hnb⟩, hb⟩
        have E12 := Lib.hid (E11.out.got (E11.out.below hb) (.bs (.slice nba l.L[k].body.length nbk) l.L[k].body) hnb.out)
        clear E11 hb hnb
        (try dsimp only)
        clear hHeld
        refine hKK.out _ _ (⟨((E12.out.bx 0 rfl).cell 1 rfl), ((E12.out.bx 4 rfl).cell 1 rfl), (E12.out.fc 2 rfl).2, (E12.out.fc 3 rfl).2, (E12.out.fc 4 rfl).2, (E12.out.fc 5 rfl).2, (E12.out.fc 6 rfl).2⟩) (fun hHeld => ?_)
        clear hKK KK
        try simp only [Act.put, List.setIfInBounds_toArray, List.set_cons_zero, List.set_cons_succ]
        refine uReady (rs := [8]) (by kernel_rfl) (by simp) ?_
        refine ReadyU.cons rfl (fun KK hKK => ?_) ReadyU.nil
        go_simp
        have E13 := Lib.hid ((E12.out.push 24 [.int .i64 l.L[k].fr, .int .i64 l.L[k].to_, .int .i64 l.L[k].kd, .int .i64 l.L[k].nm, .slice nba l.L[k].body.length nbk] (w7.heap.size) (by simp)))
        (try dsimp only)
        clear hHeld
        refine hKK.out _ _ (⟨((E13.out.bx 1 rfl).cell 1 rfl), ((E13.out.bx 5 rfl).cell 1 rfl), (E13.out.fc 2 rfl).2, (E13.out.fc 3 rfl).2, (E13.out.fc 4 rfl).2, (E13.out.fc 5 rfl).2, (E13.out.fc 6 rfl).2⟩) (fun hHeld => ?_)
        clear hKK KK
        try simp only [Act.put, List.setIfInBounds_toArray, List.set_cons_zero, List.set_cons_succ]
        clear E12
        generalize w7.alloc (.cells #[.int .i64 l.L[k].fr, .int .i64 l.L[k].to_, .int .i64 l.L[k].kd, .int .i64 l.L[k].nm, .slice nba l.L[k].body.length nbk] 24) = w8 at *
        refine uReady (rs := [9]) (by kernel_rfl) (by simp) ?_
        refine ReadyU.cons rfl (fun KK hKK => ?_) ReadyU.nil
        refine op_app1 (c := 1) tiM (some 69) rfl rfl (.tmp 61) (.tmp 68) rfl E13.out (A := ((w7.heap.size, 24, [.int .i64 l.L[k].fr, .int .i64 l.L[k].to_, .int .i64 l.L[k].kd, .int .i64 l.L[k].nm, .slice nba l.L[k].body.length nbk]) :: (gO, 64, [.int .i64 l.nw, .slice la (k) lj, .slice aa (k) ak, .slice fta l.ft.length ftk]) :: (w.heap.size + 1 + 1 + 1, 72, [.int .i64 (c : Int), .int .i64 d]) :: (w.heap.size + 1 + 1, 64, [.int .i64 0, .slice none 0 0, .slice none 0 0, .slice none 0 0]) :: (w.heap.size + 1, 24, [.int .i64 M.fr, .int .i64 M.to_, .int .i64 M.kd, .int .i64 M.nm, .slice ma M.body.length mk]) :: (w.heap.size, 64, [.int .i64 l.nw, .slice (some ⟨xab, xao, none⟩) l.L.length xj, .slice (some ⟨xbb, xbo, none⟩) l.ats.length xk, .slice xc l.ft.length xm]) :: (fts ++ sgA))) (sg := sgL) (B' := []) (F := ((w7.heap.size, 24, [.int .i64 l.L[k].fr, .int .i64 l.L[k].to_, .int .i64 l.L[k].kd, .int .i64 l.L[k].nm, .slice nba l.L[k].body.length nbk]) :: (gO, 64, [.int .i64 l.nw, .slice la (k) lj, .slice aa (k) ak, .slice fta l.ft.length ftk]) :: (w.heap.size + 1 + 1 + 1, 72, [.int .i64 (c : Int), .int .i64 d]) :: (w.heap.size + 1 + 1, 64, [.int .i64 0, .slice none 0 0, .slice none 0 0, .slice none 0 0]) :: (w.heap.size + 1, 24, [.int .i64 M.fr, .int .i64 M.to_, .int .i64 M.kd, .int .i64 M.nm, .slice ma M.body.length mk]) :: (w.heap.size, 64, [.int .i64 l.nw, .slice (some ⟨xab, xao, none⟩) l.L.length xj, .slice (some ⟨xbb, xbo, none⟩) l.ats.length xk, .slice xc l.ft.length xm]) :: (fts ++ (sgA ++ sgL)))) (by simp) (hLS.out.os HNL.out) (by simp [Act.eval, Act.put]) (by simp [Act.eval, Act.put]; done) (SrcN.msg l.L[k] (E13.out.bx 0 rfl)) (by omega) ?_
        intro yg yp yc w9 yH yT yE
        obtain ⟨yO0, yM⟩ := LS.app (g' := yg) hLS.out HNL.out yH.out yT.out (yE.out.fc 8 rfl) (yE.out.fc 0 rfl)
        have yO := Lib.hid yO0
        have E14 : Hid (Env D w ((w7.heap.size, 24, [.int .i64 l.L[k].fr, .int .i64 l.L[k].to_, .int .i64 l.L[k].kd, .int .i64 l.L[k].nm, .slice nba l.L[k].body.length nbk]) :: (gO, 64, [.int .i64 l.nw, .slice la (k) lj, .slice aa (k) ak, .slice fta l.ft.length ftk]) :: (w.heap.size + 1 + 1 + 1, 72, [.int .i64 (c : Int), .int .i64 d]) :: (w.heap.size + 1 + 1, 64, [.int .i64 0, .slice none 0 0, .slice none 0 0, .slice none 0 0]) :: (w.heap.size + 1, 24, [.int .i64 M.fr, .int .i64 M.to_, .int .i64 M.kd, .int .i64 M.nm, .slice ma M.body.length mk]) :: (w.heap.size, 64, [.int .i64 l.nw, .slice (some ⟨xab, xao, none⟩) l.L.length xj, .slice (some ⟨xbb, xbo, none⟩) l.ats.length xk, .slice xc l.ft.length xm]) :: (fts ++ (sgA ++ [(yg, 24, yc)]))) [.mc yc (l.L.take k ++ [l.L[k]]), .bs (.slice nba l.L[k].body.length nbk) l.L[k].body, .ce xbb (xbo + k) (.int .i64 l.ats[k]), .ce xab (xao + k * 5) (.int .i64 l.L[k].fr), .ce xab (xao + k * 5 + 1) (.int .i64 l.L[k].to_), .ce xab (xao + k * 5 + 2) (.int .i64 l.L[k].kd), .ce xab (xao + k * 5 + 3) (.int .i64 l.L[k].nm), .ce xab (xao + k * 5 + 4) (.slice ua l.L[k].body.length uk), .bs (.slice ua l.L[k].body.length uk) l.L[k].body, .mc csL (l.L.take k), .bs (.slice ma M.body.length mk) M.body, .rw (.slice xc l.ft.length xm) l.ft.length 2 (fcl l.ft), .rw (.slice (some ⟨xbb, xbo, none⟩) l.ats.length xk) l.ats.length 1 (icl l.ats), .ms (.slice (some ⟨xab, xao, none⟩) l.L.length xj) l.L] w9) := Lib.hid ((yE.out.note _ yM).cast (by simp))
        clear E13 yE yM yO0 yH yT hLS
        (try dsimp only)
        clear hHeld
        refine hKK.out _ _ (⟨((E14.out.bx 1 rfl).cell 1 rfl), ((E14.out.bx 5 rfl).cell 1 rfl), (E14.out.fc 3 rfl).2, (E14.out.fc 4 rfl).2, (E14.out.fc 5 rfl).2, (E14.out.fc 6 rfl).2, (E14.out.fc 7 rfl).2⟩) (fun hHeld => ?_)
        clear hKK KK
        try simp only [Act.put, List.setIfInBounds_toArray, List.set_cons_zero, List.set_cons_succ]
        refine uTake (i := 10) (some 70) (v := ?_) rfl rfl (by kernel_rfl) (by kernel_rfl) (by kernel_rfl) (by kernel_rfl) (fun _ _ _ h => h) (by rfl) (by assumption) ?_ ?_
        rotate_left
        · (intro wS hSw; (try dsimp only at hSw); go_simp; try with_reducible rfl)
        try simp only [Act.put, List.setIfInBounds_toArray, List.set_cons_zero, List.set_cons_succ]
        have b9 := E14.out.bx 1 rfl
        have c9_1 := b9.cell 1 rfl
        have f9_1 := b9.frozen 1
        clear b9
        refine uReady (rs := [11]) (by kernel_rfl) (by simp) ?_
        refine ReadyU.consU (by kernel_rfl) rfl (fun KK hKK => ?_) ReadyU.nil
        go_simp
        have E15 : Hid (Env D w ((w7.heap.size, 24, [.int .i64 l.L[k].fr, .int .i64 l.L[k].to_, .int .i64 l.L[k].kd, .int .i64 l.L[k].nm, .slice nba l.L[k].body.length nbk]) :: (gO, 64, [.int .i64 l.nw, .slice (some ⟨yg, 0, none⟩) (k + 1) yp, .slice aa (k) ak, .slice fta l.ft.length ftk]) :: (w.heap.size + 1 + 1 + 1, 72, [.int .i64 (c : Int), .int .i64 d]) :: (w.heap.size + 1 + 1, 64, [.int .i64 0, .slice none 0 0, .slice none 0 0, .slice none 0 0]) :: (w.heap.size + 1, 24, [.int .i64 M.fr, .int .i64 M.to_, .int .i64 M.kd, .int .i64 M.nm, .slice ma M.body.length mk]) :: (w.heap.size, 64, [.int .i64 l.nw, .slice (some ⟨xab, xao, none⟩) l.L.length xj, .slice (some ⟨xbb, xbo, none⟩) l.ats.length xk, .slice xc l.ft.length xm]) :: (fts ++ (sgA ++ [(yg, 24, yc)]))) [.mc yc (l.L.take k ++ [l.L[k]]), .bs (.slice nba l.L[k].body.length nbk) l.L[k].body, .ce xbb (xbo + k) (.int .i64 l.ats[k]), .ce xab (xao + k * 5) (.int .i64 l.L[k].fr), .ce xab (xao + k * 5 + 1) (.int .i64 l.L[k].to_), .ce xab (xao + k * 5 + 2) (.int .i64 l.L[k].kd), .ce xab (xao + k * 5 + 3) (.int .i64 l.L[k].nm), .ce xab (xao + k * 5 + 4) (.slice ua l.L[k].body.length uk), .bs (.slice ua l.L[k].body.length uk) l.L[k].body, .mc csL (l.L.take k), .bs (.slice ma M.body.length mk) M.body, .rw (.slice xc l.ft.length xm) l.ft.length 2 (fcl l.ft), .rw (.slice (some ⟨xbb, xbo, none⟩) l.ats.length xk) l.ats.length 1 (icl l.ats), .ms (.slice (some ⟨xab, xao, none⟩) l.L.length xj) l.L] _) := Lib.hid ((E14.out.set 1 1 (.slice (some ⟨yg, 0, none⟩) (k + 1) yp) rfl))
        (try dsimp only)
        (try clear hHeld)
        refine hKK.out _ _ ?_
        clear hKK KK
        try simp only [Act.put, List.setIfInBounds_toArray, List.set_cons_zero, List.set_cons_succ]
        refine uDone (by kernel_rfl) ?_ _
        go_wp2_with fail
        clear c9_1 f9_1 E14
        generalize w9.setCell ⟨gO, 1, none⟩ (.slice (some ⟨yg, 0, none⟩) (k + 1) yp) = w10 at *
        have E16 := Lib.hid E15.out.drew
        clear E15
        refine wp_regionU (S := fun w' => w'.cell? ⟨gO, 2, none⟩ = some (.slice aa (k) ak) ∧ w'.cell? ⟨w.heap.size, 2, none⟩ = some (.slice (some ⟨xbb, xbo, none⟩) l.ats.length xk) ∧ w'.cell? ⟨xbb, xbo + k, none⟩ = some (.int .i64 l.ats[k])) [10] (by kernel_rfl) (⟨((E16.out.bx 1 rfl).cell 2 rfl), ((E16.out.bx 5 rfl).cell 2 rfl), (E16.out.fc 2 rfl).2⟩) (fun hHeld => ?_)
        generalize w10.drew = w11 at *
        refine uTake (i := 0) (some 71) (v := ?_) rfl rfl (by kernel_rfl) (by kernel_rfl) (by kernel_rfl) (by kernel_rfl) (fun _ _ _ h => h) (by rfl) (by assumption) ?_ ?_
        rotate_left
        · (intro wS hSw; (try dsimp only at hSw); go_simp; try with_reducible rfl)
        try simp only [Act.put, List.setIfInBounds_toArray, List.set_cons_zero, List.set_cons_succ]
        refine uTake (i := 1) (some 72) (v := ?_) rfl rfl (by kernel_rfl) (by kernel_rfl) (by kernel_rfl) (by kernel_rfl) (fun _ _ _ h => h) (by rfl) (by assumption) ?_ ?_
        rotate_left
        · (intro wS hSw; (try dsimp only at hSw); go_simp; try with_reducible rfl)
        try simp only [Act.put, List.setIfInBounds_toArray, List.set_cons_zero, List.set_cons_succ]
        refine uTake (i := 2) (some 73) (v := ?_) rfl rfl (by kernel_rfl) (by kernel_rfl) (by kernel_rfl) (by kernel_rfl) (fun _ _ _ h => h) (by rfl) (by assumption) ?_ ?_
        rotate_left
        · (intro wS hSw; (try dsimp only at hSw); go_simp; try with_reducible rfl)
        try simp only [Act.put, List.setIfInBounds_toArray, List.set_cons_zero, List.set_cons_succ]
        refine uTake (i := 3) (some 74) (v := ?_) rfl rfl (by kernel_rfl) (by kernel_rfl) (by kernel_rfl) (by kernel_rfl) (fun _ _ _ h => h) (by rfl) (by assumption) ?_ ?_
        rotate_left
        · (intro wS hSw; (try dsimp only at hSw); go_simp; try with_reducible rfl)
        try simp only [Act.put, List.setIfInBounds_toArray, List.set_cons_zero, List.set_cons_succ]
        refine uTake (i := 4) (some 75) (v := ?_) rfl rfl (by kernel_rfl) (by kernel_rfl) (by kernel_rfl) (by kernel_rfl) (fun _ _ _ h => h) (by rfl) (by assumption) ?_ ?_
        rotate_left
        · (intro wS hSw; (try dsimp only at hSw); go_simp; try with_reducible rfl)
        try simp only [Act.put, List.setIfInBounds_toArray, List.set_cons_zero, List.set_cons_succ]
        refine uTake (i := 5) (some 76) (v := ?_) rfl rfl (by kernel_rfl) (by kernel_rfl) (by kernel_rfl) (by kernel_rfl) (fun _ _ _ h => h) (by rfl) (by assumption) ?_ ?_
        rotate_left
        · (intro wS hSw; (try dsimp only at hSw); go_simp; try with_reducible rfl)
        try simp only [Act.put, List.setIfInBounds_toArray, List.set_cons_zero, List.set_cons_succ]
        refine uTake (i := 6) (some 77) (v := ?_) rfl rfl (by kernel_rfl) (by kernel_rfl) (by kernel_rfl) (by kernel_rfl) (fun _ _ _ h => h) (by rfl) (by assumption) ?_ ?_
        rotate_left
        · (intro wS hSw; (try dsimp only at hSw); go_simp; try with_reducible rfl)
        try simp only [Act.put, List.setIfInBounds_toArray, List.set_cons_zero, List.set_cons_succ]
        refine uReady (rs := [7]) (by kernel_rfl) (by simp) ?_
        refine ReadyU.cons rfl (fun KK hKK => ?_) ReadyU.nil
        go_simp
        have E17 := Lib.hid ((E16.out.push 3 [.int .i64 l.ats[k]] (w11.heap.size) (by simp)))
        (try dsimp only)
        clear hHeld
        refine hKK.out _ _ (⟨((E17.out.bx 2 rfl).cell 2 rfl), ((E17.out.bx 6 rfl).cell 2 rfl), (E17.out.fc 2 rfl).2⟩) (fun hHeld => ?_)
        clear hKK KK
        try simp only [Act.put, List.setIfInBounds_toArray, List.set_cons_zero, List.set_cons_succ]
        clear E16
        generalize w11.alloc (.cells #[.int .i64 l.ats[k]] 3) = w12 at *
        refine uReady (rs := [8]) (by kernel_rfl) (by simp) ?_
        refine ReadyU.cons rfl (fun KK hKK => ?_) ReadyU.nil
        refine op_app1 (c := 1) tiI (some 79) rfl rfl (.tmp 72) (.tmp 78) rfl E17.out (A := ((w11.heap.size, 3, [.int .i64 l.ats[k]]) :: (w7.heap.size, 24, [.int .i64 l.L[k].fr, .int .i64 l.L[k].to_, .int .i64 l.L[k].kd, .int .i64 l.L[k].nm, .slice nba l.L[k].body.length nbk]) :: (gO, 64, [.int .i64 l.nw, .slice (some ⟨yg, 0, none⟩) (k + 1) yp, .slice aa (k) ak, .slice fta l.ft.length ftk]) :: (w.heap.size + 1 + 1 + 1, 72, [.int .i64 (c : Int), .int .i64 d]) :: (w.heap.size + 1 + 1, 64, [.int .i64 0, .slice none 0 0, .slice none 0 0, .slice none 0 0]) :: (w.heap.size + 1, 24, [.int .i64 M.fr, .int .i64 M.to_, .int .i64 M.kd, .int .i64 M.nm, .slice ma M.body.length mk]) :: (w.heap.size, 64, [.int .i64 l.nw, .slice (some ⟨xab, xao, none⟩) l.L.length xj, .slice (some ⟨xbb, xbo, none⟩) l.ats.length xk, .slice xc l.ft.length xm]) :: fts)) (sg := sgA) (B' := [(yg, 24, yc)]) (F := ((w11.heap.size, 3, [.int .i64 l.ats[k]]) :: (w7.heap.size, 24, [.int .i64 l.L[k].fr, .int .i64 l.L[k].to_, .int .i64 l.L[k].kd, .int .i64 l.L[k].nm, .slice nba l.L[k].body.length nbk]) :: (gO, 64, [.int .i64 l.nw, .slice (some ⟨yg, 0, none⟩) (k + 1) yp, .slice aa (k) ak, .slice fta l.ft.length ftk]) :: (w.heap.size + 1 + 1 + 1, 72, [.int .i64 (c : Int), .int .i64 d]) :: (w.heap.size + 1 + 1, 64, [.int .i64 0, .slice none 0 0, .slice none 0 0, .slice none 0 0]) :: (w.heap.size + 1, 24, [.int .i64 M.fr, .int .i64 M.to_, .int .i64 M.kd, .int .i64 M.nm, .slice ma M.body.length mk]) :: (w.heap.size, 64, [.int .i64 l.nw, .slice (some ⟨xab, xao, none⟩) l.L.length xj, .slice (some ⟨xbb, xbo, none⟩) l.ats.length xk, .slice xc l.ft.length xm]) :: (fts ++ (sgA ++ [(yg, 24, yc)])))) (by simp) (hOI.out.os HNA.out) (by simp [Act.eval, Act.put]) (by simp [Act.eval, Act.put]; done) (SrcN.int (E17.out.bx 0 rfl)) (by omega) ?_
        intro zg zp zc w13 zH zT zE
        have zO := Lib.hid (OI.app (g' := zg) hOI.out HNA.out zH.out zT.out)
        have E18 : Hid (Env D w ((w11.heap.size, 3, [.int .i64 l.ats[k]]) :: (w7.heap.size, 24, [.int .i64 l.L[k].fr, .int .i64 l.L[k].to_, .int .i64 l.L[k].kd, .int .i64 l.L[k].nm, .slice nba l.L[k].body.length nbk]) :: (gO, 64, [.int .i64 l.nw, .slice (some ⟨yg, 0, none⟩) (k + 1) yp, .slice aa (k) ak, .slice fta l.ft.length ftk]) :: (w.heap.size + 1 + 1 + 1, 72, [.int .i64 (c : Int), .int .i64 d]) :: (w.heap.size + 1 + 1, 64, [.int .i64 0, .slice none 0 0, .slice none 0 0, .slice none 0 0]) :: (w.heap.size + 1, 24, [.int .i64 M.fr, .int .i64 M.to_, .int .i64 M.kd, .int .i64 M.nm, .slice ma M.body.length mk]) :: (w.heap.size, 64, [.int .i64 l.nw, .slice (some ⟨xab, xao, none⟩) l.L.length xj, .slice (some ⟨xbb, xbo, none⟩) l.ats.length xk, .slice xc l.ft.length xm]) :: (fts ++ ((zg, 3, zc) :: [(yg, 24, yc)]))) [.mc yc (l.L.take k ++ [l.L[k]]), .bs (.slice nba l.L[k].body.length nbk) l.L[k].body, .ce xbb (xbo + k) (.int .i64 l.ats[k]), .ce xab (xao + k * 5) (.int .i64 l.L[k].fr), .ce xab (xao + k * 5 + 1) (.int .i64 l.L[k].to_), .ce xab (xao + k * 5 + 2) (.int .i64 l.L[k].kd), .ce xab (xao + k * 5 + 3) (.int .i64 l.L[k].nm), .ce xab (xao + k * 5 + 4) (.slice ua l.L[k].body.length uk), .bs (.slice ua l.L[k].body.length uk) l.L[k].body, .mc csL (l.L.take k), .bs (.slice ma M.body.length mk) M.body, .rw (.slice xc l.ft.length xm) l.ft.length 2 (fcl l.ft), .rw (.slice (some ⟨xbb, xbo, none⟩) l.ats.length xk) l.ats.length 1 (icl l.ats), .ms (.slice (some ⟨xab, xao, none⟩) l.L.length xj) l.L] w13) := Lib.hid (zE.out.cast (by simp))
        clear E17 zE zH zT hOI
        (try dsimp only)
        clear hHeld
        refine hKK.out _ _ (⟨((E18.out.bx 2 rfl).cell 2 rfl), ((E18.out.bx 6 rfl).cell 2 rfl), (E18.out.fc 2 rfl).2⟩) (fun hHeld => ?_)
        clear hKK KK
        try simp only [Act.put, List.setIfInBounds_toArray, List.set_cons_zero, List.set_cons_succ]
        refine uTake (i := 9) (some 80) (v := ?_) rfl rfl (by kernel_rfl) (by kernel_rfl) (by kernel_rfl) (by kernel_rfl) (fun _ _ _ h => h) (by rfl) (by assumption) ?_ ?_
        rotate_left
        · (intro wS hSw; (try dsimp only at hSw); go_simp; try with_reducible rfl)
        try simp only [Act.put, List.setIfInBounds_toArray, List.set_cons_zero, List.set_cons_succ]
        have b10 := E18.out.bx 2 rfl
        have c10_2 := b10.cell 2 rfl
        have f10_2 := b10.frozen 2
        clear b10
        refine uReady (rs := [10]) (by kernel_rfl) (by simp) ?_
        refine ReadyU.consU (by kernel_rfl) rfl (fun KK hKK => ?_) ReadyU.nil
        go_simp
        have E19 : Hid (Env D w ((w11.heap.size, 3, [.int .i64 l.ats[k]]) :: (w7.heap.size, 24, [.int .i64 l.L[k].fr, .int .i64 l.L[k].to_, .int .i64 l.L[k].kd, .int .i64 l.L[k].nm, .slice nba l.L[k].body.length nbk]) :: (gO, 64, [.int .i64 l.nw, .slice (some ⟨yg, 0, none⟩) (k + 1) yp, .slice (some ⟨zg, 0, none⟩) (k + 1) zp, .slice fta l.ft.length ftk]) :: (w.heap.size + 1 + 1 + 1, 72, [.int .i64 (c : Int), .int .i64 d]) :: (w.heap.size + 1 + 1, 64, [.int .i64 0, .slice none 0 0, .slice none 0 0, .slice none 0 0]) :: (w.heap.size + 1, 24, [.int .i64 M.fr, .int .i64 M.to_, .int .i64 M.kd, .int .i64 M.nm, .slice ma M.body.length mk]) :: (w.heap.size, 64, [.int .i64 l.nw, .slice (some ⟨xab, xao, none⟩) l.L.length xj, .slice (some ⟨xbb, xbo, none⟩) l.ats.length xk, .slice xc l.ft.length xm]) :: (fts ++ ((zg, 3, zc) :: [(yg, 24, yc)]))) [.mc yc (l.L.take k ++ [l.L[k]]), .bs (.slice nba l.L[k].body.length nbk) l.L[k].body, .ce xbb (xbo + k) (.int .i64 l.ats[k]), .ce xab (xao + k * 5) (.int .i64 l.L[k].fr), .ce xab (xao + k * 5 + 1) (.int .i64 l.L[k].to_), .ce xab (xao + k * 5 + 2) (.int .i64 l.L[k].kd), .ce xab (xao + k * 5 + 3) (.int .i64 l.L[k].nm), .ce xab (xao + k * 5 + 4) (.slice ua l.L[k].body.length uk), .bs (.slice ua l.L[k].body.length uk) l.L[k].body, .mc csL (l.L.take k), .bs (.slice ma M.body.length mk) M.body, .rw (.slice xc l.ft.length xm) l.ft.length 2 (fcl l.ft), .rw (.slice (some ⟨xbb, xbo, none⟩) l.ats.length xk) l.ats.length 1 (icl l.ats), .ms (.slice (some ⟨xab, xao, none⟩) l.L.length xj) l.L] _) := Lib.hid ((E18.out.set 2 2 (.slice (some ⟨zg, 0, none⟩) (k + 1) zp) rfl))
        (try dsimp only)
        (try clear hHeld)
        refine hKK.out _ _ ?_
        clear hKK KK
        try simp only [Act.put, List.setIfInBounds_toArray, List.set_cons_zero, List.set_cons_succ]
        refine uDone (by kernel_rfl) ?_ _
        clear c10_2 f10_2 E18
        generalize w13.setCell ⟨gO, 2, none⟩ (.slice (some ⟨zg, 0, none⟩) (k + 1) zp) = w14 at *
        have eL : l.L.take k ++ [l.L[k]] = l.L.take (k + 1) := by rw [List.take_succ_eq_append_getElem hk]
        have eA : l.ats.take k ++ [l.ats[k]] = l.ats.take (k + 1) := by rw [List.take_succ_eq_append_getElem hk2]
        have hZ := ((E19.out.drop).drop)
        have EZ : Hid (Env D w ((gO, 64, [.int .i64 l.nw, .slice (some ⟨yg, 0, none⟩) (k + 1) yp, .slice (some ⟨zg, 0, none⟩) (k + 1) zp, .slice fta l.ft.length ftk]) :: (w.heap.size + 1 + 1 + 1, 72, [.int .i64 (c : Int), .int .i64 d]) :: (w.heap.size + 1 + 1, 64, [.int .i64 0, .slice none 0 0, .slice none 0 0, .slice none 0 0]) :: (w.heap.size + 1, 24, [.int .i64 M.fr, .int .i64 M.to_, .int .i64 M.kd, .int .i64 M.nm, .slice ma M.body.length mk]) :: (w.heap.size, 64, [.int .i64 l.nw, .slice (some ⟨xab, xao, none⟩) l.L.length xj, .slice (some ⟨xbb, xbo, none⟩) l.ats.length xk, .slice xc l.ft.length xm]) :: (fts ++ ((zg, 3, zc) :: [(yg, 24, yc)]))) [.mc yc (l.L.take (k + 1)), .bs (.slice ma M.body.length mk) M.body, .rw (.slice xc l.ft.length xm) l.ft.length 2 (fcl l.ft), .rw (.slice (some ⟨xbb, xbo, none⟩) l.ats.length xk) l.ats.length 1 (icl l.ats), .ms (.slice (some ⟨xab, xao, none⟩) l.L.length xj) l.L] _) := Lib.hid ⟨hZ.bel, hZ.box, ⟨by rw [← eL]; exact hZ.fc 0 rfl, ⟨hZ.fc 10 rfl, ⟨hZ.fc 11 rfl, ⟨hZ.fc 12 rfl, ⟨hZ.fc 13 rfl, trivial⟩⟩⟩⟩⟩⟩
        clear hZ
        rw [eL] at yO
        rw [eA] at zO
        clear eL eA
        go_wp2
        go_roundg (p - (k + 1))
        case rel => exact ⟨k + 1, _, _, _, _, _, _, _, _, rfl, EZ, zO, yO, Lib.hid ⟨by omega, rfl⟩⟩
        case measure => exact by omega
      · have hkp : k = p := hy
        have hor : Hid (k = l.L.length ∨ ∃ h : k < l.ats.length, l.nw + d < l.ats[k]) := Lib.hid (by by_cases h9 : k < l.ats.length; (· exact .inr ⟨h9, hi.out.2.2 k h9 (by omega)⟩); exact .inl (by have := H2.out; omega))
        clear hkp
        go_upto_region 10 with (fail)
        go_cut [59] (fun s59 wx => s59 = .bool false ∧ Hid (Env D w ((gO, 64, [.int .i64 l.nw, .slice la (k) lj, .slice aa (k) ak, .slice fta l.ft.length ftk]) :: (w.heap.size + 1 + 1 + 1, 72, [.int .i64 (c : Int), .int .i64 d]) :: (w.heap.size + 1 + 1, 64, [.int .i64 0, .slice none 0 0, .slice none 0 0, .slice none 0 0]) :: (w.heap.size + 1, 24, [.int .i64 M.fr, .int .i64 M.to_, .int .i64 M.kd, .int .i64 M.nm, .slice ma M.body.length mk]) :: (w.heap.size, 64, [.int .i64 l.nw, .slice xa l.L.length xj, .slice xb l.ats.length xk, .slice xc l.ft.length xm]) :: (fts ++ (sgA ++ sgL))) [.mc csL (l.L.take k), .bs (.slice ma M.body.length mk) M.body, .rw (.slice xc l.ft.length xm) l.ft.length 2 (fcl l.ft), .rw (.slice xb l.ats.length xk) l.ats.length 1 (icl l.ats), .ms (.slice xa l.L.length xj) l.L] wx))
        case first =>
          have HY := Lib.hid hy
          clear hy
          by_cases h9 : k < l.ats.length
          · have hgt : l.nw + d < l.ats[k] := by rcases hor.out with h8 | ⟨_, h8⟩; (· have := H2.out; omega); exact h8
            have d1 : decide (l.ats[k] ≤ l.nw + d) = false := decide_eq_false (by omega)
            have t6 : decide ((k : Int) < (l.L.length : Int)) = true := decide_eq_true (by have := H2.out; omega)
            have t7 : decide (k < l.L.length) = true := decide_eq_true (by have := H2.out; omega)
            obtain ⟨xbb, xbo, rfl⟩ := Rw.addr (EL.out.fc 3 rfl) (by omega)
            have E9 := Lib.hid (EL.out.elI 3 rfl rfl (k) h9)
            clear EL
            have v0 := (E9.out.fc 0 rfl).2
            clear hgt hor
            have b7 := E9.out.bx 4 rfl
            have c7_1 := b7.cell 1 rfl
            clear b7
            have b8 := E9.out.bx 4 rfl
            have c8_2 := b8.cell 2 rfl
            clear b8
            go_wp2_with fail
            go_meet
            exact ⟨rfl, Lib.hid E9.out.forget⟩
          · have t6 : decide ((k : Int) < (l.L.length : Int)) = false := decide_eq_false (by have := H2.out; omega)
            have t7 : decide (k < l.L.length) = false := decide_eq_false (by have := H2.out; omega)
            clear hor
            have b7 := EL.out.bx 4 rfl
            have c7_1 := b7.cell 1 rfl
            clear b7
            have b8 := EL.out.bx 4 rfl
            have c8_2 := b8.cell 2 rfl
            clear b8
            go_wp2_with fail
            go_meet
            exact ⟨rfl, Lib.hid EL.out⟩
        case rest =>
          obtain ⟨rfl, EC⟩ := hcut
          clear EL hor
          subst hy
          go_wp2_with fail
          go_loopg [10] (c) (fun gk s10 wr => ∃ (k2 : Nat) (sgA : List Bx) (csA : List Value) (aa : Option Addr) (ak : Nat) (sgL : List Bx) (csL : List Value) (la : Option Addr) (lj : Nat), s10 = .int .i64 (k2 : Int) ∧ Hid (Env D w ((gO, 64, [.int .i64 l.nw, .slice la (k + k2) lj, .slice aa (k + k2) ak, .slice fta l.ft.length ftk]) :: (w.heap.size + 1 + 1 + 1, 72, [.int .i64 (c : Int), .int .i64 d]) :: (w.heap.size + 1 + 1, 64, [.int .i64 0, .slice none 0 0, .slice none 0 0, .slice none 0 0]) :: (w.heap.size + 1, 24, [.int .i64 M.fr, .int .i64 M.to_, .int .i64 M.kd, .int .i64 M.nm, .slice ma M.body.length mk]) :: (w.heap.size, 64, [.int .i64 l.nw, .slice xa l.L.length xj, .slice xb l.ats.length xk, .slice xc l.ft.length xm]) :: (fts ++ (sgA ++ sgL))) [.mc csL (s2 l.L k k2 M), .bs (.slice ma M.body.length mk) M.body, .rw (.slice xc l.ft.length xm) l.ft.length 2 (fcl l.ft), .rw (.slice xb l.ats.length xk) l.ats.length 1 (icl l.ats), .ms (.slice xa l.L.length xj) l.L] wr) ∧ Hid (OI sgA csA (.slice aa (k + k2) ak) (s2 l.ats k k2 (l.nw + d))) ∧ Hid (LS sgL csL (.slice la (k + k2) lj) (s2 l.L k k2 M)) ∧ Hid (k2 ≤ c ∧ gk = c - k2))
          case atStart => exact ⟨0, sgA, csA, aa, ak, sgL, csL, la, lj, rfl, Lib.hid ⟨EC.out.bel, EC.out.box, ⟨by rw [s2_zero]; exact EC.out.fc 0 rfl, EC.out.fc 1 rfl, ⟨EC.out.fc 2 rfl, ⟨EC.out.fc 3 rfl, ⟨EC.out.fc 4 rfl, trivial⟩⟩⟩⟩⟩, by rw [s2_zero]; exact hOI, by rw [s2_zero]; exact hLS, Lib.hid ⟨Nat.zero_le _, rfl⟩⟩
          case round =>
            clear EC hOI hLS
            obtain ⟨k2, sgA, csA, aa, ak, sgL, csL, la, lj, rfl, EL, hOI, hLS, HA⟩ := hrel
            obtain ⟨a3, a4⟩ := HA.out
            clear HA
            by_cases hy : k2 = c
            rotate_left
            · have hk : k2 < c := by omega
              have t4 : decide ((k2 : Int) < (c : Int)) = true := decide_eq_true (by omega)
              have t5 : decide (k2 < c) = true := decide_eq_true hk
              clear hy
              have HNL : Hid ((s2 l.L k k2 M).length = k + k2) := Lib.hid (s2_len hil k2 M)
              have HNA : Hid ((s2 l.ats k k2 (l.nw + d)).length = k + k2) := Lib.hid (s2_len hia k2 (l.nw + d))
              have b7 := EL.out.bx 1 rfl
              have c7_0 := b7.cell 0 rfl
              clear b7
              have hu8 := Lib.hid (Bs.u8 (EL.out.fc 1 rfl))
              go_wp2_with fail
              have E9 := Lib.hid EL.out.drew
              clear c7_0 EL
              refine wp_regionU (S := fun w' => w'.cell? ⟨gO, 1, none⟩ = some (.slice la (k + k2) lj) ∧ w'.cell? ⟨w.heap.size + 1, 0, none⟩ = some (.int .i64 M.fr) ∧ w'.cell? ⟨w.heap.size + 1, 1, none⟩ = some (.int .i64 M.to_) ∧ w'.cell? ⟨w.heap.size + 1, 2, none⟩ = some (.int .i64 M.kd) ∧ w'.cell? ⟨w.heap.size + 1, 3, none⟩ = some (.int .i64 M.nm) ∧ w'.cell? ⟨w.heap.size + 1, 4, none⟩ = some (.slice ma M.body.length mk)) [7] (by kernel_rfl) (⟨((E9.out.bx 0 rfl).cell 1 rfl), ((E9.out.bx 3 rfl).cell 0 rfl), ((E9.out.bx 3 rfl).cell 1 rfl), ((E9.out.bx 3 rfl).cell 2 rfl), ((E9.out.bx 3 rfl).cell 3 rfl), ((E9.out.bx 3 rfl).cell 4 rfl)⟩) (fun hHeld => ?_)
              generalize wr.drew = w6 at *
              refine uTake (i := 0) (some 89) (v := ?_) rfl rfl (by kernel_rfl) (by kernel_rfl) (by kernel_rfl) (by kernel_rfl) (fun _ _ _ h => h) (by rfl) (by assumption) ?_ ?_
              rotate_left
              · (intro wS hSw; (try dsimp only at hSw); go_simp; try with_reducible rfl)
              try simp only [Act.put, List.setIfInBounds_toArray, List.set_cons_zero, List.set_cons_succ]
              refine uTake (i := 1) (some 90) (v := ?_) rfl rfl (by kernel_rfl) (by kernel_rfl) (by kernel_rfl) (by kernel_rfl) (fun _ _ _ h => h) (by rfl) (by assumption) ?_ ?_
              rotate_left
              · (intro wS hSw; (try dsimp only at hSw); go_simp; try with_reducible rfl)
              try simp only [Act.put, List.setIfInBounds_toArray, List.set_cons_zero, List.set_cons_succ]
              refine uTake (i := 2) (some 91) (v := ?_) rfl rfl (by kernel_rfl) (by kernel_rfl) (by kernel_rfl) (by kernel_rfl) (fun _ _ _ h => h) (by rfl) (by assumption) ?_ ?_
              rotate_left
              · (intro wS hSw; (try dsimp only at hSw); go_simp; try with_reducible rfl)
              try simp only [Act.put, List.setIfInBounds_toArray, List.set_cons_zero, List.set_cons_succ]
              refine uReady (rs := [3]) (by kernel_rfl) (by simp) ?_
              refine ReadyU.cons rfl (fun KK hKK => ?_) ReadyU.nil
              go_simp
              refine (rCopy_c M (E9.out.fc 1 rfl) hmb.out hu8.out).mono ?_
              rintro e w7 ⟨⟨nba, nbk, rfl, hnb⟩, hb⟩
              have E10 := Lib.hid (E9.out.got (E9.out.below hb) (.bs (.slice nba M.body.length nbk) M.body) hnb.out)
              clear E9 hb hnb
              (try dsimp only)
              clear hHeld
              refine hKK.out _ _ (⟨((E10.out.bx 0 rfl).cell 1 rfl), ((E10.out.bx 3 rfl).cell 0 rfl), ((E10.out.bx 3 rfl).cell 1 rfl), ((E10.out.bx 3 rfl).cell 2 rfl), ((E10.out.bx 3 rfl).cell 3 rfl), ((E10.out.bx 3 rfl).cell 4 rfl)⟩) (fun hHeld => ?_)
              clear hKK KK
              try simp only [Act.put, List.setIfInBounds_toArray, List.set_cons_zero, List.set_cons_succ]
              refine uReady (rs := [4]) (by kernel_rfl) (by simp) ?_
              refine ReadyU.cons rfl (fun KK hKK => ?_) ReadyU.nil
              go_simp
              have E11 := Lib.hid ((E10.out.push 24 [.int .i64 M.fr, .int .i64 M.to_, .int .i64 M.kd, .int .i64 M.nm, .slice nba M.body.length nbk] (w7.heap.size) (by simp)))
              (try dsimp only)
              clear hHeld
              refine hKK.out _ _ (⟨((E11.out.bx 1 rfl).cell 1 rfl), ((E11.out.bx 4 rfl).cell 0 rfl), ((E11.out.bx 4 rfl).cell 1 rfl), ((E11.out.bx 4 rfl).cell 2 rfl), ((E11.out.bx 4 rfl).cell 3 rfl), ((E11.out.bx 4 rfl).cell 4 rfl)⟩) (fun hHeld => ?_)
              clear hKK KK
              try simp only [Act.put, List.setIfInBounds_toArray, List.set_cons_zero, List.set_cons_succ]
              clear E10
              generalize w7.alloc (.cells #[.int .i64 M.fr, .int .i64 M.to_, .int .i64 M.kd, .int .i64 M.nm, .slice nba M.body.length nbk] 24) = w8 at *
              refine uReady (rs := [5]) (by kernel_rfl) (by simp) ?_
              refine ReadyU.cons rfl (fun KK hKK => ?_) ReadyU.nil
              refine op_app1 (c := 1) tiM (some 94) rfl rfl (.tmp 90) (.tmp 93) rfl E11.out (A := ((w7.heap.size, 24, [.int .i64 M.fr, .int .i64 M.to_, .int .i64 M.kd, .int .i64 M.nm, .slice nba M.body.length nbk]) :: (gO, 64, [.int .i64 l.nw, .slice la (k + k2) lj, .slice aa (k + k2) ak, .slice fta l.ft.length ftk]) :: (w.heap.size + 1 + 1 + 1, 72, [.int .i64 (c : Int), .int .i64 d]) :: (w.heap.size + 1 + 1, 64, [.int .i64 0, .slice none 0 0, .slice none 0 0, .slice none 0 0]) :: (w.heap.size + 1, 24, [.int .i64 M.fr, .int .i64 M.to_, .int .i64 M.kd, .int .i64 M.nm, .slice ma M.body.length mk]) :: (w.heap.size, 64, [.int .i64 l.nw, .slice xa l.L.length xj, .slice xb l.ats.length xk, .slice xc l.ft.length xm]) :: (fts ++ sgA))) (sg := sgL) (B' := []) (F := ((w7.heap.size, 24, [.int .i64 M.fr, .int .i64 M.to_, .int .i64 M.kd, .int .i64 M.nm, .slice nba M.body.length nbk]) :: (gO, 64, [.int .i64 l.nw, .slice la (k + k2) lj, .slice aa (k + k2) ak, .slice fta l.ft.length ftk]) :: (w.heap.size + 1 + 1 + 1, 72, [.int .i64 (c : Int), .int .i64 d]) :: (w.heap.size + 1 + 1, 64, [.int .i64 0, .slice none 0 0, .slice none 0 0, .slice none 0 0]) :: (w.heap.size + 1, 24, [.int .i64 M.fr, .int .i64 M.to_, .int .i64 M.kd, .int .i64 M.nm, .slice ma M.body.length mk]) :: (w.heap.size, 64, [.int .i64 l.nw, .slice xa l.L.length xj, .slice xb l.ats.length xk, .slice xc l.ft.length xm]) :: (fts ++ (sgA ++ sgL)))) (by simp) (hLS.out.os HNL.out) (by simp [Act.eval, Act.put]) (by simp [Act.eval, Act.put]; done) (SrcN.msg M (E11.out.bx 0 rfl)) (by omega) ?_
              intro yg yp yc w9 yH yT yE
              obtain ⟨yO0, yM⟩ := LS.app (g' := yg) hLS.out HNL.out yH.out yT.out (yE.out.fc 1 rfl) (yE.out.fc 0 rfl)
              have yO := Lib.hid yO0
              have E12 : Hid (Env D w ((w7.heap.size, 24, [.int .i64 M.fr, .int .i64 M.to_, .int .i64 M.kd, .int .i64 M.nm, .slice nba M.body.length nbk]) :: (gO, 64, [.int .i64 l.nw, .slice la (k + k2) lj, .slice aa (k + k2) ak, .slice fta l.ft.length ftk]) :: (w.heap.size + 1 + 1 + 1, 72, [.int .i64 (c : Int), .int .i64 d]) :: (w.heap.size + 1 + 1, 64, [.int .i64 0, .slice none 0 0, .slice none 0 0, .slice none 0 0]) :: (w.heap.size + 1, 24, [.int .i64 M.fr, .int .i64 M.to_, .int .i64 M.kd, .int .i64 M.nm, .slice ma M.body.length mk]) :: (w.heap.size, 64, [.int .i64 l.nw, .slice xa l.L.length xj, .slice xb l.ats.length xk, .slice xc l.ft.length xm]) :: (fts ++ (sgA ++ [(yg, 24, yc)]))) [.mc yc (s2 l.L k k2 M ++ [M]), .bs (.slice nba M.body.length nbk) M.body, .mc csL (s2 l.L k k2 M), .bs (.slice ma M.body.length mk) M.body, .rw (.slice xc l.ft.length xm) l.ft.length 2 (fcl l.ft), .rw (.slice xb l.ats.length xk) l.ats.length 1 (icl l.ats), .ms (.slice xa l.L.length xj) l.L] w9) := Lib.hid ((yE.out.note _ yM).cast (by simp))
              clear E11 yE yM yO0 yH yT hLS
              (try dsimp only)
              clear hHeld
              refine hKK.out _ _ (⟨((E12.out.bx 1 rfl).cell 1 rfl), ((E12.out.bx 4 rfl).cell 0 rfl), ((E12.out.bx 4 rfl).cell 1 rfl), ((E12.out.bx 4 rfl).cell 2 rfl), ((E12.out.bx 4 rfl).cell 3 rfl), ((E12.out.bx 4 rfl).cell 4 rfl)⟩) (fun hHeld => ?_)
              clear hKK KK
              try simp only [Act.put, List.setIfInBounds_toArray, List.set_cons_zero, List.set_cons_succ]
              refine uTake (i := 6) (some 95) (v := ?_) rfl rfl (by kernel_rfl) (by kernel_rfl) (by kernel_rfl) (by kernel_rfl) (fun _ _ _ h => h) (by rfl) (by assumption) ?_ ?_
              rotate_left
              · (intro wS hSw; (try dsimp only at hSw); go_simp; try with_reducible rfl)
              try simp only [Act.put, List.setIfInBounds_toArray, List.set_cons_zero, List.set_cons_succ]
              have b8 := E12.out.bx 1 rfl
              have c8_1 := b8.cell 1 rfl
              have f8_1 := b8.frozen 1
              clear b8
              refine uReady (rs := [7]) (by kernel_rfl) (by simp) ?_
              refine ReadyU.consU (by kernel_rfl) rfl (fun KK hKK => ?_) ReadyU.nil
              go_simp
              have E13 : Hid (Env D w ((w7.heap.size, 24, [.int .i64 M.fr, .int .i64 M.to_, .int .i64 M.kd, .int .i64 M.nm, .slice nba M.body.length nbk]) :: (gO, 64, [.int .i64 l.nw, .slice (some ⟨yg, 0, none⟩) (k + k2 + 1) yp, .slice aa (k + k2) ak, .slice fta l.ft.length ftk]) :: (w.heap.size + 1 + 1 + 1, 72, [.int .i64 (c : Int), .int .i64 d]) :: (w.heap.size + 1 + 1, 64, [.int .i64 0, .slice none 0 0, .slice none 0 0, .slice none 0 0]) :: (w.heap.size + 1, 24, [.int .i64 M.fr, .int .i64 M.to_, .int .i64 M.kd, .int .i64 M.nm, .slice ma M.body.length mk]) :: (w.heap.size, 64, [.int .i64 l.nw, .slice xa l.L.length xj, .slice xb l.ats.length xk, .slice xc l.ft.length xm]) :: (fts ++ (sgA ++ [(yg, 24, yc)]))) [.mc yc (s2 l.L k k2 M ++ [M]), .bs (.slice nba M.body.length nbk) M.body, .mc csL (s2 l.L k k2 M), .bs (.slice ma M.body.length mk) M.body, .rw (.slice xc l.ft.length xm) l.ft.length 2 (fcl l.ft), .rw (.slice xb l.ats.length xk) l.ats.length 1 (icl l.ats), .ms (.slice xa l.L.length xj) l.L] _) := Lib.hid ((E12.out.set 1 1 (.slice (some ⟨yg, 0, none⟩) (k + k2 + 1) yp) rfl))
              (try dsimp only)
              (try clear hHeld)
              refine hKK.out _ _ ?_
              clear hKK KK
              try simp only [Act.put, List.setIfInBounds_toArray, List.set_cons_zero, List.set_cons_succ]
              refine uDone (by kernel_rfl) ?_ _
              have b9 := E13.out.bx 1 rfl
              have c9_2 := b9.cell 2 rfl
              clear b9
              have E14 := Lib.hid ((E13.out.push 3 [.int .i64 (l.nw + d)] (w9.heap.size) (by simp)))
              go_wp2_with (at_builtin; refine wpl_app1 (c := 1) tiI rfl _ _ rfl E14.out (A := ((w9.heap.size, 3, [.int .i64 (l.nw + d)]) :: (w7.heap.size, 24, [.int .i64 M.fr, .int .i64 M.to_, .int .i64 M.kd, .int .i64 M.nm, .slice nba M.body.length nbk]) :: (gO, 64, [.int .i64 l.nw, .slice (some ⟨yg, 0, none⟩) (k + k2 + 1) yp, .slice aa (k + k2) ak, .slice fta l.ft.length ftk]) :: (w.heap.size + 1 + 1 + 1, 72, [.int .i64 (c : Int), .int .i64 d]) :: (w.heap.size + 1 + 1, 64, [.int .i64 0, .slice none 0 0, .slice none 0 0, .slice none 0 0]) :: (w.heap.size + 1, 24, [.int .i64 M.fr, .int .i64 M.to_, .int .i64 M.kd, .int .i64 M.nm, .slice ma M.body.length mk]) :: (w.heap.size, 64, [.int .i64 l.nw, .slice xa l.L.length xj, .slice xb l.ats.length xk, .slice xc l.ft.length xm]) :: fts)) (sg := sgA) (B' := [(yg, 24, yc)]) (F := ((w9.heap.size, 3, [.int .i64 (l.nw + d)]) :: (w7.heap.size, 24, [.int .i64 M.fr, .int .i64 M.to_, .int .i64 M.kd, .int .i64 M.nm, .slice nba M.body.length nbk]) :: (gO, 64, [.int .i64 l.nw, .slice (some ⟨yg, 0, none⟩) (k + k2 + 1) yp, .slice aa (k + k2) ak, .slice fta l.ft.length ftk]) :: (w.heap.size + 1 + 1 + 1, 72, [.int .i64 (c : Int), .int .i64 d]) :: (w.heap.size + 1 + 1, 64, [.int .i64 0, .slice none 0 0, .slice none 0 0, .slice none 0 0]) :: (w.heap.size + 1, 24, [.int .i64 M.fr, .int .i64 M.to_, .int .i64 M.kd, .int .i64 M.nm, .slice ma M.body.length mk]) :: (w.heap.size, 64, [.int .i64 l.nw, .slice xa l.L.length xj, .slice xb l.ats.length xk, .slice xc l.ft.length xm]) :: (fts ++ (sgA ++ [(yg, 24, yc)])))) (by simp) (hOI.out.os HNA.out) rfl rfl (SrcN.int (E14.out.bx 0 rfl)) (by omega) ?_)
              intro zg zp zc w10 zH zT zE
              have zO := Lib.hid (OI.app (x := (l.nw + d)) (g' := zg) (cs' := zc) (cap' := zp) hOI.out HNA.out (by simpa using zH.out) (by simpa using zT.out))
              have E15 : Hid (Env D w ((w9.heap.size, 3, [.int .i64 (l.nw + d)]) :: (w7.heap.size, 24, [.int .i64 M.fr, .int .i64 M.to_, .int .i64 M.kd, .int .i64 M.nm, .slice nba M.body.length nbk]) :: (gO, 64, [.int .i64 l.nw, .slice (some ⟨yg, 0, none⟩) (k + k2 + 1) yp, .slice aa (k + k2) ak, .slice fta l.ft.length ftk]) :: (w.heap.size + 1 + 1 + 1, 72, [.int .i64 (c : Int), .int .i64 d]) :: (w.heap.size + 1 + 1, 64, [.int .i64 0, .slice none 0 0, .slice none 0 0, .slice none 0 0]) :: (w.heap.size + 1, 24, [.int .i64 M.fr, .int .i64 M.to_, .int .i64 M.kd, .int .i64 M.nm, .slice ma M.body.length mk]) :: (w.heap.size, 64, [.int .i64 l.nw, .slice xa l.L.length xj, .slice xb l.ats.length xk, .slice xc l.ft.length xm]) :: (fts ++ ((zg, 3, zc) :: [(yg, 24, yc)]))) [.mc yc (s2 l.L k k2 M ++ [M]), .bs (.slice nba M.body.length nbk) M.body, .mc csL (s2 l.L k k2 M), .bs (.slice ma M.body.length mk) M.body, .rw (.slice xc l.ft.length xm) l.ft.length 2 (fcl l.ft), .rw (.slice xb l.ats.length xk) l.ats.length 1 (icl l.ats), .ms (.slice xa l.L.length xj) l.L] w10) := Lib.hid (zE.out.cast (by simp))
              clear c8_1 f8_1 c9_2 E12 E13 E14 zE zH zT hOI
              have b10 := E15.out.bx 2 rfl
              have c10_2 := b10.cell 2 rfl
              have f10_2 := b10.frozen 2
              clear b10
              have E16 : Hid (Env D w ((w9.heap.size, 3, [.int .i64 (l.nw + d)]) :: (w7.heap.size, 24, [.int .i64 M.fr, .int .i64 M.to_, .int .i64 M.kd, .int .i64 M.nm, .slice nba M.body.length nbk]) :: (gO, 64, [.int .i64 l.nw, .slice (some ⟨yg, 0, none⟩) (k + k2 + 1) yp, .slice (some ⟨zg, 0, none⟩) (k + k2 + 1) zp, .slice fta l.ft.length ftk]) :: (w.heap.size + 1 + 1 + 1, 72, [.int .i64 (c : Int), .int .i64 d]) :: (w.heap.size + 1 + 1, 64, [.int .i64 0, .slice none 0 0, .slice none 0 0, .slice none 0 0]) :: (w.heap.size + 1, 24, [.int .i64 M.fr, .int .i64 M.to_, .int .i64 M.kd, .int .i64 M.nm, .slice ma M.body.length mk]) :: (w.heap.size, 64, [.int .i64 l.nw, .slice xa l.L.length xj, .slice xb l.ats.length xk, .slice xc l.ft.length xm]) :: (fts ++ ((zg, 3, zc) :: [(yg, 24, yc)]))) [.mc yc (s2 l.L k k2 M ++ [M]), .bs (.slice nba M.body.length nbk) M.body, .mc csL (s2 l.L k k2 M), .bs (.slice ma M.body.length mk) M.body, .rw (.slice xc l.ft.length xm) l.ft.length 2 (fcl l.ft), .rw (.slice xb l.ats.length xk) l.ats.length 1 (icl l.ats), .ms (.slice xa l.L.length xj) l.L] _) := Lib.hid ((E15.out.set 2 2 (.slice (some ⟨zg, 0, none⟩) (k + k2 + 1) zp) rfl))
              have hZ := ((E16.out.drop).drop)
              have EZ : Hid (Env D w ((gO, 64, [.int .i64 l.nw, .slice (some ⟨yg, 0, none⟩) (k + k2 + 1) yp, .slice (some ⟨zg, 0, none⟩) (k + k2 + 1) zp, .slice fta l.ft.length ftk]) :: (w.heap.size + 1 + 1 + 1, 72, [.int .i64 (c : Int), .int .i64 d]) :: (w.heap.size + 1 + 1, 64, [.int .i64 0, .slice none 0 0, .slice none 0 0, .slice none 0 0]) :: (w.heap.size + 1, 24, [.int .i64 M.fr, .int .i64 M.to_, .int .i64 M.kd, .int .i64 M.nm, .slice ma M.body.length mk]) :: (w.heap.size, 64, [.int .i64 l.nw, .slice xa l.L.length xj, .slice xb l.ats.length xk, .slice xc l.ft.length xm]) :: (fts ++ ((zg, 3, zc) :: [(yg, 24, yc)]))) [.mc yc (s2 l.L k (k2 + 1) M), .bs (.slice ma M.body.length mk) M.body, .rw (.slice xc l.ft.length xm) l.ft.length 2 (fcl l.ft), .rw (.slice xb l.ats.length xk) l.ats.length 1 (icl l.ats), .ms (.slice xa l.L.length xj) l.L] _) := Lib.hid ⟨hZ.bel, hZ.box, ⟨by rw [← s2_app]; exact hZ.fc 0 rfl, ⟨hZ.fc 3 rfl, ⟨hZ.fc 4 rfl, ⟨hZ.fc 5 rfl, ⟨hZ.fc 6 rfl, trivial⟩⟩⟩⟩⟩⟩
              clear hZ
              rw [s2_app] at yO zO
              go_wp2
              go_roundg (c - (k2 + 1))
              case rel => exact ⟨k2 + 1, _, _, _, _, _, _, _, _, rfl, EZ, zO, yO, Lib.hid ⟨by omega, rfl⟩⟩
              case measure => exact by omega
            have t4 : decide ((k2 : Int) < (c : Int)) = false := decide_eq_false (by omega)
            have t5 : decide (k2 < c) = false := decide_eq_false (by omega)
            have HY := Lib.hid hy
            clear hy
            have b7 := EL.out.bx 1 rfl
            have c7_0 := b7.cell 0 rfl
            clear b7
            go_wp2_with fail
            have hy := HY.out
            subst hy
            clear HY
            go_loopg [9] (l.L.length - k) (fun gk s9 wr => ∃ (q j : Nat) (sgA : List Bx) (csA : List Value) (aa : Option Addr) (ak : Nat) (sgL : List Bx) (csL : List Value) (la : Option Addr) (lj : Nat), s9 = .int .i64 (q : Int) ∧ Hid (Env D w ((gO, 64, [.int .i64 l.nw, .slice la (k + k2 + j) lj, .slice aa (k + k2 + j) ak, .slice fta l.ft.length ftk]) :: (w.heap.size + 1 + 1 + 1, 72, [.int .i64 (k2 : Int), .int .i64 d]) :: (w.heap.size + 1 + 1, 64, [.int .i64 0, .slice none 0 0, .slice none 0 0, .slice none 0 0]) :: (w.heap.size + 1, 24, [.int .i64 M.fr, .int .i64 M.to_, .int .i64 M.kd, .int .i64 M.nm, .slice ma M.body.length mk]) :: (w.heap.size, 64, [.int .i64 l.nw, .slice xa l.L.length xj, .slice xb l.ats.length xk, .slice xc l.ft.length xm]) :: (fts ++ (sgA ++ sgL))) [.mc csL (s3 l.L k k2 M j), .bs (.slice ma M.body.length mk) M.body, .rw (.slice xc l.ft.length xm) l.ft.length 2 (fcl l.ft), .rw (.slice xb l.ats.length xk) l.ats.length 1 (icl l.ats), .ms (.slice xa l.L.length xj) l.L] wr) ∧ Hid (OI sgA csA (.slice aa (k + k2 + j) ak) (s3 l.ats k k2 (l.nw + d) j)) ∧ Hid (LS sgL csL (.slice la (k + k2 + j) lj) (s3 l.L k k2 M j)) ∧ Hid ((q ≤ l.L.length ∧ gk = l.L.length - q) ∧ q = k + j))
            case atStart => exact ⟨k, 0, sgA, csA, aa, ak, sgL, csL, la, lj, rfl, Lib.hid ⟨EL.out.bel, EL.out.box, ⟨by rw [s3_zero]; exact EL.out.fc 0 rfl, EL.out.fc 1 rfl, ⟨EL.out.fc 2 rfl, ⟨EL.out.fc 3 rfl, ⟨EL.out.fc 4 rfl, trivial⟩⟩⟩⟩⟩, by rw [s3_zero]; exact hOI, by rw [s3_zero]; exact hLS, Lib.hid ⟨⟨hil, rfl⟩, rfl⟩⟩
            case round =>
              clear c7_0 EL hOI hLS
              obtain ⟨q, j, sgA, csA, aa, ak, sgL, csL, la, lj, rfl, EL, hOI, hLS, HA⟩ := hrel
              obtain ⟨⟨a5, a6⟩, a7⟩ := HA.out
              have HQJ := Lib.hid a7
              clear HA a7
              by_cases hy : q = l.L.length
              rotate_left
              · have hk : q < l.L.length := by omega
                have hk2 : q < l.ats.length := by have := H2.out; omega
                have t6 : decide ((q : Int) < (l.L.length : Int)) = true := decide_eq_true (by omega)
                have t7 : decide (q < l.L.length) = true := decide_eq_true hk
                clear hy
                obtain ⟨xab, xao, rfl⟩ := Ms.addr (EL.out.fc 4 rfl) hk
                obtain ⟨ua, uk, E90⟩ := EL.out.els 4 rfl (q) hk
                have E9 : Hid (Env D w ((gO, 64, [.int .i64 l.nw, .slice la (k + k2 + j) lj, .slice aa (k + k2 + j) ak, .slice fta l.ft.length ftk]) :: (w.heap.size + 1 + 1 + 1, 72, [.int .i64 (k2 : Int), .int .i64 d]) :: (w.heap.size + 1 + 1, 64, [.int .i64 0, .slice none 0 0, .slice none 0 0, .slice none 0 0]) :: (w.heap.size + 1, 24, [.int .i64 M.fr, .int .i64 M.to_, .int .i64 M.kd, .int .i64 M.nm, .slice ma M.body.length mk]) :: (w.heap.size, 64, [.int .i64 l.nw, .slice (some ⟨xab, xao, none⟩) l.L.length xj, .slice xb l.ats.length xk, .slice xc l.ft.length xm]) :: (fts ++ (sgA ++ sgL))) [.ce xab (xao + q * 5) (.int .i64 l.L[q].fr), .ce xab (xao + q * 5 + 1) (.int .i64 l.L[q].to_), .ce xab (xao + q * 5 + 2) (.int .i64 l.L[q].kd), .ce xab (xao + q * 5 + 3) (.int .i64 l.L[q].nm), .ce xab (xao + q * 5 + 4) (.slice ua l.L[q].body.length uk), .bs (.slice ua l.L[q].body.length uk) l.L[q].body, .mc csL (s3 l.L k k2 M j), .bs (.slice ma M.body.length mk) M.body, .rw (.slice xc l.ft.length xm) l.ft.length 2 (fcl l.ft), .rw (.slice xb l.ats.length xk) l.ats.length 1 (icl l.ats), .ms (.slice (some ⟨xab, xao, none⟩) l.L.length xj) l.L] _) := Lib.hid E90
                clear E90 EL
                have u0 := (E9.out.fc 0 rfl).2
                have u1 := (E9.out.fc 1 rfl).2
                have u2 := (E9.out.fc 2 rfl).2
                have u3 := (E9.out.fc 3 rfl).2
                have u4 := (E9.out.fc 4 rfl).2
                obtain ⟨xbb, xbo, rfl⟩ := Rw.addr (E9.out.fc 9 rfl) (by omega)
                have E10 := Lib.hid (E9.out.elI 9 rfl rfl (q) hk2)
                clear E9
                have v0 := (E10.out.fc 0 rfl).2
                have HNL : Hid ((s3 l.L k k2 M j).length = k + k2 + j) := Lib.hid (s3_len k2 M (by have := HQJ.out; omega))
                have HNA : Hid ((s3 l.ats k k2 (l.nw + d) j).length = k + k2 + j) := Lib.hid (s3_len k2 (l.nw + d) (by have := HQJ.out; omega))
                have hjj : j ≤ 1000 := by have := HQJ.out; omega
                have b8 := E10.out.bx 4 rfl
                have c8_1 := b8.cell 1 rfl
                clear b8
                have hu8 := Lib.hid (Bs.u8 (E10.out.fc 6 rfl))
                go_wp2_with fail
                have E11 := Lib.hid E10.out.drew
                clear u0 u1 u2 u3 u4 v0 c8_1 E10
                refine wp_regionU (S := fun w' => w'.cell? ⟨gO, 1, none⟩ = some (.slice la (k + k2 + j) lj) ∧ w'.cell? ⟨w.heap.size, 1, none⟩ = some (.slice (some ⟨xab, xao, none⟩) l.L.length xj) ∧ w'.cell? ⟨xab, xao + q * 5, none⟩ = some (.int .i64 l.L[q].fr) ∧ w'.cell? ⟨xab, xao + q * 5 + 1, none⟩ = some (.int .i64 l.L[q].to_) ∧ w'.cell? ⟨xab, xao + q * 5 + 2, none⟩ = some (.int .i64 l.L[q].kd) ∧ w'.cell? ⟨xab, xao + q * 5 + 3, none⟩ = some (.int .i64 l.L[q].nm) ∧ w'.cell? ⟨xab, xao + q * 5 + 4, none⟩ = some (.slice ua l.L[q].body.length uk)) [11] (by kernel_rfl) (⟨((E11.out.bx 0 rfl).cell 1 rfl), ((E11.out.bx 4 rfl).cell 1 rfl), (E11.out.fc 1 rfl).2, (E11.out.fc 2 rfl).2, (E11.out.fc 3 rfl).2, (E11.out.fc 4 rfl).2, (E11.out.fc 5 rfl).2⟩) (fun hHeld => ?_)
                generalize wr.drew = w6 at *
                refine uTake (i := 0) (some 107) (v := ?_) rfl rfl (by kernel_rfl) (by kernel_rfl) (by kernel_rfl) (by kernel_rfl) (fun _ _ _ h => h) (by rfl) (by assumption) ?_ ?_
                rotate_left
                · (intro wS hSw; (try dsimp only at hSw); go_simp; try with_reducible rfl)
                try simp only [Act.put, List.setIfInBounds_toArray, List.set_cons_zero, List.set_cons_succ]
                refine uTake (i := 1) (some 108) (v := ?_) rfl rfl (by kernel_rfl) (by kernel_rfl) (by kernel_rfl) (by kernel_rfl) (fun _ _ _ h => h) (by rfl) (by assumption) ?_ ?_
                rotate_left
                · (intro wS hSw; (try dsimp only at hSw); go_simp; try with_reducible rfl)
                try simp only [Act.put, List.setIfInBounds_toArray, List.set_cons_zero, List.set_cons_succ]
                refine uTake (i := 2) (some 109) (v := ?_) rfl rfl (by kernel_rfl) (by kernel_rfl) (by kernel_rfl) (by kernel_rfl) (fun _ _ _ h => h) (by rfl) (by assumption) ?_ ?_
                rotate_left
                · (intro wS hSw; (try dsimp only at hSw); go_simp; try with_reducible rfl)
                try simp only [Act.put, List.setIfInBounds_toArray, List.set_cons_zero, List.set_cons_succ]
                refine uTake (i := 3) (some 110) (v := ?_) rfl rfl (by kernel_rfl) (by kernel_rfl) (by kernel_rfl) (by kernel_rfl) (fun _ _ _ h => h) (by rfl) (by assumption) ?_ ?_
                rotate_left
                · (intro wS hSw; (try dsimp only at hSw); go_simp; try with_reducible rfl)
                try simp only [Act.put, List.setIfInBounds_toArray, List.set_cons_zero, List.set_cons_succ]
                refine uTake (i := 4) (some 111) (v := ?_) rfl rfl (by kernel_rfl) (by kernel_rfl) (by kernel_rfl) (by kernel_rfl) (fun _ _ _ h => h) (by rfl) (by assumption) ?_ ?_
                rotate_left
                · (intro wS hSw; (try dsimp only at hSw); go_simp; try with_reducible rfl)
                try simp only [Act.put, List.setIfInBounds_toArray, List.set_cons_zero, List.set_cons_succ]
                refine uTake (i := 5) (some 112) (v := ?_) rfl rfl (by kernel_rfl) (by kernel_rfl) (by kernel_rfl) (by kernel_rfl) (fun _ _ _ h => h) (by rfl) (by assumption) ?_ ?_
                rotate_left
                · (intro wS hSw; (try dsimp only at hSw); go_simp; try with_reducible rfl)
                try simp only [Act.put, List.setIfInBounds_toArray, List.set_cons_zero, List.set_cons_succ]
                refine uTake (i := 6) (some 113) (v := ?_) rfl rfl (by kernel_rfl) (by kernel_rfl) (by kernel_rfl) (by kernel_rfl) (fun _ _ _ h => h) (by rfl) (by assumption) ?_ ?_
                rotate_left
                · (intro wS hSw; (try dsimp only at hSw); go_simp; try with_reducible rfl)
                try simp only [Act.put, List.setIfInBounds_toArray, List.set_cons_zero, List.set_cons_succ]
                refine uReady (rs := [7]) (by kernel_rfl) (by simp) ?_
                refine ReadyU.cons rfl (fun KK hKK => ?_) ReadyU.nil
                go_simp
                refine (rCopy_c l.L[q] (E11.out.fc 6 rfl) (hbig.out.2 q hk) hu8.out).mono ?_
                rintro e w7 ⟨⟨nba, nbk, rfl, hnb⟩, hb⟩
                have E12 := Lib.hid (E11.out.got (E11.out.below hb) (.bs (.slice nba l.L[q].body.length nbk) l.L[q].body) hnb.out)
                clear E11 hb hnb
                (try dsimp only)
                clear hHeld
                refine hKK.out _ _ (⟨((E12.out.bx 0 rfl).cell 1 rfl), ((E12.out.bx 4 rfl).cell 1 rfl), (E12.out.fc 2 rfl).2, (E12.out.fc 3 rfl).2, (E12.out.fc 4 rfl).2, (E12.out.fc 5 rfl).2, (E12.out.fc 6 rfl).2⟩) (fun hHeld => ?_)
                clear hKK KK
                try simp only [Act.put, List.setIfInBounds_toArray, List.set_cons_zero, List.set_cons_succ]
                refine uReady (rs := [8]) (by kernel_rfl) (by simp) ?_
                refine ReadyU.cons rfl (fun KK hKK => ?_) ReadyU.nil
                go_simp
                have E13 := Lib.hid ((E12.out.push 24 [.int .i64 l.L[q].fr, .int .i64 l.L[q].to_, .int .i64 l.L[q].kd, .int .i64 l.L[q].nm, .slice nba l.L[q].body.length nbk] (w7.heap.size) (by simp)))
                (try dsimp only)
                clear hHeld
                refine hKK.out _ _ (⟨((E13.out.bx 1 rfl).cell 1 rfl), ((E13.out.bx 5 rfl).cell 1 rfl), (E13.out.fc 2 rfl).2, (E13.out.fc 3 rfl).2, (E13.out.fc 4 rfl).2, (E13.out.fc 5 rfl).2, (E13.out.fc 6 rfl).2⟩) (fun hHeld => ?_)
                clear hKK KK
                try simp only [Act.put, List.setIfInBounds_toArray, List.set_cons_zero, List.set_cons_succ]
                clear E12
                generalize w7.alloc (.cells #[.int .i64 l.L[q].fr, .int .i64 l.L[q].to_, .int .i64 l.L[q].kd, .int .i64 l.L[q].nm, .slice nba l.L[q].body.length nbk] 24) = w8 at *
                refine uReady (rs := [9]) (by kernel_rfl) (by simp) ?_
                refine ReadyU.cons rfl (fun KK hKK => ?_) ReadyU.nil
                refine op_app1 (c := 1) tiM (some 116) rfl rfl (.tmp 108) (.tmp 115) rfl E13.out (A := ((w7.heap.size, 24, [.int .i64 l.L[q].fr, .int .i64 l.L[q].to_, .int .i64 l.L[q].kd, .int .i64 l.L[q].nm, .slice nba l.L[q].body.length nbk]) :: (gO, 64, [.int .i64 l.nw, .slice la (k + k2 + j) lj, .slice aa (k + k2 + j) ak, .slice fta l.ft.length ftk]) :: (w.heap.size + 1 + 1 + 1, 72, [.int .i64 (k2 : Int), .int .i64 d]) :: (w.heap.size + 1 + 1, 64, [.int .i64 0, .slice none 0 0, .slice none 0 0, .slice none 0 0]) :: (w.heap.size + 1, 24, [.int .i64 M.fr, .int .i64 M.to_, .int .i64 M.kd, .int .i64 M.nm, .slice ma M.body.length mk]) :: (w.heap.size, 64, [.int .i64 l.nw, .slice (some ⟨xab, xao, none⟩) l.L.length xj, .slice (some ⟨xbb, xbo, none⟩) l.ats.length xk, .slice xc l.ft.length xm]) :: (fts ++ sgA))) (sg := sgL) (B' := []) (F := ((w7.heap.size, 24, [.int .i64 l.L[q].fr, .int .i64 l.L[q].to_, .int .i64 l.L[q].kd, .int .i64 l.L[q].nm, .slice nba l.L[q].body.length nbk]) :: (gO, 64, [.int .i64 l.nw, .slice la (k + k2 + j) lj, .slice aa (k + k2 + j) ak, .slice fta l.ft.length ftk]) :: (w.heap.size + 1 + 1 + 1, 72, [.int .i64 (k2 : Int), .int .i64 d]) :: (w.heap.size + 1 + 1, 64, [.int .i64 0, .slice none 0 0, .slice none 0 0, .slice none 0 0]) :: (w.heap.size + 1, 24, [.int .i64 M.fr, .int .i64 M.to_, .int .i64 M.kd, .int .i64 M.nm, .slice ma M.body.length mk]) :: (w.heap.size, 64, [.int .i64 l.nw, .slice (some ⟨xab, xao, none⟩) l.L.length xj, .slice (some ⟨xbb, xbo, none⟩) l.ats.length xk, .slice xc l.ft.length xm]) :: (fts ++ (sgA ++ sgL)))) (by simp) (hLS.out.os HNL.out) (by simp [Act.eval, Act.put]) (by simp [Act.eval, Act.put]; done) (SrcN.msg l.L[q] (E13.out.bx 0 rfl)) (by omega) ?_
                intro yg yp yc w9 yH yT yE
                obtain ⟨yO0, yM⟩ := LS.app (g' := yg) hLS.out HNL.out yH.out yT.out (yE.out.fc 8 rfl) (yE.out.fc 0 rfl)
                have yO := Lib.hid yO0
                have E14 : Hid (Env D w ((w7.heap.size, 24, [.int .i64 l.L[q].fr, .int .i64 l.L[q].to_, .int .i64 l.L[q].kd, .int .i64 l.L[q].nm, .slice nba l.L[q].body.length nbk]) :: (gO, 64, [.int .i64 l.nw, .slice la (k + k2 + j) lj, .slice aa (k + k2 + j) ak, .slice fta l.ft.length ftk]) :: (w.heap.size + 1 + 1 + 1, 72, [.int .i64 (k2 : Int), .int .i64 d]) :: (w.heap.size + 1 + 1, 64, [.int .i64 0, .slice none 0 0, .slice none 0 0, .slice none 0 0]) :: (w.heap.size + 1, 24, [.int .i64 M.fr, .int .i64 M.to_, .int .i64 M.kd, .int .i64 M.nm, .slice ma M.body.length mk]) :: (w.heap.size, 64, [.int .i64 l.nw, .slice (some ⟨xab, xao, none⟩) l.L.length xj, .slice (some ⟨xbb, xbo, none⟩) l.ats.length xk, .slice xc l.ft.length xm]) :: (fts ++ (sgA ++ [(yg, 24, yc)]))) [.mc yc (s3 l.L k k2 M j ++ [l.L[q]]), .bs (.slice nba l.L[q].body.length nbk) l.L[q].body, .ce xbb (xbo + q) (.int .i64 l.ats[q]), .ce xab (xao + q * 5) (.int .i64 l.L[q].fr), .ce xab (xao + q * 5 + 1) (.int .i64 l.L[q].to_), .ce xab (xao + q * 5 + 2) (.int .i64 l.L[q].kd), .ce xab (xao + q * 5 + 3) (.int .i64 l.L[q].nm), .ce xab (xao + q * 5 + 4) (.slice ua l.L[q].body.length uk), .bs (.slice ua l.L[q].body.length uk) l.L[q].body, .mc csL (s3 l.L k k2 M j), .bs (.slice ma M.body.length mk) M.body, .rw (.slice xc l.ft.length xm) l.ft.length 2 (fcl l.ft), .rw (.slice (some ⟨xbb, xbo, none⟩) l.ats.length xk) l.ats.length 1 (icl l.ats), .ms (.slice (some ⟨xab, xao, none⟩) l.L.length xj) l.L] w9) := Lib.hid ((yE.out.note _ yM).cast (by simp))
                clear E13 yE yM yO0 yH yT hLS
                (try dsimp only)
                clear hHeld
                refine hKK.out _ _ (⟨((E14.out.bx 1 rfl).cell 1 rfl), ((E14.out.bx 5 rfl).cell 1 rfl), (E14.out.fc 3 rfl).2, (E14.out.fc 4 rfl).2, (E14.out.fc 5 rfl).2, (E14.out.fc 6 rfl).2, (E14.out.fc 7 rfl).2⟩) (fun hHeld => ?_)
                clear hKK KK
                try simp only [Act.put, List.setIfInBounds_toArray, List.set_cons_zero, List.set_cons_succ]
                refine uTake (i := 10) (some 117) (v := ?_) rfl rfl (by kernel_rfl) (by kernel_rfl) (by kernel_rfl) (by kernel_rfl) (fun _ _ _ h => h) (by rfl) (by assumption) ?_ ?_
                rotate_left
                · (intro wS hSw; (try dsimp only at hSw); go_simp; try with_reducible rfl)
                try simp only [Act.put, List.setIfInBounds_toArray, List.set_cons_zero, List.set_cons_succ]
                have b9 := E14.out.bx 1 rfl
                have c9_1 := b9.cell 1 rfl
                have f9_1 := b9.frozen 1
                clear b9
                refine uReady (rs := [11]) (by kernel_rfl) (by simp) ?_
                refine ReadyU.consU (by kernel_rfl) rfl (fun KK hKK => ?_) ReadyU.nil
                go_simp
                have E15 : Hid (Env D w ((w7.heap.size, 24, [.int .i64 l.L[q].fr, .int .i64 l.L[q].to_, .int .i64 l.L[q].kd, .int .i64 l.L[q].nm, .slice nba l.L[q].body.length nbk]) :: (gO, 64, [.int .i64 l.nw, .slice (some ⟨yg, 0, none⟩) (k + k2 + j + 1) yp, .slice aa (k + k2 + j) ak, .slice fta l.ft.length ftk]) :: (w.heap.size + 1 + 1 + 1, 72, [.int .i64 (k2 : Int), .int .i64 d]) :: (w.heap.size + 1 + 1, 64, [.int .i64 0, .slice none 0 0, .slice none 0 0, .slice none 0 0]) :: (w.heap.size + 1, 24, [.int .i64 M.fr, .int .i64 M.to_, .int .i64 M.kd, .int .i64 M.nm, .slice ma M.body.length mk]) :: (w.heap.size, 64, [.int .i64 l.nw, .slice (some ⟨xab, xao, none⟩) l.L.length xj, .slice (some ⟨xbb, xbo, none⟩) l.ats.length xk, .slice xc l.ft.length xm]) :: (fts ++ (sgA ++ [(yg, 24, yc)]))) [.mc yc (s3 l.L k k2 M j ++ [l.L[q]]), .bs (.slice nba l.L[q].body.length nbk) l.L[q].body, .ce xbb (xbo + q) (.int .i64 l.ats[q]), .ce xab (xao + q * 5) (.int .i64 l.L[q].fr), .ce xab (xao + q * 5 + 1) (.int .i64 l.L[q].to_), .ce xab (xao + q * 5 + 2) (.int .i64 l.L[q].kd), .ce xab (xao + q * 5 + 3) (.int .i64 l.L[q].nm), .ce xab (xao + q * 5 + 4) (.slice ua l.L[q].body.length uk), .bs (.slice ua l.L[q].body.length uk) l.L[q].body, .mc csL (s3 l.L k k2 M j), .bs (.slice ma M.body.length mk) M.body, .rw (.slice xc l.ft.length xm) l.ft.length 2 (fcl l.ft), .rw (.slice (some ⟨xbb, xbo, none⟩) l.ats.length xk) l.ats.length 1 (icl l.ats), .ms (.slice (some ⟨xab, xao, none⟩) l.L.length xj) l.L] _) := Lib.hid ((E14.out.set 1 1 (.slice (some ⟨yg, 0, none⟩) (k + k2 + j + 1) yp) rfl))
                (try dsimp only)
                (try clear hHeld)
                refine hKK.out _ _ ?_
                clear hKK KK
                try simp only [Act.put, List.setIfInBounds_toArray, List.set_cons_zero, List.set_cons_succ]
                refine uDone (by kernel_rfl) ?_ _
                go_wp2_with fail
                clear c9_1 f9_1 E14
                generalize w9.setCell ⟨gO, 1, none⟩ (.slice (some ⟨yg, 0, none⟩) (k + k2 + j + 1) yp) = w10 at *
                have E16 := Lib.hid E15.out.drew
                clear E15
                refine wp_regionU (S := fun w' => w'.cell? ⟨gO, 2, none⟩ = some (.slice aa (k + k2 + j) ak) ∧ w'.cell? ⟨w.heap.size, 2, none⟩ = some (.slice (some ⟨xbb, xbo, none⟩) l.ats.length xk) ∧ w'.cell? ⟨xbb, xbo + q, none⟩ = some (.int .i64 l.ats[q])) [10] (by kernel_rfl) (⟨((E16.out.bx 1 rfl).cell 2 rfl), ((E16.out.bx 5 rfl).cell 2 rfl), (E16.out.fc 2 rfl).2⟩) (fun hHeld => ?_)
                generalize w10.drew = w11 at *
                refine uTake (i := 0) (some 118) (v := ?_) rfl rfl (by kernel_rfl) (by kernel_rfl) (by kernel_rfl) (by kernel_rfl) (fun _ _ _ h => h) (by rfl) (by assumption) ?_ ?_
                rotate_left
                · (intro wS hSw; (try dsimp only at hSw); go_simp; try with_reducible rfl)
                try simp only [Act.put, List.setIfInBounds_toArray, List.set_cons_zero, List.set_cons_succ]
                refine uTake (i := 1) (some 119) (v := ?_) rfl rfl (by kernel_rfl) (by kernel_rfl) (by kernel_rfl) (by kernel_rfl) (fun _ _ _ h => h) (by rfl) (by assumption) ?_ ?_
                rotate_left
                · (intro wS hSw; (try dsimp only at hSw); go_simp; try with_reducible rfl)
                try simp only [Act.put, List.setIfInBounds_toArray, List.set_cons_zero, List.set_cons_succ]
                refine uTake (i := 2) (some 120) (v := ?_) rfl rfl (by kernel_rfl) (by kernel_rfl) (by kernel_rfl) (by kernel_rfl) (fun _ _ _ h => h) (by rfl) (by assumption) ?_ ?_
                rotate_left
                · (intro wS hSw; (try dsimp only at hSw); go_simp; try with_reducible rfl)
                try simp only [Act.put, List.setIfInBounds_toArray, List.set_cons_zero, List.set_cons_succ]
                refine uTake (i := 3) (some 121) (v := ?_) rfl rfl (by kernel_rfl) (by kernel_rfl) (by kernel_rfl) (by kernel_rfl) (fun _ _ _ h => h) (by rfl) (by assumption) ?_ ?_
                rotate_left
                · (intro wS hSw; (try dsimp only at hSw); go_simp; try with_reducible rfl)
                try simp only [Act.put, List.setIfInBounds_toArray, List.set_cons_zero, List.set_cons_succ]
                refine uTake (i := 4) (some 122) (v := ?_) rfl rfl (by kernel_rfl) (by kernel_rfl) (by kernel_rfl) (by kernel_rfl) (fun _ _ _ h => h) (by rfl) (by assumption) ?_ ?_
                rotate_left
                · (intro wS hSw; (try dsimp only at hSw); go_simp; try with_reducible rfl)
                try simp only [Act.put, List.setIfInBounds_toArray, List.set_cons_zero, List.set_cons_succ]
                refine uTake (i := 5) (some 123) (v := ?_) rfl rfl (by kernel_rfl) (by kernel_rfl) (by kernel_rfl) (by kernel_rfl) (fun _ _ _ h => h) (by rfl) (by assumption) ?_ ?_
                rotate_left
                · (intro wS hSw; (try dsimp only at hSw); go_simp; try with_reducible rfl)
                try simp only [Act.put, List.setIfInBounds_toArray, List.set_cons_zero, List.set_cons_succ]
                refine uTake (i := 6) (some 124) (v := ?_) rfl rfl (by kernel_rfl) (by kernel_rfl) (by kernel_rfl) (by kernel_rfl) (fun _ _ _ h => h) (by rfl) (by assumption) ?_ ?_
                rotate_left
                · (intro wS hSw; (try dsimp only at hSw); go_simp; try with_reducible rfl)
                try simp only [Act.put, List.setIfInBounds_toArray, List.set_cons_zero, List.set_cons_succ]
                refine uReady (rs := [7]) (by kernel_rfl) (by simp) ?_
                refine ReadyU.cons rfl (fun KK hKK => ?_) ReadyU.nil
                go_simp
                have E17 := Lib.hid ((E16.out.push 3 [.int .i64 l.ats[q]] (w11.heap.size) (by simp)))
                (try dsimp only)
                clear hHeld
                refine hKK.out _ _ (⟨((E17.out.bx 2 rfl).cell 2 rfl), ((E17.out.bx 6 rfl).cell 2 rfl), (E17.out.fc 2 rfl).2⟩) (fun hHeld => ?_)
                clear hKK KK
                try simp only [Act.put, List.setIfInBounds_toArray, List.set_cons_zero, List.set_cons_succ]
                clear E16
                generalize w11.alloc (.cells #[.int .i64 l.ats[q]] 3) = w12 at *
                refine uReady (rs := [8]) (by kernel_rfl) (by simp) ?_
                refine ReadyU.cons rfl (fun KK hKK => ?_) ReadyU.nil
                refine op_app1 (c := 1) tiI (some 126) rfl rfl (.tmp 119) (.tmp 125) rfl E17.out (A := ((w11.heap.size, 3, [.int .i64 l.ats[q]]) :: (w7.heap.size, 24, [.int .i64 l.L[q].fr, .int .i64 l.L[q].to_, .int .i64 l.L[q].kd, .int .i64 l.L[q].nm, .slice nba l.L[q].body.length nbk]) :: (gO, 64, [.int .i64 l.nw, .slice (some ⟨yg, 0, none⟩) (k + k2 + j + 1) yp, .slice aa (k + k2 + j) ak, .slice fta l.ft.length ftk]) :: (w.heap.size + 1 + 1 + 1, 72, [.int .i64 (k2 : Int), .int .i64 d]) :: (w.heap.size + 1 + 1, 64, [.int .i64 0, .slice none 0 0, .slice none 0 0, .slice none 0 0]) :: (w.heap.size + 1, 24, [.int .i64 M.fr, .int .i64 M.to_, .int .i64 M.kd, .int .i64 M.nm, .slice ma M.body.length mk]) :: (w.heap.size, 64, [.int .i64 l.nw, .slice (some ⟨xab, xao, none⟩) l.L.length xj, .slice (some ⟨xbb, xbo, none⟩) l.ats.length xk, .slice xc l.ft.length xm]) :: fts)) (sg := sgA) (B' := [(yg, 24, yc)]) (F := ((w11.heap.size, 3, [.int .i64 l.ats[q]]) :: (w7.heap.size, 24, [.int .i64 l.L[q].fr, .int .i64 l.L[q].to_, .int .i64 l.L[q].kd, .int .i64 l.L[q].nm, .slice nba l.L[q].body.length nbk]) :: (gO, 64, [.int .i64 l.nw, .slice (some ⟨yg, 0, none⟩) (k + k2 + j + 1) yp, .slice aa (k + k2 + j) ak, .slice fta l.ft.length ftk]) :: (w.heap.size + 1 + 1 + 1, 72, [.int .i64 (k2 : Int), .int .i64 d]) :: (w.heap.size + 1 + 1, 64, [.int .i64 0, .slice none 0 0, .slice none 0 0, .slice none 0 0]) :: (w.heap.size + 1, 24, [.int .i64 M.fr, .int .i64 M.to_, .int .i64 M.kd, .int .i64 M.nm, .slice ma M.body.length mk]) :: (w.heap.size, 64, [.int .i64 l.nw, .slice (some ⟨xab, xao, none⟩) l.L.length xj, .slice (some ⟨xbb, xbo, none⟩) l.ats.length xk, .slice xc l.ft.length xm]) :: (fts ++ (sgA ++ [(yg, 24, yc)])))) (by simp) (hOI.out.os HNA.out) (by simp [Act.eval, Act.put]) (by simp [Act.eval, Act.put]; done) (SrcN.int (E17.out.bx 0 rfl)) (by omega) ?_
                intro zg zp zc w13 zH zT zE
                have zO := Lib.hid (OI.app (g' := zg) hOI.out HNA.out zH.out zT.out)
                have E18 : Hid (Env D w ((w11.heap.size, 3, [.int .i64 l.ats[q]]) :: (w7.heap.size, 24, [.int .i64 l.L[q].fr, .int .i64 l.L[q].to_, .int .i64 l.L[q].kd, .int .i64 l.L[q].nm, .slice nba l.L[q].body.length nbk]) :: (gO, 64, [.int .i64 l.nw, .slice (some ⟨yg, 0, none⟩) (k + k2 + j + 1) yp, .slice aa (k + k2 + j) ak, .slice fta l.ft.length ftk]) :: (w.heap.size + 1 + 1 + 1, 72, [.int .i64 (k2 : Int), .int .i64 d]) :: (w.heap.size + 1 + 1, 64, [.int .i64 0, .slice none 0 0, .slice none 0 0, .slice none 0 0]) :: (w.heap.size + 1, 24, [.int .i64 M.fr, .int .i64 M.to_, .int .i64 M.kd, .int .i64 M.nm, .slice ma M.body.length mk]) :: (w.heap.size, 64, [.int .i64 l.nw, .slice (some ⟨xab, xao, none⟩) l.L.length xj, .slice (some ⟨xbb, xbo, none⟩) l.ats.length xk, .slice xc l.ft.length xm]) :: (fts ++ ((zg, 3, zc) :: [(yg, 24, yc)]))) [.mc yc (s3 l.L k k2 M j ++ [l.L[q]]), .bs (.slice nba l.L[q].body.length nbk) l.L[q].body, .ce xbb (xbo + q) (.int .i64 l.ats[q]), .ce xab (xao + q * 5) (.int .i64 l.L[q].fr), .ce xab (xao + q * 5 + 1) (.int .i64 l.L[q].to_), .ce xab (xao + q * 5 + 2) (.int .i64 l.L[q].kd), .ce xab (xao + q * 5 + 3) (.int .i64 l.L[q].nm), .ce xab (xao + q * 5 + 4) (.slice ua l.L[q].body.length uk), .bs (.slice ua l.L[q].body.length uk) l.L[q].body, .mc csL (s3 l.L k k2 M j), .bs (.slice ma M.body.length mk) M.body, .rw (.slice xc l.ft.length xm) l.ft.length 2 (fcl l.ft), .rw (.slice (some ⟨xbb, xbo, none⟩) l.ats.length xk) l.ats.length 1 (icl l.ats), .ms (.slice (some ⟨xab, xao, none⟩) l.L.length xj) l.L] w13) := Lib.hid (zE.out.cast (by simp))
                clear E17 zE zH zT hOI
                (try dsimp only)
                clear hHeld
                refine hKK.out _ _ (⟨((E18.out.bx 2 rfl).cell 2 rfl), ((E18.out.bx 6 rfl).cell 2 rfl), (E18.out.fc 2 rfl).2⟩) (fun hHeld => ?_)
                clear hKK KK
                try simp only [Act.put, List.setIfInBounds_toArray, List.set_cons_zero, List.set_cons_succ]
                refine uTake (i := 9) (some 127) (v := ?_) rfl rfl (by kernel_rfl) (by kernel_rfl) (by kernel_rfl) (by kernel_rfl) (fun _ _ _ h => h) (by rfl) (by assumption) ?_ ?_
                rotate_left
                · (intro wS hSw; (try dsimp only at hSw); go_simp; try with_reducible rfl)
                try simp only [Act.put, List.setIfInBounds_toArray, List.set_cons_zero, List.set_cons_succ]
                have b10 := E18.out.bx 2 rfl
                have c10_2 := b10.cell 2 rfl
                have f10_2 := b10.frozen 2
                clear b10
                refine uReady (rs := [10]) (by kernel_rfl) (by simp) ?_
                refine ReadyU.consU (by kernel_rfl) rfl (fun KK hKK => ?_) ReadyU.nil
                go_simp
                have E19 : Hid (Env D w ((w11.heap.size, 3, [.int .i64 l.ats[q]]) :: (w7.heap.size, 24, [.int .i64 l.L[q].fr, .int .i64 l.L[q].to_, .int .i64 l.L[q].kd, .int .i64 l.L[q].nm, .slice nba l.L[q].body.length nbk]) :: (gO, 64, [.int .i64 l.nw, .slice (some ⟨yg, 0, none⟩) (k + k2 + j + 1) yp, .slice (some ⟨zg, 0, none⟩) (k + k2 + j + 1) zp, .slice fta l.ft.length ftk]) :: (w.heap.size + 1 + 1 + 1, 72, [.int .i64 (k2 : Int), .int .i64 d]) :: (w.heap.size + 1 + 1, 64, [.int .i64 0, .slice none 0 0, .slice none 0 0, .slice none 0 0]) :: (w.heap.size + 1, 24, [.int .i64 M.fr, .int .i64 M.to_, .int .i64 M.kd, .int .i64 M.nm, .slice ma M.body.length mk]) :: (w.heap.size, 64, [.int .i64 l.nw, .slice (some ⟨xab, xao, none⟩) l.L.length xj, .slice (some ⟨xbb, xbo, none⟩) l.ats.length xk, .slice xc l.ft.length xm]) :: (fts ++ ((zg, 3, zc) :: [(yg, 24, yc)]))) [.mc yc (s3 l.L k k2 M j ++ [l.L[q]]), .bs (.slice nba l.L[q].body.length nbk) l.L[q].body, .ce xbb (xbo + q) (.int .i64 l.ats[q]), .ce xab (xao + q * 5) (.int .i64 l.L[q].fr), .ce xab (xao + q * 5 + 1) (.int .i64 l.L[q].to_), .ce xab (xao + q * 5 + 2) (.int .i64 l.L[q].kd), .ce xab (xao + q * 5 + 3) (.int .i64 l.L[q].nm), .ce xab (xao + q * 5 + 4) (.slice ua l.L[q].body.length uk), .bs (.slice ua l.L[q].body.length uk) l.L[q].body, .mc csL (s3 l.L k k2 M j), .bs (.slice ma M.body.length mk) M.body, .rw (.slice xc l.ft.length xm) l.ft.length 2 (fcl l.ft), .rw (.slice (some ⟨xbb, xbo, none⟩) l.ats.length xk) l.ats.length 1 (icl l.ats), .ms (.slice (some ⟨xab, xao, none⟩) l.L.length xj) l.L] _) := Lib.hid ((E18.out.set 2 2 (.slice (some ⟨zg, 0, none⟩) (k + k2 + j + 1) zp) rfl))
                (try dsimp only)
                (try clear hHeld)
                refine hKK.out _ _ ?_
                clear hKK KK
                try simp only [Act.put, List.setIfInBounds_toArray, List.set_cons_zero, List.set_cons_succ]
                refine uDone (by kernel_rfl) ?_ _
                clear c10_2 f10_2 E18
                generalize w13.setCell ⟨gO, 2, none⟩ (.slice (some ⟨zg, 0, none⟩) (k + k2 + j + 1) zp) = w14 at *
                have hZ := ((E19.out.drop).drop)
                have EZ : Hid (Env D w ((gO, 64, [.int .i64 l.nw, .slice (some ⟨yg, 0, none⟩) (k + k2 + j + 1) yp, .slice (some ⟨zg, 0, none⟩) (k + k2 + j + 1) zp, .slice fta l.ft.length ftk]) :: (w.heap.size + 1 + 1 + 1, 72, [.int .i64 (k2 : Int), .int .i64 d]) :: (w.heap.size + 1 + 1, 64, [.int .i64 0, .slice none 0 0, .slice none 0 0, .slice none 0 0]) :: (w.heap.size + 1, 24, [.int .i64 M.fr, .int .i64 M.to_, .int .i64 M.kd, .int .i64 M.nm, .slice ma M.body.length mk]) :: (w.heap.size, 64, [.int .i64 l.nw, .slice (some ⟨xab, xao, none⟩) l.L.length xj, .slice (some ⟨xbb, xbo, none⟩) l.ats.length xk, .slice xc l.ft.length xm]) :: (fts ++ ((zg, 3, zc) :: [(yg, 24, yc)]))) [.mc yc (s3 l.L k k2 M (j + 1)), .bs (.slice ma M.body.length mk) M.body, .rw (.slice xc l.ft.length xm) l.ft.length 2 (fcl l.ft), .rw (.slice (some ⟨xbb, xbo, none⟩) l.ats.length xk) l.ats.length 1 (icl l.ats), .ms (.slice (some ⟨xab, xao, none⟩) l.L.length xj) l.L] _) := Lib.hid ⟨hZ.bel, hZ.box, ⟨by rw [← s3_app hk HQJ.out]; exact hZ.fc 0 rfl, ⟨hZ.fc 10 rfl, ⟨hZ.fc 11 rfl, ⟨hZ.fc 12 rfl, ⟨hZ.fc 13 rfl, trivial⟩⟩⟩⟩⟩⟩
                clear hZ
                rw [s3_app hk HQJ.out] at yO
                rw [s3_app hk2 HQJ.out] at zO
                go_wp2
                go_roundg (l.L.length - (q + 1))
                case rel => exact ⟨q + 1, j + 1, _, _, _, _, _, _, _, _, rfl, EZ, zO, yO, Lib.hid ⟨⟨by omega, rfl⟩, by have := HQJ.out; omega⟩⟩
                case measure => exact by omega
              have t6 : decide ((q : Int) < (l.L.length : Int)) = false := decide_eq_false (by omega)
              have t7 : decide (q < l.L.length) = false := decide_eq_false (by omega)
              have HY := Lib.hid hy
              clear hy
              have b8 := EL.out.bx 4 rfl
              have c8_1 := b8.cell 1 rfl
              clear b8
              have b9 := EL.out.bx 0 rfl
              have c9_0 := b9.cell 0 rfl
              have c9_1 := b9.cell 1 rfl
              have c9_2 := b9.cell 2 rfl
              have c9_3 := b9.cell 3 rfl
              clear b9
              have b10 := EL.out.bx 2 rfl
              have c10_0 := b10.cell 0 rfl
              have c10_1 := b10.cell 1 rfl
              have c10_2 := b10.cell 2 rfl
              have c10_3 := b10.cell 3 rfl
              have f10_0 := b10.frozen 0
              have f10_1 := b10.frozen 1
              have f10_2 := b10.frozen 2
              have f10_3 := b10.frozen 3
              clear b10
              go_wp2
              have E9 : Hid (Env D w ((gO, 64, [.int .i64 l.nw, .slice la (k + k2 + j) lj, .slice aa (k + k2 + j) ak, .slice fta l.ft.length ftk]) :: (w.heap.size + 1 + 1 + 1, 72, [.int .i64 (k2 : Int), .int .i64 d]) :: (w.heap.size + 1 + 1, 64, [.int .i64 l.nw, .slice la (k + k2 + j) lj, .slice aa (k + k2 + j) ak, .slice fta l.ft.length ftk]) :: (w.heap.size + 1, 24, [.int .i64 M.fr, .int .i64 M.to_, .int .i64 M.kd, .int .i64 M.nm, .slice ma M.body.length mk]) :: (w.heap.size, 64, [.int .i64 l.nw, .slice xa l.L.length xj, .slice xb l.ats.length xk, .slice xc l.ft.length xm]) :: (fts ++ (sgA ++ sgL))) [.mc csL (s3 l.L k k2 M j), .bs (.slice ma M.body.length mk) M.body, .rw (.slice xc l.ft.length xm) l.ft.length 2 (fcl l.ft), .rw (.slice xb l.ats.length xk) l.ats.length 1 (icl l.ats), .ms (.slice xa l.L.length xj) l.L] _) := Lib.hid (((((EL.out.set 2 0 (.int .i64 l.nw) rfl).set 2 1 (.slice la (k + k2 + j) lj) rfl).set 2 2 (.slice aa (k + k2 + j) ak) rfl).set 2 3 (.slice fta l.ft.length ftk) rfl))
              have hfin := E9.out
              have q0 := (hfin.bx 2 rfl).cell 0 rfl
              have q1 := (hfin.bx 2 rfl).cell 1 rfl
              have q2 := (hfin.bx 2 rfl).cell 2 rfl
              have q3 := (hfin.bx 2 rfl).cell 3 rfl
              refine bodyPost_ret (v := .tuple #[.agg #[.int .i64 l.nw, .slice la (k + k2 + j) lj, .slice aa (k + k2 + j) ak, .slice fta l.ft.length ftk], .bool true]) (by simp [results, Try.results47, go_sem, q0, q1, q2, q3]) rfl ?_
              have e0 : l.L.length = k + j := by rw [← HY.out]; exact HQJ.out
              have e0b : l.ats.length = k + j := by rw [← H2.out]; exact e0
              have e1 := s3_end k2 M e0
              have e2 := s3_end k2 (l.nw + d) e0b
              exact ⟨⟨_, rfl, RetL.mk rfl (by show (rep l.L k k2 M).length = _; rw [rep_len hil]; omega) (by show (rep l.ats k k2 (l.nw + d)).length = _; rw [rep_len hia]; omega) (by simp [sendL, H0F.out]) (by have h9 := hLS.out.ms hfin (by intro p hp; simp [hp]) (hfin.fc 0 rfl); rw [e1] at h9; exact h9) (by have h9 := hOI.out.rw hfin (by intro p hp; simp [hp]); rw [e2] at h9; exact h9) (by have e9 : l.ft = [] := List.length_eq_zero_iff.1 H0F.out; have h9 := OS.rw ftO.out hfin (by intro p hp; simp [hp]) ftT.out (fcl_one _); simp only [sendL, e9, List.drop_nil] at h9 ⊢; exact h9)⟩, hfin.bel⟩
end Go.Proofs.Ytbcfcdcomboljaa

/- Lists of uses that a call grows: append, Insert, make; slices of one use. -/
import Derived.Test.YtfnnfmefihiefaaSpK
namespace Go.Proofs.Ytfnnfmefihiefaa
open Go.RowKit
set_option linter.unusedVariables false
set_option linter.unusedSimpArgs false
/-- a list of uses of the call's own -/
def OU (sg : List Bx) (cs : List Value) (v : Value) (X : List Uv) : Prop := OS 44 83 sg cs v X.length ∧ cs.take (X.length * 83) = ucl X
theorem OU.nil : OU [] [] nilV [] := ⟨.inl ⟨rfl, rfl, rfl, rfl⟩, rfl⟩
theorem gUd.nil {w : World} {D : Nat → Prop} : (gUd []).at_ w D := fun x hx => by cases hx
theorem gUd.app {w : World} {D : Nat → Prop} {X : List Uv} {x : Uv} (h : (gUd X).at_ w D) (hx : (gUv x).at_ w D) : (gUd (X ++ [x])).at_ w D := fun y hy => by
  rcases List.mem_append.1 hy with hy | hy
  · exact h y hy
  · obtain rfl : y = x := by simpa using hy
    exact hx
def insU {α : Type} (X : List α) (i : Nat) (x : α) : List α := X.take i ++ x :: X.drop i
theorem insU_length {α : Type} (X : List α) (i : Nat) (x : α) (h : i ≤ X.length) : (insU X i x).length = X.length + 1 := by simp [insU]; omega
theorem insU_map {α β : Type} (f : α → β) (X : List α) (i : Nat) (x : α) : (insU X i x).map f = insU (X.map f) i (f x) := by simp [insU, List.map_take, List.map_drop]
theorem mem_insU {α : Type} {X : List α} {i : Nat} {x y : α} (h : y ∈ insU X i x) : y = x ∨ y ∈ X := by
  unfold insU at h
  rcases List.mem_append.1 h with h | h
  · exact .inr (List.mem_of_mem_take h)
  · rcases List.mem_cons.1 h with h | h
    · exact .inl h
    · exact .inr (List.mem_of_mem_drop h)
theorem gUd.ins {w : World} {D : Nat → Prop} {X : List Uv} {x : Uv} {i : Nat} (h : (gUd X).at_ w D) (hx : (gUv x).at_ w D) : (gUd (insU X i x)).at_ w D := fun y hy => by
  rcases mem_insU hy with rfl | hy
  · exact hx
  · exact h y hy
theorem ucl_take {w : World} {D : Nat → Prop} {X : List Uv} (h : (gUd X).at_ w D) (i : Nat) : ucl (X.take i) = (ucl X).take (i * 83) ∧ ucl (X.drop i) = (ucl X).drop (i * 83) := by
  induction X generalizing i with
  | nil => simp [ucl]
  | cons x X ih =>
    have hx : (uvc x).length = 83 := gUv.len (h x (by simp))
    have hX : (gUd X).at_ w D := fun y hy => h y (by simp [hy])
    cases i with
    | zero => simp [ucl]
    | succ i =>
      obtain ⟨h1, h2⟩ := ih hX i
      have e : ucl (x :: X) = uvc x ++ ucl X := by unfold ucl; simp
      have e2 : ucl (x :: X.take i) = uvc x ++ ucl (X.take i) := by unfold ucl; simp
      have q1 : (uvc x).take ((i + 1) * 83) = uvc x := List.take_of_length_le (by omega)
      have q2 : (uvc x).drop ((i + 1) * 83) = [] := List.drop_eq_nil_of_le (by omega)
      rw [List.take_succ_cons, List.drop_succ_cons, e, e2, h1, h2, List.take_append, List.drop_append, hx, q1, q2, show (i + 1) * 83 - 83 = i * 83 by omega]
      exact ⟨rfl, by simp⟩
theorem ucl_ins {w : World} {D : Nat → Prop} {X : List Uv} (h : (gUd X).at_ w D) (i : Nat) (x : Uv) : ucl (insU X i x) = (ucl X).take (i * 83) ++ uvc x ++ (ucl X).drop (i * 83) := by
  obtain ⟨h1, h2⟩ := ucl_take h i
  unfold insU
  rw [ucl_app, h1, ← h2]
  have e : ucl (x :: X.drop i) = uvc x ++ ucl (X.drop i) := by unfold ucl; simp
  rw [e, List.append_assoc]
section
variable {D0 : Nat → Prop} {w W W' : World} {F A B' sg : List Bx} {G : List Fct} {cs : List Value} {v : Value} {X : List Uv}
theorem OU.os {n : Nat} (h : OU sg cs v X) (en : X.length = n) : OS 44 83 sg cs v n := en ▸ h.1
theorem OU.val {X : List Uv} {g n c : Nat} {x : Uv} (en : X.length = n) : Value.slice (some ⟨g, 0, none⟩) (n + 1) c = .slice (some ⟨g, 0, none⟩) (X ++ [x]).length c := by subst en; simp
/-- one use more -/
theorem OU.app {x : Uv} {cs' : List Value} {g' cap' n : Nat} (hL : OU sg cs v X) (en : X.length = n) (h : n + 1 ≤ cap' ∧ cap' ≤ 9223372036854775807 ∧ cs'.length = cap' * 83) (ht : cs'.take ((n + 1) * 83) = cs.take (n * 83) ++ uvc x) : OU [(g', 44, cs')] cs' (.slice (some ⟨g', 0, none⟩) (n + 1) cap') (X ++ [x]) := by
  subst en
  refine ⟨.inr ⟨g', cap', rfl, by simp, by simpa using h.1, h.2.1, h.2.2⟩, ?_⟩
  rw [List.length_append, List.length_singleton, ht, hL.2, ucl_app, ucl_one1]
/-- such a list, as it is read -/
theorem OU.gul (h : OU sg cs v X) (E : Env D0 w F G W) (hs : ∀ p ∈ sg, p ∈ F) {D : Nat → Prop} (hd : (gUd X).at_ W D) : (gUl v X).at_ W (fun _ => True) :=
  ⟨Rw.turn (OS.rw h.1 E hs h.2 (ucl_one hd)) (Nat.le_refl _) (fun _ _ _ => trivial) (fun _ _ _ _ => rfl), (gUd X).turn hd (Nat.le_refl _) (fun _ _ _ => trivial) (fun _ _ _ _ => rfl)⟩
theorem OU.ret (h : OU sg cs v X) (E : Env D0 w F G W) (hs : ∀ p ∈ sg, p ∈ F) (hd : (gUd X).at_ W (fun b => D0 b ∨ w.heap.size ≤ b)) : (gUl v X).at_ W (fun b => D0 b ∨ w.heap.size ≤ b) :=
  ⟨OS.rw h.1 E hs h.2 (ucl_one hd), hd⟩
theorem OU.len' {g c : Nat} {x : Uv} {sg' : List Bx} (h : Hid (OU sg' cs (.slice (some ⟨g, 0, none⟩) (X.length + 1) c) (X ++ [x]))) : Hid (OU sg' cs (.slice (some ⟨g, 0, none⟩) (X ++ [x]).length c) (X ++ [x])) := by rw [List.length_append]; exact h
/-- one of the facts to the front -/
theorem Env.front {f : Fct} (E : Env D0 w F G W) (i : Nat) (e : G[i]? = some f) : Env D0 w F (f :: G.eraseIdx i) W := by
  refine ⟨E.bel, E.box, E.fct.get i e, ?_⟩
  have : ∀ (G : List Fct) (i : Nat), HeldG (DF D0 w.heap.size F) G W → HeldG (DF D0 w.heap.size F) (G.eraseIdx i) W := by
    intro G
    induction G with
    | nil => intro i h; simpa using h
    | cons f G ih =>
      intro i h
      cases i with
      | zero => exact h.2
      | succ i => exact ⟨h.1, ih i h.2⟩
  exact this G i E.fct
/-- a list of uses of the call's own came back -/
def RetOU (D : Nat → Prop) (B : Nat) (L : List Us) (e : Ending) (W : World) : Prop := ∃ sg cs va vk X, e = .returned (.slice va X.length vk) ∧ X.map Uv.u = L ∧ Hid (OU sg cs (.slice va X.length vk) X) ∧ Hid (HeldF B sg W) ∧ Hid ((gUd X).at_ W (fun b => (D b ∨ B ≤ b) ∧ ∀ p ∈ sg, p.1 ≠ b))
/-- slices.Insert of one use into a list that is nil or the call's own -/
theorem insertU_env {n : Nat} {x : Uv} {D D' : Nat → Prop} {i gv j : Nat} {Tv : TypeId} (E : Env D0 w F G W) (hF : F = A ++ (sg ++ B')) (hL : OU sg cs v X) (hd : (gUd X).at_ W D) (hx : (gUv x).at_ W D') (hV : A[j]? = some (gv, Tv, uvc x)) (en : X.length = n) (hi : i ≤ n) (hn : n ≤ 1000000) :
    Calls Try.prog 41 #[v, .int .i64 (i : Int), .slice (some ⟨gv, 0, none⟩) 1 1] W fun e W' => ∃ g' cap' cs', e = .returned (.slice (some ⟨g', 0, none⟩) (n + 1) cap') ∧ Hid (OU [(g', 44, cs')] cs' (.slice (some ⟨g', 0, none⟩) (n + 1) cap') (insU X i x)) ∧ Hid (Env D0 w (A ++ ((g', 44, cs') :: B')) G W') := by
  subst hF en
  have hone : ∀ u ∈ uvc x, u.oneCell' = true := gUv.one hx
  have hlx : (uvc x).length = 83 := gUv.len hx
  have hVB := seg_box (S := []) E hV
  have hil := insU_length X i x hi
  have hci := ucl_ins hd i x
  have hcl := ucl_len hd
  obtain ⟨hL, htk⟩ := hL
  rcases hL with ⟨rfl, rfl, rfl, h0⟩ | ⟨g, cap, rfl, rfl, h1, h2, h3⟩
  · obtain rfl : X = [] := List.length_eq_zero_iff.1 h0
    obtain rfl : i = 0 := by simpa using hi
    have ho : W.ownsRow W.heap.size 44 83 (.slice none 0 0) 0 [] := ⟨rfl, .inl ⟨rfl, rfl⟩⟩
    refine (insert_endUs (B := W.heap.size) (gv := gv) (n := 0) ho (Nat.le_refl _) (by omega) hlx (fun k u hu => hVB.cell k hu) hone).mono ?_
    rintro e W' ⟨⟨v', rfl, ho'⟩, hg⟩
    have hbw : Below W.heap.size W W' := ⟨hg.os, hg.tape, hg.output, hg.size, fun k hk => hg.block k hk (by simp [Value.ownBlock])⟩
    rcases ho'.2 with ⟨_, h0⟩ | ⟨g', cap', cur, rfl, hgg, hh, k2, k3, k4, k5⟩
    · omega
    have E3 := E.gotBox hbw (g := g') (T := 44) (cs := cur.toList) ⟨hgg, by rw [Array.toArray_toList]; exact hh⟩
    have E4 := E3.perm (F' := A ++ ((g', 44, cur.toList) :: B')) (by rw [List.nil_append]; exact List.perm_middle.symm)
    exact ⟨g', cap', cur.toList, rfl, Lib.hid ⟨.inr ⟨g', cap', rfl, by rw [hil], by rw [hil]; exact k2, by unfold maxLen at k3; omega, by simpa using k4⟩, by rw [hil, hci]; simpa [ucl] using k5⟩, Lib.hid E4⟩
  · have e : (A ++ ([(g, 44, cs)] ++ B'))[A.length]? = some (g, 44, cs) := by simp
    have hX := E.bx A.length e
    refine (insert_mUs hX h3 h2 hi h1 hn hlx hVB.2 (seg_ne E hV) hone (by rw [htk]; exact ucl_one hd)).mono ?_
    rintro e' W' ⟨g', cap', cs', rfl, ⟨q1, q2, q3⟩, hgg, hh, ht, hoff⟩
    have E3 := E.ins A.length e hoff hgg hh
    have e3 : (A ++ ([(g, 44, cs)] ++ B')).set A.length (g', 44, cs') = A ++ ((g', 44, cs') :: B') := by simp
    rw [e3] at E3
    exact ⟨g', cap', cs', rfl, Lib.hid ⟨.inr ⟨g', cap', rfl, by rw [hil], by rw [hil]; exact q1, q2, q3⟩, by rw [hil, ht, hci, insCUs, htk]⟩, Lib.hid E3⟩
/-- make([]api.Use, 0, n) -/
theorem wpl_makeU {ops : Array Oper} {rest : List Oper} {o : Oper} {a : Act} {Q : Exit → Act → World → Prop}
    (hg : o.guard = none) (l c : Operand) (hop : o.op = Op.makeSlice 23 l c) (E : Env D0 w F G W) (n : Nat) (hl : a.eval l = .int .i64 0) (hc : a.eval c = .int .i64 (n : Int)) (hn : n ≤ 1000000)
    (hK : ∀ W' g cs, Hid (OU [(g, 44, cs)] cs (.slice (some ⟨g, 0, none⟩) 0 n) []) → Hid (Env D0 w (F ++ [(g, 44, cs)]) G W') → wpList Try.prog ops Q rest (a.put o.dst (.slice (some ⟨g, 0, none⟩) 0 n)) W') :
    wpList Try.prog ops Q (o :: rest) a W := by
  obtain ⟨i0, hi, hz0, hz1, hz2⟩ := info_parts Try.infoUse
  refine wpList_make_own W hg l c 23 hop W.heap.size 44 i0 _ 83 Try.underlying23 hi hz0 hz1 .i64 .i64 n n hl hc rfl (by rw [hz2]; omega) (by unfold maxLen; omega) (Nat.le_refl _) fun W' hown hgrow => ?_
  have hbw : Below W.heap.size W W' := ⟨hgrow.os, hgrow.tape, hgrow.output, hgrow.size, fun k hk => hgrow.block k hk (by simp)⟩
  rcases hown.2 with ⟨h0, _⟩ | ⟨g', cap', cur, e, hge, hg', h2, h3, h4, h5⟩
  · cases h0
  · simp only [Value.slice.injEq, Option.some.injEq, Addr.mk.injEq] at e
    obtain ⟨⟨rfl, _⟩, _, rfl⟩ := e
    have hB : Box W.heap.size W.heap.size 44 cur.toList W' := ⟨Nat.le_refl _, by rw [Array.toArray_toList]; exact hg'⟩
    exact hK W' W.heap.size cur.toList (Lib.hid ⟨.inr ⟨W.heap.size, n, rfl, rfl, Nat.zero_le _, by unfold maxLen at h3; omega, by simpa using h4⟩, by simp [ucl]⟩) (Lib.hid (E.gotSeg hbw ⟨hB, by simp, trivial⟩))
end
/-- a literal of one use -/
theorem built_slice1 {cs : List Value} (hl : cs.length = 83) : Try.prog.builtSlice 44 1 [(0, .agg cs.toArray)] = some cs.toArray := by
  obtain ⟨i0, hi, hz0, hz1, hz2⟩ := info_parts Try.infoUse
  unfold Program.builtSlice
  simp only [hi, hz0, hz1]
  rw [if_neg (by decide)]
  generalize hA : (Array.range (1 * 83)).map (fun k => (Value.agg (usc zU nilV nilV).toArray).cells[k % (Value.agg (usc zU nilV nilV).toArray).cells.size]!) = Z
  have hz : Z.size = 83 := by rw [← hA]; simp
  obtain ⟨l, rfl⟩ : ∃ l : List Value, Z = l.toArray := ⟨Z.toList, by simp⟩
  have hl2 : l.length = 83 := by simpa using hz
  rw [fill_one (off := 0) (n := 83) (vs := cs) rfl rfl hl (by omega)]
  simp [Instr.fill, hl2]
theorem wpl_slice1 {ops : Array Oper} {rest : List Oper} {o : Oper} {a : Act} {w : World} {Q : Exit → Act → World → Prop} (hg : o.guard = none) (cs : List Value) (hl : cs.length = 83) (hx : ∃ x, o.op = .buildSlice 23 1 #[(0, x)] ∧ a.eval x = .agg cs.toArray)
    (h : wpList Try.prog ops Q rest (a.put o.dst (.slice (some ⟨w.heap.size, 0, none⟩) 1 1)) (w.alloc (.cells cs.toArray 44))) : wpList Try.prog ops Q (o :: rest) a w := by
  obtain ⟨x, ho, hx⟩ := hx
  exact Great.wpList_buildSliceTo hg 23 44 1 #[(0, x)] ho w.heap.size rfl o.dst rfl Try.underlying23 cs.toArray (by rw [← built_slice1 hl]; simp [hx]) h
end Go.Proofs.Ytfnnfmefihiefaa

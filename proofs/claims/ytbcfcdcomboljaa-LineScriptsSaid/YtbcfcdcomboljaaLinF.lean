/- append onto a row of the call's own, whatever its elements, as a walk holds it: in a list of operations, and as one operation of a region that draws. -/
import Derived.Test.YtbcfcdcomboljaaLinE
namespace Go.Proofs.Ytbcfcdcomboljaa
open Go.RowKit
set_option linter.unusedVariables false
/-- a slice type, its elements' type and their size -/
structure TI (sl T : TypeId) (sz : Nat) : Prop where
  u : Try.prog.underlying sl = some (.slice T)
  i : ∃ i z b, Try.prog.info? T = some i ∧ i.zero = some z ∧ i.size = sz ∧ i.bytes = b ∧ z.cells.size = sz ∧ 0 < sz ∧ b ≤ 1000
theorem TI.ofInfo {sl T : TypeId} {sz b : Nat} {z : Value} (hu : Try.prog.underlying sl = some (.slice T)) (h : (Try.prog.info? T).map (fun i => (i.zero, i.size, i.bytes)) = some (some z, sz, b)) (hz : z.cells.size = sz) (h0 : 0 < sz) (hb : b ≤ 1000) : TI sl T sz := by
  refine ⟨hu, ?_⟩
  cases hh : Try.prog.info? T with
  | none => rw [hh] at h; simp at h
  | some i => rw [hh] at h; simp only [Option.map_some, Option.some.injEq, Prod.mk.injEq] at h; exact ⟨i, z, b, rfl, h.1, h.2.1, h.2.2, hz, h0, hb⟩
theorem tiM : TI 25 24 5 := .ofInfo Try.underlying25 Try.infoM rfl (by omega) (by omega)
theorem tiI : TI 62 3 1 := .ofInfo Try.underlying62 Try.infoInt rfl (by omega) (by omega)
theorem tiB : TI 22 5 1 := .ofInfo Try.underlying22 Try.info8 rfl (by omega) (by omega)
theorem Try.infoFat : (Try.prog.info? 72).map (fun i => (i.zero, i.size, i.bytes)) = some (some (Value.agg #[.int .i64 0, .int .i64 0]), 2, 16) := by kernel_rfl
theorem tiF : TI 59 72 2 := .ofInfo Try.underlying59 Try.infoFat rfl (by omega) (by omega)
/-- the slice (ad, m) reads as the cells news, sz to an element -/
def SrcN (sz : Nat) (W : World) (ad : Option Addr) (m : Nat) (news : List Value) : Prop := news.length = m * sz ∧ (∀ u ∈ news, u.oneCell' = true) ∧ (m = 0 ∨ ∃ a, ad = some a ∧ ∀ j u, news[j]? = some u → W.cell? (a.add j) = some u)
theorem Rw.src {W : World} {D : Nat → Prop} {a : Option Addr} {n c k : Nat} {cs : List Value} (h : Rw W D (.slice a n c) n k cs) : SrcN k W a n cs := by
  obtain ⟨ao, cap, h1, h2, h3, h4, h5, h6⟩ := h
  simp only [Value.slice.injEq] at h1
  obtain ⟨rfl, _, rfl⟩ := h1
  refine ⟨h4, h5, ?_⟩
  by_cases hn : n = 0
  · exact .inl hn
  · obtain ⟨b, off, rfl, _, hc⟩ := h6 hn
    exact .inr ⟨_, rfl, fun j u hj => by rw [Addr.add_lit]; exact hc j u hj⟩
theorem Bs.src {W : World} {D : Nat → Prop} {a : Option Addr} {n c : Nat} {l : List Nat} (h : Bs W D (.slice a n c) l) (hn : n = l.length) : SrcN 1 W a n (cells8 l) := by
  obtain ⟨ao, cap, h1, h2, h3, h4, h5, _⟩ := h
  simp only [Value.slice.injEq] at h1
  obtain ⟨rfl, _, rfl⟩ := h1
  refine ⟨by simp [cells8, hn], fun u hu => by obtain ⟨x, _, rfl⟩ := List.mem_map.1 hu; rfl, ?_⟩
  by_cases hl : l = []
  · left; rw [hn, hl]; rfl
  · obtain ⟨b, off, rfl, _, hc⟩ := h5 hl
    refine .inr ⟨_, rfl, fun j u hj => ?_⟩
    rw [Addr.add_lit]
    have hlt : j < l.length := by have := (List.getElem?_eq_some_iff.1 hj).1; simpa [cells8] using this
    rw [hc j hlt]
    unfold cells8 at hj
    rw [List.getElem?_map, List.getElem?_eq_getElem hlt] at hj
    simp only [Option.map_some, Option.some.injEq] at hj
    rw [← hj]; simp [List.getElem?_eq_getElem hlt]
theorem SrcN.box {sz B g : Nat} {T : TypeId} {cs : List Value} {W : World} (h : Box B g T cs W) {m : Nat} (hl : cs.length = m * sz) (h1 : ∀ u ∈ cs, u.oneCell' = true) : SrcN sz W (some ⟨g, 0, none⟩) m cs :=
  ⟨hl, h1, .inr ⟨_, rfl, fun j u hj => by rw [Addr.add_lit, Nat.zero_add]; exact h.cell _ hj⟩⟩
theorem SrcN.msg {B g n : Nat} {T : TypeId} {W : World} (M : Msg) {bo : Option Addr} {bk : Nat} (h : Box B g T (mcells M (.slice bo n bk)) W) : SrcN 5 W (some ⟨g, 0, none⟩) 1 (mcells M (.slice bo n bk)) :=
  SrcN.box h rfl (by intro u hu; simp only [mcells, List.mem_cons, List.not_mem_nil, or_false] at hu; rcases hu with rfl | rfl | rfl | rfl | rfl <;> rfl)
theorem SrcN.int {B g : Nat} {T : TypeId} {W : World} {x : Int} (h : Box B g T [.int .i64 x] W) : SrcN 1 W (some ⟨g, 0, none⟩) 1 [.int .i64 x] :=
  SrcN.box h rfl (by intro u hu; simp only [List.mem_cons, List.not_mem_nil, or_false] at hu; subst hu; rfl)
section
variable {D0 : Nat → Prop} {w W W' : World} {F A B' sg : List Bx} {G : List Fct} {cs : List Value} {v : Value}
theorem app_run {sl T : TypeId} {sz : Nat} (ti : TI sl T sz) (ty : TypeId) (E : Env D0 w F G W) (hF : F = A ++ (sg ++ B')) {n : Nat} (hO : OS T sz sg cs v n) {ad : Option Addr} {m c : Nat} {news : List Value} (hsrc : SrcN sz W ad m news) (hb : n + m ≤ 1000000) :
    ∃ v' W', (Builtin.append_ #[sl, sl] ty #[v, .slice ad m c]).run Try.prog W = .ok v' W' ∧ ∃ sg' cs', OS T sz sg' cs' v' (n + m) ∧ cs'.take ((n + m) * sz) = cs.take (n * sz) ++ news ∧ Env D0 w (A ++ (sg' ++ B')) G W' ∧ (m ≠ 0 → ∃ g' cap', sg' = [(g', T, cs')] ∧ v' = .slice (some ⟨g', 0, none⟩) (n + m) cap' ∧ n + m ≤ cap' ∧ cap' ≤ 9223372036854775807 ∧ cs'.length = cap' * sz) := by
  obtain ⟨hu, i0, z, b, hi0, z0, z1, z2, z3, z4, z5⟩ := ti
  obtain ⟨hnl, h1, hcell⟩ := hsrc
  subst hF
  rcases hcell with rfl | ⟨a, rfl, hcell⟩
  · have hn0 : news = [] := List.length_eq_zero_iff.1 (hnl.trans (Nat.zero_mul _))
    subst hn0
    have hsrc : Src Try.prog i0.size sl (.slice ad 0 c) 0 [] W := by
      cases ad with
      | none => exact Src.ofNil W hu c
      | some ad => exact Src.ofSlice W hu ad 0 c [] (by simp) (by intro j u hj; simp at hj) (by simp)
    have hv : ∃ a k, v = .slice a n k ∧ n ≤ k := by
      rcases hO with ⟨_, _, rfl, rfl⟩ | ⟨g, cap, _, rfl, h, _⟩
      · exact ⟨none, 0, rfl, Nat.le_refl _⟩
      · exact ⟨_, _, rfl, h⟩
    obtain ⟨a, k, rfl, hk⟩ := hv
    exact ⟨_, _, run_append_nothing W sl sl ty T i0 hu hi0 a n k hk (.slice ad 0 c) hsrc, sg, cs, hO, by simp, E, fun h => absurd rfl h⟩
  · have hown : W.ownsRow 0 T sz v n (cs.take (n * sz)) := by
      rcases hO with ⟨rfl, rfl, rfl, rfl⟩ | ⟨g, cap, rfl, rfl, h2, h3, h4⟩
      · exact ⟨by simp, .inl ⟨rfl, rfl⟩⟩
      · have hX := E.bx A.length (b := g) (T := T) (cs := cs) (by simp)
        exact ⟨by rw [List.length_take, h4, Nat.min_eq_left (Nat.mul_le_mul_right _ h2)], .inr ⟨g, cap, cs.toArray, rfl, Nat.zero_le _, hX.2, h2, by unfold maxLen; omega, by simpa using h4, by simp⟩⟩
    have hby : (n + m) * b ≤ 140737488355328 := Nat.le_trans (Nat.mul_le_mul hb z5) (by decide)
    obtain ⟨v', W', hr, hown', hgrow, hnil, hat⟩ := run_append_own_at (P := Try.prog) W 0 sl ty T i0 z sz b hu hi0 z0 z1 z2 z3 z4 v n _ hown a m c news hnl hcell h1 (by unfold maxLen; omega) hby (Nat.zero_le _)
    refine ⟨v', W', hr, ?_⟩
    rcases hown'.2 with ⟨rfl, h0⟩ | ⟨g', cap', cur, rfl, _, hg, h2, h3, h4, h5⟩
    · have hn : v = .slice none 0 0 ∧ m = 0 := hnil.1 rfl
      obtain ⟨rfl, rfl⟩ := hn
      have hn0 : news = [] := List.length_eq_zero_iff.1 (hnl.trans (Nat.zero_mul _))
      subst hn0
      rcases hO with ⟨rfl, rfl, _, rfl⟩ | ⟨g, cap, rfl, h, _⟩
      · refine ⟨[], [], .inl ⟨rfl, rfl, rfl, rfl⟩, by simp, ?_, fun h => absurd rfl h⟩
        have hbw : Below W.heap.size W W' := ⟨hgrow.os, hgrow.tape, hgrow.output, hgrow.size, fun k hk => hgrow.block k hk (by simp [Value.ownBlock])⟩
        exact E.below hbw
      · cases h
    · have hfin : OS T sz [(g', T, cur.toList)] cur.toList (.slice (some ⟨g', 0, none⟩) (n + m) cap') (n + m) := .inr ⟨g', cap', rfl, rfl, h2, by unfold maxLen at h3; omega, by simpa using h4⟩
      have hlast : ∃ g'_1 cap'_1, [(g', T, cur.toList)] = [(g'_1, T, cur.toList)] ∧ Value.slice (some ⟨g', 0, none⟩) (n + m) cap' = .slice (some ⟨g'_1, 0, none⟩) (n + m) cap'_1 ∧ n + m ≤ cap'_1 ∧ cap'_1 ≤ 9223372036854775807 ∧ cur.toList.length = cap'_1 * sz := ⟨g', cap', rfl, rfl, h2, by unfold maxLen at h3; omega, by simpa using h4⟩
      refine ⟨[(g', T, cur.toList)], cur.toList, hfin, h5, ?_, fun _ => hlast⟩
      rcases hO with ⟨rfl, rfl, rfl, rfl⟩ | ⟨g, cap, rfl, rfl, e1, e2, e3⟩
      · have hbw : Below W.heap.size W W' := ⟨hgrow.os, hgrow.tape, hgrow.output, hgrow.size, fun k hk => hgrow.block k hk (by simp [Value.ownBlock])⟩
        have hgg : W.heap.size ≤ g' := by
          rcases hat with h | h <;> simp [Value.ownBlock] at h
          omega
        have E3 := E.gotBox hbw (g := g') (T := T) (cs := cur.toList) ⟨hgg, by rw [Array.toArray_toList]; exact hg⟩
        exact E3.perm (by rw [List.nil_append]; exact List.perm_middle.symm)
      · have hgg : g' = g ∨ W.heap.size ≤ g' := by
          rcases hat with h | h
          · simp [Value.ownBlock] at h; exact .inl h
          · simp [Value.ownBlock] at h; exact .inr (by omega)
        have hoff : Off g W W' := ⟨hgrow.os, hgrow.tape, hgrow.output, hgrow.size, fun k hk hne => hgrow.block k hk (by simp [Value.ownBlock]; omega)⟩
        have E3 := E.ins A.length (g := g) (T := T) (cs := cs) (by simp) hoff hgg (cs' := cur.toList) (by rw [Array.toArray_toList]; exact hg)
        have e : (A ++ ([(g, T, cs)] ++ B')).set A.length (g', T, cur.toList) = A ++ ([(g', T, cur.toList)] ++ B') := by simp
        rw [e] at E3; exact E3
/-- append of one element, as one operation of a region that draws -/
theorem op_app1 {sl T : TypeId} {sz : Nat} (ti : TI sl T sz) {o : Oper} {a : Act} {K : Act → World → Prop} {Q : Exit → Act → World → Prop} {EE : Prop} {ops : Array Oper} (d : Option Tmp) (hgd : o.guard = none) (hd : o.dst = d) (s x : Operand)
    (ho : o.op = .call { callee := .builtin .append, args := #[s, x], argTypes := #[sl, sl] })
    (E : Env D0 w F G W) (hF : F = A ++ (sg ++ B')) {n : Nat} (hO : OS T sz sg cs v n) (hs : a.eval s = v) {ad : Option Addr} {c : Nat} {news : List Value} (hx : a.eval x = .slice ad 1 c) (hsrc : SrcN sz W ad 1 news) (hb : n + 1 ≤ 1000000)
    (h : ∀ (g' cap' : Nat) (cs' : List Value) (W' : World), Hid (n + 1 ≤ cap' ∧ cap' ≤ 9223372036854775807 ∧ cs'.length = cap' * sz) → Hid (cs'.take ((n + 1) * sz) = cs.take (n * sz) ++ news) → Hid (Env D0 w (A ++ ((g', T, cs') :: B')) G W') → K (a.put d (.slice (some ⟨g', 0, none⟩) (n + 1) cap')) W') :
    if Region.wanted o (yielded ops a.tmps) = true then Oper.wp Try.prog o a W K Q else EE := by
  have hw : Region.wanted o (yielded ops a.tmps) = true := by simp [Region.wanted, hgd]
  rw [if_pos hw]
  subst hd
  obtain ⟨v', W', hr, sg', cs', h1, h2, h3, h4⟩ := app_run ti o.type E hF hO (c := c) hsrc hb
  obtain ⟨g', cap', rfl, rfl, h5⟩ := h4 (by omega)
  unfold Oper.wp execOp
  simp only [ho, resolve, invoke, builtin, Sem.run_bind, Sem.run_pure, Result.andThen_ok, List.map_toArray, List.map_cons, List.map_nil, hs, hx, hr]
  exact h g' cap' cs' W' (Lib.hid h5) (Lib.hid h2) (Lib.hid h3)
/-- append of some elements, as one operation of a region that draws -/
theorem op_appN {sl T : TypeId} {sz : Nat} (ti : TI sl T sz) {o : Oper} {a : Act} {K : Act → World → Prop} {Q : Exit → Act → World → Prop} {EE : Prop} {ops : Array Oper} (d : Option Tmp) (hgd : o.guard = none) (hd : o.dst = d) (s x : Operand)
    (ho : o.op = .call { callee := .builtin .append, args := #[s, x], argTypes := #[sl, sl] })
    (E : Env D0 w F G W) (hF : F = A ++ (sg ++ B')) {n : Nat} (hO : OS T sz sg cs v n) (hs : a.eval s = v) {ad : Option Addr} {m c : Nat} {news : List Value} (hx : a.eval x = .slice ad m c) (hsrc : SrcN sz W ad m news) (hb : n + m ≤ 1000000)
    (h : ∀ (sg' : List Bx) (v' : Value) (cs' : List Value) (W' : World), Hid (OS T sz sg' cs' v' (n + m)) → Hid (cs'.take ((n + m) * sz) = cs.take (n * sz) ++ news) → Hid (Env D0 w (A ++ (sg' ++ B')) G W') → K (a.put d v') W') :
    if Region.wanted o (yielded ops a.tmps) = true then Oper.wp Try.prog o a W K Q else EE := by
  have hw : Region.wanted o (yielded ops a.tmps) = true := by simp [Region.wanted, hgd]
  rw [if_pos hw]
  subst hd
  obtain ⟨v', W', hr, sg', cs', h1, h2, h3, h4⟩ := app_run ti o.type E hF hO (c := c) hsrc hb
  unfold Oper.wp execOp
  simp only [ho, resolve, invoke, builtin, Sem.run_bind, Sem.run_pure, Result.andThen_ok, List.map_toArray, List.map_cons, List.map_nil, hs, hx, hr]
  exact h sg' v' cs' W' (Lib.hid h1) (Lib.hid h2) (Lib.hid h3)
/-- the same in a list of operations -/
theorem wpl_appN {sl T : TypeId} {sz : Nat} (ti : TI sl T sz) {ops : Array Oper} {rest : List Oper} {o : Oper} {a : Act} {Q : Exit → Act → World → Prop} (hgd : o.guard = none) (s x : Operand)
    (ho : o.op = .call { callee := .builtin .append, args := #[s, x], argTypes := #[sl, sl] })
    (E : Env D0 w F G W) (hF : F = A ++ (sg ++ B')) {n : Nat} (hO : OS T sz sg cs v n) (hs : a.eval s = v) {ad : Option Addr} {m c : Nat} {news : List Value} (hx : a.eval x = .slice ad m c) (hsrc : SrcN sz W ad m news) (hb : n + m ≤ 1000000)
    (h : ∀ (sg' : List Bx) (v' : Value) (cs' : List Value) (W' : World), Hid (OS T sz sg' cs' v' (n + m)) → Hid (cs'.take ((n + m) * sz) = cs.take (n * sz) ++ news) → Hid (Env D0 w (A ++ (sg' ++ B')) G W') → wpList Try.prog ops Q rest (a.put o.dst v') W') :
    wpList Try.prog ops Q (o :: rest) a W := by
  refine wpList_plain hgd fun K hK => ?_
  obtain ⟨v', W', hr, sg', cs', h1, h2, h3, h4⟩ := app_run ti o.type E hF hO (c := c) hsrc hb
  unfold Oper.wp execOp
  simp only [ho, resolve, invoke, builtin, Sem.run_bind, Sem.run_pure, Result.andThen_ok, List.map_toArray, List.map_cons, List.map_nil, hs, hx, hr]
  exact hK _ _ (h sg' v' cs' W' (Lib.hid h1) (Lib.hid h2) (Lib.hid h3))
/-- a row of the call's own, as a caller reads it -/
theorem OS.rw {T : TypeId} {k n : Nat} (h : OS T k sg cs v n) (E : Env D0 w F G W) (hs : ∀ p ∈ sg, p ∈ F) {xs : List Value} (ht : cs.take (n * k) = xs) (h1 : ∀ u ∈ xs, u.oneCell' = true) : Fct.at W (fun b => D0 b ∨ w.heap.size ≤ b) (.rw v n k xs) := by
  rcases h with ⟨rfl, rfl, rfl, rfl⟩ | ⟨g, cap, rfl, rfl, e1, e2, e3⟩
  · simp at ht; subst ht; exact Rw.nil _ _ _
  · have hB := (held_iff.1 E.box).1 (g, T, cs) (hs _ (by simp))
    refine ⟨_, cap, rfl, e1, e2, by rw [← ht, List.length_take, e3, Nat.min_eq_left (Nat.mul_le_mul_right _ e1)], h1, fun _ => ⟨g, 0, rfl, ⟨hB.lt, .inr hB.1⟩, fun i u hu => ?_⟩⟩
    rw [Nat.zero_add]
    rw [← ht, List.getElem?_take] at hu
    split at hu
    · exact hB.cell _ hu
    · cases hu
theorem OS.bs {l : List Nat} (h : OS 5 1 sg cs v l.length) (E : Env D0 w F G W) (hs : ∀ p ∈ sg, p ∈ F) (ht : cs.take (l.length * 1) = cells8 l) (hu : ∀ u ∈ l, u < 256) : Fct.at W (fun b => D0 b ∨ w.heap.size ≤ b) (.bs v l) := by
  rcases h with ⟨rfl, rfl, rfl, h0⟩ | ⟨g, cap, rfl, rfl, e1, e2, e3⟩
  · obtain rfl : l = [] := List.length_eq_zero_iff.1 h0
    exact Bs.nil _ _
  · have hB := (held_iff.1 E.box).1 (g, 5, cs) (hs _ (by simp))
    refine ⟨_, cap, rfl, e1, e2, hu, fun _ => ⟨g, 0, rfl, ⟨hB.lt, .inr hB.1⟩, fun i hi => ?_⟩, trivial⟩
    rw [Nat.zero_add]
    refine hB.cell _ ?_
    have : (cells8 l)[i]? = some (.int .u8 ((l.getD i 0 : Nat) : Int)) := by
      unfold cells8; rw [List.getElem?_map, List.getElem?_eq_getElem hi]; simp [List.getElem?_eq_getElem hi]
    rw [← ht, List.getElem?_take, if_pos (by omega)] at this
    exact this
/-- one int more -/
theorem OI.app {x : Int} {l : List Int} {cs' : List Value} {g' cap' n : Nat} (hL : OI sg cs v l) (en : l.length = n) (h : n + 1 ≤ cap' ∧ cap' ≤ 9223372036854775807 ∧ cs'.length = cap' * 1) (ht : cs'.take ((n + 1) * 1) = cs.take (n * 1) ++ [.int .i64 x]) : OI [(g', 3, cs')] cs' (.slice (some ⟨g', 0, none⟩) (n + 1) cap') (l ++ [x]) := by
  subst en
  refine ⟨.inr ⟨g', cap', rfl, by simp, by simpa using h.1, h.2.1, h.2.2⟩, ?_⟩
  have := hL.2
  simp only [Nat.mul_one] at ht
  rw [List.length_append, List.length_singleton, ht, this]; simp [icl]
/-- one message more -/
theorem LS.app {M : Msg} {ao : Option Addr} {k n : Nat} {L : List Msg} {cs' : List Value} {g' cap' : Nat} {D : Nat → Prop} (hL : LS sg cs v L) (en : L.length = n) (h : n + 1 ≤ cap' ∧ cap' ≤ 9223372036854775807 ∧ cs'.length = cap' * 5) (ht : cs'.take ((n + 1) * 5) = cs.take (n * 5) ++ mcells M (.slice ao M.body.length k)) (h1 : Fct.at W D (.mc cs L)) (h2 : Bs W D (.slice ao M.body.length k) M.body) :
    LS [(g', 24, cs')] cs' (.slice (some ⟨g', 0, none⟩) (n + 1) cap') (L ++ [M]) ∧ Fct.at W D (.mc cs' (L ++ [M])) := by
  subst en
  refine ⟨.inr ⟨g', cap', rfl, by simp, by simpa using h.1, h.2.1, h.2.2⟩, mc_app (n := L.length) (N := L.length + 1) h1 (mc_one' h2) ?_ rfl rfl ht⟩
  rcases hL with ⟨rfl, rfl, rfl, rfl⟩ | ⟨g, cap, rfl, rfl, e1, e2, e3⟩
  · simp
  · omega
theorem LS.os {L : List Msg} {n : Nat} (h : LS sg cs v L) (en : L.length = n) : OS 24 5 sg cs v n := by
  subst en
  rcases h with ⟨rfl, rfl, rfl, rfl⟩ | ⟨g, cap, rfl, rfl, e1, e2, e3⟩
  · exact .inl ⟨rfl, rfl, rfl, rfl⟩
  · exact .inr ⟨g, cap, rfl, rfl, e1, e2, e3⟩
theorem OI.os {l : List Int} {n : Nat} (h : OI sg cs v l) (en : l.length = n) : OS 3 1 sg cs v n := en ▸ h.1
theorem Ms.addr {W : World} {D : Nat → Prop} {a : Option Addr} {n c k : Nat} {L : List Msg} (h : Ms W D (.slice a n c) L) (hk : k < L.length) : ∃ b o, a = some ⟨b, o, none⟩ := by
  obtain ⟨b, o, j, e⟩ := h.open (by rintro rfl; simp at hk)
  simp only [Value.slice.injEq] at e
  exact ⟨b, o, e.1⟩
theorem Rw.addr {W : World} {D : Nat → Prop} {a : Option Addr} {n c k : Nat} {cs : List Value} (h : Rw W D (.slice a n c) n k cs) (hn : n ≠ 0) : ∃ b o, a = some ⟨b, o, none⟩ := by
  obtain ⟨b, o, j, e⟩ := h.open hn
  simp only [Value.slice.injEq] at e
  exact ⟨b, o, e.1⟩
/-- a line came back whose lists are the call's own -/
def RetLO (D : Nat → Prop) (B : Nat) (l : Lin) (e : Ending) (W : World) : Prop := ∃ sgA csA aa ak sgL csL la lj fa fk, e = .returned (.agg #[.int .i64 l.nw, .slice la l.L.length lj, .slice aa l.ats.length ak, .slice fa l.ft.length fk]) ∧
  Hid (OI sgA csA (.slice aa l.ats.length ak) l.ats) ∧ Hid (LS sgL csL (.slice la l.L.length lj) l.L) ∧ Hid (HeldF B (sgA ++ sgL) W) ∧ Hid (Fct.at W (fun b => (D b ∨ B ≤ b) ∧ ∀ p ∈ sgA ++ sgL, p.1 ≠ b) (.rw (.slice fa l.ft.length fk) l.ft.length 2 (fcl l.ft))) ∧ Hid (Fct.at W (fun b => (D b ∨ B ≤ b) ∧ ∀ p ∈ sgA ++ sgL, p.1 ≠ b) (.mc csL l.L))
/-- a line came back -/
def RetL (D : Nat → Prop) (l : Lin) (e : Value) (W : World) : Prop := ∃ la lj aa ak fa fk, e = .agg #[.int .i64 l.nw, .slice la l.L.length lj, .slice aa l.ats.length ak, .slice fa l.ft.length fk] ∧
  Hid (Ms W D (.slice la l.L.length lj) l.L) ∧ Hid (Rw W D (.slice aa l.ats.length ak) l.ats.length 1 (icl l.ats)) ∧ Hid (Rw W D (.slice fa l.ft.length fk) l.ft.length 2 (fcl l.ft))
theorem DF.segs {D0 : Nat → Prop} {B : Nat} {S : List Bx} {b : Nat} (h : DF D0 B (A ++ S) b) : (D0 b ∨ B ≤ b) ∧ ∀ p ∈ S, p.1 ≠ b := ⟨h.2, fun p hp => h.1 p (by simp [hp])⟩
/-- a fact, told without the segments' blocks -/
theorem Env.outS {S : List Bx} (E : Env D0 w (A ++ S) G W) (i : Nat) {f : Fct} (e : G[i]? = some f) : Fct.at W (fun b => (D0 b ∨ w.heap.size ≤ b) ∧ ∀ p ∈ S, p.1 ≠ b) f := Fct.turn (E.fct.get i e) (Nat.le_refl _) (fun _ _ h => DF.segs h) (fun _ _ _ _ => rfl)
theorem Env.heldS {S : List Bx} (E : Env D0 w (A ++ S) G W) : HeldF w.heap.size S W := by
  have h := held_iff.1 E.box
  exact held_iff.2 ⟨fun p hp => h.1 p (by simp [hp]), (List.pairwise_append.1 h.2).2.1⟩
end
end Go.Proofs.Ytbcfcdcomboljaa

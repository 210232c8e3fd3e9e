/- LineScripts: a walk that holds a map of its own (from int to two ints), and a row of triples that it grows. -/
import Derived.Test.YtbcfcdcomboljaaLinSc
import Derived.Maps.OwnOps
import Derived.Maps.OwnSet
import Derived.Maps.RangeWalk
namespace Go.Proofs.Ytbcfcdcomboljaa
open Go.RowKit Go.Maps
set_option linter.unusedVariables false
set_option linter.unusedSimpArgs false
/-- how an element of two ints reads -/
def r2l : List Value → Option (MapD × List MemPlace)
  | [.int .i64 a, .int .i64 b] => some (.agg [.lit (.int .i64 a), .lit (.int .i64 b)], [])
  | _ => none
def r2 : Value → Option (MapD × List MemPlace)
  | .agg cs => r2l cs.toList
  | _ => none
theorem r2_mk (a b : Int) : r2 (.agg #[.int .i64 a, .int .i64 b]) = some (.agg [.lit (.int .i64 a), .lit (.int .i64 b)], []) := rfl
theorem r2_inv {v : Value} {a b : Int} {ps : List MemPlace} (h : r2 v = some (.agg [.lit (.int .i64 a), .lit (.int .i64 b)], ps)) : v = .agg #[.int .i64 a, .int .i64 b] := by
  unfold r2 at h
  split at h
  · next cs =>
    unfold r2l at h
    split at h
    · next e =>
      simp only [Option.some.injEq, Prod.mk.injEq, DataW.agg.injEq, List.cons.injEq, DataW.lit.injEq, Lit.int.injEq, true_and, and_true] at h
      obtain ⟨⟨rfl, rfl⟩, _⟩ := h
      rw [← Array.toArray_toList (xs := cs), e]
    · cases h
  · cases h
def prL (x : Option (Int × Int)) : Int × Int := x.getD (0, 0)
/-- the map holds what ls says -/
def MapP (dm : MapD) (ls : Lst) : Prop := IsMap dm ∧ ∀ k, dm.atKey (.int .i64 k) (.agg [.lit (.int .i64 0), .lit (.int .i64 0)]) = .agg [.lit (.int .i64 (prL (ls k)).1), .lit (.int .i64 (prL (ls k)).2)] ∧ has dm (.int .i64 k) = (ls k).isSome
theorem MapP.start : MapP (.map []) (fun _ => none) := ⟨isMap_empty, fun k => ⟨rfl, rfl⟩⟩
theorem MapP.put {dm : MapD} {ls : Lst} (h : MapP dm ls) (t a b : Int) : MapP (dm.put (.int .i64 t) (.agg [.lit (.int .i64 a), .lit (.int .i64 b)])) (putL ls t (a, b)) := by
  obtain ⟨h1, h2⟩ := h
  refine ⟨h1.put _ _, fun k => ?_⟩
  unfold putL
  by_cases e : k = t
  · subst e
    rw [atKey_put_same h1 (by exact trivial), has_put_same h1 (by exact trivial), if_pos rfl]
    exact ⟨rfl, rfl⟩
  · have hne : (Lit.int .i64 k) ≠ .int .i64 t := by simpa using e
    rw [atKey_put_other hne, has_put_other hne, if_neg e]
    exact h2 k
/-- Env, and a map of the call's own -/
structure EnvP (D0 : Nat → Prop) (w : World) (F : List Bx) (G : List Fct) (mb n : Nat) (ls : Lst) (W : World) : Prop where
  env : Env D0 w F G W
  map : ∃ dm, W.ownsMap Try.prog 3 r2 mb n dm ∧ MapP dm ls
  ge : w.heap.size ≤ mb
section
variable {D0 : Nat → Prop} {w W W' : World} {F A B' sg : List Bx} {G G' : List Fct} {mb n : Nat} {ls : Lst} {cs : List Value} {v : Value}
theorem EnvP.bel (h : EnvP D0 w F G mb n ls W) : Below w.heap.size w W := h.env.bel
theorem EnvP.below (h : EnvP D0 w F G mb n ls W) (hb : Below W.heap.size W W') : EnvP D0 w F G mb n ls W' := ⟨h.env.below hb, by obtain ⟨dm, a, b⟩ := h.map; exact ⟨dm, a.kept (gb_below hb) (by simp), b⟩, h.ge⟩
theorem EnvP.got (h : EnvP D0 w F G mb n ls W) (h' : EnvP D0 w F G' mb n ls W') (f : Fct) (hf : f.at W' (fun b => DF D0 w.heap.size F b ∨ W.heap.size ≤ b)) : EnvP D0 w F (f :: G') mb n ls W' := ⟨h.env.got h'.env f hf, h'.map, h'.ge⟩
theorem EnvP.push (h : EnvP D0 w F G mb n ls W) (T : TypeId) (cs : List Value) (g : Nat) (hg : g = W.heap.size) : EnvP D0 w ((g, T, cs) :: F) G mb n ls (W.alloc (.cells cs.toArray T)) := ⟨h.env.push T cs g hg, by obtain ⟨dm, a, b⟩ := h.map; exact ⟨dm, a.alloc _, b⟩, h.ge⟩
theorem EnvP.set (h : EnvP D0 w F G mb n ls W) (i : Nat) {b : Nat} {T : TypeId} {cs : List Value} (k : Nat) (v : Value) (e : F[i]? = some (b, T, cs)) : EnvP D0 w (F.set i (b, T, cs.set k v)) G mb n ls (W.setCell ⟨b, k, none⟩ v) :=
  ⟨h.env.set i k v e, by obtain ⟨dm, a, b⟩ := h.map; exact ⟨dm, a.setCell (box_ne (h.env.bx i e) a) v, b⟩, h.ge⟩
theorem EnvP.drew (h : EnvP D0 w F G mb n ls W) : EnvP D0 w F G mb n ls W.drew := ⟨h.env.drew, by obtain ⟨dm, a, b⟩ := h.map; exact ⟨dm, a.drew, b⟩, h.ge⟩
theorem EnvP.bx (h : EnvP D0 w F G mb n ls W) (i : Nat) {b : Nat} {T : TypeId} {cs : List Value} (e : F[i]? = some (b, T, cs)) : Box w.heap.size b T cs W := h.env.bx i e
theorem EnvP.fc (h : EnvP D0 w F G mb n ls W) (i : Nat) {f : Fct} (e : G[i]? = some f) : f.at W (DF D0 w.heap.size F) := h.env.fc i e
theorem EnvP.drop {p : Bx} (h : EnvP D0 w (p :: F) G mb n ls W) : EnvP D0 w F G mb n ls W := ⟨h.env.drop, h.map, h.ge⟩
theorem EnvP.forget {f : Fct} (h : EnvP D0 w F (f :: G) mb n ls W) : EnvP D0 w F G mb n ls W := ⟨h.env.forget, h.map, h.ge⟩
theorem EnvP.note (h : EnvP D0 w F G mb n ls W) (f : Fct) (hf : f.at W (DF D0 w.heap.size F)) : EnvP D0 w F (f :: G) mb n ls W := ⟨h.env.note f hf, h.map, h.ge⟩
theorem EnvP.cast {F' : List Bx} (h : EnvP D0 w F G mb n ls W) (e : F = F') : EnvP D0 w F' G mb n ls W := e ▸ h
theorem EnvP.elF (h : EnvP D0 w F G mb n ls W) (i : Nat) {b off m j : Nat} {l : List (Int × Int)} (e : G[i]? = some (.rw (.slice (some ⟨b, off, none⟩) m j) m 2 (fcl l))) (hn : m = l.length) (k : Nat) (hk : k < l.length) : EnvP D0 w F (.ce b (off + k * 2) (.int .i64 l[k].1) :: .ce b (off + k * 2 + 1) (.int .i64 l[k].2) :: G) mb n ls W := ⟨h.env.elF i e hn k hk, h.map, h.ge⟩
theorem EnvP.made (h : Env D0 w F G W) (g : Nat) (hg : g = W.heap.size) : EnvP D0 w F G g 0 (fun _ => none) (W.alloc (.map #[] 0)) := by
  subst hg
  exact ⟨h.below ((Below.refl _ _).alloc (Nat.le_refl _) _), ⟨_, World.ownsMap_made _ _ _ _, MapP.start⟩, h.bel.size⟩
/-- the facts that are kept, the newest boxes gone -/
theorem EnvP.keep (h : EnvP D0 w (A ++ F) G mb n ls W) (hG : ∀ f ∈ G', f ∈ G) : EnvP D0 w F G' mb n ls W := by
  have h2 : EnvP D0 w F G mb n ls W := by
    induction A with
    | nil => exact h
    | cons p A ih => exact ih h.drop
  refine ⟨⟨h2.env.bel, h2.env.box, ?_⟩, h2.map, h2.ge⟩
  clear h
  induction G' with
  | nil => exact trivial
  | cons f G' ih =>
    obtain ⟨i, hi, rfl⟩ := List.getElem_of_mem (hG f (by simp))
    exact ⟨h2.env.fc i (List.getElem?_eq_getElem hi), ih (fun g hg => hG g (by simp [hg]))⟩
theorem EnvP.upd (h : EnvP D0 w F G mb n ls W) {n' : Nat} {dm' : MapD} {ls' : Lst} (hm : W'.ownsMap Try.prog 3 r2 mb n' dm') (hP : MapP dm' ls') (hg : W.grownBy W' (some mb)) : EnvP D0 w F G mb n' ls' W' := by
  obtain ⟨⟨h1, h2, h3⟩, ⟨dm, hM, _⟩, hge⟩ := h
  have hne : ∀ p ∈ F, p.1 ≠ mb := fun p hp e => box_ne ((held_iff.1 h2).1 p hp) hM e.symm
  have hc : ∀ b i, b < W.heap.size → W'.cell? ⟨b, i, none⟩ = W.cell? ⟨b, i, none⟩ := by
    intro b i hb
    by_cases e : b = mb
    · subst e
      obtain ⟨es, c, e1⟩ := map_block hM
      obtain ⟨es', c', e2⟩ := map_block hm
      simp [World.cell?, e1, e2]
    · exact World.cell?_of_block (hg.block b hb (by simpa using e))
  refine ⟨⟨⟨hg.os.trans h1.os, hg.tape.trans h1.tape, hg.output.trans h1.output, Nat.le_trans h1.size hg.size, fun k hk => (hg.block k (Nat.lt_of_lt_of_le hk h1.size) (by simp; omega)).trans (h1.block k hk)⟩, ?_, h3.turn hg.size (fun _ _ h => h) (fun b i hb _ => hc b i hb)⟩, ⟨dm', hm, hP⟩, hge⟩
  rw [held_iff] at h2 ⊢
  refine ⟨fun p hp => ⟨(h2.1 p hp).1, (hg.block _ (h2.1 p hp).lt (by simp; exact hne p hp)).trans (h2.1 p hp).2⟩, h2.2⟩
theorem wf_small {t : Int} (h : -1000000 ≤ t ∧ t ≤ 1000000) : (Lit.int .i64 t).wf = true := WalkArith.wf_i64 ⟨by omega, by omega⟩
theorem lawP : Keyed Try.prog 3 := int_keyed Try.underlying3
theorem zero2 (w : World) : (zeroValue 80).run Try.prog w = .ok (.agg #[.int .i64 0, .int .i64 0]) w := by kernel_rfl
theorem wpl_lookP {ops : Array Oper} {rest : List Oper} {o : Oper} {a : Act} {Q : Exit → Act → World → Prop} (hg : o.guard = none) (m x : Operand) (hop : o.op = Op.lookup 68 m x true) (E : EnvP D0 w F G mb n ls W) (hm : a.eval m = .map (some mb)) {t : Int} (hx : a.eval x = .int .i64 t) (ht : -1000000 ≤ t ∧ t ≤ 1000000)
    (h : wpList Try.prog ops Q rest (a.put o.dst (.tuple #[.agg #[.int .i64 (prL (ls t)).1, .int .i64 (prL (ls t)).2], .bool (ls t).isSome])) W) : wpList Try.prog ops Q (o :: rest) a W := by
  obtain ⟨dm, hM, hP⟩ := E.map
  refine wpList_lookup_own_ok W hg m x _ hop _ _ lawP Try.underlying68 r2 (zero2 W) _ _ (r2_mk 0 0) mb n dm hm hM _ (.int .i64 t) hx (keyOf_int_mk Try.underlying3 (wf_small ht)) (fun v ps hv => ?_)
  rw [(hP.2 t).1] at hv
  rw [r2_inv hv, (hP.2 t).2]
  exact h
theorem wpl_updP {ops : Array Oper} {rest : List Oper} {o : Oper} {a : Act} {Q : Exit → Act → World → Prop} (hg : o.guard = none) (m x v : Operand) (hop : o.op = Op.mapUpdate 68 m x v) (E : EnvP D0 w F G mb n ls W) (hm : a.eval m = .map (some mb)) (hn : n ≤ 1000000) {t p q : Int} (hx : a.eval x = .int .i64 t) (ht : -1000000 ≤ t ∧ t ≤ 1000000) (hv : a.eval v = .agg #[.int .i64 p, .int .i64 q])
    (h : ∀ W', Hid (EnvP D0 w F G mb (n + 1) (putL ls t (p, q)) W') → wpList Try.prog ops Q rest (a.put o.dst undef) W') : wpList Try.prog ops Q (o :: rest) a W := by
  obtain ⟨dm, hM, hP⟩ := E.map
  exact wpList_mapUpdate_own W hg m x v _ hop _ _ lawP Try.underlying68 r2 mb n dm hm hM (by unfold maxLen; omega) _ _ (.int .i64 t) hx hv (keyOf_int_mk Try.underlying3 (wf_small ht)) _ _ (r2_mk p q) (fun W' h1 h2 => h W' (Lib.hid (E.upd h1 (hP.put t p q) h2)))
/-- the triples of what was sent: nil, or a box -/
theorem Try.infoSnt : (Try.prog.info? 75).map (fun i => (i.zero, i.size, i.bytes)) = some (some (Value.agg #[.int .i64 0, .int .i64 0, .int .i64 0]), 3, 24) := by kernel_rfl
theorem tiS : TI 67 75 3 := .ofInfo Try.underlying67 Try.infoSnt rfl (by omega) (by omega)
/-- the cells read as the triples -/
def Trp (cs : List Value) (P : Snt) (lf : List Int) : Prop := lf.length = P.length ∧ ∀ j (h : j < lf.length), cs[j * 3]? = some (.int .i64 (toS P j)) ∧ cs[j * 3 + 1]? = some (.int .i64 (atS P j)) ∧ cs[j * 3 + 2]? = some (.int .i64 lf[j])
def SS (sg : List Bx) (cs : List Value) (v : Value) (P : Snt) (lf : List Int) : Prop := OS 75 3 sg cs v P.length ∧ Trp cs P lf
theorem SS.nil : SS [] [] (.slice none 0 0) [] [] := ⟨.inl ⟨rfl, rfl, rfl, rfl⟩, rfl, fun j h => absurd h (Nat.not_lt_zero _)⟩
theorem SS.len {P : Snt} {lf : List Int} (h : SS sg cs v P lf) : ∃ a c, v = .slice a P.length c := h.1.len
theorem SS.app {P : Snt} {lf : List Int} {t d c : Int} {b : Nat} {cs' : List Value} {g' cap' : Nat} (hS : SS sg cs v P lf) (h : P.length + 1 ≤ cap' ∧ cap' ≤ 9223372036854775807 ∧ cs'.length = cap' * 3) (ht : cs'.take ((P.length + 1) * 3) = cs.take (P.length * 3) ++ [.int .i64 t, .int .i64 d, .int .i64 c]) :
    SS [(g', 75, cs')] cs' (.slice (some ⟨g', 0, none⟩) (P.length + 1) cap') (P ++ [(t, d, b)]) (lf ++ [c]) := by
  obtain ⟨hO, hl, hT⟩ := hS
  refine ⟨.inr ⟨g', cap', rfl, by simp, by simpa using h.1, h.2.1, h.2.2⟩, by simp [hl], fun j hj => ?_⟩
  have hcl : (cs.take (P.length * 3)).length = P.length * 3 := by
    rcases hO with ⟨_, rfl, _, h0⟩ | ⟨g, cap, _, _, e1, _, e3⟩
    · rw [h0]; rfl
    · rw [List.length_take, e3, Nat.min_eq_left (Nat.mul_le_mul_right _ e1)]
  have key : ∀ i, i < (P.length + 1) * 3 → cs'[i]? = if i < P.length * 3 then cs[i]? else [Value.int .i64 t, .int .i64 d, .int .i64 c][i - P.length * 3]? := by
    intro i hi
    have e1 : cs'[i]? = (cs'.take ((P.length + 1) * 3))[i]? := by rw [List.getElem?_take, if_pos hi]
    rw [e1, ht]
    by_cases h : i < P.length * 3
    · rw [if_pos h, List.getElem?_append_left (by omega), List.getElem?_take, if_pos h]
    · rw [if_neg h, List.getElem?_append_right (by omega), hcl]
  rw [List.length_append, List.length_singleton] at hj
  by_cases hc : j < lf.length
  · have hjP : j < P.length := by omega
    obtain ⟨a1, a2, a3⟩ := hT j hc
    rw [key _ (by omega), key _ (by omega), key _ (by omega), if_pos (by omega), if_pos (by omega), if_pos (by omega), a1, a2, a3, List.getElem_append_left hc]
    unfold toS atS
    rw [getD_app hjP]
    exact ⟨rfl, rfl, rfl⟩
  · have ej : j = P.length := by omega
    subst ej
    rw [key _ (by omega), key _ (by omega), key _ (by omega), if_neg (by omega), if_neg (by omega), if_neg (by omega), Nat.sub_self, Nat.add_sub_cancel_left, Nat.add_sub_cancel_left]
    unfold toS atS
    rw [getD_last]
    refine ⟨rfl, rfl, ?_⟩
    rw [List.getElem_append_right (by omega)]
    simp
theorem SS.box {P : Snt} {lf : List Int} {va : Option Addr} {vk m : Nat} (h : SS sg cs (.slice va m vk) P lf) (hn : P.length ≠ 0) : ∃ g, sg = [(g, 75, cs)] ∧ va = some ⟨g, 0, none⟩ := by
  rcases h.1 with ⟨_, _, _, h0⟩ | ⟨g, cap, rfl, he, _⟩
  · exact absurd h0 hn
  · simp only [Value.slice.injEq] at he
    exact ⟨g, rfl, he.1⟩
theorem SS.cells {P : Snt} {lf : List Int} (h : SS sg cs v P lf) {j : Nat} (hj : j < lf.length) : cs[j * 3]? = some (.int .i64 (toS P j)) ∧ cs[j * 3 + 1]? = some (.int .i64 (atS P j)) ∧ cs[j * 3 + 2]? = some (.int .i64 lf[j]) := h.2.2 j hj
theorem SS.set {g : Nat} {P : Snt} {lf : List Int} {va : Option Addr} {vk m : Nat} (h : SS [(g, 75, cs)] cs (.slice va m vk) P lf) {j : Nat} (hj : j < lf.length) (x : Int) : SS [(g, 75, cs.set (j * 3 + 2) (.int .i64 x))] (cs.set (j * 3 + 2) (.int .i64 x)) (.slice va m vk) P (lf.set j x) := by
  obtain ⟨hO, hl, hT⟩ := h
  refine ⟨?_, by simp [hl], fun i hi => ?_⟩
  · rcases hO with ⟨h0, _⟩ | ⟨g', cap, he, hv, e1, e2, e3⟩
    · cases h0
    · simp only [List.cons.injEq, Prod.mk.injEq, and_true] at he
      obtain ⟨rfl, _⟩ := he
      exact .inr ⟨g, cap, rfl, hv, e1, e2, by simpa using e3⟩
  · rw [List.length_set] at hi
    obtain ⟨a1, a2, a3⟩ := hT i hi
    have hlen : j * 3 + 2 < cs.length := (List.getElem?_eq_some_iff.1 (hT j hj).2.2).1
    rw [List.getElem?_set_ne (by omega), List.getElem?_set_ne (by omega), List.getElem_set]
    refine ⟨a1, a2, ?_⟩
    by_cases e : j = i
    · subst e; rw [if_pos rfl, List.getElem?_set_self (by omega)]
    · rw [if_neg e, List.getElem?_set_ne (by omega)]; exact a3
/-- append of one triple -/
theorem wpl_appP {ops : Array Oper} {rest : List Oper} {o : Oper} {a : Act} {Q : Exit → Act → World → Prop} (hgd : o.guard = none) (s x : Operand)
    (ho : o.op = .call { callee := .builtin .append, args := #[s, x], argTypes := #[67, 67] })
    (E : EnvP D0 w F G mb n ls W) (hF : F = A ++ (sg ++ B')) {P : Snt} {lf : List Int} (hS : SS sg cs v P lf) (hs : a.eval s = v) {ad : Option Addr} {c : Nat} {t d k : Int} (b : Nat) (hx : a.eval x = .slice ad 1 c) (hsrc : SrcN 3 W ad 1 [.int .i64 t, .int .i64 d, .int .i64 k]) (hb : P.length + 1 ≤ 1000000)
    (h : ∀ (g' cap' : Nat) (cs' : List Value) (W' : World), Hid (SS [(g', 75, cs')] cs' (.slice (some ⟨g', 0, none⟩) (P.length + 1) cap') (P ++ [(t, d, b)]) (lf ++ [k])) → Hid (EnvP D0 w (A ++ ((g', 75, cs') :: B')) G mb n ls W') → wpList Try.prog ops Q rest (a.put o.dst (.slice (some ⟨g', 0, none⟩) (P.length + 1) cap')) W') :
    wpList Try.prog ops Q (o :: rest) a W := by
  refine wpList_plain hgd fun K hK => ?_
  obtain ⟨hu, i0, z, by0, hi0, z0, z1, z2, z3, z4, z5⟩ := tiS
  have hsrc0 := hsrc
  obtain ⟨hnl, h1, hcell⟩ := hsrc
  obtain ⟨aa, rfl, hcell2⟩ := hcell.resolve_left (by decide)
  subst hF
  have hO := hS.1
  have hown : W.ownsRow 0 75 3 v P.length (cs.take (P.length * 3)) := by
    rcases hO with ⟨rfl, rfl, rfl, h0⟩ | ⟨g, cap, rfl, rfl, h2, h3, h4⟩
    · exact ⟨by simp [h0], .inl ⟨rfl, h0⟩⟩
    · have hX := E.bx A.length (b := g) (T := 75) (cs := cs) (by simp)
      exact ⟨by rw [List.length_take, h4, Nat.min_eq_left (Nat.mul_le_mul_right _ h2)], .inr ⟨g, cap, cs.toArray, rfl, Nat.zero_le _, hX.2, h2, by unfold maxLen; omega, by simpa using h4, by simp⟩⟩
  have hby : (P.length + 1) * by0 ≤ 140737488355328 := Nat.le_trans (Nat.mul_le_mul hb z5) (by decide)
  obtain ⟨v', W', hr, hown', hgrow, hnil, hat⟩ := run_append_own_at (P := Try.prog) W 0 67 o.type 75 i0 z 3 by0 hu hi0 z0 z1 z2 z3 z4 v P.length _ hown aa 1 c [.int .i64 t, .int .i64 d, .int .i64 k] hnl hcell2 h1 (by unfold maxLen; omega) hby (Nat.zero_le _)
  obtain ⟨dm, hM, hP⟩ := E.map
  have hmb : some mb ≠ v.ownBlock := by
    rcases hO with ⟨rfl, rfl, rfl, _⟩ | ⟨g, cap, rfl, rfl, _⟩
    · simp [Value.ownBlock]
    · have := box_ne (E.bx A.length (b := g) (T := 75) (cs := cs) (by simp)) hM
      simpa [Value.ownBlock] using this
  have hM' := hM.kept hgrow hmb
  rcases hown'.2 with ⟨rfl, h0⟩ | ⟨g', cap', cur, rfl, _, hg, h2, h3, h4, h5⟩
  · have := (hnil.1 rfl).2; omega
  have hE : Env D0 w (A ++ ((g', 75, cur.toList) :: B')) G W' := by
    rcases hO with ⟨rfl, rfl, rfl, _⟩ | ⟨g, cap, rfl, rfl, e1, e2, e3⟩
    · have hbw : Below W.heap.size W W' := ⟨hgrow.os, hgrow.tape, hgrow.output, hgrow.size, fun k hk => hgrow.block k hk (by simp [Value.ownBlock])⟩
      have hgg : W.heap.size ≤ g' := by
        rcases hat with h | h <;> simp [Value.ownBlock] at h
        omega
      have E3 := E.env.gotBox hbw (g := g') (T := 75) (cs := cur.toList) ⟨hgg, by rw [Array.toArray_toList]; exact hg⟩
      exact E3.perm (by rw [List.nil_append]; exact List.perm_middle.symm)
    · have hgg : g' = g ∨ W.heap.size ≤ g' := by
        rcases hat with h | h
        · simp [Value.ownBlock] at h; exact .inl h
        · simp [Value.ownBlock] at h; exact .inr (by omega)
      have hoff : Off g W W' := ⟨hgrow.os, hgrow.tape, hgrow.output, hgrow.size, fun k hk hne => hgrow.block k hk (by simp [Value.ownBlock]; omega)⟩
      have E3 := E.env.ins A.length (g := g) (T := 75) (cs := cs) (by simp) hoff hgg (cs' := cur.toList) (by rw [Array.toArray_toList]; exact hg)
      have e : (A ++ ([(g, 75, cs)] ++ B')).set A.length (g', 75, cur.toList) = A ++ ((g', 75, cur.toList) :: B') := by simp
      rw [e] at E3; exact E3
  have hS' := hS.app (t := t) (d := d) (c := k) (b := b) (cs' := cur.toList) (g' := g') (cap' := cap') ⟨h2, by unfold maxLen at h3; omega, by simpa using h4⟩ h5
  unfold Oper.wp execOp
  simp only [ho, resolve, invoke, builtin, Sem.run_bind, Sem.run_pure, Result.andThen_ok, List.map_toArray, List.map_cons, List.map_nil, hs, hx, hr]
  exact hK _ _ (h g' cap' cur.toList W' (Lib.hid hS') (Lib.hid ⟨hE, ⟨dm, hM', hP⟩, E.ge⟩))
theorem SrcN.snt {B g : Nat} {T : TypeId} {W : World} {t d c : Int} (h : Box B g T [.int .i64 t, .int .i64 d, .int .i64 c] W) : SrcN 3 W (some ⟨g, 0, none⟩) 1 [.int .i64 t, .int .i64 d, .int .i64 c] :=
  SrcN.box h rfl (by intro u hu; simp only [List.mem_cons, List.not_mem_nil, or_false] at hu; rcases hu with rfl | rfl | rfl <;> rfl)
/-- an action: its kind, its party, its time -/
abbrev Acts := List (Nat × Nat × Nat)
def acl (l : Acts) : List Value := l.flatMap fun x => [.int .u8 (x.1 : Int), .int .u8 (x.2.1 : Int), .int .u8 (x.2.2 : Int)]
theorem acl_get : ∀ (l : Acts) (i : Nat) (h : i < l.length), (acl l)[i * 3]? = some (.int .u8 (l[i].1 : Nat)) ∧ (acl l)[i * 3 + 1]? = some (.int .u8 (l[i].2.1 : Nat)) ∧ (acl l)[i * 3 + 2]? = some (.int .u8 (l[i].2.2 : Nat))
  | [], i, h => absurd h (Nat.not_lt_zero _)
  | x :: l, 0, h => ⟨rfl, rfl, rfl⟩
  | x :: l, i + 1, h => by
    have := acl_get l i (by simpa using h)
    have e : acl (x :: l) = [.int .u8 (x.1 : Int), .int .u8 (x.2.1 : Int), .int .u8 (x.2.2 : Int)] ++ acl l := rfl
    rw [e, List.getElem?_append_right (by simp; omega), List.getElem?_append_right (by simp; omega), List.getElem?_append_right (by simp; omega)]
    simp only [List.length_cons, List.length_nil, List.getElem_cons_succ]
    rw [show (i + 1) * 3 - (0 + 1 + 1 + 1) = i * 3 by omega, show (i + 1) * 3 + 1 - (0 + 1 + 1 + 1) = i * 3 + 1 by omega, show (i + 1) * 3 + 2 - (0 + 1 + 1 + 1) = i * 3 + 2 by omega]
    exact this
theorem EnvP.elA (h : EnvP D0 w F G mb n ls W) (i : Nat) {b off m j : Nat} {l : Acts} (e : G[i]? = some (.rw (.slice (some ⟨b, off, none⟩) m j) m 3 (acl l))) (hn : m = l.length) (k : Nat) (hk : k < l.length) :
    EnvP D0 w F (.ce b (off + k * 3) (.int .u8 (l[k].1 : Nat)) :: .ce b (off + k * 3 + 1) (.int .u8 (l[k].2.1 : Nat)) :: .ce b (off + k * 3 + 2) (.int .u8 (l[k].2.2 : Nat)) :: G) mb n ls W := by
  have hm : Rw W (DF D0 w.heap.size F) (.slice (some ⟨b, off, none⟩) m j) m 3 (acl l) := h.env.fct.get i e
  have := acl_get l k hk
  exact ((h.note (.ce _ _ _) (hm.el (by omega) this.2.2)).note (.ce _ _ _) (hm.el (by omega) this.2.1)).note (.ce _ _ _) (hm.el (by omega) this.1)
end
theorem Env.freeze8 {D0 : Nat → Prop} {w W : World} {F : List Bx} {G : List Fct} {g : Nat} {T : TypeId} {b : Nat} (E : Env D0 w ((g, T, [.int .u8 (b : Nat)]) :: F) G W) (hb : b < 256) : Env D0 w F (.bs (.slice (some ⟨g, 0, none⟩) 1 1) [b] :: G) W := by
  have hB := E.box.1
  refine E.drop.note _ ⟨some ⟨g, 0, none⟩, 1, rfl, Nat.le_refl _, by omega, by intro x hx; simp at hx; omega, fun _ => ⟨g, 0, rfl, ⟨hB.lt, fun p hp => E.box.2.1 p hp, .inr hB.1⟩, fun i hi => ?_⟩, trivial⟩
  have : i = 0 := by simp at hi; omega
  subst this
  exact hB.cell 0 rfl
theorem EnvP.freeze8 {D0 : Nat → Prop} {w W : World} {F : List Bx} {G : List Fct} {mb n : Nat} {ls : Lst} {g : Nat} {T : TypeId} {b : Nat} (E : EnvP D0 w ((g, T, [.int .u8 (b : Nat)]) :: F) G mb n ls W) (hb : b < 256) : EnvP D0 w F (.bs (.slice (some ⟨g, 0, none⟩) 1 1) [b] :: G) mb n ls W := ⟨E.env.freeze8 hb, E.map, E.ge⟩
end Go.Proofs.Ytbcfcdcomboljaa

/- Pairs of uses: their cells, lists of them that a call grows. -/
import Derived.Test.YtfnnfmefihiefaaSpAa
import Derived.Test.YtfnnfmefihiefaaSpWa
import Derived.Test.YtfnnfmefihiefaaSpBa
namespace Go.Proofs.Ytfnnfmefihiefaa
open Go.RowKit
set_option linter.unusedVariables false
set_option linter.unusedSimpArgs false
abbrev Pv := Uv × Uv
def pcc (p : Pv) : List Value := uvc p.1 ++ uvc p.2
def upc (L : List Pv) : List Value := (L.map pcc).flatten
def pus (p : Pv) : Us × Us := (p.1.u, p.2.u)
/-- the uses of pairs lie in memory -/
def gPd (L : List Pv) : GF where
  at_ w D := ∀ p ∈ L, (gUv p.1).at_ w D ∧ (gUv p.2).at_ w D
  turn h hs hD hc p hp := ⟨(gUv p.1).turn (h p hp).1 hs hD hc, (gUv p.2).turn (h p hp).2 hs hD hc⟩
/-- the slice v reads as the pairs L -/
def gPl (v : Value) (L : List Pv) : GF where
  at_ w D := Rw w D v L.length 166 (upc L) ∧ (gPd L).at_ w D
  turn h hs hD hc := ⟨h.1.turn hs hD hc, (gPd L).turn h.2 hs hD hc⟩
theorem pcc_len {w : World} {D : Nat → Prop} {p : Pv} (h : (gUv p.1).at_ w D) (h' : (gUv p.2).at_ w D) : (pcc p).length = 166 := by unfold pcc; rw [List.length_append, gUv.len h, gUv.len h']
theorem pcc_one {w : World} {D : Nat → Prop} {p : Pv} (h : (gUv p.1).at_ w D) (h' : (gUv p.2).at_ w D) : ∀ v ∈ pcc p, v.oneCell' = true := fun v hv => (List.mem_append.1 hv).elim (gUv.one h v) (gUv.one h' v)
theorem gPd.nil {w : World} {D : Nat → Prop} : (gPd []).at_ w D := fun p hp => by cases hp
theorem gPd.app {w : World} {D : Nat → Prop} {X : List Pv} {p : Pv} (h : (gPd X).at_ w D) (h1 : (gUv p.1).at_ w D) (h2 : (gUv p.2).at_ w D) : (gPd (X ++ [p])).at_ w D := fun q hq => by
  rcases List.mem_append.1 hq with hq | hq
  · exact h q hq
  · obtain rfl : q = p := by simpa using hq
    exact ⟨h1, h2⟩
theorem gPd.len {w : World} {D : Nat → Prop} {L : List Pv} (h : (gPd L).at_ w D) : ∀ c ∈ L.map pcc, c.length = 166 := by
  intro c hc
  obtain ⟨p, hp, rfl⟩ := List.mem_map.1 hc
  exact pcc_len (h p hp).1 (h p hp).2
theorem upc_len {w : World} {D : Nat → Prop} {L : List Pv} (h : (gPd L).at_ w D) : (upc L).length = L.length * 166 := by
  have := flat_len (gPd.len h)
  rwa [List.length_map] at this
theorem upc_one {w : World} {D : Nat → Prop} {L : List Pv} (h : (gPd L).at_ w D) : ∀ v ∈ upc L, v.oneCell' = true := by
  intro v hv
  obtain ⟨c, hc, hv⟩ := List.mem_flatten.1 hv
  obtain ⟨p, hp, rfl⟩ := List.mem_map.1 hc
  exact pcc_one (h p hp).1 (h p hp).2 v hv
theorem gPl.nil (W : World) (D : Nat → Prop) : (gPl nilV []).at_ W D := ⟨Rw.nil W D 166, gPd.nil⟩
theorem gPl.len {W : World} {D : Nat → Prop} {v : Value} {X : List Pv} (h : (gPl v X).at_ W D) : ∃ a k, v = .slice a X.length k := h.1.len
theorem gPl.addr {W : World} {D : Nat → Prop} {a : Option Addr} {n c : Nat} {X : List Pv} (h : (gPl (.slice a n c) X).at_ W D) (hk : X ≠ []) : ∃ b o, a = some ⟨b, o, none⟩ := by
  have hr := h.1
  have hn : n = X.length := by obtain ⟨_, _, h1, _⟩ := hr; simp only [Value.slice.injEq] at h1; exact h1.2.1
  subst hn
  exact Rw.addr hr (by intro e; exact hk (List.length_eq_zero_iff.1 e))
/-- a list of pairs of the call's own -/
def OP (sg : List Bx) (cs : List Value) (v : Value) (X : List Pv) : Prop := OS 78 166 sg cs v X.length ∧ cs.take (X.length * 166) = upc X
theorem OP.nil : OP [] [] nilV [] := ⟨.inl ⟨rfl, rfl, rfl, rfl⟩, rfl⟩
theorem upc_app (L M : List Pv) : upc (L ++ M) = upc L ++ upc M := by unfold upc; simp
theorem upc_one1 (p : Pv) : upc [p] = pcc p := by unfold upc; simp
section
variable {D0 : Nat → Prop} {w W : World} {F : List Bx} {G : List Fct} {sg : List Bx} {cs : List Value} {v : Value} {X : List Pv}
theorem OP.os {n : Nat} (h : OP sg cs v X) (en : X.length = n) : OS 78 166 sg cs v n := en ▸ h.1
theorem OP.val {X : List Pv} {g n c : Nat} {x : Pv} (en : X.length = n) : Value.slice (some ⟨g, 0, none⟩) (n + 1) c = .slice (some ⟨g, 0, none⟩) (X ++ [x]).length c := by subst en; simp
theorem OP.app {x : Pv} {cs' : List Value} {g' cap' n : Nat} (hL : OP sg cs v X) (en : X.length = n) (h : n + 1 ≤ cap' ∧ cap' ≤ 9223372036854775807 ∧ cs'.length = cap' * 166) (ht : cs'.take ((n + 1) * 166) = cs.take (n * 166) ++ pcc x) : OP [(g', 78, cs')] cs' (.slice (some ⟨g', 0, none⟩) (n + 1) cap') (X ++ [x]) := by
  subst en
  refine ⟨.inr ⟨g', cap', rfl, by simp, by simpa using h.1, h.2.1, h.2.2⟩, ?_⟩
  rw [List.length_append, List.length_singleton, ht, hL.2, upc_app, upc_one1]
theorem OP.len' {g c : Nat} {x : Pv} {sg' : List Bx} (h : Hid (OP sg' cs (.slice (some ⟨g, 0, none⟩) (X.length + 1) c) (X ++ [x]))) : Hid (OP sg' cs (.slice (some ⟨g, 0, none⟩) (X ++ [x]).length c) (X ++ [x])) := by rw [List.length_append]; exact h
theorem OP.ret (h : OP sg cs v X) (E : Env D0 w F G W) (hs : ∀ p ∈ sg, p ∈ F) (hd : (gPd X).at_ W (fun b => D0 b ∨ w.heap.size ≤ b)) : (gPl v X).at_ W (fun b => D0 b ∨ w.heap.size ≤ b) :=
  ⟨OS.rw h.1 E hs h.2 (upc_one hd), hd⟩
end
theorem Try.infoPair : (Try.prog.info? 78).map (fun i => (i.zero, i.size, i.bytes)) = some (some (.agg (usc zU nilV nilV ++ usc zU nilV nilV).toArray), 166, 496) := by kernel_rfl
theorem zPair_len : (usc zU nilV nilV ++ usc zU nilV nilV).length = 166 := by rw [List.length_append, usc_len (u := zU) zS_ok]
theorem tiPair : TI 75 78 166 := .ofInfo Try.underlying75 Try.infoPair (by show (usc zU nilV nilV ++ usc zU nilV nilV).toArray.size = 166; rw [List.size_toArray, zPair_len]) (by omega) (by omega)
theorem sizeUse2 : Try.prog.info? 44 ≠ none := by
  obtain ⟨i0, hi, _⟩ := info_parts Try.infoUse
  rw [hi]; exact fun h => by cases h
theorem built_pair {c d : List Value} (hc : c.length = 83) (hd : d.length = 83) : Try.prog.built 78 [(0, .agg c.toArray), (1, .agg d.toArray)] = some (c ++ d).toArray := by
  obtain ⟨i0, hi, hz0, hz1, hz2⟩ := info_parts Try.infoUse
  obtain ⟨i1, hj, jz0, jz1, jz2⟩ := info_parts Try.infoPair
  have hl := zPair_len
  unfold Program.built
  simp only [hj, Try.underlying78, jz0, hi]
  show Instr.fill (fun i => some (i * i0.size, i0.size)) (usc zU nilV nilV ++ usc zU nilV nilV).toArray _ = _
  rw [fill_to (off := 0) (n := 83) (vs := c) (cs := usc zU nilV nilV ++ usc zU nilV nilV) (cs' := c ++ (usc zU nilV nilV ++ usc zU nilV nilV).drop 83) rfl (by rw [hz1]) hc (by omega) (by simp)]
  have e83 : ((usc zU nilV nilV ++ usc zU nilV nilV).drop 83).length = 83 := by rw [List.length_drop]; omega
  rw [fill_to (off := 83) (n := 83) (vs := d) (cs := c ++ (usc zU nilV nilV ++ usc zU nilV nilV).drop 83) (cs' := c ++ d) rfl (by rw [hz1]) hd (by rw [List.length_append]; omega) (by
    have h1 : (c ++ (usc zU nilV nilV ++ usc zU nilV nilV).drop 83).take 83 = c := by rw [List.take_append_of_le_length (by omega), List.take_of_length_le (by omega)]
    have h2 : (c ++ (usc zU nilV nilV ++ usc zU nilV nilV).drop 83).drop (83 + 83) = [] := List.drop_eq_nil_of_le (by rw [List.length_append]; omega)
    rw [h1, h2, List.append_nil])]
  rfl
theorem exec_pair {oi : Oper} {ev : Operand → Value} {w : World} {c d : List Value} (hc : c.length = 83) (hd : d.length = 83) (hx : ∃ x y, oi.op = .build 78 #[(0, x), (1, y)] ∧ ev x = .agg c.toArray ∧ ev y = .agg d.toArray) :
    (execOp ev oi).run Try.prog w = .ok (.value (.agg (c ++ d).toArray)) w := by
  obtain ⟨x, y, ho, h1, h2⟩ := hx
  exact exec_build_b _ ho [(0, .agg c.toArray), (1, .agg d.toArray)] (by simp [h1, h2]) _ (built_pair hc hd)
theorem wpl_pair {ops : Array Oper} {rest : List Oper} {op : Oper} {a : Act} {w : World} {Q : Exit → Act → World → Prop} {c d : List Value} (hc : c.length = 83) (hd : d.length = 83) (hg : op.guard = none) (hx : ∃ x y, op.op = .build 78 #[(0, x), (1, y)] ∧ a.eval x = .agg c.toArray ∧ a.eval y = .agg d.toArray)
    (h : wpList Try.prog ops Q rest (a.put op.dst (.agg (c ++ d).toArray)) w) : wpList Try.prog ops Q (op :: rest) a w := by
  obtain ⟨x, y, ho, h1, h2⟩ := hx
  exact wpl_build_b hg _ ho [(0, .agg c.toArray), (1, .agg d.toArray)] (by simp [h1, h2]) _ (built_pair hc hd) h
theorem built_slice1p {cs : List Value} (hl : cs.length = 166) : Try.prog.builtSlice 78 1 [(0, .agg cs.toArray)] = some cs.toArray := by
  obtain ⟨i0, hi, hz0, hz1, hz2⟩ := info_parts Try.infoPair
  unfold Program.builtSlice
  simp only [hi, hz0, hz1]
  rw [if_neg (by decide)]
  generalize hA : (Array.range (1 * 166)).map (fun k => (Value.agg (usc zU nilV nilV ++ usc zU nilV nilV).toArray).cells[k % (Value.agg (usc zU nilV nilV ++ usc zU nilV nilV).toArray).cells.size]!) = Z
  have hz : Z.size = 166 := by rw [← hA]; simp
  obtain ⟨l, rfl⟩ : ∃ l : List Value, Z = l.toArray := ⟨Z.toList, by simp⟩
  have hl2 : l.length = 166 := by simpa using hz
  rw [fill_one (off := 0) (n := 166) (vs := cs) rfl rfl hl (by omega)]
  simp [Instr.fill, hl2]
theorem op_slice1p {o : Oper} {a : Act} {w : World} {K : Act → World → Prop} {Q : Exit → Act → World → Prop} {EE : Prop} {ops : Array Oper} (d : Option Tmp) (hgd : o.guard = none) (hd : o.dst = d) (x : Operand) (ho : o.op = .buildSlice 75 1 #[(0, x)]) (cs : List Value) (hl : cs.length = 166) (hx : a.eval x = .agg cs.toArray)
    (h : K (a.put d (.slice (some ⟨w.heap.size, 0, none⟩) 1 1)) (w.alloc (.cells cs.toArray 78))) : if Region.wanted o (yielded ops a.tmps) = true then Oper.wp Try.prog o a w K Q else EE := by
  have hw : Region.wanted o (yielded ops a.tmps) = true := by simp [Region.wanted, hgd]
  rw [if_pos hw]
  subst hd
  have hb := built_slice1p hl
  unfold Program.builtSlice at hb
  obtain ⟨i0, hi, hz0, hz1, hz2⟩ := info_parts Try.infoPair
  simp only [hi, hz0] at hb
  by_cases hc : 1 * i0.size > 2 ^ 24 ∨ 1 * i0.size = 0
  · rw [if_pos hc] at hb; cases hb
  · rw [if_neg hc] at hb
    exact wp_buildSlice 75 78 1 #[(0, x)] ho cs.toArray i0 _ Try.underlying75 hi hz0 (fun h' => hc (.inl h')) (fun h' => hc (.inr h')) (by rw [← hb]; simp [hx]) h
theorem wpl_slice1p {ops : Array Oper} {rest : List Oper} {o : Oper} {a : Act} {w : World} {Q : Exit → Act → World → Prop} (hg : o.guard = none) (cs : List Value) (hl : cs.length = 166) (hx : ∃ x, o.op = .buildSlice 75 1 #[(0, x)] ∧ a.eval x = .agg cs.toArray)
    (h : wpList Try.prog ops Q rest (a.put o.dst (.slice (some ⟨w.heap.size, 0, none⟩) 1 1)) (w.alloc (.cells cs.toArray 78))) : wpList Try.prog ops Q (o :: rest) a w := by
  obtain ⟨x, ho, hx⟩ := hx
  exact Great.wpList_buildSliceTo hg 75 78 1 #[(0, x)] ho w.heap.size rfl o.dst rfl Try.underlying75 cs.toArray (by rw [← built_slice1p hl]; simp [hx]) h
/-- a table, pairs, an error number -/
def RetTP (D : Nat → Prop) (L : List Us) (C : List (Us × Us)) (n : Int) (e : Ending) (W : World) : Prop := ∃ va vk X ca ck Y, e = .returned (.tuple #[.agg #[.slice va X.length vk], .slice ca Y.length ck, .int .i64 n]) ∧ X.map Uv.u = L ∧ Y.map pus = C ∧ Hid ((gUl (.slice va X.length vk) X).at_ W D) ∧ Hid ((gPl (.slice ca Y.length ck) Y).at_ W D)
theorem RetTP.fail {D : Nat → Prop} {L : List Us} {C : List (Us × Us)} {n m : Int} {W : World} (h : L = [] ∧ C = [] ∧ n = m) : RetTP D L C n (.returned (.tuple #[.agg #[.slice none 0 0], .slice none 0 0, .int .i64 m])) W := by
  obtain ⟨rfl, rfl, rfl⟩ := h
  exact ⟨none, 0, [], none, 0, [], rfl, rfl, rfl, Lib.hid (gUl.nil _ _), Lib.hid (gPl.nil _ _)⟩
end Go.Proofs.Ytfnnfmefihiefaa

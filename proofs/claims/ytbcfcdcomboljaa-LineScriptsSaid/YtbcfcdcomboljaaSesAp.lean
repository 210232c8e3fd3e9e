/- append of messages onto a list of the call's own, as a walk holds it. -/
import Derived.Test.YtbcfcdcomboljaaSesN
import Derived.Deep.Upon
namespace Go.Proofs.Ytbcfcdcomboljaa
open Go.RowKit
set_option linter.unusedVariables false
/-- the slice (ad, m) reads as the cells news -/
def SrcM (W : World) (ad : Option Addr) (m : Nat) (news : List Value) : Prop := news.length = m * 5 ∧ (∀ u ∈ news, u.oneCell' = true) ∧ (m = 0 ∨ ∃ a, ad = some a ∧ ∀ j u, news[j]? = some u → W.cell? (a.add j) = some u)
set_option maxRecDepth 100000 in
theorem wpList_appM {ops : Array Oper} {rest : List Oper} {o : Oper} {a : Act} {Q : Exit → Act → World → Prop} {D0 : Nat → Prop} {w W : World} {F : List Bx} {G : List Fct} (hgd : o.guard = none) (s x : Operand)
    (ho : o.op = .call { callee := .builtin .append, args := #[s, x], argTypes := #[25, 25] })
    (E : Env D0 w F G W) (idx : Nat) {g n cap N : Nat} {cs : List Value} (e : F[idx]? = some (g, 24, cs)) (hc : n ≤ cap ∧ cap ≤ 9223372036854775807 ∧ cs.length = cap * 5)
    (hs : a.eval s = .slice (some ⟨g, 0, none⟩) n cap) {ad : Option Addr} {m c : Nat} {news : List Value} (hx : a.eval x = .slice ad m c) (hsrc : SrcM W ad m news) (hN : n + m = N) (hnm : N ≤ 1000000)
    (h : ∀ (g' cap' : Nat) (cs' : List Value) (W' : World), Hid (N ≤ cap' ∧ cap' ≤ 9223372036854775807 ∧ cs'.length = cap' * 5) → Hid (cs'.take (N * 5) = cs.take (n * 5) ++ news) → Hid (Env D0 w (F.set idx (g', 24, cs')) G W') → wpList Try.prog ops Q rest (a.put o.dst (.slice (some ⟨g', 0, none⟩) N cap')) W') :
    wpList Try.prog ops Q (o :: rest) a W := by
  obtain ⟨i0, hi0, z0, z1, z2⟩ := infoM_open
  obtain ⟨hnl, h1, hcell⟩ := hsrc
  have hX := E.bx idx e
  subst hN
  have hset : F.set idx (g, 24, cs) = F := by
    apply List.ext_getElem?
    intro i
    rw [List.getElem?_set]
    split
    · next hh => subst hh; split
                 · exact e.symm
                 · next h2 => rw [List.getElem?_eq_none (by omega)]
    · rfl
  rcases hcell with rfl | ⟨ad, rfl, hcell⟩
  · have hn0 : news = [] := List.length_eq_zero_iff.1 (by omega)
    subst hn0
    have hsrc : Src Try.prog i0.size 25 (.slice ad 0 c) 0 [] W := by
      cases ad with
      | none => exact Src.ofNil W Try.underlying25 c
      | some ad => exact Src.ofSlice W Try.underlying25 ad 0 c [] (by simp) (by intro j u hj; simp at hj) (by simp)
    refine wpList_plain hgd fun K hK => ?_
    have hr := run_append_nothing W 25 25 o.type 24 i0 Try.underlying25 hi0 (some ⟨g, 0, none⟩) n cap hc.1 (.slice ad 0 c) hsrc
    unfold Oper.wp execOp
    simp only [ho, resolve, invoke, builtin, Sem.run_bind, Sem.run_pure, Result.andThen_ok, List.map_toArray, List.map_cons, List.map_nil, hs, hx, hr]
    exact hK _ _ (h g cap cs W (Lib.hid hc) (Lib.hid (by simp)) (Lib.hid (by rw [hset]; exact E)))
  · have hown : W.ownsRow 0 24 5 (.slice (some ⟨g, 0, none⟩) n cap) n (cs.take (n * 5)) := ⟨by simp [hc.2.2]; omega, .inr ⟨g, cap, cs.toArray, rfl, Nat.zero_le _, hX.2, hc.1, by unfold maxLen; omega, by simpa using hc.2.2, by simp⟩⟩
    refine wpList_append_own_at W hgd s x 25 ho 0 24 i0 mzero 5 56 Try.underlying25 hi0 z0 z1 z2 rfl (by omega) _ n _ hs hown ad m c news hx hnl hcell h1 (by unfold maxLen; omega) (by omega) (Nat.zero_le _) ?_
    intro v' W' hown hgrow hnil hat
    rcases hown.2 with ⟨rfl, h0⟩ | ⟨g', cap', cur, rfl, _, hg, h2, h3, h4, h5⟩
    · have := (hnil.1 rfl).1; simp at this
    · have hgg : g' = g ∨ W.heap.size ≤ g' := by
        rcases hat with h | h
        · simp [Value.ownBlock] at h; exact .inl h
        · simp [Value.ownBlock] at h; exact .inr (by omega)
      have hoff : Off g W W' := ⟨hgrow.os, hgrow.tape, hgrow.output, hgrow.size, fun k hk hne => hgrow.block k hk (by simp [Value.ownBlock]; omega)⟩
      exact h g' cap' cur.toList W' (Lib.hid ⟨h2, by unfold maxLen at h3; omega, by simpa using h4⟩) (Lib.hid h5) (Lib.hid (E.ins idx e hoff hgg (by rw [Array.toArray_toList]; exact hg)))
/-- the cells of a list that the caller gave -/
theorem ms_news {W : World} {D : Nat → Prop} {ao : Option Addr} {c : Nat} {L : List Msg} (h : Fct.at W D (.ms (.slice ao L.length c) L)) : ∃ news, SrcM W ao L.length news ∧ Fct.at W D (.mc news L) := by
  cases L with
  | nil => exact ⟨[], ⟨rfl, by simp, .inl rfl⟩, fun i hi => by simp at hi⟩
  | cons d dn =>
    obtain ⟨b, off, j, e⟩ := Ms.open h (by simp)
    simp only [Value.slice.injEq] at e
    obtain ⟨rfl, _, rfl⟩ := e
    generalize d :: dn = L at *
    obtain ⟨news, hnews⟩ : ∃ news : List Value, news = (List.range (L.length * 5)).map fun j => (W.cell? ⟨b, off + j, none⟩).getD (.bool false) := ⟨_, rfl⟩
    have hlen : news.length = L.length * 5 := by rw [hnews]; simp
    have hat : ∀ i (hi : i < L.length), MsAt W D b (off + i * 5) L[i] := fun i hi => Ms.el h i hi
    have hex : ∀ j, j < L.length * 5 → ∃ v, W.cell? ⟨b, off + j, none⟩ = some v ∧ v.oneCell' = true := by
      intro j hj
      obtain ⟨i, r, hi, hr, rfl⟩ : ∃ i r, i < L.length ∧ r < 5 ∧ j = i * 5 + r := ⟨j / 5, j % 5, by omega, Nat.mod_lt _ (by omega), by omega⟩
      obtain ⟨h1, h2, h3, h4, bv, h5, h6⟩ := hat i hi
      obtain ⟨ao, k, rfl⟩ := h6.len
      rw [← Nat.add_assoc]
      match r, hr with
      | 0, _ => exact ⟨_, h1, rfl⟩
      | 1, _ => exact ⟨_, h2, rfl⟩
      | 2, _ => exact ⟨_, h3, rfl⟩
      | 3, _ => exact ⟨_, h4, rfl⟩
      | 4, _ => exact ⟨_, h5, rfl⟩
    have hget : ∀ j v, W.cell? ⟨b, off + j, none⟩ = some v → j < L.length * 5 → news[j]? = some v := by
      intro j v hv hj
      rw [hnews, List.getElem?_map, List.getElem?_range hj]
      simp [hv]
    refine ⟨news, ⟨hlen, ?_, .inr ⟨_, rfl, ?_⟩⟩, ?_⟩
    · intro u hu
      obtain ⟨j, hj, rfl⟩ := List.getElem_of_mem hu
      have hj' : j < L.length * 5 := by omega
      obtain ⟨v, hv, h1⟩ := hex j hj'
      have := hget j v hv hj'
      rw [List.getElem?_eq_getElem hj] at this
      cases this; exact h1
    · intro j u hu
      have hj : j < L.length * 5 := by
        have := (List.getElem?_eq_some_iff.1 hu).1; omega
      obtain ⟨v, hv, _⟩ := hex j hj
      rw [hget j v hv hj] at hu
      cases hu
      rw [Addr.add_lit]
      exact hv
    · intro i hi
      obtain ⟨h1, h2, h3, h4, bv, h5, h6⟩ := hat i hi
      obtain ⟨ao, k, rfl⟩ := h6.len
      exact ⟨hget _ _ h1 (by omega), hget _ _ (by rw [← Nat.add_assoc]; exact h2) (by omega), hget _ _ (by rw [← Nat.add_assoc]; exact h3) (by omega), hget _ _ (by rw [← Nat.add_assoc]; exact h4) (by omega), ao, k, hget _ _ (by rw [← Nat.add_assoc]; exact h5) (by omega), h6⟩
theorem mc_app {W : World} {D : Nat → Prop} {cs cs' news : List Value} {L1 L2 : List Msg} (h1 : Fct.at W D (.mc cs L1)) (h2 : Fct.at W D (.mc news L2)) {n N : Nat} (hl : n * 5 ≤ cs.length) (hn : L1.length = n) (hN : n + L2.length = N) (ht : cs'.take (N * 5) = cs.take (n * 5) ++ news) : Fct.at W D (.mc cs' (L1 ++ L2)) := by
  subst hn hN
  have g : ∀ j, j < (L1.length + L2.length) * 5 → cs'[j]? = if j < L1.length * 5 then cs[j]? else news[j - L1.length * 5]? := by
    intro j hj
    have e1 : cs'[j]? = (cs'.take ((L1.length + L2.length) * 5))[j]? := by rw [List.getElem?_take, if_pos hj]
    rw [e1, ht]
    have hlen : (cs.take (L1.length * 5)).length = L1.length * 5 := by simp; omega
    by_cases h : j < L1.length * 5
    · rw [if_pos h, List.getElem?_append_left (by omega), List.getElem?_take, if_pos h]
    · rw [if_neg h, List.getElem?_append_right (by omega), hlen]
  intro i hi
  have hi' : i < L1.length + L2.length := by simpa using hi
  by_cases h : i < L1.length
  · rw [List.getElem_append_left h]
    obtain ⟨p0, p1, p2, p3, a, q, p4, p5⟩ := h1 i h
    refine ⟨?_, ?_, ?_, ?_, a, q, ?_, p5⟩
    all_goals (rw [g _ (by omega), if_pos (by omega)]; assumption)
  · rw [List.getElem_append_right (by omega)]
    obtain ⟨p0, p1, p2, p3, a, q, p4, p5⟩ := h2 (i - L1.length) (by omega)
    refine ⟨?_, ?_, ?_, ?_, a, q, ?_, p5⟩
    · rw [g _ (by omega), if_neg (by omega)]; rw [show i * 5 - L1.length * 5 = (i - L1.length) * 5 by omega]; exact p0
    · rw [g _ (by omega), if_neg (by omega)]; rw [show i * 5 + 1 - L1.length * 5 = (i - L1.length) * 5 + 1 by omega]; exact p1
    · rw [g _ (by omega), if_neg (by omega)]; rw [show i * 5 + 2 - L1.length * 5 = (i - L1.length) * 5 + 2 by omega]; exact p2
    · rw [g _ (by omega), if_neg (by omega)]; rw [show i * 5 + 3 - L1.length * 5 = (i - L1.length) * 5 + 3 by omega]; exact p3
    · rw [g _ (by omega), if_neg (by omega)]; rw [show i * 5 + 4 - L1.length * 5 = (i - L1.length) * 5 + 4 by omega]; exact p4
theorem mc_nil (W : World) (D : Nat → Prop) : Fct.at W D (.mc [] []) := fun i hi => by simp at hi
theorem mc_take {W : World} {D : Nat → Prop} {cs : List Value} {L : List Msg} (h : Fct.at W D (.mc cs L)) (k : Nat) : Fct.at W D (.mc (cs.take (k * 5)) (L.take k)) := by
  intro i hi
  have hi' : i < k ∧ i < L.length := by simp at hi; omega
  obtain ⟨p0, p1, p2, p3, a, q, p4, p5⟩ := h i hi'.2
  rw [List.getElem_take]
  refine ⟨?_, ?_, ?_, ?_, a, q, ?_, p5⟩
  all_goals (rw [List.getElem?_take, if_pos (by omega)]; assumption)
theorem mc_drop {W : World} {D : Nat → Prop} {cs : List Value} {L : List Msg} (h : Fct.at W D (.mc cs L)) (k : Nat) : Fct.at W D (.mc ((cs.take (L.length * 5)).drop (k * 5)) (L.drop k)) := by
  intro i hi
  have hi' : k + i < L.length := by simp at hi; omega
  obtain ⟨p0, p1, p2, p3, a, q, p4, p5⟩ := h (k + i) hi'
  rw [List.getElem_drop]
  have e : ∀ r, r < 5 → ((cs.take (L.length * 5)).drop (k * 5))[i * 5 + r]? = cs[(k + i) * 5 + r]? := fun r hr => by
    rw [List.getElem?_drop, List.getElem?_take, if_pos (by omega)]; congr 1; omega
  exact ⟨(e 0 (by omega)).trans p0, (e 1 (by omega)).trans p1, (e 2 (by omega)).trans p2, (e 3 (by omega)).trans p3, a, q, (e 4 (by omega)).trans p4, p5⟩
theorem mc_one' {W : World} {D : Nat → Prop} {M : Msg} {ao : Option Addr} {k : Nat} (hb : Bs W D (.slice ao M.body.length k) M.body) : Fct.at W D (.mc [.int .i64 M.fr, .int .i64 M.to_, .int .i64 M.kd, .int .i64 M.nm, .slice ao M.body.length k] [M]) := by
  intro i hi
  obtain rfl : i = 0 := by simp at hi; exact hi
  exact ⟨rfl, rfl, rfl, rfl, ao, k, rfl, hb⟩
/-- a part of a list of the call's own, as append's source -/
theorem Box.src {B g : Nat} {T : TypeId} {cs : List Value} {W : World} (h : Box B g T cs W) (o m : Nat) {news : List Value} (hl : news.length = m * 5) (hn : ∀ j u, news[j]? = some u → cs[o + j]? = some u) (h1 : ∀ u ∈ news, u.oneCell' = true) : SrcM W (some ⟨g, o, none⟩) m news :=
  ⟨hl, h1, .inr ⟨_, rfl, fun j u hj => by rw [Addr.add_lit]; exact h.cell _ (hn j u hj)⟩⟩
theorem Box.srcTake {B g : Nat} {T : TypeId} {cs : List Value} {W : World} {D : Nat → Prop} {L : List Msg} (h : Box B g T cs W) (hm : Fct.at W D (.mc cs L)) (hl : L.length * 5 ≤ cs.length) {k : Nat} (hk : k ≤ L.length) : SrcM W (some ⟨g, 0, none⟩) k (cs.take (k * 5)) :=
  h.src 0 k (by simp; omega) (fun j u hj => by
    rw [List.getElem?_take] at hj
    split at hj
    · rw [Nat.zero_add]; exact hj
    · cases hj) (fun u hu => mc_cells hm hl u (by
    obtain ⟨j, hj, rfl⟩ := List.getElem_of_mem hu
    have hj' : j < k * 5 := by simp at hj; omega
    rw [List.getElem_take]
    refine List.mem_of_getElem? (i := j) ?_
    rw [List.getElem?_take, if_pos (by omega)]
    exact List.getElem?_eq_getElem _))
theorem Box.srcDrop {B g : Nat} {T : TypeId} {cs : List Value} {W : World} {D : Nat → Prop} {L : List Msg} (h : Box B g T cs W) (hm : Fct.at W D (.mc cs L)) (hl : L.length * 5 ≤ cs.length) {k : Nat} (hk : k ≤ L.length) : SrcM W (some ⟨g, k * 5, none⟩) (L.length - k) ((cs.take (L.length * 5)).drop (k * 5)) :=
  h.src (k * 5) (L.length - k) (by simp; omega) (fun j u hj => by
    rw [List.getElem?_drop, List.getElem?_take] at hj
    split at hj
    · exact hj
    · cases hj) (fun u hu => mc_cells hm hl u (List.mem_of_mem_drop hu))
theorem mc_insL {W : World} {D : Nat → Prop} {cs : List Value} {L : List Msg} {k : Nat} {M : Msg} (h : Fct.at W D (.mc cs ((L.take k ++ [M]) ++ L.drop k))) : Fct.at W D (.mc cs (insL L k M)) := by
  rw [List.append_assoc] at h; exact h
theorem SrcM.zero (W : World) (ad : Option Addr) : SrcM W ad 0 [] := ⟨rfl, by simp, .inl rfl⟩
end Go.Proofs.Ytbcfcdcomboljaa

/- What a walk holds of a list of its own: messages put in; a copied list that may be empty. -/
import Derived.Test.YtbcfcdcomboljaaSesM
import Derived.Test.YtbcfcdcomboljaaSesY
namespace Go.Proofs.Ytbcfcdcomboljaa
open Go.RowKit
set_option linter.unusedVariables false
/-- the cells of a message -/
def mcells (M : Msg) (bv : Value) : List Value := [.int .i64 M.fr, .int .i64 M.to_, .int .i64 M.kd, .int .i64 M.nm, bv]
theorem insC_get {cs news : List Value} {n i : Nat} (hl : n * 5 ≤ cs.length) (hnl : news.length = 5) (hi : i ≤ n) (k r : Nat) (hr : r < 5) :
    (insC cs news n i)[k * 5 + r]? = if k < i then cs[k * 5 + r]? else if k = i then news[r]? else if k ≤ n then cs[(k - 1) * 5 + r]? else none := by
  have ht : ((cs.take (n * 5)).take (i * 5)).length = i * 5 := by simp; omega
  unfold insC
  rw [List.append_assoc]
  by_cases h1 : k < i
  · rw [if_pos h1, List.getElem?_append_left (by omega), List.getElem?_take, if_pos (by omega), List.getElem?_take, if_pos (by omega)]
  · rw [if_neg h1, List.getElem?_append_right (by omega), ht]
    by_cases h2 : k = i
    · subst h2
      rw [if_pos rfl, List.getElem?_append_left (by omega)]
      congr 1; omega
    · rw [if_neg h2, List.getElem?_append_right (by omega), hnl, List.getElem?_drop, List.getElem?_take]
      by_cases h3 : k ≤ n
      · rw [if_pos h3, if_pos (by omega)]; congr 1; omega
      · rw [if_neg h3, if_neg (by omega)]
/-- a list with one message put in -/
def insL (L : List Msg) (i : Nat) (M : Msg) : List Msg := L.take i ++ M :: L.drop i
theorem insL_length (L : List Msg) (i : Nat) (M : Msg) (h : i ≤ L.length) : (insL L i M).length = L.length + 1 := by simp [insL]; omega
theorem insL_get (L : List Msg) (i : Nat) (M : Msg) (h : i ≤ L.length) (k : Nat) : (insL L i M)[k]? = if k < i then L[k]? else if k = i then some M else L[k - 1]? := by
  unfold insL
  by_cases h1 : k < i
  · rw [if_pos h1, List.getElem?_append_left (by simp; omega), List.getElem?_take, if_pos h1]
  · rw [if_neg h1, List.getElem?_append_right (by simp; omega)]
    simp only [List.length_take, Nat.min_eq_left h]
    by_cases h2 : k = i
    · subst h2; simp
    · rw [if_neg h2]
      obtain ⟨d, rfl⟩ : ∃ d, k = i + 1 + d := ⟨k - i - 1, by omega⟩
      rw [show i + 1 + d - i = d + 1 by omega, List.getElem?_cons_succ, List.getElem?_drop]
      congr 1; omega
theorem mc_ins {W : World} {D : Nat → Prop} {cs cs' : List Value} {L : List Msg} {i : Nat} {M : Msg} {ao : Option Addr} {j : Nat} (h : Fct.at W D (.mc cs L)) (hl : L.length * 5 ≤ cs.length) (hi : i ≤ L.length)
    (ht : cs'.take ((L.length + 1) * 5) = insC cs (mcells M (.slice ao M.body.length j)) L.length i) (hb : Bs W D (.slice ao M.body.length j) M.body) : Fct.at W D (.mc cs' (insL L i M)) := by
  intro k hk
  rw [insL_length _ _ _ hi] at hk
  have g : ∀ r, r < 5 → cs'[k * 5 + r]? = if k < i then cs[k * 5 + r]? else if k = i then (mcells M (.slice ao M.body.length j))[r]? else if k ≤ L.length then cs[(k - 1) * 5 + r]? else none := by
    intro r hr
    rw [← insC_get (news := mcells M (.slice ao M.body.length j)) hl rfl hi k r hr, ← ht, List.getElem?_take, if_pos (by omega)]
  have hg : (insL L i M)[k]? = some (insL L i M)[k] := List.getElem?_eq_getElem _
  rw [insL_get _ _ _ hi] at hg
  by_cases h1 : k < i
  · rw [if_pos h1] at hg
    obtain ⟨hkL, e⟩ := List.getElem?_eq_some_iff.1 hg
    rw [← e]
    obtain ⟨p0, p1, p2, p3, a, q, p4, p5⟩ := h k hkL
    refine ⟨?_, ?_, ?_, ?_, a, q, ?_, p5⟩
    · have := g 0 (by omega); rw [if_pos h1] at this; exact this.trans p0
    · have := g 1 (by omega); rw [if_pos h1] at this; exact this.trans p1
    · have := g 2 (by omega); rw [if_pos h1] at this; exact this.trans p2
    · have := g 3 (by omega); rw [if_pos h1] at this; exact this.trans p3
    · have := g 4 (by omega); rw [if_pos h1] at this; exact this.trans p4
  · by_cases h2 : k = i
    · rw [if_neg h1, if_pos h2] at hg
      have e := Option.some.inj hg
      rw [← e]
      have g2 : ∀ r, r < 5 → cs'[k * 5 + r]? = (mcells M (.slice ao M.body.length j))[r]? := fun r hr => by have := g r hr; rw [if_neg h1, if_pos h2] at this; exact this
      exact ⟨g2 0 (by omega), g2 1 (by omega), g2 2 (by omega), g2 3 (by omega), ao, j, g2 4 (by omega), hb⟩
    · rw [if_neg h1, if_neg h2] at hg
      obtain ⟨hkL, e⟩ := List.getElem?_eq_some_iff.1 hg
      rw [← e]
      have g2 : ∀ r, r < 5 → cs'[k * 5 + r]? = cs[(k - 1) * 5 + r]? := fun r hr => by have := g r hr; rw [if_neg h1, if_neg h2, if_pos (by omega)] at this; exact this
      obtain ⟨p0, p1, p2, p3, a, q, p4, p5⟩ := h (k - 1) hkL
      exact ⟨(g2 0 (by omega)).trans p0, (g2 1 (by omega)).trans p1, (g2 2 (by omega)).trans p2, (g2 3 (by omega)).trans p3, a, q, (g2 4 (by omega)).trans p4, p5⟩
theorem mc_cells {W : World} {D : Nat → Prop} {cs : List Value} {L : List Msg} (h : Fct.at W D (.mc cs L)) (hl : L.length * 5 ≤ cs.length) : ∀ u ∈ cs.take (L.length * 5), u.oneCell' = true := by
  intro u hu
  obtain ⟨j, hj, rfl⟩ := List.getElem_of_mem hu
  have hj' : j < L.length * 5 := by simp at hj; omega
  have e1 : (cs.take (L.length * 5))[j]? = cs[j]? := by rw [List.getElem?_take, if_pos hj']
  have e2 : cs[j]? = some (cs.take (L.length * 5))[j] := by rw [← e1]; exact List.getElem?_eq_getElem hj
  obtain ⟨i, r, hi, hr, e⟩ : ∃ i r, i < L.length ∧ r < 5 ∧ j = i * 5 + r := ⟨j / 5, j % 5, by omega, Nat.mod_lt _ (by omega), by omega⟩
  obtain ⟨p0, p1, p2, p3, a, q, p4, _⟩ := h i hi
  have key : ∀ v, cs[j]? = some v → v.oneCell' = true → (cs.take (L.length * 5))[j].oneCell' = true := fun v hv ho => by
    rw [hv] at e2; rw [← Option.some.inj e2]; exact ho
  match r, hr with
  | 0, _ => exact key _ (by rw [e]; exact p0) rfl
  | 1, _ => exact key _ (by rw [e]; exact p1) rfl
  | 2, _ => exact key _ (by rw [e]; exact p2) rfl
  | 3, _ => exact key _ (by rw [e]; exact p3) rfl
  | 4, _ => exact key _ (by rw [e]; exact p4) rfl
theorem Env.gotOwn {D0 : Nat → Prop} {w W W' : World} {F : List Bx} {G G' : List Fct} {g : Nat} {T : TypeId} {cs : List Value} (h : Env D0 w F G W) (h' : Env D0 w ((g, T, cs) :: F) G' W') (f : Fct) (hf : f.at W' (fun b => (DF D0 w.heap.size F b ∨ W.heap.size ≤ b) ∧ b ≠ g)) : Env D0 w ((g, T, cs) :: F) (f :: G') W' :=
  h'.note f (Fct.turn hf (Nat.le_refl _) (fun b _ hd => by
    obtain ⟨hd, hne⟩ := hd
    have hall : (∀ p ∈ F, p.1 ≠ b) ∧ (D0 b ∨ w.heap.size ≤ b) := by
      rcases hd with hd | hd
      · exact hd
      · exact ⟨fun p hp e => by have := h.box.old p hp; omega, .inr (Nat.le_trans h.bel.size hd)⟩
    exact ⟨fun p hp => by
      rcases List.mem_cons.1 hp with rfl | hp
      · exact fun e => hne e.symm
      · exact hall.1 p hp, hall.2⟩) (fun _ _ _ _ => rfl))
set_option maxHeartbeats 2000000 in
set_option maxRecDepth 100000 in
/-- slices.Clone of a list of no element that is not nil, whatever its address: nil comes back, or a row of the call's own -/
theorem cloneM_own {a : Addr} {c : Nat} {w : World} : Calls Try.prog 80 #[.slice (some a) 0 c] w fun e w' => (e = .returned (.slice none 0 0) ∨ ∃ (g cap : Nat) (cs : List Value), e = .returned (.slice (some ⟨g, 0, none⟩) 0 cap) ∧ cap ≤ 9223372036854775807 ∧ cs.length = cap * 5 ∧ Box w.heap.size g 24 cs w') ∧ Below w.heap.size w w' := by
  obtain ⟨i0, hi0⟩ : ∃ i0, Try.prog.info? 24 = some i0 := by
    have := Try.infoM
    cases hh : Try.prog.info? 24 with
    | none => rw [hh] at this; simp at this
    | some i => exact ⟨i, rfl⟩
  have hi1 := Try.infoM
  rw [hi0] at hi1
  simp only [Option.map_some, Option.some.injEq, Prod.mk.injEq] at hi1
  obtain ⟨z0, z1, z2⟩ := hi1
  have HI := Lib.hid hi0
  have Z0 := Lib.hid z0; have Z1 := Lib.hid z1; have Z2 := Lib.hid z2
  clear hi0 z0 z1 z2
  have q22 : ∀ (w : World) (a : Option Addr) (n c n' c' : Nat), (binOp .eql 25 (.slice a n c) (.slice none n' c')).run Try.prog w = .ok (.bool a.isNone) w := fun w a n c n' c' => Lib.run_eql_slice_nil w _ _ a n c n' c' Try.underlying25
  go_enter Try.func80, Try.ntmps80
  go_wp2_with (at_builtin; refine wpList_append_own _ rfl _ _ 25 rfl w.heap.size 24 i0 (mzero) 5 56 Try.underlying25 HI.out Z0.out Z1.out Z2.out rfl (by omega) _ _ _ rfl (World.ownsRow_made w #[] 0 (Nat.le_refl _) (Nat.zero_le _) (by simp)) a 0 c [] rfl ?qc1 ?qc2 ?qc3 ?qc4 ?qc5 ?qc6 ?_)
  case qc1 => rfl
  case qc2 => intro j u hj; simp at hj
  case qc3 => intro u hu; simp at hu
  case qc4 => unfold maxLen; omega
  case qc5 => omega
  case qc6 => simp
  intro v' w1 hown hgrow hnil
  have HG := Lib.hid hgrow
  rcases hown.2 with ⟨rfl, _⟩ | ⟨g, cap, cur, rfl, hbg, hg, _, hm, hs, _⟩
  · clear hgrow hown hnil
    go_wp2
    go_ret
    exact ⟨.inl rfl, ((Below.refl _ w).alloc (Nat.le_refl _) _).grown HG.out (by simp) (by intro k hk; simp [Value.ownBlock] at hk; omega)⟩
  · have R1 := Lib.hid hbg; have R2 := Lib.hid hg; have R3 := Lib.hid hm; have R4 := Lib.hid hs
    clear hgrow hown hnil hbg hg hm hs
    go_wp2
    go_ret
    exact ⟨.inr ⟨g, cap, cur.toList, rfl, by have := R3.out; unfold maxLen at this; omega, by simpa using R4.out, R1.out, by rw [Array.toArray_toList]; exact R2.out⟩, ((Below.refl _ w).alloc (Nat.le_refl _) _).grown HG.out (by simp) (by intro k hk; simp [Value.ownBlock] at hk; omega)⟩
end Go.Proofs.Ytbcfcdcomboljaa

/- Lists of words that grow by append; the reference's word, trim, sized, Same, Valid. -/
import Derived.Test.YthphmgdmhlimjaaNatK
import Derived.Maps.AppendAt
namespace Go.Proofs.Ythphmgdmhlimjaa
open Go.RowKit NatMath
set_option linter.unusedVariables false

/-- the slice v is the call's own (nil, or the head of a block from base on) and holds the words l -/
def OwnV (w : World) (base : Nat) (v : Value) (l : List Nat) : Prop := w.ownsRow base 49 1 v l.length (l.map fun (u : Nat) => Value.int .u32 (u : Int)) ∧ words l

theorem OwnV.nil (w : World) (base : Nat) : OwnV w base (.slice none 0 0) [] := ⟨World.ownsRow_nil .., words_nil⟩
theorem OwnV.fr {w : World} {base : Nat} {v : Value} {l : List Nat} (h : OwnV w base v l) : Fr base v := by
  obtain ⟨⟨_, ⟨rfl, h2⟩ | ⟨g, cap, cur, rfl, h3, _⟩⟩, _⟩ := h
  · exact Fr.nil _
  · exact Fr.block h3
theorem OwnV.sl {w : World} {base : Nat} {v : Value} {l : List Nat} (h : OwnV w base v l) : Sl w v l := by
  obtain ⟨⟨_, ⟨rfl, h2⟩ | ⟨g, cap, cur, rfl, h3, h4, h5, h6, h7, h8⟩⟩, hw⟩ := h
  · rw [List.length_eq_zero_iff.1 h2]; exact Sl.nil _
  · refine ⟨_, cap, rfl, h5, h6, hw, fun _ => ⟨g, 0, rfl, lt_of_block h4, fun i hi => ?_⟩, by rintro a ha; simp only [Option.some.injEq] at ha; rw [← ha]⟩
    have e : cur[0 + i]? = (l.map fun (u : Nat) => Value.int .u32 (u : Int))[i]? := by
      rw [← h8, Nat.zero_add, ← Array.getElem?_toList, List.getElem?_take, if_pos (by omega)]
    simp only [World.cell?, h4, Option.isSome_none, Bool.false_eq_true, if_false, e]
    rw [List.getElem?_map, List.getElem?_eq_getElem hi, List.getD_eq_getElem?_getD, List.getElem?_eq_getElem hi]
    rfl
theorem OwnV.form {w : World} {base : Nat} {v : Value} {l : List Nat} (h : OwnV w base v l) (k : Nat) (hk : l.length = k) : ∃ a c, v = .slice a k c := by
  subst hk
  obtain ⟨⟨_, ⟨rfl, h2⟩ | ⟨g, cap, cur, rfl, h3, _⟩⟩, _⟩ := h
  · exact ⟨_, _, by rw [h2]⟩
  · exact ⟨_, _, rfl⟩
theorem OwnV.below {w w' : World} {base : Nat} {v : Value} {l : List Nat} (h : OwnV w base v l) (hb : Below w.heap.size w w') : OwnV w' base v l := by
  obtain ⟨⟨h1, ⟨rfl, h2⟩ | ⟨g, cap, cur, rfl, h3, h4, h5⟩⟩, hw⟩ := h
  · exact ⟨⟨h1, Or.inl ⟨rfl, h2⟩⟩, hw⟩
  · exact ⟨⟨h1, Or.inr ⟨g, cap, cur, rfl, h3, (hb.block g (lt_of_block h4)).trans h4, h5⟩⟩, hw⟩
theorem OwnV.set {w : World} {base : Nat} {v : Value} {l : List Nat} (h : OwnV w base v l) {a : Addr} (ha : a.block < base) (Y : Value) : OwnV (w.setCell a Y) base v l := by
  obtain ⟨⟨h1, ⟨rfl, h2⟩ | ⟨g, cap, cur, rfl, h3, h4, h5⟩⟩, hw⟩ := h
  · exact ⟨⟨h1, Or.inl ⟨rfl, h2⟩⟩, hw⟩
  · exact ⟨⟨h1, Or.inr ⟨g, cap, cur, rfl, h3, (Below.heap_setCell w a Y g (by omega)).trans h4, h5⟩⟩, hw⟩

/-- append of words that lie somewhere -/
theorem wpList_pushes {ops : Array Oper} {rest : List Oper} {o : Oper} {a : Act} {Q : Exit → Act → World → Prop} (w : World) (hgd : o.guard = none) (s x : Operand)
    (ho : o.op = .call { callee := .builtin .append, args := #[s, x], argTypes := #[22, 22] })
    (base : Nat) (v : Value) (l m : List Nat) (k : Nat) (hk : m.length = k) (hs : a.eval s = v) (hown : OwnV w base v l) (ad : Addr) (c : Nat) (hx : a.eval x = .slice (some ad) k c)
    (hcell : ∀ j, j < k → w.cell? (ad.add j) = some (.int .u32 ((m.getD j 0 : Nat) : Int)))
    (hu : words m) (hl : l.length ≤ 1000000) (hm : k ≤ 1000000) (hbase : base ≤ w.heap.size)
    (h : ∀ v' w', OwnV w' base v' (l ++ m) → Below base w w' → wpList Try.prog ops Q rest (a.put o.dst v') w') :
    wpList Try.prog ops Q (o :: rest) a w := by
  subst hk
  obtain ⟨i0, hi, hz0, hz1, hz2⟩ := info_parts Try.info49
  refine wpList_append_own_at w hgd s x 22 ho base 49 i0 (.int .u32 0) 1 4 (by rfl) hi hz0 hz1 hz2 rfl (by omega) v l.length _ hs hown.1 ad m.length c (m.map fun (u : Nat) => Value.int .u32 (u : Int)) hx (by simp) ?_ ?_ ?_ ?_ hbase ?_
  · intro j y hy
    rw [List.getElem?_map] at hy
    obtain ⟨z, hz, rfl⟩ := Option.map_eq_some_iff.1 hy
    have hj : j < m.length := by apply Nat.lt_of_not_le; intro hh; rw [List.getElem?_eq_none hh] at hz; simp at hz
    rw [hcell j hj, List.getD_eq_getElem?_getD, hz]; rfl
  · intro y hy
    obtain ⟨z, _, rfl⟩ := List.mem_map.1 hy
    rfl
  · unfold maxLen; omega
  · omega
  · intro v' w' h1 h2 _ h4
    refine h v' w' ⟨by simpa using h1, ?_⟩ ((Below.refl _ _).grown h2 hbase ?_)
    · intro y hy
      rcases List.mem_append.1 hy with hy | hy
      · exact hown.2 y hy
      · exact hu y hy
    · intro k hk
      have := hown.fr
      cases v with
      | slice ao n' c' =>
        cases ao with
        | none => simp [Value.ownBlock] at hk
        | some a' => simp [Value.ownBlock] at hk; rw [← hk]; exact this a' _ _ rfl
      | _ => simp [Value.ownBlock] at hk

/-- append of one word -/
theorem wpList_push {ops : Array Oper} {rest : List Oper} {o : Oper} {a : Act} {Q : Exit → Act → World → Prop} (w : World) (hgd : o.guard = none) (s x : Operand)
    (ho : o.op = .call { callee := .builtin .append, args := #[s, x], argTypes := #[22, 22] })
    (base : Nat) (v : Value) (l : List Nat) (u : Nat) (hs : a.eval s = v) (hown : OwnV w base v l) (ad : Addr) (c : Nat) (hx : a.eval x = .slice (some ad) 1 c) (hcell : w.cell? ad = some (.int .u32 (u : Int)))
    (hu : u < 4294967296) (hl : l.length ≤ 1000000) (hbase : base ≤ w.heap.size)
    (h : ∀ v' w', OwnV w' base v' (l ++ [u]) → Below base w w' → wpList Try.prog ops Q rest (a.put o.dst v') w') :
    wpList Try.prog ops Q (o :: rest) a w := by
  refine wpList_pushes w hgd s x ho base v l [u] 1 rfl hs hown ad c hx (fun j hj => ?_) (by intro y hy; simp at hy; omega) hl (by omega) hbase h
  obtain rfl : j = 0 := by omega
  simpa [Addr.add] using hcell

/-- an empty block of the call's own -/
theorem OwnV.empty (w : World) (base g : Nat) (hb : base ≤ g) (hg : w.heap.size = g) : OwnV (w.alloc (.cells #[] 49)) base (.slice (some ⟨g, 0, none⟩) 0 0) [] := by
  subst hg
  refine ⟨⟨rfl, Or.inr ⟨w.heap.size, 0, #[], rfl, hb, ?_, Nat.le_refl _, by unfold maxLen; omega, rfl, rfl⟩⟩, words_nil⟩
  show (w.heap.push _)[w.heap.size]? = _
  rw [Array.getElem?_push, if_pos rfl]

theorem Sl.open {w : World} {v : Value} {l : List Nat} (h : Sl w v l) : ∃ (ao : Option Addr) (cap : Nat), v = .slice ao l.length cap ∧ l.length ≤ cap ∧ cap ≤ 9223372036854775807 ∧
    (l ≠ [] → ∃ b off, ao = some ⟨b, off, none⟩ ∧ b < w.heap.size ∧ ∀ i, i < l.length → w.cell? ⟨b, off + i, none⟩ = some (.int .u32 ((l.getD i 0 : Nat) : Int))) := by
  obtain ⟨ao, cap, h1, h2, h3, h4, h5, _⟩ := h
  exact ⟨ao, cap, h1, h2, h3, h5⟩

theorem Nt.empty (w : World) (b c : Nat) (hc : c ≤ 9223372036854775807 := by omega) : Nt w (.slice (some ⟨b, 0, none⟩) 0 c) 0 := by
  unfold Nt
  rw [digs_zero]
  exact ⟨_, c, rfl, Nat.zero_le _, hc, words_nil, fun h => absurd rfl h, by rintro a ha; simp only [Option.some.injEq] at ha; rw [← ha]⟩

theorem box1f' (w : World) (a : Value) (T : TypeId) (o : Obj) : ((w.alloc (.cells #[a] T)).alloc o).frozen? ⟨w.heap.size, 0, none⟩ = false := by simp

end Go.Proofs.Ythphmgdmhlimjaa

/- A block of the call's own that holds words: what reads, stores and calls do to it. -/
import Derived.Test.YthphmgdmhlimjaaNatC
import Derived.OneCell
import Derived.Laws.OwnMore
import Derived.Laws.NewBlocks
import Derived.OwnWalk
namespace Go.Proofs.Ythphmgdmhlimjaa
open Go.RowKit NatMath
set_option linter.unusedVariables false

/-- the block g holds just the words l -/
def Own (w : World) (g : Nat) (l : List Nat) : Prop := w.heap[g]? = some (.cells (l.map fun (u : Nat) => Value.int .u32 (u : Int)).toArray 49 (0, 0))

section
variable {w w' : World} {g : Nat} {l : List Nat}
theorem Own.lt (h : Own w g l) : g < w.heap.size := lt_of_block h
theorem Own.cell (h : Own w g l) {i : Nat} (hi : i < l.length) : w.cell? ⟨g, i, none⟩ = some (.int .u32 ((l.getD i 0 : Nat) : Int)) := by
  unfold Own at h
  simp [World.cell?, h, hi]
theorem Own.frozen (h : Own w g l) (i : Nat) : w.frozen? ⟨g, i, none⟩ = false := by
  unfold Own at h
  simp [World.frozen?, h]
theorem Own.set (h : Own w g l) (i u : Nat) : Own (w.setCell ⟨g, i, none⟩ (.int .u32 (u : Int))) g (l.set i u) := by
  unfold Own at *
  have hlt := lt_of_block h
  have h2 : w.heap[g] = .cells (l.map fun (u : Nat) => Value.int .u32 (u : Int)).toArray 49 (0, 0) := by
    rw [Array.getElem?_eq_getElem hlt] at h; exact Option.some.inj h
  simp only [World.setCell, Array.getElem?_modify, ↓reduceIte, h, Option.map_some, Option.isSome_none, Bool.false_eq_true]
  congr 2
  rw [List.setIfInBounds_toArray, List.map_set]
theorem Own.setOther (h : Own w g l) {a : Addr} (ha : a.block ≠ g) (u : Value) : Own (w.setCell a u) g l := by
  unfold Own at *
  rw [← h]; exact Below.heap_setCell w a u g (fun e => ha e.symm)
theorem Own.alloc (h : Own w g l) (o : Obj) : Own (w.alloc o) g l := by
  have hlt := h.lt
  unfold Own at *
  rw [← h]; exact Below.heap_alloc w o g hlt
theorem Own.below {B : Nat} (h : Own w g l) (hb : Below B w w') (hB : g < B) : Own w' g l := by
  unfold Own at *; rw [hb.block g hB]; exact h
theorem Own.below' (h : Own w g l) (hb : Below w.heap.size w w') : Own w' g l := h.below hb h.lt
theorem Own.qw (h : Own w g l) (hq : Qw w w') : Own w' g l := h.below' (hq.below _)
theorem Own.sl (h : Own w g l) (hw : words l) (hl : l.length ≤ 9223372036854775807) : Sl w (.slice (some ⟨g, 0, none⟩) l.length l.length) l :=
  ⟨_, _, rfl, Nat.le_refl _, hl, hw, fun _ => ⟨g, 0, rfl, h.lt, fun i hi => by rw [Nat.zero_add]; exact h.cell hi⟩, by rintro a ha; simp only [Option.some.injEq] at ha; rw [← ha]⟩
end

/-- the slice's block may be written to -/
def Uf (w : World) (v : Value) : Prop := ∀ a k c, v = .slice (some a) k c → k ≠ 0 → ∀ i, w.frozen? ⟨a.block, i, none⟩ = false
theorem Uf.nil (w : World) : Uf w (.slice none 0 0) := by intro a k c e; simp at e
theorem Uf.setCell {w : World} {v : Value} (h : Uf w v) (p : Addr) (Y : Value) : Uf (w.setCell p Y) v := fun a k c e h0 i => (World.frozen?_setCell _ _ _ _).trans (h a k c e h0 i)
theorem Uf.own {w : World} {g : Nat} {v : Value} (h : ∀ i, w.frozen? ⟨g, i, none⟩ = false) (hv : v.ownBlock = some g) : Uf w v := by
  intro a k' c' e _ i
  subst e
  simp only [Value.ownBlock, Option.some.injEq] at hv
  rw [hv]; exact h i
theorem Own.uf {w : World} {g : Nat} {l : List Nat} {v : Value} (h : Own w g l) (hv : v.ownBlock = some g) : Uf w v := Uf.own h.frozen hv
/-- a number whose block may be written to -/
def NtU (w : World) (v : Value) (N : Nat) : Prop := Nt w v N ∧ Uf w v
theorem NtU.zero (w : World) : NtU w (.slice none 0 0) 0 := ⟨Nt.zero _, Uf.nil _⟩
theorem NtU.open {w : World} {v : Value} {N : Nat} (h : NtU w v N) : ∃ (ao : Option Addr) (cap : Nat), v = .slice ao (len N) cap ∧ len N ≤ cap ∧ cap ≤ 9223372036854775807 ∧
    (N ≠ 0 → ∃ b off, ao = some ⟨b, off, none⟩ ∧ b < w.heap.size ∧ ∀ i, i < len N → w.cell? ⟨b, off + i, none⟩ = some (.int .u32 ((dig N i : Nat) : Int))) := h.1.open
theorem NtU.below' {w w' : World} {v : Value} {N : Nat} (h : NtU w v N) (hb : Below w.heap.size w w') : NtU w' v N := by
  refine ⟨h.1.below' hb, fun a k c e h0 i => ?_⟩
  obtain ⟨ao, cap, rfl, _, _, h5⟩ := h.1.open
  simp only [Value.slice.injEq] at e
  obtain ⟨rfl, rfl, rfl⟩ := e
  obtain ⟨b, off, e1, e2, _⟩ := h5 (fun e => h0 (len_eq_zero.2 e))
  simp only [Option.some.injEq] at e1
  subst e1
  exact (hb.frozen (p := ⟨b, i, none⟩) e2).trans (h.2 _ _ _ rfl h0 i)

theorem Own.two (w : World) (o : Obj) (a b : Nat) : Own ((w.alloc o).alloc (.cells #[.int .u32 (a : Int), .int .u32 (b : Int)] 49)) (w.heap.size + 1) [a, b] := by
  unfold Own
  show ((w.heap.push o).push _)[w.heap.size + 1]? = _
  rw [Array.getElem?_push, if_pos (by simp)]
  rfl

/-- what make gives -/
theorem Own.made {w : World} {base n : Nat} {g : Nat} (h : w.ownsRow base 49 1 (.slice (some ⟨g, 0, none⟩) n n) n (List.replicate n (Value.int .u32 0))) : Own w g (List.replicate n 0) := by
  obtain ⟨h1, ⟨h2, _⟩ | ⟨g', cap, cur, h2, h3, h4, h5, h6, h7, h8⟩⟩ := h
  · simp at h2
  · simp only [Value.slice.injEq, Option.some.injEq, Addr.mk.injEq, and_true, true_and] at h2
    obtain ⟨rfl, rfl⟩ := h2
    unfold Own
    rw [h4]
    congr 2
    rw [Nat.mul_one] at h7 h8
    have : cur.toList = List.replicate n (Value.int .u32 0) := by rw [← h8, List.take_of_length_le (by simp [h7])]
    rw [List.map_replicate]
    apply Array.toList_inj.1
    simpa using this

theorem Try.info49 : (Try.prog.info? 49).map (fun i => (i.zero, i.size, i.bytes)) = some (some (.int .u32 0), 1, 4) := by kernel_rfl
/-- make([]uint32, n), as words -/
theorem wpList_make_words (w : World) {ops : Array Oper} {rest : List Oper} {o : Oper} {a : Act} {Q : Exit → Act → World → Prop}
    (hg : o.guard = none) (l c : Operand) (hop : o.op = Op.makeSlice 22 l c) (n : Nat) (L C : Int) (hl : a.eval l = .int .i64 L) (hc : a.eval c = .int .i64 C) (hL : L = (n : Int)) (hC : C = (n : Int)) (hn : n ≤ 1000000) (g : Nat) (hgs : w.heap.size = g)
    (hK : ∀ w', Own w' g (List.replicate n 0) → Below g w w' → wpList Try.prog ops Q rest (a.put o.dst (.slice (some ⟨g, 0, none⟩) n n)) w') :
    wpList Try.prog ops Q (o :: rest) a w := by
  subst hgs
  obtain ⟨i0, hi, hz0, hz1, hz2⟩ := info_parts Try.info49
  refine wpList_make_full w hg l c _ hop 0 49 i0 _ 1 (by rfl) hi hz0 hz1 .i64 .i64 L C n hl hc hL hC (by rw [hz2]; omega) (by unfold maxLen; omega) (Nat.zero_le _) (fun w' h1 h2 => hK w' ?_ ((Below.refl _ _).grown h2 (Nat.le_refl _) (by simp)))
  refine Own.made (n := n) (base := 0) ?_
  have e : (madeCells (Value.int .u32 0).cells (n * 1)).toList = List.replicate n (Value.int .u32 0) := by
    rw [Nat.mul_one]; exact toList_madeCells_one _ _
  rw [← e]; exact h1
end Go.Proofs.Ythphmgdmhlimjaa

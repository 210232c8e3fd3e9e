/- Bytes and messages in memory: what it means that a value reads as a list of bytes, as a message, as a list of messages, by blocks of which D holds; and what a walk holds: its own boxes, and such values. -/
import Derived.Test.YteipbcpnnojclaaDoorProg
import Derived.WalkKit
import Derived.WalkLawsBesides
import Derived.Lib.Hide
import Derived.Outline
import Derived.BigQuiet
import Derived.Deep.QuietTactic
import Derived.Deep.RegionHeld3
import Derived.WalkSmall
import Derived.LoopN
import Derived.Below
namespace Go.Proofs.YteipbcpnnojclaaDoor
open Go.RowKit
set_option linter.unusedVariables false

/-- the slice value v reads as the bytes l in the world w -/
def Bs (w : World) (D : Nat → Prop) (v : Value) (l : List Nat) : Prop :=
  ∃ (ao : Option Addr) (cap : Nat), v = .slice ao l.length cap ∧ l.length ≤ cap ∧ cap ≤ 9223372036854775807 ∧ (∀ u ∈ l, u < 256) ∧
    (l ≠ [] → ∃ b off, ao = some ⟨b, off, none⟩ ∧ (b < w.heap.size ∧ D b) ∧ ∀ i, i < l.length → w.cell? ⟨b, off + i, none⟩ = some (.int .u8 ((l.getD i 0 : Nat) : Int))) ∧
    True
theorem Bs.turn {w w' : World} {D D' : Nat → Prop} {v : Value} {l : List Nat} (h : Bs w D v l) (hs : w.heap.size ≤ w'.heap.size) (hD : ∀ b, b < w.heap.size → D b → D' b) (hc : ∀ b i, b < w.heap.size → D b → w'.cell? ⟨b, i, none⟩ = w.cell? ⟨b, i, none⟩) : Bs w' D' v l := by
  obtain ⟨ao, cap, h1, h2, h3, h4, h5, h6⟩ := h
  refine ⟨ao, cap, h1, h2, h3, h4, fun hl => ?_, h6⟩
  obtain ⟨b, off, k1, ⟨k2, kd⟩, k3⟩ := h5 hl
  exact ⟨b, off, k1, ⟨Nat.lt_of_lt_of_le k2 hs, hD b k2 kd⟩, fun i hi => (hc b _ k2 kd).trans (k3 i hi)⟩
theorem Bs.nil (w : World) (D : Nat → Prop) : Bs w D (.slice none 0 0) [] := ⟨none, 0, rfl, Nat.le_refl _, by omega, by simp, fun h => absurd rfl h, by simp⟩
theorem Bs.len {w : World} {D : Nat → Prop} {v : Value} {l : List Nat} (h : Bs w D v l) : ∃ ao cap, v = .slice ao l.length cap := by obtain ⟨ao, cap, h1, _⟩ := h; exact ⟨ao, cap, h1⟩

/-- a message: from, to, kind, number, body -/
structure Msg where
  fr : Int
  to_ : Int
  kd : Int
  nm : Int
  body : List Nat
/-- the message's value, its body's value given -/
def mval (M : Msg) (bv : Value) : Value := .agg #[.int .i64 M.fr, .int .i64 M.to_, .int .i64 M.kd, .int .i64 M.nm, bv]
/-- the cells of a message in a list -/
def MsAt (w : World) (D : Nat → Prop) (b o : Nat) (M : Msg) : Prop :=
  w.cell? ⟨b, o, none⟩ = some (.int .i64 M.fr) ∧ w.cell? ⟨b, o + 1, none⟩ = some (.int .i64 M.to_) ∧ w.cell? ⟨b, o + 2, none⟩ = some (.int .i64 M.kd) ∧ w.cell? ⟨b, o + 3, none⟩ = some (.int .i64 M.nm) ∧
    ∃ bv, w.cell? ⟨b, o + 4, none⟩ = some bv ∧ Bs w D bv M.body
theorem MsAt.turn {w w' : World} {D D' : Nat → Prop} {b o : Nat} {M : Msg} (h : MsAt w D b o M) (hb : b < w.heap.size) (hd : D b) (hs : w.heap.size ≤ w'.heap.size) (hD : ∀ b, b < w.heap.size → D b → D' b) (hc : ∀ b i, b < w.heap.size → D b → w'.cell? ⟨b, i, none⟩ = w.cell? ⟨b, i, none⟩) : MsAt w' D' b o M := by
  obtain ⟨h1, h2, h3, h4, bv, h5, h6⟩ := h
  exact ⟨(hc _ _ hb hd).trans h1, (hc _ _ hb hd).trans h2, (hc _ _ hb hd).trans h3, (hc _ _ hb hd).trans h4, bv, (hc _ _ hb hd).trans h5, h6.turn hs hD hc⟩
/-- the slice value v reads as the messages L -/
def Ms (w : World) (D : Nat → Prop) (v : Value) (L : List Msg) : Prop :=
  ∃ (ao : Option Addr) (cap : Nat), v = .slice ao L.length cap ∧ L.length ≤ cap ∧ cap ≤ 9223372036854775807 ∧
    (L ≠ [] → ∃ b off, ao = some ⟨b, off, none⟩ ∧ (b < w.heap.size ∧ D b) ∧ ∀ i M, L[i]? = some M → MsAt w D b (off + i * 5) M) ∧
    True
theorem Ms.turn {w w' : World} {D D' : Nat → Prop} {v : Value} {L : List Msg} (h : Ms w D v L) (hs : w.heap.size ≤ w'.heap.size) (hD : ∀ b, b < w.heap.size → D b → D' b) (hc : ∀ b i, b < w.heap.size → D b → w'.cell? ⟨b, i, none⟩ = w.cell? ⟨b, i, none⟩) : Ms w' D' v L := by
  obtain ⟨ao, cap, h1, h2, h3, h4, h5⟩ := h
  refine ⟨ao, cap, h1, h2, h3, fun hl => ?_, h5⟩
  obtain ⟨b, off, k1, ⟨k2, kd⟩, k3⟩ := h4 hl
  exact ⟨b, off, k1, ⟨Nat.lt_of_lt_of_le k2 hs, hD b k2 kd⟩, fun i M hi => (k3 i M hi).turn k2 kd hs hD hc⟩
theorem Ms.nil (w : World) (D : Nat → Prop) : Ms w D (.slice none 0 0) [] := ⟨none, 0, rfl, Nat.le_refl _, by omega, fun h => absurd rfl h, by simp⟩
theorem Ms.len {w : World} {D : Nat → Prop} {v : Value} {l : List Msg} (h : Ms w D v l) : ∃ ao cap, v = .slice ao l.length cap := by obtain ⟨ao, cap, h1, _⟩ := h; exact ⟨ao, cap, h1⟩
/-- a session: the next number, whether a request waits, the request, the answers, the tries -/
structure Ses where
  nx : Int
  wt : Bool
  rq : Msg
  dn : List Msg
  tr : Int
def sval (S : Ses) (bv dv : Value) : Value := .agg #[.int .i64 S.nx, .bool S.wt, .int .i64 S.rq.fr, .int .i64 S.rq.to_, .int .i64 S.rq.kd, .int .i64 S.rq.nm, bv, dv, .int .i64 S.tr]

/-- the slice value v of n elements of k plain cells each reads as the cells cs -/
def Rw (w : World) (D : Nat → Prop) (v : Value) (n k : Nat) (cs : List Value) : Prop :=
  ∃ (ao : Option Addr) (cap : Nat), v = .slice ao n cap ∧ n ≤ cap ∧ cap ≤ 9223372036854775807 ∧ cs.length = n * k ∧ (∀ u ∈ cs, u.oneCell' = true) ∧
    (n ≠ 0 → ∃ b off, ao = some ⟨b, off, none⟩ ∧ (b < w.heap.size ∧ D b) ∧ ∀ i u, cs[i]? = some u → w.cell? ⟨b, off + i, none⟩ = some u)
theorem Rw.turn {w w' : World} {D D' : Nat → Prop} {v : Value} {n k : Nat} {cs : List Value} (h : Rw w D v n k cs) (hs : w.heap.size ≤ w'.heap.size) (hD : ∀ b, b < w.heap.size → D b → D' b) (hc : ∀ b i, b < w.heap.size → D b → w'.cell? ⟨b, i, none⟩ = w.cell? ⟨b, i, none⟩) : Rw w' D' v n k cs := by
  obtain ⟨ao, cap, h1, h2, h3, h4, h5, h6⟩ := h
  refine ⟨ao, cap, h1, h2, h3, h4, h5, fun hn => ?_⟩
  obtain ⟨b, off, e, ⟨hb, hd⟩, hi⟩ := h6 hn
  exact ⟨b, off, e, ⟨Nat.lt_of_lt_of_le hb hs, hD b hb hd⟩, fun i u hu => (hc b _ hb hd).trans (hi i u hu)⟩
theorem Rw.nil (w : World) (D : Nat → Prop) (k : Nat) : Rw w D (.slice none 0 0) 0 k [] := ⟨none, 0, rfl, Nat.le_refl _, by omega, by simp, by simp, fun h => absurd rfl h⟩
theorem Rw.len {w : World} {D : Nat → Prop} {v : Value} {n k : Nat} {cs : List Value} (h : Rw w D v n k cs) : ∃ ao cap, v = .slice ao n cap := by obtain ⟨ao, cap, h1, _⟩ := h; exact ⟨ao, cap, h1⟩
/-- the slice value v reads as rows of ints -/
def Mx (w : World) (D : Nat → Prop) (v : Value) (L : List (List Int)) : Prop :=
  ∃ (ao : Option Addr) (cap : Nat), v = .slice ao L.length cap ∧ L.length ≤ cap ∧ cap ≤ 9223372036854775807 ∧
    (L ≠ [] → ∃ b off, ao = some ⟨b, off, none⟩ ∧ (b < w.heap.size ∧ D b) ∧ ∀ i l, L[i]? = some l → ∃ rv, w.cell? ⟨b, off + i, none⟩ = some rv ∧ Rw w D rv l.length 1 (l.map (Value.int .i64)))
theorem Mx.turn {w w' : World} {D D' : Nat → Prop} {v : Value} {L : List (List Int)} (h : Mx w D v L) (hs : w.heap.size ≤ w'.heap.size) (hD : ∀ b, b < w.heap.size → D b → D' b) (hc : ∀ b i, b < w.heap.size → D b → w'.cell? ⟨b, i, none⟩ = w.cell? ⟨b, i, none⟩) : Mx w' D' v L := by
  obtain ⟨ao, cap, h1, h2, h3, h4⟩ := h
  refine ⟨ao, cap, h1, h2, h3, fun hl => ?_⟩
  obtain ⟨b, off, k1, ⟨k2, kd⟩, k3⟩ := h4 hl
  refine ⟨b, off, k1, ⟨Nat.lt_of_lt_of_le k2 hs, hD b k2 kd⟩, fun i l hi => ?_⟩
  obtain ⟨rv, r1, r2⟩ := k3 i l hi
  exact ⟨rv, (hc b _ k2 kd).trans r1, r2.turn hs hD hc⟩
theorem Mx.len {w : World} {D : Nat → Prop} {v : Value} {L : List (List Int)} (h : Mx w D v L) : ∃ ao cap, v = .slice ao L.length cap := by obtain ⟨ao, cap, h1, _⟩ := h; exact ⟨ao, cap, h1⟩
/-- a fact of one's own: what it says, and that it stays -/
structure GF where
  at_ : World → (Nat → Prop) → Prop
  turn : ∀ {w w' : World} {D D' : Nat → Prop}, at_ w D → w.heap.size ≤ w'.heap.size → (∀ b, b < w.heap.size → D b → D' b) → (∀ b i, b < w.heap.size → D b → w'.cell? ⟨b, i, none⟩ = w.cell? ⟨b, i, none⟩) → at_ w' D'
/-- what a walk knows of a value in memory -/
inductive Fct where
  | bs (v : Value) (l : List Nat)
  | ms (v : Value) (L : List Msg)
  | ce (b o : Nat) (v : Value)
  | mc (cs : List Value) (L : List Msg)
  | rw (v : Value) (n k : Nat) (cs : List Value)
  | mx (v : Value) (L : List (List Int))
  | gn (F : GF)
def Fct.at (W : World) (D : Nat → Prop) : Fct → Prop
  | .bs v l => Bs W D v l
  | .ms v L => Ms W D v L
  | .rw v n k cs => Rw W D v n k cs
  | .mx v L => Mx W D v L
  | .gn F => F.at_ W D
  | .ce b o v => (b < W.heap.size ∧ D b) ∧ W.cell? ⟨b, o, none⟩ = some v
  | .mc cs L => ∀ i (h : i < L.length), cs[i * 5]? = some (.int .i64 L[i].fr) ∧ cs[i * 5 + 1]? = some (.int .i64 L[i].to_) ∧ cs[i * 5 + 2]? = some (.int .i64 L[i].kd) ∧ cs[i * 5 + 3]? = some (.int .i64 L[i].nm) ∧ ∃ ao k, cs[i * 5 + 4]? = some (.slice ao L[i].body.length k) ∧ Bs W D (.slice ao L[i].body.length k) L[i].body
theorem Fct.turn {w w' : World} {D D' : Nat → Prop} {f : Fct} (h : f.at w D) (hs : w.heap.size ≤ w'.heap.size) (hD : ∀ b, b < w.heap.size → D b → D' b) (hc : ∀ b i, b < w.heap.size → D b → w'.cell? ⟨b, i, none⟩ = w.cell? ⟨b, i, none⟩) : f.at w' D' := by
  cases f with
  | bs v l => exact Bs.turn h hs hD hc
  | ms v L => exact Ms.turn h hs hD hc
  | rw v n k cs => exact Rw.turn h hs hD hc
  | mx v L => exact Mx.turn h hs hD hc
  | gn F => exact F.turn h hs hD hc
  | mc cs L =>
    intro i hi
    obtain ⟨h1, h2, h3, h4, ao, k, h5, h6⟩ := h i hi
    exact ⟨h1, h2, h3, h4, ao, k, h5, h6.turn hs hD hc⟩
  | ce b o v => exact ⟨⟨Nat.lt_of_lt_of_le h.1.1 hs, hD b h.1.1 h.1.2⟩, (hc b o h.1.1 h.1.2).trans h.2⟩
/-- a block of the call's own, by its cells -/
def Box (B b : Nat) (T : TypeId) (cs : List Value) (W : World) : Prop := B ≤ b ∧ W.heap[b]? = some (.cells cs.toArray T (0, 0))
theorem Box.lt {B b : Nat} {cs : List Value} {T : TypeId} {W : World} (h : Box B b T cs W) : b < W.heap.size := lt_of_block h.2
theorem Box.below {B b : Nat} {cs : List Value} {T : TypeId} {W W' : World} (h : Box B b T cs W) (hb : Below W.heap.size W W') : Box B b T cs W' := ⟨h.1, (hb.block _ h.lt).trans h.2⟩
theorem Box.cell {B b : Nat} {cs : List Value} {T : TypeId} {W : World} (h : Box B b T cs W) (i : Nat) {v : Value} (hv : cs[i]? = some v) : W.cell? ⟨b, i, none⟩ = some v := by
  rw [cell_of_row W b i cs.toArray T (0, 0) h.2]; simpa using hv
theorem Box.frozen {B b : Nat} {cs : List Value} {T : TypeId} {W : World} (h : Box B b T cs W) (i : Nat) : W.frozen? ⟨b, i, none⟩ = false := by
  simp [World.frozen?, h.2]
theorem Box.set {B b : Nat} {cs : List Value} {T : TypeId} {W : World} (h : Box B b T cs W) (i : Nat) (v : Value) : Box B b T (cs.set i v) (W.setCell ⟨b, i, none⟩ v) := by
  refine ⟨h.1, ?_⟩
  have h2 := h.2
  simp only [World.setCell, Array.getElem?_modify, if_true, h2, Option.map_some, List.setIfInBounds_toArray, Option.isSome_none, Bool.false_eq_true, if_false]
theorem Box.setOther {B b k : Nat} {cs : List Value} {T : TypeId} {W : World} (h : Box B b T cs W) (hne : b ≠ k) (i : Nat) (v : Value) : Box B b T cs (W.setCell ⟨k, i, none⟩ v) := ⟨h.1, (Below.heap_setCell _ _ _ _ hne).trans h.2⟩
theorem cell_other {W : World} {b k i j : Nat} {v : Value} (h : b ≠ k) : (W.setCell ⟨k, j, none⟩ v).cell? ⟨b, i, none⟩ = W.cell? ⟨b, i, none⟩ := World.cell?_setCell_other _ _ _ _ (fun e => h (by simp only [Addr.mk.injEq] at e; exact e.1.symm))

abbrev Bx := Nat × TypeId × List Value
def HeldF (B : Nat) : List Bx → World → Prop
  | [], _ => True
  | p :: F, W => Box B p.1 p.2.1 p.2.2 W ∧ (∀ q ∈ F, q.1 ≠ p.1) ∧ HeldF B F W
theorem HeldF.below {B : Nat} {F : List Bx} {W W' : World} (h : HeldF B F W) (hb : Below W.heap.size W W') : HeldF B F W' := by
  induction F with
  | nil => exact trivial
  | cons p F ih => exact ⟨h.1.below hb, h.2.1, ih h.2.2⟩
theorem HeldF.old {B : Nat} {F : List Bx} {W : World} (h : HeldF B F W) : ∀ p ∈ F, p.1 < W.heap.size := by
  induction F with
  | nil => intro p hp; cases hp
  | cons q F ih =>
    intro p hp
    rcases List.mem_cons.1 hp with rfl | hp
    · exact h.1.lt
    · exact ih h.2.2 p hp
theorem HeldF.get {B : Nat} {F : List Bx} {W : World} (h : HeldF B F W) : ∀ (i : Nat) {b : Nat} {T : TypeId} {cs : List Value}, F[i]? = some (b, T, cs) → Box B b T cs W := by
  induction F with
  | nil => intro i b T cs e; simp at e
  | cons p F ih =>
    intro i b T cs e
    rcases i with _ | i
    · simp only [List.getElem?_cons_zero, Option.some.injEq] at e
      subst e; exact h.1
    · exact ih h.2.2 i (by simpa using e)
theorem HeldF.setAway {B g : Nat} {k : Nat} {v : Value} {F : List Bx} {W : World} (h : HeldF B F W) (hne : ∀ p ∈ F, p.1 ≠ g) : HeldF B F (W.setCell ⟨g, k, none⟩ v) := by
  induction F with
  | nil => exact trivial
  | cons p F ih => exact ⟨h.1.setOther (hne p (by simp)) _ _, h.2.1, ih h.2.2 (fun q hq => hne q (by simp [hq]))⟩
theorem HeldF.set {B : Nat} {F : List Bx} {W : World} (h : HeldF B F W) : ∀ (i : Nat) {b : Nat} {T : TypeId} {cs : List Value} (k : Nat) (v : Value), F[i]? = some (b, T, cs) → HeldF B (F.set i (b, T, cs.set k v)) (W.setCell ⟨b, k, none⟩ v) := by
  induction F with
  | nil => intro i b T cs k v e; simp at e
  | cons p F ih =>
    intro i b T cs k v e
    rcases i with _ | i
    · simp only [List.getElem?_cons_zero, Option.some.injEq] at e
      subst e
      exact ⟨h.1.set k v, h.2.1, h.2.2.setAway h.2.1⟩
    · have e' : F[i]? = some (b, T, cs) := by simpa using e
      have hm : (b, T, cs) ∈ F := List.mem_of_getElem? e'
      refine ⟨h.1.setOther (fun e2 => h.2.1 _ hm e2.symm) _ _, ?_, ih h.2.2 i k v e'⟩
      intro q hq
      rcases List.mem_or_eq_of_mem_set hq with hq | rfl
      · exact h.2.1 q hq
      · exact h.2.1 (b, T, cs) hm
/-- the blocks that a walk's values may lie in: none of its boxes; what D0 allows, or new since the walk's start -/
def DF (D0 : Nat → Prop) (B : Nat) (F : List Bx) (b : Nat) : Prop := (∀ p ∈ F, p.1 ≠ b) ∧ (D0 b ∨ B ≤ b)
def HeldG (D : Nat → Prop) : List Fct → World → Prop
  | [], _ => True
  | f :: G, W => f.at W D ∧ HeldG D G W
theorem HeldG.turn {w w' : World} {D D' : Nat → Prop} {G : List Fct} (h : HeldG D G w) (hs : w.heap.size ≤ w'.heap.size) (hD : ∀ b, b < w.heap.size → D b → D' b) (hc : ∀ b i, b < w.heap.size → D b → w'.cell? ⟨b, i, none⟩ = w.cell? ⟨b, i, none⟩) : HeldG D' G w' := by
  induction G with
  | nil => exact trivial
  | cons f G ih => exact ⟨Fct.turn h.1 hs hD hc, ih h.2⟩
theorem HeldG.get {D : Nat → Prop} {G : List Fct} {W : World} (h : HeldG D G W) : ∀ (i : Nat) {f : Fct}, G[i]? = some f → f.at W D := by
  induction G with
  | nil => intro i f e; simp at e
  | cons p G ih =>
    intro i f e
    rcases i with _ | i
    · simp only [List.getElem?_cons_zero, Option.some.injEq] at e
      subst e; exact h.1
    · exact ih h.2 i (by simpa using e)
structure Env (D0 : Nat → Prop) (w : World) (F : List Bx) (G : List Fct) (W : World) : Prop where
  bel : Below w.heap.size w W
  box : HeldF w.heap.size F W
  fct : HeldG (DF D0 w.heap.size F) G W
theorem Env.start (D0 : Nat → Prop) (w : World) : Env D0 w [] [] w := ⟨Below.refl _ _, trivial, trivial⟩
theorem Env.arg {D0 : Nat → Prop} {w : World} {G : List Fct} (h : Env D0 w [] G w) (f : Fct) (hf : f.at w D0) : Env D0 w [] (f :: G) w :=
  ⟨h.bel, h.box, Fct.turn hf (Nat.le_refl _) (fun b _ hb => ⟨by simp, .inl hb⟩) (fun _ _ _ _ => rfl), h.fct⟩
theorem Env.below {D0 : Nat → Prop} {w W W' : World} {F : List Bx} {G : List Fct} (h : Env D0 w F G W) (hb : Below W.heap.size W W') : Env D0 w F G W' :=
  ⟨h.bel.trans (hb.mono h.bel.size), h.box.below hb, h.fct.turn hb.size (fun _ _ h => h) (fun b i hl _ => hb.cell (p := ⟨b, i, none⟩) hl)⟩
theorem Env.got {D0 : Nat → Prop} {w W W' : World} {F : List Bx} {G G' : List Fct} (h : Env D0 w F G W) (h' : Env D0 w F G' W') (f : Fct) (hf : f.at W' (fun b => DF D0 w.heap.size F b ∨ W.heap.size ≤ b)) : Env D0 w F (f :: G') W' :=
  ⟨h'.bel, h'.box, Fct.turn hf (Nat.le_refl _) (fun b _ hb => by
    rcases hb with hb | hb
    · exact hb
    · exact ⟨fun p hp e => by have := h.box.old p hp; omega, .inr (Nat.le_trans h.bel.size hb)⟩) (fun _ _ _ _ => rfl), h'.fct⟩
theorem Env.push {D0 : Nat → Prop} {w W : World} {F : List Bx} {G : List Fct} (h : Env D0 w F G W) (T : TypeId) (cs : List Value) (g : Nat) (hg : g = W.heap.size) : Env D0 w ((g, T, cs) :: F) G (W.alloc (.cells cs.toArray T)) := by
  subst hg
  have hb : Below W.heap.size W (W.alloc (.cells cs.toArray T)) := (Below.refl _ _).alloc (Nat.le_refl _) _
  refine ⟨h.bel.trans (hb.mono h.bel.size), ⟨⟨h.bel.size, heap_alloc_new _ _⟩, fun q hq e => by have := h.box.old q hq; omega, h.box.below hb⟩, h.fct.turn hb.size (fun b hl hd => ⟨fun p hp => ?_, hd.2⟩) (fun b i hl _ => hb.cell (p := ⟨b, i, none⟩) hl)⟩
  rcases List.mem_cons.1 hp with rfl | hp
  · simp only; omega
  · exact hd.1 p hp
theorem Env.set {D0 : Nat → Prop} {w W : World} {F : List Bx} {G : List Fct} (h : Env D0 w F G W) (i : Nat) {b : Nat} {T : TypeId} {cs : List Value} (k : Nat) (v : Value) (e : F[i]? = some (b, T, cs)) : Env D0 w (F.set i (b, T, cs.set k v)) G (W.setCell ⟨b, k, none⟩ v) := by
  have hB := h.box.get i e
  have hm : (b, T, cs) ∈ F := List.mem_of_getElem? e
  refine ⟨h.bel.setCell hB.1 v, h.box.set i k v e, h.fct.turn (by simp) (fun x _ hd => ⟨fun p hp => ?_, hd.2⟩) (fun x j _ hd => cell_other (fun e2 => hd.1 _ hm e2.symm))⟩
  rcases List.mem_or_eq_of_mem_set hp with hp | rfl
  · exact hd.1 p hp
  · exact hd.1 (b, T, cs) hm
theorem Env.drew {D0 : Nat → Prop} {w W : World} {F : List Bx} {G : List Fct} (h : Env D0 w F G W) : Env D0 w F G W.drew := h.below (below_drewN (Below.refl _ _) 1)
theorem Env.bx {D0 : Nat → Prop} {w W : World} {F : List Bx} {G : List Fct} (h : Env D0 w F G W) (i : Nat) {b : Nat} {T : TypeId} {cs : List Value} (e : F[i]? = some (b, T, cs)) : Box w.heap.size b T cs W := h.box.get i e
theorem Env.fc {D0 : Nat → Prop} {w W : World} {F : List Bx} {G : List Fct} (h : Env D0 w F G W) (i : Nat) {f : Fct} (e : G[i]? = some f) : f.at W (DF D0 w.heap.size F) := h.fct.get i e
theorem Env.drop {D0 : Nat → Prop} {w W : World} {p : Bx} {F : List Bx} {G : List Fct} (h : Env D0 w (p :: F) G W) : Env D0 w F G W :=
  ⟨h.bel, h.box.2.2, h.fct.turn (Nat.le_refl _) (fun b _ hd => ⟨fun q hq => hd.1 q (List.mem_cons_of_mem _ hq), hd.2⟩) (fun _ _ _ _ => rfl)⟩
theorem Env.forget {D0 : Nat → Prop} {w W : World} {F : List Bx} {f : Fct} {G : List Fct} (h : Env D0 w F (f :: G) W) : Env D0 w F G W := ⟨h.bel, h.box, h.fct.2⟩
/-- a fact as the walk's caller is told it -/
theorem Env.out {D0 : Nat → Prop} {w W : World} {F : List Bx} {G : List Fct} (h : Env D0 w F G W) (i : Nat) {f : Fct} (e : G[i]? = some f) : f.at W (fun b => D0 b ∨ w.heap.size ≤ b) :=
  Fct.turn (h.fct.get i e) (Nat.le_refl _) (fun _ _ h => h.2) (fun _ _ _ _ => rfl)
/-- a message came back -/
def RetM (D : Nat → Prop) (M : Msg) (e : Ending) (W : World) : Prop := ∃ ao k, e = .returned (.agg #[.int .i64 M.fr, .int .i64 M.to_, .int .i64 M.kd, .int .i64 M.nm, .slice ao M.body.length k]) ∧ Hid (Bs W D (.slice ao M.body.length k) M.body)
/-- a session came back -/
def RetS (D : Nat → Prop) (S : Ses) (e : Ending) (W : World) : Prop := ∃ ao k bo j, e = .returned (.agg #[.int .i64 S.nx, .bool S.wt, .int .i64 S.rq.fr, .int .i64 S.rq.to_, .int .i64 S.rq.kd, .int .i64 S.rq.nm, .slice ao S.rq.body.length k, .slice bo S.dn.length j, .int .i64 S.tr]) ∧ Hid (Bs W D (.slice ao S.rq.body.length k) S.rq.body) ∧ Hid (Ms W D (.slice bo S.dn.length j) S.dn)
/-- a message of a list that does not lie at nil -/
theorem Ms.el {W : World} {D : Nat → Prop} {b off n j : Nat} {L : List Msg} (h : Ms W D (.slice (some ⟨b, off, none⟩) n j) L) (i : Nat) (hi : i < L.length) : MsAt W D b (off + i * 5) L[i] := by
  obtain ⟨ao, cap, h1, h2, h3, h4, h5⟩ := h
  obtain ⟨b', off', k1, k2, k3⟩ := h4 (by rintro rfl; simp at hi)
  simp only [Value.slice.injEq] at h1
  obtain ⟨h1, _, _⟩ := h1
  subst h1
  simp only [Option.some.injEq, Addr.mk.injEq, and_true] at k1
  obtain ⟨rfl, rfl⟩ := k1
  exact k3 i _ (List.getElem?_eq_getElem hi)
/-- a list of messages lies at nil, or begins somewhere -/
theorem Ms.open {W : World} {D : Nat → Prop} {v : Value} {L : List Msg} (h : Ms W D v L) (hl : L ≠ []) : ∃ b off j, v = .slice (some ⟨b, off, none⟩) L.length j := by
  obtain ⟨ao, cap, h1, h2, h3, h4, h5⟩ := h
  obtain ⟨b, off, rfl, _⟩ := h4 hl
  exact ⟨b, off, cap, h1⟩
theorem Ms.lies {W : World} {D : Nat → Prop} {b off n j : Nat} {L : List Msg} (h : Ms W D (.slice (some ⟨b, off, none⟩) n j) L) (hl : L ≠ []) : b < W.heap.size ∧ D b := by
  obtain ⟨ao, cap, h1, h2, h3, h4, h5⟩ := h
  obtain ⟨b', off', k1, k2, k3⟩ := h4 hl
  simp only [Value.slice.injEq] at h1
  obtain ⟨h1, _, _⟩ := h1
  subst h1
  simp only [Option.some.injEq, Addr.mk.injEq, and_true] at k1
  obtain ⟨rfl, rfl⟩ := k1
  exact k2
theorem Env.note {D0 : Nat → Prop} {w W : World} {F : List Bx} {G : List Fct} (h : Env D0 w F G W) (f : Fct) (hf : f.at W (DF D0 w.heap.size F)) : Env D0 w F (f :: G) W := ⟨h.bel, h.box, hf, h.fct⟩
/-- the cells of a list's element k -/
theorem Env.els {D0 : Nat → Prop} {w W : World} {F : List Bx} {G : List Fct} (h : Env D0 w F G W) (i : Nat) {b off n j : Nat} {L : List Msg} (e : G[i]? = some (.ms (.slice (some ⟨b, off, none⟩) n j) L)) (k : Nat) (hk : k < L.length) :
    ∃ va vk, Env D0 w F (.ce b (off + k * 5) (.int .i64 L[k].fr) :: .ce b (off + k * 5 + 1) (.int .i64 L[k].to_) :: .ce b (off + k * 5 + 2) (.int .i64 L[k].kd) :: .ce b (off + k * 5 + 3) (.int .i64 L[k].nm) :: .ce b (off + k * 5 + 4) (.slice va L[k].body.length vk) :: .bs (.slice va L[k].body.length vk) L[k].body :: G) W := by
  have hm : Ms W (DF D0 w.heap.size F) (.slice (some ⟨b, off, none⟩) n j) L := h.fct.get i e
  have hl := hm.lies (by rintro rfl; simp at hk)
  obtain ⟨h1, h2, h3, h4, bv, h5, h6⟩ := hm.el k hk
  obtain ⟨va, vk, rfl⟩ := h6.len
  exact ⟨va, vk, (((((h.note (.bs _ _) h6).note (.ce _ _ _) ⟨hl, h5⟩).note (.ce _ _ _) ⟨hl, h4⟩).note (.ce _ _ _) ⟨hl, h3⟩).note (.ce _ _ _) ⟨hl, h2⟩).note (.ce _ _ _) ⟨hl, h1⟩⟩
theorem Bs.ge {w : World} {D : Nat → Prop} {v : Value} {l : List Nat} {B : Nat} (h : Bs w (fun b => B ≤ b) v l) : Bs w (fun b => D b ∨ B ≤ b) v l := h.turn (Nat.le_refl _) (fun _ _ h => .inr h) (fun _ _ _ _ => rfl)
/-- a session, a message and an error number -/
def RetSM (D : Nat → Prop) (S : Ses) (M : Msg) (c : Int) (e : Ending) (W : World) : Prop := ∃ ao k bo j co i, e = .returned (.tuple #[.agg #[.int .i64 S.nx, .bool S.wt, .int .i64 S.rq.fr, .int .i64 S.rq.to_, .int .i64 S.rq.kd, .int .i64 S.rq.nm, .slice ao S.rq.body.length k, .slice bo S.dn.length j, .int .i64 S.tr], .agg #[.int .i64 M.fr, .int .i64 M.to_, .int .i64 M.kd, .int .i64 M.nm, .slice co M.body.length i], .int .i64 c]) ∧ Hid (Bs W D (.slice ao S.rq.body.length k) S.rq.body) ∧ Hid (Ms W D (.slice bo S.dn.length j) S.dn) ∧ Hid (Bs W D (.slice co M.body.length i) M.body)
/-- a session, a truth value and an error number -/
def RetSB (D : Nat → Prop) (S : Ses) (t : Bool) (c : Int) (e : Ending) (W : World) : Prop := ∃ ao k bo j, e = .returned (.tuple #[.agg #[.int .i64 S.nx, .bool S.wt, .int .i64 S.rq.fr, .int .i64 S.rq.to_, .int .i64 S.rq.kd, .int .i64 S.rq.nm, .slice ao S.rq.body.length k, .slice bo S.dn.length j, .int .i64 S.tr], .bool t, .int .i64 c]) ∧ Hid (Bs W D (.slice ao S.rq.body.length k) S.rq.body) ∧ Hid (Ms W D (.slice bo S.dn.length j) S.dn)
/-- a session and an error number -/
def RetSE (D : Nat → Prop) (S : Ses) (c : Int) (e : Ending) (W : World) : Prop := ∃ ao k bo j, e = .returned (.tuple #[.agg #[.int .i64 S.nx, .bool S.wt, .int .i64 S.rq.fr, .int .i64 S.rq.to_, .int .i64 S.rq.kd, .int .i64 S.rq.nm, .slice ao S.rq.body.length k, .slice bo S.dn.length j, .int .i64 S.tr], .int .i64 c]) ∧ Hid (Bs W D (.slice ao S.rq.body.length k) S.rq.body) ∧ Hid (Ms W D (.slice bo S.dn.length j) S.dn)
/-- a message and an error number -/
def RetME (D : Nat → Prop) (M : Msg) (c : Int) (e : Ending) (W : World) : Prop := ∃ ao k, e = .returned (.tuple #[.agg #[.int .i64 M.fr, .int .i64 M.to_, .int .i64 M.kd, .int .i64 M.nm, .slice ao M.body.length k], .int .i64 c]) ∧ Hid (Bs W D (.slice ao M.body.length k) M.body)
end Go.Proofs.YteipbcpnnojclaaDoor

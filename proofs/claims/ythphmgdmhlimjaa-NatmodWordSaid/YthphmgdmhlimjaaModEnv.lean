/- What a walk holds: its own boxes (with their marks), and the slices that read as known words; boxes may be stored into. -/
import Derived.Test.YthphmgdmhlimjaaModY
import Derived.Test.YthphmgdmhlimjaaReg2
namespace Go.Proofs.Ythphmgdmhlimjaa
open Go.RowKit NatMath
set_option linter.unusedVariables false

def HeldN : List (Value × List Nat) → World → Prop
  | [], _ => True
  | (v, l) :: G, W => Sl W v l ∧ HeldN G W
theorem HeldN.below {G : List (Value × List Nat)} {W W' : World} (h : HeldN G W) (hb : Below W.heap.size W W') : HeldN G W' := by
  induction G with
  | nil => exact trivial
  | cons p G ih => exact ⟨h.1.below' hb, ih h.2⟩
theorem HeldN.get {G : List (Value × List Nat)} {W : World} (h : HeldN G W) : ∀ (i : Nat) {v : Value} {l : List Nat}, G[i]? = some (v, l) → Sl W v l := by
  induction G with
  | nil => intro i v l e; simp at e
  | cons p G ih =>
    intro i v l e
    rcases i with _ | i
    · simp only [List.getElem?_cons_zero, Option.some.injEq] at e
      subst e; exact h.1
    · exact ih h.2 i (by simpa using e)
/-- a slice value -/
def IsSl (v : Value) : Prop := ∃ ao n c, v = .slice ao n c
/-- a box: block g holds the slice value v, and may be written to -/
def BoxAt (B : Nat) (g : Nat) (v : Value) (W : World) : Prop := W.cell? ⟨g, 0, none⟩ = some v ∧ W.frozen? ⟨g, 0, none⟩ = false ∧ g < W.heap.size ∧ B ≤ g ∧ IsSl v
theorem BoxAt.below {B g : Nat} {v : Value} {W W' : World} (h : BoxAt B g v W) (hb : Below W.heap.size W W') : BoxAt B g v W' :=
  ⟨(hb.cell (p := ⟨g, 0, none⟩) h.2.2.1).trans h.1, (hb.frozen (p := ⟨g, 0, none⟩) h.2.2.1).trans h.2.1, Nat.lt_of_lt_of_le h.2.2.1 hb.size, h.2.2.2⟩
def HeldB (B : Nat) : List (Nat × Value) → World → Prop
  | [], _ => True
  | (g, v) :: F, W => BoxAt B g v W ∧ (∀ p ∈ F, p.1 ≠ g) ∧ HeldB B F W
theorem HeldB.below {B : Nat} {F : List (Nat × Value)} {W W' : World} (h : HeldB B F W) (hb : Below W.heap.size W W') : HeldB B F W' := by
  induction F with
  | nil => exact trivial
  | cons p F ih => exact ⟨h.1.below hb, h.2.1, ih h.2.2⟩
theorem HeldB.old {B : Nat} {F : List (Nat × Value)} {W : World} (h : HeldB B F W) : ∀ p ∈ F, p.1 < W.heap.size := by
  induction F with
  | nil => intro p hp; cases hp
  | cons q F ih =>
    intro p hp
    rcases List.mem_cons.1 hp with rfl | hp
    · exact h.1.2.2.1
    · exact ih h.2.2 p hp
theorem HeldB.get {B : Nat} {F : List (Nat × Value)} {W : World} (h : HeldB B F W) : ∀ (i : Nat) {g : Nat} {v : Value}, F[i]? = some (g, v) → BoxAt B g v W := by
  induction F with
  | nil => intro i g v e; simp at e
  | cons p F ih =>
    intro i g v e
    rcases i with _ | i
    · simp only [List.getElem?_cons_zero, Option.some.injEq] at e
      subst e; exact h.1
    · exact ih h.2.2 i (by simpa using e)
theorem BoxAt.setOther {B g k : Nat} {u v : Value} {W : World} (h : BoxAt B k u W) (hne : k ≠ g) : BoxAt B k u (W.setCell ⟨g, 0, none⟩ v) :=
  ⟨(World.cell?_setCell_other _ _ _ _ (fun e => hne (by simp only [Addr.mk.injEq] at e; exact e.1.symm))).trans h.1, (World.frozen?_setCell _ _ _ _).trans h.2.1, by simpa using h.2.2.1, h.2.2.2⟩
theorem BoxAt.setSame {B g : Nat} {u v : Value} {W : World} (h : BoxAt B g u W) (hv : IsSl v) : BoxAt B g v (W.setCell ⟨g, 0, none⟩ v) :=
  ⟨World.cell?_setCell_same' _ _ _ (by rw [h.1]; rfl), (World.frozen?_setCell _ _ _ _).trans h.2.1, by simpa using h.2.2.1, h.2.2.2.1, hv⟩
theorem Sl.setBox {B g : Nat} {u v x : Value} {l : List Nat} {W : World} (h : Sl W x l) (hb : BoxAt B g u W) : Sl (W.setCell ⟨g, 0, none⟩ v) x l := by
  obtain ⟨ao, cap, h1, h2, h3, h4, h5, h6⟩ := h
  refine ⟨ao, cap, h1, h2, h3, h4, fun hl => ?_, h6⟩
  obtain ⟨b, off, k1, k2, k3⟩ := h5 hl
  refine ⟨b, off, k1, by simpa using k2, fun i hi => ?_⟩
  refine (World.cell?_setCell_other _ _ _ _ (fun e => ?_)).trans (k3 i hi)
  have h7 := k3 i hi
  rw [← e, hb.1] at h7
  obtain ⟨_, _, _, hs⟩ := hb.2.2.2.2
  rw [hs] at h7
  cases h7
theorem HeldN.setBox {B g : Nat} {u v : Value} {G : List (Value × List Nat)} {W : World} (h : HeldN G W) (hb : BoxAt B g u W) : HeldN G (W.setCell ⟨g, 0, none⟩ v) := by
  induction G with
  | nil => exact trivial
  | cons p G ih => exact ⟨h.1.setBox hb, ih h.2⟩
theorem HeldB.setAway {B g : Nat} {v : Value} {F : List (Nat × Value)} {W : World} (h : HeldB B F W) (hne : ∀ p ∈ F, p.1 ≠ g) : HeldB B F (W.setCell ⟨g, 0, none⟩ v) := by
  induction F with
  | nil => exact trivial
  | cons p F ih => exact ⟨h.1.setOther (hne p (by simp)), h.2.1, ih h.2.2 (fun q hq => hne q (by simp [hq]))⟩
theorem HeldB.set {B : Nat} {F : List (Nat × Value)} {W : World} (h : HeldB B F W) : ∀ (i : Nat) {g : Nat} {u : Value} (v : Value), F[i]? = some (g, u) → IsSl v → HeldB B (F.set i (g, v)) (W.setCell ⟨g, 0, none⟩ v) := by
  induction F with
  | nil => intro i g u v e; simp at e
  | cons p F ih =>
    intro i g u v e hv
    rcases i with _ | i
    · simp only [List.getElem?_cons_zero, Option.some.injEq] at e
      subst e
      exact ⟨h.1.setSame hv, h.2.1, h.2.2.setAway h.2.1⟩
    · have e' : F[i]? = some (g, u) := by simpa using e
      have hm : (g, u) ∈ F := List.mem_of_getElem? e'
      refine ⟨h.1.setOther (fun e2 => h.2.1 _ hm e2.symm), fun q hq => ?_, ih h.2.2 i v e' hv⟩
      rcases List.mem_or_eq_of_mem_set hq with hq | rfl
      · exact h.2.1 q hq
      · exact h.2.1 (g, u) hm
/-- nothing of what was there has turned; the boxes F hold their values; the slices G read as their words -/
def EnvB (w : World) (F : List (Nat × Value)) (G : List (Value × List Nat)) (W : World) : Prop := Below w.heap.size w W ∧ HeldB w.heap.size F W ∧ HeldN G W
section
variable {w W W' : World} {F : List (Nat × Value)} {G : List (Value × List Nat)}
theorem EnvB.start (w : World) : EnvB w [] [] w := ⟨Below.refl _ _, trivial, trivial⟩
theorem EnvB.below (h : EnvB w F G W) (hb : Below W.heap.size W W') : EnvB w F G W' := ⟨h.1.trans (hb.mono h.1.size), h.2.1.below hb, h.2.2.below hb⟩
theorem EnvB.alloc (h : EnvB w F G W) (o : Obj) : EnvB w F G (W.alloc o) := h.below (below_one W o)
theorem EnvB.drew (h : EnvB w F G W) : EnvB w F G W.drew := h.below (below_drewN (Below.refl _ _) 1)
theorem EnvB.add (h : EnvB w F G W) (g : Nat) (v : Value) (hx : BoxAt w.heap.size g v W) (hd : ∀ p ∈ F, p.1 ≠ g) : EnvB w ((g, v) :: F) G W := ⟨h.1, ⟨hx, hd, h.2.1⟩, h.2.2⟩
theorem EnvB.push (h : EnvB w F G W) (v : Value) (T : TypeId) (hv : IsSl v) (g : Nat) (hg : W.heap.size = g) : EnvB w ((g, v) :: F) G (W.alloc (.cells #[v] T)) := by
  subst hg
  refine (h.alloc _).add _ _ ⟨box1a _ _ _, box1f _ _ _, by simp, h.1.size, hv⟩ (fun p hp => ?_)
  have := h.2.1.old p hp
  omega
theorem EnvB.num (h : EnvB w F G W) {v : Value} {l : List Nat} (hn : Sl W v l) : EnvB w F ((v, l) :: G) W := ⟨h.1, h.2.1, hn, h.2.2⟩
theorem EnvB.numN (h : EnvB w F G W) {v : Value} {N : Nat} (hn : Nt W v N) : EnvB w F ((v, digs N) :: G) W := ⟨h.1, h.2.1, hn, h.2.2⟩
theorem EnvB.sl (h : EnvB w F G W) (i : Nat) {v : Value} {l : List Nat} (e : G[i]? = some (v, l)) : Sl W v l := h.2.2.get i e
theorem EnvB.nt (h : EnvB w F G W) (i : Nat) {v : Value} {N : Nat} (e : G[i]? = some (v, digs N)) : Nt W v N := h.2.2.get i e
theorem EnvB.box (h : EnvB w F G W) (i : Nat) {g : Nat} {v : Value} (e : F[i]? = some (g, v)) : BoxAt w.heap.size g v W := h.2.1.get i e
theorem EnvB.set (h : EnvB w F G W) (i : Nat) {g : Nat} {u : Value} (v : Value) (e : F[i]? = some (g, u)) (hv : IsSl v) : EnvB w (F.set i (g, v)) G (W.setCell ⟨g, 0, none⟩ v) := by
  have hb := h.box i e
  exact ⟨h.1.setCell hb.2.2.2.1 _, h.2.1.set i v e hv, h.2.2.setBox hb⟩
theorem EnvB.old (h : EnvB w F G W) : ∀ p ∈ F, p.1 < W.heap.size := h.2.1.old
theorem EnvB.size (h : EnvB w F G W) : w.heap.size ≤ W.heap.size := h.1.size
end

/-- a number came back -/
def RetV (N : Nat) (e : Ending) (w' : World) : Prop := ∃ (ao : Option Addr) (c : Nat), e = .returned (.agg #[.slice ao (len N) c]) ∧ Hid (Nt w' (.slice ao (len N) c) N)
/-- a number and a code came back -/
def ResN (S : Nat) (c : Int) (e : Ending) (w' : World) : Prop := ∃ (ao : Option Addr) (k : Nat), e = .returned (.tuple #[.agg #[.slice ao (len S) k], .int .i64 c]) ∧ Hid (Nt w' (.slice ao (len S) k) S)
theorem ResN.zero (c : Int) (w' : World) : ResN 0 c (.returned (.tuple #[.agg #[.slice none 0 0], .int .i64 c])) w' := ⟨none, 0, by rw [len_zero], Lib.hid (by rw [len_zero]; exact Nt.zero _)⟩
/-- a number and a truth value came back -/
def ResB (S : Nat) (t : Bool) (e : Ending) (w' : World) : Prop := ∃ (ao : Option Addr) (k : Nat), e = .returned (.tuple #[.agg #[.slice ao (len S) k], .bool t]) ∧ Hid (Nt w' (.slice ao (len S) k) S)
/-- two numbers and a code came back -/
def ResD (q r : Nat) (c : Int) (e : Ending) (w' : World) : Prop := ∃ (qa : Option Addr) (qk : Nat) (ra : Option Addr) (rk : Nat), e = .returned (.tuple #[.agg #[.slice qa (len q) qk], .agg #[.slice ra (len r) rk], .int .i64 c]) ∧ Hid (Nt w' (.slice qa (len q) qk) q) ∧ Hid (Nt w' (.slice ra (len r) rk) r)

def PEq (u : Value) : Fact := fun v _ _ _ => v = u
def PBox (B : Nat) : Fact := fun v b e W => ∃ g, v = .pointer (some ⟨g, 0, none⟩) ∧ B ≤ g ∧ b ≤ g ∧ g < e ∧ W.cell? ⟨g, 0, none⟩ = some (.slice none 0 0) ∧ W.frozen? ⟨g, 0, none⟩ = false ∧ g < W.heap.size
def PNum (N : Nat) : Fact := fun v _ _ W => ∃ (ao : Option Addr) (k : Nat), v = .agg #[.slice ao (len N) k] ∧ Hid (Nt W (.slice ao (len N) k) N)
def PTup (N : Nat) (c : Value) : Fact := fun v _ _ W => ∃ (ao : Option Addr) (k : Nat), v = .tuple #[.agg #[.slice ao (len N) k], c] ∧ Hid (Nt W (.slice ao (len N) k) N)
theorem PEq.st (u : Value) : (PEq u).Stable := fun _ _ _ _ _ h _ => h
theorem PBox.st (B : Nat) : (PBox B).Stable := fun _ _ _ _ _ ⟨g, h1, h2, h3, h4, h5, h6, h7⟩ hb => ⟨g, h1, h2, h3, h4, (hb.cell (p := ⟨g, 0, none⟩) h7).trans h5, (hb.frozen (p := ⟨g, 0, none⟩) h7).trans h6, Nat.lt_of_lt_of_le h7 hb.size⟩
theorem PNum.st (N : Nat) : (PNum N).Stable := fun _ _ _ _ _ ⟨ao, k, h1, h2⟩ hb => ⟨ao, k, h1, Lib.hid (h2.out.below' hb)⟩
theorem PTup.st (N : Nat) (c : Value) : (PTup N c).Stable := fun _ _ _ _ _ ⟨ao, k, h1, h2⟩ hb => ⟨ao, k, h1, Lib.hid (h2.out.below' hb)⟩
theorem PBox.mk {B : Nat} {w W : World} (hB : Below w.heap.size w W) (hw : B = w.heap.size) (T : TypeId) : PBox B (.pointer (some ⟨W.heap.size, 0, none⟩)) W.heap.size (W.alloc (.cells #[.slice none 0 0] T)).heap.size (W.alloc (.cells #[.slice none 0 0] T)) :=
  ⟨W.heap.size, rfl, hw ▸ hB.size, Nat.le_refl _, by simp, box1a _ _ _, box1f _ _ _, by simp⟩
theorem act_eq {K : Act → World → Prop} {a a' : Act} {w : World} (h : K a w) (e : a = a') : K a' w := e ▸ h
theorem op_of {ops : Array Oper} {i : Nat} {o' : Oper} {p : Oper → Prop} (ho : ops[i]? = some o') (h : p o') : ∀ o, ops[i]? = some o → p o := by
  intro o h2; rw [ho] at h2; cases h2; exact h
section
variable {P : Program} {ops : Array Oper} {Q : Exit → Act → World → Prop}
/-- an operation that only computes is taken first -/
theorem takeP {i : Nat} {oi : Oper} (d : Option Tmp) {v : Value} {fuel : Nat} {listed : Array Bool} {a : Act} {w : World} (hi : ops[i]? = some oi) (hd : oi.dst = d)
    (hs : Region.noSelect ops = true) (hf : Region.free .any ops listed i = true) (hr : (Region.ready .any ops listed).contains i = true)
    (hQ : ∀ c a w, Q (.panic c) (a.put d v) w → Q (.panic c) a w) (hg : Region.wanted oi (yielded ops a.tmps) = true)
    (hy : ∀ w, (execOp a.eval oi).run P w = .ok (.value v) w)
    (h : wpAny P .any ops Q fuel (listed.setIfInBounds i true) (a.put d v) w) : wpAny P .any ops Q (fuel + 1) listed a w := by
  subst hd; exact wpAny_take hi hs hf hr hQ (Or.inl ⟨hg, hy⟩) h
end
end Go.Proofs.Ythphmgdmhlimjaa

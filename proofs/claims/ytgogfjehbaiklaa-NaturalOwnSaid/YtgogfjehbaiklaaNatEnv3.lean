/- What a statement's walk holds: its boxes, and the slices that read as known words; the operations with results that may be too big. -/
import Derived.Test.YtgogfjehbaiklaaNatEnv2
namespace Go.Proofs.Ytgogfjehbaiklaa
open Go.RowKit NatMath
set_option linter.unusedVariables false

def HeldN : List (Value × List Nat) → World → Prop
  | [], _ => True
  | (v, l) :: G, W => Sl W v l ∧ HeldN G W
theorem HeldN.below {G : List (Value × List Nat)} {W W' : World} (h : HeldN G W) (hb : Below W.heap.size W W') : HeldN G W' := by
  induction G with
  | nil => exact trivial
  | cons p G ih => exact ⟨h.1.below' hb, ih h.2⟩
theorem HeldN.get {G : List (Value × List Nat)} {W : World} (h : HeldN G W) : ∀ (i : Nat) {v : Value} {l : List Nat}, G[i]? = some (v, l) → Sl W v l := by
  induction G with
  | nil => intro i v l e; simp at e
  | cons p G ih =>
    intro i v l e
    rcases i with _ | i
    · simp only [List.getElem?_cons_zero, Option.some.injEq] at e
      subst e; exact h.1
    · exact ih h.2 i (by simpa using e)
def EnvN (w : World) (F : List (Addr × Value)) (G : List (Value × List Nat)) (W : World) : Prop := Env w F W ∧ HeldN G W
section
variable {w W W' : World} {F : List (Addr × Value)} {G : List (Value × List Nat)}
theorem EnvN.start (w : World) : EnvN w [] [] w := ⟨Env.start w, trivial⟩
theorem EnvN.below (h : EnvN w F G W) (hb : Below W.heap.size W W') : EnvN w F G W' := ⟨h.1.below hb, h.2.below hb⟩
theorem EnvN.alloc (h : EnvN w F G W) (o : Obj) : EnvN w F G (W.alloc o) := h.below (below_one W o)
theorem EnvN.push (h : EnvN w F G W) (v : Value) (T : TypeId) : EnvN w ((⟨W.heap.size, 0, none⟩, v) :: F) G (W.alloc (.cells #[v] T)) := ⟨h.1.push v T, (h.alloc _).2⟩
theorem EnvN.pushAt (h : EnvN w F G W) (v : Value) (T : TypeId) (g : Nat) (hg : W.heap.size = g) : EnvN w ((⟨g, 0, none⟩, v) :: F) G (W.alloc (.cells #[v] T)) := by subst hg; exact h.push v T
theorem EnvN.num (h : EnvN w F G W) {v : Value} {l : List Nat} (hn : Sl W v l) : EnvN w F ((v, l) :: G) W := ⟨h.1, hn, h.2⟩
theorem EnvN.numN (h : EnvN w F G W) {v : Value} {N : Nat} (hn : Nt W v N) : EnvN w F ((v, digs N) :: G) W := ⟨h.1, hn, h.2⟩
theorem EnvN.sl (h : EnvN w F G W) (i : Nat) {v : Value} {l : List Nat} (e : G[i]? = some (v, l)) : Sl W v l := h.2.get i e
theorem EnvN.nt (h : EnvN w F G W) (i : Nat) {v : Value} {N : Nat} (e : G[i]? = some (v, digs N)) : Nt W v N := h.2.get i e
theorem EnvN.pop {x : Addr × Value} (h : EnvN w (x :: F) G W) : EnvN w F G W := ⟨⟨h.1.1, h.1.2.2⟩, h.2⟩
theorem EnvN.popn {x : Value × List Nat} (h : EnvN w F (x :: G) W) : EnvN w F G W := ⟨h.1, h.2.2⟩
end

/-- V and c are what an operation with the outcome S gives: S itself, or 0 and the code for too big -/
def BV (S V : Nat) (c : Int) : Prop := (len S ≤ 64 ∧ V = S ∧ c = 0) ∨ (¬ len S ≤ 64 ∧ V = 0 ∧ c = 9)
theorem BV.some (S : Nat) : ∃ V c, Hid (BV S V c) := by
  by_cases h : len S ≤ 64
  · exact ⟨S, 0, Lib.hid (Or.inl ⟨h, rfl, rfl⟩)⟩
  · exact ⟨0, 9, Lib.hid (Or.inr ⟨h, rfl, rfl⟩)⟩
theorem BV.len64 {S V : Nat} {c : Int} (h : Hid (BV S V c)) : len V ≤ 64 := by
  rcases h.out with ⟨h, rfl, _⟩ | ⟨_, rfl, _⟩
  · exact h
  · rw [len_zero]; omega
theorem BV.res {S V : Nat} {c : Int} (h : Hid (BV S V c)) {e : Ending} {w' : World} (hr : ResN (bigv S) (bigc S) e w') : ResN V c e w' := by
  rcases h.out with ⟨k, rfl, rfl⟩ | ⟨k, rfl, rfl⟩
  · rw [(big_ok k).1, (big_ok k).2] at hr; exact hr
  · rw [(big_no k).1, (big_no k).2] at hr; exact hr
theorem BV.post {S V n : Nat} {c : Int} (h : Hid (BV S V c)) {e : Ending} {w' : World} (hr : BigPost S n e w') : ResN V c e w' := BV.res h hr.res
section
variable {a b : Value} {N M V : Nat} {c : Int} {w : World}
theorem addB (h : Hid (BV (N + M) V c)) (ha : Nt w a N) (hb : Nt w b M) (h1 : len N ≤ 64) (h2 : len M ≤ 64) :
    Calls Try.prog 24 #[.agg #[a], .agg #[b]] w fun e w' => ResN V c e w' ∧ Below w.heap.size w w' :=
  (Add_ok a b N M w ha hb h1 h2).mono (fun e w' k => And.intro (BV.post h k.1) k.2)
theorem mulB (h : Hid (BV (N * M) V c)) (ha : Nt w a N) (hb : Nt w b M) (h1 : len N ≤ 64) (h2 : len M ≤ 64) :
    Calls Try.prog 13 #[.agg #[a], .agg #[b]] w fun e w' => ResN V c e w' ∧ Below w.heap.size w w' :=
  (Mul_ok a b N M w ha hb h1 h2).mono (fun e w' k => And.intro (BV.post h k.1) k.2)
theorem subB (h : M ≤ N ∧ V = N - M) (ha : Nt w a N) (hb : Nt w b M) (h1 : len N ≤ 64) (h2 : len M ≤ 64) :
    Calls Try.prog 33 #[.agg #[a], .agg #[b]] w fun e w' => ResN V 0 e w' ∧ Below w.heap.size w w' := by
  rw [h.2]; exact (Sub_ok a b N M w ha hb h1 h2 h.1).mono (fun e w' k => And.intro k.1.res k.2)
theorem refAddB (h : Hid (BV (N + M) V c)) (ha : Nt w a N) (hb : Nt w b M) (h1 : len N ≤ 64) (h2 : len M ≤ 64) :
    Calls Try.prog 34 #[.agg #[a], .agg #[b]] w fun e w' => ResN V c e w' ∧ Below w.heap.size w w' :=
  (refAdd_c a b N M w ha hb h1 h2).mono (fun e w' k => And.intro (BV.post h k.1) k.2)
theorem sameB (ha : Nt w a N) (hb : Nt w b N) :
    Calls Try.prog 18 #[.agg #[a], .agg #[b]] w fun e w' => e = .returned (.bool true) ∧ Below w.heap.size w w' := by
  have := Same_c a b N N w ha hb
  rwa [decide_eq_true rfl] at this
theorem isB (e : Int) (ha : Nt w a N) (hb : Nt w b N) :
    Calls Try.prog 17 #[.agg #[a], .int .i64 e, .agg #[b], .int .i64 e] w fun e' w' => e' = .returned (.bool true) ∧ Below w.heap.size w w' := by
  have := is_c a b N N e e w ha hb
  rwa [show (decide (e = e) && decide (N = N)) = true from by simp] at this
theorem validB (ha : Nt w a N) (h : len N ≤ 64) :
    Calls Try.prog 16 #[.agg #[a]] w fun e w' => e = .returned (.bool true) ∧ Below w.heap.size w w' := by
  have := refValid_c a (digs N) w ha
  rwa [vld_digs, decide_eq_true h] at this
theorem validS {l : List Nat} {t : Bool} (ht : Hid (vld l = t)) (ha : Sl w a l) :
    Calls Try.prog 16 #[.agg #[a]] w fun e w' => e = .returned (.bool t) ∧ Below w.heap.size w w' := by
  have := refValid_c a l w ha
  rwa [ht.out] at this
end
end Go.Proofs.Ytgogfjehbaiklaa

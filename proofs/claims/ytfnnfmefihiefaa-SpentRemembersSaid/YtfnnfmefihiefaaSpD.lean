/- Literals of uses; results. -/
import Derived.Test.YtfnnfmefihiefaaSpC
namespace Go.Proofs.Ytfnnfmefihiefaa
open Go.RowKit
set_option linter.unusedVariables false
set_option linter.unusedSimpArgs false
theorem fill_foldl (off : Nat) : ∀ (vs : List Value) (m : Nat) (cs : List Value), (vs.zipIdx m).foldl (fun (c : Array Value) (x : Value × Nat) => c.setIfInBounds (off + x.2) x.1) cs.toArray = ((vs.zipIdx m).foldl (fun c x => c.set (off + x.2) x.1) cs).toArray
  | [], m, cs => rfl
  | v :: r, m, cs => by
    rw [List.zipIdx_cons, List.foldl_cons, List.foldl_cons, List.setIfInBounds_toArray]
    exact fill_foldl off r (m + 1) _
/-- one part put in -/
theorem fill_one {place : Nat → Option (Nat × Nat)} {i off n : Nat} {vs cs : List Value} {v : Value} {parts : List (Nat × Value)} (hv : v.cells = vs.toArray) (hp : place i = some (off, n)) (hn : vs.length = n) (hb : off + n ≤ cs.length) :
    Instr.fill place cs.toArray ((i, v) :: parts) = Instr.fill place (cs.take off ++ (vs ++ cs.drop (off + n))).toArray parts := by
  rw [Instr.fill]
  simp only [hp, hv, List.size_toArray, hn]
  rw [if_neg (by simp; omega)]
  have e : vs.toArray.zipIdx.foldl (fun (c : Array Value) (x : Value × Nat) => c.setIfInBounds (off + x.2) x.1) cs.toArray = (cs.take off ++ (vs ++ cs.drop (off + n))).toArray := by
    rw [← Array.foldl_toList, Array.toList_zipIdx]
    refine (fill_foldl off vs 0 cs).trans ?_
    rw [foldl_set vs off 0 cs (by omega)]
    simp [hn]
  exact congrArg (fun x => Instr.fill place x parts) e
theorem fill_to {place : Nat → Option (Nat × Nat)} {i : Nat} {v : Value} {parts : List (Nat × Value)} (off n : Nat) (vs cs cs' : List Value) (hv : v.cells = vs.toArray) (hp : place i = some (off, n)) (hn : vs.length = n) (hb : off + n ≤ cs.length) (e : cs.take off ++ (vs ++ cs.drop (off + n)) = cs') :
    Instr.fill place cs.toArray ((i, v) :: parts) = Instr.fill place cs'.toArray parts := by rw [fill_one hv hp hn hb, e]
theorem built_of {t : TypeId} {fields : Array Field} {z : Value} {places : List (Nat × Nat)} (hu : Try.prog.underlying t = some (.struct fields)) (hz : (Try.prog.info? t).bind (·.zero) = some z) (hp : (fields.toList.mapM fun f => (Try.prog.info? f.type).map fun i => (f.offset, i.size)) = some places) (parts : List (Nat × Value)) :
    Try.prog.built t parts = Instr.fill (places.toArray[·]?) z.cells parts := by
  unfold Program.built
  cases hi : Try.prog.info? t with
  | none => rw [hi] at hz; cases hz
  | some it =>
    have hz' : it.zero = some z := by rw [hi] at hz; exact hz
    simp only [hu, hz', hp]
theorem usePlaces : ∃ fields, Try.prog.underlying 44 = some (.struct fields) ∧ (fields.toList.mapM fun f => (Try.prog.info? f.type).map fun i => (f.offset, i.size)) = some [(0, 1), (1, 1), (2, 80), (82, 1)] := ⟨_, Try.underlying44, by kernel_rfl⟩
theorem zUse : (Try.prog.info? 44).bind (·.zero) = some (.agg (usc zU nilV nilV).toArray) := by kernel_rfl
theorem built_use2 (A B : Int) : Try.prog.built 44 [(0, .int .i64 A), (1, .int .i64 B)] = some (usc ⟨A, B, zS, 0⟩ nilV nilV).toArray := by
  obtain ⟨fields, hu, hp⟩ := usePlaces
  rw [built_of hu zUse hp]
  show Instr.fill _ (usc zU nilV nilV).toArray _ = _
  rw [fill_to 0 1 [.int .i64 A] (usc zU nilV nilV) (usc ⟨A, 0, zS, 0⟩ nilV nilV) rfl rfl rfl (by decide) rfl, fill_to 1 1 [.int .i64 B] (usc ⟨A, 0, zS, 0⟩ nilV nilV) (usc ⟨A, B, zS, 0⟩ nilV nilV) rfl rfl rfl (show 1 + 1 ≤ (usc ⟨A, 0, zS, 0⟩ nilV nilV).length by rw [usc_len (u := ⟨A, 0, zS, 0⟩) zS_ok]; omega) rfl]
  rfl
theorem drop_usc (A B : Int) : (usc ⟨A, B, zS, 0⟩ nilV nilV).drop 82 = [.int .i64 0] := rfl
theorem built_use4 {s : Sp} (h : SpOk s) (A B K : Int) (la pa : Value) : Try.prog.built 44 [(0, .int .i64 A), (1, .int .i64 B), (2, .agg (spc s la pa).toArray), (3, .int .i64 K)] = some (usc ⟨A, B, s, K⟩ la pa).toArray := by
  obtain ⟨fields, hu, hp⟩ := usePlaces
  rw [built_of hu zUse hp]
  show Instr.fill _ (usc zU nilV nilV).toArray _ = _
  rw [fill_to 0 1 [.int .i64 A] (usc zU nilV nilV) (usc ⟨A, 0, zS, 0⟩ nilV nilV) rfl rfl rfl (by decide) rfl, fill_to 1 1 [.int .i64 B] (usc ⟨A, 0, zS, 0⟩ nilV nilV) (usc ⟨A, B, zS, 0⟩ nilV nilV) rfl rfl rfl (show 1 + 1 ≤ (usc ⟨A, 0, zS, 0⟩ nilV nilV).length by rw [usc_len (u := ⟨A, 0, zS, 0⟩) zS_ok]; omega) rfl]
  rw [fill_to 2 80 (spc s la pa) (usc ⟨A, B, zS, 0⟩ nilV nilV) (usc ⟨A, B, s, 0⟩ la pa) rfl rfl (spc_len h la pa) (by rw [usc_len (u := ⟨A, B, zS, 0⟩) zS_ok]; omega) (by rw [show 2 + 80 = 82 from rfl, drop_usc]; rfl)]
  have e3 : List.drop (82 + 1) (usc ⟨A, B, s, 0⟩ la pa) = [] := List.drop_eq_nil_of_le (by rw [usc_len (u := ⟨A, B, s, 0⟩) h]; omega)
  have e4 : List.take 82 (usc ⟨A, B, s, 0⟩ la pa) = .int .i64 A :: .int .i64 B :: spc s la pa := by
    unfold usc
    rw [List.take_succ_cons, List.take_succ_cons, List.take_append_of_le_length (Nat.le_of_eq (spc_len h la pa).symm), List.take_of_length_le (Nat.le_of_eq (spc_len h la pa))]
  rw [fill_to 82 1 [.int .i64 K] (usc ⟨A, B, s, 0⟩ la pa) (usc ⟨A, B, s, K⟩ la pa) rfl rfl rfl (by rw [usc_len (u := ⟨A, B, s, 0⟩) h]; omega) (by rw [e3, e4]; simp [usc])]
  rfl
section
variable {ops : Array Oper} {rest : List Oper} {op : Oper} {a : Act} {w : World} {Q : Exit → Act → World → Prop}
theorem wpl_build_b (hg : op.guard = none) {t : TypeId} (parts : Array (Nat × Operand)) (ho : op.op = .build t parts) (vals : List (Nat × Value)) (hv : (parts.map fun (i, x) => (i, a.eval x)).toList = vals) (cs : List Value) (hf : Try.prog.built t vals = some cs.toArray)
    (h : wpList Try.prog ops Q rest (a.put op.dst (.agg cs.toArray)) w) : wpList Try.prog ops Q (op :: rest) a w := wpList_buildTo hg t parts ho op.dst rfl cs.toArray (by rw [hv]; exact hf) h
theorem exec_build_b {oi : Oper} {ev : Operand → Value} {t : TypeId} (parts : Array (Nat × Operand)) (ho : oi.op = .build t parts) (vals : List (Nat × Value)) (hv : (parts.map fun (i, x) => (i, ev x)).toList = vals) (cs : List Value) (hf : Try.prog.built t vals = some cs.toArray) :
    (execOp ev oi).run Try.prog w = .ok (.value (.agg cs.toArray)) w := by
  unfold execOp
  have := run_build (P := Try.prog) w t (parts.map fun (i, x) => (i, ev x)) cs.toArray (by rw [hv]; exact hf)
  simp only [ho, Sem.run_bind, this, Result.andThen_ok, Sem.run_pure]
end
/-! ### results -/
/-- a use came back -/
def RetU (D : Nat → Prop) (u : Us) (e : Ending) (W : World) : Prop := ∃ la pa, e = .returned (.agg (usc u la pa).toArray) ∧ Hid ((gSp u.sp la pa).at_ W D)
/-- a use and a truth value -/
def RetUB (D : Nat → Prop) (u : Us) (t : Bool) (e : Ending) (W : World) : Prop := ∃ la pa, e = .returned (.tuple #[.agg (usc u la pa).toArray, .bool t]) ∧ Hid ((gSp u.sp la pa).at_ W D)
/-- a list of uses -/
def RetL (D : Nat → Prop) (L : List Us) (e : Ending) (W : World) : Prop := ∃ v X, e = .returned v ∧ X.map Uv.u = L ∧ Hid ((gUl v X).at_ W D)
/-- a table, conflicts, an error number -/
def RetTCE (D : Nat → Prop) (L C : List Us) (n : Int) (e : Ending) (W : World) : Prop := ∃ v X c Y, e = .returned (.tuple #[.agg #[v], c, .int .i64 n]) ∧ X.map Uv.u = L ∧ Y.map Uv.u = C ∧ Hid ((gUl v X).at_ W D) ∧ Hid ((gUl c Y).at_ W D)
theorem gSp.nil (W : World) (D : Nat → Prop) : (gSp zS nilV nilV).at_ W D := ⟨zS_ok, Rw.nil W D 3, Rw.nil W D 32⟩
theorem gUl.nil (W : World) (D : Nat → Prop) : (gUl nilV []).at_ W D := ⟨Rw.nil W D 83, fun x hx => by cases hx⟩
theorem gUl.len {W : World} {D : Nat → Prop} {v : Value} {X : List Uv} (h : (gUl v X).at_ W D) : ∃ a k, v = .slice a X.length k := h.1.len
theorem gUl.addr {W : World} {D : Nat → Prop} {a : Option Addr} {n c : Nat} {X : List Uv} (h : (gUl (.slice a n c) X).at_ W D) (hk : X ≠ []) : ∃ b o, a = some ⟨b, o, none⟩ := by
  have hr := h.1
  have hn : n = X.length := by obtain ⟨_, _, h1, _⟩ := hr; simp only [Value.slice.injEq] at h1; exact h1.2.1
  subst hn
  exact Rw.addr hr (by intro e; exact hk (List.length_eq_zero_iff.1 e))
end Go.Proofs.Ytfnnfmefihiefaa

/- Shift to the left. -/
import Derived.Test.YtgogfjehbaiklaaNatZ
import Derived.Test.YtgogfjehbaiklaaNatReg
import Derived.Maps.AppendAt
namespace Go.Proofs.Ytgogfjehbaiklaa
open Go.RowKit NatMath
set_option linter.unusedVariables false
set_option linter.unusedSimpArgs false

/-- make([]uint32, n) as one operation of a region -/
theorem op_make_words (w : World) {o : Oper} {a : Act} {K : Act → World → Prop} {Q : Exit → Act → World → Prop} {E : Prop} (d : Option Tmp)
    (hg : o.guard = none) (hd : o.dst = d) (l c : Operand) (hop : o.op = Op.makeSlice 22 l c) (n : Nat) (L C : Int) (hl : a.eval l = .int .i64 L) (hc : a.eval c = .int .i64 C) (hL : L = (n : Int)) (hC : C = (n : Int)) (hn : n ≤ 1000000) (g : Nat) (hgs : w.heap.size = g) (ops : Array Oper)
    (hK : ∀ w', Own w' g (List.replicate n 0) → Below g w w' → K (a.put d (.slice (some ⟨g, 0, none⟩) n n)) w') :
    if Region.wanted o (yielded ops a.tmps) = true then Oper.wp Try.prog o a w K Q else E := by
  have hw : Region.wanted o (yielded ops a.tmps) = true := by simp [Region.wanted, hg]
  rw [if_pos hw]
  subst hgs hd
  obtain ⟨i0, hi, hz0, hz1, hz2⟩ := info_parts Try.info62
  obtain ⟨w', hrun, r1, r2⟩ := run_make_full (P := Try.prog) w 0 22 62 i0 _ 1 (by rfl) hi hz0 hz1 .i64 .i64 n (by rw [hz2]; omega) (by unfold maxLen; omega) (Nat.zero_le _)
  subst hL
  subst hC
  unfold Oper.wp
  simp [execOp, hop, hl, hc, hrun, Result.andThen]
  refine hK w' ?_ ((Below.refl _ _).grown r2 (Nat.le_refl _) (by simp))
  refine Own.made (n := n) (base := 0) ?_
  have e : (madeCells (Value.int .u32 0).cells (n * 1)).toList = List.replicate n (Value.int .u32 0) := by
    rw [Nat.mul_one]; exact toList_madeCells_one _ _
  rw [← e]; exact r1

/-- append of words that lie somewhere, as one operation of a region -/
theorem op_pushes (w : World) {o : Oper} {a : Act} {K : Act → World → Prop} {Q : Exit → Act → World → Prop} {E : Prop} (d : Option Tmp) (hgd : o.guard = none) (hd : o.dst = d) (s x : Operand)
    (ho : o.op = .call { callee := .builtin .append, args := #[s, x], argTypes := #[22, 22] })
    (base : Nat) (v : Value) (l m : List Nat) (k : Nat) (hk : m.length = k) (hs : a.eval s = v) (hown : OwnV w base v l) (ad : Addr) (c : Nat) (hx : a.eval x = .slice (some ad) k c)
    (hcell : ∀ j, j < k → w.cell? (ad.add j) = some (.int .u32 ((m.getD j 0 : Nat) : Int)))
    (hu : words m) (hl : l.length ≤ 1000000) (hm : k ≤ 1000000) (hbase : base ≤ w.heap.size) (ops : Array Oper)
    (h : ∀ v' w', OwnV w' base v' (l ++ m) → Below base w w' → K (a.put d v') w') :
    if Region.wanted o (yielded ops a.tmps) = true then Oper.wp Try.prog o a w K Q else E := by
  have hw : Region.wanted o (yielded ops a.tmps) = true := by simp [Region.wanted, hgd]
  rw [if_pos hw]
  subst hk hd
  obtain ⟨i0, hi, hz0, hz1, hz2⟩ := info_parts Try.info62
  obtain ⟨v', w', hr, h2, h3, h4, h5⟩ := run_append_own_at (P := Try.prog) w base 22 o.type 62 i0 (.int .u32 0) 1 4 (by rfl) hi hz0 hz1 hz2 rfl (by omega) v l.length _ hown.1 ad m.length c (m.map fun (u : Nat) => Value.int .u32 (u : Int)) (by simp) (by
      intro j y hy
      rw [List.getElem?_map] at hy
      obtain ⟨z, hz, rfl⟩ := Option.map_eq_some_iff.1 hy
      have hj : j < m.length := by apply Nat.lt_of_not_le; intro hh; rw [List.getElem?_eq_none hh] at hz; simp at hz
      rw [hcell j hj, List.getD_eq_getElem?_getD, hz]; rfl) (by
      intro y hy
      obtain ⟨z, _, rfl⟩ := List.mem_map.1 hy
      rfl) (by unfold maxLen; omega) (by omega) hbase
  unfold Oper.wp execOp
  simp only [ho, resolve, invoke, builtin, Sem.run_bind, Sem.run_pure, Result.andThen_ok, List.map_toArray, List.map_cons, List.map_nil, hs, hx, hr]
  refine h v' w' ⟨by simpa using h2, ?_⟩ ((Below.refl _ _).grown h3 hbase ?_)
  · intro y hy
    rcases List.mem_append.1 hy with hy | hy
    · exact hown.2 y hy
    · exact hu y hy
  · intro k hk
    have := hown.fr
    cases v with
    | slice ao n' c' =>
      cases ao with
      | none => simp [Value.ownBlock] at hk
      | some a' => simp [Value.ownBlock] at hk; rw [← hk]; exact this a' _ _ rfl
    | _ => simp [Value.ownBlock] at hk

theorem Own.v {w : World} {g base : Nat} {l : List Nat} (h : Own w g l) (hw : words l) (hb : base ≤ g) (hl : l.length ≤ 1000000) : OwnV w base (.slice (some ⟨g, 0, none⟩) l.length l.length) l :=
  ⟨⟨by simp, Or.inr ⟨g, l.length, (l.map fun (u : Nat) => Value.int .u32 (u : Int)).toArray, rfl, hb, h, Nat.le_refl _, by unfold maxLen; omega, by simp, by simp; exact List.take_of_length_le (by simp)⟩⟩, hw⟩

theorem OwnV.uf {w : World} {base : Nat} {v v' : Value} {l : List Nat} (h : OwnV w base v l) (e : v'.ownBlock = v.ownBlock) : Uf w v' := by
  obtain ⟨⟨_, ⟨rfl, h2⟩ | ⟨g, cap, cur, rfl, h3, h4, _⟩⟩, _⟩ := h
  · intro a k c hv
    subst hv
    simp [Value.ownBlock] at e
  · exact Uf.own (fun i => by simp [World.frozen?, h4]) e

theorem checked_v (v : Value) (l : List Nat) (w : World) (n : Nat) (h : OwnV w n v l) :
    Calls Try.prog 43 #[v] w fun e w' =>
      ((len (val l) ≤ 64 ∧ ∃ v', Hid ((∀ W, OwnV W n v l → NtU W v' (val l)) ∧ Fr n v') ∧ e = .returned (.tuple #[.agg #[v'], .int .i64 0])) ∨ (¬ len (val l) ≤ 64 ∧ e = errN 9)) ∧ Below w.heap.size w w' := by
  by_cases hl : len (val l) ≤ 64
  · refine (checked_ok v l w h.sl hl).mono ?_
    rintro e w' ⟨⟨v', hv, rfl⟩, hb⟩
    exact ⟨Or.inl ⟨hl, v', Lib.hid ⟨fun W hW => ⟨hv.out.1 W hW.sl, hW.uf hv.out.2⟩, Fr.same h.fr hv.out.2⟩, rfl⟩, hb⟩
  · refine (checked_big v l w h.sl hl).mono ?_
    rintro e w' ⟨rfl, hb⟩
    exact ⟨Or.inr ⟨hl, rfl⟩, hb⟩

theorem shl_val (N n : Nat) (l : List Nat) (h : val l = N * 2 ^ (n % 32)) : val (List.replicate (n / 32) 0 ++ l) = N * 2 ^ n := by
  rw [val_append, val_zeros, List.length_replicate, h, Bp_two, Nat.zero_add, Nat.mul_comm, Nat.mul_assoc, ← Nat.pow_add, Nat.mod_add_div]
end Go.Proofs.Ytgogfjehbaiklaa

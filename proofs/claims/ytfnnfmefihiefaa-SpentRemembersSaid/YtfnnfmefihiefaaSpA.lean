/- Spends, as a walk reads them: plain cells that are compared as wholes, rows of leaves and of hashes. -/
import Derived.Test.YtfnnfmefihiefaaSLst
import Derived.Deep.MidRow
import Derived.DeepKeys
import Derived.Deep.DeepCutAuto
import Derived.Deep.CutBlock
namespace Go.Proofs.Ytfnnfmefihiefaa
open Go.RowKit
set_option linter.unusedVariables false
set_option linter.unusedSimpArgs false
/-- plain cells that read as the same -/
def eqc (T : TypeId) (c c' : List Value) : Prop := Try.prog.keyLits 9 T c = Try.prog.keyLits 9 T c'
/-- plain cells of the type T -/
def okc (T : TypeId) (c : List Value) : Prop := c.length = Try.prog.cellsOf T ∧ (Try.prog.keyLits 9 T c).isSome = true
/-- a type whose values are compared cell by cell -/
structure Wide (T : TypeId) (n : Nat) : Prop where
  key : Try.prog.keyTypeAt 10 T = true
  size : (Try.prog.info? T).map (·.size) = some n
  cells : Try.prog.cellsOf T = n
  row : ∃ d, Try.prog.underlying T = some d ∧ d.isRow = true
  wide : (match Try.prog.underlying T with | some (.array _ _) | some (.struct _) => true | _ => false) = true
theorem wCoin : Wide 31 41 := ⟨by kernel_rfl, by kernel_rfl, by kernel_rfl, ⟨_, Try.underlying31, rfl⟩, by kernel_rfl⟩
theorem wNode : Wide 33 2 := ⟨by kernel_rfl, by kernel_rfl, by kernel_rfl, ⟨_, Try.underlying33, rfl⟩, by kernel_rfl⟩
theorem wCtx : Wide 35 34 := ⟨by kernel_rfl, by kernel_rfl, by kernel_rfl, ⟨_, Try.underlying35, rfl⟩, by kernel_rfl⟩
theorem wHash : Wide 27 32 := ⟨by kernel_rfl, by kernel_rfl, by kernel_rfl, ⟨_, Try.underlying27, rfl⟩, by kernel_rfl⟩
theorem okc.len {T : TypeId} {n : Nat} {c : List Value} (h : okc T c) (W : Wide T n) : c.length = n := h.1.trans W.cells
theorem okc.info {T : TypeId} {n : Nat} {c : List Value} (h : okc T c) (W : Wide T n) : (Try.prog.info? T).map (·.size) = some c.length := by rw [W.size, h.len W]
/-- two of them compared -/
theorem equal_pl {T : TypeId} {n : Nat} (W : Wide T n) {c c' : List Value} (h : okc T c) (h' : okc T c') {t : Bool} (ht : t = true ↔ eqc T c c') (w : World) : (Op.equal T (.agg c.toArray) (.agg c'.toArray)).run Try.prog w = .ok t w := by
  obtain ⟨l, hl⟩ := Option.isSome_iff_exists.1 h.2
  obtain ⟨l', hl'⟩ := Option.isSome_iff_exists.1 h'.2
  have fm : ∀ {c : List Value}, okc T c → (Value.agg c.toArray).formed Try.prog T = true := by
    intro c hc
    have hw := W.wide
    unfold Value.formed
    split at hw
    · next hu => simp only [hu]; simpa using hc.1
    · next hu => simp only [hu]; simpa using hc.1
    · cases hw
  obtain ⟨r, hr, hiff⟩ := run_equalIn_deep (P := Try.prog) 9990 10 T W.key w 9 9 (.agg c.toArray) (.agg c'.toArray) l l' (fm h) (fm h') (by simpa [Value.cells] using hl) (by simpa [Value.cells] using hl')
  have hr2 : r = t := by
    rw [Bool.eq_iff_iff, hiff, ht]
    unfold eqc
    rw [hl, hl']
    simp
  rw [← hr2]
  exact hr
theorem eql_pl {T : TypeId} {n : Nat} (W : Wide T n) {c c' : List Value} (h : okc T c) (h' : okc T c') {t : Bool} (ht : t = true ↔ eqc T c c') (w : World) : (binOp .eql T (.agg c.toArray) (.agg c'.toArray)).run Try.prog w = .ok (.bool t) w := by
  simp only [binOp, Sem.run_bind, equal_pl W h h' ht w, Result.andThen_ok, Sem.run_pure]
theorem neq_pl {T : TypeId} {n : Nat} (W : Wide T n) {c c' : List Value} (h : okc T c) (h' : okc T c') {t : Bool} (ht : t = true ↔ eqc T c c') (w : World) : (binOp .neq T (.agg c.toArray) (.agg c'.toArray)).run Try.prog w = .ok (.bool (!t)) w := by
  simp only [binOp, Sem.run_bind, equal_pl W h h' ht w, Result.andThen_ok, Sem.run_pure]
/-- a load of a whole, as one operation of a region that draws -/
theorem exec_load_big {P : Program} {oi : Oper} {ev : Operand → Value} {w : World} (ty : TypeId) (x : Operand) (ho : oi.op = .load ty x) (b o : Nat) (hx : ev x = .pointer (some ⟨b, o, none⟩)) (cs : List Value) (d : TypeDesc) (hc : w.rangeAt b o cs)
    (hu : P.underlying ty = some d) (hd : d.isRow = true) (hi : (P.info? ty).map (·.size) = some cs.length) : (execOp ev oi).run P w = .ok (.value (.agg cs.toArray)) w := by
  unfold execOp
  simp only [ho, hx, Instr.loadAt, Instr.sureAddr, Sem.run_bind, Sem.run_pure, Result.andThen_ok, run_loadVar_mid w b o ty cs d hc hu hd hi]
theorem exec_load_w {T : TypeId} {n : Nat} (W : Wide T n) {oi : Oper} {ev : Operand → Value} {w : World} (x : Operand) (ho : oi.op = .load T x) (b o : Nat) (hx : ev x = .pointer (some ⟨b, o, none⟩)) (cs : List Value) (hk : okc T cs) (hc : w.rangeAt b o cs) :
    (execOp ev oi).run Try.prog w = .ok (.value (.agg cs.toArray)) w := by
  obtain ⟨d, hu, hd⟩ := W.row
  exact exec_load_big T x ho b o hx cs d hc hu hd (hk.info W)
theorem wpl_want {ops : Array Oper} {rest : List Oper} {op : Oper} {a : Act} {w : World} {Q : Exit → Act → World → Prop} (hw : Region.wanted op (yielded ops a.tmps) = true)
    (h : ∀ K : Act → World → Prop, (∀ a w, wpList Try.prog ops Q rest a w → K a w) → op.wp Try.prog a w K Q) : wpList Try.prog ops Q (op :: rest) a w :=
  wpList_step fun K hK => by simp only [hw, if_true]; exact h K hK
theorem wpl_load_w {T : TypeId} {n : Nat} (W : Wide T n) {ops : Array Oper} {rest : List Oper} {op : Oper} {a : Act} {w : World} {Q : Exit → Act → World → Prop} (b o : Nat) (hx : ∃ x, op.op = .load T x ∧ a.eval x = .pointer (some ⟨b, o, none⟩)) (hw : Region.wanted op (yielded ops a.tmps) = true) (cs : List Value) (hk : okc T cs) (hc : w.rangeAt b o cs) (h : wpList Try.prog ops Q rest (a.put op.dst (.agg cs.toArray)) w) : wpList Try.prog ops Q (op :: rest) a w := by
  obtain ⟨d, hu, hd⟩ := W.row
  obtain ⟨x, ho, hx⟩ := hx
  exact wpl_want hw fun K hK => wp_load_mid T x ho b o hx cs d hc hu hd (hk.info W) (hK _ _ h)
/-- the cells of a row of wholes -/
theorem flat_get {n : Nat} : ∀ {L : List (List Value)} (hL : ∀ c ∈ L, c.length = n) (k j : Nat) (hk : k < L.length), j < n → L.flatten[k * n + j]? = L[k][j]?
  | [], _, k, _, hk, _ => absurd hk (Nat.not_lt_zero _)
  | c :: L, hL, 0, j, hk, hj => by
    rw [List.flatten_cons, Nat.zero_mul, Nat.zero_add, List.getElem?_append_left (by rw [hL c (by simp)]; exact hj)]; rfl
  | c :: L, hL, k + 1, j, hk, hj => by
    have hc := hL c (by simp)
    rw [List.flatten_cons, List.getElem?_append_right (by rw [hc, Nat.add_mul]; omega), hc, show (k + 1) * n + j - n = k * n + j by rw [Nat.add_mul]; omega]
    exact flat_get (fun x hx => hL x (by simp [hx])) k j (by simpa using hk) hj
theorem flat_len {n : Nat} : ∀ {L : List (List Value)} (hL : ∀ c ∈ L, c.length = n), L.flatten.length = L.length * n
  | [], _ => by simp
  | c :: L, hL => by rw [List.flatten_cons, List.length_append, hL c (by simp), flat_len (fun x hx => hL x (by simp [hx])), List.length_cons, Nat.add_mul]; omega
/-- whole k of a row of wholes lies there -/
theorem Rw.whole {W : World} {D : Nat → Prop} {b off m j n : Nat} {L : List (List Value)} (h : Rw W D (.slice (some ⟨b, off, none⟩) m j) m n L.flatten) (hn : m = L.length) (hL : ∀ c ∈ L, c.length = n) {k : Nat} (hk : k < L.length) : W.rangeAt b (off + k * n) L[k] := by
  obtain ⟨ao, cap, h1, _, _, _, _, h6⟩ := h
  obtain ⟨b', off', k1, k2, k3⟩ := h6 (by omega)
  cases h1
  cases k1
  intro i v hv
  have hi : i < n := by rw [← hL L[k] (List.getElem_mem hk)]; exact (List.getElem?_eq_some_iff.1 hv).1
  have := k3 (k * n + i) v (by rw [flat_get hL k i hk hi]; exact hv)
  rw [← Nat.add_assoc] at this
  exact this
theorem Box.range {B b : Nat} {T : TypeId} {cs : List Value} {W : World} (h : Box B b T cs W) {o : Nat} {c : List Value} (hc : ∀ j, j < c.length → cs[o + j]? = c[j]?) : W.rangeAt b o c := fun j v hv => h.cell (o + j) (by rw [hc j (List.getElem?_eq_some_iff.1 hv).1]; exact hv)
/-- a spend: plain cells of coin, node, context; leaves; the path -/
structure Sp where
  cn : List Value
  nd : List Value
  cx : List Value
  lv : List (Int × Int × Int)
  pi : Int
  pa : List (List Value)
structure SpOk (s : Sp) : Prop where
  cn : okc 31 s.cn
  nd : okc 33 s.nd
  cx : okc 35 s.cx
  pa : ∀ c ∈ s.pa, okc 27 c
/-- its cells -/
def spc (s : Sp) (la pa : Value) : List Value := s.cn ++ (s.nd ++ (s.cx ++ [la, .int .i64 s.pi, pa]))
theorem spc_len {s : Sp} (h : SpOk s) (la pa : Value) : (spc s la pa).length = 80 := by
  unfold spc; simp [h.cn.len wCoin, h.nd.len wNode, h.cx.len wCtx]
theorem spc_cn {s : Sp} (h : SpOk s) (la pa : Value) (j : Nat) (hj : j < s.cn.length) : (spc s la pa)[0 + j]? = s.cn[j]? := by
  unfold spc; rw [Nat.zero_add, List.getElem?_append_left hj]
theorem spc_nd {s : Sp} (h : SpOk s) (la pa : Value) (j : Nat) (hj : j < s.nd.length) : (spc s la pa)[41 + j]? = s.nd[j]? := by
  unfold spc; rw [List.getElem?_append_right (by rw [h.cn.len wCoin]; omega), h.cn.len wCoin, show 41 + j - 41 = j by omega, List.getElem?_append_left hj]
theorem spc_cx {s : Sp} (h : SpOk s) (la pa : Value) (j : Nat) (hj : j < s.cx.length) : (spc s la pa)[43 + j]? = s.cx[j]? := by
  unfold spc
  rw [List.getElem?_append_right (by rw [h.cn.len wCoin]; omega), h.cn.len wCoin, List.getElem?_append_right (by rw [h.nd.len wNode]; omega), h.nd.len wNode, show 43 + j - 41 - 2 = j by omega, List.getElem?_append_left hj]
theorem spc_tail {s : Sp} (h : SpOk s) (la pa : Value) : (spc s la pa)[77]? = some la ∧ (spc s la pa)[78]? = some (.int .i64 s.pi) ∧ (spc s la pa)[79]? = some pa := by
  have key : ∀ i, (spc s la pa)[77 + i]? = [la, .int .i64 s.pi, pa][i]? := by
    intro i
    unfold spc
    rw [List.getElem?_append_right (by rw [h.cn.len wCoin]; omega), h.cn.len wCoin, List.getElem?_append_right (by rw [h.nd.len wNode]; omega), h.nd.len wNode, List.getElem?_append_right (by rw [h.cx.len wCtx]; omega), h.cx.len wCtx, show 77 + i - 41 - 2 - 34 = i by omega]
  exact ⟨key 0, key 1, key 2⟩
def lcl (l : List (Int × Int × Int)) : List Value := l.flatMap fun x => [.int .i64 x.1, .int .i64 x.2.1, .int .i64 x.2.2]
theorem lcl_get : ∀ (l : List (Int × Int × Int)) (i : Nat) (h : i < l.length), (lcl l)[i * 3]? = some (.int .i64 l[i].1) ∧ (lcl l)[i * 3 + 1]? = some (.int .i64 l[i].2.1) ∧ (lcl l)[i * 3 + 2]? = some (.int .i64 l[i].2.2)
  | [], i, h => absurd h (Nat.not_lt_zero _)
  | x :: l, 0, h => ⟨rfl, rfl, rfl⟩
  | x :: l, i + 1, h => by
    have := lcl_get l i (by simpa using h)
    have e : lcl (x :: l) = [.int .i64 x.1, .int .i64 x.2.1, .int .i64 x.2.2] ++ lcl l := rfl
    rw [e, List.getElem?_append_right (by simp; omega), List.getElem?_append_right (by simp; omega), List.getElem?_append_right (by simp; omega)]
    simp only [List.length_cons, List.length_nil, List.getElem_cons_succ]
    rw [show (i + 1) * 3 - (0 + 1 + 1 + 1) = i * 3 by omega, show (i + 1) * 3 + 1 - (0 + 1 + 1 + 1) = i * 3 + 1 by omega, show (i + 1) * 3 + 2 - (0 + 1 + 1 + 1) = i * 3 + 2 by omega]
    exact this
theorem lcl_len (l : List (Int × Int × Int)) : (lcl l).length = l.length * 3 := by
  induction l with
  | nil => rfl
  | cons x l ih =>
    have e : lcl (x :: l) = [.int .i64 x.1, .int .i64 x.2.1, .int .i64 x.2.2] ++ lcl l := rfl
    rw [e, List.length_append, ih]; simp; omega
/-- the two are equal, as both texts compare them -/
def samePa (p q : List (List Value)) : Prop := p.length = q.length ∧ ∀ k (h : k < p.length) (h' : k < q.length), eqc 27 p[k] q[k]
def sameS (s t : Sp) : Prop := eqc 31 s.cn t.cn ∧ eqc 33 s.nd t.nd ∧ eqc 35 s.cx t.cx ∧ s.lv = t.lv ∧ s.pi = t.pi ∧ samePa s.pa t.pa
theorem sameS.refl (s : Sp) : sameS s s := ⟨rfl, rfl, rfl, rfl, rfl, rfl, fun _ _ _ => rfl⟩
end Go.Proofs.Ytfnnfmefihiefaa

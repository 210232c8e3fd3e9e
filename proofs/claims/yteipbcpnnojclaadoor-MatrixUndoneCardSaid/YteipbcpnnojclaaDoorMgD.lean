/- Contracts of MatLc, MatN, MatO, MatP, MatQ, MatR: those that this program has. -/
import Derived.Test.YteipbcpnnojclaaDoorMgC
import Derived.Test.YteipbcpnnojclaaDoorMgB
namespace Go.Proofs.YteipbcpnnojclaaDoor
open Go.RowKit DivMath WordMath
set_option linter.unusedVariables false
set_option linter.unusedSimpArgs false
section
variable {D0 D : Nat → Prop} {w W : World} {F A B : List Bx} {G : List Fct} {g : Nat} {hs : List Value} {R : List Rb} {i m c : Nat} {r : Rb} {ad : Option Addr} {news : List Nat}
theorem set_split {α : Type} {R : List α} {i : Nat} {r : α} (h : R[i]? = some r) (r' : α) : R = R.take i ++ (r :: R.drop (i + 1)) ∧ R.set i r' = R.take i ++ (r' :: R.drop (i + 1)) := by
  obtain ⟨hi, e⟩ := List.getElem?_eq_some_iff.1 h
  refine ⟨?_, List.set_eq_take_append_cons_drop.trans (by rw [if_pos hi])⟩
  rw [← e, List.getElem_cons_drop, List.take_append_drop]
theorem mbh_split {A0 : List Bx} {r' : Rb} (h : R[i]? = some r) : A ++ (mbh g hs R ++ B) = (A ++ ((g, 22, hs) :: (R.take i).map Rb.bx)) ++ ([r.bx] ++ ((R.drop (i + 1)).map Rb.bx ++ B)) ∧ A ++ (mbh g hs (R.set i r') ++ B) = (A ++ ((g, 22, hs) :: (R.take i).map Rb.bx)) ++ ([r'.bx] ++ ((R.drop (i + 1)).map Rb.bx ++ B)) := by
  obtain ⟨h1, h2⟩ := set_split h r'
  unfold mbh
  constructor
  · conv => lhs; rw [h1]
    simp
  · rw [h2]; simp
/-- append onto a row of a matrix of the call's own -/
theorem mapp_run (ty : TypeId) (E : Env D0 w F G W) (hF : F = A ++ (mbh g hs R ++ B)) (hr : R[i]? = some r) (hcap : CapOk R) (hm : m ≠ 0) (hsrc : SrcN 1 W ad m (ncl news)) (hl : news.length = m) (hb : r.l.length + m ≤ 1000000) :
    ∃ W' r', (Builtin.append_ #[22, 22] ty #[.slice (some ⟨r.b, 0, none⟩) r.l.length (r.l.length + r.x.length), .slice ad m c]).run Tryd.prog W = .ok (.slice (some ⟨r'.b, 0, none⟩) r'.l.length (r'.l.length + r'.x.length)) W' ∧ r'.l = r.l ++ news ∧ CapOk (R.set i r') ∧ Env D0 w (A ++ (mbh g hs (R.set i r') ++ B)) G W' := by
  have hc := hcap r (List.mem_of_getElem? hr)
  obtain ⟨v', W', hrun, sg', cs', h1, h2, h3, h4⟩ := app_run tiI ty E (A := A ++ ((g, 22, hs) :: (R.take i).map Rb.bx)) (sg := [r.bx]) (B' := (R.drop (i + 1)).map Rb.bx ++ B) (hF.trans (mbh_split (A0 := []) (r' := r) hr).1) (n := r.l.length) (cs := ncl r.l ++ r.x) (v := .slice (some ⟨r.b, 0, none⟩) r.l.length (r.l.length + r.x.length))
    (.inr ⟨r.b, r.l.length + r.x.length, rfl, rfl, by omega, hc, by rw [List.length_append, ncl_len]; omega⟩) (c := c) hsrc hb
  obtain ⟨g', cap', rfl, rfl, k1, k2, k3⟩ := h4 hm
  have e1 : cs'.take (r.l.length + m) = ncl (r.l ++ news) := by
    simp only [Nat.mul_one] at h2
    rw [h2, List.take_append_of_le_length (by rw [ncl_len]; omega), List.take_of_length_le (by rw [ncl_len]; omega)]
    simp [ncl, nl, icl]
  have e2 : ncl (r.l ++ news) ++ cs'.drop (r.l.length + m) = cs' := by rw [← e1, List.take_append_drop]
  have e3 : (r.l ++ news).length + (cs'.drop (r.l.length + m)).length = cap' := by rw [List.length_append, List.length_drop, hl, k3]; omega
  have e4 : (r.l ++ news).length = r.l.length + m := by rw [List.length_append, hl]
  refine ⟨W', ⟨g', r.l ++ news, cs'.drop (r.l.length + m)⟩, ?_, rfl, ?_, ?_⟩
  · simp only
    rw [e3, e4]; exact hrun
  · intro x hx
    rcases List.mem_or_eq_of_mem_set hx with hx | rfl
    · exact hcap x hx
    · simp only; rw [e3]; exact k2
  · rw [(mbh_split (A0 := []) hr).2]
    unfold Rb.bx
    simp only
    rw [e2]
    exact h3
theorem wpl_mapp {ops : Array Oper} {rest : List Oper} {o : Oper} {a : Act} {Q : Exit → Act → World → Prop} (hgd : o.guard = none) (s x : Operand) (ho : o.op = .call { callee := .builtin .append, args := #[s, x], argTypes := #[22, 22] })
    (E : Env D0 w F G W) (hF : F = A ++ (mbh g hs R ++ B)) (hr : R[i]? = some r) (hcap : CapOk R) (hm : m ≠ 0) (hs' : a.eval s = .slice (some ⟨r.b, 0, none⟩) r.l.length (r.l.length + r.x.length)) (hx : a.eval x = .slice ad m c) (hsrc : SrcN 1 W ad m (ncl news)) (hl : news.length = m) (hb : r.l.length + m ≤ 1000000)
    (h : ∀ r' W', Hid (r'.l = r.l ++ news ∧ CapOk (R.set i r')) → Hid (Env D0 w (A ++ (mbh g hs (R.set i r') ++ B)) G W') → wpList Tryd.prog ops Q rest (a.put o.dst (.slice (some ⟨r'.b, 0, none⟩) r'.l.length (r'.l.length + r'.x.length))) W') :
    wpList Tryd.prog ops Q (o :: rest) a W := by
  refine wpList_plain hgd fun K hK => ?_
  obtain ⟨W', r', hrun, h1, h2, h3⟩ := mapp_run o.type E hF hr hcap hm hsrc hl hb (c := c)
  unfold Oper.wp execOp
  simp only [ho, resolve, invoke, builtin, Sem.run_bind, Sem.run_pure, Result.andThen_ok, List.map_toArray, List.map_cons, List.map_nil, hs', hx, hrun]
  exact hK _ _ (h r' W' (Lib.hid ⟨h1, h2⟩) (Lib.hid h3))
theorem op_mapp {o : Oper} {a : Act} {K : Act → World → Prop} {Q : Exit → Act → World → Prop} {EE : Prop} {ops : Array Oper} (d : Option Tmp) (hgd : o.guard = none) (hd : o.dst = d) (s x : Operand) (ho : o.op = .call { callee := .builtin .append, args := #[s, x], argTypes := #[22, 22] })
    (E : Env D0 w F G W) (hF : F = A ++ (mbh g hs R ++ B)) (hr : R[i]? = some r) (hcap : CapOk R) (hm : m ≠ 0) (hs' : a.eval s = .slice (some ⟨r.b, 0, none⟩) r.l.length (r.l.length + r.x.length)) (hx : a.eval x = .slice ad m c) (hsrc : SrcN 1 W ad m (ncl news)) (hl : news.length = m) (hb : r.l.length + m ≤ 1000000)
    (h : ∀ r' W', Hid (r'.l = r.l ++ news ∧ CapOk (R.set i r')) → Hid (Env D0 w (A ++ (mbh g hs (R.set i r') ++ B)) G W') → K (a.put d (.slice (some ⟨r'.b, 0, none⟩) r'.l.length (r'.l.length + r'.x.length))) W') :
    if Region.wanted o (yielded ops a.tmps) = true then Oper.wp Tryd.prog o a W K Q else EE := by
  have hw : Region.wanted o (yielded ops a.tmps) = true := by simp [Region.wanted, hgd]
  rw [if_pos hw]
  subst hd
  obtain ⟨W', r', hrun, h1, h2, h3⟩ := mapp_run o.type E hF hr hcap hm hsrc hl hb (c := c)
  unfold Oper.wp execOp
  simp only [ho, resolve, invoke, builtin, Sem.run_bind, Sem.run_pure, Result.andThen_ok, List.map_toArray, List.map_cons, List.map_nil, hs', hx, hrun]
  exact h r' W' (Lib.hid ⟨h1, h2⟩) (Lib.hid h3)
theorem hd_put {r' : Rb} (h : R[i]? = some r) : (R.map Rb.hd).set i r'.hd = (R.set i r').map Rb.hd := by rw [List.map_set]
/-- a matrix of the call's own becomes a fact -/
theorem Env.freezeM (E : Env D0 w (A ++ (mbx g R ++ B)) G W) (hc2 : R.length ≤ 9223372036854775807) (hb : CapOk R) : Env D0 w (A ++ B) (.mx (.slice (some ⟨g, 0, none⟩) R.length R.length) ((mrows R).map nl) :: G) W := by
  have E1 : Env D0 w (mbx g R ++ (A ++ B)) G W := E.perm (by
    rw [← List.append_assoc, ← List.append_assoc]
    exact (List.perm_append_right_iff B).2 List.perm_append_comm)
  have hpw := (List.pairwise_append.1 (held_iff.1 E1.box).2).2.2
  have hdrop : ∀ (S : List Bx) {T : List Bx}, Env D0 w (S ++ T) G W → Env D0 w T G W := by
    intro S
    induction S with
    | nil => intro T h; exact h
    | cons p S ih => intro T h; exact ih (Env.drop h)
  refine Env.note (hdrop _ E1) _ ⟨some ⟨g, 0, none⟩, R.length, by rw [List.length_map, List.length_map], by rw [List.length_map, List.length_map]; exact Nat.le_refl _, hc2, fun hne => ?_⟩
  have hg : (g, 22, R.map Rb.hd) ∈ mbx g R := by unfold mbx mbh; simp
  have hM := E1.mh (A := []) (B := A ++ B) (g := g) (hs := R.map Rb.hd) (R := R) rfl
  refine ⟨g, 0, rfl, ⟨hM.lt, fun p hp e => hpw _ hg p hp e.symm, .inr hM.1⟩, fun k l hl => ?_⟩
  rw [List.getElem?_map, List.getElem?_map] at hl
  cases h : R[k]? with
  | none => rw [h] at hl; cases hl
  | some r =>
    rw [h] at hl
    simp only [Option.map_some, Option.some.injEq] at hl
    subst hl
    have hr := E1.mr (A := []) (B := A ++ B) (g := g) (hs := R.map Rb.hd) (R := R) rfl h
    have hrm : (r.b, 3, ncl r.l ++ r.x) ∈ mbx g R := by
      unfold mbx mbh
      exact List.mem_cons_of_mem _ (List.mem_map.2 ⟨r, List.mem_of_getElem? h, rfl⟩)
    refine ⟨_, by rw [Nat.zero_add]; exact E1.mhd (A := []) (B := A ++ B) rfl h, Rw.toNl ⟨some ⟨r.b, 0, none⟩, _, rfl, Nat.le_add_right _ _, hb r (List.mem_of_getElem? h), ncl_len _, ncl_one _, fun _ => ⟨r.b, 0, rfl, ⟨hr.lt, fun p hp e => hpw _ hrm p hp e.symm, .inr hr.1⟩, fun j u hu => ?_⟩⟩⟩
    rw [Nat.zero_add]
    refine hr.cell j ?_
    rw [List.getElem?_append_left (List.getElem?_eq_some_iff.1 hu).1]
    exact hu
end
/-- the system with its right side -/
def sysL (L : List (List Nat)) (b : List Nat) : List (List Nat) := (List.range L.length).map fun i => L.getD i [] ++ [b.getD i 0]
theorem sysL_len {L : List (List Nat)} {b : List Nat} : (sysL L b).length = L.length := by simp [sysL]
theorem sysL_get {L : List (List Nat)} {b : List Nat} {i : Nat} (h : i < L.length) (h2 : i < b.length) : (sysL L b)[i]? = some (L[i] ++ [b[i]]) := by
  unfold sysL
  rw [List.getElem?_map, List.getElem?_range h]
  simp only [Option.map_some]
  rw [getL_elem h, getD_elem h2]
theorem sysL_res {q n : Nat} {L : List (List Nat)} {b : List Nat} (h : ResM q n L) (hb : ∀ x ∈ b, x < q) (hl : b.length = L.length) : ResM q (n + 1) (sysL L b) := by
  intro r hr
  obtain ⟨i, hi, rfl⟩ := List.getElem_of_mem hr
  have hi2 : i < L.length := by rw [sysL_len] at hi; exact hi
  have e := sysL_get (b := b) hi2 (by omega)
  rw [List.getElem?_eq_getElem hi] at e
  rw [Option.some.inj e]
  have h1 := h _ (List.getElem_mem hi2)
  refine ⟨by rw [List.length_append, h1.1]; rfl, fun x hx => ?_⟩
  rcases List.mem_append.1 hx with hx | hx
  · exact h1.2 x hx
  · rcases List.mem_singleton.1 hx with rfl; exact hb _ (List.getElem_mem _)
/-- is there a row below the pivots whose right side is not 0? -/
def noneB (n : Nat) (s : List (List Nat) × List Nat) : Bool := (s.1.drop s.2.length).any (fun r => r.getD n 0 != 0)
theorem noneB_no {n k : Nat} {s : List (List Nat) × List Nat} (h : ∀ j, j < s.1.length - s.2.length → (s.1.getD (s.2.length + j) []).getD n 0 = 0) : noneB n s = false := by
  unfold noneB
  refine List.any_eq_false.2 fun r hr => ?_
  obtain ⟨j, hj, rfl⟩ := List.getElem_of_mem hr
  rw [List.length_drop] at hj
  have h1 := h j hj
  rw [List.getElem_drop, ← getL_elem (by omega), h1]; simp
theorem noneB_yes {n k : Nat} {s : List (List Nat) × List Nat} (hk : s.2.length + k < s.1.length) (h : (s.1.getD (s.2.length + k) []).getD n 0 ≠ 0) : noneB n s = true := by
  unfold noneB
  refine List.any_eq_true.2 ⟨s.1.getD (s.2.length + k) [], ?_, by simpa using h⟩
  rw [getL_elem hk]
  have e : (s.1.drop s.2.length)[k]'(by rw [List.length_drop]; omega) = s.1[s.2.length + k] := List.getElem_drop
  rw [← e]; exact List.getElem_mem _
/-- what system returns -/
def RetSys (D : Nat → Prop) (t : Bool) (s : List (List Nat) × List Nat) (e : Ending) (w' : World) : Prop := (t = true ∧ e = .returned (.tuple #[.slice none 0 0, .slice none 0 0, .int .i64 7])) ∨
  (t = false ∧ ∃ ga gk pa pk, e = .returned (.tuple #[.slice ga s.1.length gk, .slice pa s.2.length pk, .int .i64 0]) ∧ Hid (Mx w' D (.slice ga s.1.length gk) (s.1.map nl)) ∧ Hid (Rw w' D (.slice pa s.2.length pk) s.2.length 1 (ncl s.2)))
set_option maxRecDepth 100000 in
set_option maxHeartbeats 1000000 in
theorem sys_no {D : Nat → Prop} (q : Int) (M : List (List Int)) (b : List Int) {xa ya : Option Addr} {xk yk : Nat} {w : World} (hx : Fct.at w D (.mx (.slice xa M.length xk) M)) (hy : Fct.at w D (.rw (.slice ya b.length yk) b.length 1 (icl b))) (hl0 : Laid w) (hn : -9223372036854775808 ≤ q ∧ q ≤ 9223372036854775807) (hv0 : mvB q M = false) :
    Calls Tryd.prog 82 #[.int .i64 q, .slice xa M.length xk, .slice ya b.length yk] w fun e w' => e = .returned (.tuple #[.slice none 0 0, .slice none 0 0, .int .i64 1]) ∧ Below w.heap.size w w' := by
  have E0 : Hid (Env D w [] [.rw (.slice ya b.length yk) b.length 1 (icl b), .mx (.slice xa M.length xk) M] w) := Lib.hid (((Env.start D w).arg (.mx (.slice xa M.length xk) M) hx).arg (.rw (.slice ya b.length yk) b.length 1 (icl b)) hy)
  clear hx hy
  go_enter Tryd.func82, Tryd.ntmps82
  have hl := Lib.hid hl0
  have hv := Lib.hid hv0
  clear hl0 hv0
  go_wp2_with fail
  refine (mValid_c q M (E0.out.fc 1 rfl) (hl.out.below E0.out.bel) hn hv.out).mono ?_
  rintro e w1 ⟨rfl, hb⟩
  have E1 : Hid (Env D w [] [.rw (.slice ya b.length yk) b.length 1 (icl b), .mx (.slice xa M.length xk) M] w1) := Lib.hid (E0.out.below hb)
  clear E0 hb
  have hfin := Lib.hid E1.out.bel
  go_wp2
  refine bodyPost_ret (results_tmp3 rfl _ _ _) rfl ?_
  exact ⟨rfl, hfin.out⟩
set_option maxRecDepth 100000 in
set_option maxHeartbeats 1000000 in
theorem sys_len {D : Nat → Prop} (q n : Nat) (L : List (List Nat)) (b : List Int) {xa ya : Option Addr} {xk yk : Nat} {w : World} (hx : Fct.at w D (.mx (.slice xa L.length xk) (L.map nl))) (hy : Fct.at w D (.rw (.slice ya b.length yk) b.length 1 (icl b))) (hl0 : Laid w) (hv0 : MvI q n L) (hne : ¬ b.length = L.length) :
    Calls Tryd.prog 82 #[.int .i64 (q : Nat), .slice xa L.length xk, .slice ya b.length yk] w fun e w' => e = .returned (.tuple #[.slice none 0 0, .slice none 0 0, .int .i64 1]) ∧ Below w.heap.size w w' := by
  have E0 : Hid (Env D w [] [.rw (.slice ya b.length yk) b.length 1 (icl b), .mx (.slice xa L.length xk) (L.map nl)] w) := Lib.hid (((Env.start D w).arg (.mx (.slice xa L.length xk) (L.map nl)) hx).arg (.rw (.slice ya b.length yk) b.length 1 (icl b)) hy)
  clear hx hy
  go_enter Tryd.func82, Tryd.ntmps82
  have hl := Lib.hid hl0
  have hv := Lib.hid hv0
  clear hl0 hv0
  have HNE := Lib.hid hne
  clear hne
  have m30 := hv.out.m30
  have n1 : ((b.length : Int) != (L.length : Int)) = true := by have h2 := HNE.out; rw [bne_iff_ne]; omega
  have n2 : (b.length != L.length) = true := by have h2 := HNE.out; rw [bne_iff_ne]; omega
  go_wp2_with fail
  refine (mValidN (E0.out.fc 1 rfl) (hl.out.below E0.out.bel) hv.out).mono ?_
  rintro e w1 ⟨rfl, hb⟩
  have E1 : Hid (Env D w [] [.rw (.slice ya b.length yk) b.length 1 (icl b), .mx (.slice xa L.length xk) (L.map nl)] w1) := Lib.hid (E0.out.below hb)
  clear E0 hb
  have hfin := Lib.hid E1.out.bel
  go_wp2
  refine bodyPost_ret (results_tmp3 rfl _ _ _) rfl ?_
  exact ⟨rfl, hfin.out⟩
set_option maxRecDepth 100000 in
set_option maxHeartbeats 1000000 in
theorem sys_rng {D : Nat → Prop} (q n : Nat) (L : List (List Nat)) (b : List Int) {xa ya : Option Addr} {xk yk : Nat} {w : World} (hx : Fct.at w D (.mx (.slice xa L.length xk) (L.map nl))) (hy : Fct.at w D (.rw (.slice ya b.length yk) b.length 1 (icl b))) (hl0 : Laid w) (hv0 : MvI q n L) (hne : b.length = L.length) (hs0 : b.all (resB (q : Int)) = false) :
    Calls Tryd.prog 82 #[.int .i64 (q : Nat), .slice xa L.length xk, .slice ya b.length yk] w fun e w' => e = .returned (.tuple #[.slice none 0 0, .slice none 0 0, .int .i64 2]) ∧ Below w.heap.size w w' := by
  have E0 : Hid (Env D w [] [.rw (.slice ya b.length yk) b.length 1 (icl b), .mx (.slice xa L.length xk) (L.map nl)] w) := Lib.hid (((Env.start D w).arg (.mx (.slice xa L.length xk) (L.map nl)) hx).arg (.rw (.slice ya b.length yk) b.length 1 (icl b)) hy)
  clear hx hy
  go_enter Tryd.func82, Tryd.ntmps82
  have hl := Lib.hid hl0
  have hv := Lib.hid hv0
  have hs := Lib.hid hs0
  clear hl0 hv0 hs0
  have HNE := Lib.hid hne
  clear hne
  have m30 := hv.out.m30
  have n1 : ((b.length : Int) != (L.length : Int)) = false := by have h2 := HNE.out; rw [h2]; simp
  have n2 : (b.length != L.length) = false := by have h2 := HNE.out; rw [h2]; simp
  go_wp2_with fail
  refine (mValidN (E0.out.fc 1 rfl) (hl.out.below E0.out.bel) hv.out).mono ?_
  rintro e w1 ⟨rfl, hb⟩
  have E1 : Hid (Env D w [] [.rw (.slice ya b.length yk) b.length 1 (icl b), .mx (.slice xa L.length xk) (L.map nl)] w1) := Lib.hid (E0.out.below hb)
  clear E0 hb
  have hx9 : b.length ≤ 1000000 := by have := HNE.out; omega
  go_wp2_with fail
  refine (scalars_c (q : Int) b (E1.out.fc 0 rfl) hs.out hx9).mono ?_
  rintro e w2 ⟨rfl, hb⟩
  have E2 : Hid (Env D w [] [.rw (.slice ya b.length yk) b.length 1 (icl b), .mx (.slice xa L.length xk) (L.map nl)] w2) := Lib.hid (E1.out.below hb)
  clear E1 hb
  have hfin := Lib.hid E2.out.bel
  go_wp2
  refine bodyPost_ret (results_tmp3 rfl _ _ _) rfl ?_
  exact ⟨rfl, hfin.out⟩
set_option maxRecDepth 100000 in
set_option maxHeartbeats 8000000 in
theorem sys_ok {D : Nat → Prop} (q n : Nat) (L : List (List Nat)) (b : List Nat) {xa ya : Option Addr} {xk yk : Nat} {w : World} (hx : Fct.at w D (.mx (.slice xa L.length xk) (L.map nl))) (hy : Fct.at w D (.rw (.slice ya b.length yk) b.length 1 (ncl b))) (hl0 : Laid w) (hv0 : MvI q n L) (hne : b.length = L.length) (hs0 : ∀ c ∈ b, c < q) {t : Bool} (ht0 : noneB n (redN q (sysL L b) n) = t) :
    Calls Tryd.prog 82 #[.int .i64 (q : Nat), .slice xa L.length xk, .slice ya b.length yk] w fun e w' => RetSys (fun b => D b ∨ w.heap.size ≤ b) t (redN q (sysL L b) n) e w' ∧ Below w.heap.size w w' := by
  have E0 : Hid (Env D w [] [.rw (.slice ya b.length yk) b.length 1 (ncl b), .mx (.slice xa L.length xk) (L.map nl)] w) := Lib.hid (((Env.start D w).arg (.mx (.slice xa L.length xk) (L.map nl)) hx).arg (.rw (.slice ya b.length yk) b.length 1 (ncl b)) hy)
  clear hx hy
  go_enter Tryd.func82, Tryd.ntmps82
  have hl := Lib.hid hl0
  have hv := Lib.hid hv0
  have hs := Lib.hid hs0
  have ht := Lib.hid ht0
  clear hl0 hv0 hs0 ht0
  have HNE := Lib.hid hne
  clear hne
  have m30 := hv.out.m30
  have n30 := hv.out.n30
  have hz : 0 < L.length := hv.out.m1
  have hzI : (0 : Int) < (L.length : Int) := by omega
  have n1 : ((b.length : Int) != (L.length : Int)) = false := by have h2 := HNE.out; rw [h2]; simp
  have n2 : (b.length != L.length) = false := by have h2 := HNE.out; rw [h2]; simp
  have hx9 : b.length ≤ 1000000 := by have := HNE.out; omega
  have HQ : Hid (0 < q) := Lib.hid (by have := hv.out.q2; omega)
  have HSR : Hid (ResM q (n + 1) (sysL L b)) := Lib.hid (sysL_res hv.out.res hs.out HNE.out)
  go_wp2_with fail
  refine (mValidN (E0.out.fc 1 rfl) (hl.out.below E0.out.bel) hv.out).mono ?_
  rintro e w1 ⟨rfl, hb⟩
  have E1 : Hid (Env D w [] [.rw (.slice ya b.length yk) b.length 1 (ncl b), .mx (.slice xa L.length xk) (L.map nl)] w1) := Lib.hid (E0.out.below hb)
  clear E0 hb
  go_wp2_with fail
  refine (scalN_c q b (E1.out.fc 0 rfl) hs.out hx9).mono ?_
  rintro e w2 ⟨rfl, hb⟩
  have E2 : Hid (Env D w [] [.rw (.slice ya b.length yk) b.length 1 (ncl b), .mx (.slice xa L.length xk) (L.map nl)] w2) := Lib.hid (E1.out.below hb)
  clear E1 hb
  go_wp2_with fail
  refine (copied_c L (E2.out.fc 1 rfl) (by omega) hv.out.cp).mono ?_
  rintro e w3 ⟨⟨cg, cR, rfl, cH, cF⟩, hb⟩
  have E3 : Hid (Env D w ((mbx cg cR) ++ []) [.rw (.slice ya b.length yk) b.length 1 (ncl b), .mx (.slice xa L.length xk) (L.map nl)] w3) := Lib.hid ((E2.out.gotSeg hb cF).cast (by simp))
  clear E2 hb
  have crl : Hid (cR.length = L.length) := Lib.hid (by have h := congrArg List.length cH.out.1; simpa using h)
  go_upto_region 6 with (fail)
  skip
  clear n1 n2
  go_wp2_with fail
  go_loopg [34] (L.length) (fun gk s34 wr => ∃ (i : Nat) (R1 : List Rb), s34 = .int .i64 (i : Int) ∧ Hid (Env D w ((mbx cg R1) ++ []) [.rw (.slice ya b.length yk) b.length 1 (ncl b), .mx (.slice xa L.length xk) (L.map nl)] wr) ∧ Hid ((i ≤ L.length ∧ gk = L.length - i) ∧ mrows R1 = mix (sysL L b) L i ∧ CapOk R1))
  case atStart => exact ⟨0, cR, rfl, Lib.hid E3.out, Lib.hid ⟨⟨Nat.zero_le _, rfl⟩, by rw [mix_zero]; exact cH.out.1, cH.out.2⟩⟩
  case round =>
    clear E3
    obtain ⟨i, R1, rfl, EL, HA⟩ := hrel
    obtain ⟨⟨a1, a2⟩, a3, a4⟩ := HA.out
    have HS := Lib.hid a3
    have HC := Lib.hid a4
    clear a3 a4 HA
    have HL1 : Hid (R1.length = L.length) := Lib.hid (by have h := congrArg List.length HS.out; rw [mix_len sysL_len, sysL_len] at h; simpa using h)
    by_cases hy : i = L.length
    rotate_left
    · have hi : i < L.length := by omega
      have t6 : decide ((i : Int) < (L.length : Int)) = true := decide_eq_true (by omega)
      have t6n : decide (i < L.length) = true := decide_eq_true (by omega)
      have hiI : (i : Int) < (L.length : Int) := by omega
      clear hy
      go_upto_region 9 with (fail)
      have hi1 : i < R1.length := by rw [HL1.out]; exact hi
      have hib : i < b.length := by rw [HNE.out]; exact hi
      have hibI : (i : Int) < (b.length : Int) := by omega
      obtain ⟨⟨rb, rl, rx⟩, re⟩ : ∃ r, R1[i]? = some r := ⟨_, List.getElem?_eq_getElem hi1⟩
      have rE := Lib.hid re
      clear re
      obtain ⟨yab, yao, rfl⟩ := Rw.addr (EL.out.fc 0 rfl) (by omega)
      have E4 : Hid (Env D w ((mbx cg R1) ++ []) [.ce yab (yao + i) (.int .i64 (b[i] : Nat)), .rw (.slice (some ⟨yab, yao, none⟩) b.length yk) b.length 1 (ncl b), .mx (.slice xa L.length xk) (L.map nl)] _) := Lib.hid (EL.out.elN 0 rfl rfl (i) hib)
      clear EL
      have v0 := (E4.out.fc 0 rfl).2
      have HRG : Hid (rl = L[i]) := Lib.hid (by have h := mrows_get rE.out; rw [HS.out, mix_old sysL_len (Nat.le_refl _), List.getElem?_eq_getElem hi] at h; exact (Option.some.inj h).symm)
      have HRN : Hid (rl.length ≤ 30) := Lib.hid (by rw [HRG.out, (hv.out.res _ (List.getElem_mem hi)).1]; exact n30)
      go_wp2_with fail
      have E5 : Hid (Env D w ((mbx cg R1) ++ []) [.ce yab (yao + i) (.int .i64 (b[i] : Nat)), .rw (.slice (some ⟨yab, yao, none⟩) b.length yk) b.length 1 (ncl b), .mx (.slice xa L.length xk) (L.map nl)] (wr.drew)) := Lib.hid E4.out.drew
      clear v0 E4
      refine wp_regionU (S := fun w' => w'.cell? ⟨cg, i, none⟩ = some (.slice (some ⟨rb, 0, none⟩) rl.length (rl.length + rx.length)) ∧ w'.cell? ⟨yab, yao + i, none⟩ = some (.int .i64 (b[i] : Nat))) [13] (by kernel_rfl) (⟨(E5.out.mh (A := []) (B := []) rfl).cell i (by rw [List.getElem?_map, rE.out]; rfl), (E5.out.fc 0 rfl).2⟩) (fun hHeld => ?_)
      generalize wr.drew = w4 at *
      refine uTake (i := 0) (some 37) (v := ?_) rfl rfl (by kernel_rfl) (by kernel_rfl) (by kernel_rfl) (by kernel_rfl) (fun _ _ _ h => h) (by rfl) (by assumption) ?_ ?_
      rotate_left
      · (intro wS hSw; (try dsimp only at hSw); go_simp; try with_reducible rfl)
      try simp only [Act.put, List.setIfInBounds_toArray, List.set_cons_zero, List.set_cons_succ]
      refine uTake (i := 1) (some 38) (v := ?_) rfl rfl (by kernel_rfl) (by kernel_rfl) (by kernel_rfl) (by kernel_rfl) (fun _ _ _ h => h) (by rfl) (by assumption) ?_ ?_
      rotate_left
      · (intro wS hSw; (try dsimp only at hSw); go_simp; try with_reducible rfl)
      try simp only [Act.put, List.setIfInBounds_toArray, List.set_cons_zero, List.set_cons_succ]
      refine uTake (i := 2) (some 39) (v := ?_) rfl rfl (by kernel_rfl) (by kernel_rfl) (by kernel_rfl) (by kernel_rfl) (fun _ _ _ h => h) (by rfl) (by assumption) ?_ ?_
      rotate_left
      · (intro wS hSw; (try dsimp only at hSw); go_simp; try with_reducible rfl)
      try simp only [Act.put, List.setIfInBounds_toArray, List.set_cons_zero, List.set_cons_succ]
      refine uTake (i := 3) (some 40) (v := ?_) rfl rfl (by kernel_rfl) (by kernel_rfl) (by kernel_rfl) (by kernel_rfl) (fun _ _ _ h => h) (by rfl) (by assumption) ?_ ?_
      rotate_left
      · (intro wS hSw; (try dsimp only at hSw); go_simp; try with_reducible rfl)
      try simp only [Act.put, List.setIfInBounds_toArray, List.set_cons_zero, List.set_cons_succ]
      refine uTake (i := 4) (some 41) (v := ?_) rfl rfl (by kernel_rfl) (by kernel_rfl) (by kernel_rfl) (by kernel_rfl) (fun _ _ _ h => h) (by rfl) (by assumption) ?_ ?_
      rotate_left
      · (intro wS hSw; (try dsimp only at hSw); go_simp; try with_reducible rfl)
      try simp only [Act.put, List.setIfInBounds_toArray, List.set_cons_zero, List.set_cons_succ]
      refine uTake (i := 5) (some 42) (v := ?_) rfl rfl (by kernel_rfl) (by kernel_rfl) (by kernel_rfl) (by kernel_rfl) (fun _ _ _ h => h) (by rfl) (by assumption) ?_ ?_
      rotate_left
      · (intro wS hSw; (try dsimp only at hSw); go_simp; try with_reducible rfl)
      try simp only [Act.put, List.setIfInBounds_toArray, List.set_cons_zero, List.set_cons_succ]
      refine uTake (i := 6) (some 43) (v := ?_) rfl rfl (by kernel_rfl) (by kernel_rfl) (by kernel_rfl) (by kernel_rfl) (fun _ _ _ h => h) (by rfl) (by assumption) ?_ ?_
      rotate_left
      · (intro wS hSw; (try dsimp only at hSw); go_simp; try with_reducible rfl)
      try simp only [Act.put, List.setIfInBounds_toArray, List.set_cons_zero, List.set_cons_succ]
      refine uTake (i := 7) (some 44) (v := ?_) rfl rfl (by kernel_rfl) (by kernel_rfl) (by kernel_rfl) (by kernel_rfl) (fun _ _ _ h => h) (by rfl) (by assumption) ?_ ?_
      rotate_left
      · (intro wS hSw; (try dsimp only at hSw); go_simp; try with_reducible rfl)
      try simp only [Act.put, List.setIfInBounds_toArray, List.set_cons_zero, List.set_cons_succ]
      refine uTake (i := 8) (some 45) (v := ?_) rfl rfl (by kernel_rfl) (by kernel_rfl) (by kernel_rfl) (by kernel_rfl) (fun _ _ _ h => h) (by rfl) (by assumption) ?_ ?_
      rotate_left
      · (intro wS hSw; (try dsimp only at hSw); go_simp; try with_reducible rfl)
      try simp only [Act.put, List.setIfInBounds_toArray, List.set_cons_zero, List.set_cons_succ]
      refine uTake (i := 9) (some 46) (v := ?_) rfl rfl (by kernel_rfl) (by kernel_rfl) (by kernel_rfl) (by kernel_rfl) (fun _ _ _ h => h) (by rfl) (by assumption) ?_ ?_
      rotate_left
      · (intro wS hSw; (try dsimp only at hSw); go_simp; try with_reducible rfl)
      try simp only [Act.put, List.setIfInBounds_toArray, List.set_cons_zero, List.set_cons_succ]
      refine uReady (rs := [10]) (by kernel_rfl) (by simp) ?_
      refine ReadyU.cons rfl (fun KK hKK => ?_) ReadyU.nil
      go_simp
      have E6 : Hid (Env D w ((w4.heap.size, 3, [.int .i64 (b[i] : Nat)]) :: ((mbx cg R1) ++ [])) [.ce yab (yao + i) (.int .i64 (b[i] : Nat)), .rw (.slice (some ⟨yab, yao, none⟩) b.length yk) b.length 1 (ncl b), .mx (.slice xa L.length xk) (L.map nl)] _) := Lib.hid ((E5.out.push 3 [.int .i64 (b[i] : Nat)] (w4.heap.size) (by simp)))
      (try dsimp only)
      clear hHeld
      refine hKK.out _ _ (⟨(E6.out.mh (A := [(w4.heap.size, 3, [.int .i64 (b[i] : Nat)])]) (B := []) rfl).cell i (by rw [List.getElem?_map, rE.out]; rfl), (E6.out.fc 0 rfl).2⟩) (fun hHeld => ?_)
      clear hKK KK
      try simp only [Act.put, List.setIfInBounds_toArray, List.set_cons_zero, List.set_cons_succ]
      clear E5
      generalize w4.alloc (.cells #[.int .i64 (b[i] : Nat)] 3) = w5 at *
      refine uReady (rs := [11]) (by kernel_rfl) (by simp) ?_
      refine ReadyU.cons rfl (fun KK hKK => ?_) ReadyU.nil
      refine op_mapp (c := 1) (news := [b[i]]) (m := 1) (some 48) rfl rfl (.tmp 42) (.tmp 47) rfl E6.out (A := [(w4.heap.size, 3, [.int .i64 (b[i] : Nat)])]) (B := []) rfl rE.out HC.out (by decide) (by simp [Act.eval, Act.put]) (by simp [Act.eval, Act.put]; done) (SrcN.int (E6.out.bx 0 rfl)) rfl (Nat.le_trans (Nat.add_le_add_right HRN.out 1) (by omega)) ?_
      intro nr w6 nH nE
      have E7 : Hid (Env D w ((w4.heap.size, 3, [.int .i64 (b[i] : Nat)]) :: ((mbh cg (R1.map Rb.hd) (R1.set i nr)) ++ [])) [.ce yab (yao + i) (.int .i64 (b[i] : Nat)), .rw (.slice (some ⟨yab, yao, none⟩) b.length yk) b.length 1 (ncl b), .mx (.slice xa L.length xk) (L.map nl)] w6) := Lib.hid (nE.out.cast (by first | rfl | simp))
      clear E6 nE
      (try dsimp only)
      clear hHeld
      refine hKK.out _ _ (⟨(E7.out.mh (A := [(w4.heap.size, 3, [.int .i64 (b[i] : Nat)])]) (B := []) rfl).cell i (by rw [List.getElem?_map, rE.out]; rfl), (E7.out.fc 0 rfl).2⟩) (fun hHeld => ?_)
      clear hKK KK
      try simp only [Act.put, List.setIfInBounds_toArray, List.set_cons_zero, List.set_cons_succ]
      refine uTake (i := 12) (some 49) (v := ?_) rfl rfl (by kernel_rfl) (by kernel_rfl) (by kernel_rfl) (by kernel_rfl) (fun _ _ _ h => h) (by rfl) (by assumption) ?_ ?_
      rotate_left
      · (intro wS hSw; (try dsimp only at hSw); go_simp; try with_reducible rfl)
      try simp only [Act.put, List.setIfInBounds_toArray, List.set_cons_zero, List.set_cons_succ]
      have fz := (E7.out.mh (A := [(w4.heap.size, 3, [.int .i64 (b[i] : Nat)])]) (B := []) rfl).frozen i
      have cz := (E7.out.mh (A := [(w4.heap.size, 3, [.int .i64 (b[i] : Nat)])]) (B := []) rfl).cell i (show (R1.map Rb.hd)[i]? = _ from (by rw [List.getElem?_map, rE.out]; rfl))
      refine uReady (rs := [13]) (by kernel_rfl) (by simp) ?_
      refine ReadyU.consU (by kernel_rfl) rfl (fun KK hKK => ?_) ReadyU.nil
      go_simp
      have E8 : Hid (Env D w ((w4.heap.size, 3, [.int .i64 (b[i] : Nat)]) :: ((mbh cg ((R1.map Rb.hd).set i (.slice (some ⟨nr.b, 0, none⟩) nr.l.length (nr.l.length + nr.x.length))) (R1.set i nr)) ++ [])) [.ce yab (yao + i) (.int .i64 (b[i] : Nat)), .rw (.slice (some ⟨yab, yao, none⟩) b.length yk) b.length 1 (ncl b), .mx (.slice xa L.length xk) (L.map nl)] _) := Lib.hid ((E7.out.mhset (A := [(w4.heap.size, 3, [.int .i64 (b[i] : Nat)])]) (B := []) rfl i (.slice (some ⟨nr.b, 0, none⟩) nr.l.length (nr.l.length + nr.x.length))))
      (try dsimp only)
      (try clear hHeld)
      refine hKK.out _ _ ?_
      clear hKK KK
      try simp only [Act.put, List.setIfInBounds_toArray, List.set_cons_zero, List.set_cons_succ]
      refine uDone (by kernel_rfl) ?_ _
      have E9 : Hid (Env D w ((w4.heap.size, 3, [.int .i64 (b[i] : Nat)]) :: ((mbx cg (R1.set i nr)) ++ [])) [.ce yab (yao + i) (.int .i64 (b[i] : Nat)), .rw (.slice (some ⟨yab, yao, none⟩) b.length yk) b.length 1 (ncl b), .mx (.slice xa L.length xk) (L.map nl)] _) := Lib.hid (by have h := E8.out; rw [show .slice (some ⟨nr.b, 0, none⟩) nr.l.length (nr.l.length + nr.x.length) = nr.hd from rfl, hd_put rE.out] at h; exact h)
      have HNX : Hid (mrows (R1.set i nr) = mix (sysL L b) L (i + 1)) := Lib.hid (by unfold mrows; rw [List.map_set, nH.out.1, show R1.map Rb.l = mix (sysL L b) L i from HS.out]; exact mix_set sysL_len (by rw [sysL_len]; exact hi) (by rw [sysL_get hi hib]; simp only [HRG.out]))
      have EZ := Lib.hid ((E9.out.drop).forget)
      go_wp2
      go_roundg (L.length - (i + 1))
      case rel => exact ⟨i + 1, R1.set i nr, rfl, EZ, Lib.hid ⟨⟨by omega, rfl⟩, HNX.out, nH.out.2⟩⟩
      case measure => exact by omega
    have t6 : decide ((i : Int) < (L.length : Int)) = false := decide_eq_false (by omega)
    have t6n : decide (i < L.length) = false := decide_eq_false (by omega)
    have HMS : Hid (mrows R1 = sysL L b) := Lib.hid (by rw [HS.out, hy, mix_full sysL_len (Nat.le_of_eq sysL_len)])
    clear hy
    go_upto_region 11 with (fail)
    obtain ⟨xab, xao, rfl⟩ := Mx.addrN (EL.out.fc 1 rfl) hz
    obtain ⟨ua, uk, E40⟩ := EL.out.elMN 1 rfl (0) hz
    have E4 : Hid (Env D w ((mbx cg R1) ++ []) [.ce xab (xao) (.slice ua L[0].length uk), .rw (.slice ua L[0].length uk) L[0].length 1 (ncl L[0]), .rw (.slice ya b.length yk) b.length 1 (ncl b), .mx (.slice (some ⟨xab, xao, none⟩) L.length xk) (L.map nl)] _) := Lib.hid E40
    clear E40 EL
    have u0 := (E4.out.fc 0 rfl).2
    have HL0 : Hid (L[0].length = n) := Lib.hid (hv.out.res _ (List.getElem_mem hz)).1
    have zRD := reduce_c q (n + 1) L[0].length R1 (A0 := []) (B0 := []) (Lib.hid E4.out) hv.out.q2 hv.out.qT (by rw [HMS.out]; exact HSR.out) (by rw [HL0.out]; omega) (by rw [HL1.out]; omega) (by omega) HC.out
    rw [HL1.out] at zRD
    have zRE := Lib.hid zRD
    clear zRD
    go_wp2_with fail
    refine (zRE.out).mono ?_
    rintro e w4 ⟨zR, zP, za, zk, rfl, zH, zE9⟩
    have E5 : Hid (Env D w ((mbx cg zR) ++ []) [.rw (.slice za zP.length zk) zP.length 1 (ncl zP), .ce xab (xao) (.slice ua L[0].length uk), .rw (.slice ua L[0].length uk) L[0].length 1 (ncl L[0]), .rw (.slice ya b.length yk) b.length 1 (ncl b), .mx (.slice (some ⟨xab, xao, none⟩) L.length xk) (L.map nl)] w4) := Lib.hid (zE9.out.cast (by first | rfl | simp))
    clear u0 E4 zE9
    go_upto_region 13 with (fail)
    have HZ : Hid ((mrows zR, zP) = redN q (sysL L b) n) := Lib.hid (by have h := zH.out.1; rw [HMS.out, HL0.out] at h; exact h)
    have HZI : Hid (RedI q (n + 1) L.length n (mrows zR, zP)) := Lib.hid (by have h := redN_ok HQ.out HSR.out n; rw [← HZ.out, sysL_len] at h; exact h)
    have HZL : Hid (zR.length = L.length) := Lib.hid (by have h := HZI.out.len; simpa using h)
    have hzp : zP.length ≤ L.length := HZI.out.few.1
    have hzpI : (zP.length : Int) ≤ (L.length : Int) := by omega
    have hw9 : wrap64 ((L.length : Int) - (zP.length : Int)) = ((L.length - zP.length : Nat) : Int) := by rw [IntWalk.wrap64_in _ (by omega)]; omega
    by_cases hpe : L.length = zP.length
    · have hpe1 : (L.length = zP.length) = True := eq_true hpe
      have HPE := Lib.hid hpe
      clear hpe
      go_wp2_with fail
      clear t6 t6n a1 a2 hpe1
      go_loopg [64, 6, 7] (L.length - zP.length) (fun gk s64 s6 s7 wr => ∃ (k : Nat), s64 = .int .i64 (k : Int) ∧ s6 = .slice (some ⟨cg, 0, none⟩) L.length L.length ∧ s7 = .slice za zP.length zk ∧ Hid (Env D w ((mbx cg zR) ++ []) [.rw (.slice za zP.length zk) zP.length 1 (ncl zP), .ce xab (xao) (.slice ua L[0].length uk), .rw (.slice ua L[0].length uk) L[0].length 1 (ncl L[0]), .rw (.slice ya b.length yk) b.length 1 (ncl b), .mx (.slice (some ⟨xab, xao, none⟩) L.length xk) (L.map nl)] wr) ∧ Hid ((k ≤ L.length - zP.length ∧ gk = L.length - zP.length - k) ∧ ∀ j, j < k → ((mrows zR).getD (zP.length + j) []).getD n 0 = 0))
      case atStart => exact ⟨0, rfl, rfl, rfl, Lib.hid E5.out, Lib.hid ⟨⟨Nat.zero_le _, rfl⟩, fun j h => absurd h (Nat.not_lt_zero _)⟩⟩
      case round =>
        clear E5
        obtain ⟨k, rfl, rfl, rfl, EL, HA⟩ := hrel
        obtain ⟨⟨a1, a2⟩, a3⟩ := HA.out
        have HK := Lib.hid a3
        clear a3 HA
        have HML : Hid ((mrows zR).length = L.length) := Lib.hid (by rw [List.length_map]; exact HZL.out)
        by_cases hy : k = L.length - zP.length
        · have t6 : decide ((k : Int) < ((L.length - zP.length : Nat) : Int)) = false := decide_eq_false (by omega)
          have t6n : decide (k < L.length - zP.length) = false := decide_eq_false (by omega)
          have HTF : Hid (t = false) := Lib.hid (by rw [← ht.out, ← HZ.out]; exact noneB_no (k := 0) (fun j hj => HK.out j (by simp only [HML.out] at hj; omega)))
          clear hy
          have hbel := Lib.hid EL.out.bel
          go_wp2
          refine bodyPost_ret (results_tmp3 rfl _ _ _) rfl ?_
          have EF := Env.freezeM (A := []) (B := []) (g := cg) (R := zR) (EL.out.cast (by first | rfl | simp)) (by rw [HZL.out]; omega) zH.out.2
          have h1 : Fct.at _ _ _ := EF.out 0 rfl
          have h2 : Fct.at _ _ _ := EF.out 1 rfl
          have hml := HML.out
          have hzl := HZL.out
          rw [hzl] at h1
          refine ⟨.inr ⟨HTF.out, ?_⟩, hbel.out⟩
          rw [← HZ.out]
          simp only [hml]
          exact ⟨some ⟨cg, 0, none⟩, L.length, za, zk, rfl, Lib.hid h1, Lib.hid h2⟩
        exact absurd HPE.out (by omega)
    · have hpe1 : (L.length = zP.length) = False := eq_false hpe
      have HPE := Lib.hid hpe
      clear hpe
      go_wp2_with fail
      clear t6 t6n a1 a2 hpe1
      go_loopg [64, 6, 7] (L.length - zP.length) (fun gk s64 s6 s7 wr => ∃ (k : Nat), s64 = .int .i64 (k : Int) ∧ s6 = .slice (some ⟨cg, 0, none⟩) L.length L.length ∧ s7 = .slice za zP.length zk ∧ Hid (Env D w ((mbx cg zR) ++ []) [.rw (.slice za zP.length zk) zP.length 1 (ncl zP), .ce xab (xao) (.slice ua L[0].length uk), .rw (.slice ua L[0].length uk) L[0].length 1 (ncl L[0]), .rw (.slice ya b.length yk) b.length 1 (ncl b), .mx (.slice (some ⟨xab, xao, none⟩) L.length xk) (L.map nl)] wr) ∧ Hid ((k ≤ L.length - zP.length ∧ gk = L.length - zP.length - k) ∧ ∀ j, j < k → ((mrows zR).getD (zP.length + j) []).getD n 0 = 0))
      case atStart => exact ⟨0, rfl, rfl, rfl, Lib.hid E5.out, Lib.hid ⟨⟨Nat.zero_le _, rfl⟩, fun j h => absurd h (Nat.not_lt_zero _)⟩⟩
      case round =>
        clear E5
        obtain ⟨k, rfl, rfl, rfl, EL, HA⟩ := hrel
        obtain ⟨⟨a1, a2⟩, a3⟩ := HA.out
        have HK := Lib.hid a3
        clear a3 HA
        have HML : Hid ((mrows zR).length = L.length) := Lib.hid (by rw [List.length_map]; exact HZL.out)
        by_cases hy : k = L.length - zP.length
        · have t6 : decide ((k : Int) < ((L.length - zP.length : Nat) : Int)) = false := decide_eq_false (by omega)
          have t6n : decide (k < L.length - zP.length) = false := decide_eq_false (by omega)
          have HTF : Hid (t = false) := Lib.hid (by rw [← ht.out, ← HZ.out]; exact noneB_no (k := 0) (fun j hj => HK.out j (by simp only [HML.out] at hj; omega)))
          clear hy
          have hbel := Lib.hid EL.out.bel
          go_wp2
          refine bodyPost_ret (results_tmp3 rfl _ _ _) rfl ?_
          have EF := Env.freezeM (A := []) (B := []) (g := cg) (R := zR) (EL.out.cast (by first | rfl | simp)) (by rw [HZL.out]; omega) zH.out.2
          have h1 : Fct.at _ _ _ := EF.out 0 rfl
          have h2 : Fct.at _ _ _ := EF.out 1 rfl
          have hml := HML.out
          have hzl := HZL.out
          rw [hzl] at h1
          refine ⟨.inr ⟨HTF.out, ?_⟩, hbel.out⟩
          rw [← HZ.out]
          simp only [hml]
          exact ⟨some ⟨cg, 0, none⟩, L.length, za, zk, rfl, Lib.hid h1, Lib.hid h2⟩
        have HPE2 := HPE.out
        have hk : k < L.length - zP.length := by omega
        have t6 : decide ((k : Int) < ((L.length - zP.length : Nat) : Int)) = true := decide_eq_true (by omega)
        have t6n : decide (k < L.length - zP.length) = true := decide_eq_true hk
        have hkI : (k : Int) < ((L.length - zP.length : Nat) : Int) := by omega
        clear hy
        go_upto_region 15 with (fail)
        have hkz : zP.length + k < zR.length := by rw [HZL.out]; omega
        obtain ⟨⟨sb, sl, sx⟩, se⟩ : ∃ r, zR[zP.length + k]? = some r := ⟨_, List.getElem?_eq_getElem hkz⟩
        have sE := Lib.hid se
        clear se
        have mh1 : World.cell? _ ⟨cg, zP.length + k, none⟩ = some (.slice (some ⟨sb, 0, none⟩) sl.length (sl.length + sx.length)) := EL.out.mhd (A := []) (B := []) rfl sE.out
        have HSG : Hid ((mrows zR)[zP.length + k]? = some sl) := Lib.hid (mrows_get sE.out)
        have HSL : Hid (sl.length = n + 1) := Lib.hid (HZI.out.res _ (List.mem_of_getElem? HSG.out)).1
        have hns : n < sl.length := by rw [HSL.out]; omega
        have hLs : L[0].length < sl.length := by rw [HL0.out]; exact hns
        have hLsI : (L[0].length : Int) < (sl.length : Int) := by omega
        have HDS : Hid (((mrows zR).getD (zP.length + k) []).getD n 0 = sl[L[0].length]) := Lib.hid (by rw [getD_of HSG.out, ← HL0.out, getD_elem hLs])
        have mc2 : World.cell? _ ⟨sb, L[0].length, none⟩ = some (.int .i64 (sl[L[0].length] : Nat)) := EL.out.mcell (A := []) (B := []) rfl sE.out hLs
        by_cases hs0 : sl[L[0].length] = 0
        · have e1 : (((sl[L[0].length] : Nat) : Int) != 0) = false := by rw [hs0]; rfl
          have e2 : (sl[L[0].length] != 0) = false := by rw [hs0]; rfl
          have HSZ := Lib.hid hs0
          clear hs0
          have EZ := Lib.hid EL.out
          go_wp2
          go_roundg (L.length - zP.length - (k + 1))
          case rel => exact ⟨k + 1, rfl, rfl, rfl, EZ, Lib.hid ⟨⟨by omega, rfl⟩, fun j hj => by by_cases e : j = k; (· rw [e, HDS.out]; exact HSZ.out); exact HK.out j (by omega)⟩⟩
          case measure => exact by omega
        have e1 : (((sl[L[0].length] : Nat) : Int) != 0) = true := by rw [bne_iff_ne]; omega
        have e2 : (sl[L[0].length] != 0) = true := by rw [bne_iff_ne]; exact hs0
        have HTT : Hid (t = true) := Lib.hid (by rw [← ht.out, ← HZ.out]; exact noneB_yes (show zP.length + k < (mrows zR).length from by rw [HML.out]; omega) (show ((mrows zR).getD (zP.length + k) []).getD n 0 ≠ 0 from by rw [HDS.out]; exact hs0))
        clear hs0
        have hfin := Lib.hid EL.out.bel
        go_wp2
        refine bodyPost_ret (results_tmp3 rfl _ _ _) rfl ?_
        exact ⟨.inl ⟨HTT.out, rfl⟩, hfin.out⟩
/-- the particular solution, behind i pivots -/
def partV (n : Nat) (P : List Nat) (M : List (List Nat)) : Nat → List Nat
  | 0 => List.replicate n 0
  | i + 1 => (partV n P M i).set (P.getD i 0) ((M.getD i []).getD n 0)
/-- the kernel's vector of a free column, behind i pivots -/
def kerV (q n : Nat) (P : List Nat) (M : List (List Nat)) (f : Nat) : Nat → List Nat
  | 0 => (List.replicate n 0).set f 1
  | i + 1 => (kerV q n P M f i).set (P.getD i 0) ((q - (M.getD i []).getD f 0) % q)
def kerL (q n : Nat) (P : List Nat) (M : List (List Nat)) : Nat → List (List Nat)
  | 0 => []
  | f + 1 => if P.contains f = true then kerL q n P M f else kerL q n P M f ++ [kerV q n P M f P.length]
section
variable {q n f i : Nat} {P : List Nat} {M : List (List Nat)}
theorem partV_len : ∀ i, (partV n P M i).length = n
  | 0 => List.length_replicate
  | i + 1 => by rw [partV, List.length_set]; exact partV_len i
theorem kerV_len : ∀ i, (kerV q n P M f i).length = n
  | 0 => by rw [kerV, List.length_set]; exact List.length_replicate
  | i + 1 => by rw [kerV, List.length_set]; exact kerV_len i
theorem partV_step (hi : i < P.length) (hm : i < M.length) (hn : n < M[i].length) : (ncl (partV n P M i)).set P[i] (.int .i64 (M[i][n] : Nat)) = ncl (partV n P M (i + 1)) := by
  rw [ncl_set, partV, getD_elem hi, getL_elem hm, getD_elem hn]
theorem kerV_step {r : Nat} (hi : i < P.length) (hm : i < M.length) (hf : f < M[i].length) (hr : r = (q - M[i][f]) % q) : (ncl (kerV q n P M f i)).set P[i] (.int .i64 (r : Nat)) = ncl (kerV q n P M f (i + 1)) := by
  rw [ncl_set, kerV, getD_elem hi, getL_elem hm, getD_elem hf, hr]
theorem kerL_skip (h : P.contains f = true) : kerL q n P M (f + 1) = kerL q n P M f := by rw [kerL, if_pos h]
theorem kerL_add (h : P.contains f = false) : kerL q n P M (f + 1) = kerL q n P M f ++ [kerV q n P M f P.length] := by rw [kerL, if_neg (by rw [h]; simp)]
theorem kerL_len_le : ∀ f, (kerL q n P M f).length ≤ f
  | 0 => Nat.le_refl _
  | f + 1 => by
    have := kerL_len_le f
    rw [kerL]
    split
    · omega
    · rw [List.length_append, List.length_singleton]; omega
end
theorem Env.freezeNn {D0 : Nat → Prop} {w W : World} {F : List Bx} {G : List Fct} {g n : Nat} {T : TypeId} (l : List Nat) (E : Env D0 w ((g, T, ncl l) :: F) G W) (hl : l.length = n) (hn : n ≤ 1000000) : Env D0 w F (.rw (.slice (some ⟨g, 0, none⟩) n n) n 1 (ncl l) :: G) W := by
  subst hl; exact Env.freezeN l E hn
section
variable {D : Nat → Prop} {q n : Nat} {L M : List (List Nat)} {b P : List Nat} {xa ya : Option Addr} {xk yk : Nat} {w : World}
theorem sys_t (hx : Fct.at w D (.mx (.slice xa L.length xk) (L.map nl))) (hy : Fct.at w D (.rw (.slice ya b.length yk) b.length 1 (ncl b))) (hl : Laid w) (hv : MvI q n L) (hne : b.length = L.length) (hs : ∀ c ∈ b, c < q) (hR : redN q (sysL L b) n = (M, P)) (ht : noneB n (M, P) = true) :
    Calls Tryd.prog 82 #[.int .i64 (q : Nat), .slice xa L.length xk, .slice ya b.length yk] w fun e w' => e = .returned (.tuple #[.slice none 0 0, .slice none 0 0, .int .i64 7]) ∧ Below w.heap.size w w' := by
  refine (sys_ok q n L b hx hy hl hv hne hs (t := true) (by rw [hR]; exact ht)).mono fun e w' h => ⟨?_, h.2⟩
  rcases h.1 with ⟨_, h⟩ | ⟨h, _⟩
  · exact h
  · cases h
theorem sys_f (hx : Fct.at w D (.mx (.slice xa L.length xk) (L.map nl))) (hy : Fct.at w D (.rw (.slice ya b.length yk) b.length 1 (ncl b))) (hl : Laid w) (hv : MvI q n L) (hne : b.length = L.length) (hs : ∀ c ∈ b, c < q) (hR : redN q (sysL L b) n = (M, P)) (ht : noneB n (M, P) = false) :
    Calls Tryd.prog 82 #[.int .i64 (q : Nat), .slice xa L.length xk, .slice ya b.length yk] w fun e w' => (∃ ea ek pa pk, e = .returned (.tuple #[.slice ea M.length ek, .slice pa P.length pk, .int .i64 0]) ∧ Hid (Mx w' (fun b => D b ∨ w.heap.size ≤ b) (.slice ea M.length ek) (M.map nl)) ∧ Hid (Rw w' (fun b => D b ∨ w.heap.size ≤ b) (.slice pa P.length pk) P.length 1 (ncl P))) ∧ Below w.heap.size w w' := by
  refine (sys_ok q n L b hx hy hl hv hne hs (t := false) (by rw [hR]; exact ht)).mono fun e w' h => ⟨?_, h.2⟩
  have h1 := h.1
  rw [hR] at h1
  rcases h1 with ⟨h, _⟩ | ⟨_, h⟩
  · cases h
  · exact h
end
/-- what is known of a reduced system -/
structure SysI (q n m : Nat) (M : List (List Nat)) (P : List Nat) : Prop where
  res : ResM q (n + 1) M
  len : M.length = m
  few : P.length ≤ m
  fewn : P.length ≤ n
  lt : ∀ x ∈ P, x < n
  nod : P.Nodup
theorem SysI.of {q n : Nat} {L M : List (List Nat)} {b P : List Nat} (hv : MvI q n L) (hne : b.length = L.length) (hs : ∀ c ∈ b, c < q) (hR : redN q (sysL L b) n = (M, P)) : SysI q n L.length M P := by
  have h := redN_ok (q := q) (by have := hv.q2; omega) (sysL_res hv.res hs hne) n
  rw [hR, sysL_len] at h
  exact ⟨h.res, h.len, h.few.1, h.few.2, h.lt, h.nod⟩
set_option maxRecDepth 100000 in
set_option maxHeartbeats 1000000 in
theorem Solve_no {D : Nat → Prop} (q : Int) (M : List (List Int)) (b : List Int) {xa ya : Option Addr} {xk yk : Nat} {w : World} (hx : Fct.at w D (.mx (.slice xa M.length xk) M)) (hy : Fct.at w D (.rw (.slice ya b.length yk) b.length 1 (icl b))) (hl0 : Laid w) (hn : -9223372036854775808 ≤ q ∧ q ≤ 9223372036854775807) (hv0 : mvB q M = false) :
    Calls Tryd.prog 36 #[.int .i64 q, .slice xa M.length xk, .slice ya b.length yk] w fun e w' => e = .returned (.tuple #[.slice none 0 0, .slice none 0 0, .int .i64 1]) ∧ Below w.heap.size w w' := by
  have E0 : Hid (Env D w [] [.rw (.slice ya b.length yk) b.length 1 (icl b), .mx (.slice xa M.length xk) M] w) := Lib.hid (((Env.start D w).arg (.mx (.slice xa M.length xk) M) hx).arg (.rw (.slice ya b.length yk) b.length 1 (icl b)) hy)
  clear hx hy
  go_enter Tryd.func36, Tryd.ntmps36
  have hl := Lib.hid hl0
  have hv := Lib.hid hv0
  clear hl0 hv0
  go_wp2_with fail
  refine (sys_no q M b (E0.out.fc 1 rfl) (E0.out.fc 0 rfl) (hl.out.below E0.out.bel) hn hv.out).mono ?_
  rintro e w1 ⟨rfl, hb⟩
  have E1 : Hid (Env D w [] [.rw (.slice ya b.length yk) b.length 1 (icl b), .mx (.slice xa M.length xk) M] w1) := Lib.hid (E0.out.below hb)
  clear E0 hb
  have hfin := Lib.hid E1.out.bel
  go_wp2
  refine bodyPost_ret (results_tmp3 rfl _ _ _) rfl ?_
  exact ⟨rfl, hfin.out⟩
set_option maxRecDepth 100000 in
set_option maxHeartbeats 1000000 in
theorem Solve_len {D : Nat → Prop} (q n : Nat) (L : List (List Nat)) (b : List Int) {xa ya : Option Addr} {xk yk : Nat} {w : World} (hx : Fct.at w D (.mx (.slice xa L.length xk) (L.map nl))) (hy : Fct.at w D (.rw (.slice ya b.length yk) b.length 1 (icl b))) (hl0 : Laid w) (hv0 : MvI q n L) (hne : ¬ b.length = L.length) :
    Calls Tryd.prog 36 #[.int .i64 (q : Nat), .slice xa L.length xk, .slice ya b.length yk] w fun e w' => e = .returned (.tuple #[.slice none 0 0, .slice none 0 0, .int .i64 1]) ∧ Below w.heap.size w w' := by
  have E0 : Hid (Env D w [] [.rw (.slice ya b.length yk) b.length 1 (icl b), .mx (.slice xa L.length xk) (L.map nl)] w) := Lib.hid (((Env.start D w).arg (.mx (.slice xa L.length xk) (L.map nl)) hx).arg (.rw (.slice ya b.length yk) b.length 1 (icl b)) hy)
  clear hx hy
  go_enter Tryd.func36, Tryd.ntmps36
  have hl := Lib.hid hl0
  have hv := Lib.hid hv0
  clear hl0 hv0
  have HNE := Lib.hid hne
  clear hne
  go_wp2_with fail
  refine (sys_len q n L b (E0.out.fc 1 rfl) (E0.out.fc 0 rfl) (hl.out.below E0.out.bel) hv.out HNE.out).mono ?_
  rintro e w1 ⟨rfl, hb⟩
  have E1 : Hid (Env D w [] [.rw (.slice ya b.length yk) b.length 1 (icl b), .mx (.slice xa L.length xk) (L.map nl)] w1) := Lib.hid (E0.out.below hb)
  clear E0 hb
  have hfin := Lib.hid E1.out.bel
  go_wp2
  refine bodyPost_ret (results_tmp3 rfl _ _ _) rfl ?_
  exact ⟨rfl, hfin.out⟩
set_option maxRecDepth 100000 in
set_option maxHeartbeats 1000000 in
theorem Solve_rng {D : Nat → Prop} (q n : Nat) (L : List (List Nat)) (b : List Int) {xa ya : Option Addr} {xk yk : Nat} {w : World} (hx : Fct.at w D (.mx (.slice xa L.length xk) (L.map nl))) (hy : Fct.at w D (.rw (.slice ya b.length yk) b.length 1 (icl b))) (hl0 : Laid w) (hv0 : MvI q n L) (hne : b.length = L.length) (hs0 : b.all (resB (q : Int)) = false) :
    Calls Tryd.prog 36 #[.int .i64 (q : Nat), .slice xa L.length xk, .slice ya b.length yk] w fun e w' => e = .returned (.tuple #[.slice none 0 0, .slice none 0 0, .int .i64 2]) ∧ Below w.heap.size w w' := by
  have E0 : Hid (Env D w [] [.rw (.slice ya b.length yk) b.length 1 (icl b), .mx (.slice xa L.length xk) (L.map nl)] w) := Lib.hid (((Env.start D w).arg (.mx (.slice xa L.length xk) (L.map nl)) hx).arg (.rw (.slice ya b.length yk) b.length 1 (icl b)) hy)
  clear hx hy
  go_enter Tryd.func36, Tryd.ntmps36
  have hl := Lib.hid hl0
  have hv := Lib.hid hv0
  have hs := Lib.hid hs0
  clear hl0 hv0 hs0
  have HNE := Lib.hid hne
  clear hne
  go_wp2_with fail
  refine (sys_rng q n L b (E0.out.fc 1 rfl) (E0.out.fc 0 rfl) (hl.out.below E0.out.bel) hv.out HNE.out hs.out).mono ?_
  rintro e w1 ⟨rfl, hb⟩
  have E1 : Hid (Env D w [] [.rw (.slice ya b.length yk) b.length 1 (icl b), .mx (.slice xa L.length xk) (L.map nl)] w1) := Lib.hid (E0.out.below hb)
  clear E0 hb
  have hfin := Lib.hid E1.out.bel
  go_wp2
  refine bodyPost_ret (results_tmp3 rfl _ _ _) rfl ?_
  exact ⟨rfl, hfin.out⟩
set_option maxRecDepth 100000 in
set_option maxHeartbeats 8000000 in
theorem Solve_t {D : Nat → Prop} (q n : Nat) (L M : List (List Nat)) (b P : List Nat) {xa ya : Option Addr} {xk yk : Nat} {w : World} (hx : Fct.at w D (.mx (.slice xa L.length xk) (L.map nl))) (hy : Fct.at w D (.rw (.slice ya b.length yk) b.length 1 (ncl b))) (hl0 : Laid w) (hv0 : MvI q n L) (hne0 : b.length = L.length) (hs0 : ∀ c ∈ b, c < q) (hR0 : redN q (sysL L b) n = (M, P)) (ht0 : noneB n (M, P) = true) :
    Calls Tryd.prog 36 #[.int .i64 (q : Nat), .slice xa L.length xk, .slice ya b.length yk] w fun e w' => e = .returned (.tuple #[.slice none 0 0, .slice none 0 0, .int .i64 7]) ∧ Below w.heap.size w w' := by
  have E0 : Hid (Env D w [] [.rw (.slice ya b.length yk) b.length 1 (ncl b), .mx (.slice xa L.length xk) (L.map nl)] w) := Lib.hid (((Env.start D w).arg (.mx (.slice xa L.length xk) (L.map nl)) hx).arg (.rw (.slice ya b.length yk) b.length 1 (ncl b)) hy)
  clear hx hy
  go_enter Tryd.func36, Tryd.ntmps36
  have hl := Lib.hid hl0
  have hv := Lib.hid hv0
  have hne := Lib.hid hne0
  have hs := Lib.hid hs0
  have hR := Lib.hid hR0
  have ht := Lib.hid ht0
  clear hl0 hv0 hne0 hs0 hR0 ht0
  have HI := Lib.hid (SysI.of hv.out hne.out hs.out hR.out)
  have m30 := hv.out.m30
  have n30 := hv.out.n30
  have hz : 0 < L.length := hv.out.m1
  have hzI : (0 : Int) < (L.length : Int) := by omega
  have HL0 : Hid (L[0].length = n) := Lib.hid (hv.out.res _ (List.getElem_mem hz)).1
  have hpm : P.length ≤ L.length := HI.out.few
  have hpn : P.length ≤ n := HI.out.fewn
  have HML : Hid (M.length = L.length) := Lib.hid HI.out.len
  go_wp2_with fail
  refine (sys_t (E0.out.fc 1 rfl) (E0.out.fc 0 rfl) (hl.out.below E0.out.bel) hv.out hne.out hs.out hR.out ht.out).mono ?_
  rintro e w1 ⟨rfl, hb⟩
  have E1 : Hid (Env D w [] [.rw (.slice ya b.length yk) b.length 1 (ncl b), .mx (.slice xa L.length xk) (L.map nl)] w1) := Lib.hid (E0.out.below hb)
  clear E0 hb
  have hfin := Lib.hid E1.out.bel
  go_wp2
  refine bodyPost_ret (results_tmp3 rfl _ _ _) rfl ?_
  exact ⟨rfl, hfin.out⟩
/-- a vector and rows came back -/
def RetXK (D : Nat → Prop) (X : List Nat) (K : List (List Nat)) (c : Int) (e : Ending) (w' : World) : Prop := ∃ xa xk ka kk, e = .returned (.tuple #[.slice xa X.length xk, .slice ka K.length kk, .int .i64 c]) ∧ Hid (Rw w' D (.slice xa X.length xk) X.length 1 (ncl X)) ∧ Hid (Mx w' D (.slice ka K.length kk) (K.map nl))
set_option maxRecDepth 100000 in
set_option maxHeartbeats 8000000 in
theorem Solve_f {D : Nat → Prop} (q n : Nat) (L M : List (List Nat)) (b P : List Nat) {xa ya : Option Addr} {xk yk : Nat} {w : World} (hx : Fct.at w D (.mx (.slice xa L.length xk) (L.map nl))) (hy : Fct.at w D (.rw (.slice ya b.length yk) b.length 1 (ncl b))) (hl0 : Laid w) (hv0 : MvI q n L) (hne0 : b.length = L.length) (hs0 : ∀ c ∈ b, c < q) (hR0 : redN q (sysL L b) n = (M, P)) (ht0 : noneB n (M, P) = false) :
    Calls Tryd.prog 36 #[.int .i64 (q : Nat), .slice xa L.length xk, .slice ya b.length yk] w fun e w' => RetXK (fun b => D b ∨ w.heap.size ≤ b) (partV n P M P.length) (kerL q n P M n) 0 e w' ∧ Below w.heap.size w w' := by
  have E0 : Hid (Env D w [] [.rw (.slice ya b.length yk) b.length 1 (ncl b), .mx (.slice xa L.length xk) (L.map nl)] w) := Lib.hid (((Env.start D w).arg (.mx (.slice xa L.length xk) (L.map nl)) hx).arg (.rw (.slice ya b.length yk) b.length 1 (ncl b)) hy)
  clear hx hy
  go_enter Tryd.func36, Tryd.ntmps36
  have hl := Lib.hid hl0
  have hv := Lib.hid hv0
  have hne := Lib.hid hne0
  have hs := Lib.hid hs0
  have hR := Lib.hid hR0
  have ht := Lib.hid ht0
  clear hl0 hv0 hne0 hs0 hR0 ht0
  have HI := Lib.hid (SysI.of hv.out hne.out hs.out hR.out)
  have m30 := hv.out.m30
  have n30 := hv.out.n30
  have hz : 0 < L.length := hv.out.m1
  have hzI : (0 : Int) < (L.length : Int) := by omega
  have HL0 : Hid (L[0].length = n) := Lib.hid (hv.out.res _ (List.getElem_mem hz)).1
  have hpm : P.length ≤ L.length := HI.out.few
  have hpn : P.length ≤ n := HI.out.fewn
  have HML : Hid (M.length = L.length) := Lib.hid HI.out.len
  go_wp2_with fail
  refine (sys_f (E0.out.fc 1 rfl) (E0.out.fc 0 rfl) (hl.out.below E0.out.bel) hv.out hne.out hs.out hR.out ht.out).mono ?_
  rintro e w1 ⟨⟨ea, ek, pa, pk, rfl, gH, pH⟩, hb⟩
  have E1 : Hid (Env D w [] [.rw (.slice pa P.length pk) P.length 1 (ncl P), .mx (.slice ea M.length ek) (M.map nl), .rw (.slice ya b.length yk) b.length 1 (ncl b), .mx (.slice xa L.length xk) (L.map nl)] w1) := Lib.hid (E0.out.got (E0.out.got (E0.out.below hb) (.mx (.slice ea M.length ek) (M.map nl)) gH.out) (.rw (.slice pa P.length pk) P.length 1 (ncl P)) pH.out)
  clear E0 hb gH pH
  go_upto_region 4 with (fail)
  obtain ⟨xab, xao, rfl⟩ := Mx.addrN (E1.out.fc 3 rfl) hz
  obtain ⟨ua, uk, E20⟩ := E1.out.elMN 3 rfl (0) hz
  have E2 : Hid (Env D w [] [.ce xab (xao) (.slice ua L[0].length uk), .rw (.slice ua L[0].length uk) L[0].length 1 (ncl L[0]), .rw (.slice pa P.length pk) P.length 1 (ncl P), .mx (.slice ea M.length ek) (M.map nl), .rw (.slice ya b.length yk) b.length 1 (ncl b), .mx (.slice (some ⟨xab, xao, none⟩) L.length xk) (L.map nl)] _) := Lib.hid E20
  clear E20 E1
  have u0 := (E2.out.fc 0 rfl).2
  have hl0 := HL0.out
  go_upto_region 5 with (fail)
  clear hl0
  go_wp2_with (at_make; refine wpl_makeI rfl _ _ rfl E2.out n rfl rfl (by omega) ?_)
  intro w2 xg xgE
  have E3 : Hid (Env D w [(xg, 3, (ncl (List.replicate n 0)))] [.ce xab (xao) (.slice ua L[0].length uk), .rw (.slice ua L[0].length uk) L[0].length 1 (ncl L[0]), .rw (.slice pa P.length pk) P.length 1 (ncl P), .mx (.slice ea M.length ek) (M.map nl), .rw (.slice ya b.length yk) b.length 1 (ncl b), .mx (.slice (some ⟨xab, xao, none⟩) L.length xk) (L.map nl)] w2) := Lib.hid (by have h := xgE.out; rw [ncl_rep] at h; exact h)
  clear u0 E2 xgE
  go_wp2_with fail
  go_loopg [37] (P.length) (fun gk s37 wr => ∃ (i : Nat), s37 = .int .i64 (i : Int) ∧ Hid (Env D w [(xg, 3, (ncl (partV n P M i)))] [.ce xab (xao) (.slice ua L[0].length uk), .rw (.slice ua L[0].length uk) L[0].length 1 (ncl L[0]), .rw (.slice pa P.length pk) P.length 1 (ncl P), .mx (.slice ea M.length ek) (M.map nl), .rw (.slice ya b.length yk) b.length 1 (ncl b), .mx (.slice (some ⟨xab, xao, none⟩) L.length xk) (L.map nl)] wr) ∧ Hid (i ≤ P.length ∧ gk = P.length - i))
  case atStart => exact ⟨0, rfl, Lib.hid E3.out, Lib.hid ⟨Nat.zero_le _, rfl⟩⟩
  case round =>
    clear E3
    obtain ⟨i, rfl, EL, HA⟩ := hrel
    obtain ⟨a1, a2⟩ := HA.out
    clear HA
    by_cases hy : i = P.length
    rotate_left
    · have hi : i < P.length := by omega
      have t6 : decide ((i : Int) < (P.length : Int)) = true := decide_eq_true (by omega)
      have t6n : decide (i < P.length) = true := decide_eq_true (by omega)
      have hiI : (i : Int) < (P.length : Int) := by omega
      clear hy
      go_upto_region 8 with (fail)
      obtain ⟨pab, pao, rfl⟩ := Rw.addr (EL.out.fc 2 rfl) (by omega)
      have E4 : Hid (Env D w [(xg, 3, (ncl (partV n P M i)))] [.ce pab (pao + i) (.int .i64 (P[i] : Nat)), .ce xab (xao) (.slice ua L[0].length uk), .rw (.slice ua L[0].length uk) L[0].length 1 (ncl L[0]), .rw (.slice (some ⟨pab, pao, none⟩) P.length pk) P.length 1 (ncl P), .mx (.slice ea M.length ek) (M.map nl), .rw (.slice ya b.length yk) b.length 1 (ncl b), .mx (.slice (some ⟨xab, xao, none⟩) L.length xk) (L.map nl)] _) := Lib.hid (EL.out.elN 2 rfl rfl (i) hi)
      clear EL
      have p0 := (E4.out.fc 0 rfl).2
      go_upto_region 9 with (fail)
      have him : i < M.length := by rw [HML.out]; omega
      have himI : (i : Int) < (M.length : Int) := by omega
      have HMR : Hid (M[i].length = n + 1 ∧ ∀ x ∈ M[i], x < q) := Lib.hid (HI.out.res _ (List.getElem_mem him))
      have HPI : Hid (P[i] < n) := Lib.hid (HI.out.lt _ (List.getElem_mem hi))
      have hpi := HPI.out
      have hpiI : ((P[i] : Nat) : Int) < (n : Int) := Int.ofNat_lt.2 hpi
      obtain ⟨eab, eao, rfl⟩ := Mx.addrN (E4.out.fc 4 rfl) him
      obtain ⟨ma, mk, E50⟩ := E4.out.elMN 4 rfl (i) him
      have E5 : Hid (Env D w [(xg, 3, (ncl (partV n P M i)))] [.ce eab (eao + i) (.slice ma M[i].length mk), .rw (.slice ma M[i].length mk) M[i].length 1 (ncl M[i]), .ce pab (pao + i) (.int .i64 (P[i] : Nat)), .ce xab (xao) (.slice ua L[0].length uk), .rw (.slice ua L[0].length uk) L[0].length 1 (ncl L[0]), .rw (.slice (some ⟨pab, pao, none⟩) P.length pk) P.length 1 (ncl P), .mx (.slice (some ⟨eab, eao, none⟩) M.length ek) (M.map nl), .rw (.slice ya b.length yk) b.length 1 (ncl b), .mx (.slice (some ⟨xab, xao, none⟩) L.length xk) (L.map nl)] _) := Lib.hid E50
      clear E50 E4
      have m0 := (E5.out.fc 0 rfl).2
      have hnm : n < M[i].length := by rw [HMR.out.1]; omega
      have hnmI : (n : Int) < (M[i].length : Int) := by omega
      obtain ⟨mab, mao, rfl⟩ := Rw.addr (E5.out.fc 1 rfl) (by omega)
      have E6 : Hid (Env D w [(xg, 3, (ncl (partV n P M i)))] [.ce mab (mao + n) (.int .i64 (M[i][n] : Nat)), .ce eab (eao + i) (.slice (some ⟨mab, mao, none⟩) M[i].length mk), .rw (.slice (some ⟨mab, mao, none⟩) M[i].length mk) M[i].length 1 (ncl M[i]), .ce pab (pao + i) (.int .i64 (P[i] : Nat)), .ce xab (xao) (.slice ua L[0].length uk), .rw (.slice ua L[0].length uk) L[0].length 1 (ncl L[0]), .rw (.slice (some ⟨pab, pao, none⟩) P.length pk) P.length 1 (ncl P), .mx (.slice (some ⟨eab, eao, none⟩) M.length ek) (M.map nl), .rw (.slice ya b.length yk) b.length 1 (ncl b), .mx (.slice (some ⟨xab, xao, none⟩) L.length xk) (L.map nl)] _) := Lib.hid (E5.out.elN 1 rfl rfl (n) hnm)
      clear E5
      have v0 := (E6.out.fc 0 rfl).2
      obtain ⟨xv, hxv⟩ : ∃ v, (ncl (partV n P M i))[P[i]]? = some v := by have h := partV_len (n := n) (P := P) (M := M) i; have h2 := HPI.out; exact ⟨_, List.getElem?_eq_getElem (show P[i] < (ncl (partV n P M i)).length by rw [ncl_len, h]; omega)⟩
      have bg := E6.out.bx 0 rfl
      have c1 := bg.cell (P[i]) (hxv)
      have c2 := bg.frozen (P[i])
      clear bg
      clear hxv
      have hpst := Lib.hid (partV_step hi him hnm)
      have E7 : Hid (Env D w [(xg, 3, (((ncl (partV n P M i))).set (P[i]) (.int .i64 (M[i][n] : Nat))))] [.ce mab (mao + n) (.int .i64 (M[i][n] : Nat)), .ce eab (eao + i) (.slice (some ⟨mab, mao, none⟩) M[i].length mk), .rw (.slice (some ⟨mab, mao, none⟩) M[i].length mk) M[i].length 1 (ncl M[i]), .ce pab (pao + i) (.int .i64 (P[i] : Nat)), .ce xab (xao) (.slice ua L[0].length uk), .rw (.slice ua L[0].length uk) L[0].length 1 (ncl L[0]), .rw (.slice (some ⟨pab, pao, none⟩) P.length pk) P.length 1 (ncl P), .mx (.slice (some ⟨eab, eao, none⟩) M.length ek) (M.map nl), .rw (.slice ya b.length yk) b.length 1 (ncl b), .mx (.slice (some ⟨xab, xao, none⟩) L.length xk) (L.map nl)] _) := Lib.hid ((E6.out.set 0 (P[i]) (.int .i64 (M[i][n] : Nat)) rfl))
      have E8 : Hid (Env D w [(xg, 3, (ncl (partV n P M (i + 1))))] [.ce mab (mao + n) (.int .i64 (M[i][n] : Nat)), .ce eab (eao + i) (.slice (some ⟨mab, mao, none⟩) M[i].length mk), .rw (.slice (some ⟨mab, mao, none⟩) M[i].length mk) M[i].length 1 (ncl M[i]), .ce pab (pao + i) (.int .i64 (P[i] : Nat)), .ce xab (xao) (.slice ua L[0].length uk), .rw (.slice ua L[0].length uk) L[0].length 1 (ncl L[0]), .rw (.slice (some ⟨pab, pao, none⟩) P.length pk) P.length 1 (ncl P), .mx (.slice (some ⟨eab, eao, none⟩) M.length ek) (M.map nl), .rw (.slice ya b.length yk) b.length 1 (ncl b), .mx (.slice (some ⟨xab, xao, none⟩) L.length xk) (L.map nl)] _) := Lib.hid (by have h := E7.out; rw [hpst.out] at h; exact h)
      have EZ := Lib.hid ((((E8.out.forget).forget).forget).forget)
      go_wp2
      go_roundg (P.length - (i + 1))
      case rel => exact ⟨i + 1, rfl, EZ, Lib.hid ⟨by omega, rfl⟩⟩
      case measure => exact by omega
    have t6 : decide ((i : Int) < (P.length : Int)) = false := decide_eq_false (by omega)
    have t6n : decide (i < P.length) = false := decide_eq_false (by omega)
    have HY := Lib.hid hy
    clear hy
    go_upto_region 11 with (fail)
    have E4 : Hid (Env D w [] [.rw (.slice (some ⟨xg, 0, none⟩) n n) n 1 (ncl (partV n P M P.length)), .ce xab (xao) (.slice ua L[0].length uk), .rw (.slice ua L[0].length uk) L[0].length 1 (ncl L[0]), .rw (.slice pa P.length pk) P.length 1 (ncl P), .mx (.slice ea M.length ek) (M.map nl), .rw (.slice ya b.length yk) b.length 1 (ncl b), .mx (.slice (some ⟨xab, xao, none⟩) L.length xk) (L.map nl)] _) := Lib.hid (by have h := EL.out; rw [HY.out] at h; exact Env.freezeNn _ h (partV_len _) (by omega))
    go_wp2_with fail
    go_loopg [54, 7] (n) (fun gk s54 s7 wr => ∃ (f : Nat) (tg : List Bx) (ts : List Value) (ta : Option Addr) (tk : Nat) (hs : List Value) (O : List (List Nat)), s54 = .int .i64 (f : Int) ∧ s7 = .slice ta O.length tk ∧ Hid (Env D w tg [.gn (gRows hs O), .rw (.slice (some ⟨xg, 0, none⟩) n n) n 1 (ncl (partV n P M P.length)), .ce xab (xao) (.slice ua L[0].length uk), .rw (.slice ua L[0].length uk) L[0].length 1 (ncl L[0]), .rw (.slice pa P.length pk) P.length 1 (ncl P), .mx (.slice ea M.length ek) (M.map nl), .rw (.slice ya b.length yk) b.length 1 (ncl b), .mx (.slice (some ⟨xab, xao, none⟩) L.length xk) (L.map nl)] wr) ∧ Hid (OM tg ts (.slice ta O.length tk) hs O.length) ∧ Hid ((f ≤ n ∧ gk = n - f) ∧ O = kerL q n P M f))
    case atStart => exact ⟨0, [], [], none, 0, [], [], rfl, rfl, Lib.hid ((E4.out.note (.gn (gRows [] [])) gRows.nil).cast (by simp)), Lib.hid OM.nil, Lib.hid ⟨⟨Nat.zero_le _, rfl⟩, rfl⟩⟩
    case round =>
      clear EL E4
      obtain ⟨f, tg, ts, ta, tk, hs, O, rfl, rfl, EL, hM, HA⟩ := hrel
      obtain ⟨⟨b1, b2⟩, b3⟩ := HA.out
      have HPO := Lib.hid b3
      clear b3 HA
      have hol : O.length ≤ 30 := by rw [HPO.out]; exact Nat.le_trans (kerL_len_le _) (by omega)
      by_cases hy : f = n
      · skip
        have t7 : decide ((f : Int) < (n : Int)) = false := decide_eq_false (by omega)
        have t7n : decide (f < n) = false := decide_eq_false (by omega)
        have HD : Hid (O = kerL q n P M n) := Lib.hid (by rw [HPO.out, hy])
        clear hy
        have hbel := Lib.hid EL.out.bel
        go_wp2
        refine bodyPost_ret (results_tmp3 rfl _ _ _) rfl ?_
        have EF := Env.freezeOM (A := []) (sg := tg) (B := []) (EL.out.cast (by first | rfl | simp)) hM.out 0 rfl
        have h1 : Fct.at _ _ _ := EF.out 0 rfl
        have h2 : Fct.at _ _ _ := EF.out 2 rfl
        rw [HD.out] at h1
        have hpl := partV_len (n := n) (P := P) (M := M) P.length
        refine ⟨⟨some ⟨xg, 0, none⟩, n, ta, tk, by rw [hpl, ← HD.out]; rfl, Lib.hid (by rw [hpl]; exact h2), Lib.hid h1⟩, hbel.out⟩
      have hf : f < n := by omega
      have t7 : decide ((f : Int) < (n : Int)) = true := decide_eq_true (by omega)
      have t7n : decide (f < n) = true := decide_eq_true (by omega)
      have hfI : (f : Int) < (n : Int) := by omega
      clear hy
      go_upto_region 14 with (fail)
      obtain ⟨pc, hpc⟩ : ∃ t, P.contains f = t := ⟨_, rfl⟩
      have HPC := Lib.hid hpc
      clear hpc
      cases pc with
      | true =>
        go_wp2_with fail
        refine (containsN_c (l := P) (x := f) (EL.out.fc 4 rfl) (by omega) (t := true) HPC.out).mono ?_
        rintro e w3 ⟨rfl, hb⟩
        have E5 : Hid (Env D w tg [.gn (gRows hs O), .rw (.slice (some ⟨xg, 0, none⟩) n n) n 1 (ncl (partV n P M P.length)), .ce xab (xao) (.slice ua L[0].length uk), .rw (.slice ua L[0].length uk) L[0].length 1 (ncl L[0]), .rw (.slice pa P.length pk) P.length 1 (ncl P), .mx (.slice ea M.length ek) (M.map nl), .rw (.slice ya b.length yk) b.length 1 (ncl b), .mx (.slice (some ⟨xab, xao, none⟩) L.length xk) (L.map nl)] w3) := Lib.hid (EL.out.below hb)
        clear EL hb
        have EZ := Lib.hid (E5.out)
        go_wp2
        go_roundg (n - (f + 1))
        case rel => exact ⟨f + 1, tg, ts, ta, tk, hs, O, rfl, rfl, EZ, hM, Lib.hid ⟨⟨by omega, rfl⟩, by rw [kerL_skip HPC.out]; exact HPO.out⟩⟩
        case measure => exact by omega
      | false =>
        go_wp2_with fail
        refine (containsN_c (l := P) (x := f) (EL.out.fc 4 rfl) (by omega) (t := false) HPC.out).mono ?_
        rintro e w3 ⟨rfl, hb⟩
        have E5 : Hid (Env D w tg [.gn (gRows hs O), .rw (.slice (some ⟨xg, 0, none⟩) n n) n 1 (ncl (partV n P M P.length)), .ce xab (xao) (.slice ua L[0].length uk), .rw (.slice ua L[0].length uk) L[0].length 1 (ncl L[0]), .rw (.slice pa P.length pk) P.length 1 (ncl P), .mx (.slice ea M.length ek) (M.map nl), .rw (.slice ya b.length yk) b.length 1 (ncl b), .mx (.slice (some ⟨xab, xao, none⟩) L.length xk) (L.map nl)] w3) := Lib.hid (EL.out.below hb)
        clear EL hb
        go_upto_region 15 with (fail)
        go_wp2_with (at_make; refine wpl_makeI rfl _ _ rfl E5.out n rfl rfl (by omega) ?_)
        intro w4 vg vgE
        have E6 : Hid (Env D w ((vg, 3, (ncl (List.replicate n 0))) :: tg) [.gn (gRows hs O), .rw (.slice (some ⟨xg, 0, none⟩) n n) n 1 (ncl (partV n P M P.length)), .ce xab (xao) (.slice ua L[0].length uk), .rw (.slice ua L[0].length uk) L[0].length 1 (ncl L[0]), .rw (.slice pa P.length pk) P.length 1 (ncl P), .mx (.slice ea M.length ek) (M.map nl), .rw (.slice ya b.length yk) b.length 1 (ncl b), .mx (.slice (some ⟨xab, xao, none⟩) L.length xk) (L.map nl)] w4) := Lib.hid (by have h := vgE.out; rw [ncl_rep] at h; exact h)
        clear E5 vgE
        obtain ⟨xv, hxv⟩ : ∃ v, (ncl (List.replicate n 0))[f]? = some v := ⟨_, List.getElem?_eq_getElem (by rw [ncl_len, List.length_replicate]; omega)⟩
        have bg := E6.out.bx 0 rfl
        have c1 := bg.cell (f) (hxv)
        have c2 := bg.frozen (f)
        clear bg
        clear hxv
        have hk0 : Hid ((ncl (List.replicate n 0)).set f (.int .i64 ((1 : Nat) : Int)) = ncl (kerV q n P M f 0)) := Lib.hid (ncl_set _ _ _)
        have E7 : Hid (Env D w ((vg, 3, (((ncl (List.replicate n 0))).set (f) (.int .i64 1))) :: tg) [.gn (gRows hs O), .rw (.slice (some ⟨xg, 0, none⟩) n n) n 1 (ncl (partV n P M P.length)), .ce xab (xao) (.slice ua L[0].length uk), .rw (.slice ua L[0].length uk) L[0].length 1 (ncl L[0]), .rw (.slice pa P.length pk) P.length 1 (ncl P), .mx (.slice ea M.length ek) (M.map nl), .rw (.slice ya b.length yk) b.length 1 (ncl b), .mx (.slice (some ⟨xab, xao, none⟩) L.length xk) (L.map nl)] _) := Lib.hid ((E6.out.set 0 f (.int .i64 1) rfl))
        have E8 : Hid (Env D w ((vg, 3, (ncl (kerV q n P M f 0))) :: tg) [.gn (gRows hs O), .rw (.slice (some ⟨xg, 0, none⟩) n n) n 1 (ncl (partV n P M P.length)), .ce xab (xao) (.slice ua L[0].length uk), .rw (.slice ua L[0].length uk) L[0].length 1 (ncl L[0]), .rw (.slice pa P.length pk) P.length 1 (ncl P), .mx (.slice ea M.length ek) (M.map nl), .rw (.slice ya b.length yk) b.length 1 (ncl b), .mx (.slice (some ⟨xab, xao, none⟩) L.length xk) (L.map nl)] _) := Lib.hid (by have h := E7.out; rw [show (ncl (List.replicate n 0)).set f (.int .i64 1) = ncl (kerV q n P M f 0) from hk0.out] at h; exact h)
        go_wp2_with fail
        clear t7 t7n
        rename World => wo
        go_loopg [67] (P.length) (fun gk s67 wr => ∃ (i : Nat), s67 = .int .i64 (i : Int) ∧ Hid (Env D w ((vg, 3, (ncl (kerV q n P M f i))) :: tg) [.gn (gRows hs O), .rw (.slice (some ⟨xg, 0, none⟩) n n) n 1 (ncl (partV n P M P.length)), .ce xab (xao) (.slice ua L[0].length uk), .rw (.slice ua L[0].length uk) L[0].length 1 (ncl L[0]), .rw (.slice pa P.length pk) P.length 1 (ncl P), .mx (.slice ea M.length ek) (M.map nl), .rw (.slice ya b.length yk) b.length 1 (ncl b), .mx (.slice (some ⟨xab, xao, none⟩) L.length xk) (L.map nl)] wr) ∧ Hid (i ≤ P.length ∧ gk = P.length - i))
        case atStart => exact ⟨0, rfl, Lib.hid E8.out, Lib.hid ⟨Nat.zero_le _, rfl⟩⟩
        case round =>
          clear c1 c2 E6 E7 E8
          obtain ⟨i, rfl, EL, HA⟩ := hrel
          obtain ⟨c1, c2⟩ := HA.out
          clear HA
          by_cases hy : i = P.length
          rotate_left
          · have hi : i < P.length := by omega
            have t8 : decide ((i : Int) < (P.length : Int)) = true := decide_eq_true (by omega)
            have t8n : decide (i < P.length) = true := decide_eq_true (by omega)
            have hiI : (i : Int) < (P.length : Int) := by omega
            clear hy
            go_upto_region 19 with (fail)
            obtain ⟨pab, pao, rfl⟩ := Rw.addr (EL.out.fc 4 rfl) (by omega)
            have E9 : Hid (Env D w ((vg, 3, (ncl (kerV q n P M f i))) :: tg) [.ce pab (pao + i) (.int .i64 (P[i] : Nat)), .gn (gRows hs O), .rw (.slice (some ⟨xg, 0, none⟩) n n) n 1 (ncl (partV n P M P.length)), .ce xab (xao) (.slice ua L[0].length uk), .rw (.slice ua L[0].length uk) L[0].length 1 (ncl L[0]), .rw (.slice (some ⟨pab, pao, none⟩) P.length pk) P.length 1 (ncl P), .mx (.slice ea M.length ek) (M.map nl), .rw (.slice ya b.length yk) b.length 1 (ncl b), .mx (.slice (some ⟨xab, xao, none⟩) L.length xk) (L.map nl)] _) := Lib.hid (EL.out.elN 4 rfl rfl (i) hi)
            clear EL
            have p0 := (E9.out.fc 0 rfl).2
            go_upto_region 20 with (fail)
            have him : i < M.length := by rw [HML.out]; omega
            have himI : (i : Int) < (M.length : Int) := by omega
            have HMR : Hid (M[i].length = n + 1 ∧ ∀ x ∈ M[i], x < q) := Lib.hid (HI.out.res _ (List.getElem_mem him))
            have HPI : Hid (P[i] < n) := Lib.hid (HI.out.lt _ (List.getElem_mem hi))
            have hpi := HPI.out
            have hpiI : ((P[i] : Nat) : Int) < (n : Int) := Int.ofNat_lt.2 hpi
            obtain ⟨eab, eao, rfl⟩ := Mx.addrN (E9.out.fc 6 rfl) him
            obtain ⟨ma, mk, E100⟩ := E9.out.elMN 6 rfl (i) him
            have E10 : Hid (Env D w ((vg, 3, (ncl (kerV q n P M f i))) :: tg) [.ce eab (eao + i) (.slice ma M[i].length mk), .rw (.slice ma M[i].length mk) M[i].length 1 (ncl M[i]), .ce pab (pao + i) (.int .i64 (P[i] : Nat)), .gn (gRows hs O), .rw (.slice (some ⟨xg, 0, none⟩) n n) n 1 (ncl (partV n P M P.length)), .ce xab (xao) (.slice ua L[0].length uk), .rw (.slice ua L[0].length uk) L[0].length 1 (ncl L[0]), .rw (.slice (some ⟨pab, pao, none⟩) P.length pk) P.length 1 (ncl P), .mx (.slice (some ⟨eab, eao, none⟩) M.length ek) (M.map nl), .rw (.slice ya b.length yk) b.length 1 (ncl b), .mx (.slice (some ⟨xab, xao, none⟩) L.length xk) (L.map nl)] _) := Lib.hid E100
            clear E100 E9
            have m0 := (E10.out.fc 0 rfl).2
            have hfm : f < M[i].length := by rw [HMR.out.1]; omega
            have hfmI : (f : Int) < (M[i].length : Int) := by omega
            obtain ⟨mab, mao, rfl⟩ := Rw.addr (E10.out.fc 1 rfl) (by omega)
            have E11 : Hid (Env D w ((vg, 3, (ncl (kerV q n P M f i))) :: tg) [.ce mab (mao + f) (.int .i64 (M[i][f] : Nat)), .ce eab (eao + i) (.slice (some ⟨mab, mao, none⟩) M[i].length mk), .rw (.slice (some ⟨mab, mao, none⟩) M[i].length mk) M[i].length 1 (ncl M[i]), .ce pab (pao + i) (.int .i64 (P[i] : Nat)), .gn (gRows hs O), .rw (.slice (some ⟨xg, 0, none⟩) n n) n 1 (ncl (partV n P M P.length)), .ce xab (xao) (.slice ua L[0].length uk), .rw (.slice ua L[0].length uk) L[0].length 1 (ncl L[0]), .rw (.slice (some ⟨pab, pao, none⟩) P.length pk) P.length 1 (ncl P), .mx (.slice (some ⟨eab, eao, none⟩) M.length ek) (M.map nl), .rw (.slice ya b.length yk) b.length 1 (ncl b), .mx (.slice (some ⟨xab, xao, none⟩) L.length xk) (L.map nl)] _) := Lib.hid (E10.out.elN 1 rfl rfl (f) hfm)
            clear E10
            have v0 := (E11.out.fc 0 rfl).2
            have hmq : ((M[i][f] : Nat) : Int) < (q : Int) := Int.ofNat_lt.2 (HMR.out.2 _ (List.getElem_mem hfm))
            go_wp2_with fail
            refine (matminus_c q M[i][f] _ hmq hv.out.qT).mono ?_
            rintro e w5 ⟨⟨r, rh, rfl⟩, hb⟩
            have E12 : Hid (Env D w ((vg, 3, (ncl (kerV q n P M f i))) :: tg) [.ce mab (mao + f) (.int .i64 (M[i][f] : Nat)), .ce eab (eao + i) (.slice (some ⟨mab, mao, none⟩) M[i].length mk), .rw (.slice (some ⟨mab, mao, none⟩) M[i].length mk) M[i].length 1 (ncl M[i]), .ce pab (pao + i) (.int .i64 (P[i] : Nat)), .gn (gRows hs O), .rw (.slice (some ⟨xg, 0, none⟩) n n) n 1 (ncl (partV n P M P.length)), .ce xab (xao) (.slice ua L[0].length uk), .rw (.slice ua L[0].length uk) L[0].length 1 (ncl L[0]), .rw (.slice (some ⟨pab, pao, none⟩) P.length pk) P.length 1 (ncl P), .mx (.slice (some ⟨eab, eao, none⟩) M.length ek) (M.map nl), .rw (.slice ya b.length yk) b.length 1 (ncl b), .mx (.slice (some ⟨xab, xao, none⟩) L.length xk) (L.map nl)] w5) := Lib.hid (E11.out.below hb)
            clear p0 m0 v0 E11 hb
            obtain ⟨xv, hxv⟩ : ∃ v, (ncl (kerV q n P M f i))[P[i]]? = some v := by have h := kerV_len (q := q) (n := n) (P := P) (M := M) (f := f) i; have h2 := HPI.out; exact ⟨_, List.getElem?_eq_getElem (show P[i] < (ncl (kerV q n P M f i)).length by rw [ncl_len, h]; omega)⟩
            have bg := E12.out.bx 0 rfl
            have c1 := bg.cell (P[i]) (hxv)
            have c2 := bg.frozen (P[i])
            clear bg
            clear hxv
            have hpst := Lib.hid (kerV_step (q := q) (n := n) hi him hfm rh.out)
            have E13 : Hid (Env D w ((vg, 3, (((ncl (kerV q n P M f i))).set (P[i]) (.int .i64 (r : Nat)))) :: tg) [.ce mab (mao + f) (.int .i64 (M[i][f] : Nat)), .ce eab (eao + i) (.slice (some ⟨mab, mao, none⟩) M[i].length mk), .rw (.slice (some ⟨mab, mao, none⟩) M[i].length mk) M[i].length 1 (ncl M[i]), .ce pab (pao + i) (.int .i64 (P[i] : Nat)), .gn (gRows hs O), .rw (.slice (some ⟨xg, 0, none⟩) n n) n 1 (ncl (partV n P M P.length)), .ce xab (xao) (.slice ua L[0].length uk), .rw (.slice ua L[0].length uk) L[0].length 1 (ncl L[0]), .rw (.slice (some ⟨pab, pao, none⟩) P.length pk) P.length 1 (ncl P), .mx (.slice (some ⟨eab, eao, none⟩) M.length ek) (M.map nl), .rw (.slice ya b.length yk) b.length 1 (ncl b), .mx (.slice (some ⟨xab, xao, none⟩) L.length xk) (L.map nl)] _) := Lib.hid ((E12.out.set 0 (P[i]) (.int .i64 (r : Nat)) rfl))
            have E14 : Hid (Env D w ((vg, 3, (ncl (kerV q n P M f (i + 1)))) :: tg) [.ce mab (mao + f) (.int .i64 (M[i][f] : Nat)), .ce eab (eao + i) (.slice (some ⟨mab, mao, none⟩) M[i].length mk), .rw (.slice (some ⟨mab, mao, none⟩) M[i].length mk) M[i].length 1 (ncl M[i]), .ce pab (pao + i) (.int .i64 (P[i] : Nat)), .gn (gRows hs O), .rw (.slice (some ⟨xg, 0, none⟩) n n) n 1 (ncl (partV n P M P.length)), .ce xab (xao) (.slice ua L[0].length uk), .rw (.slice ua L[0].length uk) L[0].length 1 (ncl L[0]), .rw (.slice (some ⟨pab, pao, none⟩) P.length pk) P.length 1 (ncl P), .mx (.slice (some ⟨eab, eao, none⟩) M.length ek) (M.map nl), .rw (.slice ya b.length yk) b.length 1 (ncl b), .mx (.slice (some ⟨xab, xao, none⟩) L.length xk) (L.map nl)] _) := Lib.hid (by have h := E13.out; rw [hpst.out] at h; exact h)
            have EZ := Lib.hid ((((E14.out.forget).forget).forget).forget)
            go_wp2
            go_roundg (P.length - (i + 1))
            case rel => exact ⟨i + 1, rfl, EZ, Lib.hid ⟨by omega, rfl⟩⟩
            case measure => exact by omega
          have t8 : decide ((i : Int) < (P.length : Int)) = false := decide_eq_false (by omega)
          have t8n : decide (i < P.length) = false := decide_eq_false (by omega)
          have HY2 := Lib.hid hy
          clear hy
          go_upto_region 22 with (fail)
          have E9 : Hid (Env D w tg [.rw (.slice (some ⟨vg, 0, none⟩) n n) n 1 (ncl (kerV q n P M f P.length)), .gn (gRows hs O), .rw (.slice (some ⟨xg, 0, none⟩) n n) n 1 (ncl (partV n P M P.length)), .ce xab (xao) (.slice ua L[0].length uk), .rw (.slice ua L[0].length uk) L[0].length 1 (ncl L[0]), .rw (.slice pa P.length pk) P.length 1 (ncl P), .mx (.slice ea M.length ek) (M.map nl), .rw (.slice ya b.length yk) b.length 1 (ncl b), .mx (.slice (some ⟨xab, xao, none⟩) L.length xk) (L.map nl)] _) := Lib.hid (by have h := EL.out; rw [HY2.out] at h; exact Env.freezeNn _ h (kerV_len _) (by omega))
          obtain ⟨kv, hkv⟩ : ∃ v, kerV q n P M f P.length = v := ⟨_, rfl⟩
          have HKV := Lib.hid hkv
          have HKL : Hid (kv.length = n) := Lib.hid (by rw [← hkv]; exact kerV_len _)
          clear hkv
          have E10 : Hid (Env D w tg [.rw (.slice (some ⟨vg, 0, none⟩) kv.length n) kv.length 1 (ncl kv), .gn (gRows hs O), .rw (.slice (some ⟨xg, 0, none⟩) n n) n 1 (ncl (partV n P M P.length)), .ce xab (xao) (.slice ua L[0].length uk), .rw (.slice ua L[0].length uk) L[0].length 1 (ncl L[0]), .rw (.slice pa P.length pk) P.length 1 (ncl P), .mx (.slice ea M.length ek) (M.map nl), .rw (.slice ya b.length yk) b.length 1 (ncl b), .mx (.slice (some ⟨xab, xao, none⟩) L.length xk) (L.map nl)] _) := Lib.hid (by rw [HKL.out]; have h := E9.out; rw [HKV.out] at h; exact h)
          have E11 : Hid (Env D w ((wr.heap.size, 22, [.slice (some ⟨vg, 0, none⟩) n n]) :: tg) [.rw (.slice (some ⟨vg, 0, none⟩) kv.length n) kv.length 1 (ncl kv), .gn (gRows hs O), .rw (.slice (some ⟨xg, 0, none⟩) n n) n 1 (ncl (partV n P M P.length)), .ce xab (xao) (.slice ua L[0].length uk), .rw (.slice ua L[0].length uk) L[0].length 1 (ncl L[0]), .rw (.slice pa P.length pk) P.length 1 (ncl P), .mx (.slice ea M.length ek) (M.map nl), .rw (.slice ya b.length yk) b.length 1 (ncl b), .mx (.slice (some ⟨xab, xao, none⟩) L.length xk) (L.map nl)] _) := Lib.hid ((E10.out.push 22 [.slice (some ⟨vg, 0, none⟩) n n] (wr.heap.size) (by simp)))
          go_wp2_with (at_builtin; refine wpl_app1 (c := 1) tiR rfl _ _ rfl E11.out (A := [(wr.heap.size, 22, [.slice (some ⟨vg, 0, none⟩) n n])]) (sg := tg) (B' := []) (by simp) hM.out.1 rfl rfl (SrcN.one (E11.out.bx 0 rfl) rfl) (by omega) ?_)
          intro yg yp yc w5 yH yT yE
          have yM := Lib.hid (OM.app (x := Value.slice (some ⟨vg, 0, none⟩) n n) (g' := yg) hM.out (by simpa using yH.out) (by simpa using yT.out))
          have E12 : Hid (Env D w ((wr.heap.size, 22, [.slice (some ⟨vg, 0, none⟩) n n]) :: [(yg, 22, yc)]) [.gn (gRows (hs ++ [Value.slice (some ⟨vg, 0, none⟩) n n]) (O ++ [kv])), .rw (.slice (some ⟨vg, 0, none⟩) kv.length n) kv.length 1 (ncl kv), .gn (gRows hs O), .rw (.slice (some ⟨xg, 0, none⟩) n n) n 1 (ncl (partV n P M P.length)), .ce xab (xao) (.slice ua L[0].length uk), .rw (.slice ua L[0].length uk) L[0].length 1 (ncl L[0]), .rw (.slice pa P.length pk) P.length 1 (ncl P), .mx (.slice ea M.length ek) (M.map nl), .rw (.slice ya b.length yk) b.length 1 (ncl b), .mx (.slice (some ⟨xab, xao, none⟩) L.length xk) (L.map nl)] w5) := Lib.hid ((yE.out.note (.gn (gRows (hs ++ [Value.slice (some ⟨vg, 0, none⟩) n n]) (O ++ [kv]))) (by have h := gRows.app (yE.out.fc 1 rfl) (yE.out.fc 0 rfl); rw [HKL.out] at h; exact h)).cast (by first | rfl | simp))
          clear EL E9 E10 E11 yE yH yT
          have hZ := E12.out.drop
          have EZ : Hid (Env D w _ [.gn (gRows (hs ++ [Value.slice (some ⟨vg, 0, none⟩) n n]) (O ++ [kv])), .rw (.slice (some ⟨xg, 0, none⟩) n n) n 1 (ncl (partV n P M P.length)), .ce xab (xao) (.slice ua L[0].length uk), .rw (.slice ua L[0].length uk) L[0].length 1 (ncl L[0]), .rw (.slice pa P.length pk) P.length 1 (ncl P), .mx (.slice ea M.length ek) (M.map nl), .rw (.slice ya b.length yk) b.length 1 (ncl b), .mx (.slice (some ⟨xab, xao, none⟩) L.length xk) (L.map nl)] _) := Lib.hid ⟨hZ.bel, hZ.box, ⟨hZ.fc 0 rfl, ⟨hZ.fc 3 rfl, ⟨hZ.fc 4 rfl, ⟨hZ.fc 5 rfl, ⟨hZ.fc 6 rfl, ⟨hZ.fc 7 rfl, ⟨hZ.fc 8 rfl, ⟨hZ.fc 9 rfl, trivial⟩⟩⟩⟩⟩⟩⟩⟩⟩
          clear hZ
          go_wp2
          go_roundg (n - (f + 1))
          case rel => exact ⟨f + 1, [(yg, 22, yc)], yc, some ⟨yg, 0, none⟩, yp, _, O ++ [kv], rfl, by simp, Lib.hid (EZ.out.cast (by simp)), Lib.hid (by rw [List.length_append, List.length_singleton]; exact yM.out), Lib.hid ⟨⟨by omega, rfl⟩, by rw [kerL_add HPC.out, HPO.out, HKV.out]⟩⟩
          case measure => exact by omega
/-- q to the k-th, while it is at most the largest word -/
def cntL (q : Nat) : Nat → Option Nat
  | 0 => some 1
  | k + 1 => match cntL q k with
    | none => none
    | some v => if v > 2305843009213693951 / q then none else some (v * q)
theorem cntL_none {q k : Nat} (h : cntL q k = none) : ∀ d, cntL q (k + d) = none
  | 0 => h
  | d + 1 => by rw [← Nat.add_assoc, cntL, cntL_none h d]
theorem cntL_up {q k v : Nat} (h : cntL q k = some v) (hb : ¬ v > 2305843009213693951 / q) : cntL q (k + 1) = some (v * q) := by rw [cntL, h]; simp only; rw [if_neg hb]
theorem cntL_big {q k m v : Nat} (h : cntL q k = some v) (hb : v > 2305843009213693951 / q) (hk : k < m) : cntL q m = none := by
  have h1 : cntL q (k + 1) = none := by rw [cntL, h]; simp only; rw [if_pos hb]
  have := cntL_none h1 (m - (k + 1))
  rwa [show k + 1 + (m - (k + 1)) = m from by omega] at this
def cntV : Option Nat → Value
  | some v => .tuple #[.int .i64 (v : Nat), .int .i64 0]
  | none => .tuple #[.int .i64 0, .int .i64 9]
set_option maxRecDepth 100000 in
set_option maxHeartbeats 1000000 in
theorem Count_no {D : Nat → Prop} (q : Int) (M : List (List Int)) (b : List Int) {xa ya : Option Addr} {xk yk : Nat} {w : World} (hx : Fct.at w D (.mx (.slice xa M.length xk) M)) (hy : Fct.at w D (.rw (.slice ya b.length yk) b.length 1 (icl b))) (hl0 : Laid w) (hn : -9223372036854775808 ≤ q ∧ q ≤ 9223372036854775807) (hv0 : mvB q M = false) :
    Calls Tryd.prog 46 #[.int .i64 q, .slice xa M.length xk, .slice ya b.length yk] w fun e w' => e = .returned (.tuple #[.int .i64 0, .int .i64 1]) ∧ Below w.heap.size w w' := by
  have E0 : Hid (Env D w [] [.rw (.slice ya b.length yk) b.length 1 (icl b), .mx (.slice xa M.length xk) M] w) := Lib.hid (((Env.start D w).arg (.mx (.slice xa M.length xk) M) hx).arg (.rw (.slice ya b.length yk) b.length 1 (icl b)) hy)
  clear hx hy
  go_enter Tryd.func46, Tryd.ntmps46
  have hl := Lib.hid hl0
  have hv := Lib.hid hv0
  clear hl0 hv0
  go_wp2_with fail
  refine (sys_no q M b (E0.out.fc 1 rfl) (E0.out.fc 0 rfl) (hl.out.below E0.out.bel) hn hv.out).mono ?_
  rintro e w1 ⟨rfl, hb⟩
  have E1 : Hid (Env D w [] [.rw (.slice ya b.length yk) b.length 1 (icl b), .mx (.slice xa M.length xk) M] w1) := Lib.hid (E0.out.below hb)
  clear E0 hb
  have hfin := Lib.hid E1.out.bel
  go_wp2
  go_ret2
  exact ⟨rfl, hfin.out⟩
set_option maxRecDepth 100000 in
set_option maxHeartbeats 1000000 in
theorem Count_len {D : Nat → Prop} (q n : Nat) (L : List (List Nat)) (b : List Int) {xa ya : Option Addr} {xk yk : Nat} {w : World} (hx : Fct.at w D (.mx (.slice xa L.length xk) (L.map nl))) (hy : Fct.at w D (.rw (.slice ya b.length yk) b.length 1 (icl b))) (hl0 : Laid w) (hv0 : MvI q n L) (hne : ¬ b.length = L.length) :
    Calls Tryd.prog 46 #[.int .i64 (q : Nat), .slice xa L.length xk, .slice ya b.length yk] w fun e w' => e = .returned (.tuple #[.int .i64 0, .int .i64 1]) ∧ Below w.heap.size w w' := by
  have E0 : Hid (Env D w [] [.rw (.slice ya b.length yk) b.length 1 (icl b), .mx (.slice xa L.length xk) (L.map nl)] w) := Lib.hid (((Env.start D w).arg (.mx (.slice xa L.length xk) (L.map nl)) hx).arg (.rw (.slice ya b.length yk) b.length 1 (icl b)) hy)
  clear hx hy
  go_enter Tryd.func46, Tryd.ntmps46
  have hl := Lib.hid hl0
  have hv := Lib.hid hv0
  clear hl0 hv0
  have HNE := Lib.hid hne
  clear hne
  go_wp2_with fail
  refine (sys_len q n L b (E0.out.fc 1 rfl) (E0.out.fc 0 rfl) (hl.out.below E0.out.bel) hv.out HNE.out).mono ?_
  rintro e w1 ⟨rfl, hb⟩
  have E1 : Hid (Env D w [] [.rw (.slice ya b.length yk) b.length 1 (icl b), .mx (.slice xa L.length xk) (L.map nl)] w1) := Lib.hid (E0.out.below hb)
  clear E0 hb
  have hfin := Lib.hid E1.out.bel
  go_wp2
  go_ret2
  exact ⟨rfl, hfin.out⟩
set_option maxRecDepth 100000 in
set_option maxHeartbeats 1000000 in
theorem Count_rng {D : Nat → Prop} (q n : Nat) (L : List (List Nat)) (b : List Int) {xa ya : Option Addr} {xk yk : Nat} {w : World} (hx : Fct.at w D (.mx (.slice xa L.length xk) (L.map nl))) (hy : Fct.at w D (.rw (.slice ya b.length yk) b.length 1 (icl b))) (hl0 : Laid w) (hv0 : MvI q n L) (hne : b.length = L.length) (hs0 : b.all (resB (q : Int)) = false) :
    Calls Tryd.prog 46 #[.int .i64 (q : Nat), .slice xa L.length xk, .slice ya b.length yk] w fun e w' => e = .returned (.tuple #[.int .i64 0, .int .i64 2]) ∧ Below w.heap.size w w' := by
  have E0 : Hid (Env D w [] [.rw (.slice ya b.length yk) b.length 1 (icl b), .mx (.slice xa L.length xk) (L.map nl)] w) := Lib.hid (((Env.start D w).arg (.mx (.slice xa L.length xk) (L.map nl)) hx).arg (.rw (.slice ya b.length yk) b.length 1 (icl b)) hy)
  clear hx hy
  go_enter Tryd.func46, Tryd.ntmps46
  have hl := Lib.hid hl0
  have hv := Lib.hid hv0
  have hs := Lib.hid hs0
  clear hl0 hv0 hs0
  have HNE := Lib.hid hne
  clear hne
  go_wp2_with fail
  refine (sys_rng q n L b (E0.out.fc 1 rfl) (E0.out.fc 0 rfl) (hl.out.below E0.out.bel) hv.out HNE.out hs.out).mono ?_
  rintro e w1 ⟨rfl, hb⟩
  have E1 : Hid (Env D w [] [.rw (.slice ya b.length yk) b.length 1 (icl b), .mx (.slice xa L.length xk) (L.map nl)] w1) := Lib.hid (E0.out.below hb)
  clear E0 hb
  have hfin := Lib.hid E1.out.bel
  go_wp2
  go_ret2
  exact ⟨rfl, hfin.out⟩
set_option maxRecDepth 100000 in
set_option maxHeartbeats 8000000 in
theorem Count_t {D : Nat → Prop} (q n : Nat) (L M : List (List Nat)) (b P : List Nat) {xa ya : Option Addr} {xk yk : Nat} {w : World} (hx : Fct.at w D (.mx (.slice xa L.length xk) (L.map nl))) (hy : Fct.at w D (.rw (.slice ya b.length yk) b.length 1 (ncl b))) (hl0 : Laid w) (hv0 : MvI q n L) (hne0 : b.length = L.length) (hs0 : ∀ c ∈ b, c < q) (hR0 : redN q (sysL L b) n = (M, P)) (ht0 : noneB n (M, P) = true) :
    Calls Tryd.prog 46 #[.int .i64 (q : Nat), .slice xa L.length xk, .slice ya b.length yk] w fun e w' => e = .returned (.tuple #[.int .i64 0, .int .i64 0]) ∧ Below w.heap.size w w' := by
  have E0 : Hid (Env D w [] [.rw (.slice ya b.length yk) b.length 1 (ncl b), .mx (.slice xa L.length xk) (L.map nl)] w) := Lib.hid (((Env.start D w).arg (.mx (.slice xa L.length xk) (L.map nl)) hx).arg (.rw (.slice ya b.length yk) b.length 1 (ncl b)) hy)
  clear hx hy
  go_enter Tryd.func46, Tryd.ntmps46
  have hl := Lib.hid hl0
  have hv := Lib.hid hv0
  have hne := Lib.hid hne0
  have hs := Lib.hid hs0
  have hR := Lib.hid hR0
  have ht := Lib.hid ht0
  clear hl0 hv0 hne0 hs0 hR0 ht0
  have HI := Lib.hid (SysI.of hv.out hne.out hs.out hR.out)
  have m30 := hv.out.m30
  have n30 := hv.out.n30
  have hz : 0 < L.length := hv.out.m1
  have hzI : (0 : Int) < (L.length : Int) := by omega
  have HL0 : Hid (L[0].length = n) := Lib.hid (hv.out.res _ (List.getElem_mem hz)).1
  have hpm : P.length ≤ L.length := HI.out.few
  have hpn : P.length ≤ n := HI.out.fewn
  have HML : Hid (M.length = L.length) := Lib.hid HI.out.len
  go_wp2_with fail
  refine (sys_t (E0.out.fc 1 rfl) (E0.out.fc 0 rfl) (hl.out.below E0.out.bel) hv.out hne.out hs.out hR.out ht.out).mono ?_
  rintro e w1 ⟨rfl, hb⟩
  have E1 : Hid (Env D w [] [.rw (.slice ya b.length yk) b.length 1 (ncl b), .mx (.slice xa L.length xk) (L.map nl)] w1) := Lib.hid (E0.out.below hb)
  clear E0 hb
  have hfin := Lib.hid E1.out.bel
  go_wp2
  go_ret2
  exact ⟨rfl, hfin.out⟩
set_option maxRecDepth 100000 in
set_option maxHeartbeats 2000000 in
theorem Count_f {D : Nat → Prop} (q n : Nat) (L M : List (List Nat)) (b P : List Nat) {xa ya : Option Addr} {xk yk : Nat} {w : World} (hx : Fct.at w D (.mx (.slice xa L.length xk) (L.map nl))) (hy : Fct.at w D (.rw (.slice ya b.length yk) b.length 1 (ncl b))) (hl0 : Laid w) (hv0 : MvI q n L) (hne0 : b.length = L.length) (hs0 : ∀ c ∈ b, c < q) (hR0 : redN q (sysL L b) n = (M, P)) (ht0 : noneB n (M, P) = false) :
    Calls Tryd.prog 46 #[.int .i64 (q : Nat), .slice xa L.length xk, .slice ya b.length yk] w fun e w' => e = .returned (cntV (cntL q (n - P.length))) ∧ Below w.heap.size w w' := by
  have E0 : Hid (Env D w [] [.rw (.slice ya b.length yk) b.length 1 (ncl b), .mx (.slice xa L.length xk) (L.map nl)] w) := Lib.hid (((Env.start D w).arg (.mx (.slice xa L.length xk) (L.map nl)) hx).arg (.rw (.slice ya b.length yk) b.length 1 (ncl b)) hy)
  clear hx hy
  go_enter Tryd.func46, Tryd.ntmps46
  have hl := Lib.hid hl0
  have hv := Lib.hid hv0
  have hne := Lib.hid hne0
  have hs := Lib.hid hs0
  have hR := Lib.hid hR0
  have ht := Lib.hid ht0
  clear hl0 hv0 hne0 hs0 hR0 ht0
  have HI := Lib.hid (SysI.of hv.out hne.out hs.out hR.out)
  have m30 := hv.out.m30
  have n30 := hv.out.n30
  have hz : 0 < L.length := hv.out.m1
  have hzI : (0 : Int) < (L.length : Int) := by omega
  have HL0 : Hid (L[0].length = n) := Lib.hid (hv.out.res _ (List.getElem_mem hz)).1
  have hpm : P.length ≤ L.length := HI.out.few
  have hpn : P.length ≤ n := HI.out.fewn
  have HML : Hid (M.length = L.length) := Lib.hid HI.out.len
  go_wp2_with fail
  refine (sys_f (E0.out.fc 1 rfl) (E0.out.fc 0 rfl) (hl.out.below E0.out.bel) hv.out hne.out hs.out hR.out ht.out).mono ?_
  rintro e w1 ⟨⟨ea, ek, pa, pk, rfl, gH, pH⟩, hb⟩
  have E1 : Hid (Env D w [] [.rw (.slice pa P.length pk) P.length 1 (ncl P), .mx (.slice ea M.length ek) (M.map nl), .rw (.slice ya b.length yk) b.length 1 (ncl b), .mx (.slice xa L.length xk) (L.map nl)] w1) := Lib.hid (E0.out.got (E0.out.got (E0.out.below hb) (.mx (.slice ea M.length ek) (M.map nl)) gH.out) (.rw (.slice pa P.length pk) P.length 1 (ncl P)) pH.out)
  clear E0 hb gH pH
  go_upto_region 8 with (fail)
  obtain ⟨xab, xao, rfl⟩ := Mx.addrN (E1.out.fc 3 rfl) hz
  obtain ⟨ua, uk, E20⟩ := E1.out.elMN 3 rfl (0) hz
  have E2 : Hid (Env D w [] [.ce xab (xao) (.slice ua L[0].length uk), .rw (.slice ua L[0].length uk) L[0].length 1 (ncl L[0]), .rw (.slice pa P.length pk) P.length 1 (ncl P), .mx (.slice ea M.length ek) (M.map nl), .rw (.slice ya b.length yk) b.length 1 (ncl b), .mx (.slice (some ⟨xab, xao, none⟩) L.length xk) (L.map nl)] _) := Lib.hid E20
  clear E20 E1
  have u0 := (E2.out.fc 0 rfl).2
  have hw9 : wrap64 ((n : Int) - (P.length : Int)) = ((n - P.length : Nat) : Int) := by rw [IntWalk.wrap64_in _ (by omega)]; omega
  have HQ2 : Hid (2 ≤ q) := hv.out.q2 |> Lib.hid
  have hl0 := HL0.out
  go_wp2_with fail
  clear hl0
  go_loopg [33, 11] (n - P.length) (fun gk s33 s11 wr => ∃ (k num : Nat), s33 = .int .i64 (k : Int) ∧ s11 = .int .i64 (num : Int) ∧ Hid (Env D w [] [.ce xab (xao) (.slice ua L[0].length uk), .rw (.slice ua L[0].length uk) L[0].length 1 (ncl L[0]), .rw (.slice pa P.length pk) P.length 1 (ncl P), .mx (.slice ea M.length ek) (M.map nl), .rw (.slice ya b.length yk) b.length 1 (ncl b), .mx (.slice (some ⟨xab, xao, none⟩) L.length xk) (L.map nl)] wr) ∧ Hid ((k ≤ n - P.length ∧ gk = n - P.length - k) ∧ cntL q k = some num))
  case atStart => exact ⟨0, 1, rfl, rfl, Lib.hid E2.out, Lib.hid ⟨⟨Nat.zero_le _, rfl⟩, rfl⟩⟩
  case round =>
    clear u0 E2
    obtain ⟨k, num, rfl, rfl, EL, HA⟩ := hrel
    obtain ⟨⟨a1, a2⟩, a3⟩ := HA.out
    have HK := Lib.hid a3
    clear a3 HA
    by_cases hy : k = n - P.length
    · have t6 : decide ((k : Int) < (n : Int) - (P.length : Int)) = false := decide_eq_false (by omega)
      have t6n : decide (k < n - P.length) = false := decide_eq_false (by omega)
      have HD : Hid (cntL q (n - P.length) = some num) := Lib.hid (by rw [← hy]; exact HK.out)
      clear hy
      have hfin := Lib.hid EL.out.bel
      go_wp2
      go_ret2
      exact ⟨by rw [HD.out]; rfl, hfin.out⟩
    have hk : k < n - P.length := by omega
    have t6 : decide ((k : Int) < (n : Int) - (P.length : Int)) = true := decide_eq_true (by omega)
    have t6n : decide (k < n - P.length) = true := decide_eq_true (by omega)
    clear hy
    obtain ⟨eq, heq⟩ : ∃ v, 2305843009213693951 / q = v := ⟨_, rfl⟩
    have HEQ := Lib.hid heq
    have hq2 := HQ2.out
    have w1 : ((q : Int) == 0) = false := beq_eq_false_iff_ne.2 (by omega)
    have w0q : ¬ (q = 0) := by omega
    have he9 : eq ≤ 2305843009213693951 := by rw [← heq]; exact Nat.div_le_self _ _
    have w2 : IntKind.i64.wrap ((2305843009213693951 : Int).tdiv (q : Int)) = (eq : Int) := by rw [Int.tdiv_eq_ediv_of_nonneg (by omega), show ((2305843009213693951 : Int) / (q : Int)) = (eq : Int) from by rw [← heq]; rfl, IntKind.wrap_i64]; omega
    have w3 : IntKind.i64.wrap (eq : Int) = (eq : Int) := by rw [IntKind.wrap_i64]; omega
    clear heq
    by_cases hb : num > eq
    · have t7 : decide ((eq : Int) < (num : Int)) = true := decide_eq_true (by omega)
      have t7n : decide (eq < num) = true := decide_eq_true hb
      have HB : Hid (cntL q (n - P.length) = none) := Lib.hid (cntL_big HK.out (by rw [HEQ.out]; exact hb) hk)
      clear hb
      have hfin := Lib.hid EL.out.bel
      go_wp2
      go_ret2
      exact ⟨by rw [HB.out]; rfl, hfin.out⟩
    · have t7 : decide ((eq : Int) < (num : Int)) = false := decide_eq_false (by omega)
      have t7n : decide (eq < num) = false := decide_eq_false hb
      have HB : Hid (cntL q (k + 1) = some (num * q)) := Lib.hid (cntL_up HK.out (by rw [HEQ.out]; exact hb))
      have h1 : num * q ≤ 2305843009213693951 := Nat.le_trans (Nat.mul_le_mul_right q (Nat.le_of_not_lt hb)) (by rw [← HEQ.out]; exact Nat.div_mul_le_self _ _)
      have w4 : wrap64 ((num : Int) * (q : Int)) = ((num * q : Nat) : Int) := by rw [← Int.natCast_mul]; exact IntWalk.wrap64_in _ (by omega)
      clear hb h1 he9
      have EZ := Lib.hid EL.out
      go_wp2
      go_roundg (n - P.length - (k + 1))
      case rel => exact ⟨k + 1, num * q, rfl, by rw [w4], EZ, Lib.hid ⟨⟨by omega, rfl⟩, HB.out⟩⟩
      case measure => exact by omega
/-- row i of the unit matrix -/
def UL (n i : Nat) : List Nat := (List.replicate n 0).set i 1
theorem UL_len {n i : Nat} : (UL n i).length = n := by unfold UL; rw [List.length_set, List.length_replicate]
/-- a matrix with the unit matrix beside it -/
def invL (L : List (List Nat)) : List (List Nat) := (List.range L.length).map fun i => L.getD i [] ++ UL L.length i
theorem invL_len {L : List (List Nat)} : (invL L).length = L.length := by simp [invL]
theorem invL_get {L : List (List Nat)} {i : Nat} (h : i < L.length) : (invL L)[i]? = some (L[i] ++ UL L.length i) := by
  unfold invL
  rw [List.getElem?_map, List.getElem?_range h]
  simp only [Option.map_some]
  rw [getL_elem h]
theorem invL_res {q n : Nat} {L : List (List Nat)} (hq : 2 ≤ q) (h : ResM q n L) : ResM q (n + L.length) (invL L) := by
  intro r hr
  obtain ⟨i, hi, rfl⟩ := List.getElem_of_mem hr
  have hi2 : i < L.length := by rw [invL_len] at hi; exact hi
  have e := invL_get hi2
  rw [List.getElem?_eq_getElem hi] at e
  rw [Option.some.inj e]
  have h1 := h _ (List.getElem_mem hi2)
  refine ⟨by rw [List.length_append, h1.1, UL_len], fun x hx => ?_⟩
  rcases List.mem_append.1 hx with hx | hx
  · exact h1.2 x hx
  · unfold UL at hx
    rcases List.mem_or_eq_of_mem_set hx with hx | rfl
    · have := List.eq_of_mem_replicate hx; omega
    · omega
section
variable {D0 : Nat → Prop} {w W : World} {F A B : List Bx} {G : List Fct} {g : Nat} {hs : List Value} {R : List Rb} {i a : Nat} {r r2 : Rb}
theorem CapOk.put (hc : CapOk R) (h : r2.l.length + r2.x.length ≤ 9223372036854775807) : CapOk (R.set i r2) := by
  intro x hx
  rcases List.mem_or_eq_of_mem_set hx with hx | rfl
  · exact hc x hx
  · exact h
/-- another block in the place of a row's -/
theorem Env.mrep {v : Value} (E : Env D0 w ((r2.b, 3, ncl r2.l ++ r2.x) :: (A ++ (mbh g ((R.map Rb.hd).set i v) R ++ B))) G W) (h : R[i]? = some r) (hv : v = r2.hd) : Env D0 w (A ++ (mbx g (R.set i r2) ++ B)) G W := by
  rw [hv, hd_put h] at E
  have e := mbh_split (A := A) (B := B) (g := g) (hs := (R.set i r2).map Rb.hd) (A0 := []) (r' := r2) h
  rw [e.1] at E
  show Env D0 w (A ++ (mbh g ((R.set i r2).map Rb.hd) (R.set i r2) ++ B)) G W
  rw [e.2]
  refine Env.drop (p := r.bx) (E.perm ?_)
  simp only [List.singleton_append]
  exact ((List.perm_middle.cons _).trans (List.Perm.swap ..)).trans ((List.perm_middle.symm).cons _)
/-- a row from a place on, as a list that a call reads -/
theorem Env.mrd (E : Env D0 w F G W) (hF : F = A ++ (mbh g hs R ++ B)) (h : R[i]? = some r) (hc : CapOk R) (ha : a ≤ r.l.length) : Fct.at W (fun _ => True) (.rw (.slice (some ⟨r.b, a, none⟩) (r.l.length - a) (r.l.length + r.x.length - a)) (r.l.drop a).length 1 (ncl (r.l.drop a))) := by
  have hr := E.mr hF h
  have hc2 := hc r (List.mem_of_getElem? h)
  refine ⟨some ⟨r.b, a, none⟩, _, by rw [List.length_drop], by rw [List.length_drop]; omega, by omega, ncl_len _, ncl_one _, fun _ => ⟨r.b, a, rfl, ⟨hr.lt, trivial⟩, fun j u hu => ?_⟩⟩
  refine hr.cell (a + j) ?_
  have hj := (List.getElem?_eq_some_iff.1 hu).1
  rw [ncl_len, Nat.mul_one, List.length_drop] at hj
  rw [ncl_app_get _ _ _ (by omega)]
  rw [ncl_get _ j (by rw [List.length_drop]; omega)] at hu
  rw [← hu, List.getElem_drop]
end
set_option maxRecDepth 100000 in
set_option maxHeartbeats 1000000 in
theorem Inverse_no {D : Nat → Prop} (q : Int) (M : List (List Int)) {xa : Option Addr} {xk : Nat} {w : World} (hx : Fct.at w D (.mx (.slice xa M.length xk) M)) (hl0 : Laid w) (hn : -9223372036854775808 ≤ q ∧ q ≤ 9223372036854775807) (hv0 : mvB q M = false) :
    Calls Tryd.prog 45 #[.int .i64 q, .slice xa M.length xk] w fun e w' => e = .returned (.tuple #[.slice none 0 0, .int .i64 1]) ∧ Below w.heap.size w w' := by
  have E0 : Hid (Env D w [] [.mx (.slice xa M.length xk) M] w) := Lib.hid ((Env.start D w).arg (.mx (.slice xa M.length xk) M) hx)
  clear hx
  go_enter Tryd.func45, Tryd.ntmps45
  have hl := Lib.hid hl0
  have hv := Lib.hid hv0
  clear hl0 hv0
  go_wp2_with fail
  refine (mValid_c q M (E0.out.fc 0 rfl) (hl.out.below E0.out.bel) hn hv.out).mono ?_
  rintro e w1 ⟨rfl, hb⟩
  have E1 : Hid (Env D w [] [.mx (.slice xa M.length xk) M] w1) := Lib.hid (E0.out.below hb)
  clear E0 hb
  have hfin := Lib.hid E1.out.bel
  go_wp2
  go_ret2
  exact ⟨rfl, hfin.out⟩
set_option maxRecDepth 100000 in
set_option maxHeartbeats 1000000 in
theorem Inverse_sq {D : Nat → Prop} (q n : Nat) (L : List (List Nat)) {xa : Option Addr} {xk : Nat} {w : World} (hx : Fct.at w D (.mx (.slice xa L.length xk) (L.map nl))) (hl0 : Laid w) (hv0 : MvI q n L) (hne : ¬ L.length = n) :
    Calls Tryd.prog 45 #[.int .i64 (q : Nat), .slice xa L.length xk] w fun e w' => e = .returned (.tuple #[.slice none 0 0, .int .i64 1]) ∧ Below w.heap.size w w' := by
  have E0 : Hid (Env D w [] [.mx (.slice xa L.length xk) (L.map nl)] w) := Lib.hid ((Env.start D w).arg (.mx (.slice xa L.length xk) (L.map nl)) hx)
  clear hx
  go_enter Tryd.func45, Tryd.ntmps45
  have hl := Lib.hid hl0
  have hv := Lib.hid hv0
  clear hl0 hv0
  have hz : 0 < L.length := hv.out.m1
  have hzI : (0 : Int) < (L.length : Int) := by omega
  have HL0 : Hid (L[0].length = n) := Lib.hid (hv.out.res _ (List.getElem_mem hz)).1
  have HNE := Lib.hid hne
  clear hne
  have n1 : ((L.length : Int) != (L[0].length : Int)) = true := by have h1 := HL0.out; have h2 := HNE.out; rw [bne_iff_ne]; omega
  have n2 : (L.length != L[0].length) = true := by have h1 := HL0.out; have h2 := HNE.out; rw [bne_iff_ne]; omega
  go_upto_region 1 with (fail)
  obtain ⟨xab, xao, rfl⟩ := Mx.addrN (E0.out.fc 0 rfl) hz
  obtain ⟨ua, uk, E10⟩ := E0.out.elMN 0 rfl (0) hz
  have E1 : Hid (Env D w [] [.ce xab (xao) (.slice ua L[0].length uk), .rw (.slice ua L[0].length uk) L[0].length 1 (ncl L[0]), .mx (.slice (some ⟨xab, xao, none⟩) L.length xk) (L.map nl)] _) := Lib.hid E10
  clear E10 E0
  have u0 := (E1.out.fc 0 rfl).2
  go_wp2_with fail
  refine (mValidN (E1.out.fc 2 rfl) (hl.out.below E1.out.bel) hv.out).mono ?_
  rintro e w1 ⟨rfl, hb⟩
  have E2 : Hid (Env D w [] [.ce xab (xao) (.slice ua L[0].length uk), .rw (.slice ua L[0].length uk) L[0].length 1 (ncl L[0]), .mx (.slice (some ⟨xab, xao, none⟩) L.length xk) (L.map nl)] w1) := Lib.hid (E1.out.below hb)
  clear u0 E1 hb
  have z1 := (E2.out.fc 0 rfl).2
  have hfin := Lib.hid E2.out.bel
  go_wp2
  go_ret2
  exact ⟨rfl, hfin.out⟩
set_option maxRecDepth 100000 in
set_option maxHeartbeats 8000000 in
theorem Inverse_t {D : Nat → Prop} (q : Nat) (L M : List (List Nat)) (P : List Nat) {xa : Option Addr} {xk : Nat} {w : World} (hx : Fct.at w D (.mx (.slice xa L.length xk) (L.map nl))) (hl0 : Laid w) (hv0 : MvI q L.length L) (hR0 : redN q (invL L) L.length = (M, P)) (ht0 : P.length < L.length) :
    Calls Tryd.prog 45 #[.int .i64 (q : Nat), .slice xa L.length xk] w fun e w' => e = .returned (.tuple #[.slice none 0 0, .int .i64 10]) ∧ Below w.heap.size w w' := by
  have E0 : Hid (Env D w [] [.mx (.slice xa L.length xk) (L.map nl)] w) := Lib.hid ((Env.start D w).arg (.mx (.slice xa L.length xk) (L.map nl)) hx)
  clear hx
  go_enter Tryd.func45, Tryd.ntmps45
  have hl := Lib.hid hl0
  have hv := Lib.hid hv0
  have hR := Lib.hid hR0
  have ht := Lib.hid ht0
  clear hl0 hv0 hR0 ht0
  have hz : 0 < L.length := hv.out.m1
  have hzI : (0 : Int) < (L.length : Int) := by omega
  have HL0 : Hid (L[0].length = L.length) := Lib.hid (hv.out.res _ (List.getElem_mem hz)).1
  have m30 := hv.out.m30
  have HQ : Hid (0 < q) := Lib.hid (by have := hv.out.q2; omega)
  have HSR : Hid (ResM q (L.length + L.length) (invL L)) := Lib.hid (invL_res hv.out.q2 hv.out.res)
  have n1 : ((L.length : Int) != (L[0].length : Int)) = false := by have h1 := HL0.out; rw [h1]; simp
  have n2 : (L.length != L[0].length) = false := by have h1 := HL0.out; rw [h1]; simp
  go_upto_region 1 with (fail)
  obtain ⟨xab, xao, rfl⟩ := Mx.addrN (E0.out.fc 0 rfl) hz
  obtain ⟨ua, uk, E10⟩ := E0.out.elMN 0 rfl (0) hz
  have E1 : Hid (Env D w [] [.ce xab (xao) (.slice ua L[0].length uk), .rw (.slice ua L[0].length uk) L[0].length 1 (ncl L[0]), .mx (.slice (some ⟨xab, xao, none⟩) L.length xk) (L.map nl)] _) := Lib.hid E10
  clear E10 E0
  have u0 := (E1.out.fc 0 rfl).2
  go_wp2_with fail
  refine (mValidN (E1.out.fc 2 rfl) (hl.out.below E1.out.bel) hv.out).mono ?_
  rintro e w1 ⟨rfl, hb⟩
  have E2 : Hid (Env D w [] [.ce xab (xao) (.slice ua L[0].length uk), .rw (.slice ua L[0].length uk) L[0].length 1 (ncl L[0]), .mx (.slice (some ⟨xab, xao, none⟩) L.length xk) (L.map nl)] w1) := Lib.hid (E1.out.below hb)
  clear u0 E1 hb
  have z1 := (E2.out.fc 0 rfl).2
  go_upto_region 3 with (fail)
  clear n1 n2
  go_wp2_with fail
  refine (copied_c L (E2.out.fc 2 rfl) (by omega) hv.out.cp).mono ?_
  rintro e w2 ⟨⟨cg, cR, rfl, cH, cF⟩, hb⟩
  have E3 : Hid (Env D w ((mbx cg cR) ++ []) [.ce xab (xao) (.slice ua L[0].length uk), .rw (.slice ua L[0].length uk) L[0].length 1 (ncl L[0]), .mx (.slice (some ⟨xab, xao, none⟩) L.length xk) (L.map nl)] w2) := Lib.hid ((E2.out.gotSeg hb cF).cast (by simp))
  clear z1 E2 hb
  have crl : Hid (cR.length = L.length) := Lib.hid (by have h := congrArg List.length cH.out.1; simpa using h)
  go_upto_region 5 with (fail)
  go_wp2_with fail
  go_loopg [30] (L.length) (fun gk s30 wr => ∃ (i : Nat) (R1 : List Rb), s30 = .int .i64 (i : Int) ∧ Hid (Env D w ((mbx cg R1) ++ []) [.ce xab (xao) (.slice ua L[0].length uk), .rw (.slice ua L[0].length uk) L[0].length 1 (ncl L[0]), .mx (.slice (some ⟨xab, xao, none⟩) L.length xk) (L.map nl)] wr) ∧ Hid ((i ≤ L.length ∧ gk = L.length - i) ∧ mrows R1 = mix (invL L) L i ∧ CapOk R1))
  case atStart => exact ⟨0, cR, rfl, Lib.hid E3.out, Lib.hid ⟨⟨Nat.zero_le _, rfl⟩, by rw [mix_zero]; exact cH.out.1, cH.out.2⟩⟩
  case round =>
    clear E3
    obtain ⟨i, R1, rfl, EL, HA⟩ := hrel
    obtain ⟨⟨a1, a2⟩, a3, a4⟩ := HA.out
    have HS := Lib.hid a3
    have HC := Lib.hid a4
    clear a3 a4 HA
    have HL1 : Hid (R1.length = L.length) := Lib.hid (by have h := congrArg List.length HS.out; rw [mix_len invL_len, invL_len] at h; simpa using h)
    by_cases hy : i = L.length
    rotate_left
    · have hi : i < L.length := by omega
      have t6 : decide ((i : Int) < (L.length : Int)) = true := decide_eq_true (by omega)
      have t6n : decide (i < L.length) = true := decide_eq_true (by omega)
      have hiI : (i : Int) < (L.length : Int) := by omega
      clear hy
      go_upto_region 8 with (fail)
      go_wp2_with (at_make; refine wpl_makeI rfl _ _ rfl EL.out L.length rfl rfl (by omega) ?_)
      intro w3 ug ugE
      have E4 : Hid (Env D w ((ug, 3, (ncl (List.replicate L.length 0))) :: ((mbx cg R1) ++ [])) [.ce xab (xao) (.slice ua L[0].length uk), .rw (.slice ua L[0].length uk) L[0].length 1 (ncl L[0]), .mx (.slice (some ⟨xab, xao, none⟩) L.length xk) (L.map nl)] w3) := Lib.hid (by have h := ugE.out; rw [ncl_rep] at h; exact h.cast (by first | rfl | simp))
      clear EL ugE
      go_upto_region 9 with (fail)
      obtain ⟨xv, hxv⟩ : ∃ v, (ncl (List.replicate L.length 0))[i]? = some v := ⟨_, List.getElem?_eq_getElem (by rw [ncl_len, List.length_replicate]; omega)⟩
      have bg := E4.out.bx 0 rfl
      have c1 := bg.cell (i) (hxv)
      have c2 := bg.frozen (i)
      clear bg
      clear hxv
      have hk0 : Hid ((ncl (List.replicate L.length 0)).set i (.int .i64 ((1 : Nat) : Int)) = ncl (UL L.length i)) := Lib.hid (ncl_set _ _ _)
      have E5 : Hid (Env D w ((ug, 3, (((ncl (List.replicate L.length 0))).set (i) (.int .i64 1))) :: ((mbx cg R1) ++ [])) [.ce xab (xao) (.slice ua L[0].length uk), .rw (.slice ua L[0].length uk) L[0].length 1 (ncl L[0]), .mx (.slice (some ⟨xab, xao, none⟩) L.length xk) (L.map nl)] _) := Lib.hid ((E4.out.set 0 i (.int .i64 1) rfl))
      have E6 : Hid (Env D w ((ug, 3, (ncl (UL L.length i))) :: ((mbx cg R1) ++ [])) [.ce xab (xao) (.slice ua L[0].length uk), .rw (.slice ua L[0].length uk) L[0].length 1 (ncl L[0]), .mx (.slice (some ⟨xab, xao, none⟩) L.length xk) (L.map nl)] _) := Lib.hid (by have h := E5.out; rw [show (ncl (List.replicate L.length 0)).set i (.int .i64 1) = ncl (UL L.length i) from hk0.out] at h; exact h)
      go_upto_region 10 with (fail)
      have hi1 : i < R1.length := by rw [HL1.out]; exact hi
      obtain ⟨⟨rb, rl, rx⟩, re⟩ : ∃ r, R1[i]? = some r := ⟨_, List.getElem?_eq_getElem hi1⟩
      have rE := Lib.hid re
      clear re
      have mh2 : World.cell? _ ⟨cg, i, none⟩ = some (.slice (some ⟨rb, 0, none⟩) rl.length (rl.length + rx.length)) := E6.out.mhd (A := [(ug, 3, (ncl (UL L.length i)))]) (B := []) rfl rE.out
      have HRG : Hid (rl = L[i]) := Lib.hid (by have h := mrows_get rE.out; rw [HS.out, mix_old invL_len (Nat.le_refl _), List.getElem?_eq_getElem hi] at h; exact (Option.some.inj h).symm)
      have HRN : Hid (rl.length = L.length) := Lib.hid (by rw [HRG.out]; exact (hv.out.res _ (List.getElem_mem hi)).1)
      go_wp2_with (at_builtin; refine wpl_mapp (c := L.length) (news := UL L.length i) (m := L.length) rfl _ _ rfl E6.out (A := [(ug, 3, (ncl (UL L.length i)))]) (B := []) rfl rE.out HC.out (by omega) rfl rfl (SrcN.box (E6.out.bx 0 rfl) (ncl_len _ |>.trans (by rw [UL_len])) (ncl_one _)) UL_len (show rl.length + L.length ≤ 1000000 by have := HRN.out; omega) ?_)
      intro nr w4 nH nE
      have E7 : Hid (Env D w ((ug, 3, (ncl (UL L.length i))) :: ((mbh cg (R1.map Rb.hd) (R1.set i nr)) ++ [])) [.ce xab (xao) (.slice ua L[0].length uk), .rw (.slice ua L[0].length uk) L[0].length 1 (ncl L[0]), .mx (.slice (some ⟨xab, xao, none⟩) L.length xk) (L.map nl)] w4) := Lib.hid (nE.out.cast (by first | rfl | simp))
      clear c1 c2 mh2 E4 E5 E6 nE
      have fz := (E7.out.mh (A := [(ug, 3, (ncl (UL L.length i)))]) (B := []) rfl).frozen i
      have cz := (E7.out.mh (A := [(ug, 3, (ncl (UL L.length i)))]) (B := []) rfl).cell i (show (R1.map Rb.hd)[i]? = _ from (by rw [List.getElem?_map, rE.out]; rfl))
      have E8 : Hid (Env D w ((ug, 3, (ncl (UL L.length i))) :: ((mbh cg ((R1.map Rb.hd).set i (.slice (some ⟨nr.b, 0, none⟩) nr.l.length (nr.l.length + nr.x.length))) (R1.set i nr)) ++ [])) [.ce xab (xao) (.slice ua L[0].length uk), .rw (.slice ua L[0].length uk) L[0].length 1 (ncl L[0]), .mx (.slice (some ⟨xab, xao, none⟩) L.length xk) (L.map nl)] _) := Lib.hid ((E7.out.mhset (A := [(ug, 3, (ncl (UL L.length i)))]) (B := []) rfl i (.slice (some ⟨nr.b, 0, none⟩) nr.l.length (nr.l.length + nr.x.length))))
      have E9 : Hid (Env D w ((ug, 3, (ncl (UL L.length i))) :: ((mbx cg (R1.set i nr)) ++ [])) [.ce xab (xao) (.slice ua L[0].length uk), .rw (.slice ua L[0].length uk) L[0].length 1 (ncl L[0]), .mx (.slice (some ⟨xab, xao, none⟩) L.length xk) (L.map nl)] _) := Lib.hid (by have h := E8.out; rw [show .slice (some ⟨nr.b, 0, none⟩) nr.l.length (nr.l.length + nr.x.length) = nr.hd from rfl, hd_put rE.out] at h; exact h)
      have HNX : Hid (mrows (R1.set i nr) = mix (invL L) L (i + 1)) := Lib.hid (by unfold mrows; rw [List.map_set, nH.out.1, show R1.map Rb.l = mix (invL L) L i from HS.out]; exact mix_set invL_len (by rw [invL_len]; exact hi) (by rw [invL_get hi]; simp only [HRG.out]))
      have EZ := Lib.hid (E9.out.drop)
      go_wp2
      go_roundg (L.length - (i + 1))
      case rel => exact ⟨i + 1, R1.set i nr, rfl, EZ, Lib.hid ⟨⟨by omega, rfl⟩, HNX.out, nH.out.2⟩⟩
      case measure => exact by omega
    have t6 : decide ((i : Int) < (L.length : Int)) = false := decide_eq_false (by omega)
    have t6n : decide (i < L.length) = false := decide_eq_false (by omega)
    have HMS : Hid (mrows R1 = invL L) := Lib.hid (by rw [HS.out, hy, mix_full invL_len (Nat.le_of_eq invL_len)])
    clear hy
    go_upto_region 12 with (fail)
    have zRD := reduce_c q (L.length + L.length) L.length R1 (A0 := []) (B0 := []) (Lib.hid EL.out) hv.out.q2 hv.out.qT (by rw [HMS.out]; exact HSR.out) (Nat.le_add_left _ _) (by rw [HL1.out]; omega) (by omega) HC.out
    rw [HL1.out] at zRD
    have zRE := Lib.hid zRD
    clear zRD
    go_wp2_with fail
    refine (zRE.out).mono ?_
    rintro e w3 ⟨zR, zP, za, zk, rfl, zH, zE9⟩
    have E4 : Hid (Env D w ((mbx cg zR) ++ []) [.rw (.slice za zP.length zk) zP.length 1 (ncl zP), .ce xab (xao) (.slice ua L[0].length uk), .rw (.slice ua L[0].length uk) L[0].length 1 (ncl L[0]), .mx (.slice (some ⟨xab, xao, none⟩) L.length xk) (L.map nl)] w3) := Lib.hid (zE9.out.cast (by first | rfl | simp))
    clear EL zE9
    have HZ : Hid ((mrows zR, zP) = (M, P)) := Lib.hid (by have h := zH.out.1; rw [HMS.out, hR.out] at h; exact h); have hzl : Hid (zP.length = P.length) := Lib.hid (by have h := congrArg (fun x => x.2.length) HZ.out; exact h); have z1 : decide ((zP.length : Int) < (L.length : Int)) = true := decide_eq_true (by have h1 := hzl.out; have h2 := ht.out; omega); have z2 : decide (zP.length < L.length) = true := decide_eq_true (by have h1 := hzl.out; have h2 := ht.out; omega)
    have hfin := Lib.hid E4.out.bel
    go_wp2
    go_ret2
    exact ⟨rfl, hfin.out⟩
set_option maxRecDepth 100000 in
set_option maxHeartbeats 8000000 in
theorem Inverse_f {D : Nat → Prop} (q : Nat) (L M : List (List Nat)) (P : List Nat) {xa : Option Addr} {xk : Nat} {w : World} (hx : Fct.at w D (.mx (.slice xa L.length xk) (L.map nl))) (hl0 : Laid w) (hv0 : MvI q L.length L) (hR0 : redN q (invL L) L.length = (M, P)) (ht0 : ¬ P.length < L.length) :
    Calls Tryd.prog 45 #[.int .i64 (q : Nat), .slice xa L.length xk] w fun e w' => RetMfE (fun b => D b ∨ w.heap.size ≤ b) (M.map (List.drop L.length)) 0 e w' ∧ Below w.heap.size w w' := by
  have E0 : Hid (Env D w [] [.mx (.slice xa L.length xk) (L.map nl)] w) := Lib.hid ((Env.start D w).arg (.mx (.slice xa L.length xk) (L.map nl)) hx)
  clear hx
  go_enter Tryd.func45, Tryd.ntmps45
  have hl := Lib.hid hl0
  have hv := Lib.hid hv0
  have hR := Lib.hid hR0
  have ht := Lib.hid ht0
  clear hl0 hv0 hR0 ht0
  have hz : 0 < L.length := hv.out.m1
  have hzI : (0 : Int) < (L.length : Int) := by omega
  have HL0 : Hid (L[0].length = L.length) := Lib.hid (hv.out.res _ (List.getElem_mem hz)).1
  have m30 := hv.out.m30
  have HQ : Hid (0 < q) := Lib.hid (by have := hv.out.q2; omega)
  have HSR : Hid (ResM q (L.length + L.length) (invL L)) := Lib.hid (invL_res hv.out.q2 hv.out.res)
  have n1 : ((L.length : Int) != (L[0].length : Int)) = false := by have h1 := HL0.out; rw [h1]; simp
  have n2 : (L.length != L[0].length) = false := by have h1 := HL0.out; rw [h1]; simp
  go_upto_region 1 with (fail)
  obtain ⟨xab, xao, rfl⟩ := Mx.addrN (E0.out.fc 0 rfl) hz
  obtain ⟨ua, uk, E10⟩ := E0.out.elMN 0 rfl (0) hz
  have E1 : Hid (Env D w [] [.ce xab (xao) (.slice ua L[0].length uk), .rw (.slice ua L[0].length uk) L[0].length 1 (ncl L[0]), .mx (.slice (some ⟨xab, xao, none⟩) L.length xk) (L.map nl)] _) := Lib.hid E10
  clear E10 E0
  have u0 := (E1.out.fc 0 rfl).2
  go_wp2_with fail
  refine (mValidN (E1.out.fc 2 rfl) (hl.out.below E1.out.bel) hv.out).mono ?_
  rintro e w1 ⟨rfl, hb⟩
  have E2 : Hid (Env D w [] [.ce xab (xao) (.slice ua L[0].length uk), .rw (.slice ua L[0].length uk) L[0].length 1 (ncl L[0]), .mx (.slice (some ⟨xab, xao, none⟩) L.length xk) (L.map nl)] w1) := Lib.hid (E1.out.below hb)
  clear u0 E1 hb
  have z1 := (E2.out.fc 0 rfl).2
  go_upto_region 3 with (fail)
  clear n1 n2
  go_wp2_with fail
  refine (copied_c L (E2.out.fc 2 rfl) (by omega) hv.out.cp).mono ?_
  rintro e w2 ⟨⟨cg, cR, rfl, cH, cF⟩, hb⟩
  have E3 : Hid (Env D w ((mbx cg cR) ++ []) [.ce xab (xao) (.slice ua L[0].length uk), .rw (.slice ua L[0].length uk) L[0].length 1 (ncl L[0]), .mx (.slice (some ⟨xab, xao, none⟩) L.length xk) (L.map nl)] w2) := Lib.hid ((E2.out.gotSeg hb cF).cast (by simp))
  clear z1 E2 hb
  have crl : Hid (cR.length = L.length) := Lib.hid (by have h := congrArg List.length cH.out.1; simpa using h)
  go_upto_region 5 with (fail)
  go_wp2_with fail
  go_loopg [30] (L.length) (fun gk s30 wr => ∃ (i : Nat) (R1 : List Rb), s30 = .int .i64 (i : Int) ∧ Hid (Env D w ((mbx cg R1) ++ []) [.ce xab (xao) (.slice ua L[0].length uk), .rw (.slice ua L[0].length uk) L[0].length 1 (ncl L[0]), .mx (.slice (some ⟨xab, xao, none⟩) L.length xk) (L.map nl)] wr) ∧ Hid ((i ≤ L.length ∧ gk = L.length - i) ∧ mrows R1 = mix (invL L) L i ∧ CapOk R1))
  case atStart => exact ⟨0, cR, rfl, Lib.hid E3.out, Lib.hid ⟨⟨Nat.zero_le _, rfl⟩, by rw [mix_zero]; exact cH.out.1, cH.out.2⟩⟩
  case round =>
    clear E3
    obtain ⟨i, R1, rfl, EL, HA⟩ := hrel
    obtain ⟨⟨a1, a2⟩, a3, a4⟩ := HA.out
    have HS := Lib.hid a3
    have HC := Lib.hid a4
    clear a3 a4 HA
    have HL1 : Hid (R1.length = L.length) := Lib.hid (by have h := congrArg List.length HS.out; rw [mix_len invL_len, invL_len] at h; simpa using h)
    by_cases hy : i = L.length
    rotate_left
    · have hi : i < L.length := by omega
      have t6 : decide ((i : Int) < (L.length : Int)) = true := decide_eq_true (by omega)
      have t6n : decide (i < L.length) = true := decide_eq_true (by omega)
      have hiI : (i : Int) < (L.length : Int) := by omega
      clear hy
      go_upto_region 8 with (fail)
      go_wp2_with (at_make; refine wpl_makeI rfl _ _ rfl EL.out L.length rfl rfl (by omega) ?_)
      intro w3 ug ugE
      have E4 : Hid (Env D w ((ug, 3, (ncl (List.replicate L.length 0))) :: ((mbx cg R1) ++ [])) [.ce xab (xao) (.slice ua L[0].length uk), .rw (.slice ua L[0].length uk) L[0].length 1 (ncl L[0]), .mx (.slice (some ⟨xab, xao, none⟩) L.length xk) (L.map nl)] w3) := Lib.hid (by have h := ugE.out; rw [ncl_rep] at h; exact h.cast (by first | rfl | simp))
      clear EL ugE
      go_upto_region 9 with (fail)
      obtain ⟨xv, hxv⟩ : ∃ v, (ncl (List.replicate L.length 0))[i]? = some v := ⟨_, List.getElem?_eq_getElem (by rw [ncl_len, List.length_replicate]; omega)⟩
      have bg := E4.out.bx 0 rfl
      have c1 := bg.cell (i) (hxv)
      have c2 := bg.frozen (i)
      clear bg
      clear hxv
      have hk0 : Hid ((ncl (List.replicate L.length 0)).set i (.int .i64 ((1 : Nat) : Int)) = ncl (UL L.length i)) := Lib.hid (ncl_set _ _ _)
      have E5 : Hid (Env D w ((ug, 3, (((ncl (List.replicate L.length 0))).set (i) (.int .i64 1))) :: ((mbx cg R1) ++ [])) [.ce xab (xao) (.slice ua L[0].length uk), .rw (.slice ua L[0].length uk) L[0].length 1 (ncl L[0]), .mx (.slice (some ⟨xab, xao, none⟩) L.length xk) (L.map nl)] _) := Lib.hid ((E4.out.set 0 i (.int .i64 1) rfl))
      have E6 : Hid (Env D w ((ug, 3, (ncl (UL L.length i))) :: ((mbx cg R1) ++ [])) [.ce xab (xao) (.slice ua L[0].length uk), .rw (.slice ua L[0].length uk) L[0].length 1 (ncl L[0]), .mx (.slice (some ⟨xab, xao, none⟩) L.length xk) (L.map nl)] _) := Lib.hid (by have h := E5.out; rw [show (ncl (List.replicate L.length 0)).set i (.int .i64 1) = ncl (UL L.length i) from hk0.out] at h; exact h)
      go_upto_region 10 with (fail)
      have hi1 : i < R1.length := by rw [HL1.out]; exact hi
      obtain ⟨⟨rb, rl, rx⟩, re⟩ : ∃ r, R1[i]? = some r := ⟨_, List.getElem?_eq_getElem hi1⟩
      have rE := Lib.hid re
      clear re
      have mh2 : World.cell? _ ⟨cg, i, none⟩ = some (.slice (some ⟨rb, 0, none⟩) rl.length (rl.length + rx.length)) := E6.out.mhd (A := [(ug, 3, (ncl (UL L.length i)))]) (B := []) rfl rE.out
      have HRG : Hid (rl = L[i]) := Lib.hid (by have h := mrows_get rE.out; rw [HS.out, mix_old invL_len (Nat.le_refl _), List.getElem?_eq_getElem hi] at h; exact (Option.some.inj h).symm)
      have HRN : Hid (rl.length = L.length) := Lib.hid (by rw [HRG.out]; exact (hv.out.res _ (List.getElem_mem hi)).1)
      go_wp2_with (at_builtin; refine wpl_mapp (c := L.length) (news := UL L.length i) (m := L.length) rfl _ _ rfl E6.out (A := [(ug, 3, (ncl (UL L.length i)))]) (B := []) rfl rE.out HC.out (by omega) rfl rfl (SrcN.box (E6.out.bx 0 rfl) (ncl_len _ |>.trans (by rw [UL_len])) (ncl_one _)) UL_len (show rl.length + L.length ≤ 1000000 by have := HRN.out; omega) ?_)
      intro nr w4 nH nE
      have E7 : Hid (Env D w ((ug, 3, (ncl (UL L.length i))) :: ((mbh cg (R1.map Rb.hd) (R1.set i nr)) ++ [])) [.ce xab (xao) (.slice ua L[0].length uk), .rw (.slice ua L[0].length uk) L[0].length 1 (ncl L[0]), .mx (.slice (some ⟨xab, xao, none⟩) L.length xk) (L.map nl)] w4) := Lib.hid (nE.out.cast (by first | rfl | simp))
      clear c1 c2 mh2 E4 E5 E6 nE
      have fz := (E7.out.mh (A := [(ug, 3, (ncl (UL L.length i)))]) (B := []) rfl).frozen i
      have cz := (E7.out.mh (A := [(ug, 3, (ncl (UL L.length i)))]) (B := []) rfl).cell i (show (R1.map Rb.hd)[i]? = _ from (by rw [List.getElem?_map, rE.out]; rfl))
      have E8 : Hid (Env D w ((ug, 3, (ncl (UL L.length i))) :: ((mbh cg ((R1.map Rb.hd).set i (.slice (some ⟨nr.b, 0, none⟩) nr.l.length (nr.l.length + nr.x.length))) (R1.set i nr)) ++ [])) [.ce xab (xao) (.slice ua L[0].length uk), .rw (.slice ua L[0].length uk) L[0].length 1 (ncl L[0]), .mx (.slice (some ⟨xab, xao, none⟩) L.length xk) (L.map nl)] _) := Lib.hid ((E7.out.mhset (A := [(ug, 3, (ncl (UL L.length i)))]) (B := []) rfl i (.slice (some ⟨nr.b, 0, none⟩) nr.l.length (nr.l.length + nr.x.length))))
      have E9 : Hid (Env D w ((ug, 3, (ncl (UL L.length i))) :: ((mbx cg (R1.set i nr)) ++ [])) [.ce xab (xao) (.slice ua L[0].length uk), .rw (.slice ua L[0].length uk) L[0].length 1 (ncl L[0]), .mx (.slice (some ⟨xab, xao, none⟩) L.length xk) (L.map nl)] _) := Lib.hid (by have h := E8.out; rw [show .slice (some ⟨nr.b, 0, none⟩) nr.l.length (nr.l.length + nr.x.length) = nr.hd from rfl, hd_put rE.out] at h; exact h)
      have HNX : Hid (mrows (R1.set i nr) = mix (invL L) L (i + 1)) := Lib.hid (by unfold mrows; rw [List.map_set, nH.out.1, show R1.map Rb.l = mix (invL L) L i from HS.out]; exact mix_set invL_len (by rw [invL_len]; exact hi) (by rw [invL_get hi]; simp only [HRG.out]))
      have EZ := Lib.hid (E9.out.drop)
      go_wp2
      go_roundg (L.length - (i + 1))
      case rel => exact ⟨i + 1, R1.set i nr, rfl, EZ, Lib.hid ⟨⟨by omega, rfl⟩, HNX.out, nH.out.2⟩⟩
      case measure => exact by omega
    have t6 : decide ((i : Int) < (L.length : Int)) = false := decide_eq_false (by omega)
    have t6n : decide (i < L.length) = false := decide_eq_false (by omega)
    have HMS : Hid (mrows R1 = invL L) := Lib.hid (by rw [HS.out, hy, mix_full invL_len (Nat.le_of_eq invL_len)])
    clear hy
    go_upto_region 12 with (fail)
    have zRD := reduce_c q (L.length + L.length) L.length R1 (A0 := []) (B0 := []) (Lib.hid EL.out) hv.out.q2 hv.out.qT (by rw [HMS.out]; exact HSR.out) (Nat.le_add_left _ _) (by rw [HL1.out]; omega) (by omega) HC.out
    rw [HL1.out] at zRD
    have zRE := Lib.hid zRD
    clear zRD
    go_wp2_with fail
    refine (zRE.out).mono ?_
    rintro e w3 ⟨zR, zP, za, zk, rfl, zH, zE9⟩
    have E4 : Hid (Env D w ((mbx cg zR) ++ []) [.rw (.slice za zP.length zk) zP.length 1 (ncl zP), .ce xab (xao) (.slice ua L[0].length uk), .rw (.slice ua L[0].length uk) L[0].length 1 (ncl L[0]), .mx (.slice (some ⟨xab, xao, none⟩) L.length xk) (L.map nl)] w3) := Lib.hid (zE9.out.cast (by first | rfl | simp))
    clear EL zE9
    have HZ : Hid ((mrows zR, zP) = (M, P)) := Lib.hid (by have h := zH.out.1; rw [HMS.out, hR.out] at h; exact h); have hzl : Hid (zP.length = P.length) := Lib.hid (by have h := congrArg (fun x => x.2.length) HZ.out; exact h); have z1 : decide ((zP.length : Int) < (L.length : Int)) = false := decide_eq_false (by have h1 := hzl.out; have h2 := ht.out; omega); have z2 : decide (zP.length < L.length) = false := decide_eq_false (by have h1 := hzl.out; have h2 := ht.out; omega)
    go_upto_region 14 with (fail)
    have HZM : Hid (mrows zR = M) := Lib.hid (by have h := congrArg Prod.fst HZ.out; exact h)
    have HMI : Hid (RedI q (L.length + L.length) L.length L.length (M, P)) := Lib.hid (by have h := redN_ok HQ.out HSR.out L.length; rw [hR.out, invL_len] at h; exact h)
    have HML : Hid (M.length = L.length) := Lib.hid HMI.out.len
    clear t6 t6n a1 a2 z1 z2
    go_wp2_with fail
    go_loopg [57] (L.length) (fun gk s57 wr => ∃ (k : Nat) (R2 : List Rb), s57 = .int .i64 (k : Int) ∧ Hid (Env D w ((mbx cg R2) ++ []) [.rw (.slice za zP.length zk) zP.length 1 (ncl zP), .ce xab (xao) (.slice ua L[0].length uk), .rw (.slice ua L[0].length uk) L[0].length 1 (ncl L[0]), .mx (.slice (some ⟨xab, xao, none⟩) L.length xk) (L.map nl)] wr) ∧ Hid ((k ≤ L.length ∧ gk = L.length - k) ∧ mrows R2 = mix (M.map (List.drop L.length)) M k ∧ CapOk R2))
    case atStart => exact ⟨0, zR, rfl, Lib.hid E4.out, Lib.hid ⟨⟨Nat.zero_le _, rfl⟩, by rw [mix_zero]; exact HZM.out, zH.out.2⟩⟩
    case round =>
      clear E4
      obtain ⟨k, R2, rfl, EL, HA⟩ := hrel
      have HDL : Hid ((M.map (List.drop L.length)).length = M.length) := Lib.hid (by rw [List.length_map])
      obtain ⟨⟨a1, a2⟩, a3, a4⟩ := HA.out
      have HS2 := Lib.hid a3
      have HC2 := Lib.hid a4
      clear a3 a4 HA
      have HL2 : Hid (R2.length = L.length) := Lib.hid (by have h := congrArg List.length HS2.out; rw [mix_len HDL.out, HDL.out, HML.out] at h; simpa using h)
      by_cases hy : k = L.length
      · skip
        have t6 : decide ((k : Int) < (L.length : Int)) = false := decide_eq_false (by omega)
        have t6n : decide (k < L.length) = false := decide_eq_false (by omega)
        have HD : Hid (mrows R2 = (M.map (List.drop L.length))) := Lib.hid (by rw [HS2.out, hy]; exact mix_full HDL.out (Nat.le_of_eq (HDL.out.trans HML.out)))
        clear hy
        have hbel := Lib.hid EL.out.bel
        go_wp2
        go_ret2
        have EF := Env.freezeM (A := []) (B := []) (g := cg) (R := R2) (EL.out.cast (by first | rfl | simp)) (by rw [HL2.out]; omega) HC2.out
        have h1 : Fct.at _ _ _ := EF.out 0 rfl
        have hml : (M.map (List.drop L.length)).length = L.length := HDL.out.trans HML.out
        rw [HL2.out, HD.out] at h1
        exact ⟨⟨some ⟨cg, 0, none⟩, L.length, by rw [hml]; rfl, Lib.hid (by rw [hml]; exact h1)⟩, hbel.out⟩
      have hk : k < L.length := by omega
      have t6 : decide ((k : Int) < (L.length : Int)) = true := decide_eq_true (by omega)
      have t6n : decide (k < L.length) = true := decide_eq_true (by omega)
      have hkI : (k : Int) < (L.length : Int) := by omega
      clear hy
      go_upto_region 17 with (fail)
      have hk2 : k < R2.length := by rw [HL2.out]; exact hk
      have HKM : Hid (k < M.length) := Lib.hid (by rw [HML.out]; exact hk)
      obtain ⟨⟨sb, sl, sx⟩, se⟩ : ∃ r, R2[k]? = some r := ⟨_, List.getElem?_eq_getElem hk2⟩
      have sE := Lib.hid se
      clear se
      have mh2 : World.cell? _ ⟨cg, k, none⟩ = some (.slice (some ⟨sb, 0, none⟩) sl.length (sl.length + sx.length)) := EL.out.mhd (A := []) (B := []) rfl sE.out
      have HSG : Hid (M[k]? = some sl) := Lib.hid (by have h := mrows_get sE.out; rw [HS2.out, mix_old HDL.out (Nat.le_refl _)] at h; exact h)
      have HSL : Hid (sl.length = L.length + L.length) := Lib.hid (HMI.out.res _ (List.mem_of_getElem? HSG.out)).1
      have v1 : L.length ≤ sl.length := by have := HSL.out; omega
      have v1I : (L.length : Int) ≤ (sl.length : Int) := by omega
      have v2 : (sl.length + sx.length = L.length) = False := eq_false (by have := HSL.out; omega)
      have v3 : L.length ≤ sl.length + sx.length := by omega
      have HDR : Hid (0 < (sl.drop L.length).length ∧ (sl.drop L.length).length ≤ 1000000) := Lib.hid (by rw [List.length_drop]; have := HSL.out; omega)
      go_wp2_with fail
      refine (cloneRow_c (D := fun _ => True) (l := sl.drop L.length) (EL.out.mrd (A := []) (B := []) rfl sE.out HC2.out v1) HDR.out.2 HDR.out.1).mono ?_
      rintro e w4 ⟨⟨rb, rx, rfl, rB, rC⟩, hb⟩
      have E5 : Hid (Env D w ((rb, 3, (ncl (sl.drop L.length) ++ rx)) :: ((mbx cg R2) ++ [])) [.rw (.slice za zP.length zk) zP.length 1 (ncl zP), .ce xab (xao) (.slice ua L[0].length uk), .rw (.slice ua L[0].length uk) L[0].length 1 (ncl L[0]), .mx (.slice (some ⟨xab, xao, none⟩) L.length xk) (L.map nl)] w4) := Lib.hid (EL.out.gotBox hb rB.out)
      clear mh2 EL hb rB
      have fz := (E5.out.mh (A := [(rb, 3, (ncl (sl.drop L.length) ++ rx))]) (B := []) rfl).frozen k
      have cz := (E5.out.mh (A := [(rb, 3, (ncl (sl.drop L.length) ++ rx))]) (B := []) rfl).cell k (show (R2.map Rb.hd)[k]? = _ from (by rw [List.getElem?_map, sE.out]; rfl))
      have E6 : Hid (Env D w ((rb, 3, (ncl (sl.drop L.length) ++ rx)) :: ((mbh cg ((R2.map Rb.hd).set k (.slice (some ⟨rb, 0, none⟩) (sl.length - L.length) (sl.length - L.length + rx.length))) R2) ++ [])) [.rw (.slice za zP.length zk) zP.length 1 (ncl zP), .ce xab (xao) (.slice ua L[0].length uk), .rw (.slice ua L[0].length uk) L[0].length 1 (ncl L[0]), .mx (.slice (some ⟨xab, xao, none⟩) L.length xk) (L.map nl)] _) := Lib.hid ((E5.out.mhset (A := [(rb, 3, (ncl (sl.drop L.length) ++ rx))]) (B := []) rfl k (.slice (some ⟨rb, 0, none⟩) (sl.length - L.length) (sl.length - L.length + rx.length))))
      have E7 : Hid (Env D w ((mbx cg (R2.set k (Rb.mk rb (sl.drop L.length) rx))) ++ []) [.rw (.slice za zP.length zk) zP.length 1 (ncl zP), .ce xab (xao) (.slice ua L[0].length uk), .rw (.slice ua L[0].length uk) L[0].length 1 (ncl L[0]), .mx (.slice (some ⟨xab, xao, none⟩) L.length xk) (L.map nl)] _) := Lib.hid (by have h := E6.out; exact Env.mrep (A := []) (r2 := Rb.mk rb (sl.drop L.length) rx) h sE.out (by unfold Rb.hd; simp only [List.length_drop]))
      have HNX : Hid (mrows (R2.set k (Rb.mk rb (sl.drop L.length) rx)) = mix (M.map (List.drop L.length)) M (k + 1)) := Lib.hid (by unfold mrows; rw [List.map_set, show R2.map Rb.l = mix (M.map (List.drop L.length)) M k from HS2.out]; exact mix_set HDL.out (by rw [HDL.out]; exact HKM.out) (by rw [List.getElem?_map, HSG.out]; rfl))
      have EZ := Lib.hid E7.out
      go_wp2
      go_roundg (L.length - (k + 1))
      case rel => exact ⟨k + 1, (R2.set k (Rb.mk rb (sl.drop L.length) rx)), rfl, EZ, Lib.hid ⟨⟨by omega, rfl⟩, HNX.out, HC2.out.put rC.out⟩⟩
      case measure => exact by omega
theorem Env.noteT {w W : World} {G : List Fct} (E : Env (fun _ : Nat => True) w [] G W) (f : Fct) {D : Nat → Prop} (h : f.at W D) : Env (fun _ : Nat => True) w [] (f :: G) W := E.note f (Fct.turn h (Nat.le_refl _) (fun b _ _ => ⟨by simp, .inl trivial⟩) (fun _ _ _ _ => rfl))
/-- headers and rows in boxes -/
theorem Mx.lit1 {W : World} {B B1 g g1 : Nat} {T T1 : TypeId} {r : List Nat} (hB : Box B g T [.slice (some ⟨g1, 0, none⟩) r.length r.length] W) (h1 : Box B1 g1 T1 (ncl r) W) (hl : r.length ≤ 1000) : Mx W (fun _ => True) (.slice (some ⟨g, 0, none⟩) 1 1) ([r].map nl) := by
  refine ⟨_, 1, rfl, Nat.le_refl _, by omega, fun _ => ⟨g, 0, rfl, ⟨hB.lt, trivial⟩, fun i l e => ?_⟩⟩
  have hi : i < 1 := by have := (List.getElem?_eq_some_iff.1 e).1; simpa using this
  obtain rfl : i = 0 := by omega
  obtain rfl : nl r = l := by simpa using e
  refine ⟨_, hB.cell 0 rfl, ?_⟩
  rw [nl_len]
  exact Rw.boxP h1 (Nat.le_refl _) (by omega)
theorem Mx.lit2 {W : World} {B B1 B2 g g1 g2 : Nat} {T T1 T2 : TypeId} {r s : List Nat} (hB : Box B g T [.slice (some ⟨g1, 0, none⟩) r.length r.length, .slice (some ⟨g2, 0, none⟩) s.length s.length] W) (h1 : Box B1 g1 T1 (ncl r) W) (h2 : Box B2 g2 T2 (ncl s) W) (hl : r.length ≤ 1000) (hs : s.length ≤ 1000) : Mx W (fun _ => True) (.slice (some ⟨g, 0, none⟩) 2 2) ([r, s].map nl) := by
  refine ⟨_, 2, rfl, Nat.le_refl _, by omega, fun _ => ⟨g, 0, rfl, ⟨hB.lt, trivial⟩, fun i l e => ?_⟩⟩
  have hi : i < 2 := by have := (List.getElem?_eq_some_iff.1 e).1; simpa using this
  rcases (by omega : i = 0 ∨ i = 1) with rfl | rfl
  · obtain rfl : nl r = l := by simpa using e
    refine ⟨_, hB.cell 0 rfl, ?_⟩
    rw [nl_len]
    exact Rw.boxP h1 (Nat.le_refl _) (by omega)
  · obtain rfl : nl s = l := by simpa using e
    refine ⟨_, hB.cell 1 rfl, ?_⟩
    rw [nl_len]
    exact Rw.boxP h2 (Nat.le_refl _) (by omega)
theorem field5 : fieldB 5 = true := by decide +kernel
theorem mvA : MvI 5 2 [[1, 2], [2, 4]] := ⟨by unfold ResM; decide, by omega, by unfold Top; omega, field5, by decide, by decide, by decide, by decide⟩
theorem mvC : MvI 5 2 [[1, 2], [3, 4]] := ⟨by unfold ResM; decide, by omega, by unfold Top; omega, field5, by decide, by decide, by decide, by decide⟩
theorem red1 : redN 5 (sysL [[1, 2], [2, 4]] [3, 1]) 2 = ([[1, 2, 3], [0, 0, 0]], [0]) := by decide +kernel
theorem red2 : redN 5 (sysL [[1, 2], [2, 4]] [3, 2]) 2 = ([[1, 2, 3], [0, 0, 1]], [0]) := by decide +kernel
theorem red3 : redN 5 (invL [[1, 2], [3, 4]]) 2 = ([[1, 0, 3, 1], [0, 1, 4, 2]], [0, 1]) := by decide +kernel
section
variable {D : Nat → Prop} {xa ya : Option Addr} {xk yk : Nat} {w : World}
theorem ex_solve (hx : Fct.at w D (.mx (.slice xa 2 xk) ([[1, 2], [2, 4]].map nl))) (hy : Fct.at w D (.rw (.slice ya 2 yk) 2 1 (ncl [3, 1]))) (hl : Laid w) :
    Calls Tryd.prog 36 #[.int .i64 5, .slice xa 2 xk, .slice ya 2 yk] w fun e w' => RetXK (fun b => D b ∨ w.heap.size ≤ b) [3, 0] [[3, 1]] 0 e w' ∧ Below w.heap.size w w' := by
  have h := Solve_f 5 2 [[1, 2], [2, 4]] _ [3, 1] _ hx hy hl mvA rfl (by decide) red1 (by decide)
  have e1 : partV 2 [0] [[1, 2, 3], [0, 0, 0]] [0].length = [3, 0] := by decide
  have e2 : kerL 5 2 [0] [[1, 2, 3], [0, 0, 0]] 2 = [[3, 1]] := by decide
  rw [e1, e2] at h
  exact h
theorem ex_none (hx : Fct.at w D (.mx (.slice xa 2 xk) ([[1, 2], [2, 4]].map nl))) (hy : Fct.at w D (.rw (.slice ya 2 yk) 2 1 (ncl [3, 2]))) (hl : Laid w) :
    Calls Tryd.prog 36 #[.int .i64 5, .slice xa 2 xk, .slice ya 2 yk] w fun e w' => e = .returned (.tuple #[.slice none 0 0, .slice none 0 0, .int .i64 7]) ∧ Below w.heap.size w w' :=
  Solve_t 5 2 [[1, 2], [2, 4]] _ [3, 2] _ hx hy hl mvA rfl (by decide) red2 (by decide)
theorem ex_count (hx : Fct.at w D (.mx (.slice xa 2 xk) ([[1, 2], [2, 4]].map nl))) (hy : Fct.at w D (.rw (.slice ya 2 yk) 2 1 (ncl [3, 1]))) (hl : Laid w) :
    Calls Tryd.prog 46 #[.int .i64 5, .slice xa 2 xk, .slice ya 2 yk] w fun e w' => e = .returned (.tuple #[.int .i64 5, .int .i64 0]) ∧ Below w.heap.size w w' := by
  have h := Count_f 5 2 [[1, 2], [2, 4]] _ [3, 1] _ hx hy hl mvA rfl (by decide) red1 (by decide)
  have e1 : cntL 5 (2 - [0].length) = some 5 := by decide
  rw [e1] at h
  exact h
theorem ex_inv (hx : Fct.at w D (.mx (.slice xa 2 xk) ([[1, 2], [3, 4]].map nl))) (hl : Laid w) :
    Calls Tryd.prog 45 #[.int .i64 5, .slice xa 2 xk] w fun e w' => RetMfE (fun b => D b ∨ w.heap.size ≤ b) [[3, 1], [4, 2]] 0 e w' ∧ Below w.heap.size w w' :=
  Inverse_f 5 [[1, 2], [3, 4]] _ _ hx hl mvC red3 (by decide)
end
set_option maxRecDepth 100000 in
set_option maxHeartbeats 4000000 in
theorem awake14_c  {w : World}  (hl0 : Laid w) :
    Calls Tryd.prog 31 #[] w fun e w' => e = .returned (.bool true) ∧ Below w.heap.size w w' := by
  have E0 : Hid (Env (fun _ : Nat => True) w [] [] w) := Lib.hid (Env.start (fun _ : Nat => True) w)
  go_enter Tryd.func31, Tryd.ntmps31
  have hl := Lib.hid hl0
  clear hl0
  have E1 : Hid (Env (fun _ : Nat => True) w [(w.heap.size + 1 + 1, 22, [.slice (some ⟨w.heap.size, 0, none⟩) 2 2, .slice (some ⟨w.heap.size + 1, 0, none⟩) 2 2]), (w.heap.size + 1, 3, [.int .i64 2, .int .i64 4]), (w.heap.size, 3, [.int .i64 1, .int .i64 2])] [] _) := Lib.hid ((((E0.out.push 3 [.int .i64 1, .int .i64 2] (w.heap.size) (by simp)).push 3 [.int .i64 2, .int .i64 4] (w.heap.size + 1) (by simp)).push 22 [.slice (some ⟨w.heap.size, 0, none⟩) 2 2, .slice (some ⟨w.heap.size + 1, 0, none⟩) 2 2] (w.heap.size + 1 + 1) (by simp)))
  have E2 : Hid (Env (fun _ : Nat => True) w [] [.mx (.slice (some ⟨w.heap.size + 1 + 1, 0, none⟩) 2 2) ([[1, 2], [2, 4]].map nl)] _) := Lib.hid (Env.noteT E1.out.drop.drop.drop (.mx (.slice (some ⟨w.heap.size + 1 + 1, 0, none⟩) 2 2) ([[1, 2], [2, 4]].map nl)) (Mx.lit2 (r := [1, 2]) (s := [2, 4]) (E1.out.bx 0 rfl) (E1.out.bx 2 rfl) (E1.out.bx 1 rfl) (by decide) (by decide)))
  have E3 : Hid (Env (fun _ : Nat => True) w [(w.heap.size + 1 + 1 + 1, 3, [.int .i64 3, .int .i64 1])] [.mx (.slice (some ⟨w.heap.size + 1 + 1, 0, none⟩) 2 2) ([[1, 2], [2, 4]].map nl)] _) := Lib.hid ((E2.out.push 3 [.int .i64 3, .int .i64 1] (w.heap.size + 1 + 1 + 1) (by simp)))
  have E4 : Hid (Env (fun _ : Nat => True) w [] [.rw (.slice (some ⟨w.heap.size + 1 + 1 + 1, 0, none⟩) 2 2) 2 1 (ncl [3, 1]), .mx (.slice (some ⟨w.heap.size + 1 + 1, 0, none⟩) 2 2) ([[1, 2], [2, 4]].map nl)] _) := Lib.hid (Env.noteT E3.out.drop (.rw (.slice (some ⟨w.heap.size + 1 + 1 + 1, 0, none⟩) 2 2) 2 1 (ncl [3, 1])) (Rw.boxP (o := [3, 1]) (E3.out.bx 0 rfl) (Nat.le_refl _) (by decide)))
  go_wp2_with fail
  refine (ex_solve (E4.out.fc 1 rfl) (E4.out.fc 0 rfl) (hl.out.below E4.out.bel)).mono ?_
  rintro e w1 ⟨⟨va, vk, ua, uk, rfl, vh, uh⟩, hb⟩
  have E5 : Hid (Env (fun _ : Nat => True) w [] [.mx (.slice ua ([ [3, 1] ] : List (List Nat)).length uk) ([ [3, 1] ].map nl), .rw (.slice va ([3, 0] : List Nat).length vk) ([3, 0] : List Nat).length 1 (ncl [3, 0]), .rw (.slice (some ⟨w.heap.size + 1 + 1 + 1, 0, none⟩) 2 2) 2 1 (ncl [3, 1]), .mx (.slice (some ⟨w.heap.size + 1 + 1, 0, none⟩) 2 2) ([[1, 2], [2, 4]].map nl)] w1) := Lib.hid (E4.out.got (E4.out.got (E4.out.below hb) (.rw (.slice va ([3, 0] : List Nat).length vk) ([3, 0] : List Nat).length 1 (ncl [3, 0])) vh.out) (.mx (.slice ua ([ [3, 1] ] : List (List Nat)).length uk) ([ [3, 1] ].map nl)) uh.out)
  clear E0 E1 E2 E3 E4 hb vh uh
  have E6 : Hid (Env (fun _ : Nat => True) w [(w1.heap.size, 3, [.int .i64 3, .int .i64 2])] [.mx (.slice ua ([ [3, 1] ] : List (List Nat)).length uk) ([ [3, 1] ].map nl), .rw (.slice va ([3, 0] : List Nat).length vk) ([3, 0] : List Nat).length 1 (ncl [3, 0]), .rw (.slice (some ⟨w.heap.size + 1 + 1 + 1, 0, none⟩) 2 2) 2 1 (ncl [3, 1]), .mx (.slice (some ⟨w.heap.size + 1 + 1, 0, none⟩) 2 2) ([[1, 2], [2, 4]].map nl)] _) := Lib.hid ((E5.out.push 3 [.int .i64 3, .int .i64 2] (w1.heap.size) (by simp)))
  have E7 : Hid (Env (fun _ : Nat => True) w [] [.rw (.slice (some ⟨w1.heap.size, 0, none⟩) 2 2) 2 1 (ncl [3, 2]), .mx (.slice ua ([ [3, 1] ] : List (List Nat)).length uk) ([ [3, 1] ].map nl), .rw (.slice va ([3, 0] : List Nat).length vk) ([3, 0] : List Nat).length 1 (ncl [3, 0]), .rw (.slice (some ⟨w.heap.size + 1 + 1 + 1, 0, none⟩) 2 2) 2 1 (ncl [3, 1]), .mx (.slice (some ⟨w.heap.size + 1 + 1, 0, none⟩) 2 2) ([[1, 2], [2, 4]].map nl)] _) := Lib.hid (Env.noteT E6.out.drop (.rw (.slice (some ⟨w1.heap.size, 0, none⟩) 2 2) 2 1 (ncl [3, 2])) (Rw.boxP (o := [3, 2]) (E6.out.bx 0 rfl) (Nat.le_refl _) (by decide)))
  go_wp2_with fail
  refine (ex_none (E7.out.fc 4 rfl) (E7.out.fc 0 rfl) (hl.out.below E7.out.bel)).mono ?_
  rintro e w2 ⟨rfl, hb⟩
  have E8 : Hid (Env (fun _ : Nat => True) w [] [.rw (.slice (some ⟨w1.heap.size, 0, none⟩) 2 2) 2 1 (ncl [3, 2]), .mx (.slice ua ([ [3, 1] ] : List (List Nat)).length uk) ([ [3, 1] ].map nl), .rw (.slice va ([3, 0] : List Nat).length vk) ([3, 0] : List Nat).length 1 (ncl [3, 0]), .rw (.slice (some ⟨w.heap.size + 1 + 1 + 1, 0, none⟩) 2 2) 2 1 (ncl [3, 1]), .mx (.slice (some ⟨w.heap.size + 1 + 1, 0, none⟩) 2 2) ([[1, 2], [2, 4]].map nl)] w2) := Lib.hid (E7.out.below hb)
  clear E5 E6 E7 hb
  have E9 : Hid (Env (fun _ : Nat => True) w [(w2.heap.size, 3, [.int .i64 3, .int .i64 1])] [.rw (.slice (some ⟨w1.heap.size, 0, none⟩) 2 2) 2 1 (ncl [3, 2]), .mx (.slice ua ([ [3, 1] ] : List (List Nat)).length uk) ([ [3, 1] ].map nl), .rw (.slice va ([3, 0] : List Nat).length vk) ([3, 0] : List Nat).length 1 (ncl [3, 0]), .rw (.slice (some ⟨w.heap.size + 1 + 1 + 1, 0, none⟩) 2 2) 2 1 (ncl [3, 1]), .mx (.slice (some ⟨w.heap.size + 1 + 1, 0, none⟩) 2 2) ([[1, 2], [2, 4]].map nl)] _) := Lib.hid ((E8.out.push 3 [.int .i64 3, .int .i64 1] (w2.heap.size) (by simp)))
  have E10 : Hid (Env (fun _ : Nat => True) w [] [.rw (.slice (some ⟨w2.heap.size, 0, none⟩) 2 2) 2 1 (ncl [3, 1]), .rw (.slice (some ⟨w1.heap.size, 0, none⟩) 2 2) 2 1 (ncl [3, 2]), .mx (.slice ua ([ [3, 1] ] : List (List Nat)).length uk) ([ [3, 1] ].map nl), .rw (.slice va ([3, 0] : List Nat).length vk) ([3, 0] : List Nat).length 1 (ncl [3, 0]), .rw (.slice (some ⟨w.heap.size + 1 + 1 + 1, 0, none⟩) 2 2) 2 1 (ncl [3, 1]), .mx (.slice (some ⟨w.heap.size + 1 + 1, 0, none⟩) 2 2) ([[1, 2], [2, 4]].map nl)] _) := Lib.hid (Env.noteT E9.out.drop (.rw (.slice (some ⟨w2.heap.size, 0, none⟩) 2 2) 2 1 (ncl [3, 1])) (Rw.boxP (o := [3, 1]) (E9.out.bx 0 rfl) (Nat.le_refl _) (by decide)))
  go_wp2_with fail
  refine (ex_count (E10.out.fc 5 rfl) (E10.out.fc 0 rfl) (hl.out.below E10.out.bel)).mono ?_
  rintro e w3 ⟨rfl, hb⟩
  have E11 : Hid (Env (fun _ : Nat => True) w [] [.rw (.slice (some ⟨w2.heap.size, 0, none⟩) 2 2) 2 1 (ncl [3, 1]), .rw (.slice (some ⟨w1.heap.size, 0, none⟩) 2 2) 2 1 (ncl [3, 2]), .mx (.slice ua ([ [3, 1] ] : List (List Nat)).length uk) ([ [3, 1] ].map nl), .rw (.slice va ([3, 0] : List Nat).length vk) ([3, 0] : List Nat).length 1 (ncl [3, 0]), .rw (.slice (some ⟨w.heap.size + 1 + 1 + 1, 0, none⟩) 2 2) 2 1 (ncl [3, 1]), .mx (.slice (some ⟨w.heap.size + 1 + 1, 0, none⟩) 2 2) ([[1, 2], [2, 4]].map nl)] w3) := Lib.hid (E10.out.below hb)
  clear E8 E9 E10 hb
  have E12 : Hid (Env (fun _ : Nat => True) w [(w3.heap.size + 1 + 1, 22, [.slice (some ⟨w3.heap.size, 0, none⟩) 2 2, .slice (some ⟨w3.heap.size + 1, 0, none⟩) 2 2]), (w3.heap.size + 1, 3, [.int .i64 3, .int .i64 4]), (w3.heap.size, 3, [.int .i64 1, .int .i64 2])] [.rw (.slice (some ⟨w2.heap.size, 0, none⟩) 2 2) 2 1 (ncl [3, 1]), .rw (.slice (some ⟨w1.heap.size, 0, none⟩) 2 2) 2 1 (ncl [3, 2]), .mx (.slice ua ([ [3, 1] ] : List (List Nat)).length uk) ([ [3, 1] ].map nl), .rw (.slice va ([3, 0] : List Nat).length vk) ([3, 0] : List Nat).length 1 (ncl [3, 0]), .rw (.slice (some ⟨w.heap.size + 1 + 1 + 1, 0, none⟩) 2 2) 2 1 (ncl [3, 1]), .mx (.slice (some ⟨w.heap.size + 1 + 1, 0, none⟩) 2 2) ([[1, 2], [2, 4]].map nl)] _) := Lib.hid ((((E11.out.push 3 [.int .i64 1, .int .i64 2] (w3.heap.size) (by simp)).push 3 [.int .i64 3, .int .i64 4] (w3.heap.size + 1) (by simp)).push 22 [.slice (some ⟨w3.heap.size, 0, none⟩) 2 2, .slice (some ⟨w3.heap.size + 1, 0, none⟩) 2 2] (w3.heap.size + 1 + 1) (by simp)))
  have E13 : Hid (Env (fun _ : Nat => True) w [] [.mx (.slice (some ⟨w3.heap.size + 1 + 1, 0, none⟩) 2 2) ([[1, 2], [3, 4]].map nl), .rw (.slice (some ⟨w2.heap.size, 0, none⟩) 2 2) 2 1 (ncl [3, 1]), .rw (.slice (some ⟨w1.heap.size, 0, none⟩) 2 2) 2 1 (ncl [3, 2]), .mx (.slice ua ([ [3, 1] ] : List (List Nat)).length uk) ([ [3, 1] ].map nl), .rw (.slice va ([3, 0] : List Nat).length vk) ([3, 0] : List Nat).length 1 (ncl [3, 0]), .rw (.slice (some ⟨w.heap.size + 1 + 1 + 1, 0, none⟩) 2 2) 2 1 (ncl [3, 1]), .mx (.slice (some ⟨w.heap.size + 1 + 1, 0, none⟩) 2 2) ([[1, 2], [2, 4]].map nl)] _) := Lib.hid (Env.noteT E12.out.drop.drop.drop (.mx (.slice (some ⟨w3.heap.size + 1 + 1, 0, none⟩) 2 2) ([[1, 2], [3, 4]].map nl)) (Mx.lit2 (r := [1, 2]) (s := [3, 4]) (E12.out.bx 0 rfl) (E12.out.bx 2 rfl) (E12.out.bx 1 rfl) (by decide) (by decide)))
  go_wp2_with fail
  refine (ex_inv (E13.out.fc 0 rfl) (hl.out.below E13.out.bel)).mono ?_
  rintro e w4 ⟨⟨ia, ik, rfl, ih⟩, hb⟩
  have E14 : Hid (Env (fun _ : Nat => True) w [] [.mx (.slice ia ([ [3, 1], [4, 2] ] : List (List Nat)).length ik) ([ [3, 1], [4, 2] ].map nl), .mx (.slice (some ⟨w3.heap.size + 1 + 1, 0, none⟩) 2 2) ([[1, 2], [3, 4]].map nl), .rw (.slice (some ⟨w2.heap.size, 0, none⟩) 2 2) 2 1 (ncl [3, 1]), .rw (.slice (some ⟨w1.heap.size, 0, none⟩) 2 2) 2 1 (ncl [3, 2]), .mx (.slice ua ([ [3, 1] ] : List (List Nat)).length uk) ([ [3, 1] ].map nl), .rw (.slice va ([3, 0] : List Nat).length vk) ([3, 0] : List Nat).length 1 (ncl [3, 0]), .rw (.slice (some ⟨w.heap.size + 1 + 1 + 1, 0, none⟩) 2 2) 2 1 (ncl [3, 1]), .mx (.slice (some ⟨w.heap.size + 1 + 1, 0, none⟩) 2 2) ([[1, 2], [2, 4]].map nl)] w4) := Lib.hid (E13.out.got (E13.out.below hb) (.mx (.slice ia ([ [3, 1], [4, 2] ] : List (List Nat)).length ik) ([ [3, 1], [4, 2] ].map nl)) ih.out)
  clear E11 E12 E13 hb ih
  have E15 : Hid (Env (fun _ : Nat => True) w [(w4.heap.size, 3, [.int .i64 3, .int .i64 0])] [.mx (.slice ia ([ [3, 1], [4, 2] ] : List (List Nat)).length ik) ([ [3, 1], [4, 2] ].map nl), .mx (.slice (some ⟨w3.heap.size + 1 + 1, 0, none⟩) 2 2) ([[1, 2], [3, 4]].map nl), .rw (.slice (some ⟨w2.heap.size, 0, none⟩) 2 2) 2 1 (ncl [3, 1]), .rw (.slice (some ⟨w1.heap.size, 0, none⟩) 2 2) 2 1 (ncl [3, 2]), .mx (.slice ua ([ [3, 1] ] : List (List Nat)).length uk) ([ [3, 1] ].map nl), .rw (.slice va ([3, 0] : List Nat).length vk) ([3, 0] : List Nat).length 1 (ncl [3, 0]), .rw (.slice (some ⟨w.heap.size + 1 + 1 + 1, 0, none⟩) 2 2) 2 1 (ncl [3, 1]), .mx (.slice (some ⟨w.heap.size + 1 + 1, 0, none⟩) 2 2) ([[1, 2], [2, 4]].map nl)] _) := Lib.hid ((E14.out.push 3 [.int .i64 3, .int .i64 0] (w4.heap.size) (by simp)))
  have E16 : Hid (Env (fun _ : Nat => True) w [] [.rw (.slice (some ⟨w4.heap.size, 0, none⟩) 2 2) 2 1 (ncl [3, 0]), .mx (.slice ia ([ [3, 1], [4, 2] ] : List (List Nat)).length ik) ([ [3, 1], [4, 2] ].map nl), .mx (.slice (some ⟨w3.heap.size + 1 + 1, 0, none⟩) 2 2) ([[1, 2], [3, 4]].map nl), .rw (.slice (some ⟨w2.heap.size, 0, none⟩) 2 2) 2 1 (ncl [3, 1]), .rw (.slice (some ⟨w1.heap.size, 0, none⟩) 2 2) 2 1 (ncl [3, 2]), .mx (.slice ua ([ [3, 1] ] : List (List Nat)).length uk) ([ [3, 1] ].map nl), .rw (.slice va ([3, 0] : List Nat).length vk) ([3, 0] : List Nat).length 1 (ncl [3, 0]), .rw (.slice (some ⟨w.heap.size + 1 + 1 + 1, 0, none⟩) 2 2) 2 1 (ncl [3, 1]), .mx (.slice (some ⟨w.heap.size + 1 + 1, 0, none⟩) 2 2) ([[1, 2], [2, 4]].map nl)] _) := Lib.hid (Env.noteT E15.out.drop (.rw (.slice (some ⟨w4.heap.size, 0, none⟩) 2 2) 2 1 (ncl [3, 0])) (Rw.boxP (o := [3, 0]) (E15.out.bx 0 rfl) (Nat.le_refl _) (by decide)))
  go_wp2_with fail
  refine (equalN_c (t := true) (a := [3, 0]) (b := [3, 0]) (E16.out.fc 6 rfl) (E16.out.fc 0 rfl) (by decide) (by decide) (by decide)).mono ?_
  rintro e w5 ⟨rfl, hb⟩
  have E17 : Hid (Env (fun _ : Nat => True) w [] [.rw (.slice (some ⟨w4.heap.size, 0, none⟩) 2 2) 2 1 (ncl [3, 0]), .mx (.slice ia ([ [3, 1], [4, 2] ] : List (List Nat)).length ik) ([ [3, 1], [4, 2] ].map nl), .mx (.slice (some ⟨w3.heap.size + 1 + 1, 0, none⟩) 2 2) ([[1, 2], [3, 4]].map nl), .rw (.slice (some ⟨w2.heap.size, 0, none⟩) 2 2) 2 1 (ncl [3, 1]), .rw (.slice (some ⟨w1.heap.size, 0, none⟩) 2 2) 2 1 (ncl [3, 2]), .mx (.slice ua ([ [3, 1] ] : List (List Nat)).length uk) ([ [3, 1] ].map nl), .rw (.slice va ([3, 0] : List Nat).length vk) ([3, 0] : List Nat).length 1 (ncl [3, 0]), .rw (.slice (some ⟨w.heap.size + 1 + 1 + 1, 0, none⟩) 2 2) 2 1 (ncl [3, 1]), .mx (.slice (some ⟨w.heap.size + 1 + 1, 0, none⟩) 2 2) ([[1, 2], [2, 4]].map nl)] w5) := Lib.hid (E16.out.below hb)
  clear E14 E15 E16 hb
  have E18 : Hid (Env (fun _ : Nat => True) w [(w5.heap.size + 1, 22, [.slice (some ⟨w5.heap.size, 0, none⟩) 2 2]), (w5.heap.size, 3, [.int .i64 3, .int .i64 1])] [.rw (.slice (some ⟨w4.heap.size, 0, none⟩) 2 2) 2 1 (ncl [3, 0]), .mx (.slice ia ([ [3, 1], [4, 2] ] : List (List Nat)).length ik) ([ [3, 1], [4, 2] ].map nl), .mx (.slice (some ⟨w3.heap.size + 1 + 1, 0, none⟩) 2 2) ([[1, 2], [3, 4]].map nl), .rw (.slice (some ⟨w2.heap.size, 0, none⟩) 2 2) 2 1 (ncl [3, 1]), .rw (.slice (some ⟨w1.heap.size, 0, none⟩) 2 2) 2 1 (ncl [3, 2]), .mx (.slice ua ([ [3, 1] ] : List (List Nat)).length uk) ([ [3, 1] ].map nl), .rw (.slice va ([3, 0] : List Nat).length vk) ([3, 0] : List Nat).length 1 (ncl [3, 0]), .rw (.slice (some ⟨w.heap.size + 1 + 1 + 1, 0, none⟩) 2 2) 2 1 (ncl [3, 1]), .mx (.slice (some ⟨w.heap.size + 1 + 1, 0, none⟩) 2 2) ([[1, 2], [2, 4]].map nl)] _) := Lib.hid (((E17.out.push 3 [.int .i64 3, .int .i64 1] (w5.heap.size) (by simp)).push 22 [.slice (some ⟨w5.heap.size, 0, none⟩) 2 2] (w5.heap.size + 1) (by simp)))
  have E19 : Hid (Env (fun _ : Nat => True) w [] [.mx (.slice (some ⟨w5.heap.size + 1, 0, none⟩) 1 1) ([ [3, 1] ].map nl), .rw (.slice (some ⟨w4.heap.size, 0, none⟩) 2 2) 2 1 (ncl [3, 0]), .mx (.slice ia ([ [3, 1], [4, 2] ] : List (List Nat)).length ik) ([ [3, 1], [4, 2] ].map nl), .mx (.slice (some ⟨w3.heap.size + 1 + 1, 0, none⟩) 2 2) ([[1, 2], [3, 4]].map nl), .rw (.slice (some ⟨w2.heap.size, 0, none⟩) 2 2) 2 1 (ncl [3, 1]), .rw (.slice (some ⟨w1.heap.size, 0, none⟩) 2 2) 2 1 (ncl [3, 2]), .mx (.slice ua ([ [3, 1] ] : List (List Nat)).length uk) ([ [3, 1] ].map nl), .rw (.slice va ([3, 0] : List Nat).length vk) ([3, 0] : List Nat).length 1 (ncl [3, 0]), .rw (.slice (some ⟨w.heap.size + 1 + 1 + 1, 0, none⟩) 2 2) 2 1 (ncl [3, 1]), .mx (.slice (some ⟨w.heap.size + 1 + 1, 0, none⟩) 2 2) ([[1, 2], [2, 4]].map nl)] _) := Lib.hid (Env.noteT E18.out.drop.drop (.mx (.slice (some ⟨w5.heap.size + 1, 0, none⟩) 1 1) ([ [3, 1] ].map nl)) (Mx.lit1 (r := [3, 1]) (E18.out.bx 0 rfl) (E18.out.bx 1 rfl) (by decide)))
  go_wp2_with fail
  refine (rSame_c (t := true) ([ [3, 1] ].map nl) ([ [3, 1] ].map nl) (E19.out.fc 6 rfl) (E19.out.fc 0 rfl) (by decide) (by decide) (by decide)).mono ?_
  rintro e w6 ⟨rfl, hb⟩
  have E20 : Hid (Env (fun _ : Nat => True) w [] [.mx (.slice (some ⟨w5.heap.size + 1, 0, none⟩) 1 1) ([ [3, 1] ].map nl), .rw (.slice (some ⟨w4.heap.size, 0, none⟩) 2 2) 2 1 (ncl [3, 0]), .mx (.slice ia ([ [3, 1], [4, 2] ] : List (List Nat)).length ik) ([ [3, 1], [4, 2] ].map nl), .mx (.slice (some ⟨w3.heap.size + 1 + 1, 0, none⟩) 2 2) ([[1, 2], [3, 4]].map nl), .rw (.slice (some ⟨w2.heap.size, 0, none⟩) 2 2) 2 1 (ncl [3, 1]), .rw (.slice (some ⟨w1.heap.size, 0, none⟩) 2 2) 2 1 (ncl [3, 2]), .mx (.slice ua ([ [3, 1] ] : List (List Nat)).length uk) ([ [3, 1] ].map nl), .rw (.slice va ([3, 0] : List Nat).length vk) ([3, 0] : List Nat).length 1 (ncl [3, 0]), .rw (.slice (some ⟨w.heap.size + 1 + 1 + 1, 0, none⟩) 2 2) 2 1 (ncl [3, 1]), .mx (.slice (some ⟨w.heap.size + 1 + 1, 0, none⟩) 2 2) ([[1, 2], [2, 4]].map nl)] w6) := Lib.hid (E19.out.below hb)
  clear E17 E18 E19 hb
  have E21 : Hid (Env (fun _ : Nat => True) w [(w6.heap.size + 1 + 1, 22, [.slice (some ⟨w6.heap.size, 0, none⟩) 2 2, .slice (some ⟨w6.heap.size + 1, 0, none⟩) 2 2]), (w6.heap.size + 1, 3, [.int .i64 4, .int .i64 2]), (w6.heap.size, 3, [.int .i64 3, .int .i64 1])] [.mx (.slice (some ⟨w5.heap.size + 1, 0, none⟩) 1 1) ([ [3, 1] ].map nl), .rw (.slice (some ⟨w4.heap.size, 0, none⟩) 2 2) 2 1 (ncl [3, 0]), .mx (.slice ia ([ [3, 1], [4, 2] ] : List (List Nat)).length ik) ([ [3, 1], [4, 2] ].map nl), .mx (.slice (some ⟨w3.heap.size + 1 + 1, 0, none⟩) 2 2) ([[1, 2], [3, 4]].map nl), .rw (.slice (some ⟨w2.heap.size, 0, none⟩) 2 2) 2 1 (ncl [3, 1]), .rw (.slice (some ⟨w1.heap.size, 0, none⟩) 2 2) 2 1 (ncl [3, 2]), .mx (.slice ua ([ [3, 1] ] : List (List Nat)).length uk) ([ [3, 1] ].map nl), .rw (.slice va ([3, 0] : List Nat).length vk) ([3, 0] : List Nat).length 1 (ncl [3, 0]), .rw (.slice (some ⟨w.heap.size + 1 + 1 + 1, 0, none⟩) 2 2) 2 1 (ncl [3, 1]), .mx (.slice (some ⟨w.heap.size + 1 + 1, 0, none⟩) 2 2) ([[1, 2], [2, 4]].map nl)] _) := Lib.hid ((((E20.out.push 3 [.int .i64 3, .int .i64 1] (w6.heap.size) (by simp)).push 3 [.int .i64 4, .int .i64 2] (w6.heap.size + 1) (by simp)).push 22 [.slice (some ⟨w6.heap.size, 0, none⟩) 2 2, .slice (some ⟨w6.heap.size + 1, 0, none⟩) 2 2] (w6.heap.size + 1 + 1) (by simp)))
  have E22 : Hid (Env (fun _ : Nat => True) w [] [.mx (.slice (some ⟨w6.heap.size + 1 + 1, 0, none⟩) 2 2) ([[3, 1], [4, 2]].map nl), .mx (.slice (some ⟨w5.heap.size + 1, 0, none⟩) 1 1) ([ [3, 1] ].map nl), .rw (.slice (some ⟨w4.heap.size, 0, none⟩) 2 2) 2 1 (ncl [3, 0]), .mx (.slice ia ([ [3, 1], [4, 2] ] : List (List Nat)).length ik) ([ [3, 1], [4, 2] ].map nl), .mx (.slice (some ⟨w3.heap.size + 1 + 1, 0, none⟩) 2 2) ([[1, 2], [3, 4]].map nl), .rw (.slice (some ⟨w2.heap.size, 0, none⟩) 2 2) 2 1 (ncl [3, 1]), .rw (.slice (some ⟨w1.heap.size, 0, none⟩) 2 2) 2 1 (ncl [3, 2]), .mx (.slice ua ([ [3, 1] ] : List (List Nat)).length uk) ([ [3, 1] ].map nl), .rw (.slice va ([3, 0] : List Nat).length vk) ([3, 0] : List Nat).length 1 (ncl [3, 0]), .rw (.slice (some ⟨w.heap.size + 1 + 1 + 1, 0, none⟩) 2 2) 2 1 (ncl [3, 1]), .mx (.slice (some ⟨w.heap.size + 1 + 1, 0, none⟩) 2 2) ([[1, 2], [2, 4]].map nl)] _) := Lib.hid (Env.noteT E21.out.drop.drop.drop (.mx (.slice (some ⟨w6.heap.size + 1 + 1, 0, none⟩) 2 2) ([[3, 1], [4, 2]].map nl)) (Mx.lit2 (r := [3, 1]) (s := [4, 2]) (E21.out.bx 0 rfl) (E21.out.bx 2 rfl) (E21.out.bx 1 rfl) (by decide) (by decide)))
  go_wp2_with fail
  refine (rSame_c (t := true) ([ [3, 1], [4, 2] ].map nl) ([ [3, 1], [4, 2] ].map nl) (E22.out.fc 3 rfl) (E22.out.fc 0 rfl) (by decide) (by decide) (by decide)).mono ?_
  rintro e w7 ⟨rfl, hb⟩
  have E23 : Hid (Env (fun _ : Nat => True) w [] [.mx (.slice (some ⟨w6.heap.size + 1 + 1, 0, none⟩) 2 2) ([[3, 1], [4, 2]].map nl), .mx (.slice (some ⟨w5.heap.size + 1, 0, none⟩) 1 1) ([ [3, 1] ].map nl), .rw (.slice (some ⟨w4.heap.size, 0, none⟩) 2 2) 2 1 (ncl [3, 0]), .mx (.slice ia ([ [3, 1], [4, 2] ] : List (List Nat)).length ik) ([ [3, 1], [4, 2] ].map nl), .mx (.slice (some ⟨w3.heap.size + 1 + 1, 0, none⟩) 2 2) ([[1, 2], [3, 4]].map nl), .rw (.slice (some ⟨w2.heap.size, 0, none⟩) 2 2) 2 1 (ncl [3, 1]), .rw (.slice (some ⟨w1.heap.size, 0, none⟩) 2 2) 2 1 (ncl [3, 2]), .mx (.slice ua ([ [3, 1] ] : List (List Nat)).length uk) ([ [3, 1] ].map nl), .rw (.slice va ([3, 0] : List Nat).length vk) ([3, 0] : List Nat).length 1 (ncl [3, 0]), .rw (.slice (some ⟨w.heap.size + 1 + 1 + 1, 0, none⟩) 2 2) 2 1 (ncl [3, 1]), .mx (.slice (some ⟨w.heap.size + 1 + 1, 0, none⟩) 2 2) ([[1, 2], [2, 4]].map nl)] w7) := Lib.hid (E22.out.below hb)
  clear E20 E21 E22 hb
  have hfin := Lib.hid E23.out.bel
  go_wp2
  go_ret
  exact ⟨rfl, hfin.out⟩
end Go.Proofs.YteipbcpnnojclaaDoor

/- matrix: system. -/
import Derived.Test.YtinlfogpbologaaDoorMatM
namespace Go.Proofs.YtinlfogpbologaaDoor
open Go.RowKit DivMath WordMath
set_option linter.unusedVariables false
set_option linter.unusedSimpArgs false
section
variable {D0 D : Nat → Prop} {w W : World} {F A B : List Bx} {G : List Fct} {g : Nat} {hs : List Value} {R : List Rb} {i m c : Nat} {r : Rb} {ad : Option Addr} {news : List Nat}
theorem set_split {α : Type} {R : List α} {i : Nat} {r : α} (h : R[i]? = some r) (r' : α) : R = R.take i ++ (r :: R.drop (i + 1)) ∧ R.set i r' = R.take i ++ (r' :: R.drop (i + 1)) := by
  obtain ⟨hi, e⟩ := List.getElem?_eq_some_iff.1 h
  refine ⟨?_, List.set_eq_take_append_cons_drop.trans (by rw [if_pos hi])⟩
  rw [← e, List.getElem_cons_drop, List.take_append_drop]
theorem mbh_split {A0 : List Bx} {r' : Rb} (h : R[i]? = some r) : A ++ (mbh g hs R ++ B) = (A ++ ((g, 22, hs) :: (R.take i).map Rb.bx)) ++ ([r.bx] ++ ((R.drop (i + 1)).map Rb.bx ++ B)) ∧ A ++ (mbh g hs (R.set i r') ++ B) = (A ++ ((g, 22, hs) :: (R.take i).map Rb.bx)) ++ ([r'.bx] ++ ((R.drop (i + 1)).map Rb.bx ++ B)) := by
  obtain ⟨h1, h2⟩ := set_split h r'
  unfold mbh
  constructor
  · conv => lhs; rw [h1]
    simp
  · rw [h2]; simp
/-- append onto a row of a matrix of the call's own -/
theorem mapp_run (ty : TypeId) (E : Env D0 w F G W) (hF : F = A ++ (mbh g hs R ++ B)) (hr : R[i]? = some r) (hcap : CapOk R) (hm : m ≠ 0) (hsrc : SrcN 1 W ad m (ncl news)) (hl : news.length = m) (hb : r.l.length + m ≤ 1000000) :
    ∃ W' r', (Builtin.append_ #[22, 22] ty #[.slice (some ⟨r.b, 0, none⟩) r.l.length (r.l.length + r.x.length), .slice ad m c]).run Tryd.prog W = .ok (.slice (some ⟨r'.b, 0, none⟩) r'.l.length (r'.l.length + r'.x.length)) W' ∧ r'.l = r.l ++ news ∧ CapOk (R.set i r') ∧ Env D0 w (A ++ (mbh g hs (R.set i r') ++ B)) G W' := by
  have hc := hcap r (List.mem_of_getElem? hr)
  obtain ⟨v', W', hrun, sg', cs', h1, h2, h3, h4⟩ := app_run tiI ty E (A := A ++ ((g, 22, hs) :: (R.take i).map Rb.bx)) (sg := [r.bx]) (B' := (R.drop (i + 1)).map Rb.bx ++ B) (hF.trans (mbh_split (A0 := []) (r' := r) hr).1) (n := r.l.length) (cs := ncl r.l ++ r.x) (v := .slice (some ⟨r.b, 0, none⟩) r.l.length (r.l.length + r.x.length))
    (.inr ⟨r.b, r.l.length + r.x.length, rfl, rfl, by omega, hc, by rw [List.length_append, ncl_len]; omega⟩) (c := c) hsrc hb
  obtain ⟨g', cap', rfl, rfl, k1, k2, k3⟩ := h4 hm
  have e1 : cs'.take (r.l.length + m) = ncl (r.l ++ news) := by
    simp only [Nat.mul_one] at h2
    rw [h2, List.take_append_of_le_length (by rw [ncl_len]; omega), List.take_of_length_le (by rw [ncl_len]; omega)]
    simp [ncl, nl, icl]
  have e2 : ncl (r.l ++ news) ++ cs'.drop (r.l.length + m) = cs' := by rw [← e1, List.take_append_drop]
  have e3 : (r.l ++ news).length + (cs'.drop (r.l.length + m)).length = cap' := by rw [List.length_append, List.length_drop, hl, k3]; omega
  have e4 : (r.l ++ news).length = r.l.length + m := by rw [List.length_append, hl]
  refine ⟨W', ⟨g', r.l ++ news, cs'.drop (r.l.length + m)⟩, ?_, rfl, ?_, ?_⟩
  · simp only
    rw [e3, e4]; exact hrun
  · intro x hx
    rcases List.mem_or_eq_of_mem_set hx with hx | rfl
    · exact hcap x hx
    · simp only; rw [e3]; exact k2
  · rw [(mbh_split (A0 := []) hr).2]
    unfold Rb.bx
    simp only
    rw [e2]
    exact h3
theorem wpl_mapp {ops : Array Oper} {rest : List Oper} {o : Oper} {a : Act} {Q : Exit → Act → World → Prop} (hgd : o.guard = none) (s x : Operand) (ho : o.op = .call { callee := .builtin .append, args := #[s, x], argTypes := #[22, 22] })
    (E : Env D0 w F G W) (hF : F = A ++ (mbh g hs R ++ B)) (hr : R[i]? = some r) (hcap : CapOk R) (hm : m ≠ 0) (hs' : a.eval s = .slice (some ⟨r.b, 0, none⟩) r.l.length (r.l.length + r.x.length)) (hx : a.eval x = .slice ad m c) (hsrc : SrcN 1 W ad m (ncl news)) (hl : news.length = m) (hb : r.l.length + m ≤ 1000000)
    (h : ∀ r' W', Hid (r'.l = r.l ++ news ∧ CapOk (R.set i r')) → Hid (Env D0 w (A ++ (mbh g hs (R.set i r') ++ B)) G W') → wpList Tryd.prog ops Q rest (a.put o.dst (.slice (some ⟨r'.b, 0, none⟩) r'.l.length (r'.l.length + r'.x.length))) W') :
    wpList Tryd.prog ops Q (o :: rest) a W := by
  refine wpList_plain hgd fun K hK => ?_
  obtain ⟨W', r', hrun, h1, h2, h3⟩ := mapp_run o.type E hF hr hcap hm hsrc hl hb (c := c)
  unfold Oper.wp execOp
  simp only [ho, resolve, invoke, builtin, Sem.run_bind, Sem.run_pure, Result.andThen_ok, List.map_toArray, List.map_cons, List.map_nil, hs', hx, hrun]
  exact hK _ _ (h r' W' (Lib.hid ⟨h1, h2⟩) (Lib.hid h3))
theorem op_mapp {o : Oper} {a : Act} {K : Act → World → Prop} {Q : Exit → Act → World → Prop} {EE : Prop} {ops : Array Oper} (d : Option Tmp) (hgd : o.guard = none) (hd : o.dst = d) (s x : Operand) (ho : o.op = .call { callee := .builtin .append, args := #[s, x], argTypes := #[22, 22] })
    (E : Env D0 w F G W) (hF : F = A ++ (mbh g hs R ++ B)) (hr : R[i]? = some r) (hcap : CapOk R) (hm : m ≠ 0) (hs' : a.eval s = .slice (some ⟨r.b, 0, none⟩) r.l.length (r.l.length + r.x.length)) (hx : a.eval x = .slice ad m c) (hsrc : SrcN 1 W ad m (ncl news)) (hl : news.length = m) (hb : r.l.length + m ≤ 1000000)
    (h : ∀ r' W', Hid (r'.l = r.l ++ news ∧ CapOk (R.set i r')) → Hid (Env D0 w (A ++ (mbh g hs (R.set i r') ++ B)) G W') → K (a.put d (.slice (some ⟨r'.b, 0, none⟩) r'.l.length (r'.l.length + r'.x.length))) W') :
    if Region.wanted o (yielded ops a.tmps) = true then Oper.wp Tryd.prog o a W K Q else EE := by
  have hw : Region.wanted o (yielded ops a.tmps) = true := by simp [Region.wanted, hgd]
  rw [if_pos hw]
  subst hd
  obtain ⟨W', r', hrun, h1, h2, h3⟩ := mapp_run o.type E hF hr hcap hm hsrc hl hb (c := c)
  unfold Oper.wp execOp
  simp only [ho, resolve, invoke, builtin, Sem.run_bind, Sem.run_pure, Result.andThen_ok, List.map_toArray, List.map_cons, List.map_nil, hs', hx, hrun]
  exact h r' W' (Lib.hid ⟨h1, h2⟩) (Lib.hid h3)
theorem hd_put {r' : Rb} (h : R[i]? = some r) : (R.map Rb.hd).set i r'.hd = (R.set i r').map Rb.hd := by rw [List.map_set]
/-- a matrix of the call's own becomes a fact -/
theorem Env.freezeM (E : Env D0 w (A ++ (mbx g R ++ B)) G W) (hc2 : R.length ≤ 9223372036854775807) (hb : CapOk R) : Env D0 w (A ++ B) (.mx (.slice (some ⟨g, 0, none⟩) R.length R.length) ((mrows R).map nl) :: G) W := by
  have E1 : Env D0 w (mbx g R ++ (A ++ B)) G W := E.perm (by
    rw [← List.append_assoc, ← List.append_assoc]
    exact (List.perm_append_right_iff B).2 List.perm_append_comm)
  have hpw := (List.pairwise_append.1 (held_iff.1 E1.box).2).2.2
  have hdrop : ∀ (S : List Bx) {T : List Bx}, Env D0 w (S ++ T) G W → Env D0 w T G W := by
    intro S
    induction S with
    | nil => intro T h; exact h
    | cons p S ih => intro T h; exact ih (Env.drop h)
  refine Env.note (hdrop _ E1) _ ⟨some ⟨g, 0, none⟩, R.length, by rw [List.length_map, List.length_map], by rw [List.length_map, List.length_map]; exact Nat.le_refl _, hc2, fun hne => ?_⟩
  have hg : (g, 22, R.map Rb.hd) ∈ mbx g R := by unfold mbx mbh; simp
  have hM := E1.mh (A := []) (B := A ++ B) (g := g) (hs := R.map Rb.hd) (R := R) rfl
  refine ⟨g, 0, rfl, ⟨hM.lt, fun p hp e => hpw _ hg p hp e.symm, .inr hM.1⟩, fun k l hl => ?_⟩
  rw [List.getElem?_map, List.getElem?_map] at hl
  cases h : R[k]? with
  | none => rw [h] at hl; cases hl
  | some r =>
    rw [h] at hl
    simp only [Option.map_some, Option.some.injEq] at hl
    subst hl
    have hr := E1.mr (A := []) (B := A ++ B) (g := g) (hs := R.map Rb.hd) (R := R) rfl h
    have hrm : (r.b, 3, ncl r.l ++ r.x) ∈ mbx g R := by
      unfold mbx mbh
      exact List.mem_cons_of_mem _ (List.mem_map.2 ⟨r, List.mem_of_getElem? h, rfl⟩)
    refine ⟨_, by rw [Nat.zero_add]; exact E1.mhd (A := []) (B := A ++ B) rfl h, Rw.toNl ⟨some ⟨r.b, 0, none⟩, _, rfl, Nat.le_add_right _ _, hb r (List.mem_of_getElem? h), ncl_len _, ncl_one _, fun _ => ⟨r.b, 0, rfl, ⟨hr.lt, fun p hp e => hpw _ hrm p hp e.symm, .inr hr.1⟩, fun j u hu => ?_⟩⟩⟩
    rw [Nat.zero_add]
    refine hr.cell j ?_
    rw [List.getElem?_append_left (List.getElem?_eq_some_iff.1 hu).1]
    exact hu
end
/-- the system with its right side -/
def sysL (L : List (List Nat)) (b : List Nat) : List (List Nat) := (List.range L.length).map fun i => L.getD i [] ++ [b.getD i 0]
theorem sysL_len {L : List (List Nat)} {b : List Nat} : (sysL L b).length = L.length := by simp [sysL]
theorem sysL_get {L : List (List Nat)} {b : List Nat} {i : Nat} (h : i < L.length) (h2 : i < b.length) : (sysL L b)[i]? = some (L[i] ++ [b[i]]) := by
  unfold sysL
  rw [List.getElem?_map, List.getElem?_range h]
  simp only [Option.map_some]
  rw [getL_elem h, getD_elem h2]
theorem sysL_res {q n : Nat} {L : List (List Nat)} {b : List Nat} (h : ResM q n L) (hb : ∀ x ∈ b, x < q) (hl : b.length = L.length) : ResM q (n + 1) (sysL L b) := by
  intro r hr
  obtain ⟨i, hi, rfl⟩ := List.getElem_of_mem hr
  have hi2 : i < L.length := by rw [sysL_len] at hi; exact hi
  have e := sysL_get (b := b) hi2 (by omega)
  rw [List.getElem?_eq_getElem hi] at e
  rw [Option.some.inj e]
  have h1 := h _ (List.getElem_mem hi2)
  refine ⟨by rw [List.length_append, h1.1]; rfl, fun x hx => ?_⟩
  rcases List.mem_append.1 hx with hx | hx
  · exact h1.2 x hx
  · rcases List.mem_singleton.1 hx with rfl; exact hb _ (List.getElem_mem _)
/-- is there a row below the pivots whose right side is not 0? -/
def noneB (n : Nat) (s : List (List Nat) × List Nat) : Bool := (s.1.drop s.2.length).any (fun r => r.getD n 0 != 0)
theorem noneB_no {n k : Nat} {s : List (List Nat) × List Nat} (h : ∀ j, j < s.1.length - s.2.length → (s.1.getD (s.2.length + j) []).getD n 0 = 0) : noneB n s = false := by
  unfold noneB
  refine List.any_eq_false.2 fun r hr => ?_
  obtain ⟨j, hj, rfl⟩ := List.getElem_of_mem hr
  rw [List.length_drop] at hj
  have h1 := h j hj
  rw [List.getElem_drop, ← getL_elem (by omega), h1]; simp
theorem noneB_yes {n k : Nat} {s : List (List Nat) × List Nat} (hk : s.2.length + k < s.1.length) (h : (s.1.getD (s.2.length + k) []).getD n 0 ≠ 0) : noneB n s = true := by
  unfold noneB
  refine List.any_eq_true.2 ⟨s.1.getD (s.2.length + k) [], ?_, by simpa using h⟩
  rw [getL_elem hk]
  have e : (s.1.drop s.2.length)[k]'(by rw [List.length_drop]; omega) = s.1[s.2.length + k] := List.getElem_drop
  rw [← e]; exact List.getElem_mem _
/-- what system returns -/
def RetSys (D : Nat → Prop) (t : Bool) (s : List (List Nat) × List Nat) (e : Ending) (w' : World) : Prop := (t = true ∧ e = .returned (.tuple #[.slice none 0 0, .slice none 0 0, .int .i64 7])) ∨
  (t = false ∧ ∃ ga gk pa pk, e = .returned (.tuple #[.slice ga s.1.length gk, .slice pa s.2.length pk, .int .i64 0]) ∧ Hid (Mx w' D (.slice ga s.1.length gk) (s.1.map nl)) ∧ Hid (Rw w' D (.slice pa s.2.length pk) s.2.length 1 (ncl s.2)))
set_option maxRecDepth 100000 in
set_option maxHeartbeats 1000000 in
theorem sys_no {D : Nat → Prop} (q : Int) (M : List (List Int)) (b : List Int) {xa ya : Option Addr} {xk yk : Nat} {w : World} (hx : Fct.at w D (.mx (.slice xa M.length xk) M)) (hy : Fct.at w D (.rw (.slice ya b.length yk) b.length 1 (icl b))) (hl0 : Laid w) (hn : -9223372036854775808 ≤ q ∧ q ≤ 9223372036854775807) (hv0 : mvB q M = false) :
    Calls Tryd.prog 74 #[.int .i64 q, .slice xa M.length xk, .slice ya b.length yk] w fun e w' => e = .returned (.tuple #[.slice none 0 0, .slice none 0 0, .int .i64 1]) ∧ Below w.heap.size w w' := by
  have E0 : Hid (Env D w [] [.rw (.slice ya b.length yk) b.length 1 (icl b), .mx (.slice xa M.length xk) M] w) := Lib.hid (((Env.start D w).arg (.mx (.slice xa M.length xk) M) hx).arg (.rw (.slice ya b.length yk) b.length 1 (icl b)) hy)
  clear hx hy
  go_enter Tryd.func74, Tryd.ntmps74
  have hl := Lib.hid hl0
  have hv := Lib.hid hv0
  clear hl0 hv0
  go_wp2_with fail
  refine (mValid_c q M (E0.out.fc 1 rfl) (hl.out.below E0.out.bel) hn hv.out).mono ?_
  rintro e w1 ⟨rfl, hb⟩
  have E1 : Hid (Env D w [] [.rw (.slice ya b.length yk) b.length 1 (icl b), .mx (.slice xa M.length xk) M] w1) := Lib.hid (E0.out.below hb)
  clear E0 hb
  have hfin := Lib.hid E1.out.bel
  go_wp2
  refine bodyPost_ret (results_tmp3 rfl _ _ _) rfl ?_
  exact ⟨rfl, hfin.out⟩
set_option maxRecDepth 100000 in
set_option maxHeartbeats 1000000 in
theorem sys_len {D : Nat → Prop} (q n : Nat) (L : List (List Nat)) (b : List Int) {xa ya : Option Addr} {xk yk : Nat} {w : World} (hx : Fct.at w D (.mx (.slice xa L.length xk) (L.map nl))) (hy : Fct.at w D (.rw (.slice ya b.length yk) b.length 1 (icl b))) (hl0 : Laid w) (hv0 : MvI q n L) (hne : ¬ b.length = L.length) :
    Calls Tryd.prog 74 #[.int .i64 (q : Nat), .slice xa L.length xk, .slice ya b.length yk] w fun e w' => e = .returned (.tuple #[.slice none 0 0, .slice none 0 0, .int .i64 1]) ∧ Below w.heap.size w w' := by
  have E0 : Hid (Env D w [] [.rw (.slice ya b.length yk) b.length 1 (icl b), .mx (.slice xa L.length xk) (L.map nl)] w) := Lib.hid (((Env.start D w).arg (.mx (.slice xa L.length xk) (L.map nl)) hx).arg (.rw (.slice ya b.length yk) b.length 1 (icl b)) hy)
  clear hx hy
  go_enter Tryd.func74, Tryd.ntmps74
  have hl := Lib.hid hl0
  have hv := Lib.hid hv0
  clear hl0 hv0
  have HNE := Lib.hid hne
  clear hne
  have m30 := hv.out.m30
  have n1 : ((b.length : Int) != (L.length : Int)) = true := by have h2 := HNE.out; rw [bne_iff_ne]; omega
  have n2 : (b.length != L.length) = true := by have h2 := HNE.out; rw [bne_iff_ne]; omega
  go_wp2_with fail
  refine (mValidN (E0.out.fc 1 rfl) (hl.out.below E0.out.bel) hv.out).mono ?_
  rintro e w1 ⟨rfl, hb⟩
  have E1 : Hid (Env D w [] [.rw (.slice ya b.length yk) b.length 1 (icl b), .mx (.slice xa L.length xk) (L.map nl)] w1) := Lib.hid (E0.out.below hb)
  clear E0 hb
  have hfin := Lib.hid E1.out.bel
  go_wp2
  refine bodyPost_ret (results_tmp3 rfl _ _ _) rfl ?_
  exact ⟨rfl, hfin.out⟩
set_option maxRecDepth 100000 in
set_option maxHeartbeats 1000000 in
theorem sys_rng {D : Nat → Prop} (q n : Nat) (L : List (List Nat)) (b : List Int) {xa ya : Option Addr} {xk yk : Nat} {w : World} (hx : Fct.at w D (.mx (.slice xa L.length xk) (L.map nl))) (hy : Fct.at w D (.rw (.slice ya b.length yk) b.length 1 (icl b))) (hl0 : Laid w) (hv0 : MvI q n L) (hne : b.length = L.length) (hs0 : b.all (resB (q : Int)) = false) :
    Calls Tryd.prog 74 #[.int .i64 (q : Nat), .slice xa L.length xk, .slice ya b.length yk] w fun e w' => e = .returned (.tuple #[.slice none 0 0, .slice none 0 0, .int .i64 2]) ∧ Below w.heap.size w w' := by
  have E0 : Hid (Env D w [] [.rw (.slice ya b.length yk) b.length 1 (icl b), .mx (.slice xa L.length xk) (L.map nl)] w) := Lib.hid (((Env.start D w).arg (.mx (.slice xa L.length xk) (L.map nl)) hx).arg (.rw (.slice ya b.length yk) b.length 1 (icl b)) hy)
  clear hx hy
  go_enter Tryd.func74, Tryd.ntmps74
  have hl := Lib.hid hl0
  have hv := Lib.hid hv0
  have hs := Lib.hid hs0
  clear hl0 hv0 hs0
  have HNE := Lib.hid hne
  clear hne
  have m30 := hv.out.m30
  have n1 : ((b.length : Int) != (L.length : Int)) = false := by have h2 := HNE.out; rw [h2]; simp
  have n2 : (b.length != L.length) = false := by have h2 := HNE.out; rw [h2]; simp
  go_wp2_with fail
  refine (mValidN (E0.out.fc 1 rfl) (hl.out.below E0.out.bel) hv.out).mono ?_
  rintro e w1 ⟨rfl, hb⟩
  have E1 : Hid (Env D w [] [.rw (.slice ya b.length yk) b.length 1 (icl b), .mx (.slice xa L.length xk) (L.map nl)] w1) := Lib.hid (E0.out.below hb)
  clear E0 hb
  have hx9 : b.length ≤ 1000000 := by have := HNE.out; omega
  go_wp2_with fail
  refine (scalars_c (q : Int) b (E1.out.fc 0 rfl) hs.out hx9).mono ?_
  rintro e w2 ⟨rfl, hb⟩
  have E2 : Hid (Env D w [] [.rw (.slice ya b.length yk) b.length 1 (icl b), .mx (.slice xa L.length xk) (L.map nl)] w2) := Lib.hid (E1.out.below hb)
  clear E1 hb
  have hfin := Lib.hid E2.out.bel
  go_wp2
  refine bodyPost_ret (results_tmp3 rfl _ _ _) rfl ?_
  exact ⟨rfl, hfin.out⟩
end Go.Proofs.YtinlfogpbologaaDoor

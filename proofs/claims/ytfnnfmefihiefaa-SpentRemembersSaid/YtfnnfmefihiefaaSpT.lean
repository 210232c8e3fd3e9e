/- The spends that the laws make, and what the chapter's example comes to. -/
import Derived.Test.YtfnnfmefihiefaaSpS
namespace Go.Proofs.Ytfnnfmefihiefaa
open Go.RowKit
set_option linter.unusedVariables false
set_option linter.unusedSimpArgs false
def mkCoin (a : Int) : List Value := List.replicate 4 (.int .i64 0) ++ (.int .i64 a :: (List.replicate 32 (.int .u8 0) ++ List.replicate 4 (.int .i64 0)))
def mkCtx (n : Int) : List Value := List.replicate 32 (.int .u8 0) ++ [.int .i64 0, .int .i64 n]
/-- a spend of some leaves of a pseudonym -/
def mkS (a n : Int) (l : List Int) : Sp := ⟨mkCoin a, zNode, mkCtx n, l.map (fun b => (b, 0, 0)), 0, []⟩
theorem mapM_isSome {α β : Type} (f : α → Option β) : ∀ l : List α, (∀ x ∈ l, (f x).isSome = true) → (l.mapM f).isSome = true
  | [], _ => by simp
  | x :: l, h => by
    obtain ⟨y, hy⟩ := Option.isSome_iff_exists.1 (h x (by simp))
    obtain ⟨ys, hys⟩ := Option.isSome_iff_exists.1 (mapM_isSome f l fun z hz => h z (by simp [hz]))
    rw [List.mapM_cons, hy, hys]; rfl
theorem keyLits_struct_some {d : Nat} {t : TypeId} {cs : List Value} {fs : Array Field} (hu : Try.prog.underlying t = some (.struct fs)) (hl : cs.length = Try.prog.cellsOf t) (hb : fs.all (·.name != "_") = true)
    (h : ∀ f ∈ fs.toList, (Try.prog.keyLits d f.type ((cs.drop f.offset).take (Try.prog.cellsOf f.type))).isSome = true) : (Try.prog.keyLits (d + 1) t cs).isSome = true := by
  unfold Program.keyLits
  simp only [hu]
  rw [if_pos ⟨hl, hb⟩, Option.isSome_map]
  exact mapM_isSome _ _ h
/-- a number that an int can be -/
def wI (a : Int) : Prop := (Lit.int .i64 a).wf = true
theorem keyLits_int_some {d : Nat} {a : Int} (h : wI a) : (Try.prog.keyLits (d + 1) 3 [.int .i64 a]).isSome = true := by
  unfold Program.keyLits
  simp only [Try.underlying3]
  rw [if_pos ⟨trivial, h⟩]; rfl
theorem okMkCoin {a : Int} (h : wI a) : okc 31 (mkCoin a) := by
  refine ⟨by kernel_rfl, keyLits_struct_some Try.underlying31 (by kernel_rfl) (by kernel_rfl) ?_⟩
  intro f hf
  simp only [List.mem_cons, List.not_mem_nil, or_false] at hf
  rcases hf with rfl | rfl | rfl | rfl | rfl | rfl | rfl
  · kernel_rfl
  · kernel_rfl
  · kernel_rfl
  · kernel_rfl
  · have e : [Value.int .i64 a] = ((mkCoin a).drop 4).take (Try.prog.cellsOf 3) := by kernel_rfl
    have h2 := keyLits_int_some (d := 7) h
    rw [e] at h2
    exact h2
  · kernel_rfl
  · kernel_rfl
theorem okMkCtx {n : Int} (h : wI n) : okc 35 (mkCtx n) := by
  refine ⟨by kernel_rfl, keyLits_struct_some Try.underlying35 (by kernel_rfl) (by kernel_rfl) ?_⟩
  intro f hf
  simp only [List.mem_cons, List.not_mem_nil, or_false] at hf
  rcases hf with rfl | rfl | rfl
  · kernel_rfl
  · kernel_rfl
  · have e : [Value.int .i64 n] = ((mkCtx n).drop 33).take (Try.prog.cellsOf 3) := by kernel_rfl
    have h2 := keyLits_int_some (d := 7) h
    rw [e] at h2
    exact h2
theorem mkS_ok {a n : Int} (ha : wI a) (hn : wI n) (l : List Int) : SpOk (mkS a n l) := ⟨okMkCoin ha, okNode, okMkCtx hn, by intro c hc; cases hc⟩
theorem mkS_ca (a n : Int) (l : List Int) : cInt (mkS a n l).cn 4 = a := rfl
theorem mkS_inj {a n a' n' : Int} {l l' : List Int} (h : mkS a n l = mkS a' n' l') : n = n' := by
  have h1 := congrArg (fun s => cInt s.cx 33) h
  exact h1
theorem mkS_len (a n : Int) (l : List Int) : (mkS a n l).lv.length = l.length := List.length_map ..
theorem mkS_leaf (a n : Int) (l : List Int) {k : Nat} (h : k < l.length) : leafB (mkS a n l) k = l[k] := by
  unfold leafB
  have e : (mkS a n l).lv[k]? = some (l[k], 0, 0) := by
    show (l.map (fun b => (b, (0 : Int), (0 : Int))))[k]? = _
    rw [List.getElem?_map, List.getElem?_eq_getElem h]; rfl
  rw [e]
theorem mkS_st {a n : Int} {l : List Int} (h1 : 1 ≤ l.length) (h2 : l.length ≤ 32) (h3 : ∀ i (hi : i < l.length) j (hj : j < l.length), j < i → l[j] ≠ l[i]) : StOk (mkS a n l) := by
  refine ⟨by rw [mkS_len]; exact h1, by rw [mkS_len]; exact h2, Nat.zero_le _, fun i hi j hj h => ?_⟩
  have hi' : i < l.length := by rwa [mkS_len] at hi
  have hj' : j < l.length := by rwa [mkS_len] at hj
  rw [← leafB_eq hi, ← leafB_eq hj, mkS_leaf a n l hi', mkS_leaf a n l hj']
  exact h3 i hi' j hj' h
def aw1 : Sp := mkS 5 1 [7, 9]
def aw2 : Sp := mkS 5 2 [9, 8]
theorem aw1_st : StOk aw1 := mkS_st (by decide) (by decide) (by decide)
theorem aw2_st : StOk aw2 := mkS_st (by decide) (by decide) (by decide)
def awT : List Us := [useOf aw1 0, useOf aw1 1]
def awU : List Us := [useOf aw1 0, useOf aw2 1, useOf aw1 1]
theorem valid_nil : ValidT [] := ⟨Nat.zero_le _, (fun u hu => by cases hu), fun i u v hu => by simp at hu⟩
theorem aw_put1 : putN aw1 [] 2 = (awT, []) := rfl
theorem aw_put2 : putN aw2 awT 2 = (awU, [useOf aw1 1]) := rfl
theorem aw12 : aw1 ≠ aw2 := fun h => absurd (mkS_inj h) (by decide)
theorem aw_res1 : putRes [] aw1 = (awT, [], 0) := by
  rw [putRes_ok valid_nil aw1_st (by rintro ⟨u, hu, _⟩; cases hu) (by show ¬ 2000 < (putN aw1 [] 2).1.length; rw [aw_put1]; decide)]
  show ((putN aw1 [] 2).1, (putN aw1 [] 2).2, (0 : Int)) = _
  rw [aw_put1]
theorem awT_valid : ValidT awT := by
  have h := putN_valid valid_nil aw1_st (by show ¬ 2000 < (putN aw1 [] 2).1.length; rw [aw_put1]; decide)
  have e : (putN aw1 [] aw1.lv.length).1 = awT := by show (putN aw1 [] 2).1 = _; rw [aw_put1]
  rwa [e] at h
theorem awT_no : ¬ ∃ u ∈ awT, u.sp = aw2 := by
  rintro ⟨u, hu, h⟩
  unfold awT at hu
  simp only [List.mem_cons, List.not_mem_nil, or_false] at hu
  rcases hu with rfl | rfl <;> exact aw12 h
theorem aw_res2 : putRes awT aw2 = (awU, [useOf aw1 1], 0) := by
  rw [putRes_ok awT_valid aw2_st awT_no (by show ¬ 2000 < (putN aw2 awT 2).1.length; rw [aw_put2]; decide)]
  show ((putN aw2 awT 2).1, (putN aw2 awT 2).2, (0 : Int)) = _
  rw [aw_put2]
theorem awU_valid : ValidT awU := by
  have h := putN_valid awT_valid aw2_st (by show ¬ 2000 < (putN aw2 awT 2).1.length; rw [aw_put2]; decide)
  have e : (putN aw2 awT aw2.lv.length).1 = awU := by show (putN aw2 awT 2).1 = _; rw [aw_put2]
  rwa [e] at h
theorem aw_res3 : putRes awU aw1 = ([], [], 8) := putRes_twice awU_valid aw1_st ⟨useOf aw1 0, by simp [awU], rfl⟩
/-! ### literals -/
theorem built_coin (a : Int) : Try.prog.built 31 [(4, .int .i64 a)] = some (mkCoin a).toArray := by kernel_rfl
theorem built_ctx (n : Int) : Try.prog.built 35 [(2, .int .i64 n)] = some (mkCtx n).toArray := by kernel_rfl
theorem built_mkS (a n : Int) : Try.prog.built 41 [(0, .agg (mkCoin a).toArray), (2, .agg (mkCtx n).toArray)] = some (spc (mkS a n []) nilV nilV).toArray := by kernel_rfl
section
variable {ops : Array Oper} {rest : List Oper} {op : Oper} {a : Act} {w : World} {Q : Exit → Act → World → Prop}
theorem wpl_coin (A : Int) (hg : op.guard = none) (hx : ∃ x, op.op = .build 31 #[(4, x)] ∧ a.eval x = .int .i64 A)
    (h : wpList Try.prog ops Q rest (a.put op.dst (.agg (mkCoin A).toArray)) w) : wpList Try.prog ops Q (op :: rest) a w := by
  obtain ⟨x, ho, h1⟩ := hx
  exact wpl_build_b hg _ ho [(4, .int .i64 A)] (by simp [h1]) _ (built_coin A) h
theorem wpl_ctx (N : Int) (hg : op.guard = none) (hx : ∃ x, op.op = .build 35 #[(2, x)] ∧ a.eval x = .int .i64 N)
    (h : wpList Try.prog ops Q rest (a.put op.dst (.agg (mkCtx N).toArray)) w) : wpList Try.prog ops Q (op :: rest) a w := by
  obtain ⟨x, ho, h1⟩ := hx
  exact wpl_build_b hg _ ho [(2, .int .i64 N)] (by simp [h1]) _ (built_ctx N) h
theorem wpl_mkS {m : Sp} (A N : Int) (hm : m = mkS A N []) (hg : op.guard = none) (hx : ∃ x y, op.op = .build 41 #[(0, x), (2, y)] ∧ a.eval x = .agg (mkCoin A).toArray ∧ a.eval y = .agg (mkCtx N).toArray)
    (h : wpList Try.prog ops Q rest (a.put op.dst (.agg (spc m nilV nilV).toArray)) w) : wpList Try.prog ops Q (op :: rest) a w := by
  obtain ⟨x, y, ho, h1, h2⟩ := hx
  subst hm
  exact wpl_build_b hg _ ho [(0, .agg (mkCoin A).toArray), (2, .agg (mkCtx N).toArray)] (by simp [h1, h2]) _ (built_mkS A N) h
end
/-- a spend came back -/
def RetSp (D : Nat → Prop) (s : Sp) (e : Ending) (W : World) : Prop := ∃ la pa, e = .returned (.agg (spc s la pa).toArray) ∧ Hid ((gSp s la pa).at_ W D)
/-- a table, conflicts, an error number, in their form -/
def RetT (D : Nat → Prop) (L C : List Us) (n : Int) (e : Ending) (W : World) : Prop := ∃ va vk X ca ck Y, e = .returned (.tuple #[.agg #[.slice va X.length vk], .slice ca Y.length ck, .int .i64 n]) ∧ X.map Uv.u = L ∧ Y.map Uv.u = C ∧ Hid ((gUl (.slice va X.length vk) X).at_ W D) ∧ Hid ((gUl (.slice ca Y.length ck) Y).at_ W D)
theorem RetTCE.open {D : Nat → Prop} {L C : List Us} {n : Int} {e : Ending} {W : World} (h : RetTCE D L C n e W) : RetT D L C n e W := by
  obtain ⟨v, X, c, Y, rfl, h1, h2, h3, h4⟩ := h
  obtain ⟨va, vk, rfl⟩ := gUl.len h3.out
  obtain ⟨ca, ck, rfl⟩ := gUl.len h4.out
  exact ⟨va, vk, X, ca, ck, Y, rfl, h1, h2, h3, h4⟩
theorem valid_bd {X : List Uv} (h : ValidT (X.map Uv.u)) : ∀ x ∈ X, x.u.sp.lv.length ≤ 1000000 ∧ x.u.sp.pa.length ≤ 1000000 := fun x hx => by
  have h1 := (h.2.1 x.u (List.mem_map.2 ⟨x, hx, rfl⟩)).1
  have h2 := h1.2.1
  have h3 := h1.2.2.1
  omega
theorem valid_len {X : List Uv} (h : ValidT (X.map Uv.u)) : X.length ≤ 2000 := by have := h.1; rwa [List.length_map] at this
theorem st_bd {s : Sp} (h : StOk s) : s.lv.length ≤ 1000000 ∧ s.pa.length ≤ 1000000 := by
  have h2 := h.2.1
  have h3 := h.2.2.1
  omega
theorem put_t {D : Nat → Prop} (X : List Uv) (s : Sp) {ta : Option Addr} {tk : Nat} {za zb : Value} {w : World} (hx : Fct.at w D (.gn (gUl (.slice ta X.length tk) X))) (hs : Fct.at w D (.gn (gSp s za zb))) (hb : ∀ x ∈ X, x.u.sp.lv.length ≤ 1000000 ∧ x.u.sp.pa.length ≤ 1000000) (hf : s.lv.length ≤ 1000000 ∧ s.pa.length ≤ 1000000) (hm : X.length ≤ 100000) {L C : List Us} {n : Int} (hr : putRes (X.map Uv.u) s = (L, C, n)) :
    Calls Try.prog 10 #[.agg #[.slice ta X.length tk], .agg (spc s za zb).toArray] w fun e w' => RetT (fun b => D b ∨ w.heap.size ≤ b) L C n e w' ∧ Below w.heap.size w w' :=
  (put_c X s hx hs hb hf hm hr).mono fun _ _ h => ⟨RetTCE.open h.1, h.2⟩
theorem lcl_snoc (l : List (Int × Int × Int)) (x : Int × Int × Int) : lcl (l ++ [x]) = lcl l ++ [.int .i64 x.1, .int .i64 x.2.1, .int .i64 x.2.2] := by
  induction l with
  | nil => rfl
  | cons y l ih =>
    have e : ∀ (y : Int × Int × Int) l, lcl (y :: l) = .int .i64 y.1 :: .int .i64 y.2.1 :: .int .i64 y.2.2 :: lcl l := fun _ _ => rfl
    rw [List.cons_append, e, ih, e]; rfl
theorem kCtx : Try.prog.keyLits 9 35 zCtx = some (List.replicate 32 (.int .u8 0) ++ List.replicate 2 (.int .i64 0)) := by kernel_rfl
theorem tCtx33 {c : List Value} (h : okc 35 c) : c[33]? = some (.int .i64 (cInt c 33)) := h.int tCtx kCtx (n := 0) (j := 33) rfl
theorem usc_num {u : Us} (h : SpOk u.sp) (la pa : Value) : (usc u la pa)[78]? = some (.int .i64 (cInt u.sp.cx 33)) := by
  refine usc_sp' h la pa (j := 76) rfl (by omega) ?_
  have hl := h.cx.len wCtx
  have := spc_cx h la pa 33 (by omega)
  rw [show 76 = 43 + 33 by omega, this]
  exact tCtx33 h.cx
end Go.Proofs.Ytfnnfmefihiefaa

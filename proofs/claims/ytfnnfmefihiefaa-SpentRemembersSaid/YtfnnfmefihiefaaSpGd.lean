/- Steps of SpentRemembers: look-ups that hit or miss, a number appended beside a map, spends that came in with numbers that ints hold. -/
import Derived.Test.YtfnnfmefihiefaaSpGc
namespace Go.Proofs.Ytfnnfmefihiefaa
open Go.RowKit Go.Maps Go.WideMaps Go.ChangeShapes Go.WideShapes Go.ChangeAt Go.Deep
set_option linter.unusedVariables false
set_option linter.unusedSimpArgs false
section
variable {D0 : Nat → Prop} {w W W' : World} {F F' A B' sg : List Bx} {G G' : List Fct} {K : List Nat} {Q : World → Prop} {cs : List Value} {v : Value}
variable {ops : Array Oper} {rest : List Oper} {o : Oper} {a : Act} {R : Exit → Act → World → Prop} {mb n : Nat} {M : Mk}
theorem wpl_lookS (hg : o.guard = none) (m x : Operand) (hop : o.op = Op.lookup 63 m x true) (hQ : QM mb n M W) (hm : a.eval m = .map (some mb)) {p q : Int} (hx : a.eval x = .agg #[.int .i64 p, .int .i64 q]) (wp : wI p) (wq : wI q) {k : Nat} (hk : M p q = some k)
    (h : wpList Try.prog ops R rest (a.put o.dst (.tuple #[.int .i64 (k : Int), .bool true])) W) : wpList Try.prog ops R (o :: rest) a W :=
  wpl_lookM hg m x hop hQ hm hx wp wq (by rw [hk]; exact h)
theorem wpl_lookN (hg : o.guard = none) (m x : Operand) (hop : o.op = Op.lookup 63 m x true) (hQ : QM mb n M W) (hm : a.eval m = .map (some mb)) {p q : Int} (hx : a.eval x = .agg #[.int .i64 p, .int .i64 q]) (wp : wI p) (wq : wI q) (hk : M p q = none)
    (h : wpList Try.prog ops R rest (a.put o.dst (.tuple #[.int .i64 0, .bool false])) W) : wpList Try.prog ops R (o :: rest) a W :=
  wpl_lookM hg m x hop hQ hm hx wp wq (by rw [hk]; exact h)
/-- append of one number onto a row of the call's own, beside what no box holds -/
theorem wpl_appX (hgd : o.guard = none) (s x : Operand) (ho : o.op = .call { callee := .builtin .append, args := #[s, x], argTypes := #[64, 64] })
    (E : EnvX D0 w F G K Q W) (hF : F = A ++ (sg ++ B')) {l : List Int} (hL : OI sg cs v l) (hs : a.eval s = v) {ad : Option Addr} {c : Nat} {y : Int} (hx : a.eval x = .slice ad 1 c) (hsrc : SrcN 1 W ad 1 [.int .i64 y]) (hb : l.length + 1 ≤ 1000000)
    (h : ∀ (g' cap' : Nat) (cs' : List Value) (W' : World), Hid (OI [(g', 3, cs')] cs' (.slice (some ⟨g', 0, none⟩) (l ++ [y]).length cap') (l ++ [y])) → Hid (EnvX D0 w (A ++ ((g', 3, cs') :: B')) G K Q W') → wpList Try.prog ops R rest (a.put o.dst (.slice (some ⟨g', 0, none⟩) (l ++ [y]).length cap')) W') :
    wpList Try.prog ops R (o :: rest) a W := by
  refine wpList_plain hgd fun KK hKK => ?_
  obtain ⟨hu, i0, z, by0, hi0, z0, z1, z2, z3, z4, z5⟩ := tiI
  obtain ⟨hnl, h1, hcell⟩ := hsrc
  obtain ⟨aa, rfl, hcell2⟩ := hcell.resolve_left (by decide)
  subst hF
  have hO := hL.1
  have hown : W.ownsRow 0 3 1 v l.length (cs.take (l.length * 1)) := by
    rcases hO with ⟨rfl, rfl, rfl, h0⟩ | ⟨g, cap, rfl, rfl, h2, h3, h4⟩
    · exact ⟨by simp [h0], .inl ⟨rfl, h0⟩⟩
    · have hX := E.bx A.length (b := g) (T := 3) (cs := cs) (by simp)
      exact ⟨by rw [List.length_take, h4, Nat.min_eq_left (Nat.mul_le_mul_right _ h2)], .inr ⟨g, cap, cs.toArray, rfl, Nat.zero_le _, hX.2, h2, by unfold maxLen; omega, by simpa using h4, by simp⟩⟩
  have hby : (l.length + 1) * by0 ≤ 140737488355328 := Nat.le_trans (Nat.mul_le_mul hb z5) (by decide)
  obtain ⟨v', W', hr, hown', hgrow, hnil, hat⟩ := run_append_own_at (P := Try.prog) W 0 64 o.type 3 i0 z 1 by0 hu hi0 z0 z1 z2 z3 z4 v l.length _ hown aa 1 c [.int .i64 y] hnl hcell2 h1 (by unfold maxLen; omega) hby (Nat.zero_le _)
  rcases hown'.2 with ⟨rfl, h0⟩ | ⟨g', cap', cur, rfl, _, hg, h2, h3, h4, h5⟩
  · have := (hnil.1 rfl).2; omega
  have hgg : (g' < W.heap.size → ∃ p ∈ A ++ (sg ++ B'), p.1 = g') := by
    intro hlt
    rcases hO with ⟨rfl, rfl, rfl, _⟩ | ⟨g, cap, rfl, rfl, _⟩
    · rcases hat with h | h <;> simp [Value.ownBlock] at h
      omega
    · rcases hat with h | h <;> simp [Value.ownBlock] at h
      · exact ⟨(g, 3, cs), by simp, h.symm⟩
      · omega
  have hE : Env D0 w (A ++ ((g', 3, cur.toList) :: B')) G W' := by
    rcases hO with ⟨rfl, rfl, rfl, _⟩ | ⟨g, cap, rfl, rfl, e1, e2, e3⟩
    · have hbw : Below W.heap.size W W' := ⟨hgrow.os, hgrow.tape, hgrow.output, hgrow.size, fun k hk => hgrow.block k hk (by simp [Value.ownBlock])⟩
      have hgg : W.heap.size ≤ g' := by
        rcases hat with h | h <;> simp [Value.ownBlock] at h
        omega
      have E3 := E.env.gotBox hbw (g := g') (T := 3) (cs := cur.toList) ⟨hgg, by rw [Array.toArray_toList]; exact hg⟩
      exact E3.perm (by rw [List.nil_append]; exact List.perm_middle.symm)
    · have hgg : g' = g ∨ W.heap.size ≤ g' := by
        rcases hat with h | h
        · simp [Value.ownBlock] at h; exact .inl h
        · simp [Value.ownBlock] at h; exact .inr (by omega)
      have hoff : Off g W W' := ⟨hgrow.os, hgrow.tape, hgrow.output, hgrow.size, fun k hk hne => hgrow.block k hk (by simp [Value.ownBlock]; omega)⟩
      have E3 := E.env.ins A.length (g := g) (T := 3) (cs := cs) (by simp) hoff hgg (cs' := cur.toList) (by rw [Array.toArray_toList]; exact hg)
      have e : (A ++ ([(g, 3, cs)] ++ B')).set A.length (g', 3, cur.toList) = A ++ ((g', 3, cur.toList) :: B') := by simp
      rw [e] at E3; exact E3
  have hX : EnvX D0 w (A ++ ((g', 3, cur.toList) :: B')) G K Q W' := by
    refine E.move hE hgrow.size (fun b hk => hgrow.block b (E.own b hk).2.1 ?_) fun b hk p hp e => ?_
    · rcases hO with ⟨rfl, rfl, rfl, _⟩ | ⟨g, cap, rfl, rfl, _⟩
      · simp [Value.ownBlock]
      · have := (E.own b hk).2.2 (g, 3, cs) (by simp)
        simp only [Value.ownBlock]
        intro e2
        simp at e2
        exact this e2.symm
    · rcases List.mem_append.1 hp with hp | hp
      · exact (E.own b hk).2.2 p (by simp [hp]) e
      · rcases List.mem_cons.1 hp with rfl | hp
        · simp only at e
          subst e
          obtain ⟨p, hp, e⟩ := hgg (E.own _ hk).2.1
          exact (E.own _ hk).2.2 p hp e
        · exact (E.own b hk).2.2 p (by simp [hp]) e
  have hL' := OI.app (x := y) (cs' := cur.toList) (g' := g') (cap' := cap') hL rfl ⟨h2, by unfold maxLen at h3; omega, by simpa using h4⟩ h5
  have hlen : (l ++ [y]).length = l.length + 1 := by simp
  have hfin := h g' cap' cur.toList W' (Lib.hid (by rw [hlen]; exact hL')) (Lib.hid hX)
  rw [hlen] at hfin
  unfold Oper.wp execOp
  simp only [ho, resolve, invoke, builtin, Sem.run_bind, Sem.run_pure, Result.andThen_ok, List.map_toArray, List.map_cons, List.map_nil, hs, hx, hr]
  exact hKK _ _ hfin
end
/-! ### the way in -/
/-- the numbers of a spend that keys are made of are ints -/
def LvW (s : Sp) : Prop := wI (cInt s.cn 4) ∧ ∀ p ∈ s.lv, wI p.1
section
variable {H : Type} {enc : TypeId × Value → H} {W : World}
theorem trod_oneW {fuel : Nat} {cs : List Value} {x : DataW H × List MemPlace} (h : DataW.trod enc Try.prog W 0 (fun _ => true) true fuel 3 cs = some x) : ∃ a, cs = [.int .i64 a] ∧ wI a := by
  obtain ⟨a, e, _, hw⟩ := DataW.trod_int Try.underlying3 h
  exact ⟨a, e, hw⟩
set_option maxRecDepth 100000 in
theorem trod_leafW {fuel : Nat} {cs : List Value} {x : DataW H × List MemPlace} (h : DataW.trod enc Try.prog W 0 (fun _ => true) true fuel 69 cs = some x) : ∃ p : Int × Int × Int, cs = [.int .i64 p.1, .int .i64 p.2.1, .int .i64 p.2.2] ∧ wI p.1 := by
  obtain ⟨xs, n, rfl, hx, hcl, hlen, hg⟩ := DataW.trod_struct Try.underlying69 h
  rw [cells_lv] at hcl
  match cs, hcl with
  | [c0, c1, c2], _ =>
    match xs, hlen with
    | [y0, y1, y2], _ =>
      have g0 : DataW.trod enc Try.prog W 0 (fun _ => true) true n 3 [c0] = some y0 := by have := hg 0 _ rfl; simpa [cells_int] using this
      have g1 : DataW.trod enc Try.prog W 0 (fun _ => true) true n 3 [c1] = some y1 := by have := hg 1 _ rfl; simpa [cells_int] using this
      have g2 : DataW.trod enc Try.prog W 0 (fun _ => true) true n 3 [c2] = some y2 := by have := hg 2 _ rfl; simpa [cells_int] using this
      obtain ⟨a0, e0, w0⟩ := trod_oneW g0
      obtain ⟨a1, e1⟩ := trod_one g1
      obtain ⟨a2, e2⟩ := trod_one g2
      simp only [List.cons.injEq, and_true] at e0 e1 e2
      subst e0 e1 e2
      exact ⟨(a0, a1, a2), rfl, w0⟩
theorem open_lvW {fuel : Nat} {c0 : Value} {x : DataW H × List MemPlace} (h : DataW.trod enc Try.prog W 0 (fun _ => true) true fuel 36 [c0] = some x) : ∃ l, Rw W (fun _ => True) c0 l.length 3 (lcl l) ∧ ∀ p ∈ l, wI p.1 := by
  obtain ⟨L, h1, h2⟩ := open_rows (0, 0, 0) (fun p : Int × Int × Int => [Value.int .i64 p.1, .int .i64 p.2.1, .int .i64 p.2.2]) (fun p => wI p.1) Try.underlying36 cells_lv (by omega) trod_leafW (by
    intro a _ u hu
    simp only [List.mem_cons, List.not_mem_nil, or_false] at hu
    rcases hu with rfl | rfl | rfl <;> rfl) (fun _ _ => rfl) h
  exact ⟨L, by rw [← lcl_flat]; exact h1, h2⟩
set_option maxRecDepth 100000 in
theorem coin_w {fuel : Nat} {cs : List Value} {x : DataW H × List MemPlace} (h : DataW.trod enc Try.prog W 0 (fun _ => true) true fuel 31 cs = some x) (ok : okc 31 cs) : wI (cInt cs 4) := by
  obtain ⟨xs, n, rfl, hx, hcl, hlen, hg⟩ := DataW.trod_struct Try.underlying31 h
  have h4 := hg 4 _ rfl
  have hl := ok.len wCoin
  have he : (cs.drop 4).take 1 = [.int .i64 (cInt cs 4)] := by
    have h5 := okCoin.at ok (j := 4) (by omega)
    obtain ⟨hlt, e⟩ := List.getElem?_eq_some_iff.1 h5
    rw [part1 hlt, e]
  match xs, hlen with
  | [y0, y1, y2, y3, y4, y5, y6], _ =>
    have g4 : DataW.trod enc Try.prog W 0 (fun _ => true) true n 3 ((cs.drop 4).take 1) = some y4 := by simpa [cells_int] using h4
    rw [he] at g4
    obtain ⟨a, e, hw⟩ := trod_oneW g4
    simp only [List.cons.injEq, Value.int.injEq, true_and, and_true] at e
    rw [e]; exact hw
set_option maxRecDepth 100000 in
theorem trod_spvW {fuel : Nat} {cs : List Value} {x : DataW H × List MemPlace} (h : DataW.trod enc Try.prog W 0 (fun _ => true) true fuel 41 cs = some x) : ∃ q : Sv, cs = svc q ∧ (gSv q).at_ W (fun _ => True) ∧ LvW q.s := by
  obtain ⟨xs, n, rfl, hx, hcl, hlen, hg⟩ := DataW.trod_struct Try.underlying41 h
  rw [cells_sp] at hcl
  obtain ⟨c77, c78, c79, he, e77, e78⟩ := cut3 hcl
  match xs, hlen with
  | [y0, y1, y2, y3, y4], _ =>
    have g0 : DataW.trod enc Try.prog W 0 (fun _ => true) true n 31 (cs.take 41) = some y0 := by have := hg 0 _ rfl; simpa [cells_cn] using this
    have g1 : DataW.trod enc Try.prog W 0 (fun _ => true) true n 33 ((cs.drop 41).take 2) = some y1 := by have := hg 1 _ rfl; simpa [cells_nd] using this
    have g2 : DataW.trod enc Try.prog W 0 (fun _ => true) true n 35 ((cs.drop 43).take 34) = some y2 := by have := hg 2 _ rfl; simpa [cells_cx] using this
    have g3 : DataW.trod enc Try.prog W 0 (fun _ => true) true n 36 [c77] = some y3 := by have := hg 3 _ rfl; simpa [cells_lvs, e77] using this
    have g4 : DataW.trod enc Try.prog W 0 (fun _ => true) true n 39 [c78, c79] = some y4 := by have := hg 4 _ rfl; simpa [cells_pt, e78] using this
    obtain ⟨ys, m, rfl, hy, hyl, hylen, hyg⟩ := DataW.trod_struct Try.underlying39 g4
    match ys, hylen with
    | [z0, z1], _ =>
      have k0 : DataW.trod enc Try.prog W 0 (fun _ => true) true m 3 [c78] = some z0 := by have := hyg 0 _ rfl; simpa [cells_int] using this
      have k1 : DataW.trod enc Try.prog W 0 (fun _ => true) true m 37 [c79] = some z1 := by have := hyg 1 _ rfl; simpa [cells_hss] using this
      obtain ⟨pi, e0⟩ := trod_one k0
      simp only [List.cons.injEq, and_true] at e0
      subst e0
      obtain ⟨lv, hlv, hlw⟩ := open_lvW g3
      obtain ⟨pa, hpa, hok⟩ := open_hs k1
      have o0 : okc 31 (cs.take 41) := trod_okc (by kernel_rfl) (trod_struct_len Try.underlying31 g0) g0
      have o1 : okc 33 ((cs.drop 41).take 2) := trod_okc (by kernel_rfl) (trod_struct_len Try.underlying33 g1) g1
      have o2 : okc 35 ((cs.drop 43).take 34) := trod_okc (by kernel_rfl) (trod_struct_len Try.underlying35 g2) g2
      exact ⟨⟨⟨cs.take 41, (cs.drop 41).take 2, (cs.drop 43).take 34, lv, pi, pa⟩, c77, c79⟩, he, ⟨⟨o0, o1, o2, hok⟩, hlv, hpa⟩, coin_w g0 o0, hlw⟩
set_option maxRecDepth 100000 in
theorem open_splw {r : Reach} {b0 : Nat} {v : Value} {d : DataW H} {ps : List MemPlace} (hval : Value.okWide Try.prog W r b0 61 v) (hd : DataW.Trod enc Try.prog W 0 (fun _ => true) true 61 v d ps) :
    ∃ (l : List Sv) (xa : Option Addr) (xk : Nat), v = .slice xa l.length xk ∧ Fct.at W (fun _ => True) (.gn (gSl (.slice xa l.length xk) l)) ∧ ∀ x ∈ l, LvW x.s := by
  obtain ⟨a, l0, c, rfl⟩ := okWide_slice Try.underlying61 hval
  obtain ⟨fuel, hf⟩ := hd
  obtain ⟨L, h1, h2⟩ := open_rows (c0 := .slice a l0 c) (⟨zS, nilV, nilV⟩ : Sv) svc (fun q => (gSv q).at_ W (fun _ => True) ∧ LvW q.s) Try.underlying61 cells_sp (by omega) trod_spvW (fun a h => gSv.one h.1) (fun a h => gSv.len h.1) hf
  obtain ⟨xa, xk, e⟩ := h1.len
  exact ⟨L, xa, xk, e, by rw [← e]; exact ⟨h1, fun x hx => (h2 x hx).1⟩, fun x hx => (h2 x hx).2⟩
end
end Go.Proofs.Ytfnnfmefihiefaa

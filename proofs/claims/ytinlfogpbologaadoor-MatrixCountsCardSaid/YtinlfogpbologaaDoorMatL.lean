/- lists of rows; specieref14: Copy, Mul. -/
import Derived.Test.YtinlfogpbologaaDoorMatK
namespace Go.Proofs.YtinlfogpbologaaDoor
open Go.RowKit DivMath WordMath
set_option linter.unusedVariables false
set_option linter.unusedSimpArgs false
/-- the headers hs read as the rows L -/
def gRows (hs : List Value) (L : List (List Nat)) : GF where
  at_ w D := hs.length = L.length ∧ ∀ (i : Nat) (l : List Nat), L[i]? = some l → ∃ (a : Option Addr) (c : Nat), hs[i]? = some (Value.slice a l.length c) ∧ Rw w D (Value.slice a l.length c) l.length 1 (ncl l)
  turn h hs hD hc := ⟨h.1, fun i l e => by obtain ⟨a, c, e1, e2⟩ := h.2 i l e; exact ⟨a, c, e1, e2.turn hs hD hc⟩⟩
/-- a list of headers of the call's own -/
def OM (sg : List Bx) (cs : List Value) (v : Value) (hs : List Value) (n : Nat) : Prop := OS 22 1 sg cs v n ∧ hs.length = n ∧ cs.take n = hs
section
variable {D0 D : Nat → Prop} {w W : World} {F A B sg : List Bx} {G : List Fct} {g n : Nat} {hs cs xs : List Value} {v : Value} {L : List (List Nat)} {l : List Nat} {a : Option Addr} {c : Nat}
theorem gRows.nil : (gRows [] []).at_ W D := ⟨rfl, fun i l e => by simp at e⟩
theorem gRows.app (h : (gRows hs L).at_ W D) (hr : Rw W D (Value.slice a l.length c) l.length 1 (ncl l)) : (gRows (hs ++ [Value.slice a l.length c]) (L ++ [l])).at_ W D := by
  have h1 : hs.length = L.length := h.1
  refine ⟨by rw [List.length_append, List.length_append, h1]; rfl, fun i m e => ?_⟩
  rw [List.getElem?_append] at e ⊢
  rw [h1]
  split at e
  · rename_i h2; rw [if_pos h2]; exact h.2 i m e
  · rename_i h2
    rw [if_neg h2]
    have e2 : i - L.length = 0 := by
      rcases Nat.eq_zero_or_pos (i - L.length) with h3 | h3
      · exact h3
      · rw [List.getElem?_eq_none (by rw [List.length_singleton]; exact h3)] at e; cases e
    rw [e2] at e ⊢
    simp only [List.getElem?_cons_zero, Option.some.injEq] at e
    subst e
    exact ⟨a, c, rfl, hr⟩
theorem gRows.set {i : Nat} (h : (gRows hs L).at_ W D) (hr : Rw W D (Value.slice a l.length c) l.length 1 (ncl l)) : (gRows (hs.set i (Value.slice a l.length c)) (L.set i l)).at_ W D := by
  have h0 : hs.length = L.length := h.1
  refine ⟨by rw [List.length_set, List.length_set, h0], fun j m e => ?_⟩
  rw [List.getElem?_set] at e ⊢
  rw [h0]
  split at e
  · split at e
    · rename_i h1 h2
      cases e
      rw [if_pos h1, if_pos h2]
      exact ⟨a, c, rfl, hr⟩
    · cases e
  · rename_i h1; rw [if_neg h1]; exact h.2 j m e
theorem gRows.row {i : Nat} (h : (gRows hs L).at_ W D) (hi : i < L.length) : ∃ a c, hs[i]? = some (Value.slice a L[i].length c) ∧ Rw W D (Value.slice a L[i].length c) L[i].length 1 (ncl L[i]) := h.2 i _ (List.getElem?_eq_getElem hi)
theorem OM.nil : OM [] [] (.slice none 0 0) [] 0 := ⟨.inl ⟨rfl, rfl, rfl, rfl⟩, rfl, rfl⟩
theorem OM.app {cs' : List Value} {g' cap' : Nat} {x : Value} (hL : OM sg cs v hs n) (h : n + 1 ≤ cap' ∧ cap' ≤ 9223372036854775807 ∧ cs'.length = cap') (ht : cs'.take (n + 1) = cs.take n ++ [x]) : OM [(g', 22, cs')] cs' (.slice (some ⟨g', 0, none⟩) (n + 1) cap') (hs ++ [x]) (n + 1) := by
  exact ⟨.inr ⟨g', cap', rfl, rfl, h.1, h.2.1, by rw [h.2.2, Nat.mul_one]⟩, by simp [hL.2.1], by rw [ht, hL.2.2]⟩
/-- it is a box, unless it is empty -/
theorem OM.box (h : OM sg cs v hs n) (hn : 0 < n) : ∃ g cap x, sg = [(g, 22, hs ++ x)] ∧ cs = hs ++ x ∧ v = .slice (some ⟨g, 0, none⟩) n cap ∧ n ≤ cap ∧ cap ≤ 9223372036854775807 := by
  obtain ⟨h1, h2, h3⟩ := h
  rcases h1 with ⟨_, _, _, h0⟩ | ⟨g, cap, rfl, rfl, h4, h5, h6⟩
  · omega
  · have e : hs ++ cs.drop n = cs := by rw [← h3, List.take_append_drop]
    exact ⟨g, cap, cs.drop n, by rw [e], e.symm, rfl, h4, h5⟩
theorem OM.of {x : List Value} {cap : Nat} (hl : hs.length = n) (hc : n ≤ cap) (hc2 : cap ≤ 9223372036854775807) (hx : (hs ++ x).length = cap) : OM [(g, 22, hs ++ x)] (hs ++ x) (.slice (some ⟨g, 0, none⟩) n cap) hs n :=
  ⟨.inr ⟨g, cap, rfl, rfl, hc, hc2, by rw [hx, Nat.mul_one]⟩, hl, by rw [← hl]; simp⟩
/-- a row of the call's own becomes a fact -/
theorem Env.freezeOS {T : TypeId} {k : Nat} (E : Env D0 w (A ++ (sg ++ B)) G W) (h : OS T k sg cs v n) (ht : cs.take (n * k) = xs) (h1 : ∀ u ∈ xs, u.oneCell' = true) : Env D0 w (A ++ B) (.rw v n k xs :: G) W := by
  have E1 : Env D0 w (sg ++ (A ++ B)) G W := E.perm (by
    rw [← List.append_assoc, ← List.append_assoc]
    exact (List.perm_append_right_iff B).2 List.perm_append_comm)
  rcases h with ⟨rfl, rfl, rfl, h0⟩ | ⟨g, cap, rfl, rfl, e1, e2, e3⟩
  · refine Env.note (by simpa using E1) _ ?_
    subst h0
    simp at ht; subst ht; exact Rw.nil _ _ _
  · refine Env.note (Env.drop (p := (g, T, cs)) E1) _ ?_
    have hB := E1.box.1
    refine ⟨_, cap, rfl, e1, e2, by rw [← ht, List.length_take, e3, Nat.min_eq_left (Nat.mul_le_mul_right _ e1)], h1, fun _ => ⟨g, 0, rfl, ⟨hB.lt, fun p hp e => E1.box.2.1 p hp e, .inr hB.1⟩, fun i u hu => ?_⟩⟩
    rw [Nat.zero_add]
    rw [← ht, List.getElem?_take] at hu
    split at hu
    · exact hB.cell _ hu
    · cases hu
/-- a list of headers becomes a fact -/
theorem Env.freezeOM (E : Env D0 w (A ++ (sg ++ B)) G W) (h : OM sg cs v hs L.length) (i : Nat) (e : G[i]? = some (.gn (gRows hs L))) : Env D0 w (A ++ B) (.mx v (L.map nl) :: G) W := by
  have E1 : Env D0 w (sg ++ (A ++ B)) G W := E.perm (by
    rw [← List.append_assoc, ← List.append_assoc]
    exact (List.perm_append_right_iff B).2 List.perm_append_comm)
  have hR : (gRows hs L).at_ W (DF D0 w.heap.size (sg ++ (A ++ B))) := E1.fct.get i e
  obtain ⟨h1, h2, h3⟩ := h
  rcases h1 with ⟨rfl, rfl, rfl, h0⟩ | ⟨g, cap, rfl, rfl, e1, e2, e3⟩
  · refine Env.note (by simpa using E1) _ ?_
    have : L = [] := List.length_eq_zero_iff.1 h0
    subst this
    exact ⟨none, 0, rfl, Nat.le_refl _, by omega, fun h => absurd rfl h⟩
  · refine Env.note (Env.drop (p := (g, 22, cs)) E1) _ ?_
    have hB := E1.box.1
    refine ⟨some ⟨g, 0, none⟩, cap, by rw [List.length_map], by rw [List.length_map]; exact e1, e2, fun _ => ⟨g, 0, rfl, ⟨hB.lt, fun p hp e => E1.box.2.1 p hp e, .inr hB.1⟩, fun k l hl => ?_⟩⟩
    rw [List.getElem?_map] at hl
    cases h5 : L[k]? with
    | none => rw [h5] at hl; cases hl
    | some r =>
      rw [h5] at hl
      simp only [Option.map_some, Option.some.injEq] at hl
      subst hl
      obtain ⟨a, c, e4, e5⟩ := hR.2 k r h5
      have hk := (List.getElem?_eq_some_iff.1 h5).1
      have e7 : cs[k]? = some (Value.slice a r.length c) := by rw [← h3, List.getElem?_take, if_pos hk] at e4; exact e4
      refine ⟨Value.slice a r.length c, by rw [Nat.zero_add]; exact hB.cell k e7, ?_⟩
      have e6 : Rw W (DF D0 w.heap.size (A ++ B)) (Value.slice a r.length c) r.length 1 (ncl r) := e5.turn (Nat.le_refl _) (fun b _ hd => ⟨fun p hp => hd.1 p (List.mem_cons_of_mem _ hp), hd.2⟩) (fun _ _ _ _ => rfl)
      exact Rw.toNl e6
theorem SrcN.one {T : TypeId} {B g : Nat} {x : Value} (h : Box B g T [x] W) (hx : x.oneCell' = true) : SrcN 1 W (some ⟨g, 0, none⟩) 1 [x] :=
  SrcN.box h rfl (by intro u hu; simp only [List.mem_cons, List.not_mem_nil, or_false] at hu; subst hu; exact hx)
end
/-- a list of rows came back; only its headers may be written to -/
def RetRows (D : Nat → Prop) (L : List (List Nat)) (w : World) (e : Ending) (w' : World) : Prop := ∃ sg cs va vk hs, e = .returned (.slice va L.length vk) ∧ Hid (OM sg cs (.slice va L.length vk) hs L.length) ∧ HeldF w.heap.size sg w' ∧ Hid ((gRows hs L).at_ w' (fun b => (D b ∨ w.heap.size ≤ b) ∧ ∀ p ∈ sg, p.1 ≠ b))
/-- .. as a matrix that is only read -/
def RetMf (D : Nat → Prop) (L : List (List Nat)) (e : Ending) (w' : World) : Prop := ∃ va vk, e = .returned (.slice va L.length vk) ∧ Hid (Mx w' D (.slice va L.length vk) (L.map nl))
set_option maxRecDepth 100000 in
set_option maxHeartbeats 4000000 in
theorem rCopy_c {D : Nat → Prop} (L : List (List Nat)) {xa : Option Addr} {xk : Nat} {w : World} (hx : Fct.at w D (.mx (.slice xa L.length xk) (L.map nl))) (hL : L.length ≤ 1000) (hr0 : ∀ r ∈ L, r.length ≤ 1000) :
    Calls Tryd.prog 114 #[.slice xa L.length xk] w fun e w' => RetRows D L w e w' ∧ Below w.heap.size w w' := by
  have E0 : Hid (Env D w [] [.mx (.slice xa L.length xk) (L.map nl)] w) := Lib.hid ((Env.start D w).arg (.mx (.slice xa L.length xk) (L.map nl)) hx)
  clear hx
  go_enter Tryd.func114, Tryd.ntmps114
  have hr := Lib.hid hr0
  clear hr0
  go_wp2_with fail
  go_loopg [4, 3] (L.length) (fun gk s4 s3 wr => ∃ (k : Nat) (tg : List Bx) (ts : List Value) (ta : Option Addr) (tk : Nat) (hs : List Value) (O : List (List Nat)), s4 = .int .i64 (k : Int) ∧ s3 = .slice ta O.length tk ∧ Hid (Env D w tg [.gn (gRows hs O), .mx (.slice xa L.length xk) (L.map nl)] wr) ∧ Hid (OM tg ts (.slice ta O.length tk) hs O.length) ∧ Hid ((k ≤ L.length ∧ gk = L.length - k) ∧ O = L.take k))
  case atStart => exact ⟨0, [], [], none, 0, [], [], rfl, rfl, Lib.hid ((E0.out.note (.gn (gRows [] [])) gRows.nil).cast (by simp)), Lib.hid OM.nil, Lib.hid ⟨⟨Nat.zero_le _, rfl⟩, rfl⟩⟩
  case round =>
    clear E0
    obtain ⟨k, tg, ts, ta, tk, hs, O, rfl, rfl, EL, hM, HA⟩ := hrel
    obtain ⟨⟨a1, a2⟩, a3⟩ := HA.out
    have HP := Lib.hid a3
    clear a3 HA
    have HOL : Hid (O.length = k) := Lib.hid (by rw [HP.out, List.length_take]; omega)
    by_cases hy : k = L.length
    · skip
      have t6 : decide ((k : Int) < (L.length : Int)) = false := decide_eq_false (by omega)
      have t6n : decide (k < L.length) = false := decide_eq_false (by omega)
      have HD : Hid (O = L) := Lib.hid (by rw [HP.out, hy, List.take_length])
      clear hy
      have hbel := Lib.hid EL.out.bel
      go_wp2
      go_ret
      have hres : Fct.at _ _ _ := Env.outS (A := []) (S := tg) (EL.out.cast (by simp)) 0 rfl
      have hheld := Env.heldS (A := []) (S := tg) (EL.out.cast (by simp))
      have hM2 := hM.out
      rw [HD.out] at hres hM2
      exact ⟨⟨tg, ts, ta, tk, hs, by rw [← HD.out]; rfl, Lib.hid hM2, hheld, Lib.hid hres⟩, hbel.out⟩
    have hk : k < L.length := by omega
    have t6 : decide ((k : Int) < (L.length : Int)) = true := decide_eq_true (by omega)
    have t6n : decide (k < L.length) = true := decide_eq_true (by omega)
    have hkI : (k : Int) < (L.length : Int) := by omega
    clear hy
    have hol : O.length ≤ 1000 := by rw [HOL.out]; omega
    go_upto_region 5 with (fail)
    obtain ⟨xab, xao, rfl⟩ := Mx.addrN (EL.out.fc 1 rfl) hk
    obtain ⟨ua, uk, E10⟩ := EL.out.elMN 1 rfl (k) hk
    have E1 : Hid (Env D w tg [.ce xab (xao + k) (.slice ua L[k].length uk), .rw (.slice ua L[k].length uk) L[k].length 1 (ncl L[k]), .gn (gRows hs O), .mx (.slice (some ⟨xab, xao, none⟩) L.length xk) (L.map nl)] _) := Lib.hid E10
    clear E10 EL
    have u0 := (E1.out.fc 0 rfl).2
    have HRK : Hid (L[k].length ≤ 1000) := Lib.hid (hr.out _ (List.getElem_mem hk))
    have E2 : Hid (Env D w ((wr.heap.size, 3, []) :: tg) [.ce xab (xao + k) (.slice ua L[k].length uk), .rw (.slice ua L[k].length uk) L[k].length 1 (ncl L[k]), .gn (gRows hs O), .mx (.slice (some ⟨xab, xao, none⟩) L.length xk) (L.map nl)] _) := Lib.hid ((E1.out.push 3 [] (wr.heap.size) (by simp)))
    have z1 := (E2.out.fc 0 rfl).2
    go_wp2_with (at_builtin; refine wpl_appN (c := uk) tiI rfl _ _ rfl E2.out (A := []) (sg := [(wr.heap.size, 3, [])]) (B' := tg) (n := 0) (by first | rfl | simp) (.inr ⟨wr.heap.size, 0, rfl, rfl, Nat.le_refl _, by omega, rfl⟩) rfl rfl (Rw.src (E2.out.fc 1 rfl)) (by have := HRK.out; omega) ?_)
    intro xs0 xv xc wc xO xT xE
    (try simp only [Nat.zero_add] at xO xT)
    obtain ⟨ra, rk, rfl⟩ := xO.out.len
    have E3 : Hid (Env D w tg [.rw (.slice ra L[k].length rk) L[k].length 1 (ncl L[k]), .ce xab (xao + k) (.slice ua L[k].length uk), .rw (.slice ua L[k].length uk) L[k].length 1 (ncl L[k]), .gn (gRows hs O), .mx (.slice (some ⟨xab, xao, none⟩) L.length xk) (L.map nl)] wc) := Lib.hid (Env.cast (Env.freezeOS (A := []) (sg := xs0) (B := tg) (xE.out.cast (by simp)) xO.out (xs := ncl L[k]) (by have h := xT.out; simpa using h) (ncl_one _)) (by simp))
    clear u0 z1 E1 E2 xE
    have E4 : Hid (Env D w ((wc.heap.size, 22, [.slice ra L[k].length rk]) :: tg) [.rw (.slice ra L[k].length rk) L[k].length 1 (ncl L[k]), .ce xab (xao + k) (.slice ua L[k].length uk), .rw (.slice ua L[k].length uk) L[k].length 1 (ncl L[k]), .gn (gRows hs O), .mx (.slice (some ⟨xab, xao, none⟩) L.length xk) (L.map nl)] _) := Lib.hid ((E3.out.push 22 [.slice ra L[k].length rk] (wc.heap.size) (by simp)))
    go_wp2_with (at_builtin; refine wpl_app1 (c := 1) tiR rfl _ _ rfl E4.out (A := [(wc.heap.size, 22, [.slice ra L[k].length rk])]) (sg := tg) (B' := []) (by simp) hM.out.1 rfl rfl (SrcN.one (E4.out.bx 0 rfl) rfl) (by omega) ?_)
    intro yg yp yc w1 yH yT yE
    have yM := Lib.hid (OM.app (x := Value.slice ra L[k].length rk) (g' := yg) hM.out (by simpa using yH.out) (by simpa using yT.out))
    have E5 : Hid (Env D w ((wc.heap.size, 22, [.slice ra L[k].length rk]) :: [(yg, 22, yc)]) [.gn (gRows (hs ++ [Value.slice ra L[k].length rk]) (O ++ [L[k]])), .rw (.slice ra L[k].length rk) L[k].length 1 (ncl L[k]), .ce xab (xao + k) (.slice ua L[k].length uk), .rw (.slice ua L[k].length uk) L[k].length 1 (ncl L[k]), .gn (gRows hs O), .mx (.slice (some ⟨xab, xao, none⟩) L.length xk) (L.map nl)] w1) := Lib.hid ((yE.out.note (.gn (gRows (hs ++ [Value.slice ra L[k].length rk]) (O ++ [L[k]]))) (gRows.app (yE.out.fc 3 rfl) (yE.out.fc 0 rfl))).cast (by first | rfl | simp))
    clear E3 E4 yE yH yT
    have hZ := E5.out.drop
    have EZ : Hid (Env D w _ [.gn (gRows (hs ++ [Value.slice ra L[k].length rk]) (O ++ [L[k]])), .mx (.slice (some ⟨xab, xao, none⟩) L.length xk) (L.map nl)] _) := Lib.hid ⟨hZ.bel, hZ.box, ⟨hZ.fc 0 rfl, ⟨hZ.fc 5 rfl, trivial⟩⟩⟩
    clear hZ
    go_wp2
    go_roundg (L.length - (k + 1))
    case rel => exact ⟨k + 1, [(yg, 22, yc)], yc, some ⟨yg, 0, none⟩, yp, _, O ++ [L[k]], rfl, by simp, Lib.hid (EZ.out.cast (by simp)), Lib.hid (by rw [List.length_append, List.length_singleton]; exact yM.out), Lib.hid ⟨⟨by omega, rfl⟩, by rw [HP.out, List.take_succ_eq_append_getElem hk]⟩⟩
    case measure => exact by omega
/-- the product of two matrices -/
def mulF (q : Nat) (L M : List (List Nat)) (i j : Nat) : Nat := dotN q (L.getD i []) (colT M j) M.length
def mulT (q n : Nat) (L M : List (List Nat)) : List (List Nat) := (List.range L.length).map fun i => tab (mulF q L M i) n
theorem mulT_snoc {q n k : Nat} {L M : List (List Nat)} {O : List (List Nat)} (h : O = (List.range k).map fun i => tab (mulF q L M i) n) : O ++ [tab (mulF q L M k) n] = (List.range (k + 1)).map fun i => tab (mulF q L M i) n := by rw [h, List.range_succ, List.map_append]; rfl
theorem colT_len {L : List (List Nat)} {j : Nat} : (colT L j).length = L.length := tab_len ..
theorem colT_lt {q n j : Nat} {L : List (List Nat)} (h : ResM q n L) (hj : j < n) : ∀ c ∈ colT L j, c < q := tab_lt fun i hi => by
  unfold colF
  rw [getL_elem hi]
  have h1 := h _ (List.getElem_mem hi)
  rw [getD_elem (by rw [h1.1]; exact hj)]
  exact h1.2 _ (List.getElem_mem _)
set_option maxRecDepth 100000 in
set_option maxHeartbeats 8000000 in
theorem rmMul_c {D : Nat → Prop} (q m n : Nat) (L M : List (List Nat)) {xa ya : Option Addr} {xk yk : Nat} {w : World} (hx : Fct.at w D (.mx (.slice xa L.length xk) (L.map nl))) (hy : Fct.at w D (.mx (.slice ya M.length yk) (M.map nl))) (hq0 : 0 < q) (hqT0 : (q : Int) < Top) (hL0 : ResM q m L) (hM0 : ResM q n M) (hl1 : 1 ≤ L.length) (hl30 : L.length ≤ 30) (hm0 : M.length = m) (hm1 : 1 ≤ m) (hm30 : m ≤ 30) (hn30 : n ≤ 30) :
    Calls Tryd.prog 45 #[.int .i64 (q : Nat), .slice xa L.length xk, .slice ya M.length yk] w fun e w' => RetMf (fun b => D b ∨ w.heap.size ≤ b) (mulT q n L M) e w' ∧ Below w.heap.size w w' := by
  have E0 : Hid (Env D w [] [.mx (.slice ya M.length yk) (M.map nl), .mx (.slice xa L.length xk) (L.map nl)] w) := Lib.hid (((Env.start D w).arg (.mx (.slice xa L.length xk) (L.map nl)) hx).arg (.mx (.slice ya M.length yk) (M.map nl)) hy)
  clear hx hy
  go_enter Tryd.func45, Tryd.ntmps45
  have hq := Lib.hid hq0
  have hqT := Lib.hid hqT0
  have hL := Lib.hid hL0
  have hMr := Lib.hid hM0
  have hmm := Lib.hid hm0
  clear hq0 hqT0 hL0 hM0 hm0
  have hz : 0 < M.length := by rw [hmm.out]; omega
  have hzI : (0 : Int) < (M.length : Int) := by omega
  have hM30 : M.length ≤ 30 := by rw [hmm.out]; exact hm30
  go_wp2_with fail
  go_loopg [8, 7] (L.length) (fun gk s8 s7 wr => ∃ (i : Nat) (tg : List Bx) (ts : List Value) (ta : Option Addr) (tk : Nat) (hs : List Value) (O : List (List Nat)), s8 = .int .i64 (i : Int) ∧ s7 = .slice ta O.length tk ∧ Hid (Env D w tg [.gn (gRows hs O), .mx (.slice ya M.length yk) (M.map nl), .mx (.slice xa L.length xk) (L.map nl)] wr) ∧ Hid (OM tg ts (.slice ta O.length tk) hs O.length) ∧ Hid ((i ≤ L.length ∧ gk = L.length - i) ∧ O = (List.range i).map fun i => tab (mulF q L M i) n))
  case atStart => exact ⟨0, [], [], none, 0, [], [], rfl, rfl, Lib.hid ((E0.out.note (.gn (gRows [] [])) gRows.nil).cast (by simp)), Lib.hid OM.nil, Lib.hid ⟨⟨Nat.zero_le _, rfl⟩, rfl⟩⟩
  case round =>
    clear E0
    obtain ⟨i, tg, ts, ta, tk, hs, O, rfl, rfl, EL, hM, HA⟩ := hrel
    obtain ⟨⟨a1, a2⟩, a3⟩ := HA.out
    have HPO := Lib.hid a3
    clear a3 HA
    have HOL : Hid (O.length = i) := Lib.hid (by rw [HPO.out]; simp)
    by_cases hy : i = L.length
    · skip
      have t6 : decide ((i : Int) < (L.length : Int)) = false := decide_eq_false (by omega)
      have t6n : decide (i < L.length) = false := decide_eq_false (by omega)
      have HD : Hid (O = mulT q n L M) := Lib.hid (by rw [HPO.out, hy]; rfl)
      clear hy
      have hbel := Lib.hid EL.out.bel
      go_wp2
      go_ret
      have EF := Env.freezeOM (A := []) (sg := tg) (B := []) (EL.out.cast (by simp)) hM.out 0 rfl
      have hres : Fct.at _ _ _ := EF.out 0 rfl
      rw [HD.out] at hres
      exact ⟨⟨ta, tk, by rw [← HD.out]; rfl, Lib.hid hres⟩, hbel.out⟩
    have hi : i < L.length := by omega
    have t6 : decide ((i : Int) < (L.length : Int)) = true := decide_eq_true (by omega)
    have t6n : decide (i < L.length) = true := decide_eq_true (by omega)
    have hiI : (i : Int) < (L.length : Int) := by omega
    clear hy
    have holR : O.length ≤ 1000 := by rw [HOL.out]; omega
    go_wp2_with fail
    clear t6 t6n
    rename World => wo
    go_loopg [10, 9] (n) (fun gk s10 s9 wr => ∃ (k : Nat) (sg : List Bx) (cs : List Value) (va : Option Addr) (vk : Nat) (o : List Nat), s10 = .int .i64 (k : Int) ∧ s9 = .slice va o.length vk ∧ Hid (Env D w (tg ++ sg) [.gn (gRows hs O), .mx (.slice ya M.length yk) (M.map nl), .mx (.slice xa L.length xk) (L.map nl)] wr) ∧ Hid (OI sg cs (.slice va o.length vk) (nl o)) ∧ Hid ((k ≤ n ∧ gk = n - k) ∧ o = tab (mulF q L M i) k))
    case atStart => exact ⟨0, [], [], none, 0, [], rfl, rfl, Lib.hid (EL.out.cast (by first | rfl | simp)), Lib.hid OI.nlnil, Lib.hid ⟨⟨Nat.zero_le _, rfl⟩, rfl⟩⟩
    case round =>
      clear EL
      obtain ⟨k, sg, cs, va, vk, o, rfl, rfl, EL, hO, HA⟩ := hrel
      obtain ⟨⟨b1, b2⟩, b3⟩ := HA.out
      have HP := Lib.hid b3
      clear b3 HA
      by_cases hy : k = n
      · skip
        have HD : Hid (o = tab (mulF q L M i) n) := Lib.hid (by rw [HP.out, hy])
        go_upto_region 7 with (fail)
        obtain ⟨yab, yao, rfl⟩ := Mx.addrN (EL.out.fc 1 rfl) hz
        obtain ⟨pa, pk, E10⟩ := EL.out.elMN 1 rfl (0) hz
        have E1 : Hid (Env D w (tg ++ sg) [.ce yab (yao) (.slice pa M[0].length pk), .rw (.slice pa M[0].length pk) M[0].length 1 (ncl M[0]), .gn (gRows hs O), .mx (.slice (some ⟨yab, yao, none⟩) M.length yk) (M.map nl), .mx (.slice xa L.length xk) (L.map nl)] _) := Lib.hid E10
        clear E10 EL
        have p0 := (E1.out.fc 0 rfl).2
        have hv0 : M[0].length = n := (hMr.out _ (List.getElem_mem hz)).1
        have t7 : decide ((k : Int) < (M[0].length : Int)) = false := decide_eq_false (by omega)
        have t7n : decide (k < M[0].length) = false := decide_eq_false (by omega)
        clear hv0
        clear hy
        go_upto_region 10 with (fail)
        have E2 : Hid (Env D w tg [.rw (.slice va o.length vk) o.length 1 (ncl o), .ce yab (yao) (.slice pa M[0].length pk), .rw (.slice pa M[0].length pk) M[0].length 1 (ncl M[0]), .gn (gRows hs O), .mx (.slice (some ⟨yab, yao, none⟩) M.length yk) (M.map nl), .mx (.slice xa L.length xk) (L.map nl)] _) := Lib.hid (Env.cast (Env.freezeSeg (A := tg) (sg := sg) (B := []) (E1.out.cast (by simp)) hO.out) (by simp))
        have E3 : Hid (Env D w ((wr.heap.size, 22, [.slice va o.length vk]) :: tg) [.rw (.slice va o.length vk) o.length 1 (ncl o), .ce yab (yao) (.slice pa M[0].length pk), .rw (.slice pa M[0].length pk) M[0].length 1 (ncl M[0]), .gn (gRows hs O), .mx (.slice (some ⟨yab, yao, none⟩) M.length yk) (M.map nl), .mx (.slice xa L.length xk) (L.map nl)] _) := Lib.hid ((E2.out.push 22 [.slice va o.length vk] (wr.heap.size) (by simp)))
        go_wp2_with (at_builtin; refine wpl_app1 (c := 1) tiR rfl _ _ rfl E3.out (A := [(wr.heap.size, 22, [.slice va o.length vk])]) (sg := tg) (B' := []) (by simp) hM.out.1 rfl rfl (SrcN.one (E3.out.bx 0 rfl) rfl) (by omega) ?_)
        intro yg yp yc w1 yH yT yE
        have yM := Lib.hid (OM.app (x := Value.slice va o.length vk) (g' := yg) hM.out (by simpa using yH.out) (by simpa using yT.out))
        have E4 : Hid (Env D w ((wr.heap.size, 22, [.slice va o.length vk]) :: [(yg, 22, yc)]) [.gn (gRows (hs ++ [Value.slice va o.length vk]) (O ++ [o])), .rw (.slice va o.length vk) o.length 1 (ncl o), .ce yab (yao) (.slice pa M[0].length pk), .rw (.slice pa M[0].length pk) M[0].length 1 (ncl M[0]), .gn (gRows hs O), .mx (.slice (some ⟨yab, yao, none⟩) M.length yk) (M.map nl), .mx (.slice xa L.length xk) (L.map nl)] w1) := Lib.hid ((yE.out.note (.gn (gRows (hs ++ [Value.slice va o.length vk]) (O ++ [o]))) (gRows.app (yE.out.fc 3 rfl) (yE.out.fc 0 rfl))).cast (by first | rfl | simp))
        clear p0 E1 E2 E3 yE yH yT
        have hZ := E4.out.drop
        have EZ : Hid (Env D w _ [.gn (gRows (hs ++ [Value.slice va o.length vk]) (O ++ [o])), .mx (.slice (some ⟨yab, yao, none⟩) M.length yk) (M.map nl), .mx (.slice xa L.length xk) (L.map nl)] _) := Lib.hid ⟨hZ.bel, hZ.box, ⟨hZ.fc 0 rfl, ⟨hZ.fc 5 rfl, ⟨hZ.fc 6 rfl, trivial⟩⟩⟩⟩
        clear hZ
        go_wp2
        go_roundg (L.length - (i + 1))
        case rel => exact ⟨i + 1, [(yg, 22, yc)], yc, some ⟨yg, 0, none⟩, yp, _, O ++ [o], rfl, by simp, Lib.hid (EZ.out.cast (by simp)), Lib.hid (by rw [List.length_append, List.length_singleton]; exact yM.out), Lib.hid ⟨⟨by omega, rfl⟩, by rw [HD.out]; exact mulT_snoc HPO.out⟩⟩
        case measure => exact by omega
      have hk : k < n := by omega
      clear hy
      have hol : o.length + 1 ≤ 1000000 := by rw [HP.out, tab_len]; omega
      have HOLI := Lib.hid hol
      clear hol
      go_upto_region 7 with (fail)
      obtain ⟨yab, yao, rfl⟩ := Mx.addrN (EL.out.fc 1 rfl) hz
      obtain ⟨pa, pk, E10⟩ := EL.out.elMN 1 rfl (0) hz
      have E1 : Hid (Env D w (tg ++ sg) [.ce yab (yao) (.slice pa M[0].length pk), .rw (.slice pa M[0].length pk) M[0].length 1 (ncl M[0]), .gn (gRows hs O), .mx (.slice (some ⟨yab, yao, none⟩) M.length yk) (M.map nl), .mx (.slice xa L.length xk) (L.map nl)] _) := Lib.hid E10
      clear E10 EL
      have p0 := (E1.out.fc 0 rfl).2
      have hv0 : M[0].length = n := (hMr.out _ (List.getElem_mem hz)).1
      have t7 : decide ((k : Int) < (M[0].length : Int)) = true := decide_eq_true (by omega)
      have t7n : decide (k < M[0].length) = true := decide_eq_true (by omega)
      clear hv0
      go_upto_region 9 with (fail)
      obtain ⟨xab, xao, rfl⟩ := Mx.addrN (E1.out.fc 4 rfl) hi
      obtain ⟨ua, uk, E20⟩ := E1.out.elMN 4 rfl (i) hi
      have E2 : Hid (Env D w (tg ++ sg) [.ce xab (xao + i) (.slice ua L[i].length uk), .rw (.slice ua L[i].length uk) L[i].length 1 (ncl L[i]), .ce yab (yao) (.slice pa M[0].length pk), .rw (.slice pa M[0].length pk) M[0].length 1 (ncl M[0]), .gn (gRows hs O), .mx (.slice (some ⟨yab, yao, none⟩) M.length yk) (M.map nl), .mx (.slice (some ⟨xab, xao, none⟩) L.length xk) (L.map nl)] _) := Lib.hid E20
      clear E20 E1
      have HLK : Hid (L[i].length = m ∧ ∀ c ∈ L[i], c < q) := Lib.hid (hL.out _ (List.getElem_mem hi))
      have HCL := Lib.hid (colT_lt hMr.out hk)
      go_wp2_with fail
      have E3 : Hid (Env D w (tg ++ sg) [.ce xab (xao + i) (.slice ua L[i].length uk), .rw (.slice ua L[i].length uk) L[i].length 1 (ncl L[i]), .ce yab (yao) (.slice pa M[0].length pk), .rw (.slice pa M[0].length pk) M[0].length 1 (ncl M[0]), .gn (gRows hs O), .mx (.slice (some ⟨yab, yao, none⟩) M.length yk) (M.map nl), .mx (.slice (some ⟨xab, xao, none⟩) L.length xk) (L.map nl)] (wr.drew)) := Lib.hid E2.out.drew
      clear p0 E2
      refine wp_regionU (S := fun w' => w'.cell? ⟨xab, xao + i, none⟩ = some (.slice ua L[i].length uk)) [] (by kernel_rfl) ((E3.out.fc 0 rfl).2) (fun hHeld => ?_)
      generalize wr.drew = w1 at *
      refine uTake (i := 0) (some 25) (v := ?_) rfl rfl (by kernel_rfl) (by kernel_rfl) (by kernel_rfl) (by kernel_rfl) (fun _ _ _ h => h) (by rfl) (by assumption) ?_ ?_
      rotate_left
      · (intro wS hSw; (try dsimp only at hSw); go_simp; try with_reducible rfl)
      try simp only [Act.put, List.setIfInBounds_toArray, List.set_cons_zero, List.set_cons_succ]
      refine uTake (i := 1) (some 26) (v := ?_) rfl rfl (by kernel_rfl) (by kernel_rfl) (by kernel_rfl) (by kernel_rfl) (fun _ _ _ h => h) (by rfl) (by assumption) ?_ ?_
      rotate_left
      · (intro wS hSw; (try dsimp only at hSw); go_simp; try with_reducible rfl)
      try simp only [Act.put, List.setIfInBounds_toArray, List.set_cons_zero, List.set_cons_succ]
      refine uTake (i := 2) (some 27) (v := ?_) rfl rfl (by kernel_rfl) (by kernel_rfl) (by kernel_rfl) (by kernel_rfl) (fun _ _ _ h => h) (by rfl) (by assumption) ?_ ?_
      rotate_left
      · (intro wS hSw; (try dsimp only at hSw); go_simp; try with_reducible rfl)
      try simp only [Act.put, List.setIfInBounds_toArray, List.set_cons_zero, List.set_cons_succ]
      refine uTake (i := 3) (some 28) (v := ?_) rfl rfl (by kernel_rfl) (by kernel_rfl) (by kernel_rfl) (by kernel_rfl) (fun _ _ _ h => h) (by rfl) (by assumption) ?_ ?_
      rotate_left
      · (intro wS hSw; (try dsimp only at hSw); go_simp; try with_reducible rfl)
      try simp only [Act.put, List.setIfInBounds_toArray, List.set_cons_zero, List.set_cons_succ]
      refine uTake (i := 4) (some 29) (v := ?_) rfl rfl (by kernel_rfl) (by kernel_rfl) (by kernel_rfl) (by kernel_rfl) (fun _ _ _ h => h) (by rfl) (by assumption) ?_ ?_
      rotate_left
      · (intro wS hSw; (try dsimp only at hSw); go_simp; try with_reducible rfl)
      try simp only [Act.put, List.setIfInBounds_toArray, List.set_cons_zero, List.set_cons_succ]
      refine uTake (i := 5) (some 30) (v := ?_) rfl rfl (by kernel_rfl) (by kernel_rfl) (by kernel_rfl) (by kernel_rfl) (fun _ _ _ h => h) (by rfl) (by assumption) ?_ ?_
      rotate_left
      · (intro wS hSw; (try dsimp only at hSw); go_simp; try with_reducible rfl)
      try simp only [Act.put, List.setIfInBounds_toArray, List.set_cons_zero, List.set_cons_succ]
      refine uTake (i := 6) (some 31) (v := ?_) rfl rfl (by kernel_rfl) (by kernel_rfl) (by kernel_rfl) (by kernel_rfl) (fun _ _ _ h => h) (by rfl) (by assumption) ?_ ?_
      rotate_left
      · (intro wS hSw; (try dsimp only at hSw); go_simp; try with_reducible rfl)
      try simp only [Act.put, List.setIfInBounds_toArray, List.set_cons_zero, List.set_cons_succ]
      refine uTake (i := 7) (some 32) (v := ?_) rfl rfl (by kernel_rfl) (by kernel_rfl) (by kernel_rfl) (by kernel_rfl) (fun _ _ _ h => h) (by rfl) (by assumption) ?_ ?_
      rotate_left
      · (intro wS hSw; (try dsimp only at hSw); go_simp; try with_reducible rfl)
      try simp only [Act.put, List.setIfInBounds_toArray, List.set_cons_zero, List.set_cons_succ]
      refine uReady (rs := [8]) (by kernel_rfl) (by simp) ?_
      refine ReadyU.cons rfl (fun KK hKK => ?_) ReadyU.nil
      go_simp
      refine (rcolumn_c M k (E3.out.fc 5 rfl) (by omega) (fun r hr => by rw [(hMr.out r hr).1]; exact hk)).mono ?_
      rintro e w2 ⟨⟨ca, ck, rfl, cH⟩, hb⟩
      have E4 : Hid (Env D w (tg ++ sg) [.rw (.slice ca (colT M k).length ck) (colT M k).length 1 (ncl (colT M k)), .ce xab (xao + i) (.slice ua L[i].length uk), .rw (.slice ua L[i].length uk) L[i].length 1 (ncl L[i]), .ce yab (yao) (.slice pa M[0].length pk), .rw (.slice pa M[0].length pk) M[0].length 1 (ncl M[0]), .gn (gRows hs O), .mx (.slice (some ⟨yab, yao, none⟩) M.length yk) (M.map nl), .mx (.slice (some ⟨xab, xao, none⟩) L.length xk) (L.map nl)] w2) := Lib.hid (E3.out.got (E3.out.below hb) (.rw (.slice ca (colT M k).length ck) (colT M k).length 1 (ncl (colT M k))) (Lib.hid (Rw.ge cH.out)).out)
      clear E3 hb
      (try dsimp only)
      clear hHeld
      refine hKK.out _ _ ((E4.out.fc 1 rfl).2) (fun hHeld => ?_)
      clear hKK KK
      try simp only [Act.put, List.setIfInBounds_toArray, List.set_cons_zero, List.set_cons_succ]
      refine uReady (rs := [9]) (by kernel_rfl) (by simp) ?_
      refine ReadyU.cons rfl (fun KK hKK => ?_) ReadyU.nil
      go_simp
      refine (rdot_c q L[i] (colT M k) (E4.out.fc 2 rfl) (E4.out.fc 0 rfl) hq.out hqT.out HLK.out.2 HCL.out (by rw [colT_len, HLK.out.1, hmm.out]; exact Nat.le_refl _) (by rw [HLK.out.1]; omega)).mono ?_
      rintro e w3 ⟨rfl, hb⟩
      have E5 : Hid (Env D w (tg ++ sg) [.rw (.slice ca (colT M k).length ck) (colT M k).length 1 (ncl (colT M k)), .ce xab (xao + i) (.slice ua L[i].length uk), .rw (.slice ua L[i].length uk) L[i].length 1 (ncl L[i]), .ce yab (yao) (.slice pa M[0].length pk), .rw (.slice pa M[0].length pk) M[0].length 1 (ncl M[0]), .gn (gRows hs O), .mx (.slice (some ⟨yab, yao, none⟩) M.length yk) (M.map nl), .mx (.slice (some ⟨xab, xao, none⟩) L.length xk) (L.map nl)] w3) := Lib.hid (E4.out.below hb)
      clear E4 hb
      (try dsimp only)
      clear hHeld
      refine hKK.out _ _ ((E5.out.fc 1 rfl).2) (fun hHeld => ?_)
      clear hKK KK
      try simp only [Act.put, List.setIfInBounds_toArray, List.set_cons_zero, List.set_cons_succ]
      refine uReady (rs := [10]) (by kernel_rfl) (by simp) ?_
      refine ReadyU.cons rfl (fun KK hKK => ?_) ReadyU.nil
      go_simp
      have E6 : Hid (Env D w ((w3.heap.size, 3, [.int .i64 ((dotN q L[i] (colT M k) L[i].length : Nat) : Int)]) :: (tg ++ sg)) [.rw (.slice ca (colT M k).length ck) (colT M k).length 1 (ncl (colT M k)), .ce xab (xao + i) (.slice ua L[i].length uk), .rw (.slice ua L[i].length uk) L[i].length 1 (ncl L[i]), .ce yab (yao) (.slice pa M[0].length pk), .rw (.slice pa M[0].length pk) M[0].length 1 (ncl M[0]), .gn (gRows hs O), .mx (.slice (some ⟨yab, yao, none⟩) M.length yk) (M.map nl), .mx (.slice (some ⟨xab, xao, none⟩) L.length xk) (L.map nl)] _) := Lib.hid ((E5.out.push 3 [.int .i64 ((dotN q L[i] (colT M k) L[i].length : Nat) : Int)] (w3.heap.size) (by simp)))
      (try dsimp only)
      clear hHeld
      refine hKK.out _ _ ((E6.out.fc 1 rfl).2) (fun hHeld => ?_)
      clear hKK KK
      try simp only [Act.put, List.setIfInBounds_toArray, List.set_cons_zero, List.set_cons_succ]
      clear E5
      generalize w3.alloc (.cells #[.int .i64 ((dotN q L[i] (colT M k) L[i].length : Nat) : Int)] 3) = w4 at *
      refine uReady (rs := [11]) (by kernel_rfl) (by simp) ?_
      refine ReadyU.cons rfl (fun KK hKK => ?_) ReadyU.nil
      refine op_app1 (c := 1) tiI (some 36) rfl rfl (.tmp 25) (.tmp 35) rfl E6.out (A := ((w3.heap.size, 3, [.int .i64 ((dotN q L[i] (colT M k) L[i].length : Nat) : Int)]) :: tg)) (sg := sg) (B' := []) (F := ((w3.heap.size, 3, [.int .i64 ((dotN q L[i] (colT M k) L[i].length : Nat) : Int)]) :: (tg ++ sg))) (by simp) (hO.out.os (nl_len o)) (by simp [Act.eval, Act.put]) (by simp [Act.eval, Act.put]; done) (SrcN.int (E6.out.bx 0 rfl)) HOLI.out ?_
      intro ng np nc w5 nH nT nE
      have nO := Lib.hid (OI.app (g' := ng) hO.out (nl_len o) nH.out nT.out)
      have E7 : Hid (Env D w ((w3.heap.size, 3, [.int .i64 ((dotN q L[i] (colT M k) L[i].length : Nat) : Int)]) :: (tg ++ [(ng, 3, nc)])) [.rw (.slice ca (colT M k).length ck) (colT M k).length 1 (ncl (colT M k)), .ce xab (xao + i) (.slice ua L[i].length uk), .rw (.slice ua L[i].length uk) L[i].length 1 (ncl L[i]), .ce yab (yao) (.slice pa M[0].length pk), .rw (.slice pa M[0].length pk) M[0].length 1 (ncl M[0]), .gn (gRows hs O), .mx (.slice (some ⟨yab, yao, none⟩) M.length yk) (M.map nl), .mx (.slice (some ⟨xab, xao, none⟩) L.length xk) (L.map nl)] w5) := Lib.hid (nE.out.cast (by simp))
      clear E6 nE nH nT hO
      (try dsimp only)
      clear hHeld
      refine hKK.out _ _ ((E7.out.fc 1 rfl).2) (fun hHeld => ?_)
      clear hKK KK
      try simp only [Act.put, List.setIfInBounds_toArray, List.set_cons_zero, List.set_cons_succ]
      refine uTake (i := 12) (some 9) (v := ?_) rfl rfl (by kernel_rfl) (by kernel_rfl) (by kernel_rfl) (by kernel_rfl) (fun _ _ _ h => h) (by rfl) (by assumption) ?_ ?_
      rotate_left
      · (intro wS hSw; (try dsimp only at hSw); go_simp; try with_reducible rfl)
      try simp only [Act.put, List.setIfInBounds_toArray, List.set_cons_zero, List.set_cons_succ]
      refine uDone (by kernel_rfl) ?_ _
      have OZ : Hid (OI [(ng, 3, nc)] nc (.slice (some ⟨ng, 0, none⟩) (o ++ [dotN q L[i] (colT M k) L[i].length]).length np) (nl (o ++ [dotN q L[i] (colT M k) L[i].length]))) := Lib.hid (by rw [show nl (o ++ [dotN q L[i] (colT M k) L[i].length]) = nl o ++ [((dotN q L[i] (colT M k) L[i].length : Nat) : Int)] from by simp [nl], List.length_append, List.length_singleton]; exact nO.out)
      have EZ := Lib.hid ((((((E7.out.drop).forget).forget).forget).forget).forget)
      go_wp2
      go_roundg (n - (k + 1))
      case rel => exact ⟨k + 1, [(ng, 3, nc)], nc, some ⟨ng, 0, none⟩, np, o ++ [dotN q L[i] (colT M k) L[i].length], rfl, by simp, Lib.hid (EZ.out.cast (by first | rfl | simp)), OZ, Lib.hid ⟨⟨by omega, rfl⟩, by rw [HP.out]; exact tab_snoc (by unfold mulF; rw [getL_elem hi, HLK.out.1, hmm.out])⟩⟩
      case measure => exact by omega
end Go.Proofs.YtinlfogpbologaaDoor

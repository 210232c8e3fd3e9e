/- Contracts of MatK, MatL, MatM, MatT: those that this program has. -/
import Derived.Test.YteipbcpnnojclaaDoorMgB
namespace Go.Proofs.YteipbcpnnojclaaDoor
open Go.RowKit DivMath WordMath
set_option linter.unusedVariables false
set_option linter.unusedSimpArgs false
def tab (f : Nat → Nat) (k : Nat) : List Nat := (List.range k).map f
theorem tab_len (f : Nat → Nat) (k : Nat) : (tab f k).length = k := by simp [tab]
theorem tab_snoc {f : Nat → Nat} {k x : Nat} (h : f k = x) : tab f k ++ [x] = tab f (k + 1) := by unfold tab; rw [List.range_succ, List.map_append, List.map_singleton, h]
theorem tab_lt {f : Nat → Nat} {k q : Nat} (h : ∀ i, i < k → f i < q) : ∀ c ∈ tab f k, c < q := by
  intro c hc
  obtain ⟨i, hi, rfl⟩ := List.mem_map.1 hc
  exact h i (List.mem_range.1 hi)
theorem tab_nil (f : Nat → Nat) : [] = tab f 0 := rfl
theorem tab_get {f : Nat → Nat} {k i : Nat} (h : i < k) : (tab f k)[i]? = some (f i) := by unfold tab; rw [List.getElem?_map, List.getElem?_range h]; rfl
/-- a column, a product with a vector -/
def colF (L : List (List Nat)) (j i : Nat) : Nat := (L.getD i []).getD j 0
def colT (L : List (List Nat)) (j : Nat) : List Nat := tab (colF L j) L.length
def appF (q : Nat) (L : List (List Nat)) (x : List Nat) (i : Nat) : Nat := dotN q (L.getD i []) x x.length
def appT (q : Nat) (L : List (List Nat)) (x : List Nat) : List Nat := tab (appF q L x) L.length
theorem getL_elem {L : List (List Nat)} {i : Nat} (h : i < L.length) : L.getD i [] = L[i] := getD_of (List.getElem?_eq_getElem h)
theorem sclN_tab {q c : Nat} {r : List Nat} : sclN q r c = tab (fun j => r.getD j 0 * c % q) r.length := by
  apply List.ext_getElem?
  intro j
  by_cases h : j < r.length
  · rw [sclN_get h, tab_get h]; rw [getD_elem h]
  · rw [List.getElem?_eq_none (by rw [sclN_len]; omega), List.getElem?_eq_none (by rw [tab_len]; omega)]
theorem admN_tab {q f : Nat} {r o : List Nat} : admN q r f o = tab (fun j => (r.getD j 0 + f * o.getD j 0 % q) % q) r.length := rfl
set_option maxRecDepth 100000 in
set_option maxHeartbeats 2000000 in
theorem mcolumn_c {D : Nat → Prop} (L : List (List Nat)) (j : Nat) {xa : Option Addr} {xk : Nat} {w : World} (hx : Fct.at w D (.mx (.slice xa L.length xk) (L.map nl))) (hL : L.length ≤ 1000) (hj0 : ∀ r ∈ L, j < r.length) :
    Calls Tryd.prog 88 #[.slice xa L.length xk, .int .i64 (j : Nat)] w fun e w' => RetI (fun b => w.heap.size ≤ b) (colT L j) e w' ∧ Below w.heap.size w w' := by
  have E0 : Hid (Env D w [] [.mx (.slice xa L.length xk) (L.map nl)] w) := Lib.hid ((Env.start D w).arg (.mx (.slice xa L.length xk) (L.map nl)) hx)
  clear hx
  go_enter Tryd.func88, Tryd.ntmps88
  have hj := Lib.hid hj0
  clear hj0
  go_wp2_with fail
  go_loopg [10, 5] (L.length) (fun gk s10 s5 wr => ∃ (k : Nat) (sg : List Bx) (cs : List Value) (va : Option Addr) (vk : Nat) (o : List Nat), s10 = .int .i64 (k : Int) ∧ s5 = .slice va o.length vk ∧ Hid (Env D w sg [.mx (.slice xa L.length xk) (L.map nl)] wr) ∧ Hid (OI sg cs (.slice va o.length vk) (nl o)) ∧ Hid ((k ≤ L.length ∧ gk = L.length - k) ∧ o = tab (colF L j) k))
  case atStart => exact ⟨0, [], [], none, 0, [], rfl, rfl, Lib.hid (E0.out.cast (by simp)), Lib.hid OI.nlnil, Lib.hid ⟨⟨Nat.zero_le _, rfl⟩, rfl⟩⟩
  case round =>
    clear E0
    obtain ⟨k, sg, cs, va, vk, o, rfl, rfl, EL, hO, HA⟩ := hrel
    obtain ⟨⟨a1, a2⟩, a3⟩ := HA.out
    have HP := Lib.hid a3
    clear a3 HA
    by_cases hy : k = L.length
    · skip
      have t6 : decide ((k : Int) < (L.length : Int)) = false := decide_eq_false (by omega)
      have t6n : decide (k < L.length) = false := decide_eq_false (by omega)
      have HD : Hid (o = colT L j) := Lib.hid (by rw [HP.out, hy]; rfl)
      clear hy
      have hres := Lib.hid (OI.rwN hO.out EL.out (by intro p hp; simp [hp]))
      have hbel := Lib.hid EL.out.bel
      go_wp2
      go_ret
      exact ⟨⟨va, vk, by rw [← HD.out]; rfl, Lib.hid (by rw [← HD.out]; exact hres.out)⟩, hbel.out⟩
    have hk : k < L.length := by omega
    have t6 : decide ((k : Int) < (L.length : Int)) = true := decide_eq_true (by omega)
    have t6n : decide (k < L.length) = true := decide_eq_true (by omega)
    have hkI : (k : Int) < (L.length : Int) := by omega
    clear hy
    have hol : o.length + 1 ≤ 1000000 := by rw [HP.out, tab_len]; omega
    have HOL := Lib.hid hol
    clear hol
    go_upto_region 4 with (fail)
    obtain ⟨xab, xao, rfl⟩ := Mx.addrN (EL.out.fc 0 rfl) hk
    obtain ⟨ua, uk, E10⟩ := EL.out.elMN 0 rfl (k) hk
    have E1 : Hid (Env D w sg [.ce xab (xao + k) (.slice ua L[k].length uk), .rw (.slice ua L[k].length uk) L[k].length 1 (ncl L[k]), .mx (.slice (some ⟨xab, xao, none⟩) L.length xk) (L.map nl)] _) := Lib.hid E10
    clear E10 EL
    have u0 := (E1.out.fc 0 rfl).2
    have hjk : j < L[k].length := hj.out _ (List.getElem_mem hk)
    have hjkI : (j : Int) < (L[k].length : Int) := by omega
    obtain ⟨uab, uao, rfl⟩ := Rw.addr (E1.out.fc 1 rfl) (by omega)
    have E2 : Hid (Env D w sg [.ce uab (uao + j) (.int .i64 (L[k][j] : Nat)), .ce xab (xao + k) (.slice (some ⟨uab, uao, none⟩) L[k].length uk), .rw (.slice (some ⟨uab, uao, none⟩) L[k].length uk) L[k].length 1 (ncl L[k]), .mx (.slice (some ⟨xab, xao, none⟩) L.length xk) (L.map nl)] _) := Lib.hid (E1.out.elN 1 rfl rfl (j) hjk)
    clear E1
    have v0 := (E2.out.fc 0 rfl).2
    have E3 : Hid (Env D w ((wr.heap.size, 3, [.int .i64 (L[k][j] : Nat)]) :: sg) [.ce uab (uao + j) (.int .i64 (L[k][j] : Nat)), .ce xab (xao + k) (.slice (some ⟨uab, uao, none⟩) L[k].length uk), .rw (.slice (some ⟨uab, uao, none⟩) L[k].length uk) L[k].length 1 (ncl L[k]), .mx (.slice (some ⟨xab, xao, none⟩) L.length xk) (L.map nl)] _) := Lib.hid ((E2.out.push 3 [.int .i64 (L[k][j] : Nat)] (wr.heap.size) (by simp)))
    go_wp2_with (at_builtin; refine wpl_app1 (c := 1) tiI rfl _ _ rfl E3.out (A := [(wr.heap.size, 3, [.int .i64 (L[k][j] : Nat)])]) (sg := sg) (B' := []) (F := ((wr.heap.size, 3, [.int .i64 (L[k][j] : Nat)]) :: sg)) (by simp) (hO.out.os (nl_len o)) rfl rfl (SrcN.int (E3.out.bx 0 rfl)) HOL.out ?_)
    intro ng np nc w1 nH nT nE
    have nO := Lib.hid (OI.app (x := ((L[k][j] : Nat) : Int)) (g' := ng) (cs' := nc) (cap' := np) hO.out (nl_len o) (by simpa using nH.out) (by simpa using nT.out))
    have E4 : Hid (Env D w ((wr.heap.size, 3, [.int .i64 (L[k][j] : Nat)]) :: [(ng, 3, nc)]) [.ce uab (uao + j) (.int .i64 (L[k][j] : Nat)), .ce xab (xao + k) (.slice (some ⟨uab, uao, none⟩) L[k].length uk), .rw (.slice (some ⟨uab, uao, none⟩) L[k].length uk) L[k].length 1 (ncl L[k]), .mx (.slice (some ⟨xab, xao, none⟩) L.length xk) (L.map nl)] w1) := Lib.hid (nE.out.cast (by simp))
    clear u0 v0 E2 E3 nE nH nT hO
    have OZ : Hid (OI [(ng, 3, nc)] nc (.slice (some ⟨ng, 0, none⟩) (o ++ [L[k][j]]).length np) (nl (o ++ [L[k][j]]))) := Lib.hid (by rw [show nl (o ++ [L[k][j]]) = nl o ++ [((L[k][j] : Nat) : Int)] from by simp [nl], List.length_append, List.length_singleton]; exact nO.out)
    have EZ := Lib.hid ((((E4.out.drop).forget).forget).forget)
    go_wp2
    go_roundg (L.length - (k + 1))
    case rel => exact ⟨k + 1, [(ng, 3, nc)], nc, some ⟨ng, 0, none⟩, np, o ++ [L[k][j]], rfl, by simp, Lib.hid (EZ.out.cast (by simp)), OZ, Lib.hid ⟨⟨by omega, rfl⟩, by rw [HP.out]; exact tab_snoc (by unfold colF; rw [getL_elem hk, getD_elem hjk])⟩⟩
    case measure => exact by omega
/-- the headers hs read as the rows L -/
def gRows (hs : List Value) (L : List (List Nat)) : GF where
  at_ w D := hs.length = L.length ∧ ∀ (i : Nat) (l : List Nat), L[i]? = some l → ∃ (a : Option Addr) (c : Nat), hs[i]? = some (Value.slice a l.length c) ∧ Rw w D (Value.slice a l.length c) l.length 1 (ncl l)
  turn h hs hD hc := ⟨h.1, fun i l e => by obtain ⟨a, c, e1, e2⟩ := h.2 i l e; exact ⟨a, c, e1, e2.turn hs hD hc⟩⟩
/-- a list of headers of the call's own -/
def OM (sg : List Bx) (cs : List Value) (v : Value) (hs : List Value) (n : Nat) : Prop := OS 22 1 sg cs v n ∧ hs.length = n ∧ cs.take n = hs
section
variable {D0 D : Nat → Prop} {w W : World} {F A B sg : List Bx} {G : List Fct} {g n : Nat} {hs cs xs : List Value} {v : Value} {L : List (List Nat)} {l : List Nat} {a : Option Addr} {c : Nat}
theorem gRows.nil : (gRows [] []).at_ W D := ⟨rfl, fun i l e => by simp at e⟩
theorem gRows.app (h : (gRows hs L).at_ W D) (hr : Rw W D (Value.slice a l.length c) l.length 1 (ncl l)) : (gRows (hs ++ [Value.slice a l.length c]) (L ++ [l])).at_ W D := by
  have h1 : hs.length = L.length := h.1
  refine ⟨by rw [List.length_append, List.length_append, h1]; rfl, fun i m e => ?_⟩
  rw [List.getElem?_append] at e ⊢
  rw [h1]
  split at e
  · rename_i h2; rw [if_pos h2]; exact h.2 i m e
  · rename_i h2
    rw [if_neg h2]
    have e2 : i - L.length = 0 := by
      rcases Nat.eq_zero_or_pos (i - L.length) with h3 | h3
      · exact h3
      · rw [List.getElem?_eq_none (by rw [List.length_singleton]; exact h3)] at e; cases e
    rw [e2] at e ⊢
    simp only [List.getElem?_cons_zero, Option.some.injEq] at e
    subst e
    exact ⟨a, c, rfl, hr⟩
theorem gRows.set {i : Nat} (h : (gRows hs L).at_ W D) (hr : Rw W D (Value.slice a l.length c) l.length 1 (ncl l)) : (gRows (hs.set i (Value.slice a l.length c)) (L.set i l)).at_ W D := by
  have h0 : hs.length = L.length := h.1
  refine ⟨by rw [List.length_set, List.length_set, h0], fun j m e => ?_⟩
  rw [List.getElem?_set] at e ⊢
  rw [h0]
  split at e
  · split at e
    · rename_i h1 h2
      cases e
      rw [if_pos h1, if_pos h2]
      exact ⟨a, c, rfl, hr⟩
    · cases e
  · rename_i h1; rw [if_neg h1]; exact h.2 j m e
theorem gRows.row {i : Nat} (h : (gRows hs L).at_ W D) (hi : i < L.length) : ∃ a c, hs[i]? = some (Value.slice a L[i].length c) ∧ Rw W D (Value.slice a L[i].length c) L[i].length 1 (ncl L[i]) := h.2 i _ (List.getElem?_eq_getElem hi)
theorem OM.nil : OM [] [] (.slice none 0 0) [] 0 := ⟨.inl ⟨rfl, rfl, rfl, rfl⟩, rfl, rfl⟩
theorem OM.app {cs' : List Value} {g' cap' : Nat} {x : Value} (hL : OM sg cs v hs n) (h : n + 1 ≤ cap' ∧ cap' ≤ 9223372036854775807 ∧ cs'.length = cap') (ht : cs'.take (n + 1) = cs.take n ++ [x]) : OM [(g', 22, cs')] cs' (.slice (some ⟨g', 0, none⟩) (n + 1) cap') (hs ++ [x]) (n + 1) := by
  exact ⟨.inr ⟨g', cap', rfl, rfl, h.1, h.2.1, by rw [h.2.2, Nat.mul_one]⟩, by simp [hL.2.1], by rw [ht, hL.2.2]⟩
/-- it is a box, unless it is empty -/
theorem OM.box (h : OM sg cs v hs n) (hn : 0 < n) : ∃ g cap x, sg = [(g, 22, hs ++ x)] ∧ cs = hs ++ x ∧ v = .slice (some ⟨g, 0, none⟩) n cap ∧ n ≤ cap ∧ cap ≤ 9223372036854775807 := by
  obtain ⟨h1, h2, h3⟩ := h
  rcases h1 with ⟨_, _, _, h0⟩ | ⟨g, cap, rfl, rfl, h4, h5, h6⟩
  · omega
  · have e : hs ++ cs.drop n = cs := by rw [← h3, List.take_append_drop]
    exact ⟨g, cap, cs.drop n, by rw [e], e.symm, rfl, h4, h5⟩
theorem OM.of {x : List Value} {cap : Nat} (hl : hs.length = n) (hc : n ≤ cap) (hc2 : cap ≤ 9223372036854775807) (hx : (hs ++ x).length = cap) : OM [(g, 22, hs ++ x)] (hs ++ x) (.slice (some ⟨g, 0, none⟩) n cap) hs n :=
  ⟨.inr ⟨g, cap, rfl, rfl, hc, hc2, by rw [hx, Nat.mul_one]⟩, hl, by rw [← hl]; simp⟩
/-- a row of the call's own becomes a fact -/
theorem Env.freezeOS {T : TypeId} {k : Nat} (E : Env D0 w (A ++ (sg ++ B)) G W) (h : OS T k sg cs v n) (ht : cs.take (n * k) = xs) (h1 : ∀ u ∈ xs, u.oneCell' = true) : Env D0 w (A ++ B) (.rw v n k xs :: G) W := by
  have E1 : Env D0 w (sg ++ (A ++ B)) G W := E.perm (by
    rw [← List.append_assoc, ← List.append_assoc]
    exact (List.perm_append_right_iff B).2 List.perm_append_comm)
  rcases h with ⟨rfl, rfl, rfl, h0⟩ | ⟨g, cap, rfl, rfl, e1, e2, e3⟩
  · refine Env.note (by simpa using E1) _ ?_
    subst h0
    simp at ht; subst ht; exact Rw.nil _ _ _
  · refine Env.note (Env.drop (p := (g, T, cs)) E1) _ ?_
    have hB := E1.box.1
    refine ⟨_, cap, rfl, e1, e2, by rw [← ht, List.length_take, e3, Nat.min_eq_left (Nat.mul_le_mul_right _ e1)], h1, fun _ => ⟨g, 0, rfl, ⟨hB.lt, fun p hp e => E1.box.2.1 p hp e, .inr hB.1⟩, fun i u hu => ?_⟩⟩
    rw [Nat.zero_add]
    rw [← ht, List.getElem?_take] at hu
    split at hu
    · exact hB.cell _ hu
    · cases hu
/-- a list of headers becomes a fact -/
theorem Env.freezeOM (E : Env D0 w (A ++ (sg ++ B)) G W) (h : OM sg cs v hs L.length) (i : Nat) (e : G[i]? = some (.gn (gRows hs L))) : Env D0 w (A ++ B) (.mx v (L.map nl) :: G) W := by
  have E1 : Env D0 w (sg ++ (A ++ B)) G W := E.perm (by
    rw [← List.append_assoc, ← List.append_assoc]
    exact (List.perm_append_right_iff B).2 List.perm_append_comm)
  have hR : (gRows hs L).at_ W (DF D0 w.heap.size (sg ++ (A ++ B))) := E1.fct.get i e
  obtain ⟨h1, h2, h3⟩ := h
  rcases h1 with ⟨rfl, rfl, rfl, h0⟩ | ⟨g, cap, rfl, rfl, e1, e2, e3⟩
  · refine Env.note (by simpa using E1) _ ?_
    have : L = [] := List.length_eq_zero_iff.1 h0
    subst this
    exact ⟨none, 0, rfl, Nat.le_refl _, by omega, fun h => absurd rfl h⟩
  · refine Env.note (Env.drop (p := (g, 22, cs)) E1) _ ?_
    have hB := E1.box.1
    refine ⟨some ⟨g, 0, none⟩, cap, by rw [List.length_map], by rw [List.length_map]; exact e1, e2, fun _ => ⟨g, 0, rfl, ⟨hB.lt, fun p hp e => E1.box.2.1 p hp e, .inr hB.1⟩, fun k l hl => ?_⟩⟩
    rw [List.getElem?_map] at hl
    cases h5 : L[k]? with
    | none => rw [h5] at hl; cases hl
    | some r =>
      rw [h5] at hl
      simp only [Option.map_some, Option.some.injEq] at hl
      subst hl
      obtain ⟨a, c, e4, e5⟩ := hR.2 k r h5
      have hk := (List.getElem?_eq_some_iff.1 h5).1
      have e7 : cs[k]? = some (Value.slice a r.length c) := by rw [← h3, List.getElem?_take, if_pos hk] at e4; exact e4
      refine ⟨Value.slice a r.length c, by rw [Nat.zero_add]; exact hB.cell k e7, ?_⟩
      have e6 : Rw W (DF D0 w.heap.size (A ++ B)) (Value.slice a r.length c) r.length 1 (ncl r) := e5.turn (Nat.le_refl _) (fun b _ hd => ⟨fun p hp => hd.1 p (List.mem_cons_of_mem _ hp), hd.2⟩) (fun _ _ _ _ => rfl)
      exact Rw.toNl e6
theorem SrcN.one {T : TypeId} {B g : Nat} {x : Value} (h : Box B g T [x] W) (hx : x.oneCell' = true) : SrcN 1 W (some ⟨g, 0, none⟩) 1 [x] :=
  SrcN.box h rfl (by intro u hu; simp only [List.mem_cons, List.not_mem_nil, or_false] at hu; subst hu; exact hx)
end
/-- a list of rows came back; only its headers may be written to -/
def RetRows (D : Nat → Prop) (L : List (List Nat)) (w : World) (e : Ending) (w' : World) : Prop := ∃ sg cs va vk hs, e = .returned (.slice va L.length vk) ∧ Hid (OM sg cs (.slice va L.length vk) hs L.length) ∧ HeldF w.heap.size sg w' ∧ Hid ((gRows hs L).at_ w' (fun b => (D b ∨ w.heap.size ≤ b) ∧ ∀ p ∈ sg, p.1 ≠ b))
/-- .. as a matrix that is only read -/
def RetMf (D : Nat → Prop) (L : List (List Nat)) (e : Ending) (w' : World) : Prop := ∃ va vk, e = .returned (.slice va L.length vk) ∧ Hid (Mx w' D (.slice va L.length vk) (L.map nl))
/-- the product of two matrices -/
def mulF (q : Nat) (L M : List (List Nat)) (i j : Nat) : Nat := dotN q (L.getD i []) (colT M j) M.length
def mulT (q n : Nat) (L M : List (List Nat)) : List (List Nat) := (List.range L.length).map fun i => tab (mulF q L M i) n
theorem mulT_snoc {q n k : Nat} {L M : List (List Nat)} {O : List (List Nat)} (h : O = (List.range k).map fun i => tab (mulF q L M i) n) : O ++ [tab (mulF q L M k) n] = (List.range (k + 1)).map fun i => tab (mulF q L M i) n := by rw [h, List.range_succ, List.map_append]; rfl
theorem colT_len {L : List (List Nat)} {j : Nat} : (colT L j).length = L.length := tab_len ..
theorem colT_lt {q n j : Nat} {L : List (List Nat)} (h : ResM q n L) (hj : j < n) : ∀ c ∈ colT L j, c < q := tab_lt fun i hi => by
  unfold colF
  rw [getL_elem hi]
  have h1 := h _ (List.getElem_mem hi)
  rw [getD_elem (by rw [h1.1]; exact hj)]
  exact h1.2 _ (List.getElem_mem _)
theorem hset_mid {hs rep : List Value} {c v : Value} {i : Nat} (h : hs.length = i) : (hs ++ c :: rep).set i v = hs ++ v :: rep := by
  rw [List.set_append_right _ _ (by omega), h, Nat.sub_self, List.set_cons_zero]
theorem hget_mid {hs rep : List Value} {c : Value} {i : Nat} (h : hs.length = i) : (hs ++ c :: rep)[i]? = some c := by
  rw [List.getElem?_append_right (by omega), h, Nat.sub_self]; rfl
theorem scalN_c {D : Nat → Prop} (q : Nat) (l : List Nat) {xa : Option Addr} {xk : Nat} {w : World} (hx : Fct.at w D (.rw (.slice xa l.length xk) l.length 1 (ncl l))) (h : ∀ c ∈ l, c < q) (hm : l.length ≤ 1000000) :
    Calls Tryd.prog 80 #[.int .i64 (q : Nat), .slice xa l.length xk] w fun e w' => e = .returned (.bool true) ∧ Below w.heap.size w w' := by
  have h1 := scalars_c (q : Int) (nl l) (xa := xa) (xk := xk) (t := true) (D := D) (w := w) (by rw [nl_len]; exact hx) (nl_all h) (by rw [nl_len]; exact hm)
  rw [nl_len] at h1
  exact h1
def RetMfE (D : Nat → Prop) (L : List (List Nat)) (c : Int) (e : Ending) (w' : World) : Prop := ∃ va vk, e = .returned (.tuple #[.slice va L.length vk, .int .i64 c]) ∧ Hid (Mx w' D (.slice va L.length vk) (L.map nl))
set_option maxRecDepth 100000 in
set_option maxHeartbeats 1000000 in
theorem Apply_no {D : Nat → Prop} (q : Int) (M : List (List Int)) (x : List Int) {xa ya : Option Addr} {xk yk : Nat} {w : World} (hx : Fct.at w D (.mx (.slice xa M.length xk) M)) (hy : Fct.at w D (.rw (.slice ya x.length yk) x.length 1 (icl x))) (hl0 : Laid w) (hn : -9223372036854775808 ≤ q ∧ q ≤ 9223372036854775807) (hv0 : mvB q M = false) :
    Calls Tryd.prog 35 #[.int .i64 q, .slice xa M.length xk, .slice ya x.length yk] w fun e w' => e = .returned (.tuple #[.slice none 0 0, .int .i64 1]) ∧ Below w.heap.size w w' := by
  have E0 : Hid (Env D w [] [.rw (.slice ya x.length yk) x.length 1 (icl x), .mx (.slice xa M.length xk) M] w) := Lib.hid (((Env.start D w).arg (.mx (.slice xa M.length xk) M) hx).arg (.rw (.slice ya x.length yk) x.length 1 (icl x)) hy)
  clear hx hy
  go_enter Tryd.func35, Tryd.ntmps35
  have hl := Lib.hid hl0
  have hv := Lib.hid hv0
  clear hl0 hv0
  go_wp2_with fail
  refine (mValid_c q M (E0.out.fc 1 rfl) (hl.out.below E0.out.bel) hn hv.out).mono ?_
  rintro e w1 ⟨rfl, hb⟩
  have E1 : Hid (Env D w [] [.rw (.slice ya x.length yk) x.length 1 (icl x), .mx (.slice xa M.length xk) M] w1) := Lib.hid (E0.out.below hb)
  clear E0 hb
  have hfin := Lib.hid E1.out.bel
  go_wp2
  go_ret2
  exact ⟨rfl, hfin.out⟩
set_option maxRecDepth 100000 in
set_option maxHeartbeats 1000000 in
theorem Apply_len {D : Nat → Prop} (q n : Nat) (L : List (List Nat)) (x : List Int) {xa ya : Option Addr} {xk yk : Nat} {w : World} (hx : Fct.at w D (.mx (.slice xa L.length xk) (L.map nl))) (hy : Fct.at w D (.rw (.slice ya x.length yk) x.length 1 (icl x))) (hl0 : Laid w) (hv0 : MvI q n L) (hne : ¬ x.length = n) :
    Calls Tryd.prog 35 #[.int .i64 (q : Nat), .slice xa L.length xk, .slice ya x.length yk] w fun e w' => e = .returned (.tuple #[.slice none 0 0, .int .i64 1]) ∧ Below w.heap.size w w' := by
  have E0 : Hid (Env D w [] [.rw (.slice ya x.length yk) x.length 1 (icl x), .mx (.slice xa L.length xk) (L.map nl)] w) := Lib.hid (((Env.start D w).arg (.mx (.slice xa L.length xk) (L.map nl)) hx).arg (.rw (.slice ya x.length yk) x.length 1 (icl x)) hy)
  clear hx hy
  go_enter Tryd.func35, Tryd.ntmps35
  have hl := Lib.hid hl0
  have hv := Lib.hid hv0
  clear hl0 hv0
  have hz : 0 < L.length := hv.out.m1
  have hzI : (0 : Int) < (L.length : Int) := by omega
  have HL0 : Hid (L[0].length = n) := Lib.hid (hv.out.res _ (List.getElem_mem hz)).1
  have HNE := Lib.hid hne
  clear hne
  have n30 := hv.out.n30
  have n1 : ((x.length : Int) != (L[0].length : Int)) = true := by have h1 := HL0.out; have h2 := HNE.out; rw [bne_iff_ne]; omega
  have n2 : (x.length != L[0].length) = true := by have h1 := HL0.out; have h2 := HNE.out; rw [bne_iff_ne]; omega
  go_upto_region 1 with (fail)
  obtain ⟨xab, xao, rfl⟩ := Mx.addrN (E0.out.fc 1 rfl) hz
  obtain ⟨ua, uk, E10⟩ := E0.out.elMN 1 rfl (0) hz
  have E1 : Hid (Env D w [] [.ce xab (xao) (.slice ua L[0].length uk), .rw (.slice ua L[0].length uk) L[0].length 1 (ncl L[0]), .rw (.slice ya x.length yk) x.length 1 (icl x), .mx (.slice (some ⟨xab, xao, none⟩) L.length xk) (L.map nl)] _) := Lib.hid E10
  clear E10 E0
  have u0 := (E1.out.fc 0 rfl).2
  go_wp2_with fail
  refine (mValidN (E1.out.fc 3 rfl) (hl.out.below E1.out.bel) hv.out).mono ?_
  rintro e w1 ⟨rfl, hb⟩
  have E2 : Hid (Env D w [] [.ce xab (xao) (.slice ua L[0].length uk), .rw (.slice ua L[0].length uk) L[0].length 1 (ncl L[0]), .rw (.slice ya x.length yk) x.length 1 (icl x), .mx (.slice (some ⟨xab, xao, none⟩) L.length xk) (L.map nl)] w1) := Lib.hid (E1.out.below hb)
  clear u0 E1 hb
  have z1 := (E2.out.fc 0 rfl).2
  have hfin := Lib.hid E2.out.bel
  go_wp2
  go_ret2
  exact ⟨rfl, hfin.out⟩
set_option maxRecDepth 100000 in
set_option maxHeartbeats 1000000 in
theorem Apply_rng {D : Nat → Prop} (q n : Nat) (L : List (List Nat)) (x : List Int) {xa ya : Option Addr} {xk yk : Nat} {w : World} (hx : Fct.at w D (.mx (.slice xa L.length xk) (L.map nl))) (hy : Fct.at w D (.rw (.slice ya x.length yk) x.length 1 (icl x))) (hl0 : Laid w) (hv0 : MvI q n L) (hne : x.length = n) (hs0 : x.all (resB (q : Int)) = false) :
    Calls Tryd.prog 35 #[.int .i64 (q : Nat), .slice xa L.length xk, .slice ya x.length yk] w fun e w' => e = .returned (.tuple #[.slice none 0 0, .int .i64 2]) ∧ Below w.heap.size w w' := by
  have E0 : Hid (Env D w [] [.rw (.slice ya x.length yk) x.length 1 (icl x), .mx (.slice xa L.length xk) (L.map nl)] w) := Lib.hid (((Env.start D w).arg (.mx (.slice xa L.length xk) (L.map nl)) hx).arg (.rw (.slice ya x.length yk) x.length 1 (icl x)) hy)
  clear hx hy
  go_enter Tryd.func35, Tryd.ntmps35
  have hl := Lib.hid hl0
  have hv := Lib.hid hv0
  have hs := Lib.hid hs0
  clear hl0 hv0 hs0
  have hz : 0 < L.length := hv.out.m1
  have hzI : (0 : Int) < (L.length : Int) := by omega
  have HL0 : Hid (L[0].length = n) := Lib.hid (hv.out.res _ (List.getElem_mem hz)).1
  have HNE := Lib.hid hne
  clear hne
  have n30 := hv.out.n30
  have n1 : ((x.length : Int) != (L[0].length : Int)) = false := by have h1 := HL0.out; have h2 := HNE.out; rw [h1, h2]; simp
  have n2 : (x.length != L[0].length) = false := by have h1 := HL0.out; have h2 := HNE.out; rw [h1, h2]; simp
  go_upto_region 1 with (fail)
  obtain ⟨xab, xao, rfl⟩ := Mx.addrN (E0.out.fc 1 rfl) hz
  obtain ⟨ua, uk, E10⟩ := E0.out.elMN 1 rfl (0) hz
  have E1 : Hid (Env D w [] [.ce xab (xao) (.slice ua L[0].length uk), .rw (.slice ua L[0].length uk) L[0].length 1 (ncl L[0]), .rw (.slice ya x.length yk) x.length 1 (icl x), .mx (.slice (some ⟨xab, xao, none⟩) L.length xk) (L.map nl)] _) := Lib.hid E10
  clear E10 E0
  have u0 := (E1.out.fc 0 rfl).2
  go_wp2_with fail
  refine (mValidN (E1.out.fc 3 rfl) (hl.out.below E1.out.bel) hv.out).mono ?_
  rintro e w1 ⟨rfl, hb⟩
  have E2 : Hid (Env D w [] [.ce xab (xao) (.slice ua L[0].length uk), .rw (.slice ua L[0].length uk) L[0].length 1 (ncl L[0]), .rw (.slice ya x.length yk) x.length 1 (icl x), .mx (.slice (some ⟨xab, xao, none⟩) L.length xk) (L.map nl)] w1) := Lib.hid (E1.out.below hb)
  clear u0 E1 hb
  have z1 := (E2.out.fc 0 rfl).2
  have hx9 : x.length ≤ 1000000 := by have := HNE.out; omega
  go_wp2_with fail
  refine (scalars_c (q : Int) x (E2.out.fc 2 rfl) hs.out hx9).mono ?_
  rintro e w2 ⟨rfl, hb⟩
  have E3 : Hid (Env D w [] [.ce xab (xao) (.slice ua L[0].length uk), .rw (.slice ua L[0].length uk) L[0].length 1 (ncl L[0]), .rw (.slice ya x.length yk) x.length 1 (icl x), .mx (.slice (some ⟨xab, xao, none⟩) L.length xk) (L.map nl)] w2) := Lib.hid (E2.out.below hb)
  clear z1 E2 hb
  have hfin := Lib.hid E3.out.bel
  go_wp2
  go_ret2
  exact ⟨rfl, hfin.out⟩
set_option maxRecDepth 100000 in
set_option maxHeartbeats 4000000 in
theorem Apply_ok {D : Nat → Prop} (q n : Nat) (L : List (List Nat)) (x : List Nat) {xa ya : Option Addr} {xk yk : Nat} {w : World} (hx : Fct.at w D (.mx (.slice xa L.length xk) (L.map nl))) (hy : Fct.at w D (.rw (.slice ya x.length yk) x.length 1 (ncl x))) (hl0 : Laid w) (hv0 : MvI q n L) (hne : x.length = n) (hs0 : ∀ c ∈ x, c < q) :
    Calls Tryd.prog 35 #[.int .i64 (q : Nat), .slice xa L.length xk, .slice ya x.length yk] w fun e w' => RetIE (fun b => w.heap.size ≤ b) (appT q L x) 0 e w' ∧ Below w.heap.size w w' := by
  have E0 : Hid (Env D w [] [.rw (.slice ya x.length yk) x.length 1 (ncl x), .mx (.slice xa L.length xk) (L.map nl)] w) := Lib.hid (((Env.start D w).arg (.mx (.slice xa L.length xk) (L.map nl)) hx).arg (.rw (.slice ya x.length yk) x.length 1 (ncl x)) hy)
  clear hx hy
  go_enter Tryd.func35, Tryd.ntmps35
  have hl := Lib.hid hl0
  have hv := Lib.hid hv0
  have hs := Lib.hid hs0
  clear hl0 hv0 hs0
  have hq1 : Hid (0 < q) := Lib.hid (by have := hv.out.q2; omega)
  have hz : 0 < L.length := hv.out.m1
  have hzI : (0 : Int) < (L.length : Int) := by omega
  have HL0 : Hid (L[0].length = n) := Lib.hid (hv.out.res _ (List.getElem_mem hz)).1
  have HNE := Lib.hid hne
  clear hne
  have n30 := hv.out.n30
  have m30 := hv.out.m30
  have n1 : ((x.length : Int) != (L[0].length : Int)) = false := by have h1 := HL0.out; have h2 := HNE.out; rw [h1, h2]; simp
  have n2 : (x.length != L[0].length) = false := by have h1 := HL0.out; have h2 := HNE.out; rw [h1, h2]; simp
  go_upto_region 1 with (fail)
  obtain ⟨xab, xao, rfl⟩ := Mx.addrN (E0.out.fc 1 rfl) hz
  obtain ⟨ua, uk, E10⟩ := E0.out.elMN 1 rfl (0) hz
  have E1 : Hid (Env D w [] [.ce xab (xao) (.slice ua L[0].length uk), .rw (.slice ua L[0].length uk) L[0].length 1 (ncl L[0]), .rw (.slice ya x.length yk) x.length 1 (ncl x), .mx (.slice (some ⟨xab, xao, none⟩) L.length xk) (L.map nl)] _) := Lib.hid E10
  clear E10 E0
  have u0 := (E1.out.fc 0 rfl).2
  go_wp2_with fail
  refine (mValidN (E1.out.fc 3 rfl) (hl.out.below E1.out.bel) hv.out).mono ?_
  rintro e w1 ⟨rfl, hb⟩
  have E2 : Hid (Env D w [] [.ce xab (xao) (.slice ua L[0].length uk), .rw (.slice ua L[0].length uk) L[0].length 1 (ncl L[0]), .rw (.slice ya x.length yk) x.length 1 (ncl x), .mx (.slice (some ⟨xab, xao, none⟩) L.length xk) (L.map nl)] w1) := Lib.hid (E1.out.below hb)
  clear u0 E1 hb
  have z1 := (E2.out.fc 0 rfl).2
  have hx9 : x.length ≤ 1000000 := by have := HNE.out; omega
  go_wp2_with fail
  refine (scalN_c q x (E2.out.fc 2 rfl) hs.out hx9).mono ?_
  rintro e w2 ⟨rfl, hb⟩
  have E3 : Hid (Env D w [] [.ce xab (xao) (.slice ua L[0].length uk), .rw (.slice ua L[0].length uk) L[0].length 1 (ncl L[0]), .rw (.slice ya x.length yk) x.length 1 (ncl x), .mx (.slice (some ⟨xab, xao, none⟩) L.length xk) (L.map nl)] w2) := Lib.hid (E2.out.below hb)
  clear z1 E2 hb
  go_wp2_with fail
  clear n1 n2
  go_loopg [32, 8] (L.length) (fun gk s32 s8 wr => ∃ (k : Nat) (sg : List Bx) (cs : List Value) (va : Option Addr) (vk : Nat) (o : List Nat), s32 = .int .i64 (k : Int) ∧ s8 = .slice va o.length vk ∧ Hid (Env D w sg [.ce xab (xao) (.slice ua L[0].length uk), .rw (.slice ua L[0].length uk) L[0].length 1 (ncl L[0]), .rw (.slice ya x.length yk) x.length 1 (ncl x), .mx (.slice (some ⟨xab, xao, none⟩) L.length xk) (L.map nl)] wr) ∧ Hid (OI sg cs (.slice va o.length vk) (nl o)) ∧ Hid ((k ≤ L.length ∧ gk = L.length - k) ∧ o = tab (appF q L x) k))
  case atStart => exact ⟨0, [], [], none, 0, [], rfl, rfl, Lib.hid (E3.out.cast (by first | rfl | simp)), Lib.hid OI.nlnil, Lib.hid ⟨⟨Nat.zero_le _, rfl⟩, rfl⟩⟩
  case round =>
    clear E3
    obtain ⟨k, sg, cs, va, vk, o, rfl, rfl, EL, hO, HA⟩ := hrel
    obtain ⟨⟨a1, a2⟩, a3⟩ := HA.out
    have HP := Lib.hid a3
    clear a3 HA
    by_cases hy : k = L.length
    · skip
      have t6 : decide ((k : Int) < (L.length : Int)) = false := decide_eq_false (by omega)
      have t6n : decide (k < L.length) = false := decide_eq_false (by omega)
      have HD : Hid (o = appT q L x) := Lib.hid (by rw [HP.out, hy]; rfl)
      clear hy
      have hres := Lib.hid (OI.rwN hO.out EL.out (by intro p hp; simp [hp]))
      have hbel := Lib.hid EL.out.bel
      go_wp2
      go_ret2
      exact ⟨⟨va, vk, by rw [← HD.out]; rfl, Lib.hid (by rw [← HD.out]; exact hres.out)⟩, hbel.out⟩
    have hk : k < L.length := by omega
    have t6 : decide ((k : Int) < (L.length : Int)) = true := decide_eq_true (by omega)
    have t6n : decide (k < L.length) = true := decide_eq_true (by omega)
    have hkI : (k : Int) < (L.length : Int) := by omega
    clear hy
    have hol : o.length + 1 ≤ 1000000 := by rw [HP.out, tab_len]; omega
    have HOL := Lib.hid hol
    clear hol
    go_upto_region 8 with (fail)
    obtain ⟨pa, pk, E40⟩ := EL.out.elMN 3 rfl (k) hk
    have E4 : Hid (Env D w sg [.ce xab (xao + k) (.slice pa L[k].length pk), .rw (.slice pa L[k].length pk) L[k].length 1 (ncl L[k]), .ce xab (xao) (.slice ua L[0].length uk), .rw (.slice ua L[0].length uk) L[0].length 1 (ncl L[0]), .rw (.slice ya x.length yk) x.length 1 (ncl x), .mx (.slice (some ⟨xab, xao, none⟩) L.length xk) (L.map nl)] _) := Lib.hid E40
    clear E40 EL
    have p0 := (E4.out.fc 0 rfl).2
    have HLK : Hid (L[k].length = x.length ∧ ∀ c ∈ L[k], c < q) := Lib.hid (by have h := hv.out.res _ (List.getElem_mem hk); rw [HNE.out]; exact h)
    have HLN : Hid (L[k].length ≤ 1000) := Lib.hid (by rw [HLK.out.1, HNE.out]; omega)
    go_wp2_with fail
    refine (matdot_c q L[k] x (E4.out.fc 1 rfl) (E4.out.fc 4 rfl) hq1.out hv.out.qT HLK.out.2 hs.out (Nat.le_of_eq HLK.out.1) HLN.out).mono ?_
    rintro e w3 ⟨rfl, hb⟩
    have E5 : Hid (Env D w sg [.ce xab (xao + k) (.slice pa L[k].length pk), .rw (.slice pa L[k].length pk) L[k].length 1 (ncl L[k]), .ce xab (xao) (.slice ua L[0].length uk), .rw (.slice ua L[0].length uk) L[0].length 1 (ncl L[0]), .rw (.slice ya x.length yk) x.length 1 (ncl x), .mx (.slice (some ⟨xab, xao, none⟩) L.length xk) (L.map nl)] w3) := Lib.hid (E4.out.below hb)
    clear p0 E4 hb
    have E6 : Hid (Env D w ((w3.heap.size, 3, [.int .i64 ((dotN q L[k] x L[k].length : Nat) : Int)]) :: sg) [.ce xab (xao + k) (.slice pa L[k].length pk), .rw (.slice pa L[k].length pk) L[k].length 1 (ncl L[k]), .ce xab (xao) (.slice ua L[0].length uk), .rw (.slice ua L[0].length uk) L[0].length 1 (ncl L[0]), .rw (.slice ya x.length yk) x.length 1 (ncl x), .mx (.slice (some ⟨xab, xao, none⟩) L.length xk) (L.map nl)] _) := Lib.hid ((E5.out.push 3 [.int .i64 ((dotN q L[k] x L[k].length : Nat) : Int)] (w3.heap.size) (by simp)))
    go_wp2_with (at_builtin; refine wpl_app1 (c := 1) tiI rfl _ _ rfl E6.out (A := [(w3.heap.size, 3, [.int .i64 ((dotN q L[k] x L[k].length : Nat) : Int)])]) (sg := sg) (B' := []) (F := ((w3.heap.size, 3, [.int .i64 ((dotN q L[k] x L[k].length : Nat) : Int)]) :: sg)) (by simp) (hO.out.os (nl_len o)) rfl rfl (SrcN.int (E6.out.bx 0 rfl)) HOL.out ?_)
    intro ng np nc w4 nH nT nE
    have nO := Lib.hid (OI.app (x := ((dotN q L[k] x L[k].length : Nat) : Int)) (g' := ng) (cs' := nc) (cap' := np) hO.out (nl_len o) (by simpa using nH.out) (by simpa using nT.out))
    have E7 : Hid (Env D w ((w3.heap.size, 3, [.int .i64 ((dotN q L[k] x L[k].length : Nat) : Int)]) :: [(ng, 3, nc)]) [.ce xab (xao + k) (.slice pa L[k].length pk), .rw (.slice pa L[k].length pk) L[k].length 1 (ncl L[k]), .ce xab (xao) (.slice ua L[0].length uk), .rw (.slice ua L[0].length uk) L[0].length 1 (ncl L[0]), .rw (.slice ya x.length yk) x.length 1 (ncl x), .mx (.slice (some ⟨xab, xao, none⟩) L.length xk) (L.map nl)] w4) := Lib.hid (nE.out.cast (by simp))
    clear E5 E6 nE nH nT hO
    have OZ : Hid (OI [(ng, 3, nc)] nc (.slice (some ⟨ng, 0, none⟩) (o ++ [dotN q L[k] x L[k].length]).length np) (nl (o ++ [dotN q L[k] x L[k].length]))) := Lib.hid (by rw [show nl (o ++ [dotN q L[k] x L[k].length]) = nl o ++ [((dotN q L[k] x L[k].length : Nat) : Int)] from by simp [nl], List.length_append, List.length_singleton]; exact nO.out)
    have EZ := Lib.hid (((E7.out.drop).forget).forget)
    go_wp2
    go_roundg (L.length - (k + 1))
    case rel => exact ⟨k + 1, [(ng, 3, nc)], nc, some ⟨ng, 0, none⟩, np, o ++ [dotN q L[k] x L[k].length], rfl, by simp, Lib.hid (EZ.out.cast (by first | rfl | simp)), OZ, Lib.hid ⟨⟨by omega, rfl⟩, by rw [HP.out]; exact tab_snoc (by unfold appF; rw [getL_elem hk, HLK.out.1])⟩⟩
    case measure => exact by omega
set_option maxRecDepth 100000 in
set_option maxHeartbeats 1000000 in
theorem mMul_a {D : Nat → Prop} (q : Int) (M N : List (List Int)) {xa ya : Option Addr} {xk yk : Nat} {w : World} (hx : Fct.at w D (.mx (.slice xa M.length xk) M)) (hy : Fct.at w D (.mx (.slice ya N.length yk) N)) (hl0 : Laid w) (hn : -9223372036854775808 ≤ q ∧ q ≤ 9223372036854775807) (hv0 : mvB q M = false) :
    Calls Tryd.prog 43 #[.int .i64 q, .slice xa M.length xk, .slice ya N.length yk] w fun e w' => e = .returned (.tuple #[.slice none 0 0, .int .i64 1]) ∧ Below w.heap.size w w' := by
  have E0 : Hid (Env D w [] [.mx (.slice ya N.length yk) N, .mx (.slice xa M.length xk) M] w) := Lib.hid (((Env.start D w).arg (.mx (.slice xa M.length xk) M) hx).arg (.mx (.slice ya N.length yk) N) hy)
  clear hx hy
  go_enter Tryd.func43, Tryd.ntmps43
  have hl := Lib.hid hl0
  have hv := Lib.hid hv0
  clear hl0 hv0
  go_wp2_with fail
  refine (mValid_c q M (E0.out.fc 1 rfl) (hl.out.below E0.out.bel) hn hv.out).mono ?_
  rintro e w1 ⟨rfl, hb⟩
  have E1 : Hid (Env D w [] [.mx (.slice ya N.length yk) N, .mx (.slice xa M.length xk) M] w1) := Lib.hid (E0.out.below hb)
  clear E0 hb
  have hfin := Lib.hid E1.out.bel
  go_wp2
  go_ret2
  exact ⟨rfl, hfin.out⟩
set_option maxRecDepth 100000 in
set_option maxHeartbeats 1000000 in
theorem mMul_b {D : Nat → Prop} (q : Int) (M N : List (List Int)) {xa ya : Option Addr} {xk yk : Nat} {w : World} (hx : Fct.at w D (.mx (.slice xa M.length xk) M)) (hy : Fct.at w D (.mx (.slice ya N.length yk) N)) (hl0 : Laid w) (hn : -9223372036854775808 ≤ q ∧ q ≤ 9223372036854775807) (hv0 : mvB q M = true) (hu0 : mvB q N = false) :
    Calls Tryd.prog 43 #[.int .i64 q, .slice xa M.length xk, .slice ya N.length yk] w fun e w' => e = .returned (.tuple #[.slice none 0 0, .int .i64 1]) ∧ Below w.heap.size w w' := by
  have E0 : Hid (Env D w [] [.mx (.slice ya N.length yk) N, .mx (.slice xa M.length xk) M] w) := Lib.hid (((Env.start D w).arg (.mx (.slice xa M.length xk) M) hx).arg (.mx (.slice ya N.length yk) N) hy)
  clear hx hy
  go_enter Tryd.func43, Tryd.ntmps43
  have hl := Lib.hid hl0
  have hv := Lib.hid hv0
  have hu := Lib.hid hu0
  clear hl0 hv0 hu0
  go_wp2_with fail
  refine (mValid_c q M (E0.out.fc 1 rfl) (hl.out.below E0.out.bel) hn hv.out).mono ?_
  rintro e w1 ⟨rfl, hb⟩
  have E1 : Hid (Env D w [] [.mx (.slice ya N.length yk) N, .mx (.slice xa M.length xk) M] w1) := Lib.hid (E0.out.below hb)
  clear E0 hb
  go_wp2_with fail
  refine (mValid_c q N (E1.out.fc 0 rfl) (hl.out.below E1.out.bel) hn hu.out).mono ?_
  rintro e w2 ⟨rfl, hb⟩
  have E2 : Hid (Env D w [] [.mx (.slice ya N.length yk) N, .mx (.slice xa M.length xk) M] w2) := Lib.hid (E1.out.below hb)
  clear E1 hb
  have hfin := Lib.hid E2.out.bel
  go_wp2
  go_ret2
  exact ⟨rfl, hfin.out⟩
set_option maxRecDepth 100000 in
set_option maxHeartbeats 1000000 in
theorem mMul_c {D : Nat → Prop} (q m n : Nat) (L M : List (List Nat)) {xa ya : Option Addr} {xk yk : Nat} {w : World} (hx : Fct.at w D (.mx (.slice xa L.length xk) (L.map nl))) (hy : Fct.at w D (.mx (.slice ya M.length yk) (M.map nl))) (hl0 : Laid w) (hv0 : MvI q m L) (hu0 : MvI q n M) (hne : ¬ m = M.length) :
    Calls Tryd.prog 43 #[.int .i64 (q : Nat), .slice xa L.length xk, .slice ya M.length yk] w fun e w' => e = .returned (.tuple #[.slice none 0 0, .int .i64 1]) ∧ Below w.heap.size w w' := by
  have E0 : Hid (Env D w [] [.mx (.slice ya M.length yk) (M.map nl), .mx (.slice xa L.length xk) (L.map nl)] w) := Lib.hid (((Env.start D w).arg (.mx (.slice xa L.length xk) (L.map nl)) hx).arg (.mx (.slice ya M.length yk) (M.map nl)) hy)
  clear hx hy
  go_enter Tryd.func43, Tryd.ntmps43
  have hl := Lib.hid hl0
  have hv := Lib.hid hv0
  have hu := Lib.hid hu0
  clear hl0 hv0 hu0
  have hz : 0 < L.length := hv.out.m1
  have hzI : (0 : Int) < (L.length : Int) := by omega
  have HL0 : Hid (L[0].length = m) := Lib.hid (hv.out.res _ (List.getElem_mem hz)).1
  have HNE := Lib.hid hne
  clear hne
  have n1 : ((L[0].length : Int) != (M.length : Int)) = true := by have h1 := HL0.out; have h2 := HNE.out; rw [bne_iff_ne]; omega
  have n2 : (L[0].length != M.length) = true := by have h1 := HL0.out; have h2 := HNE.out; rw [bne_iff_ne]; omega
  go_upto_region 1 with (fail)
  obtain ⟨xab, xao, rfl⟩ := Mx.addrN (E0.out.fc 1 rfl) hz
  obtain ⟨ua, uk, E10⟩ := E0.out.elMN 1 rfl (0) hz
  have E1 : Hid (Env D w [] [.ce xab (xao) (.slice ua L[0].length uk), .rw (.slice ua L[0].length uk) L[0].length 1 (ncl L[0]), .mx (.slice ya M.length yk) (M.map nl), .mx (.slice (some ⟨xab, xao, none⟩) L.length xk) (L.map nl)] _) := Lib.hid E10
  clear E10 E0
  have u0 := (E1.out.fc 0 rfl).2
  go_wp2_with fail
  refine (mValidN (E1.out.fc 3 rfl) (hl.out.below E1.out.bel) hv.out).mono ?_
  rintro e w1 ⟨rfl, hb⟩
  have E2 : Hid (Env D w [] [.ce xab (xao) (.slice ua L[0].length uk), .rw (.slice ua L[0].length uk) L[0].length 1 (ncl L[0]), .mx (.slice ya M.length yk) (M.map nl), .mx (.slice (some ⟨xab, xao, none⟩) L.length xk) (L.map nl)] w1) := Lib.hid (E1.out.below hb)
  clear u0 E1 hb
  go_wp2_with fail
  refine (mValidN (E2.out.fc 2 rfl) (hl.out.below E2.out.bel) hu.out).mono ?_
  rintro e w2 ⟨rfl, hb⟩
  have E3 : Hid (Env D w [] [.ce xab (xao) (.slice ua L[0].length uk), .rw (.slice ua L[0].length uk) L[0].length 1 (ncl L[0]), .mx (.slice ya M.length yk) (M.map nl), .mx (.slice (some ⟨xab, xao, none⟩) L.length xk) (L.map nl)] w2) := Lib.hid (E2.out.below hb)
  clear E2 hb
  have z1 := (E3.out.fc 0 rfl).2
  have hfin := Lib.hid E3.out.bel
  go_wp2
  go_ret2
  exact ⟨rfl, hfin.out⟩
set_option maxRecDepth 100000 in
set_option maxHeartbeats 8000000 in
theorem mMul_ok {D : Nat → Prop} (q m n : Nat) (L M : List (List Nat)) {xa ya : Option Addr} {xk yk : Nat} {w : World} (hx : Fct.at w D (.mx (.slice xa L.length xk) (L.map nl))) (hy : Fct.at w D (.mx (.slice ya M.length yk) (M.map nl))) (hl0 : Laid w) (hv0 : MvI q m L) (hu0 : MvI q n M) (hne : m = M.length) :
    Calls Tryd.prog 43 #[.int .i64 (q : Nat), .slice xa L.length xk, .slice ya M.length yk] w fun e w' => RetMfE (fun b => D b ∨ w.heap.size ≤ b) (mulT q n L M) 0 e w' ∧ Below w.heap.size w w' := by
  have E0 : Hid (Env D w [] [.mx (.slice ya M.length yk) (M.map nl), .mx (.slice xa L.length xk) (L.map nl)] w) := Lib.hid (((Env.start D w).arg (.mx (.slice xa L.length xk) (L.map nl)) hx).arg (.mx (.slice ya M.length yk) (M.map nl)) hy)
  clear hx hy
  go_enter Tryd.func43, Tryd.ntmps43
  have hl := Lib.hid hl0
  have hv := Lib.hid hv0
  have hu := Lib.hid hu0
  clear hl0 hv0 hu0
  have hq1 : Hid (0 < q) := Lib.hid (by have := hv.out.q2; omega)
  have hz : 0 < L.length := hv.out.m1
  have hzI : (0 : Int) < (L.length : Int) := by omega
  have HL0 : Hid (L[0].length = m) := Lib.hid (hv.out.res _ (List.getElem_mem hz)).1
  have HNE := Lib.hid hne
  clear hne
  have hz2 : 0 < M.length := hu.out.m1
  have hz2I : (0 : Int) < (M.length : Int) := by omega
  have m30 := hv.out.m30
  have p30 := hu.out.m30
  have n30 := hu.out.n30
  have n1 : ((L[0].length : Int) != (M.length : Int)) = false := by have h1 := HL0.out; have h2 := HNE.out; rw [h1, h2]; simp
  have n2 : (L[0].length != M.length) = false := by have h1 := HL0.out; have h2 := HNE.out; rw [h1, h2]; simp
  go_upto_region 1 with (fail)
  obtain ⟨xab, xao, rfl⟩ := Mx.addrN (E0.out.fc 1 rfl) hz
  obtain ⟨ua, uk, E10⟩ := E0.out.elMN 1 rfl (0) hz
  have E1 : Hid (Env D w [] [.ce xab (xao) (.slice ua L[0].length uk), .rw (.slice ua L[0].length uk) L[0].length 1 (ncl L[0]), .mx (.slice ya M.length yk) (M.map nl), .mx (.slice (some ⟨xab, xao, none⟩) L.length xk) (L.map nl)] _) := Lib.hid E10
  clear E10 E0
  have u0 := (E1.out.fc 0 rfl).2
  go_wp2_with fail
  refine (mValidN (E1.out.fc 3 rfl) (hl.out.below E1.out.bel) hv.out).mono ?_
  rintro e w1 ⟨rfl, hb⟩
  have E2 : Hid (Env D w [] [.ce xab (xao) (.slice ua L[0].length uk), .rw (.slice ua L[0].length uk) L[0].length 1 (ncl L[0]), .mx (.slice ya M.length yk) (M.map nl), .mx (.slice (some ⟨xab, xao, none⟩) L.length xk) (L.map nl)] w1) := Lib.hid (E1.out.below hb)
  clear u0 E1 hb
  go_wp2_with fail
  refine (mValidN (E2.out.fc 2 rfl) (hl.out.below E2.out.bel) hu.out).mono ?_
  rintro e w2 ⟨rfl, hb⟩
  have E3 : Hid (Env D w [] [.ce xab (xao) (.slice ua L[0].length uk), .rw (.slice ua L[0].length uk) L[0].length 1 (ncl L[0]), .mx (.slice ya M.length yk) (M.map nl), .mx (.slice (some ⟨xab, xao, none⟩) L.length xk) (L.map nl)] w2) := Lib.hid (E2.out.below hb)
  clear E2 hb
  have z1 := (E3.out.fc 0 rfl).2
  go_upto_region 3 with (fail)
  clear n1 n2
  go_wp2_with (at_make; refine wpl_makeR rfl _ _ rfl E3.out L.length rfl rfl (by omega) ?_)
  intro wm g Em
  have E4 : Hid (Env D w [(g, 22, (List.replicate L.length (.slice none 0 0)))] [.ce xab (xao) (.slice ua L[0].length uk), .rw (.slice ua L[0].length uk) L[0].length 1 (ncl L[0]), .mx (.slice ya M.length yk) (M.map nl), .mx (.slice (some ⟨xab, xao, none⟩) L.length xk) (L.map nl)] wm) := Em
  clear z1 E3 Em
  have E5 : Hid (Env D w [(g, 22, (List.replicate L.length (.slice none 0 0)))] [.gn (gRows [] []), .ce xab (xao) (.slice ua L[0].length uk), .rw (.slice ua L[0].length uk) L[0].length 1 (ncl L[0]), .mx (.slice ya M.length yk) (M.map nl), .mx (.slice (some ⟨xab, xao, none⟩) L.length xk) (L.map nl)] wm) := Lib.hid (E4.out.note (.gn (gRows [] [])) gRows.nil)
  clear E4
  go_wp2_with fail
  go_loopg [36] (L.length) (fun gk s36 wr => ∃ (i : Nat) (hs : List Value) (O : List (List Nat)), s36 = .int .i64 (i : Int) ∧ Hid (Env D w [(g, 22, (hs ++ List.replicate (L.length - i) (Value.slice none 0 0)))] [.gn (gRows hs O), .ce xab (xao) (.slice ua L[0].length uk), .rw (.slice ua L[0].length uk) L[0].length 1 (ncl L[0]), .mx (.slice ya M.length yk) (M.map nl), .mx (.slice (some ⟨xab, xao, none⟩) L.length xk) (L.map nl)] wr) ∧ Hid ((i ≤ L.length ∧ gk = L.length - i) ∧ O = (List.range i).map fun i => tab (mulF q L M i) n))
  case atStart => exact ⟨0, [], [], rfl, Lib.hid E5.out, Lib.hid ⟨⟨Nat.zero_le _, rfl⟩, rfl⟩⟩
  case round =>
    clear E5
    obtain ⟨i, hs, O, rfl, EL, HA⟩ := hrel
    obtain ⟨⟨a1, a2⟩, a3⟩ := HA.out
    have HPO := Lib.hid a3
    clear a3 HA
    have HOL : Hid (O.length = i) := Lib.hid (by rw [HPO.out]; simp)
    have HHL : Hid (hs.length = i) := Lib.hid (by have h : (gRows hs O).at_ _ _ := EL.out.fc 0 rfl; rw [show hs.length = O.length from h.1, HOL.out])
    by_cases hy : i = L.length
    · skip
      have t6 : decide ((i : Int) < (L.length : Int)) = false := decide_eq_false (by omega)
      have t6n : decide (i < L.length) = false := decide_eq_false (by omega)
      have HD : Hid (O = mulT q n L M) := Lib.hid (by rw [HPO.out, hy]; rfl)
      have HY := Lib.hid hy
      clear hy
      have hbel := Lib.hid EL.out.bel
      go_wp2
      go_ret2
      have HB := EL.out
      rw [HY.out, Nat.sub_self, List.replicate_zero] at HB
      have hln : O.length = L.length := HOL.out.trans HY.out
      have EF := Env.freezeOM (A := []) (sg := [(g, 22, hs ++ [])]) (B := []) (HB.cast (by first | rfl | simp)) (OM.of (cap := L.length) (by rw [HHL.out, HOL.out]) (Nat.le_of_eq hln) (by omega) (by rw [List.append_nil, HHL.out, HY.out])) 0 rfl
      have hres : Fct.at _ _ _ := EF.out 0 rfl
      rw [HD.out] at hres hln
      exact ⟨⟨some ⟨g, 0, none⟩, L.length, by rw [hln]; rfl, Lib.hid hres⟩, hbel.out⟩
    have hi : i < L.length := by omega
    have t6 : decide ((i : Int) < (L.length : Int)) = true := decide_eq_true (by omega)
    have t6n : decide (i < L.length) = true := decide_eq_true (by omega)
    have hiI : (i : Int) < (L.length : Int) := by omega
    clear hy
    go_upto_region 6 with (fail)
    obtain ⟨pa, pk, E60⟩ := EL.out.elMN 4 rfl (i) hi
    have E6 : Hid (Env D w [(g, 22, (hs ++ List.replicate (L.length - i) (Value.slice none 0 0)))] [.ce xab (xao + i) (.slice pa L[i].length pk), .rw (.slice pa L[i].length pk) L[i].length 1 (ncl L[i]), .gn (gRows hs O), .ce xab (xao) (.slice ua L[0].length uk), .rw (.slice ua L[0].length uk) L[0].length 1 (ncl L[0]), .mx (.slice ya M.length yk) (M.map nl), .mx (.slice (some ⟨xab, xao, none⟩) L.length xk) (L.map nl)] _) := Lib.hid E60
    clear E60 EL
    have p0 := (E6.out.fc 0 rfl).2
    go_upto_region 7 with (fail)
    obtain ⟨yab, yao, rfl⟩ := Mx.addrN (E6.out.fc 5 rfl) hz2
    obtain ⟨ra, rk, E70⟩ := E6.out.elMN 5 rfl (0) hz2
    have E7 : Hid (Env D w [(g, 22, (hs ++ List.replicate (L.length - i) (Value.slice none 0 0)))] [.ce yab (yao) (.slice ra M[0].length rk), .rw (.slice ra M[0].length rk) M[0].length 1 (ncl M[0]), .ce xab (xao + i) (.slice pa L[i].length pk), .rw (.slice pa L[i].length pk) L[i].length 1 (ncl L[i]), .gn (gRows hs O), .ce xab (xao) (.slice ua L[0].length uk), .rw (.slice ua L[0].length uk) L[0].length 1 (ncl L[0]), .mx (.slice (some ⟨yab, yao, none⟩) M.length yk) (M.map nl), .mx (.slice (some ⟨xab, xao, none⟩) L.length xk) (L.map nl)] _) := Lib.hid E70
    clear E70 E6
    have r0 := (E7.out.fc 0 rfl).2
    have HM0 : Hid (M[0].length = n) := Lib.hid (hu.out.res _ (List.getElem_mem hz2)).1
    have hm09 : M[0].length ≤ 30 := by rw [HM0.out]; exact n30
    go_wp2_with fail
    clear t6 t6n
    rename World => wo
    obtain ⟨rest, hrest⟩ : ∃ r, List.replicate (L.length - (i + 1)) (Value.slice none 0 0) = r := ⟨_, rfl⟩
    have HREST := Lib.hid hrest
    clear hrest
    have E8 : Hid (Env D w [(g, 22, (hs ++ Value.slice none 0 0 :: rest))] [.ce yab (yao) (.slice ra M[0].length rk), .rw (.slice ra M[0].length rk) M[0].length 1 (ncl M[0]), .ce xab (xao + i) (.slice pa L[i].length pk), .rw (.slice pa L[i].length pk) L[i].length 1 (ncl L[i]), .gn (gRows hs O), .ce xab (xao) (.slice ua L[0].length uk), .rw (.slice ua L[0].length uk) L[0].length 1 (ncl L[0]), .mx (.slice (some ⟨yab, yao, none⟩) M.length yk) (M.map nl), .mx (.slice (some ⟨xab, xao, none⟩) L.length xk) (L.map nl)] _) := Lib.hid (by have h := E7.out; rw [show L.length - i = (L.length - (i + 1)) + 1 from by omega, List.replicate_succ, HREST.out] at h; exact h)
    clear E7
    go_loopg [45] (M[0].length) (fun gk s45 wr => ∃ (k : Nat) (sg : List Bx) (cs : List Value) (va : Option Addr) (vk : Nat) (o : List Nat), s45 = .int .i64 (k : Int) ∧ Hid (Env D w ((g, 22, (hs ++ Value.slice va o.length vk :: rest)) :: sg) [.ce yab (yao) (.slice ra M[0].length rk), .rw (.slice ra M[0].length rk) M[0].length 1 (ncl M[0]), .ce xab (xao + i) (.slice pa L[i].length pk), .rw (.slice pa L[i].length pk) L[i].length 1 (ncl L[i]), .gn (gRows hs O), .ce xab (xao) (.slice ua L[0].length uk), .rw (.slice ua L[0].length uk) L[0].length 1 (ncl L[0]), .mx (.slice (some ⟨yab, yao, none⟩) M.length yk) (M.map nl), .mx (.slice (some ⟨xab, xao, none⟩) L.length xk) (L.map nl)] wr) ∧ Hid (OI sg cs (.slice va o.length vk) (nl o)) ∧ Hid ((k ≤ M[0].length ∧ gk = M[0].length - k) ∧ o = tab (mulF q L M i) k))
    case atStart => exact ⟨0, [], [], none, 0, [], rfl, Lib.hid (E8.out.cast (by first | rfl | simp)), Lib.hid OI.nlnil, Lib.hid ⟨⟨Nat.zero_le _, rfl⟩, rfl⟩⟩
    case round =>
      clear p0 r0 E8
      obtain ⟨k, sg, cs, va, vk, o, rfl, EL, hO, HA⟩ := hrel
      obtain ⟨⟨b1, b2⟩, b3⟩ := HA.out
      have HP := Lib.hid b3
      clear b3 HA
      by_cases hy : k = M[0].length
      · skip
        have t7 : decide ((k : Int) < (M[0].length : Int)) = false := decide_eq_false (by omega)
        have t7n : decide (k < M[0].length) = false := decide_eq_false (by omega)
        have HD : Hid (o = tab (mulF q L M i) n) := Lib.hid (by rw [HP.out, hy, HM0.out])
        clear hy
        go_upto_region 12 with (fail)
        have E9 : Hid (Env D w [(g, 22, (hs ++ Value.slice va o.length vk :: rest))] [.rw (.slice va o.length vk) o.length 1 (ncl o), .ce yab (yao) (.slice ra M[0].length rk), .rw (.slice ra M[0].length rk) M[0].length 1 (ncl M[0]), .ce xab (xao + i) (.slice pa L[i].length pk), .rw (.slice pa L[i].length pk) L[i].length 1 (ncl L[i]), .gn (gRows hs O), .ce xab (xao) (.slice ua L[0].length uk), .rw (.slice ua L[0].length uk) L[0].length 1 (ncl L[0]), .mx (.slice (some ⟨yab, yao, none⟩) M.length yk) (M.map nl), .mx (.slice (some ⟨xab, xao, none⟩) L.length xk) (L.map nl)] _) := Lib.hid (Env.cast (Env.freezeSeg (A := [(g, 22, (hs ++ Value.slice va o.length vk :: rest))]) (sg := sg) (B := []) (EL.out.cast (by simp)) hO.out) (by simp))
        have hZ := E9.out
        have hN : (gRows (hs ++ [Value.slice va o.length vk]) (O ++ [o])).at_ _ _ := gRows.app (hZ.fc 5 rfl) (hZ.fc 0 rfl)
        have EZ : Hid (Env D w [(g, 22, ((hs ++ [Value.slice va o.length vk]) ++ List.replicate (L.length - (i + 1)) (Value.slice none 0 0)))] [.gn (gRows (hs ++ [Value.slice va o.length vk]) (O ++ [o])), .ce xab (xao) (.slice ua L[0].length uk), .rw (.slice ua L[0].length uk) L[0].length 1 (ncl L[0]), .mx (.slice (some ⟨yab, yao, none⟩) M.length yk) (M.map nl), .mx (.slice (some ⟨xab, xao, none⟩) L.length xk) (L.map nl)] _) := Lib.hid (by have h : Env D w _ [.gn (gRows (hs ++ [Value.slice va o.length vk]) (O ++ [o])), .ce xab (xao) (.slice ua L[0].length uk), .rw (.slice ua L[0].length uk) L[0].length 1 (ncl L[0]), .mx (.slice (some ⟨yab, yao, none⟩) M.length yk) (M.map nl), .mx (.slice (some ⟨xab, xao, none⟩) L.length xk) (L.map nl)] _ := ⟨hZ.bel, hZ.box, hN, ⟨hZ.fc 6 rfl, ⟨hZ.fc 7 rfl, ⟨hZ.fc 8 rfl, ⟨hZ.fc 9 rfl, trivial⟩⟩⟩⟩⟩; rw [← HREST.out] at h; rw [List.append_assoc]; exact h)
        clear hZ hN
        go_wp2
        go_roundg (L.length - (i + 1))
        case rel => exact ⟨i + 1, _, O ++ [o], rfl, EZ, Lib.hid ⟨⟨by omega, rfl⟩, by rw [HD.out]; exact mulT_snoc HPO.out⟩⟩
        case measure => exact by omega
      have hk : k < M[0].length := by omega
      have t7 : decide ((k : Int) < (M[0].length : Int)) = true := decide_eq_true (by omega)
      have t7n : decide (k < M[0].length) = true := decide_eq_true (by omega)
      clear hy
      have hol : o.length + 1 ≤ 1000000 := by rw [HP.out, tab_len]; omega
      have HOLI := Lib.hid hol
      clear hol
      have HKN : Hid (k < n) := Lib.hid (by rw [← HM0.out]; exact hk)
      go_upto_region 10 with (fail)
      have HLK : Hid (L[i].length = m ∧ ∀ c ∈ L[i], c < q) := Lib.hid (hv.out.res _ (List.getElem_mem hi))
      have HCL := Lib.hid (colT_lt hu.out.res HKN.out)
      go_wp2_with fail
      have E9 : Hid (Env D w ((g, 22, (hs ++ Value.slice va o.length vk :: rest)) :: sg) [.ce yab (yao) (.slice ra M[0].length rk), .rw (.slice ra M[0].length rk) M[0].length 1 (ncl M[0]), .ce xab (xao + i) (.slice pa L[i].length pk), .rw (.slice pa L[i].length pk) L[i].length 1 (ncl L[i]), .gn (gRows hs O), .ce xab (xao) (.slice ua L[0].length uk), .rw (.slice ua L[0].length uk) L[0].length 1 (ncl L[0]), .mx (.slice (some ⟨yab, yao, none⟩) M.length yk) (M.map nl), .mx (.slice (some ⟨xab, xao, none⟩) L.length xk) (L.map nl)] (wr.drew)) := Lib.hid EL.out.drew
      clear EL
      refine wp_regionU (S := fun w' => w'.cell? ⟨g, i, none⟩ = some (.slice va o.length vk)) [15] (by kernel_rfl) ((E9.out.bx 0 rfl).cell i (hget_mid HHL.out)) (fun hHeld => ?_)
      generalize wr.drew = w3 at *
      refine uTake (i := 0) (some 48) (v := ?_) rfl rfl (by kernel_rfl) (by kernel_rfl) (by kernel_rfl) (by kernel_rfl) (fun _ _ _ h => h) (by rfl) (by assumption) ?_ ?_
      rotate_left
      · (intro wS hSw; (try dsimp only at hSw); go_simp; try with_reducible rfl)
      try simp only [Act.put, List.setIfInBounds_toArray, List.set_cons_zero, List.set_cons_succ]
      refine uTake (i := 1) (some 49) (v := ?_) rfl rfl (by kernel_rfl) (by kernel_rfl) (by kernel_rfl) (by kernel_rfl) (fun _ _ _ h => h) (by rfl) (by assumption) ?_ ?_
      rotate_left
      · (intro wS hSw; (try dsimp only at hSw); go_simp; try with_reducible rfl)
      try simp only [Act.put, List.setIfInBounds_toArray, List.set_cons_zero, List.set_cons_succ]
      refine uTake (i := 2) (some 50) (v := ?_) rfl rfl (by kernel_rfl) (by kernel_rfl) (by kernel_rfl) (by kernel_rfl) (fun _ _ _ h => h) (by rfl) (by assumption) ?_ ?_
      rotate_left
      · (intro wS hSw; (try dsimp only at hSw); go_simp; try with_reducible rfl)
      try simp only [Act.put, List.setIfInBounds_toArray, List.set_cons_zero, List.set_cons_succ]
      refine uTake (i := 3) (some 51) (v := ?_) rfl rfl (by kernel_rfl) (by kernel_rfl) (by kernel_rfl) (by kernel_rfl) (fun _ _ _ h => h) (by rfl) (by assumption) ?_ ?_
      rotate_left
      · (intro wS hSw; (try dsimp only at hSw); go_simp; try with_reducible rfl)
      try simp only [Act.put, List.setIfInBounds_toArray, List.set_cons_zero, List.set_cons_succ]
      refine uTake (i := 4) (some 52) (v := ?_) rfl rfl (by kernel_rfl) (by kernel_rfl) (by kernel_rfl) (by kernel_rfl) (fun _ _ _ h => h) (by rfl) (by assumption) ?_ ?_
      rotate_left
      · (intro wS hSw; (try dsimp only at hSw); go_simp; try with_reducible rfl)
      try simp only [Act.put, List.setIfInBounds_toArray, List.set_cons_zero, List.set_cons_succ]
      refine uTake (i := 5) (some 53) (v := ?_) rfl rfl (by kernel_rfl) (by kernel_rfl) (by kernel_rfl) (by kernel_rfl) (fun _ _ _ h => h) (by rfl) (by assumption) ?_ ?_
      rotate_left
      · (intro wS hSw; (try dsimp only at hSw); go_simp; try with_reducible rfl)
      try simp only [Act.put, List.setIfInBounds_toArray, List.set_cons_zero, List.set_cons_succ]
      refine uTake (i := 6) (some 54) (v := ?_) rfl rfl (by kernel_rfl) (by kernel_rfl) (by kernel_rfl) (by kernel_rfl) (fun _ _ _ h => h) (by rfl) (by assumption) ?_ ?_
      rotate_left
      · (intro wS hSw; (try dsimp only at hSw); go_simp; try with_reducible rfl)
      try simp only [Act.put, List.setIfInBounds_toArray, List.set_cons_zero, List.set_cons_succ]
      refine uTake (i := 7) (some 55) (v := ?_) rfl rfl (by kernel_rfl) (by kernel_rfl) (by kernel_rfl) (by kernel_rfl) (fun _ _ _ h => h) (by rfl) (by assumption) ?_ ?_
      rotate_left
      · (intro wS hSw; (try dsimp only at hSw); go_simp; try with_reducible rfl)
      try simp only [Act.put, List.setIfInBounds_toArray, List.set_cons_zero, List.set_cons_succ]
      refine uTake (i := 8) (some 56) (v := ?_) rfl rfl (by kernel_rfl) (by kernel_rfl) (by kernel_rfl) (by kernel_rfl) (fun _ _ _ h => h) (by rfl) (by assumption) ?_ ?_
      rotate_left
      · (intro wS hSw; (try dsimp only at hSw); go_simp; try with_reducible rfl)
      try simp only [Act.put, List.setIfInBounds_toArray, List.set_cons_zero, List.set_cons_succ]
      refine uTake (i := 9) (some 57) (v := ?_) rfl rfl (by kernel_rfl) (by kernel_rfl) (by kernel_rfl) (by kernel_rfl) (fun _ _ _ h => h) (by rfl) (by assumption) ?_ ?_
      rotate_left
      · (intro wS hSw; (try dsimp only at hSw); go_simp; try with_reducible rfl)
      try simp only [Act.put, List.setIfInBounds_toArray, List.set_cons_zero, List.set_cons_succ]
      refine uReady (rs := [10]) (by kernel_rfl) (by simp) ?_
      refine ReadyU.cons rfl (fun KK hKK => ?_) ReadyU.nil
      go_simp
      refine (mcolumn_c M k (E9.out.fc 7 rfl) (by omega) (fun r hr => by rw [(hu.out.res r hr).1]; exact HKN.out)).mono ?_
      rintro e w4 ⟨⟨ca, ck, rfl, cH⟩, hb⟩
      have E10 : Hid (Env D w ((g, 22, (hs ++ Value.slice va o.length vk :: rest)) :: sg) [.rw (.slice ca (colT M k).length ck) (colT M k).length 1 (ncl (colT M k)), .ce yab (yao) (.slice ra M[0].length rk), .rw (.slice ra M[0].length rk) M[0].length 1 (ncl M[0]), .ce xab (xao + i) (.slice pa L[i].length pk), .rw (.slice pa L[i].length pk) L[i].length 1 (ncl L[i]), .gn (gRows hs O), .ce xab (xao) (.slice ua L[0].length uk), .rw (.slice ua L[0].length uk) L[0].length 1 (ncl L[0]), .mx (.slice (some ⟨yab, yao, none⟩) M.length yk) (M.map nl), .mx (.slice (some ⟨xab, xao, none⟩) L.length xk) (L.map nl)] w4) := Lib.hid (E9.out.got (E9.out.below hb) (.rw (.slice ca (colT M k).length ck) (colT M k).length 1 (ncl (colT M k))) (Lib.hid (Rw.ge cH.out)).out)
      clear E9 hb
      (try dsimp only)
      clear hHeld
      refine hKK.out _ _ ((E10.out.bx 0 rfl).cell i (hget_mid HHL.out)) (fun hHeld => ?_)
      clear hKK KK
      try simp only [Act.put, List.setIfInBounds_toArray, List.set_cons_zero, List.set_cons_succ]
      refine uReady (rs := [11]) (by kernel_rfl) (by simp) ?_
      refine ReadyU.cons rfl (fun KK hKK => ?_) ReadyU.nil
      go_simp
      refine (matdot_c q L[i] (colT M k) (E10.out.fc 4 rfl) (E10.out.fc 0 rfl) hq1.out hv.out.qT HLK.out.2 HCL.out (by rw [colT_len, HLK.out.1, HNE.out]; exact Nat.le_refl _) (by rw [HLK.out.1, HNE.out]; omega)).mono ?_
      rintro e w5 ⟨rfl, hb⟩
      have E11 : Hid (Env D w ((g, 22, (hs ++ Value.slice va o.length vk :: rest)) :: sg) [.rw (.slice ca (colT M k).length ck) (colT M k).length 1 (ncl (colT M k)), .ce yab (yao) (.slice ra M[0].length rk), .rw (.slice ra M[0].length rk) M[0].length 1 (ncl M[0]), .ce xab (xao + i) (.slice pa L[i].length pk), .rw (.slice pa L[i].length pk) L[i].length 1 (ncl L[i]), .gn (gRows hs O), .ce xab (xao) (.slice ua L[0].length uk), .rw (.slice ua L[0].length uk) L[0].length 1 (ncl L[0]), .mx (.slice (some ⟨yab, yao, none⟩) M.length yk) (M.map nl), .mx (.slice (some ⟨xab, xao, none⟩) L.length xk) (L.map nl)] w5) := Lib.hid (E10.out.below hb)
      clear E10 hb
      (try dsimp only)
      clear hHeld
      refine hKK.out _ _ ((E11.out.bx 0 rfl).cell i (hget_mid HHL.out)) (fun hHeld => ?_)
      clear hKK KK
      try simp only [Act.put, List.setIfInBounds_toArray, List.set_cons_zero, List.set_cons_succ]
      refine uReady (rs := [12]) (by kernel_rfl) (by simp) ?_
      refine ReadyU.cons rfl (fun KK hKK => ?_) ReadyU.nil
      go_simp
      have E12 : Hid (Env D w ((w5.heap.size, 3, [.int .i64 ((dotN q L[i] (colT M k) L[i].length : Nat) : Int)]) :: (g, 22, (hs ++ Value.slice va o.length vk :: rest)) :: sg) [.rw (.slice ca (colT M k).length ck) (colT M k).length 1 (ncl (colT M k)), .ce yab (yao) (.slice ra M[0].length rk), .rw (.slice ra M[0].length rk) M[0].length 1 (ncl M[0]), .ce xab (xao + i) (.slice pa L[i].length pk), .rw (.slice pa L[i].length pk) L[i].length 1 (ncl L[i]), .gn (gRows hs O), .ce xab (xao) (.slice ua L[0].length uk), .rw (.slice ua L[0].length uk) L[0].length 1 (ncl L[0]), .mx (.slice (some ⟨yab, yao, none⟩) M.length yk) (M.map nl), .mx (.slice (some ⟨xab, xao, none⟩) L.length xk) (L.map nl)] _) := Lib.hid ((E11.out.push 3 [.int .i64 ((dotN q L[i] (colT M k) L[i].length : Nat) : Int)] (w5.heap.size) (by simp)))
      (try dsimp only)
      clear hHeld
      refine hKK.out _ _ ((E12.out.bx 1 rfl).cell i (hget_mid HHL.out)) (fun hHeld => ?_)
      clear hKK KK
      try simp only [Act.put, List.setIfInBounds_toArray, List.set_cons_zero, List.set_cons_succ]
      clear E11
      generalize w5.alloc (.cells #[.int .i64 ((dotN q L[i] (colT M k) L[i].length : Nat) : Int)] 3) = w6 at *
      refine uReady (rs := [13]) (by kernel_rfl) (by simp) ?_
      refine ReadyU.cons rfl (fun KK hKK => ?_) ReadyU.nil
      refine op_app1 (c := 1) tiI (some 61) rfl rfl (.tmp 53) (.tmp 60) rfl E12.out (A := [(w5.heap.size, 3, [.int .i64 ((dotN q L[i] (colT M k) L[i].length : Nat) : Int)]), (g, 22, (hs ++ Value.slice va o.length vk :: rest))]) (sg := sg) (B' := []) (F := ((w5.heap.size, 3, [.int .i64 ((dotN q L[i] (colT M k) L[i].length : Nat) : Int)]) :: (g, 22, (hs ++ Value.slice va o.length vk :: rest)) :: sg)) (by simp) (hO.out.os (nl_len o)) (by simp [Act.eval, Act.put]) (by simp [Act.eval, Act.put]; done) (SrcN.int (E12.out.bx 0 rfl)) HOLI.out ?_
      intro ng np nc w7 nH nT nE
      have nO := Lib.hid (OI.app (g' := ng) hO.out (nl_len o) nH.out nT.out)
      have E13 : Hid (Env D w ((w5.heap.size, 3, [.int .i64 ((dotN q L[i] (colT M k) L[i].length : Nat) : Int)]) :: (g, 22, (hs ++ Value.slice va o.length vk :: rest)) :: [(ng, 3, nc)]) [.rw (.slice ca (colT M k).length ck) (colT M k).length 1 (ncl (colT M k)), .ce yab (yao) (.slice ra M[0].length rk), .rw (.slice ra M[0].length rk) M[0].length 1 (ncl M[0]), .ce xab (xao + i) (.slice pa L[i].length pk), .rw (.slice pa L[i].length pk) L[i].length 1 (ncl L[i]), .gn (gRows hs O), .ce xab (xao) (.slice ua L[0].length uk), .rw (.slice ua L[0].length uk) L[0].length 1 (ncl L[0]), .mx (.slice (some ⟨yab, yao, none⟩) M.length yk) (M.map nl), .mx (.slice (some ⟨xab, xao, none⟩) L.length xk) (L.map nl)] w7) := Lib.hid (nE.out.cast (by simp))
      clear E12 nE nH nT hO
      (try dsimp only)
      clear hHeld
      refine hKK.out _ _ ((E13.out.bx 1 rfl).cell i (hget_mid HHL.out)) (fun hHeld => ?_)
      clear hKK KK
      try simp only [Act.put, List.setIfInBounds_toArray, List.set_cons_zero, List.set_cons_succ]
      refine uTake (i := 14) (some 62) (v := ?_) rfl rfl (by kernel_rfl) (by kernel_rfl) (by kernel_rfl) (by kernel_rfl) (fun _ _ _ h => h) (by rfl) (by assumption) ?_ ?_
      rotate_left
      · (intro wS hSw; (try dsimp only at hSw); go_simp; try with_reducible rfl)
      try simp only [Act.put, List.setIfInBounds_toArray, List.set_cons_zero, List.set_cons_succ]
      have fz := (E13.out.bx 1 rfl).frozen i
      have cz := (E13.out.bx 1 rfl).cell i (hget_mid HHL.out)
      refine uReady (rs := [15]) (by kernel_rfl) (by simp) ?_
      refine ReadyU.consU (by kernel_rfl) rfl (fun KK hKK => ?_) ReadyU.nil
      go_simp
      have E14 : Hid (Env D w ((w5.heap.size, 3, [.int .i64 ((dotN q L[i] (colT M k) L[i].length : Nat) : Int)]) :: (g, 22, ((hs ++ Value.slice va o.length vk :: rest).set i (Value.slice (some ⟨ng, 0, none⟩) (o.length + 1) np))) :: [(ng, 3, nc)]) [.rw (.slice ca (colT M k).length ck) (colT M k).length 1 (ncl (colT M k)), .ce yab (yao) (.slice ra M[0].length rk), .rw (.slice ra M[0].length rk) M[0].length 1 (ncl M[0]), .ce xab (xao + i) (.slice pa L[i].length pk), .rw (.slice pa L[i].length pk) L[i].length 1 (ncl L[i]), .gn (gRows hs O), .ce xab (xao) (.slice ua L[0].length uk), .rw (.slice ua L[0].length uk) L[0].length 1 (ncl L[0]), .mx (.slice (some ⟨yab, yao, none⟩) M.length yk) (M.map nl), .mx (.slice (some ⟨xab, xao, none⟩) L.length xk) (L.map nl)] _) := Lib.hid ((E13.out.set 1 i (Value.slice (some ⟨ng, 0, none⟩) (o.length + 1) np) rfl))
      (try dsimp only)
      (try clear hHeld)
      refine hKK.out _ _ ?_
      clear hKK KK
      try simp only [Act.put, List.setIfInBounds_toArray, List.set_cons_zero, List.set_cons_succ]
      refine uDone (by kernel_rfl) ?_ _
      have E15 : Hid (Env D w ((w5.heap.size, 3, [.int .i64 ((dotN q L[i] (colT M k) L[i].length : Nat) : Int)]) :: (g, 22, (hs ++ Value.slice (some ⟨ng, 0, none⟩) (o.length + 1) np :: rest)) :: [(ng, 3, nc)]) [.rw (.slice ca (colT M k).length ck) (colT M k).length 1 (ncl (colT M k)), .ce yab (yao) (.slice ra M[0].length rk), .rw (.slice ra M[0].length rk) M[0].length 1 (ncl M[0]), .ce xab (xao + i) (.slice pa L[i].length pk), .rw (.slice pa L[i].length pk) L[i].length 1 (ncl L[i]), .gn (gRows hs O), .ce xab (xao) (.slice ua L[0].length uk), .rw (.slice ua L[0].length uk) L[0].length 1 (ncl L[0]), .mx (.slice (some ⟨yab, yao, none⟩) M.length yk) (M.map nl), .mx (.slice (some ⟨xab, xao, none⟩) L.length xk) (L.map nl)] _) := Lib.hid (by have h := E14.out; rw [hset_mid HHL.out] at h; exact h)
      have OZ : Hid (OI [(ng, 3, nc)] nc (.slice (some ⟨ng, 0, none⟩) (o ++ [dotN q L[i] (colT M k) L[i].length]).length np) (nl (o ++ [dotN q L[i] (colT M k) L[i].length]))) := Lib.hid (by rw [show nl (o ++ [dotN q L[i] (colT M k) L[i].length]) = nl o ++ [((dotN q L[i] (colT M k) L[i].length : Nat) : Int)] from by simp [nl], List.length_append, List.length_singleton]; exact nO.out)
      have EZ := Lib.hid (E15.out.drop.forget)
      go_wp2
      go_roundg (M[0].length - (k + 1))
      case rel => exact ⟨k + 1, [(ng, 3, nc)], nc, some ⟨ng, 0, none⟩, np, o ++ [dotN q L[i] (colT M k) L[i].length], rfl, Lib.hid (EZ.out.cast (by simp)), OZ, Lib.hid ⟨⟨by omega, rfl⟩, by rw [HP.out]; exact tab_snoc (by unfold mulF; rw [getL_elem hi, HLK.out.1, HNE.out])⟩⟩
      case measure => exact by omega
theorem same_step {α : Type} {A B : List α} {i : Nat} (hi : i < A.length) (hi2 : i < B.length) (e : A.take i = B.take i) (h : A[i] = B[i]) : A.take (i + 1) = B.take (i + 1) := by
  rw [List.take_add_one, List.take_add_one, e, List.getElem?_eq_getElem hi, List.getElem?_eq_getElem hi2, h]
section
variable {α : Type} [BEq α] [LawfulBEq α] {A B : List α} {i : Nat}
theorem same_end (h : A.length = B.length) (hi : i = A.length) (e : A.take i = B.take i) : (A == B) = true := by
  subst hi
  rw [List.take_length, h, List.take_length] at e
  rw [e]; simp
theorem same_no (hi : i < A.length) (hi2 : i < B.length) (h : A[i] ≠ B[i]) : (A == B) = false := by
  refine beq_eq_false_iff_ne.2 fun e => h ?_
  subst e; rfl
theorem same_ne (h : ¬ A.length = B.length) : (A == B) = false := beq_eq_false_iff_ne.2 fun e => h (by rw [e])
end
set_option maxRecDepth 100000 in
set_option maxHeartbeats 1000000 in
theorem rSame_len {D : Nat → Prop} (M N : List (List Int)) {xa ya : Option Addr} {xk yk : Nat} {w : World} (hx : Fct.at w D (.mx (.slice xa M.length xk) M)) (hy : Fct.at w D (.mx (.slice ya N.length yk) N)) (hlen : ¬ M.length = N.length) :
    Calls Tryd.prog 44 #[.slice xa M.length xk, .slice ya N.length yk] w fun e w' => e = .returned (.bool false) ∧ Below w.heap.size w w' := by
  have E0 : Hid (Env D w [] [.mx (.slice ya N.length yk) N, .mx (.slice xa M.length xk) M] w) := Lib.hid (((Env.start D w).arg (.mx (.slice xa M.length xk) M) hx).arg (.mx (.slice ya N.length yk) N) hy)
  clear hx hy
  go_enter Tryd.func44, Tryd.ntmps44
  have n1 : ((M.length : Int) != (N.length : Int)) = true := by rw [bne_iff_ne]; omega
  have n2 : (M.length != N.length) = true := by rw [bne_iff_ne]; exact hlen
  clear hlen
  have hfin := Lib.hid E0.out.bel
  go_wp2
  go_ret
  exact ⟨rfl, hfin.out⟩
set_option maxRecDepth 100000 in
set_option maxHeartbeats 8000000 in
theorem rSame_ok {D : Nat → Prop} (M N : List (List Int)) {xa ya : Option Addr} {xk yk : Nat} {w : World} (hx : Fct.at w D (.mx (.slice xa M.length xk) M)) (hy : Fct.at w D (.mx (.slice ya N.length yk) N)) (hlen : M.length = N.length) (hm : M.length ≤ 1000000) (hr0 : ∀ r ∈ M, r.length ≤ 1000000) {t : Bool} (ht0 : (M == N) = t) :
    Calls Tryd.prog 44 #[.slice xa M.length xk, .slice ya N.length yk] w fun e w' => e = .returned (.bool t) ∧ Below w.heap.size w w' := by
  have E0 : Hid (Env D w [] [.mx (.slice ya N.length yk) N, .mx (.slice xa M.length xk) M] w) := Lib.hid (((Env.start D w).arg (.mx (.slice xa M.length xk) M) hx).arg (.mx (.slice ya N.length yk) N) hy)
  clear hx hy
  go_enter Tryd.func44, Tryd.ntmps44
  have hr := Lib.hid hr0
  have ht := Lib.hid ht0
  clear hr0 ht0
  have HLN := Lib.hid hlen
  clear hlen
  have n1 : ((M.length : Int) != (N.length : Int)) = false := by rw [HLN.out]; simp
  have n2 : (M.length != N.length) = false := by rw [HLN.out]; simp
  go_wp2_with fail
  clear n1 n2
  go_loopg [5] (M.length) (fun gk s5 wr => ∃ (i : Nat), s5 = .int .i64 (i : Int) ∧ Hid (Env D w [] [.mx (.slice ya N.length yk) N, .mx (.slice xa M.length xk) M] wr) ∧ Hid ((i ≤ M.length ∧ gk = M.length - i) ∧ M.take i = N.take i))
  case atStart => exact ⟨0, rfl, Lib.hid E0.out, Lib.hid ⟨⟨Nat.zero_le _, rfl⟩, rfl⟩⟩
  case round =>
    clear E0
    obtain ⟨i, rfl, EL, HA⟩ := hrel
    obtain ⟨⟨a1, a2⟩, a3⟩ := HA.out
    have HS := Lib.hid a3
    clear a3 HA
    by_cases hy : i = M.length
    · skip
      have t6 : decide ((i : Int) < (M.length : Int)) = false := decide_eq_false (by omega)
      have t6n : decide (i < M.length) = false := decide_eq_false (by omega)
      have HT : Hid (true = t) := Lib.hid (by rw [← ht.out]; exact (same_end HLN.out hy HS.out).symm)
      clear hy
      have hfin := Lib.hid EL.out.bel
      go_wp2
      go_ret
      exact ⟨by have h := HT.out; subst h; rfl, hfin.out⟩
    have hi : i < M.length := by omega
    have t6 : decide ((i : Int) < (M.length : Int)) = true := decide_eq_true (by omega)
    have t6n : decide (i < M.length) = true := decide_eq_true (by omega)
    have hiI : (i : Int) < (M.length : Int) := by omega
    have hi2 : i < N.length := by rw [← HLN.out]; exact hi
    have hi2I : (i : Int) < (N.length : Int) := by omega
    clear hy
    go_upto_region 6 with (fail)
    obtain ⟨xab, xao, rfl⟩ := Mx.addr (EL.out.fc 1 rfl) hi
    obtain ⟨pa, pk, E10⟩ := EL.out.elM 1 rfl (i) hi
    have E1 : Hid (Env D w [] [.ce xab (xao + i) (.slice pa M[i].length pk), .rw (.slice pa M[i].length pk) M[i].length 1 (icl M[i]), .mx (.slice ya N.length yk) N, .mx (.slice (some ⟨xab, xao, none⟩) M.length xk) M] _) := Lib.hid E10
    clear E10 EL
    obtain ⟨yab, yao, rfl⟩ := Mx.addr (E1.out.fc 2 rfl) hi2
    obtain ⟨ua, uk, E20⟩ := E1.out.elM 2 rfl (i) hi2
    have E2 : Hid (Env D w [] [.ce yab (yao + i) (.slice ua N[i].length uk), .rw (.slice ua N[i].length uk) N[i].length 1 (icl N[i]), .ce xab (xao + i) (.slice pa M[i].length pk), .rw (.slice pa M[i].length pk) M[i].length 1 (icl M[i]), .mx (.slice (some ⟨yab, yao, none⟩) N.length yk) N, .mx (.slice (some ⟨xab, xao, none⟩) M.length xk) M] _) := Lib.hid E20
    clear E20 E1
    by_cases hb : M[i].length = N[i].length
    rotate_left
    · skip
      have n1 : ((M[i].length : Int) != (N[i].length : Int)) = true := by rw [bne_iff_ne]; omega
      have n2 : (M[i].length != N[i].length) = true := by rw [bne_iff_ne]; exact hb
      have HT : Hid (false = t) := Lib.hid (by rw [← ht.out]; exact (same_no hi hi2 (fun e => hb (by rw [e]))).symm)
      clear hb
      go_wp2_with fail
      have E3 : Hid (Env D w [] [.ce yab (yao + i) (.slice ua N[i].length uk), .rw (.slice ua N[i].length uk) N[i].length 1 (icl N[i]), .ce xab (xao + i) (.slice pa M[i].length pk), .rw (.slice pa M[i].length pk) M[i].length 1 (icl M[i]), .mx (.slice (some ⟨yab, yao, none⟩) N.length yk) N, .mx (.slice (some ⟨xab, xao, none⟩) M.length xk) M] (wr.drew)) := Lib.hid E2.out.drew
      clear E2
      refine wp_regionU (S := fun w' => w'.cell? ⟨xab, xao + i, none⟩ = some (.slice pa M[i].length pk) ∧ w'.cell? ⟨yab, yao + i, none⟩ = some (.slice ua N[i].length uk)) [] (by kernel_rfl) (⟨(E3.out.fc 2 rfl).2, (E3.out.fc 0 rfl).2⟩) (fun hHeld => ?_)
      generalize wr.drew = w1 at *
      refine uTake (i := 0) (some 18) (v := ?_) rfl rfl (by kernel_rfl) (by kernel_rfl) (by kernel_rfl) (by kernel_rfl) (fun _ _ _ h => h) (by rfl) (by assumption) ?_ ?_
      rotate_left
      · (intro wS hSw; (try dsimp only at hSw); go_simp; try with_reducible rfl)
      try simp only [Act.put, List.setIfInBounds_toArray, List.set_cons_zero, List.set_cons_succ]
      refine uTake (i := 1) (some 19) (v := ?_) rfl rfl (by kernel_rfl) (by kernel_rfl) (by kernel_rfl) (by kernel_rfl) (fun _ _ _ h => h) (by rfl) (by assumption) ?_ ?_
      rotate_left
      · (intro wS hSw; (try dsimp only at hSw); go_simp; try with_reducible rfl)
      try simp only [Act.put, List.setIfInBounds_toArray, List.set_cons_zero, List.set_cons_succ]
      refine uTake (i := 2) (some 20) (v := ?_) rfl rfl (by kernel_rfl) (by kernel_rfl) (by kernel_rfl) (by kernel_rfl) (fun _ _ _ h => h) (by rfl) (by assumption) ?_ ?_
      rotate_left
      · (intro wS hSw; (try dsimp only at hSw); go_simp; try with_reducible rfl)
      try simp only [Act.put, List.setIfInBounds_toArray, List.set_cons_zero, List.set_cons_succ]
      refine uTake (i := 3) (some 21) (v := ?_) rfl rfl (by kernel_rfl) (by kernel_rfl) (by kernel_rfl) (by kernel_rfl) (fun _ _ _ h => h) (by rfl) (by assumption) ?_ ?_
      rotate_left
      · (intro wS hSw; (try dsimp only at hSw); go_simp; try with_reducible rfl)
      try simp only [Act.put, List.setIfInBounds_toArray, List.set_cons_zero, List.set_cons_succ]
      refine uTake (i := 4) (some 22) (v := ?_) rfl rfl (by kernel_rfl) (by kernel_rfl) (by kernel_rfl) (by kernel_rfl) (fun _ _ _ h => h) (by rfl) (by assumption) ?_ ?_
      rotate_left
      · (intro wS hSw; (try dsimp only at hSw); go_simp; try with_reducible rfl)
      try simp only [Act.put, List.setIfInBounds_toArray, List.set_cons_zero, List.set_cons_succ]
      refine uTake (i := 5) (some 23) (v := ?_) rfl rfl (by kernel_rfl) (by kernel_rfl) (by kernel_rfl) (by kernel_rfl) (fun _ _ _ h => h) (by rfl) (by assumption) ?_ ?_
      rotate_left
      · (intro wS hSw; (try dsimp only at hSw); go_simp; try with_reducible rfl)
      try simp only [Act.put, List.setIfInBounds_toArray, List.set_cons_zero, List.set_cons_succ]
      refine uTake (i := 6) (some 24) (v := ?_) rfl rfl (by kernel_rfl) (by kernel_rfl) (by kernel_rfl) (by kernel_rfl) (fun _ _ _ h => h) (by rfl) (by assumption) ?_ ?_
      rotate_left
      · (intro wS hSw; (try dsimp only at hSw); go_simp; try with_reducible rfl)
      try simp only [Act.put, List.setIfInBounds_toArray, List.set_cons_zero, List.set_cons_succ]
      refine uTake (i := 7) (some 25) (v := ?_) rfl rfl (by kernel_rfl) (by kernel_rfl) (by kernel_rfl) (by kernel_rfl) (fun _ _ _ h => h) (by rfl) (by assumption) ?_ ?_
      rotate_left
      · (intro wS hSw; (try dsimp only at hSw); go_simp; try with_reducible rfl)
      try simp only [Act.put, List.setIfInBounds_toArray, List.set_cons_zero, List.set_cons_succ]
      refine uTake (i := 8) (some 26) (v := ?_) rfl rfl (by kernel_rfl) (by kernel_rfl) (by kernel_rfl) (by kernel_rfl) (fun _ _ _ h => h) (by rfl) (by assumption) ?_ ?_
      rotate_left
      · (intro wS hSw; (try dsimp only at hSw); go_simp; try with_reducible rfl)
      try simp only [Act.put, List.setIfInBounds_toArray, List.set_cons_zero, List.set_cons_succ]
      refine uTake (i := 9) (some 27) (v := ?_) rfl rfl (by kernel_rfl) (by kernel_rfl) (by kernel_rfl) (by kernel_rfl) (fun _ _ _ h => h) (by rfl) (by assumption) ?_ ?_
      rotate_left
      · (intro wS hSw; (try dsimp only at hSw); go_simp; try with_reducible rfl)
      try simp only [Act.put, List.setIfInBounds_toArray, List.set_cons_zero, List.set_cons_succ]
      refine uTake (i := 10) (some 28) (v := ?_) rfl rfl (by kernel_rfl) (by kernel_rfl) (by kernel_rfl) (by kernel_rfl) (fun _ _ _ h => h) (by rfl) (by assumption) ?_ ?_
      rotate_left
      · (intro wS hSw; (try dsimp only at hSw); go_simp; try with_reducible rfl)
      try simp only [Act.put, List.setIfInBounds_toArray, List.set_cons_zero, List.set_cons_succ]
      refine uDone (by kernel_rfl) ?_ _
      have hfin := Lib.hid E3.out.bel
      go_wp2
      go_ret
      exact ⟨by have h := HT.out; subst h; rfl, hfin.out⟩
    have HRL := Lib.hid hb
    clear hb
    have hrm : M[i].length ≤ 1000000 := hr.out _ (List.getElem_mem hi)
    have n1 : ((M[i].length : Int) != (N[i].length : Int)) = false := by rw [HRL.out]; simp
    have n2 : (M[i].length != N[i].length) = false := by rw [HRL.out]; simp
    go_wp2_with fail
    have E3 : Hid (Env D w [] [.ce yab (yao + i) (.slice ua N[i].length uk), .rw (.slice ua N[i].length uk) N[i].length 1 (icl N[i]), .ce xab (xao + i) (.slice pa M[i].length pk), .rw (.slice pa M[i].length pk) M[i].length 1 (icl M[i]), .mx (.slice (some ⟨yab, yao, none⟩) N.length yk) N, .mx (.slice (some ⟨xab, xao, none⟩) M.length xk) M] (wr.drew)) := Lib.hid E2.out.drew
    clear E2
    refine wp_regionU (S := fun w' => w'.cell? ⟨xab, xao + i, none⟩ = some (.slice pa M[i].length pk) ∧ w'.cell? ⟨yab, yao + i, none⟩ = some (.slice ua N[i].length uk)) [] (by kernel_rfl) (⟨(E3.out.fc 2 rfl).2, (E3.out.fc 0 rfl).2⟩) (fun hHeld => ?_)
    generalize wr.drew = w1 at *
    refine uTake (i := 0) (some 18) (v := ?_) rfl rfl (by kernel_rfl) (by kernel_rfl) (by kernel_rfl) (by kernel_rfl) (fun _ _ _ h => h) (by rfl) (by assumption) ?_ ?_
    rotate_left
    · (intro wS hSw; (try dsimp only at hSw); go_simp; try with_reducible rfl)
    try simp only [Act.put, List.setIfInBounds_toArray, List.set_cons_zero, List.set_cons_succ]
    refine uTake (i := 1) (some 19) (v := ?_) rfl rfl (by kernel_rfl) (by kernel_rfl) (by kernel_rfl) (by kernel_rfl) (fun _ _ _ h => h) (by rfl) (by assumption) ?_ ?_
    rotate_left
    · (intro wS hSw; (try dsimp only at hSw); go_simp; try with_reducible rfl)
    try simp only [Act.put, List.setIfInBounds_toArray, List.set_cons_zero, List.set_cons_succ]
    refine uTake (i := 2) (some 20) (v := ?_) rfl rfl (by kernel_rfl) (by kernel_rfl) (by kernel_rfl) (by kernel_rfl) (fun _ _ _ h => h) (by rfl) (by assumption) ?_ ?_
    rotate_left
    · (intro wS hSw; (try dsimp only at hSw); go_simp; try with_reducible rfl)
    try simp only [Act.put, List.setIfInBounds_toArray, List.set_cons_zero, List.set_cons_succ]
    refine uTake (i := 3) (some 21) (v := ?_) rfl rfl (by kernel_rfl) (by kernel_rfl) (by kernel_rfl) (by kernel_rfl) (fun _ _ _ h => h) (by rfl) (by assumption) ?_ ?_
    rotate_left
    · (intro wS hSw; (try dsimp only at hSw); go_simp; try with_reducible rfl)
    try simp only [Act.put, List.setIfInBounds_toArray, List.set_cons_zero, List.set_cons_succ]
    refine uTake (i := 4) (some 22) (v := ?_) rfl rfl (by kernel_rfl) (by kernel_rfl) (by kernel_rfl) (by kernel_rfl) (fun _ _ _ h => h) (by rfl) (by assumption) ?_ ?_
    rotate_left
    · (intro wS hSw; (try dsimp only at hSw); go_simp; try with_reducible rfl)
    try simp only [Act.put, List.setIfInBounds_toArray, List.set_cons_zero, List.set_cons_succ]
    refine uTake (i := 5) (some 23) (v := ?_) rfl rfl (by kernel_rfl) (by kernel_rfl) (by kernel_rfl) (by kernel_rfl) (fun _ _ _ h => h) (by rfl) (by assumption) ?_ ?_
    rotate_left
    · (intro wS hSw; (try dsimp only at hSw); go_simp; try with_reducible rfl)
    try simp only [Act.put, List.setIfInBounds_toArray, List.set_cons_zero, List.set_cons_succ]
    refine uTake (i := 6) (some 24) (v := ?_) rfl rfl (by kernel_rfl) (by kernel_rfl) (by kernel_rfl) (by kernel_rfl) (fun _ _ _ h => h) (by rfl) (by assumption) ?_ ?_
    rotate_left
    · (intro wS hSw; (try dsimp only at hSw); go_simp; try with_reducible rfl)
    try simp only [Act.put, List.setIfInBounds_toArray, List.set_cons_zero, List.set_cons_succ]
    refine uTake (i := 7) (some 25) (v := ?_) rfl rfl (by kernel_rfl) (by kernel_rfl) (by kernel_rfl) (by kernel_rfl) (fun _ _ _ h => h) (by rfl) (by assumption) ?_ ?_
    rotate_left
    · (intro wS hSw; (try dsimp only at hSw); go_simp; try with_reducible rfl)
    try simp only [Act.put, List.setIfInBounds_toArray, List.set_cons_zero, List.set_cons_succ]
    refine uTake (i := 8) (some 26) (v := ?_) rfl rfl (by kernel_rfl) (by kernel_rfl) (by kernel_rfl) (by kernel_rfl) (fun _ _ _ h => h) (by rfl) (by assumption) ?_ ?_
    rotate_left
    · (intro wS hSw; (try dsimp only at hSw); go_simp; try with_reducible rfl)
    try simp only [Act.put, List.setIfInBounds_toArray, List.set_cons_zero, List.set_cons_succ]
    refine uTake (i := 9) (some 27) (v := ?_) rfl rfl (by kernel_rfl) (by kernel_rfl) (by kernel_rfl) (by kernel_rfl) (fun _ _ _ h => h) (by rfl) (by assumption) ?_ ?_
    rotate_left
    · (intro wS hSw; (try dsimp only at hSw); go_simp; try with_reducible rfl)
    try simp only [Act.put, List.setIfInBounds_toArray, List.set_cons_zero, List.set_cons_succ]
    refine uTake (i := 10) (some 28) (v := ?_) rfl rfl (by kernel_rfl) (by kernel_rfl) (by kernel_rfl) (by kernel_rfl) (fun _ _ _ h => h) (by rfl) (by assumption) ?_ ?_
    rotate_left
    · (intro wS hSw; (try dsimp only at hSw); go_simp; try with_reducible rfl)
    try simp only [Act.put, List.setIfInBounds_toArray, List.set_cons_zero, List.set_cons_succ]
    refine uDone (by kernel_rfl) ?_ _
    go_wp2_with fail
    clear n1 n2 t6 t6n
    go_loopg [6] (M[i].length) (fun gk s6 wr => ∃ (j : Nat), s6 = .int .i64 (j : Int) ∧ Hid (Env D w [] [.ce yab (yao + i) (.slice ua N[i].length uk), .rw (.slice ua N[i].length uk) N[i].length 1 (icl N[i]), .ce xab (xao + i) (.slice pa M[i].length pk), .rw (.slice pa M[i].length pk) M[i].length 1 (icl M[i]), .mx (.slice (some ⟨yab, yao, none⟩) N.length yk) N, .mx (.slice (some ⟨xab, xao, none⟩) M.length xk) M] wr) ∧ Hid ((j ≤ M[i].length ∧ gk = M[i].length - j) ∧ M[i].take j = N[i].take j))
    case atStart => exact ⟨0, rfl, Lib.hid E3.out, Lib.hid ⟨⟨Nat.zero_le _, rfl⟩, rfl⟩⟩
    case round =>
      clear E3
      obtain ⟨j, rfl, EL, HA⟩ := hrel
      obtain ⟨⟨b1, b2⟩, b3⟩ := HA.out
      have HS2 := Lib.hid b3
      clear b3 HA
      by_cases hy : j = M[i].length
      · skip
        have t7 : decide ((j : Int) < (M[i].length : Int)) = false := decide_eq_false (by omega)
        have t7n : decide (j < M[i].length) = false := decide_eq_false (by omega)
        have HN : Hid (M.take (i + 1) = N.take (i + 1)) := Lib.hid (same_step hi hi2 HS.out (eq_of_beq (same_end HRL.out hy HS2.out)))
        clear hy
        have z1 := (EL.out.fc 2 rfl).2
        have EZ := Lib.hid ((((EL.out.forget).forget).forget).forget)
        go_wp2
        go_roundg (M.length - (i + 1))
        case rel => exact ⟨i + 1, rfl, EZ, Lib.hid ⟨⟨by omega, rfl⟩, HN.out⟩⟩
        case measure => exact by omega
      have hj : j < M[i].length := by omega
      have t7 : decide ((j : Int) < (M[i].length : Int)) = true := decide_eq_true (by omega)
      have t7n : decide (j < M[i].length) = true := decide_eq_true (by omega)
      have hjI : (j : Int) < (M[i].length : Int) := by omega
      have hj2 : j < N[i].length := by rw [← HRL.out]; exact hj
      have hj2I : (j : Int) < (N[i].length : Int) := by omega
      clear hy
      have z1 := (EL.out.fc 2 rfl).2
      go_upto_region 11 with (fail)
      obtain ⟨pab, pao, rfl⟩ := Rw.addr (EL.out.fc 3 rfl) (by omega)
      have E4 : Hid (Env D w [] [.ce pab (pao + j) (.int .i64 M[i][j]), .ce yab (yao + i) (.slice ua N[i].length uk), .rw (.slice ua N[i].length uk) N[i].length 1 (icl N[i]), .ce xab (xao + i) (.slice (some ⟨pab, pao, none⟩) M[i].length pk), .rw (.slice (some ⟨pab, pao, none⟩) M[i].length pk) M[i].length 1 (icl M[i]), .mx (.slice (some ⟨yab, yao, none⟩) N.length yk) N, .mx (.slice (some ⟨xab, xao, none⟩) M.length xk) M] _) := Lib.hid (EL.out.elI 3 rfl rfl (j) hj)
      clear EL
      have v0 := (E4.out.fc 0 rfl).2
      obtain ⟨uab, uao, rfl⟩ := Rw.addr (E4.out.fc 2 rfl) (by omega)
      have E5 : Hid (Env D w [] [.ce uab (uao + j) (.int .i64 N[i][j]), .ce pab (pao + j) (.int .i64 M[i][j]), .ce yab (yao + i) (.slice (some ⟨uab, uao, none⟩) N[i].length uk), .rw (.slice (some ⟨uab, uao, none⟩) N[i].length uk) N[i].length 1 (icl N[i]), .ce xab (xao + i) (.slice (some ⟨pab, pao, none⟩) M[i].length pk), .rw (.slice (some ⟨pab, pao, none⟩) M[i].length pk) M[i].length 1 (icl M[i]), .mx (.slice (some ⟨yab, yao, none⟩) N.length yk) N, .mx (.slice (some ⟨xab, xao, none⟩) M.length xk) M] _) := Lib.hid (E4.out.elI 2 rfl rfl (j) hj2)
      clear E4
      have s0 := (E5.out.fc 0 rfl).2
      by_cases hb : M[i][j] = N[i][j]
      rotate_left
      · skip
        have n1 : (M[i][j] != N[i][j]) = true := by rw [bne_iff_ne]; exact hb
        have HT : Hid (false = t) := Lib.hid (by rw [← ht.out]; exact (same_no hi hi2 (fun e => hb (by simp only [e]))).symm)
        clear hb
        go_wp2_with fail
        have E6 : Hid (Env D w [] [.ce uab (uao + j) (.int .i64 N[i][j]), .ce pab (pao + j) (.int .i64 M[i][j]), .ce yab (yao + i) (.slice (some ⟨uab, uao, none⟩) N[i].length uk), .rw (.slice (some ⟨uab, uao, none⟩) N[i].length uk) N[i].length 1 (icl N[i]), .ce xab (xao + i) (.slice (some ⟨pab, pao, none⟩) M[i].length pk), .rw (.slice (some ⟨pab, pao, none⟩) M[i].length pk) M[i].length 1 (icl M[i]), .mx (.slice (some ⟨yab, yao, none⟩) N.length yk) N, .mx (.slice (some ⟨xab, xao, none⟩) M.length xk) M] (wr.drew)) := Lib.hid E5.out.drew
        clear z1 v0 s0 E5
        refine wp_regionU (S := fun w' => w'.cell? ⟨xab, xao + i, none⟩ = some (.slice (some ⟨pab, pao, none⟩) M[i].length pk) ∧ w'.cell? ⟨pab, pao + j, none⟩ = some (.int .i64 M[i][j]) ∧ w'.cell? ⟨yab, yao + i, none⟩ = some (.slice (some ⟨uab, uao, none⟩) N[i].length uk) ∧ w'.cell? ⟨uab, uao + j, none⟩ = some (.int .i64 N[i][j])) [] (by kernel_rfl) (⟨(E6.out.fc 4 rfl).2, (E6.out.fc 1 rfl).2, (E6.out.fc 2 rfl).2, (E6.out.fc 0 rfl).2⟩) (fun hHeld => ?_)
        generalize wr.drew = w2 at *
        refine uTake (i := 0) (some 38) (v := ?_) rfl rfl (by kernel_rfl) (by kernel_rfl) (by kernel_rfl) (by kernel_rfl) (fun _ _ _ h => h) (by rfl) (by assumption) ?_ ?_
        rotate_left
        · (intro wS hSw; (try dsimp only at hSw); go_simp; try with_reducible rfl)
        try simp only [Act.put, List.setIfInBounds_toArray, List.set_cons_zero, List.set_cons_succ]
        refine uTake (i := 1) (some 39) (v := ?_) rfl rfl (by kernel_rfl) (by kernel_rfl) (by kernel_rfl) (by kernel_rfl) (fun _ _ _ h => h) (by rfl) (by assumption) ?_ ?_
        rotate_left
        · (intro wS hSw; (try dsimp only at hSw); go_simp; try with_reducible rfl)
        try simp only [Act.put, List.setIfInBounds_toArray, List.set_cons_zero, List.set_cons_succ]
        refine uTake (i := 2) (some 40) (v := ?_) rfl rfl (by kernel_rfl) (by kernel_rfl) (by kernel_rfl) (by kernel_rfl) (fun _ _ _ h => h) (by rfl) (by assumption) ?_ ?_
        rotate_left
        · (intro wS hSw; (try dsimp only at hSw); go_simp; try with_reducible rfl)
        try simp only [Act.put, List.setIfInBounds_toArray, List.set_cons_zero, List.set_cons_succ]
        refine uTake (i := 3) (some 41) (v := ?_) rfl rfl (by kernel_rfl) (by kernel_rfl) (by kernel_rfl) (by kernel_rfl) (fun _ _ _ h => h) (by rfl) (by assumption) ?_ ?_
        rotate_left
        · (intro wS hSw; (try dsimp only at hSw); go_simp; try with_reducible rfl)
        try simp only [Act.put, List.setIfInBounds_toArray, List.set_cons_zero, List.set_cons_succ]
        refine uTake (i := 4) (some 42) (v := ?_) rfl rfl (by kernel_rfl) (by kernel_rfl) (by kernel_rfl) (by kernel_rfl) (fun _ _ _ h => h) (by rfl) (by assumption) ?_ ?_
        rotate_left
        · (intro wS hSw; (try dsimp only at hSw); go_simp; try with_reducible rfl)
        try simp only [Act.put, List.setIfInBounds_toArray, List.set_cons_zero, List.set_cons_succ]
        refine uTake (i := 5) (some 43) (v := ?_) rfl rfl (by kernel_rfl) (by kernel_rfl) (by kernel_rfl) (by kernel_rfl) (fun _ _ _ h => h) (by rfl) (by assumption) ?_ ?_
        rotate_left
        · (intro wS hSw; (try dsimp only at hSw); go_simp; try with_reducible rfl)
        try simp only [Act.put, List.setIfInBounds_toArray, List.set_cons_zero, List.set_cons_succ]
        refine uTake (i := 6) (some 44) (v := ?_) rfl rfl (by kernel_rfl) (by kernel_rfl) (by kernel_rfl) (by kernel_rfl) (fun _ _ _ h => h) (by rfl) (by assumption) ?_ ?_
        rotate_left
        · (intro wS hSw; (try dsimp only at hSw); go_simp; try with_reducible rfl)
        try simp only [Act.put, List.setIfInBounds_toArray, List.set_cons_zero, List.set_cons_succ]
        refine uTake (i := 7) (some 45) (v := ?_) rfl rfl (by kernel_rfl) (by kernel_rfl) (by kernel_rfl) (by kernel_rfl) (fun _ _ _ h => h) (by rfl) (by assumption) ?_ ?_
        rotate_left
        · (intro wS hSw; (try dsimp only at hSw); go_simp; try with_reducible rfl)
        try simp only [Act.put, List.setIfInBounds_toArray, List.set_cons_zero, List.set_cons_succ]
        refine uTake (i := 8) (some 46) (v := ?_) rfl rfl (by kernel_rfl) (by kernel_rfl) (by kernel_rfl) (by kernel_rfl) (fun _ _ _ h => h) (by rfl) (by assumption) ?_ ?_
        rotate_left
        · (intro wS hSw; (try dsimp only at hSw); go_simp; try with_reducible rfl)
        try simp only [Act.put, List.setIfInBounds_toArray, List.set_cons_zero, List.set_cons_succ]
        refine uTake (i := 9) (some 47) (v := ?_) rfl rfl (by kernel_rfl) (by kernel_rfl) (by kernel_rfl) (by kernel_rfl) (fun _ _ _ h => h) (by rfl) (by assumption) ?_ ?_
        rotate_left
        · (intro wS hSw; (try dsimp only at hSw); go_simp; try with_reducible rfl)
        try simp only [Act.put, List.setIfInBounds_toArray, List.set_cons_zero, List.set_cons_succ]
        refine uTake (i := 10) (some 48) (v := ?_) rfl rfl (by kernel_rfl) (by kernel_rfl) (by kernel_rfl) (by kernel_rfl) (fun _ _ _ h => h) (by rfl) (by assumption) ?_ ?_
        rotate_left
        · (intro wS hSw; (try dsimp only at hSw); go_simp; try with_reducible rfl)
        try simp only [Act.put, List.setIfInBounds_toArray, List.set_cons_zero, List.set_cons_succ]
        refine uTake (i := 11) (some 49) (v := ?_) rfl rfl (by kernel_rfl) (by kernel_rfl) (by kernel_rfl) (by kernel_rfl) (fun _ _ _ h => h) (by rfl) (by assumption) ?_ ?_
        rotate_left
        · (intro wS hSw; (try dsimp only at hSw); go_simp; try with_reducible rfl)
        try simp only [Act.put, List.setIfInBounds_toArray, List.set_cons_zero, List.set_cons_succ]
        refine uTake (i := 12) (some 50) (v := ?_) rfl rfl (by kernel_rfl) (by kernel_rfl) (by kernel_rfl) (by kernel_rfl) (fun _ _ _ h => h) (by rfl) (by assumption) ?_ ?_
        rotate_left
        · (intro wS hSw; (try dsimp only at hSw); go_simp; try with_reducible rfl)
        try simp only [Act.put, List.setIfInBounds_toArray, List.set_cons_zero, List.set_cons_succ]
        refine uTake (i := 13) (some 51) (v := ?_) rfl rfl (by kernel_rfl) (by kernel_rfl) (by kernel_rfl) (by kernel_rfl) (fun _ _ _ h => h) (by rfl) (by assumption) ?_ ?_
        rotate_left
        · (intro wS hSw; (try dsimp only at hSw); go_simp; try with_reducible rfl)
        try simp only [Act.put, List.setIfInBounds_toArray, List.set_cons_zero, List.set_cons_succ]
        refine uTake (i := 14) (some 52) (v := ?_) rfl rfl (by kernel_rfl) (by kernel_rfl) (by kernel_rfl) (by kernel_rfl) (fun _ _ _ h => h) (by rfl) (by assumption) ?_ ?_
        rotate_left
        · (intro wS hSw; (try dsimp only at hSw); go_simp; try with_reducible rfl)
        try simp only [Act.put, List.setIfInBounds_toArray, List.set_cons_zero, List.set_cons_succ]
        refine uDone (by kernel_rfl) ?_ _
        have hfin := Lib.hid E6.out.bel
        go_wp2
        go_ret
        exact ⟨by have h := HT.out; subst h; rfl, hfin.out⟩
      have HE := Lib.hid hb
      clear hb
      have n1 : (M[i][j] != N[i][j]) = false := by rw [HE.out]; simp
      go_wp2_with fail
      have E6 : Hid (Env D w [] [.ce uab (uao + j) (.int .i64 N[i][j]), .ce pab (pao + j) (.int .i64 M[i][j]), .ce yab (yao + i) (.slice (some ⟨uab, uao, none⟩) N[i].length uk), .rw (.slice (some ⟨uab, uao, none⟩) N[i].length uk) N[i].length 1 (icl N[i]), .ce xab (xao + i) (.slice (some ⟨pab, pao, none⟩) M[i].length pk), .rw (.slice (some ⟨pab, pao, none⟩) M[i].length pk) M[i].length 1 (icl M[i]), .mx (.slice (some ⟨yab, yao, none⟩) N.length yk) N, .mx (.slice (some ⟨xab, xao, none⟩) M.length xk) M] (wr.drew)) := Lib.hid E5.out.drew
      clear z1 v0 s0 E5
      refine wp_regionU (S := fun w' => w'.cell? ⟨xab, xao + i, none⟩ = some (.slice (some ⟨pab, pao, none⟩) M[i].length pk) ∧ w'.cell? ⟨pab, pao + j, none⟩ = some (.int .i64 M[i][j]) ∧ w'.cell? ⟨yab, yao + i, none⟩ = some (.slice (some ⟨uab, uao, none⟩) N[i].length uk) ∧ w'.cell? ⟨uab, uao + j, none⟩ = some (.int .i64 N[i][j])) [] (by kernel_rfl) (⟨(E6.out.fc 4 rfl).2, (E6.out.fc 1 rfl).2, (E6.out.fc 2 rfl).2, (E6.out.fc 0 rfl).2⟩) (fun hHeld => ?_)
      generalize wr.drew = w2 at *
      refine uTake (i := 0) (some 38) (v := ?_) rfl rfl (by kernel_rfl) (by kernel_rfl) (by kernel_rfl) (by kernel_rfl) (fun _ _ _ h => h) (by rfl) (by assumption) ?_ ?_
      rotate_left
      · (intro wS hSw; (try dsimp only at hSw); go_simp; try with_reducible rfl)
      try simp only [Act.put, List.setIfInBounds_toArray, List.set_cons_zero, List.set_cons_succ]
      refine uTake (i := 1) (some 39) (v := ?_) rfl rfl (by kernel_rfl) (by kernel_rfl) (by kernel_rfl) (by kernel_rfl) (fun _ _ _ h => h) (by rfl) (by assumption) ?_ ?_
      rotate_left
      · (intro wS hSw; (try dsimp only at hSw); go_simp; try with_reducible rfl)
      try simp only [Act.put, List.setIfInBounds_toArray, List.set_cons_zero, List.set_cons_succ]
      refine uTake (i := 2) (some 40) (v := ?_) rfl rfl (by kernel_rfl) (by kernel_rfl) (by kernel_rfl) (by kernel_rfl) (fun _ _ _ h => h) (by rfl) (by assumption) ?_ ?_
      rotate_left
      · (intro wS hSw; (try dsimp only at hSw); go_simp; try with_reducible rfl)
      try simp only [Act.put, List.setIfInBounds_toArray, List.set_cons_zero, List.set_cons_succ]
      refine uTake (i := 3) (some 41) (v := ?_) rfl rfl (by kernel_rfl) (by kernel_rfl) (by kernel_rfl) (by kernel_rfl) (fun _ _ _ h => h) (by rfl) (by assumption) ?_ ?_
      rotate_left
      · (intro wS hSw; (try dsimp only at hSw); go_simp; try with_reducible rfl)
      try simp only [Act.put, List.setIfInBounds_toArray, List.set_cons_zero, List.set_cons_succ]
      refine uTake (i := 4) (some 42) (v := ?_) rfl rfl (by kernel_rfl) (by kernel_rfl) (by kernel_rfl) (by kernel_rfl) (fun _ _ _ h => h) (by rfl) (by assumption) ?_ ?_
      rotate_left
      · (intro wS hSw; (try dsimp only at hSw); go_simp; try with_reducible rfl)
      try simp only [Act.put, List.setIfInBounds_toArray, List.set_cons_zero, List.set_cons_succ]
      refine uTake (i := 5) (some 43) (v := ?_) rfl rfl (by kernel_rfl) (by kernel_rfl) (by kernel_rfl) (by kernel_rfl) (fun _ _ _ h => h) (by rfl) (by assumption) ?_ ?_
      rotate_left
      · (intro wS hSw; (try dsimp only at hSw); go_simp; try with_reducible rfl)
      try simp only [Act.put, List.setIfInBounds_toArray, List.set_cons_zero, List.set_cons_succ]
      refine uTake (i := 6) (some 44) (v := ?_) rfl rfl (by kernel_rfl) (by kernel_rfl) (by kernel_rfl) (by kernel_rfl) (fun _ _ _ h => h) (by rfl) (by assumption) ?_ ?_
      rotate_left
      · (intro wS hSw; (try dsimp only at hSw); go_simp; try with_reducible rfl)
      try simp only [Act.put, List.setIfInBounds_toArray, List.set_cons_zero, List.set_cons_succ]
      refine uTake (i := 7) (some 45) (v := ?_) rfl rfl (by kernel_rfl) (by kernel_rfl) (by kernel_rfl) (by kernel_rfl) (fun _ _ _ h => h) (by rfl) (by assumption) ?_ ?_
      rotate_left
      · (intro wS hSw; (try dsimp only at hSw); go_simp; try with_reducible rfl)
      try simp only [Act.put, List.setIfInBounds_toArray, List.set_cons_zero, List.set_cons_succ]
      refine uTake (i := 8) (some 46) (v := ?_) rfl rfl (by kernel_rfl) (by kernel_rfl) (by kernel_rfl) (by kernel_rfl) (fun _ _ _ h => h) (by rfl) (by assumption) ?_ ?_
      rotate_left
      · (intro wS hSw; (try dsimp only at hSw); go_simp; try with_reducible rfl)
      try simp only [Act.put, List.setIfInBounds_toArray, List.set_cons_zero, List.set_cons_succ]
      refine uTake (i := 9) (some 47) (v := ?_) rfl rfl (by kernel_rfl) (by kernel_rfl) (by kernel_rfl) (by kernel_rfl) (fun _ _ _ h => h) (by rfl) (by assumption) ?_ ?_
      rotate_left
      · (intro wS hSw; (try dsimp only at hSw); go_simp; try with_reducible rfl)
      try simp only [Act.put, List.setIfInBounds_toArray, List.set_cons_zero, List.set_cons_succ]
      refine uTake (i := 10) (some 48) (v := ?_) rfl rfl (by kernel_rfl) (by kernel_rfl) (by kernel_rfl) (by kernel_rfl) (fun _ _ _ h => h) (by rfl) (by assumption) ?_ ?_
      rotate_left
      · (intro wS hSw; (try dsimp only at hSw); go_simp; try with_reducible rfl)
      try simp only [Act.put, List.setIfInBounds_toArray, List.set_cons_zero, List.set_cons_succ]
      refine uTake (i := 11) (some 49) (v := ?_) rfl rfl (by kernel_rfl) (by kernel_rfl) (by kernel_rfl) (by kernel_rfl) (fun _ _ _ h => h) (by rfl) (by assumption) ?_ ?_
      rotate_left
      · (intro wS hSw; (try dsimp only at hSw); go_simp; try with_reducible rfl)
      try simp only [Act.put, List.setIfInBounds_toArray, List.set_cons_zero, List.set_cons_succ]
      refine uTake (i := 12) (some 50) (v := ?_) rfl rfl (by kernel_rfl) (by kernel_rfl) (by kernel_rfl) (by kernel_rfl) (fun _ _ _ h => h) (by rfl) (by assumption) ?_ ?_
      rotate_left
      · (intro wS hSw; (try dsimp only at hSw); go_simp; try with_reducible rfl)
      try simp only [Act.put, List.setIfInBounds_toArray, List.set_cons_zero, List.set_cons_succ]
      refine uTake (i := 13) (some 51) (v := ?_) rfl rfl (by kernel_rfl) (by kernel_rfl) (by kernel_rfl) (by kernel_rfl) (fun _ _ _ h => h) (by rfl) (by assumption) ?_ ?_
      rotate_left
      · (intro wS hSw; (try dsimp only at hSw); go_simp; try with_reducible rfl)
      try simp only [Act.put, List.setIfInBounds_toArray, List.set_cons_zero, List.set_cons_succ]
      refine uTake (i := 14) (some 52) (v := ?_) rfl rfl (by kernel_rfl) (by kernel_rfl) (by kernel_rfl) (by kernel_rfl) (fun _ _ _ h => h) (by rfl) (by assumption) ?_ ?_
      rotate_left
      · (intro wS hSw; (try dsimp only at hSw); go_simp; try with_reducible rfl)
      try simp only [Act.put, List.setIfInBounds_toArray, List.set_cons_zero, List.set_cons_succ]
      refine uDone (by kernel_rfl) ?_ _
      have HN : Hid (M[i].take (j + 1) = N[i].take (j + 1)) := Lib.hid (same_step hj hj2 HS2.out HE.out)
      have EZ := Lib.hid ((E6.out.forget).forget)
      go_wp2
      go_roundg (M[i].length - (j + 1))
      case rel => exact ⟨j + 1, rfl, EZ, Lib.hid ⟨⟨by omega, rfl⟩, HN.out⟩⟩
      case measure => exact by omega
theorem rSame_c {D : Nat → Prop} (M N : List (List Int)) {xa ya : Option Addr} {xk yk : Nat} {w : World} (hx : Fct.at w D (.mx (.slice xa M.length xk) M)) (hy : Fct.at w D (.mx (.slice ya N.length yk) N)) (hm : M.length ≤ 1000000) (hr : ∀ r ∈ M, r.length ≤ 1000000) {t : Bool} (ht : (M == N) = t) :
    Calls Tryd.prog 44 #[.slice xa M.length xk, .slice ya N.length yk] w fun e w' => e = .returned (.bool t) ∧ Below w.heap.size w w' := by
  by_cases hl : M.length = N.length
  · exact rSame_ok M N hx hy hl hm hr ht
  · rw [← ht, same_ne hl]; exact rSame_len M N hx hy hl
end Go.Proofs.YteipbcpnnojclaaDoor

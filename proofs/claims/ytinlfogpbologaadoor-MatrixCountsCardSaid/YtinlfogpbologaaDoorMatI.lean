/- matrix: copied; what makes matrices. -/
import Derived.Test.YtinlfogpbologaaDoorMatH
namespace Go.Proofs.YtinlfogpbologaaDoor
open Go.RowKit DivMath WordMath
set_option linter.unusedVariables false
set_option linter.unusedSimpArgs false
theorem Tryd.infoRow : (Tryd.prog.info? 22).map (fun i => (i.zero, i.size, i.bytes)) = some (some (Value.slice none 0 0), 1, 24) := by kernel_rfl
theorem tiR : TI 40 22 1 := .ofInfo Tryd.underlying40 Tryd.infoRow rfl (by omega) (by omega)
/-- make([][]int, n) -/
theorem wpl_makeR {D0 : Nat → Prop} {w W : World} {F : List Bx} {G : List Fct} {ops : Array Oper} {rest : List Oper} {o : Oper} {a : Act} {Q : Exit → Act → World → Prop}
    (hg : o.guard = none) (l c : Operand) (hop : o.op = Op.makeSlice 40 l c) (E : Env D0 w F G W) (n : Nat) (hl : a.eval l = .int .i64 (n : Int)) (hc : a.eval c = .int .i64 (n : Int)) (hn : n ≤ 1000000)
    (hK : ∀ W' g, Hid (Env D0 w ((g, 22, List.replicate n (.slice none 0 0)) :: F) G W') → wpList Tryd.prog ops Q rest (a.put o.dst (.slice (some ⟨g, 0, none⟩) n n)) W') :
    wpList Tryd.prog ops Q (o :: rest) a W := by
  obtain ⟨i0, hi, hz0, hz1, hz2⟩ := info_parts Tryd.infoRow
  refine wpList_make_full W hg l c 40 hop 0 22 i0 (.slice none 0 0) 1 Tryd.underlying40 hi hz0 hz1 .i64 .i64 n n n hl hc rfl rfl (by rw [hz2]; omega) (by unfold maxLen; omega) (Nat.zero_le _) fun W' hown hgrow => ?_
  refine hK W' _ (Lib.hid ?_)
  have hbw : Below W.heap.size W W' := ⟨hgrow.os, hgrow.tape, hgrow.output, hgrow.size, fun k hk => hgrow.block k hk (by simp)⟩
  rcases hown.2 with ⟨h0, _⟩ | ⟨g', cap', cur, e, _, hg', h2, h3, h4, h5⟩
  · cases h0
  · simp only [Value.slice.injEq, Option.some.injEq, Addr.mk.injEq] at e
    obtain ⟨⟨rfl, _⟩, _, rfl⟩ := e
    have hcs : cur.toList = List.replicate n (.slice none 0 0) := by
      have e1 : (madeCells (Value.slice none 0 0).cells (n * 1)).toList = List.replicate n (Value.slice none 0 0) := by
        rw [Nat.mul_one]; exact toList_madeCells_one _ _
      rw [e1, List.take_of_length_le (by simp [h4])] at h5
      exact h5
    have E3 := E.gotBox hbw (g := W.heap.size) (T := 22) (cs := cur.toList) ⟨Nat.le_refl _, by rw [Array.toArray_toList]; exact hg'⟩
    rw [hcs] at E3
    exact E3
/-- the clone of a row -/
theorem cloneRow_c {D : Nat → Prop} {v : Value} {l : List Nat} {w : World} (h : Fct.at w D (.rw v l.length 1 (ncl l))) (hl : l.length ≤ 1000000) (h0 : 0 < l.length) :
    Calls Tryd.prog 82 #[v] w fun e w' => (∃ g x, e = .returned (.slice (some ⟨g, 0, none⟩) l.length (l.length + x.length)) ∧ Hid (Box w.heap.size g 3 (ncl l ++ x) w') ∧ Hid (l.length + x.length ≤ 9223372036854775807)) ∧ Below w.heap.size w w' :=
  (cloneRInt h hl).mono fun e w' ⟨⟨v', h1, h2⟩, hb⟩ => by
    rcases h2.2 with ⟨rfl, hz⟩ | ⟨g, cap, cur, rfl, hge, hg, hn, hm, hs, ht⟩
    · omega
    · have e1 : ncl l ++ cur.toList.drop l.length = cur.toList := by
        rw [← ht]; simp
      have e2 : l.length + (cur.toList.drop l.length).length = cap := by
        have h9 : cur.toList.length = cap * 1 := by simpa using hs
        rw [List.length_drop, h9]; omega
      refine ⟨⟨g, cur.toList.drop l.length, by rw [e2]; exact h1, Lib.hid ⟨hge, ?_⟩, Lib.hid (by rw [e2]; unfold maxLen at hm; omega)⟩, hb⟩
      rw [e1, Array.toArray_toList]; exact hg
section
variable {D0 : Nat → Prop} {w W : World} {F A B : List Bx} {G : List Fct} {g : Nat} {hs : List Value} {R : List Rb} {r : Rb}
theorem Env.mgrow (E : Env D0 w ((r.b, 3, ncl r.l ++ r.x) :: (A ++ (mbh g hs R ++ B))) G W) : Env D0 w (A ++ (mbh g hs (R ++ [r]) ++ B)) G W := by
  refine E.perm ?_
  unfold mbh
  rw [List.map_append, List.map_cons, List.map_nil]
  refine List.Perm.trans (List.perm_middle (l₁ := A) (a := (r.b, 3, ncl r.l ++ r.x))).symm ?_
  refine (List.perm_append_left_iff A).2 ?_
  simp only [List.cons_append, List.append_assoc, List.nil_append]
  refine (List.Perm.swap ..).trans (List.Perm.cons _ ?_)
  exact (List.perm_middle (l₁ := R.map Rb.bx) (l₂ := B) (a := (r.b, 3, ncl r.l ++ r.x))).symm
theorem hs_grow {n k : Nat} (hk : R.length = k) (hn : k < n) : (R.map Rb.hd ++ List.replicate (n - k) (Value.slice none 0 0)).set k r.hd = (R ++ [r]).map Rb.hd ++ List.replicate (n - (k + 1)) (Value.slice none 0 0) := by
  rw [List.set_append_right _ _ (by rw [List.length_map]; omega), List.length_map, hk, Nat.sub_self]
  obtain ⟨m, hm⟩ : ∃ m, n - k = m + 1 := ⟨n - k - 1, by omega⟩
  rw [hm, show n - (k + 1) = m from by omega, List.replicate_succ, List.set_cons_zero, List.map_append, List.append_assoc]
  rfl
/-- row k of a matrix of residues -/
theorem Env.elMN (h : Env D0 w F G W) (i : Nat) {b off n j : Nat} {L : List (List Nat)} (e : G[i]? = some (.mx (.slice (some ⟨b, off, none⟩) n j) (L.map nl))) (k : Nat) (hk : k < L.length) :
    ∃ va vk, Env D0 w F (.ce b (off + k) (.slice va L[k].length vk) :: .rw (.slice va L[k].length vk) L[k].length 1 (ncl L[k]) :: G) W := by
  obtain ⟨va, vk, h2⟩ := h.elM i e k (by rw [List.length_map]; exact hk)
  refine ⟨va, vk, ?_⟩
  simp only [List.getElem_map, nl_len] at h2
  exact h2
theorem Mx.addrN {v : Option Addr} {n c k : Nat} {L : List (List Nat)} {D : Nat → Prop} (h : Mx W D (.slice v n c) (L.map nl)) (hk : k < L.length) : ∃ b o, v = some ⟨b, o, none⟩ := h.addr (k := k) (by rw [List.length_map]; exact hk)
theorem CapOk.grow (hc : CapOk R) (h : r.l.length + r.x.length ≤ 9223372036854775807) : CapOk (R ++ [r]) := by
  intro x hx
  rcases List.mem_append.1 hx with hx | hx
  · exact hc x hx
  · rcases List.mem_singleton.1 hx with rfl; exact h
end
/-- a matrix of one's own came back -/
def RetMx (L : List (List Nat)) (w : World) (e : Ending) (w' : World) : Prop := ∃ g R, e = .returned (.slice (some ⟨g, 0, none⟩) L.length L.length) ∧ Hid (mrows R = L ∧ CapOk R) ∧ HeldF w.heap.size (mbx g R ++ []) w'

set_option maxRecDepth 100000 in
set_option maxHeartbeats 4000000 in
theorem copied_c {D : Nat → Prop} (L : List (List Nat)) {xa : Option Addr} {xk : Nat} {w : World} (hx : Fct.at w D (.mx (.slice xa L.length xk) (L.map nl))) (hL : L.length ≤ 1000) (hr0 : ∀ r ∈ L, 0 < r.length ∧ r.length ≤ 1000) :
    Calls Tryd.prog 80 #[.slice xa L.length xk] w fun e w' => RetMx L w e w' ∧ Below w.heap.size w w' := by
  have E0 : Hid (Env D w [] [.mx (.slice xa L.length xk) (L.map nl)] w) := Lib.hid ((Env.start D w).arg (.mx (.slice xa L.length xk) (L.map nl)) hx)
  clear hx
  go_enter Tryd.func80, Tryd.ntmps80
  have hr := Lib.hid hr0
  clear hr0
  go_wp2_with (at_make; refine wpl_makeR rfl _ _ rfl E0.out L.length rfl rfl (by omega) ?_)
  intro wm g Em
  have E1 : Hid (Env D w ((mbh g (([] : List Rb).map Rb.hd ++ List.replicate (L.length - 0) (.slice none 0 0)) []) ++ []) [.mx (.slice xa L.length xk) (L.map nl)] wm) := Em
  clear Em E0
  go_wp2_with fail
  go_loopg [11] (L.length) (fun gk s11 wr => ∃ (k : Nat) (R : List Rb), s11 = .int .i64 (k : Int) ∧ Hid (Env D w ((mbh g (R.map Rb.hd ++ List.replicate (L.length - k) (.slice none 0 0)) R) ++ []) [.mx (.slice xa L.length xk) (L.map nl)] wr) ∧ Hid ((k ≤ L.length ∧ gk = L.length - k) ∧ mrows R = L.take k ∧ CapOk R))
  case atStart => exact ⟨0, [], rfl, Lib.hid E1.out, Lib.hid ⟨⟨Nat.zero_le _, rfl⟩, rfl, fun r hr => by cases hr⟩⟩
  case round =>
    clear E1
    obtain ⟨k, R, rfl, EL, HA⟩ := hrel
    obtain ⟨⟨a1, a2⟩, a3, a4⟩ := HA.out
    have HS := Lib.hid a3
    have HC := Lib.hid a4
    clear a3 a4 HA
    have HRK : Hid (R.length = k) := Lib.hid (by have h := congrArg List.length HS.out; rw [List.length_map, List.length_take] at h; omega)
    by_cases hy : k = L.length
    · have t6 : decide ((k : Int) < (L.length : Int)) = false := decide_eq_false (by omega)
      have t7 : decide (k < L.length) = false := decide_eq_false (by omega)
      have HY := Lib.hid hy
      clear hy
      have hbel := Lib.hid EL.out.bel
      go_wp2
      go_ret
      have EF := EL.out.heldS (A := [])
      rw [HY.out, Nat.sub_self, List.replicate_zero, List.append_nil] at EF
      exact ⟨⟨g, R, rfl, Lib.hid ⟨by rw [HS.out, HY.out, List.take_length], HC.out⟩, EF⟩, hbel.out⟩
    have hk : k < L.length := by omega
    have t6 : decide ((k : Int) < (L.length : Int)) = true := decide_eq_true (by omega)
    have t7 : decide (k < L.length) = true := decide_eq_true hk
    have hkI : (k : Int) < (L.length : Int) := by omega
    clear hy
    go_upto_region 4 with (fail)
    obtain ⟨xab, xao, rfl⟩ := Mx.addrN (EL.out.fc 0 rfl) hk
    obtain ⟨ua, uk, E20⟩ := EL.out.elMN 0 rfl (k) hk
    have E2 : Hid (Env D w ((mbh g (R.map Rb.hd ++ List.replicate (L.length - k) (.slice none 0 0)) R) ++ []) [.ce xab (xao + k) (.slice ua L[k].length uk), .rw (.slice ua L[k].length uk) L[k].length 1 (ncl L[k]), .mx (.slice (some ⟨xab, xao, none⟩) L.length xk) (L.map nl)] _) := Lib.hid E20
    clear E20 EL
    have u0 := (E2.out.fc 0 rfl).2
    have HRP : Hid (0 < L[k].length ∧ L[k].length ≤ 1000) := Lib.hid (hr.out _ (List.getElem_mem hk))
    go_wp2_with fail
    refine (cloneRow_c (E2.out.fc 1 rfl) (Nat.le_trans HRP.out.2 (by omega)) HRP.out.1).mono ?_
    rintro e w1 ⟨⟨rb, rx, rfl, rB, rC⟩, hb⟩
    have E3 : Hid (Env D w ((rb, 3, (ncl L[k] ++ rx)) :: ((mbh g (R.map Rb.hd ++ List.replicate (L.length - k) (.slice none 0 0)) R) ++ [])) [.ce xab (xao + k) (.slice ua L[k].length uk), .rw (.slice ua L[k].length uk) L[k].length 1 (ncl L[k]), .mx (.slice (some ⟨xab, xao, none⟩) L.length xk) (L.map nl)] w1) := Lib.hid (E2.out.gotBox hb rB.out)
    clear u0 E2 hb rB
    have fz := (E3.out.mh (A := [(rb, 3, (ncl L[k] ++ rx))]) (B := []) rfl).frozen k
    obtain ⟨cv, hcv⟩ : ∃ v, (R.map Rb.hd ++ List.replicate (L.length - k) (Value.slice none 0 0))[k]? = some v := ⟨_, List.getElem?_eq_getElem (by rw [List.length_append, List.length_map, List.length_replicate, HRK.out]; omega)⟩
    have cz := (E3.out.mh (A := [(rb, 3, (ncl L[k] ++ rx))]) (B := []) rfl).cell k hcv
    clear hcv
    have E4 : Hid (Env D w ((rb, 3, (ncl L[k] ++ rx)) :: ((mbh g ((R.map Rb.hd ++ List.replicate (L.length - k) (Value.slice none 0 0)).set k (.slice (some ⟨rb, 0, none⟩) L[k].length (L[k].length + rx.length))) R) ++ [])) [.ce xab (xao + k) (.slice ua L[k].length uk), .rw (.slice ua L[k].length uk) L[k].length 1 (ncl L[k]), .mx (.slice (some ⟨xab, xao, none⟩) L.length xk) (L.map nl)] _) := Lib.hid ((E3.out.mhset (A := [(rb, 3, (ncl L[k] ++ rx))]) (B := []) rfl k (.slice (some ⟨rb, 0, none⟩) L[k].length (L[k].length + rx.length))))
    have E5 : Hid (Env D w ((mbh g ((R ++ [Rb.mk rb L[k] rx]).map Rb.hd ++ List.replicate (L.length - (k + 1)) (.slice none 0 0)) (R ++ [Rb.mk rb L[k] rx])) ++ []) [.ce xab (xao + k) (.slice ua L[k].length uk), .rw (.slice ua L[k].length uk) L[k].length 1 (ncl L[k]), .mx (.slice (some ⟨xab, xao, none⟩) L.length xk) (L.map nl)] _) := Lib.hid (by have h := E4.out; rw [show .slice (some ⟨rb, 0, none⟩) L[k].length (L[k].length + rx.length) = Rb.hd ⟨rb, L[k], rx⟩ from rfl, hs_grow HRK.out hk] at h; exact Env.mgrow (A := []) (r := Rb.mk rb L[k] rx) h)
    have HNX : Hid (mrows (R ++ [Rb.mk rb L[k] rx]) = L.take (k + 1)) := Lib.hid (by unfold mrows; rw [List.map_append, show R.map Rb.l = L.take k from HS.out, List.take_add_one, List.getElem?_eq_getElem hk]; rfl)
    have EZ := Lib.hid ((E5.out.forget).forget)
    go_wp2
    go_roundg (L.length - (k + 1))
    case rel => exact ⟨k + 1, R ++ [Rb.mk rb L[k] rx], rfl, EZ, Lib.hid ⟨⟨by omega, rfl⟩, HNX.out, HC.out.grow rC.out⟩⟩
    case measure => exact by omega
end Go.Proofs.YtinlfogpbologaaDoor

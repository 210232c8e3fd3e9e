/- matrix: reduce. -/
import Derived.Test.YtinlfogpbologaaDoorMatG
namespace Go.Proofs.YtinlfogpbologaaDoor
open Go.RowKit DivMath WordMath
set_option linter.unusedVariables false
set_option linter.unusedSimpArgs false
/-- is there no 0 in column c? -/
def colB (c : Nat) (l : List Int) : Bool := l.getD c 0 != 0
theorem colB_nl (c : Nat) (r : List Nat) : colB c (nl r) = (r.getD c 0 != 0) := by
  unfold colB nl
  by_cases h : c < r.length
  · rw [getD_elem h, List.getD_eq_getElem?_getD, List.getElem?_map, List.getElem?_eq_getElem h]
    simp only [Option.map_some, Option.getD_some]
    by_cases e : r[c] = 0
    · rw [e]; rfl
    · have e2 : ((r[c] : Nat) : Int) ≠ 0 := by omega
      rw [bne_iff_ne.2 e, bne_iff_ne.2 e2]
  · rw [List.getD_eq_getElem?_getD, List.getD_eq_getElem?_getD, List.getElem?_eq_none (by simp; omega), List.getElem?_eq_none (by omega)]; rfl
/-- what IndexFunc answers, and the pivot -/
def FirstI (l : List (List Int)) (c : Nat) (r : Int) : Prop := (r = -1 ∧ ∀ k (h : k < l.length), colB c (l[k]) = false) ∨ ∃ k : Nat, r = (k : Int) ∧ ∃ h : k < l.length, colB c (l[k]) = true ∧ ∀ j (h : j < l.length), j < k → colB c (l[j]) = false
theorem piv_or (L : List (List Nat)) (a c : Nat) : (pivN L a c = none ∧ FirstI ((L.drop a).map nl) c (-1)) ∨ ∃ k : Nat, pivN L a c = some k ∧ FirstI ((L.drop a).map nl) c (k : Int) := by
  unfold pivN
  cases e : (L.drop a).findIdx? (fun r => r.getD c 0 != 0) with
  | none =>
    refine .inl ⟨rfl, .inl ⟨rfl, fun k h => ?_⟩⟩
    rw [List.getElem_map, colB_nl]
    have h2 : k < (L.drop a).length := by simpa using h
    exact List.findIdx?_eq_none_iff.1 e _ (List.getElem_mem h2)
  | some k =>
    obtain ⟨h, h1, h2⟩ := List.findIdx?_eq_some_iff_getElem.1 e
    refine .inr ⟨k, rfl, .inr ⟨k, rfl, by simpa using h, ?_, fun j hj hjk => ?_⟩⟩
    · rw [List.getElem_map, colB_nl]; exact h1
    · rw [List.getElem_map, colB_nl]
      have := h2 j hjk
      simpa using this
theorem Env.freezeSeg {D0 : Nat → Prop} {w W : World} {A sg B : List Bx} {G : List Fct} {cs : List Value} {v : Value} {P : List Nat} (E : Env D0 w (A ++ (sg ++ B)) G W) (h : OI sg cs v (nl P)) : Env D0 w (A ++ B) (.rw v P.length 1 (ncl P) :: G) W := by
  have hR := OI.rwN h E (by intro p hp; simp [hp])
  have E1 : Env D0 w (sg ++ (A ++ B)) G W := E.perm (by
    rw [← List.append_assoc, ← List.append_assoc]
    exact (List.perm_append_right_iff B).2 List.perm_append_comm)
  rcases h.1 with ⟨rfl, rfl, rfl, h0⟩ | ⟨g, cap, rfl, rfl, h1, h2, h3⟩
  · refine Env.note (by simpa using E1) _ ?_
    rw [nl_len] at h0
    have : P = [] := List.length_eq_zero_iff.1 h0
    subst this; exact Rw.nil _ _ _
  · refine Env.note (Env.drop (p := (g, 3, cs)) E1) _ ?_
    obtain ⟨ao, c, e1, e2, e3, e4, e5, e6⟩ := hR
    refine ⟨ao, c, e1, e2, e3, e4, e5, fun hn => ?_⟩
    obtain ⟨b, off, rfl, ⟨hb, hd⟩, hc⟩ := e6 hn
    simp only [Value.slice.injEq, Option.some.injEq, Addr.mk.injEq, and_true] at e1
    obtain ⟨⟨rfl, rfl⟩, _⟩ := e1
    exact ⟨g, 0, rfl, ⟨hb, fun p hp e => E1.box.2.1 p hp e, .inr hd⟩, hc⟩
set_option maxRecDepth 100000 in
set_option maxHeartbeats 1000000 in
theorem mcol_c {D : Nat → Prop} (l : List Int) (c g : Nat) {xa : Option Addr} {xk : Nat} {w : World} (hx : Fct.at w D (.rw (.slice xa l.length xk) l.length 1 (icl l))) (hg : Fct.at w D (.ce g 0 (.int .i64 (c : Nat)))) (hc : c < l.length) {t : Bool} (ht0 : colB c l = t) :
    Calls Tryd.prog 118 #[.slice xa l.length xk, .pointer (some ⟨g, 0, none⟩)] w fun e w' => e = .returned (.bool t) ∧ Below w.heap.size w w' := by
  have E0 : Hid (Env D w [] [.ce g 0 (.int .i64 (c : Nat)), .rw (.slice xa l.length xk) l.length 1 (icl l)] w) := Lib.hid (((Env.start D w).arg (.rw (.slice xa l.length xk) l.length 1 (icl l)) hx).arg (.ce g 0 (.int .i64 (c : Nat))) hg)
  clear hx hg
  go_enter Tryd.func118, Tryd.ntmps118
  have hcI : (c : Int) < (l.length : Int) := by omega
  have HT : Hid ((l[c] != 0) = t) := Lib.hid (by rw [← ht0]; unfold colB; rw [List.getD_eq_getElem?_getD, List.getElem?_eq_getElem hc]; rfl)
  clear ht0
  go_upto_region 1 with (fail)
  obtain ⟨xab, xao, rfl⟩ := Rw.addr (E0.out.fc 1 rfl) (by omega)
  have E1 : Hid (Env D w [] [.ce xab (xao + c) (.int .i64 l[c]), .ce g 0 (.int .i64 (c : Nat)), .rw (.slice (some ⟨xab, xao, none⟩) l.length xk) l.length 1 (icl l)] _) := Lib.hid (E0.out.elI 1 rfl rfl (c) hc)
  clear E0
  have u0 := (E1.out.fc 0 rfl).2
  have cg := (E1.out.fc 1 rfl).2
  have HT2 := HT.out
  have hfin := Lib.hid E1.out.bel
  go_wp2
  go_ret
  exact ⟨rfl, hfin.out⟩
set_option maxRecDepth 100000 in
set_option maxHeartbeats 1000000 in
theorem mriI {D : Nat → Prop} (l : List (List Int)) (c : Nat) (g : Nat) {xa : Option Addr} {xk : Nat} {w : World} (hx : Fct.at w D (.mx (.slice xa l.length xk) l)) (hg : Fct.at w D (.ce g 0 (.int .i64 (c : Nat)))) (hc : ∀ r ∈ l, c < r.length) {r : Int} (hr0 : (r = -1 ∧ ∀ k (h : k < l.length), colB c (l[k]) = false) ∨ ∃ k : Nat, r = (k : Int) ∧ ∃ h : k < l.length, colB c (l[k]) = true ∧ ∀ j (h : j < l.length), j < k → colB c (l[j]) = false) (hm : l.length ≤ 1000000) :
    Calls Tryd.prog 111 #[.slice xa l.length xk, .func (.func 118) #[] #[.pointer (some ⟨g, 0, none⟩)]] w fun e w' => e = .returned (.int .i64 r) ∧ Below w.heap.size w w' := by
  have E0 : Hid (Env D w [] [.ce g 0 (.int .i64 (c : Nat)), .mx (.slice xa l.length xk) l] w) := Lib.hid (((Env.start D w).arg (.mx (.slice xa l.length xk) l) hx).arg (.ce g 0 (.int .i64 (c : Nat))) hg)
  clear hx hg
  go_enter Tryd.func111, Tryd.ntmps111
  have hr := Lib.hid hr0
  clear hr0
  go_wp2_with fail
  go_loopg [8] (l.length) (fun gk s8 wr => ∃ (k : Nat), s8 = .int .i64 (k : Int) ∧ Hid (Env D w [] [.ce g 0 (.int .i64 (c : Nat)), .mx (.slice xa l.length xk) l] wr) ∧ Hid ((k ≤ l.length ∧ gk = l.length - k) ∧ ∀ j (h : j < l.length), j < k → colB c (l[j]) = false))
  case atStart => exact ⟨0, rfl, Lib.hid E0.out, Lib.hid ⟨⟨Nat.zero_le _, rfl⟩, fun j _ h => absurd h (Nat.not_lt_zero _)⟩⟩
  case round =>
    clear E0
    obtain ⟨k, rfl, EL, HA⟩ := hrel
    obtain ⟨⟨a1, a2⟩, a3⟩ := HA.out
    have HS := Lib.hid a3
    clear a3 HA
    by_cases hy : k = l.length
    rotate_left
    · have hk : k < l.length := by omega
      have t6 : decide ((k : Int) < (l.length : Int)) = true := decide_eq_true (by omega)
      have t7 : decide (k < l.length) = true := decide_eq_true hk
      clear hy
      obtain ⟨xab, xao, rfl⟩ := Mx.addr (EL.out.fc 1 rfl) hk
      obtain ⟨ua, uk, E10⟩ := EL.out.elM 1 rfl (k) hk
      have E1 : Hid (Env D w [] [.ce xab (xao + k) (.slice ua l[k].length uk), .rw (.slice ua l[k].length uk) l[k].length 1 (icl l[k]), .ce g 0 (.int .i64 (c : Nat)), .mx (.slice (some ⟨xab, xao, none⟩) l.length xk) l] _) := Lib.hid E10
      clear E10 EL
      have u0 := (E1.out.fc 0 rfl).2
      by_cases hb : colB c (l[k]) = true
      · have HB := Lib.hid hb
        have HR : Hid (r = (k : Int)) := Lib.hid (by rcases hr.out with ⟨_, h9⟩ | ⟨j, rfl, hj, h8, h7⟩; (· have := h9 k hk; rw [hb] at this; cases this); rcases Nat.lt_trichotomy j k with e | e | e; (· have := HS.out j hj e; rw [h8] at this; cases this); (· rw [e]); (· have := h7 k hk e; rw [hb] at this; cases this))
        clear hb
        go_wp2_with fail
        refine (mcol_c l[k] c g (E1.out.fc 1 rfl) (E1.out.fc 2 rfl) (hc _ (List.getElem_mem hk)) HB.out).mono ?_
        rintro e w1 ⟨rfl, hb⟩
        have E2 : Hid (Env D w [] [.ce xab (xao + k) (.slice ua l[k].length uk), .rw (.slice ua l[k].length uk) l[k].length 1 (icl l[k]), .ce g 0 (.int .i64 (c : Nat)), .mx (.slice (some ⟨xab, xao, none⟩) l.length xk) l] w1) := Lib.hid (E1.out.below hb)
        clear u0 E1 hb
        have hfin := Lib.hid E2.out.bel
        go_wp2
        go_ret
        exact ⟨RetEq HR.out.symm, hfin.out⟩
      · have HB := Lib.hid (Bool.eq_false_iff.2 hb)
        clear hb
        go_wp2_with fail
        refine (mcol_c l[k] c g (E1.out.fc 1 rfl) (E1.out.fc 2 rfl) (hc _ (List.getElem_mem hk)) HB.out).mono ?_
        rintro e w1 ⟨rfl, hb⟩
        have E2 : Hid (Env D w [] [.ce xab (xao + k) (.slice ua l[k].length uk), .rw (.slice ua l[k].length uk) l[k].length 1 (icl l[k]), .ce g 0 (.int .i64 (c : Nat)), .mx (.slice (some ⟨xab, xao, none⟩) l.length xk) l] w1) := Lib.hid (E1.out.below hb)
        clear u0 E1 hb
        have EZ := Lib.hid ((E2.out.forget).forget)
        go_wp2
        go_roundg (l.length - (k + 1))
        case rel => exact ⟨k + 1, rfl, EZ, Lib.hid ⟨⟨by omega, rfl⟩, fun j h hj => by by_cases e : j = k; (· subst e; exact HB.out); exact HS.out j h (by omega)⟩⟩
        case measure => exact by omega
    have t6 : decide ((k : Int) < (l.length : Int)) = false := decide_eq_false (by omega)
    have t7 : decide (k < l.length) = false := decide_eq_false (by omega)
    have HR : Hid (r = -1) := Lib.hid (by rcases hr.out with ⟨h9, _⟩ | ⟨j, rfl, hj, h8, h7⟩; (· exact h9); have := HS.out j hj (by omega); rw [h8] at this; cases this)
    have HY := Lib.hid hy
    clear hy
    have hfin := Lib.hid EL.out.bel
    go_wp2
    go_ret
    exact ⟨RetEq HR.out.symm, hfin.out⟩
set_option maxRecDepth 100000 in
set_option maxHeartbeats 1000000 in
theorem mriC {D : Nat → Prop} (l : List (List Int)) (c : Nat) (g : Nat) {xa : Option Addr} {xk : Nat} {w : World} (hx : Fct.at w D (.mx (.slice xa l.length xk) l)) (hg : Fct.at w D (.ce g 0 (.int .i64 (c : Nat)))) (hc : ∀ r ∈ l, c < r.length) {t : Bool} (ht0 : l.any (fun x => colB c (x)) = t) (hm : l.length ≤ 1000000) :
    Calls Tryd.prog 72 #[.slice xa l.length xk, .func (.func 118) #[] #[.pointer (some ⟨g, 0, none⟩)]] w fun e w' => e = .returned (.bool t) ∧ Below w.heap.size w w' := by
  have E0 : Hid (Env D w [] [.ce g 0 (.int .i64 (c : Nat)), .mx (.slice xa l.length xk) l] w) := Lib.hid (((Env.start D w).arg (.mx (.slice xa l.length xk) l) hx).arg (.ce g 0 (.int .i64 (c : Nat))) hg)
  clear hx hg
  go_enter Tryd.func72, Tryd.ntmps72
  have ht := Lib.hid ht0
  clear ht0
  obtain ⟨r, hr⟩ : ∃ r : Int, ((r = -1 ∧ ∀ k (h : k < l.length), colB c (l[k]) = false) ∨ ∃ k : Nat, r = (k : Int) ∧ ∃ h : k < l.length, colB c (l[k]) = true ∧ ∀ j (h : j < l.length), j < k → colB c (l[j]) = false) := first_any l (fun x => colB c (x))
  have hd : Hid (decide (0 ≤ r) = t) := Lib.hid (by rw [← ht.out]; exact first_dec hr)
  have HR := Lib.hid hr
  clear hr ht
  go_wp2_with fail
  refine (mriI l c g (E0.out.fc 1 rfl) (E0.out.fc 0 rfl) hc (hr0 := HR.out) (hm := hm)).mono ?_
  rintro e w1 ⟨rfl, hb⟩
  have E1 : Hid (Env D w [] [.ce g 0 (.int .i64 (c : Nat)), .mx (.slice xa l.length xk) l] w1) := Lib.hid (E0.out.below hb)
  clear E0 hb
  have HD := hd.out
  have hfin := Lib.hid E1.out.bel
  go_wp2
  go_ret
  exact ⟨rfl, hfin.out⟩
set_option maxRecDepth 100000 in
set_option maxHeartbeats 8000000 in
theorem reduce_c (q n cols : Nat) (R : List Rb) {g : Nat} {D : Nat → Prop} {w0 w : World} {A0 B0 : List Bx} {G0 : List Fct} (E0 : Hid (Env D w0 (A0 ++ (mbx g R ++ B0)) G0 w)) (hq0 : 2 ≤ q) (hqT0 : (q : Int) < Top) (hres0 : ResM q n (mrows R)) (hcol0 : cols ≤ n) (hR : R.length ≤ 1000) (hn0 : n ≤ 1000) (hcap0 : CapOk R) :
    Calls Tryd.prog 81 #[.int .i64 (q : Nat), .slice (some ⟨g, 0, none⟩) R.length R.length, .int .i64 (cols : Nat)] w fun e w' => ∃ R' P pa pk, e = .returned (.slice pa P.length pk) ∧ Hid ((mrows R', P) = redN q (mrows R) cols ∧ CapOk R') ∧ Hid (Env D w0 (A0 ++ (mbx g R' ++ B0)) (.rw (.slice pa P.length pk) P.length 1 (ncl P) :: G0) w') := by
  go_enter Tryd.func81, Tryd.ntmps81
  have hq := Lib.hid hq0
  have hqT := Lib.hid hqT0
  have hres := Lib.hid hres0
  have hcol := Lib.hid hcol0
  have hn := Lib.hid hn0
  have hcap := Lib.hid hcap0
  clear hq0 hqT0 hres0 hcol0 hn0 hcap0
  have hq1 : Hid (0 < q) := Lib.hid (by have := hq.out; omega)
  have HOK := Lib.hid (redN_ok hq1.out hres.out)
  have HLR : Hid ((mrows R).length = R.length) := Lib.hid (List.length_map ..)
  have hc9 : cols ≤ 1000 := by have := hcol.out; have := hn.out; omega
  go_wp2_with fail
  go_loopg [12, 7] (cols) (fun gk s12 s7 wr => ∃ (c : Nat) (R1 : List Rb) (P : List Nat) (sg : List Bx) (cs : List Value) (va : Option Addr) (vk : Nat), s12 = .int .i64 (c : Int) ∧ s7 = .slice va P.length vk ∧ Hid (Env D w0 (A0 ++ ((mbx g R1) ++ (sg ++ B0))) G0 wr) ∧ Hid (OI sg cs (.slice va P.length vk) (nl P)) ∧ Hid ((c ≤ cols ∧ gk = cols - c) ∧ (mrows R1, P) = redN q (mrows R) c ∧ CapOk R1))
  case atStart => exact ⟨0, R, [], [], [], none, 0, rfl, rfl, Lib.hid (E0.out.cast (by simp)), Lib.hid OI.nlnil, Lib.hid ⟨⟨Nat.zero_le _, rfl⟩, rfl, hcap.out⟩⟩
  case round =>
    clear E0
    obtain ⟨c, R1, P, sg, cs, va, vk, rfl, rfl, EL, hO, HA⟩ := hrel
    obtain ⟨⟨a1, a2⟩, a3, a4⟩ := HA.out
    have HS := Lib.hid a3
    have HXC := Lib.hid a4
    clear a3 a4 HA
    have HI : Hid (RedI q n R.length c (mrows R1, P)) := Lib.hid (by have h := HOK.out c; rw [← HS.out, HLR.out] at h; exact h)
    have HL1 : Hid (R1.length = R.length) := Lib.hid (by have h := HI.out.len; simpa using h)
    have hpl : P.length ≤ R.length := HI.out.few.1
    have hpc : P.length ≤ c := HI.out.few.2
    have HNL := Lib.hid (nl_len P)
    by_cases hy : c = cols
    · have t6 : decide ((c : Int) < (cols : Int)) = false := decide_eq_false (by omega)
      have t7 : decide (c < cols) = false := decide_eq_false (by omega)
      have HY := Lib.hid hy
      clear hy
      have HF : Hid ((mrows R1, P) = redN q (mrows R) cols) := Lib.hid (by rw [← HY.out]; exact HS.out)
      go_wp2
      go_ret
      have EF := Env.freezeSeg (A := (A0 ++ (mbx g R1))) (sg := sg) (B := B0) (Env.cast (EL.out) (by simp)) hO.out
      exact ⟨R1, P, va, vk, rfl, Lib.hid ⟨HF.out, HXC.out⟩, Lib.hid (EF.cast (by simp))⟩
    have hc : c < cols := by omega
    have t6 : decide ((c : Int) < (cols : Int)) = true := decide_eq_true (by omega)
    have t7 : decide (c < cols) = true := decide_eq_true hc
    clear hy
    by_cases hb : P.length = R.length
    · have e1 : ((P.length : Int) == (R.length : Int)) = true := beq_iff_eq.2 (by omega)
      have e2 : (P.length == R.length) = true := beq_iff_eq.2 hb
      have HB := Lib.hid hb
      clear hb
      have HF : Hid ((mrows R1, P) = redN q (mrows R) cols) := Lib.hid (by rw [HS.out]; exact (redN_stop (by rw [← HS.out]; simp only [List.length_map]; rw [HL1.out, HB.out]; exact Nat.le_refl _) _ a1).symm)
      have E1 : Hid (Env D w0 ((wr.heap.size, 3, [.int .i64 (c : Int)]) :: (A0 ++ ((mbx g R1) ++ (sg ++ B0)))) G0 _) := Lib.hid ((EL.out.push 3 [.int .i64 (c : Int)] (wr.heap.size) (by simp)))
      go_wp2
      go_ret
      have EF := Env.freezeSeg (A := (A0 ++ (mbx g R1))) (sg := sg) (B := B0) (Env.cast (E1.out.drop) (by simp)) hO.out
      exact ⟨R1, P, va, vk, rfl, Lib.hid ⟨HF.out, HXC.out⟩, Lib.hid (EF.cast (by simp))⟩
    have e1 : ((P.length : Int) == (R.length : Int)) = false := beq_eq_false_iff_ne.2 (by omega)
    have e2 : (P.length == R.length) = false := beq_eq_false_iff_ne.2 hb
    have hpr : P.length < R.length := by omega
    have hprI : (P.length : Int) < (R.length : Int) := by omega
    have hprL : (P.length : Int) ≤ (R.length : Int) := by omega
    clear hb
    go_upto_region 7 with (fail)
    have HCN : Hid (c < n) := Lib.hid (by have := hcol.out; omega)
    have HCR : Hid (∀ r ∈ ((mrows R1).drop P.length).map nl, c < r.length) := Lib.hid (by intro r hr; obtain ⟨x, hx, rfl⟩ := List.mem_map.1 hr; rw [nl_len, (HI.out.res x (List.mem_of_mem_drop hx)).1]; exact HCN.out)
    have HDL : Hid ((((mrows R1).drop P.length).map nl).length = R.length - P.length) := Lib.hid (by simp; rw [HL1.out])
    rcases piv_or (mrows R1) P.length c with ⟨h1, h2⟩ | ⟨k, h1, h2⟩
    · have HPN := Lib.hid h1
      have HFI := Lib.hid h2
      clear h1 h2
      have E1 : Hid (Env D w0 ((wr.heap.size, 3, [.int .i64 (c : Int)]) :: (A0 ++ ((mbx g R1) ++ (sg ++ B0)))) G0 _) := Lib.hid ((EL.out.push 3 [.int .i64 (c : Int)] (wr.heap.size) (by simp)))
      have HIX := mriI (((mrows R1).drop P.length).map nl) c (wr.heap.size) (D := fun _ => True) (E1.out.mmx (A := ((wr.heap.size, 3, [.int .i64 (c : Int)]) :: A0)) (B := (sg ++ B0)) rfl (a := P.length) (cap := R.length - P.length) (by rw [HL1.out]; exact Nat.le_refl _) (by omega) HXC.out) ⟨⟨(E1.out.bx 0 rfl).lt, trivial⟩, (E1.out.bx 0 rfl).cell 0 rfl⟩ HCR.out (r := (-1)) HFI.out (by rw [HDL.out]; omega)
      rw [HDL.out] at HIX
      have HIY := Lib.hid HIX
      clear HIX
      go_wp2_with fail
      refine (HIY.out).mono ?_
      rintro e w1 ⟨rfl, hb⟩
      have E2 : Hid (Env D w0 ((wr.heap.size, 3, [.int .i64 (c : Int)]) :: (A0 ++ ((mbx g R1) ++ (sg ++ B0)))) G0 w1) := Lib.hid (E1.out.below hb)
      clear EL E1 hb
      have EZ := Lib.hid (E2.out.drop)
      go_wp2
      go_roundg (cols - (c + 1))
      case rel => exact ⟨c + 1, R1, P, sg, cs, va, vk, rfl, rfl, Lib.hid (EZ.out.cast (by simp)), hO, Lib.hid ⟨⟨by omega, rfl⟩, by rw [redN, ← HS.out, redS_none HPN.out], HXC.out⟩⟩
      case measure => exact by omega
    have HPN := Lib.hid h1
    have HFI := Lib.hid h2
    have HPK : Hid (P.length + k < R.length) := Lib.hid (by have h := pivN_some h1; rw [List.length_map, HL1.out] at h; exact h)
    clear h1 h2
    have hpk := HPK.out
    have hk0 : decide ((k : Int) < 0) = false := decide_eq_false (by omega)
    have E1 : Hid (Env D w0 ((wr.heap.size, 3, [.int .i64 (c : Int)]) :: (A0 ++ ((mbx g R1) ++ (sg ++ B0)))) G0 _) := Lib.hid ((EL.out.push 3 [.int .i64 (c : Int)] (wr.heap.size) (by simp)))
    have HIX := mriI (((mrows R1).drop P.length).map nl) c (wr.heap.size) (D := fun _ => True) (E1.out.mmx (A := ((wr.heap.size, 3, [.int .i64 (c : Int)]) :: A0)) (B := (sg ++ B0)) rfl (a := P.length) (cap := R.length - P.length) (by rw [HL1.out]; exact Nat.le_refl _) (by omega) HXC.out) ⟨⟨(E1.out.bx 0 rfl).lt, trivial⟩, (E1.out.bx 0 rfl).cell 0 rfl⟩ HCR.out (r := (k : Int)) HFI.out (by rw [HDL.out]; omega)
    rw [HDL.out] at HIX
    have HIY := Lib.hid HIX
    clear HIX
    go_wp2_with fail
    refine (HIY.out).mono ?_
    rintro e w1 ⟨rfl, hb⟩
    have E2 : Hid (Env D w0 ((wr.heap.size, 3, [.int .i64 (c : Int)]) :: (A0 ++ ((mbx g R1) ++ (sg ++ B0)))) G0 w1) := Lib.hid (E1.out.below hb)
    clear EL E1 hb
    go_upto_region 9 with (fail)
    clear hk0
    have h1a : P.length < R1.length := by rw [HL1.out]; exact hpr
    have h1b : P.length + k < R1.length := by rw [HL1.out]; exact hpk
    obtain ⟨⟨xb, xl, xx⟩, xe⟩ : ∃ r, R1[P.length]? = some r := ⟨_, List.getElem?_eq_getElem h1a⟩
    have xE := Lib.hid xe
    clear xe
    obtain ⟨pk, hpk2⟩ : ∃ pk, P.length + k = pk := ⟨_, rfl⟩
    have HPK2 := Lib.hid hpk2
    rw [hpk2] at hpk h1b
    have hpkI : (pk : Int) < (R.length : Int) := by omega
    have hwk : IntKind.i64.wrap ((P.length : Int) + (k : Int)) = (pk : Int) := by rw [← hpk2]; exact wrapI_add _ _ (by omega)
    clear hpk2
    obtain ⟨⟨yb, yl, yx⟩, ye⟩ : ∃ r, R1[pk]? = some r := ⟨_, List.getElem?_eq_getElem h1b⟩
    have yE := Lib.hid ye
    clear ye
    go_wp2_with fail
    have E3 : Hid (Env D w0 ((wr.heap.size, 3, [.int .i64 (c : Int)]) :: (A0 ++ ((mbx g R1) ++ (sg ++ B0)))) G0 (w1.drew)) := Lib.hid E2.out.drew
    clear E2
    refine wp_regionU (S := fun w' => w'.cell? ⟨g, P.length, none⟩ = some (.slice (some ⟨xb, 0, none⟩) xl.length (xl.length + xx.length)) ∧ w'.cell? ⟨g, pk, none⟩ = some (.slice (some ⟨yb, 0, none⟩) yl.length (yl.length + yx.length))) [2, 3, 4, 5, 12, 13, 14, 17, 18, 19] (by kernel_rfl) (⟨E3.out.mhd (A := ((wr.heap.size, 3, [.int .i64 (c : Int)]) :: A0)) (B := (sg ++ B0)) rfl xE.out, E3.out.mhd (A := ((wr.heap.size, 3, [.int .i64 (c : Int)]) :: A0)) (B := (sg ++ B0)) rfl yE.out⟩) (fun hHeld => ?_)
    generalize w1.drew = w2 at *
    refine uPure (i := 2) (some 30) (v := ?_) rfl rfl (by kernel_rfl) (by kernel_rfl) (by kernel_rfl) (by kernel_rfl) (fun _ _ _ h => h) (by rfl) ?_ ?_
    rotate_left
    · (intro wS; go_simp; try with_reducible rfl)
    try simp only [Act.put, List.setIfInBounds_toArray, List.set_cons_zero, List.set_cons_succ]
    refine uPure (i := 3) (some 31) (v := ?_) rfl rfl (by kernel_rfl) (by kernel_rfl) (by kernel_rfl) (by kernel_rfl) (fun _ _ _ h => h) (by rfl) ?_ ?_
    rotate_left
    · (intro wS; go_simp; try with_reducible rfl)
    try simp only [Act.put, List.setIfInBounds_toArray, List.set_cons_zero, List.set_cons_succ]
    refine uPure (i := 4) (some 32) (v := ?_) rfl rfl (by kernel_rfl) (by kernel_rfl) (by kernel_rfl) (by kernel_rfl) (fun _ _ _ h => h) (by rfl) ?_ ?_
    rotate_left
    · (intro wS; go_simp; try with_reducible rfl)
    try simp only [Act.put, List.setIfInBounds_toArray, List.set_cons_zero, List.set_cons_succ]
    refine uPure (i := 5) (some 33) (v := .int .i64 (pk : Int)) rfl rfl (by kernel_rfl) (by kernel_rfl) (by kernel_rfl) (by kernel_rfl) (fun _ _ _ h => h) (by rfl) ?_ ?_
    · (intro wS; go_simp)
    try simp only [Act.put, List.setIfInBounds_toArray, List.set_cons_zero, List.set_cons_succ]
    refine uPure (i := 12) (some 40) (v := ?_) rfl rfl (by kernel_rfl) (by kernel_rfl) (by kernel_rfl) (by kernel_rfl) (fun _ _ _ h => h) (by rfl) ?_ ?_
    rotate_left
    · (intro wS; go_simp; try with_reducible rfl)
    try simp only [Act.put, List.setIfInBounds_toArray, List.set_cons_zero, List.set_cons_succ]
    refine uPure (i := 13) (some 41) (v := ?_) rfl rfl (by kernel_rfl) (by kernel_rfl) (by kernel_rfl) (by kernel_rfl) (fun _ _ _ h => h) (by rfl) ?_ ?_
    rotate_left
    · (intro wS; go_simp; try with_reducible rfl)
    try simp only [Act.put, List.setIfInBounds_toArray, List.set_cons_zero, List.set_cons_succ]
    refine uPure (i := 14) (some 42) (v := ?_) rfl rfl (by kernel_rfl) (by kernel_rfl) (by kernel_rfl) (by kernel_rfl) (fun _ _ _ h => h) (by rfl) ?_ ?_
    rotate_left
    · (intro wS; go_simp; try with_reducible rfl)
    try simp only [Act.put, List.setIfInBounds_toArray, List.set_cons_zero, List.set_cons_succ]
    refine uTake (i := 0) (some 28) (v := ?_) rfl rfl (by kernel_rfl) (by kernel_rfl) (by kernel_rfl) (by kernel_rfl) (fun _ _ _ h => h) (by rfl) (by assumption) ?_ ?_
    rotate_left
    · (intro wS hSw; (try dsimp only at hSw); go_simp; try with_reducible rfl)
    try simp only [Act.put, List.setIfInBounds_toArray, List.set_cons_zero, List.set_cons_succ]
    refine uTake (i := 1) (some 29) (v := ?_) rfl rfl (by kernel_rfl) (by kernel_rfl) (by kernel_rfl) (by kernel_rfl) (fun _ _ _ h => h) (by rfl) (by assumption) ?_ ?_
    rotate_left
    · (intro wS hSw; (try dsimp only at hSw); go_simp; try with_reducible rfl)
    try simp only [Act.put, List.setIfInBounds_toArray, List.set_cons_zero, List.set_cons_succ]
    refine uTake (i := 6) (some 34) (v := ?_) rfl rfl (by kernel_rfl) (by kernel_rfl) (by kernel_rfl) (by kernel_rfl) (fun _ _ _ h => h) (by rfl) (by assumption) ?_ ?_
    rotate_left
    · (intro wS hSw; (try dsimp only at hSw); go_simp; try with_reducible rfl)
    try simp only [Act.put, List.setIfInBounds_toArray, List.set_cons_zero, List.set_cons_succ]
    refine uTake (i := 7) (some 35) (v := ?_) rfl rfl (by kernel_rfl) (by kernel_rfl) (by kernel_rfl) (by kernel_rfl) (fun _ _ _ h => h) (by rfl) (by assumption) ?_ ?_
    rotate_left
    · (intro wS hSw; (try dsimp only at hSw); go_simp; try with_reducible rfl)
    try simp only [Act.put, List.setIfInBounds_toArray, List.set_cons_zero, List.set_cons_succ]
    refine uTake (i := 8) (some 36) (v := ?_) rfl rfl (by kernel_rfl) (by kernel_rfl) (by kernel_rfl) (by kernel_rfl) (fun _ _ _ h => h) (by rfl) (by assumption) ?_ ?_
    rotate_left
    · (intro wS hSw; (try dsimp only at hSw); go_simp; try with_reducible rfl)
    try simp only [Act.put, List.setIfInBounds_toArray, List.set_cons_zero, List.set_cons_succ]
    refine uTake (i := 9) (some 37) (v := .int .i64 (pk : Int)) rfl rfl (by kernel_rfl) (by kernel_rfl) (by kernel_rfl) (by kernel_rfl) (fun _ _ _ h => h) (by rfl) (by assumption) ?_ ?_
    · (intro wS hSw; (try dsimp only at hSw); go_simp)
    try simp only [Act.put, List.setIfInBounds_toArray, List.set_cons_zero, List.set_cons_succ]
    refine uTake (i := 10) (some 38) (v := ?_) rfl rfl (by kernel_rfl) (by kernel_rfl) (by kernel_rfl) (by kernel_rfl) (fun _ _ _ h => h) (by rfl) (by assumption) ?_ ?_
    rotate_left
    · (intro wS hSw; (try dsimp only at hSw); go_simp; try with_reducible rfl)
    try simp only [Act.put, List.setIfInBounds_toArray, List.set_cons_zero, List.set_cons_succ]
    refine uTake (i := 11) (some 39) (v := ?_) rfl rfl (by kernel_rfl) (by kernel_rfl) (by kernel_rfl) (by kernel_rfl) (fun _ _ _ h => h) (by rfl) (by assumption) ?_ ?_
    rotate_left
    · (intro wS hSw; (try dsimp only at hSw); go_simp; try with_reducible rfl)
    try simp only [Act.put, List.setIfInBounds_toArray, List.set_cons_zero, List.set_cons_succ]
    refine uTake (i := 15) (some 43) (v := ?_) rfl rfl (by kernel_rfl) (by kernel_rfl) (by kernel_rfl) (by kernel_rfl) (fun _ _ _ h => h) (by rfl) (by assumption) ?_ ?_
    rotate_left
    · (intro wS hSw; (try dsimp only at hSw); go_simp; try with_reducible rfl)
    try simp only [Act.put, List.setIfInBounds_toArray, List.set_cons_zero, List.set_cons_succ]
    refine uTake (i := 16) (some 44) (v := ?_) rfl rfl (by kernel_rfl) (by kernel_rfl) (by kernel_rfl) (by kernel_rfl) (fun _ _ _ h => h) (by rfl) (by assumption) ?_ ?_
    rotate_left
    · (intro wS hSw; (try dsimp only at hSw); go_simp; try with_reducible rfl)
    try simp only [Act.put, List.setIfInBounds_toArray, List.set_cons_zero, List.set_cons_succ]
    have fz1 := (E3.out.mh (A := ((wr.heap.size, 3, [.int .i64 (c : Int)]) :: A0)) (B := (sg ++ B0)) rfl).frozen P.length
    refine uReady (rs := [17]) (by kernel_rfl) (by simp) ?_
    refine ReadyU.consU (by kernel_rfl) rfl (fun KK hKK => ?_) ReadyU.nil
    go_simp
    have E4 : Hid (Env D w0 ((wr.heap.size, 3, [.int .i64 (c : Int)]) :: (A0 ++ ((mbh g ((R1.map Rb.hd).set P.length (.slice (some ⟨yb, 0, none⟩) yl.length (yl.length + yx.length))) R1) ++ (sg ++ B0)))) G0 _) := Lib.hid ((E3.out.mhset (A := ((wr.heap.size, 3, [.int .i64 (c : Int)]) :: A0)) (B := (sg ++ B0)) rfl P.length (.slice (some ⟨yb, 0, none⟩) yl.length (yl.length + yx.length))))
    (try dsimp only)
    (try clear hHeld)
    refine hKK.out _ _ ?_
    clear hKK KK
    try simp only [Act.put, List.setIfInBounds_toArray, List.set_cons_zero, List.set_cons_succ]
    refine uPure (i := 18) (some 45) (v := ?_) rfl rfl (by kernel_rfl) (by kernel_rfl) (by kernel_rfl) (by kernel_rfl) (fun _ _ _ h => h) (by rfl) ?_ ?_
    rotate_left
    · (intro wS; go_simp; try with_reducible rfl)
    try simp only [Act.put, List.setIfInBounds_toArray, List.set_cons_zero, List.set_cons_succ]
    clear fz1
    have fz2 := (E4.out.mh (A := ((wr.heap.size, 3, [.int .i64 (c : Int)]) :: A0)) (B := (sg ++ B0)) rfl).frozen pk
    obtain ⟨cv2, hcv2⟩ : ∃ v, ((R1.map Rb.hd).set P.length (.slice (some ⟨yb, 0, none⟩) yl.length (yl.length + yx.length)))[pk]? = some v := ⟨_, List.getElem?_eq_getElem (by simpa using h1b)⟩
    have cz2 := (E4.out.mh (A := ((wr.heap.size, 3, [.int .i64 (c : Int)]) :: A0)) (B := (sg ++ B0)) rfl).cell pk hcv2
    clear hcv2
    refine uReady (rs := [19]) (by kernel_rfl) (by simp) ?_
    refine ReadyU.consU (by kernel_rfl) rfl (fun KK hKK => ?_) ReadyU.nil
    go_simp
    have E5 : Hid (Env D w0 ((wr.heap.size, 3, [.int .i64 (c : Int)]) :: (A0 ++ ((mbx g (swapL R1 P.length pk)) ++ (sg ++ B0)))) G0 _) := Lib.hid ((Env.mswap (A := ((wr.heap.size, 3, [.int .i64 (c : Int)]) :: A0)) (B := (sg ++ B0)) (E4.out.mhset (A := ((wr.heap.size, 3, [.int .i64 (c : Int)]) :: A0)) (B := (sg ++ B0)) rfl pk (.slice (some ⟨xb, 0, none⟩) xl.length (xl.length + xx.length))) rfl xE.out yE.out))
    (try dsimp only)
    (try clear hHeld)
    refine hKK.out _ _ ?_
    clear hKK KK
    try simp only [Act.put, List.setIfInBounds_toArray, List.set_cons_zero, List.set_cons_succ]
    refine uDone (by kernel_rfl) ?_ _
    clear fz2 cz2
    go_upto_region 10 with (fail)
    clear E3 E4
    generalize (w2.setCell ⟨g, P.length, none⟩ (.slice (some ⟨yb, 0, none⟩) yl.length (yl.length + yx.length))).setCell ⟨g, pk, none⟩ (.slice (some ⟨xb, 0, none⟩) xl.length (xl.length + xx.length)) = w3 at *
    have HLS : Hid ((swapL R1 P.length pk).length = R.length) := Lib.hid (by rw [swapL_len, HL1.out])
    have hls := HLS.out
    have HMS : Hid (mrows (swapL R1 P.length pk) = swapL (mrows R1) P.length pk) := Lib.hid (swapL_map Rb.l).symm
    have HRS : Hid (ResM q n (mrows (swapL R1 P.length pk))) := Lib.hid (by rw [HMS.out]; exact swapL_res HI.out.res)
    have b1 := E5.out.bx 0 rfl
    have c1_0 := b1.cell 0 rfl
    clear b1
    go_wp2_with fail
    have EC := elim_c q n P.length c (swapL R1 P.length pk) (A0 := ((wr.heap.size, 3, [.int .i64 (c : Int)]) :: A0)) (B0 := (sg ++ B0)) E5 hq.out hqT.out HRS.out (by rw [hls]; exact hpr) HCN.out (by rw [hls]; exact hR) hn.out HXC.out.swap
    rw [hls] at EC
    refine EC.mono ?_
    rintro e w9 ⟨rfl, R3, HR3, E9⟩
    clear c1_0 E5
    have E6 : Hid (Env D w0 ((wr.heap.size, 3, [.int .i64 (c : Int)]) :: (A0 ++ ((mbx g R3) ++ (sg ++ B0)))) G0 w9) := Lib.hid (E9.out.cast (by simp))
    clear E9 EC
    have b2 := E6.out.bx 0 rfl
    have c2_0 := b2.cell 0 rfl
    clear b2
    have E7 : Hid (Env D w0 ((w9.heap.size, 3, [.int .i64 (c : Int)]) :: (wr.heap.size, 3, [.int .i64 (c : Int)]) :: (A0 ++ ((mbx g R3) ++ (sg ++ B0)))) G0 _) := Lib.hid ((E6.out.push 3 [.int .i64 (c : Int)] (w9.heap.size) (by simp)))
    go_wp2_with (at_builtin; refine wpl_app1 (c := 1) tiI rfl _ _ rfl E7.out (A := ((w9.heap.size, 3, [.int .i64 (c : Int)]) :: (wr.heap.size, 3, [.int .i64 (c : Int)]) :: (A0 ++ (mbx g R3)))) (sg := sg) (B' := B0) (F := ((w9.heap.size, 3, [.int .i64 (c : Int)]) :: (wr.heap.size, 3, [.int .i64 (c : Int)]) :: (A0 ++ ((mbx g R3) ++ (sg ++ B0))))) (by simp) (hO.out.os HNL.out) rfl rfl (SrcN.int (E7.out.bx 0 rfl)) (by omega) ?_)
    intro ng np nc w4 nH nT nE
    have nO := Lib.hid (OI.app (x := (c : Int)) (g' := ng) (cs' := nc) (cap' := np) hO.out HNL.out (by simpa using nH.out) (by simpa using nT.out))
    have E8 : Hid (Env D w0 ((w9.heap.size, 3, [.int .i64 (c : Int)]) :: (wr.heap.size, 3, [.int .i64 (c : Int)]) :: (A0 ++ ((mbx g R3) ++ ((ng, 3, nc) :: B0)))) G0 w4) := Lib.hid (nE.out.cast (by simp))
    clear c2_0 E6 E7 nE nH nT hO
    have OZ : Hid (OI [(ng, 3, nc)] nc (.slice (some ⟨ng, 0, none⟩) (P ++ [c]).length np) (nl (P ++ [c]))) := Lib.hid (by rw [show nl (P ++ [c]) = nl P ++ [(c : Int)] from by simp [nl], List.length_append, List.length_singleton]; exact nO.out)
    have HSN : Hid ((mrows R3, P ++ [c]) = redN q (mrows R) (c + 1)) := Lib.hid (by rw [redN, ← HS.out, redS_some HPN.out, HR3.out.1, HMS.out]; simp only [HPK2.out])
    have EZ := Lib.hid (E8.out.drop.drop)
    go_wp2
    go_roundg (cols - (c + 1))
    case rel => exact ⟨c + 1, R3, P ++ [c], [(ng, 3, nc)], nc, some ⟨ng, 0, none⟩, np, rfl, by simp, Lib.hid (EZ.out.cast (by simp)), OZ, Lib.hid ⟨⟨by omega, rfl⟩, HSN.out, HR3.out.2⟩⟩
    case measure => exact by omega
end Go.Proofs.YtinlfogpbologaaDoor

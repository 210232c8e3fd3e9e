/- matrix: Inverse. -/
import Derived.Test.YtinlfogpbologaaDoorMatO
namespace Go.Proofs.YtinlfogpbologaaDoor
open Go.RowKit DivMath WordMath
set_option linter.unusedVariables false
set_option linter.unusedSimpArgs false
/-- row i of the unit matrix -/
def UL (n i : Nat) : List Nat := (List.replicate n 0).set i 1
theorem UL_len {n i : Nat} : (UL n i).length = n := by unfold UL; rw [List.length_set, List.length_replicate]
/-- a matrix with the unit matrix beside it -/
def invL (L : List (List Nat)) : List (List Nat) := (List.range L.length).map fun i => L.getD i [] ++ UL L.length i
theorem invL_len {L : List (List Nat)} : (invL L).length = L.length := by simp [invL]
theorem invL_get {L : List (List Nat)} {i : Nat} (h : i < L.length) : (invL L)[i]? = some (L[i] ++ UL L.length i) := by
  unfold invL
  rw [List.getElem?_map, List.getElem?_range h]
  simp only [Option.map_some]
  rw [getL_elem h]
theorem invL_res {q n : Nat} {L : List (List Nat)} (hq : 2 ≤ q) (h : ResM q n L) : ResM q (n + L.length) (invL L) := by
  intro r hr
  obtain ⟨i, hi, rfl⟩ := List.getElem_of_mem hr
  have hi2 : i < L.length := by rw [invL_len] at hi; exact hi
  have e := invL_get hi2
  rw [List.getElem?_eq_getElem hi] at e
  rw [Option.some.inj e]
  have h1 := h _ (List.getElem_mem hi2)
  refine ⟨by rw [List.length_append, h1.1, UL_len], fun x hx => ?_⟩
  rcases List.mem_append.1 hx with hx | hx
  · exact h1.2 x hx
  · unfold UL at hx
    rcases List.mem_or_eq_of_mem_set hx with hx | rfl
    · have := List.eq_of_mem_replicate hx; omega
    · omega
section
variable {D0 : Nat → Prop} {w W : World} {F A B : List Bx} {G : List Fct} {g : Nat} {hs : List Value} {R : List Rb} {i a : Nat} {r r2 : Rb}
theorem CapOk.put (hc : CapOk R) (h : r2.l.length + r2.x.length ≤ 9223372036854775807) : CapOk (R.set i r2) := by
  intro x hx
  rcases List.mem_or_eq_of_mem_set hx with hx | rfl
  · exact hc x hx
  · exact h
/-- another block in the place of a row's -/
theorem Env.mrep {v : Value} (E : Env D0 w ((r2.b, 3, ncl r2.l ++ r2.x) :: (A ++ (mbh g ((R.map Rb.hd).set i v) R ++ B))) G W) (h : R[i]? = some r) (hv : v = r2.hd) : Env D0 w (A ++ (mbx g (R.set i r2) ++ B)) G W := by
  rw [hv, hd_put h] at E
  have e := mbh_split (A := A) (B := B) (g := g) (hs := (R.set i r2).map Rb.hd) (A0 := []) (r' := r2) h
  rw [e.1] at E
  show Env D0 w (A ++ (mbh g ((R.set i r2).map Rb.hd) (R.set i r2) ++ B)) G W
  rw [e.2]
  refine Env.drop (p := r.bx) (E.perm ?_)
  simp only [List.singleton_append]
  exact ((List.perm_middle.cons _).trans (List.Perm.swap ..)).trans ((List.perm_middle.symm).cons _)
/-- a row from a place on, as a list that a call reads -/
theorem Env.mrd (E : Env D0 w F G W) (hF : F = A ++ (mbh g hs R ++ B)) (h : R[i]? = some r) (hc : CapOk R) (ha : a ≤ r.l.length) : Fct.at W (fun _ => True) (.rw (.slice (some ⟨r.b, a, none⟩) (r.l.length - a) (r.l.length + r.x.length - a)) (r.l.drop a).length 1 (ncl (r.l.drop a))) := by
  have hr := E.mr hF h
  have hc2 := hc r (List.mem_of_getElem? h)
  refine ⟨some ⟨r.b, a, none⟩, _, by rw [List.length_drop], by rw [List.length_drop]; omega, by omega, ncl_len _, ncl_one _, fun _ => ⟨r.b, a, rfl, ⟨hr.lt, trivial⟩, fun j u hu => ?_⟩⟩
  refine hr.cell (a + j) ?_
  have hj := (List.getElem?_eq_some_iff.1 hu).1
  rw [ncl_len, Nat.mul_one, List.length_drop] at hj
  rw [ncl_app_get _ _ _ (by omega)]
  rw [ncl_get _ j (by rw [List.length_drop]; omega)] at hu
  rw [← hu, List.getElem_drop]
end
set_option maxRecDepth 100000 in
set_option maxHeartbeats 1000000 in
theorem Inverse_no {D : Nat → Prop} (q : Int) (M : List (List Int)) {xa : Option Addr} {xk : Nat} {w : World} (hx : Fct.at w D (.mx (.slice xa M.length xk) M)) (hl0 : Laid w) (hn : -9223372036854775808 ≤ q ∧ q ≤ 9223372036854775807) (hv0 : mvB q M = false) :
    Calls Tryd.prog 39 #[.int .i64 q, .slice xa M.length xk] w fun e w' => e = .returned (.tuple #[.slice none 0 0, .int .i64 1]) ∧ Below w.heap.size w w' := by
  have E0 : Hid (Env D w [] [.mx (.slice xa M.length xk) M] w) := Lib.hid ((Env.start D w).arg (.mx (.slice xa M.length xk) M) hx)
  clear hx
  go_enter Tryd.func39, Tryd.ntmps39
  have hl := Lib.hid hl0
  have hv := Lib.hid hv0
  clear hl0 hv0
  go_wp2_with fail
  refine (mValid_c q M (E0.out.fc 0 rfl) (hl.out.below E0.out.bel) hn hv.out).mono ?_
  rintro e w1 ⟨rfl, hb⟩
  have E1 : Hid (Env D w [] [.mx (.slice xa M.length xk) M] w1) := Lib.hid (E0.out.below hb)
  clear E0 hb
  have hfin := Lib.hid E1.out.bel
  go_wp2
  go_ret2
  exact ⟨rfl, hfin.out⟩
set_option maxRecDepth 100000 in
set_option maxHeartbeats 1000000 in
theorem Inverse_sq {D : Nat → Prop} (q n : Nat) (L : List (List Nat)) {xa : Option Addr} {xk : Nat} {w : World} (hx : Fct.at w D (.mx (.slice xa L.length xk) (L.map nl))) (hl0 : Laid w) (hv0 : MvI q n L) (hne : ¬ L.length = n) :
    Calls Tryd.prog 39 #[.int .i64 (q : Nat), .slice xa L.length xk] w fun e w' => e = .returned (.tuple #[.slice none 0 0, .int .i64 1]) ∧ Below w.heap.size w w' := by
  have E0 : Hid (Env D w [] [.mx (.slice xa L.length xk) (L.map nl)] w) := Lib.hid ((Env.start D w).arg (.mx (.slice xa L.length xk) (L.map nl)) hx)
  clear hx
  go_enter Tryd.func39, Tryd.ntmps39
  have hl := Lib.hid hl0
  have hv := Lib.hid hv0
  clear hl0 hv0
  have hz : 0 < L.length := hv.out.m1
  have hzI : (0 : Int) < (L.length : Int) := by omega
  have HL0 : Hid (L[0].length = n) := Lib.hid (hv.out.res _ (List.getElem_mem hz)).1
  have HNE := Lib.hid hne
  clear hne
  have n1 : ((L.length : Int) != (L[0].length : Int)) = true := by have h1 := HL0.out; have h2 := HNE.out; rw [bne_iff_ne]; omega
  have n2 : (L.length != L[0].length) = true := by have h1 := HL0.out; have h2 := HNE.out; rw [bne_iff_ne]; omega
  go_upto_region 1 with (fail)
  obtain ⟨xab, xao, rfl⟩ := Mx.addrN (E0.out.fc 0 rfl) hz
  obtain ⟨ua, uk, E10⟩ := E0.out.elMN 0 rfl (0) hz
  have E1 : Hid (Env D w [] [.ce xab (xao) (.slice ua L[0].length uk), .rw (.slice ua L[0].length uk) L[0].length 1 (ncl L[0]), .mx (.slice (some ⟨xab, xao, none⟩) L.length xk) (L.map nl)] _) := Lib.hid E10
  clear E10 E0
  have u0 := (E1.out.fc 0 rfl).2
  go_wp2_with fail
  refine (mValidN (E1.out.fc 2 rfl) (hl.out.below E1.out.bel) hv.out).mono ?_
  rintro e w1 ⟨rfl, hb⟩
  have E2 : Hid (Env D w [] [.ce xab (xao) (.slice ua L[0].length uk), .rw (.slice ua L[0].length uk) L[0].length 1 (ncl L[0]), .mx (.slice (some ⟨xab, xao, none⟩) L.length xk) (L.map nl)] w1) := Lib.hid (E1.out.below hb)
  clear u0 E1 hb
  have z1 := (E2.out.fc 0 rfl).2
  have hfin := Lib.hid E2.out.bel
  go_wp2
  go_ret2
  exact ⟨rfl, hfin.out⟩
set_option maxRecDepth 100000 in
set_option maxHeartbeats 8000000 in
theorem Inverse_t {D : Nat → Prop} (q : Nat) (L M : List (List Nat)) (P : List Nat) {xa : Option Addr} {xk : Nat} {w : World} (hx : Fct.at w D (.mx (.slice xa L.length xk) (L.map nl))) (hl0 : Laid w) (hv0 : MvI q L.length L) (hR0 : redN q (invL L) L.length = (M, P)) (ht0 : P.length < L.length) :
    Calls Tryd.prog 39 #[.int .i64 (q : Nat), .slice xa L.length xk] w fun e w' => e = .returned (.tuple #[.slice none 0 0, .int .i64 10]) ∧ Below w.heap.size w w' := by
  have E0 : Hid (Env D w [] [.mx (.slice xa L.length xk) (L.map nl)] w) := Lib.hid ((Env.start D w).arg (.mx (.slice xa L.length xk) (L.map nl)) hx)
  clear hx
  go_enter Tryd.func39, Tryd.ntmps39
  have hl := Lib.hid hl0
  have hv := Lib.hid hv0
  have hR := Lib.hid hR0
  have ht := Lib.hid ht0
  clear hl0 hv0 hR0 ht0
  have hz : 0 < L.length := hv.out.m1
  have hzI : (0 : Int) < (L.length : Int) := by omega
  have HL0 : Hid (L[0].length = L.length) := Lib.hid (hv.out.res _ (List.getElem_mem hz)).1
  have m30 := hv.out.m30
  have HQ : Hid (0 < q) := Lib.hid (by have := hv.out.q2; omega)
  have HSR : Hid (ResM q (L.length + L.length) (invL L)) := Lib.hid (invL_res hv.out.q2 hv.out.res)
  have n1 : ((L.length : Int) != (L[0].length : Int)) = false := by have h1 := HL0.out; rw [h1]; simp
  have n2 : (L.length != L[0].length) = false := by have h1 := HL0.out; rw [h1]; simp
  go_upto_region 1 with (fail)
  obtain ⟨xab, xao, rfl⟩ := Mx.addrN (E0.out.fc 0 rfl) hz
  obtain ⟨ua, uk, E10⟩ := E0.out.elMN 0 rfl (0) hz
  have E1 : Hid (Env D w [] [.ce xab (xao) (.slice ua L[0].length uk), .rw (.slice ua L[0].length uk) L[0].length 1 (ncl L[0]), .mx (.slice (some ⟨xab, xao, none⟩) L.length xk) (L.map nl)] _) := Lib.hid E10
  clear E10 E0
  have u0 := (E1.out.fc 0 rfl).2
  go_wp2_with fail
  refine (mValidN (E1.out.fc 2 rfl) (hl.out.below E1.out.bel) hv.out).mono ?_
  rintro e w1 ⟨rfl, hb⟩
  have E2 : Hid (Env D w [] [.ce xab (xao) (.slice ua L[0].length uk), .rw (.slice ua L[0].length uk) L[0].length 1 (ncl L[0]), .mx (.slice (some ⟨xab, xao, none⟩) L.length xk) (L.map nl)] w1) := Lib.hid (E1.out.below hb)
  clear u0 E1 hb
  have z1 := (E2.out.fc 0 rfl).2
  go_upto_region 3 with (fail)
  clear n1 n2
  go_wp2_with fail
  refine (copied_c L (E2.out.fc 2 rfl) (by omega) hv.out.cp).mono ?_
  rintro e w2 ⟨⟨cg, cR, rfl, cH, cF⟩, hb⟩
  have E3 : Hid (Env D w ((mbx cg cR) ++ []) [.ce xab (xao) (.slice ua L[0].length uk), .rw (.slice ua L[0].length uk) L[0].length 1 (ncl L[0]), .mx (.slice (some ⟨xab, xao, none⟩) L.length xk) (L.map nl)] w2) := Lib.hid ((E2.out.gotSeg hb cF).cast (by simp))
  clear z1 E2 hb
  have crl : Hid (cR.length = L.length) := Lib.hid (by have h := congrArg List.length cH.out.1; simpa using h)
  go_upto_region 5 with (fail)
  go_wp2_with fail
  go_loopg [30] (L.length) (fun gk s30 wr => ∃ (i : Nat) (R1 : List Rb), s30 = .int .i64 (i : Int) ∧ Hid (Env D w ((mbx cg R1) ++ []) [.ce xab (xao) (.slice ua L[0].length uk), .rw (.slice ua L[0].length uk) L[0].length 1 (ncl L[0]), .mx (.slice (some ⟨xab, xao, none⟩) L.length xk) (L.map nl)] wr) ∧ Hid ((i ≤ L.length ∧ gk = L.length - i) ∧ mrows R1 = mix (invL L) L i ∧ CapOk R1))
  case atStart => exact ⟨0, cR, rfl, Lib.hid E3.out, Lib.hid ⟨⟨Nat.zero_le _, rfl⟩, by rw [mix_zero]; exact cH.out.1, cH.out.2⟩⟩
  case round =>
    clear E3
    obtain ⟨i, R1, rfl, EL, HA⟩ := hrel
    obtain ⟨⟨a1, a2⟩, a3, a4⟩ := HA.out
    have HS := Lib.hid a3
    have HC := Lib.hid a4
    clear a3 a4 HA
    have HL1 : Hid (R1.length = L.length) := Lib.hid (by have h := congrArg List.length HS.out; rw [mix_len invL_len, invL_len] at h; simpa using h)
    by_cases hy : i = L.length
    rotate_left
    · have hi : i < L.length := by omega
      have t6 : decide ((i : Int) < (L.length : Int)) = true := decide_eq_true (by omega)
      have t6n : decide (i < L.length) = true := decide_eq_true (by omega)
      have hiI : (i : Int) < (L.length : Int) := by omega
      clear hy
      go_upto_region 8 with (fail)
      go_wp2_with (at_make; refine wpl_makeI rfl _ _ rfl EL.out L.length rfl rfl (by omega) ?_)
      intro w3 ug ugE
      have E4 : Hid (Env D w ((ug, 3, (ncl (List.replicate L.length 0))) :: ((mbx cg R1) ++ [])) [.ce xab (xao) (.slice ua L[0].length uk), .rw (.slice ua L[0].length uk) L[0].length 1 (ncl L[0]), .mx (.slice (some ⟨xab, xao, none⟩) L.length xk) (L.map nl)] w3) := Lib.hid (by have h := ugE.out; rw [ncl_rep] at h; exact h.cast (by first | rfl | simp))
      clear EL ugE
      go_upto_region 9 with (fail)
      obtain ⟨xv, hxv⟩ : ∃ v, (ncl (List.replicate L.length 0))[i]? = some v := ⟨_, List.getElem?_eq_getElem (by rw [ncl_len, List.length_replicate]; omega)⟩
      have bg := E4.out.bx 0 rfl
      have c1 := bg.cell (i) (hxv)
      have c2 := bg.frozen (i)
      clear bg
      clear hxv
      have hk0 : Hid ((ncl (List.replicate L.length 0)).set i (.int .i64 ((1 : Nat) : Int)) = ncl (UL L.length i)) := Lib.hid (ncl_set _ _ _)
      have E5 : Hid (Env D w ((ug, 3, (((ncl (List.replicate L.length 0))).set (i) (.int .i64 1))) :: ((mbx cg R1) ++ [])) [.ce xab (xao) (.slice ua L[0].length uk), .rw (.slice ua L[0].length uk) L[0].length 1 (ncl L[0]), .mx (.slice (some ⟨xab, xao, none⟩) L.length xk) (L.map nl)] _) := Lib.hid ((E4.out.set 0 i (.int .i64 1) rfl))
      have E6 : Hid (Env D w ((ug, 3, (ncl (UL L.length i))) :: ((mbx cg R1) ++ [])) [.ce xab (xao) (.slice ua L[0].length uk), .rw (.slice ua L[0].length uk) L[0].length 1 (ncl L[0]), .mx (.slice (some ⟨xab, xao, none⟩) L.length xk) (L.map nl)] _) := Lib.hid (by have h := E5.out; rw [show (ncl (List.replicate L.length 0)).set i (.int .i64 1) = ncl (UL L.length i) from hk0.out] at h; exact h)
      go_upto_region 10 with (fail)
      have hi1 : i < R1.length := by rw [HL1.out]; exact hi
      obtain ⟨⟨rb, rl, rx⟩, re⟩ : ∃ r, R1[i]? = some r := ⟨_, List.getElem?_eq_getElem hi1⟩
      have rE := Lib.hid re
      clear re
      have mh2 : World.cell? _ ⟨cg, i, none⟩ = some (.slice (some ⟨rb, 0, none⟩) rl.length (rl.length + rx.length)) := E6.out.mhd (A := [(ug, 3, (ncl (UL L.length i)))]) (B := []) rfl rE.out
      have HRG : Hid (rl = L[i]) := Lib.hid (by have h := mrows_get rE.out; rw [HS.out, mix_old invL_len (Nat.le_refl _), List.getElem?_eq_getElem hi] at h; exact (Option.some.inj h).symm)
      have HRN : Hid (rl.length = L.length) := Lib.hid (by rw [HRG.out]; exact (hv.out.res _ (List.getElem_mem hi)).1)
      go_wp2_with (at_builtin; refine wpl_mapp (c := L.length) (news := UL L.length i) (m := L.length) rfl _ _ rfl E6.out (A := [(ug, 3, (ncl (UL L.length i)))]) (B := []) rfl rE.out HC.out (by omega) rfl rfl (SrcN.box (E6.out.bx 0 rfl) (ncl_len _ |>.trans (by rw [UL_len])) (ncl_one _)) UL_len (show rl.length + L.length ≤ 1000000 by have := HRN.out; omega) ?_)
      intro nr w4 nH nE
      have E7 : Hid (Env D w ((ug, 3, (ncl (UL L.length i))) :: ((mbh cg (R1.map Rb.hd) (R1.set i nr)) ++ [])) [.ce xab (xao) (.slice ua L[0].length uk), .rw (.slice ua L[0].length uk) L[0].length 1 (ncl L[0]), .mx (.slice (some ⟨xab, xao, none⟩) L.length xk) (L.map nl)] w4) := Lib.hid (nE.out.cast (by first | rfl | simp))
      clear c1 c2 mh2 E4 E5 E6 nE
      have fz := (E7.out.mh (A := [(ug, 3, (ncl (UL L.length i)))]) (B := []) rfl).frozen i
      have cz := (E7.out.mh (A := [(ug, 3, (ncl (UL L.length i)))]) (B := []) rfl).cell i (show (R1.map Rb.hd)[i]? = _ from (by rw [List.getElem?_map, rE.out]; rfl))
      have E8 : Hid (Env D w ((ug, 3, (ncl (UL L.length i))) :: ((mbh cg ((R1.map Rb.hd).set i (.slice (some ⟨nr.b, 0, none⟩) nr.l.length (nr.l.length + nr.x.length))) (R1.set i nr)) ++ [])) [.ce xab (xao) (.slice ua L[0].length uk), .rw (.slice ua L[0].length uk) L[0].length 1 (ncl L[0]), .mx (.slice (some ⟨xab, xao, none⟩) L.length xk) (L.map nl)] _) := Lib.hid ((E7.out.mhset (A := [(ug, 3, (ncl (UL L.length i)))]) (B := []) rfl i (.slice (some ⟨nr.b, 0, none⟩) nr.l.length (nr.l.length + nr.x.length))))
      have E9 : Hid (Env D w ((ug, 3, (ncl (UL L.length i))) :: ((mbx cg (R1.set i nr)) ++ [])) [.ce xab (xao) (.slice ua L[0].length uk), .rw (.slice ua L[0].length uk) L[0].length 1 (ncl L[0]), .mx (.slice (some ⟨xab, xao, none⟩) L.length xk) (L.map nl)] _) := Lib.hid (by have h := E8.out; rw [show .slice (some ⟨nr.b, 0, none⟩) nr.l.length (nr.l.length + nr.x.length) = nr.hd from rfl, hd_put rE.out] at h; exact h)
      have HNX : Hid (mrows (R1.set i nr) = mix (invL L) L (i + 1)) := Lib.hid (by unfold mrows; rw [List.map_set, nH.out.1, show R1.map Rb.l = mix (invL L) L i from HS.out]; exact mix_set invL_len (by rw [invL_len]; exact hi) (by rw [invL_get hi]; simp only [HRG.out]))
      have EZ := Lib.hid (E9.out.drop)
      go_wp2
      go_roundg (L.length - (i + 1))
      case rel => exact ⟨i + 1, R1.set i nr, rfl, EZ, Lib.hid ⟨⟨by omega, rfl⟩, HNX.out, nH.out.2⟩⟩
      case measure => exact by omega
    have t6 : decide ((i : Int) < (L.length : Int)) = false := decide_eq_false (by omega)
    have t6n : decide (i < L.length) = false := decide_eq_false (by omega)
    have HMS : Hid (mrows R1 = invL L) := Lib.hid (by rw [HS.out, hy, mix_full invL_len (Nat.le_of_eq invL_len)])
    clear hy
    go_upto_region 12 with (fail)
    have zRD := reduce_c q (L.length + L.length) L.length R1 (A0 := []) (B0 := []) (Lib.hid EL.out) hv.out.q2 hv.out.qT (by rw [HMS.out]; exact HSR.out) (Nat.le_add_left _ _) (by rw [HL1.out]; omega) (by omega) HC.out
    rw [HL1.out] at zRD
    have zRE := Lib.hid zRD
    clear zRD
    go_wp2_with fail
    refine (zRE.out).mono ?_
    rintro e w3 ⟨zR, zP, za, zk, rfl, zH, zE9⟩
    have E4 : Hid (Env D w ((mbx cg zR) ++ []) [.rw (.slice za zP.length zk) zP.length 1 (ncl zP), .ce xab (xao) (.slice ua L[0].length uk), .rw (.slice ua L[0].length uk) L[0].length 1 (ncl L[0]), .mx (.slice (some ⟨xab, xao, none⟩) L.length xk) (L.map nl)] w3) := Lib.hid (zE9.out.cast (by first | rfl | simp))
    clear EL zE9
    have HZ : Hid ((mrows zR, zP) = (M, P)) := Lib.hid (by have h := zH.out.1; rw [HMS.out, hR.out] at h; exact h); have hzl : Hid (zP.length = P.length) := Lib.hid (by have h := congrArg (fun x => x.2.length) HZ.out; exact h); have z1 : decide ((zP.length : Int) < (L.length : Int)) = true := decide_eq_true (by have h1 := hzl.out; have h2 := ht.out; omega); have z2 : decide (zP.length < L.length) = true := decide_eq_true (by have h1 := hzl.out; have h2 := ht.out; omega)
    have hfin := Lib.hid E4.out.bel
    go_wp2
    go_ret2
    exact ⟨rfl, hfin.out⟩
set_option maxRecDepth 100000 in
set_option maxHeartbeats 8000000 in
theorem Inverse_f {D : Nat → Prop} (q : Nat) (L M : List (List Nat)) (P : List Nat) {xa : Option Addr} {xk : Nat} {w : World} (hx : Fct.at w D (.mx (.slice xa L.length xk) (L.map nl))) (hl0 : Laid w) (hv0 : MvI q L.length L) (hR0 : redN q (invL L) L.length = (M, P)) (ht0 : ¬ P.length < L.length) :
    Calls Tryd.prog 39 #[.int .i64 (q : Nat), .slice xa L.length xk] w fun e w' => RetMfE (fun b => D b ∨ w.heap.size ≤ b) (M.map (List.drop L.length)) 0 e w' ∧ Below w.heap.size w w' := by
  have E0 : Hid (Env D w [] [.mx (.slice xa L.length xk) (L.map nl)] w) := Lib.hid ((Env.start D w).arg (.mx (.slice xa L.length xk) (L.map nl)) hx)
  clear hx
  go_enter Tryd.func39, Tryd.ntmps39
  have hl := Lib.hid hl0
  have hv := Lib.hid hv0
  have hR := Lib.hid hR0
  have ht := Lib.hid ht0
  clear hl0 hv0 hR0 ht0
  have hz : 0 < L.length := hv.out.m1
  have hzI : (0 : Int) < (L.length : Int) := by omega
  have HL0 : Hid (L[0].length = L.length) := Lib.hid (hv.out.res _ (List.getElem_mem hz)).1
  have m30 := hv.out.m30
  have HQ : Hid (0 < q) := Lib.hid (by have := hv.out.q2; omega)
  have HSR : Hid (ResM q (L.length + L.length) (invL L)) := Lib.hid (invL_res hv.out.q2 hv.out.res)
  have n1 : ((L.length : Int) != (L[0].length : Int)) = false := by have h1 := HL0.out; rw [h1]; simp
  have n2 : (L.length != L[0].length) = false := by have h1 := HL0.out; rw [h1]; simp
  go_upto_region 1 with (fail)
  obtain ⟨xab, xao, rfl⟩ := Mx.addrN (E0.out.fc 0 rfl) hz
  obtain ⟨ua, uk, E10⟩ := E0.out.elMN 0 rfl (0) hz
  have E1 : Hid (Env D w [] [.ce xab (xao) (.slice ua L[0].length uk), .rw (.slice ua L[0].length uk) L[0].length 1 (ncl L[0]), .mx (.slice (some ⟨xab, xao, none⟩) L.length xk) (L.map nl)] _) := Lib.hid E10
  clear E10 E0
  have u0 := (E1.out.fc 0 rfl).2
  go_wp2_with fail
  refine (mValidN (E1.out.fc 2 rfl) (hl.out.below E1.out.bel) hv.out).mono ?_
  rintro e w1 ⟨rfl, hb⟩
  have E2 : Hid (Env D w [] [.ce xab (xao) (.slice ua L[0].length uk), .rw (.slice ua L[0].length uk) L[0].length 1 (ncl L[0]), .mx (.slice (some ⟨xab, xao, none⟩) L.length xk) (L.map nl)] w1) := Lib.hid (E1.out.below hb)
  clear u0 E1 hb
  have z1 := (E2.out.fc 0 rfl).2
  go_upto_region 3 with (fail)
  clear n1 n2
  go_wp2_with fail
  refine (copied_c L (E2.out.fc 2 rfl) (by omega) hv.out.cp).mono ?_
  rintro e w2 ⟨⟨cg, cR, rfl, cH, cF⟩, hb⟩
  have E3 : Hid (Env D w ((mbx cg cR) ++ []) [.ce xab (xao) (.slice ua L[0].length uk), .rw (.slice ua L[0].length uk) L[0].length 1 (ncl L[0]), .mx (.slice (some ⟨xab, xao, none⟩) L.length xk) (L.map nl)] w2) := Lib.hid ((E2.out.gotSeg hb cF).cast (by simp))
  clear z1 E2 hb
  have crl : Hid (cR.length = L.length) := Lib.hid (by have h := congrArg List.length cH.out.1; simpa using h)
  go_upto_region 5 with (fail)
  go_wp2_with fail
  go_loopg [30] (L.length) (fun gk s30 wr => ∃ (i : Nat) (R1 : List Rb), s30 = .int .i64 (i : Int) ∧ Hid (Env D w ((mbx cg R1) ++ []) [.ce xab (xao) (.slice ua L[0].length uk), .rw (.slice ua L[0].length uk) L[0].length 1 (ncl L[0]), .mx (.slice (some ⟨xab, xao, none⟩) L.length xk) (L.map nl)] wr) ∧ Hid ((i ≤ L.length ∧ gk = L.length - i) ∧ mrows R1 = mix (invL L) L i ∧ CapOk R1))
  case atStart => exact ⟨0, cR, rfl, Lib.hid E3.out, Lib.hid ⟨⟨Nat.zero_le _, rfl⟩, by rw [mix_zero]; exact cH.out.1, cH.out.2⟩⟩
  case round =>
    clear E3
    obtain ⟨i, R1, rfl, EL, HA⟩ := hrel
    obtain ⟨⟨a1, a2⟩, a3, a4⟩ := HA.out
    have HS := Lib.hid a3
    have HC := Lib.hid a4
    clear a3 a4 HA
    have HL1 : Hid (R1.length = L.length) := Lib.hid (by have h := congrArg List.length HS.out; rw [mix_len invL_len, invL_len] at h; simpa using h)
    by_cases hy : i = L.length
    rotate_left
    · have hi : i < L.length := by omega
      have t6 : decide ((i : Int) < (L.length : Int)) = true := decide_eq_true (by omega)
      have t6n : decide (i < L.length) = true := decide_eq_true (by omega)
      have hiI : (i : Int) < (L.length : Int) := by omega
      clear hy
      go_upto_region 8 with (fail)
      go_wp2_with (at_make; refine wpl_makeI rfl _ _ rfl EL.out L.length rfl rfl (by omega) ?_)
      intro w3 ug ugE
      have E4 : Hid (Env D w ((ug, 3, (ncl (List.replicate L.length 0))) :: ((mbx cg R1) ++ [])) [.ce xab (xao) (.slice ua L[0].length uk), .rw (.slice ua L[0].length uk) L[0].length 1 (ncl L[0]), .mx (.slice (some ⟨xab, xao, none⟩) L.length xk) (L.map nl)] w3) := Lib.hid (by have h := ugE.out; rw [ncl_rep] at h; exact h.cast (by first | rfl | simp))
      clear EL ugE
      go_upto_region 9 with (fail)
      obtain ⟨xv, hxv⟩ : ∃ v, (ncl (List.replicate L.length 0))[i]? = some v := ⟨_, List.getElem?_eq_getElem (by rw [ncl_len, List.length_replicate]; omega)⟩
      have bg := E4.out.bx 0 rfl
      have c1 := bg.cell (i) (hxv)
      have c2 := bg.frozen (i)
      clear bg
      clear hxv
      have hk0 : Hid ((ncl (List.replicate L.length 0)).set i (.int .i64 ((1 : Nat) : Int)) = ncl (UL L.length i)) := Lib.hid (ncl_set _ _ _)
      have E5 : Hid (Env D w ((ug, 3, (((ncl (List.replicate L.length 0))).set (i) (.int .i64 1))) :: ((mbx cg R1) ++ [])) [.ce xab (xao) (.slice ua L[0].length uk), .rw (.slice ua L[0].length uk) L[0].length 1 (ncl L[0]), .mx (.slice (some ⟨xab, xao, none⟩) L.length xk) (L.map nl)] _) := Lib.hid ((E4.out.set 0 i (.int .i64 1) rfl))
      have E6 : Hid (Env D w ((ug, 3, (ncl (UL L.length i))) :: ((mbx cg R1) ++ [])) [.ce xab (xao) (.slice ua L[0].length uk), .rw (.slice ua L[0].length uk) L[0].length 1 (ncl L[0]), .mx (.slice (some ⟨xab, xao, none⟩) L.length xk) (L.map nl)] _) := Lib.hid (by have h := E5.out; rw [show (ncl (List.replicate L.length 0)).set i (.int .i64 1) = ncl (UL L.length i) from hk0.out] at h; exact h)
      go_upto_region 10 with (fail)
      have hi1 : i < R1.length := by rw [HL1.out]; exact hi
      obtain ⟨⟨rb, rl, rx⟩, re⟩ : ∃ r, R1[i]? = some r := ⟨_, List.getElem?_eq_getElem hi1⟩
      have rE := Lib.hid re
      clear re
      have mh2 : World.cell? _ ⟨cg, i, none⟩ = some (.slice (some ⟨rb, 0, none⟩) rl.length (rl.length + rx.length)) := E6.out.mhd (A := [(ug, 3, (ncl (UL L.length i)))]) (B := []) rfl rE.out
      have HRG : Hid (rl = L[i]) := Lib.hid (by have h := mrows_get rE.out; rw [HS.out, mix_old invL_len (Nat.le_refl _), List.getElem?_eq_getElem hi] at h; exact (Option.some.inj h).symm)
      have HRN : Hid (rl.length = L.length) := Lib.hid (by rw [HRG.out]; exact (hv.out.res _ (List.getElem_mem hi)).1)
      go_wp2_with (at_builtin; refine wpl_mapp (c := L.length) (news := UL L.length i) (m := L.length) rfl _ _ rfl E6.out (A := [(ug, 3, (ncl (UL L.length i)))]) (B := []) rfl rE.out HC.out (by omega) rfl rfl (SrcN.box (E6.out.bx 0 rfl) (ncl_len _ |>.trans (by rw [UL_len])) (ncl_one _)) UL_len (show rl.length + L.length ≤ 1000000 by have := HRN.out; omega) ?_)
      intro nr w4 nH nE
      have E7 : Hid (Env D w ((ug, 3, (ncl (UL L.length i))) :: ((mbh cg (R1.map Rb.hd) (R1.set i nr)) ++ [])) [.ce xab (xao) (.slice ua L[0].length uk), .rw (.slice ua L[0].length uk) L[0].length 1 (ncl L[0]), .mx (.slice (some ⟨xab, xao, none⟩) L.length xk) (L.map nl)] w4) := Lib.hid (nE.out.cast (by first | rfl | simp))
      clear c1 c2 mh2 E4 E5 E6 nE
      have fz := (E7.out.mh (A := [(ug, 3, (ncl (UL L.length i)))]) (B := []) rfl).frozen i
      have cz := (E7.out.mh (A := [(ug, 3, (ncl (UL L.length i)))]) (B := []) rfl).cell i (show (R1.map Rb.hd)[i]? = _ from (by rw [List.getElem?_map, rE.out]; rfl))
      have E8 : Hid (Env D w ((ug, 3, (ncl (UL L.length i))) :: ((mbh cg ((R1.map Rb.hd).set i (.slice (some ⟨nr.b, 0, none⟩) nr.l.length (nr.l.length + nr.x.length))) (R1.set i nr)) ++ [])) [.ce xab (xao) (.slice ua L[0].length uk), .rw (.slice ua L[0].length uk) L[0].length 1 (ncl L[0]), .mx (.slice (some ⟨xab, xao, none⟩) L.length xk) (L.map nl)] _) := Lib.hid ((E7.out.mhset (A := [(ug, 3, (ncl (UL L.length i)))]) (B := []) rfl i (.slice (some ⟨nr.b, 0, none⟩) nr.l.length (nr.l.length + nr.x.length))))
      have E9 : Hid (Env D w ((ug, 3, (ncl (UL L.length i))) :: ((mbx cg (R1.set i nr)) ++ [])) [.ce xab (xao) (.slice ua L[0].length uk), .rw (.slice ua L[0].length uk) L[0].length 1 (ncl L[0]), .mx (.slice (some ⟨xab, xao, none⟩) L.length xk) (L.map nl)] _) := Lib.hid (by have h := E8.out; rw [show .slice (some ⟨nr.b, 0, none⟩) nr.l.length (nr.l.length + nr.x.length) = nr.hd from rfl, hd_put rE.out] at h; exact h)
      have HNX : Hid (mrows (R1.set i nr) = mix (invL L) L (i + 1)) := Lib.hid (by unfold mrows; rw [List.map_set, nH.out.1, show R1.map Rb.l = mix (invL L) L i from HS.out]; exact mix_set invL_len (by rw [invL_len]; exact hi) (by rw [invL_get hi]; simp only [HRG.out]))
      have EZ := Lib.hid (E9.out.drop)
      go_wp2
      go_roundg (L.length - (i + 1))
      case rel => exact ⟨i + 1, R1.set i nr, rfl, EZ, Lib.hid ⟨⟨by omega, rfl⟩, HNX.out, nH.out.2⟩⟩
      case measure => exact by omega
    have t6 : decide ((i : Int) < (L.length : Int)) = false := decide_eq_false (by omega)
    have t6n : decide (i < L.length) = false := decide_eq_false (by omega)
    have HMS : Hid (mrows R1 = invL L) := Lib.hid (by rw [HS.out, hy, mix_full invL_len (Nat.le_of_eq invL_len)])
    clear hy
    go_upto_region 12 with (fail)
    have zRD := reduce_c q (L.length + L.length) L.length R1 (A0 := []) (B0 := []) (Lib.hid EL.out) hv.out.q2 hv.out.qT (by rw [HMS.out]; exact HSR.out) (Nat.le_add_left _ _) (by rw [HL1.out]; omega) (by omega) HC.out
    rw [HL1.out] at zRD
    have zRE := Lib.hid zRD
    clear zRD
    go_wp2_with fail
    refine (zRE.out).mono ?_
    rintro e w3 ⟨zR, zP, za, zk, rfl, zH, zE9⟩
    have E4 : Hid (Env D w ((mbx cg zR) ++ []) [.rw (.slice za zP.length zk) zP.length 1 (ncl zP), .ce xab (xao) (.slice ua L[0].length uk), .rw (.slice ua L[0].length uk) L[0].length 1 (ncl L[0]), .mx (.slice (some ⟨xab, xao, none⟩) L.length xk) (L.map nl)] w3) := Lib.hid (zE9.out.cast (by first | rfl | simp))
    clear EL zE9
    have HZ : Hid ((mrows zR, zP) = (M, P)) := Lib.hid (by have h := zH.out.1; rw [HMS.out, hR.out] at h; exact h); have hzl : Hid (zP.length = P.length) := Lib.hid (by have h := congrArg (fun x => x.2.length) HZ.out; exact h); have z1 : decide ((zP.length : Int) < (L.length : Int)) = false := decide_eq_false (by have h1 := hzl.out; have h2 := ht.out; omega); have z2 : decide (zP.length < L.length) = false := decide_eq_false (by have h1 := hzl.out; have h2 := ht.out; omega)
    go_upto_region 14 with (fail)
    have HZM : Hid (mrows zR = M) := Lib.hid (by have h := congrArg Prod.fst HZ.out; exact h)
    have HMI : Hid (RedI q (L.length + L.length) L.length L.length (M, P)) := Lib.hid (by have h := redN_ok HQ.out HSR.out L.length; rw [hR.out, invL_len] at h; exact h)
    have HML : Hid (M.length = L.length) := Lib.hid HMI.out.len
    clear t6 t6n a1 a2 z1 z2
    go_wp2_with fail
    go_loopg [57] (L.length) (fun gk s57 wr => ∃ (k : Nat) (R2 : List Rb), s57 = .int .i64 (k : Int) ∧ Hid (Env D w ((mbx cg R2) ++ []) [.rw (.slice za zP.length zk) zP.length 1 (ncl zP), .ce xab (xao) (.slice ua L[0].length uk), .rw (.slice ua L[0].length uk) L[0].length 1 (ncl L[0]), .mx (.slice (some ⟨xab, xao, none⟩) L.length xk) (L.map nl)] wr) ∧ Hid ((k ≤ L.length ∧ gk = L.length - k) ∧ mrows R2 = mix (M.map (List.drop L.length)) M k ∧ CapOk R2))
    case atStart => exact ⟨0, zR, rfl, Lib.hid E4.out, Lib.hid ⟨⟨Nat.zero_le _, rfl⟩, by rw [mix_zero]; exact HZM.out, zH.out.2⟩⟩
    case round =>
      clear E4
      obtain ⟨k, R2, rfl, EL, HA⟩ := hrel
      have HDL : Hid ((M.map (List.drop L.length)).length = M.length) := Lib.hid (by rw [List.length_map])
      obtain ⟨⟨a1, a2⟩, a3, a4⟩ := HA.out
      have HS2 := Lib.hid a3
      have HC2 := Lib.hid a4
      clear a3 a4 HA
      have HL2 : Hid (R2.length = L.length) := Lib.hid (by have h := congrArg List.length HS2.out; rw [mix_len HDL.out, HDL.out, HML.out] at h; simpa using h)
      by_cases hy : k = L.length
      · skip
        have t6 : decide ((k : Int) < (L.length : Int)) = false := decide_eq_false (by omega)
        have t6n : decide (k < L.length) = false := decide_eq_false (by omega)
        have HD : Hid (mrows R2 = (M.map (List.drop L.length))) := Lib.hid (by rw [HS2.out, hy]; exact mix_full HDL.out (Nat.le_of_eq (HDL.out.trans HML.out)))
        clear hy
        have hbel := Lib.hid EL.out.bel
        go_wp2
        go_ret2
        have EF := Env.freezeM (A := []) (B := []) (g := cg) (R := R2) (EL.out.cast (by first | rfl | simp)) (by rw [HL2.out]; omega) HC2.out
        have h1 : Fct.at _ _ _ := EF.out 0 rfl
        have hml : (M.map (List.drop L.length)).length = L.length := HDL.out.trans HML.out
        rw [HL2.out, HD.out] at h1
        exact ⟨⟨some ⟨cg, 0, none⟩, L.length, by rw [hml]; rfl, Lib.hid (by rw [hml]; exact h1)⟩, hbel.out⟩
      have hk : k < L.length := by omega
      have t6 : decide ((k : Int) < (L.length : Int)) = true := decide_eq_true (by omega)
      have t6n : decide (k < L.length) = true := decide_eq_true (by omega)
      have hkI : (k : Int) < (L.length : Int) := by omega
      clear hy
      go_upto_region 17 with (fail)
      have hk2 : k < R2.length := by rw [HL2.out]; exact hk
      have HKM : Hid (k < M.length) := Lib.hid (by rw [HML.out]; exact hk)
      obtain ⟨⟨sb, sl, sx⟩, se⟩ : ∃ r, R2[k]? = some r := ⟨_, List.getElem?_eq_getElem hk2⟩
      have sE := Lib.hid se
      clear se
      have mh2 : World.cell? _ ⟨cg, k, none⟩ = some (.slice (some ⟨sb, 0, none⟩) sl.length (sl.length + sx.length)) := EL.out.mhd (A := []) (B := []) rfl sE.out
      have HSG : Hid (M[k]? = some sl) := Lib.hid (by have h := mrows_get sE.out; rw [HS2.out, mix_old HDL.out (Nat.le_refl _)] at h; exact h)
      have HSL : Hid (sl.length = L.length + L.length) := Lib.hid (HMI.out.res _ (List.mem_of_getElem? HSG.out)).1
      have v1 : L.length ≤ sl.length := by have := HSL.out; omega
      have v1I : (L.length : Int) ≤ (sl.length : Int) := by omega
      have v2 : (sl.length + sx.length = L.length) = False := eq_false (by have := HSL.out; omega)
      have v3 : L.length ≤ sl.length + sx.length := by omega
      have HDR : Hid (0 < (sl.drop L.length).length ∧ (sl.drop L.length).length ≤ 1000000) := Lib.hid (by rw [List.length_drop]; have := HSL.out; omega)
      go_wp2_with fail
      refine (cloneRow_c (D := fun _ => True) (l := sl.drop L.length) (EL.out.mrd (A := []) (B := []) rfl sE.out HC2.out v1) HDR.out.2 HDR.out.1).mono ?_
      rintro e w4 ⟨⟨rb, rx, rfl, rB, rC⟩, hb⟩
      have E5 : Hid (Env D w ((rb, 3, (ncl (sl.drop L.length) ++ rx)) :: ((mbx cg R2) ++ [])) [.rw (.slice za zP.length zk) zP.length 1 (ncl zP), .ce xab (xao) (.slice ua L[0].length uk), .rw (.slice ua L[0].length uk) L[0].length 1 (ncl L[0]), .mx (.slice (some ⟨xab, xao, none⟩) L.length xk) (L.map nl)] w4) := Lib.hid (EL.out.gotBox hb rB.out)
      clear mh2 EL hb rB
      have fz := (E5.out.mh (A := [(rb, 3, (ncl (sl.drop L.length) ++ rx))]) (B := []) rfl).frozen k
      have cz := (E5.out.mh (A := [(rb, 3, (ncl (sl.drop L.length) ++ rx))]) (B := []) rfl).cell k (show (R2.map Rb.hd)[k]? = _ from (by rw [List.getElem?_map, sE.out]; rfl))
      have E6 : Hid (Env D w ((rb, 3, (ncl (sl.drop L.length) ++ rx)) :: ((mbh cg ((R2.map Rb.hd).set k (.slice (some ⟨rb, 0, none⟩) (sl.length - L.length) (sl.length - L.length + rx.length))) R2) ++ [])) [.rw (.slice za zP.length zk) zP.length 1 (ncl zP), .ce xab (xao) (.slice ua L[0].length uk), .rw (.slice ua L[0].length uk) L[0].length 1 (ncl L[0]), .mx (.slice (some ⟨xab, xao, none⟩) L.length xk) (L.map nl)] _) := Lib.hid ((E5.out.mhset (A := [(rb, 3, (ncl (sl.drop L.length) ++ rx))]) (B := []) rfl k (.slice (some ⟨rb, 0, none⟩) (sl.length - L.length) (sl.length - L.length + rx.length))))
      have E7 : Hid (Env D w ((mbx cg (R2.set k (Rb.mk rb (sl.drop L.length) rx))) ++ []) [.rw (.slice za zP.length zk) zP.length 1 (ncl zP), .ce xab (xao) (.slice ua L[0].length uk), .rw (.slice ua L[0].length uk) L[0].length 1 (ncl L[0]), .mx (.slice (some ⟨xab, xao, none⟩) L.length xk) (L.map nl)] _) := Lib.hid (by have h := E6.out; exact Env.mrep (A := []) (r2 := Rb.mk rb (sl.drop L.length) rx) h sE.out (by unfold Rb.hd; simp only [List.length_drop]))
      have HNX : Hid (mrows (R2.set k (Rb.mk rb (sl.drop L.length) rx)) = mix (M.map (List.drop L.length)) M (k + 1)) := Lib.hid (by unfold mrows; rw [List.map_set, show R2.map Rb.l = mix (M.map (List.drop L.length)) M k from HS2.out]; exact mix_set HDL.out (by rw [HDL.out]; exact HKM.out) (by rw [List.getElem?_map, HSG.out]; rfl))
      have EZ := Lib.hid E7.out
      go_wp2
      go_roundg (L.length - (k + 1))
      case rel => exact ⟨k + 1, (R2.set k (Rb.mk rb (sl.drop L.length) rx)), rfl, EZ, Lib.hid ⟨⟨by omega, rfl⟩, HNX.out, HC2.out.put rC.out⟩⟩
      case measure => exact by omega
end Go.Proofs.YtinlfogpbologaaDoor

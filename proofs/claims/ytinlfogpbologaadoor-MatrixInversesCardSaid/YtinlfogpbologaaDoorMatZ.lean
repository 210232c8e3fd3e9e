/- specieref14: Inverse. -/
import Derived.Test.YtinlfogpbologaaDoorMatV
import Derived.Test.YtinlfogpbologaaDoorMatR
namespace Go.Proofs.YtinlfogpbologaaDoor
open Go.RowKit DivMath WordMath
set_option linter.unusedVariables false
set_option linter.unusedSimpArgs false
/-- a row from a place on -/
theorem Rw.dropN {W : World} {D : Nat → Prop} {b o n c a : Nat} {l : List Nat} (h : Rw W D (.slice (some ⟨b, o, none⟩) n c) n 1 (ncl l)) (hl : l.length = n) (ha : a ≤ n) : Rw W D (.slice (some ⟨b, o + a, none⟩) (n - a) (c - a)) (n - a) 1 (ncl (l.drop a)) := by
  obtain ⟨ad, cap, e, h1, h2, h3, h4, h5⟩ := h
  cases e
  refine ⟨some ⟨b, o + a, none⟩, c - a, rfl, by omega, by omega, by rw [ncl_len, List.length_drop, hl], ncl_one _, fun hn => ?_⟩
  obtain ⟨b', o', e', hd, hc⟩ := h5 (by omega)
  cases e'
  refine ⟨b, o + a, rfl, hd, fun j u hu => ?_⟩
  have hj := (List.getElem?_eq_some_iff.1 hu).1
  rw [ncl_len, Nat.mul_one, List.length_drop] at hj
  rw [ncl_get _ j (by rw [List.length_drop]; omega)] at hu
  rw [Nat.add_assoc]
  refine hc (a + j) u ?_
  rw [ncl_get _ (a + j) (by omega), ← hu, List.getElem_drop]
/-- what the reference's Inverse hands back -/
def RetInv (D : Nat → Prop) (n : Nat) (M : List (List Nat)) (P : List Nat) (e : Ending) (w' : World) : Prop := (P.length < n ∧ e = .returned (.tuple #[.slice none 0 0, .bool false])) ∨ (¬ P.length < n ∧ ∃ ka kk, e = .returned (.tuple #[.slice ka (M.map (List.drop n)).length kk, .bool true]) ∧ Hid (Mx w' D (.slice ka (M.map (List.drop n)).length kk) ((M.map (List.drop n)).map nl)))
set_option maxRecDepth 100000 in
set_option maxHeartbeats 8000000 in
theorem rInverse_c {D : Nat → Prop} (q : Nat) (L M : List (List Nat)) (P : List Nat) {xa : Option Addr} {xk : Nat} {w : World} (hx : Fct.at w D (.mx (.slice xa L.length xk) (L.map nl))) (hv0 : MvI q L.length L) (hR0 : redN q (invL L) L.length = (M, P)) :
    Calls Tryd.prog 40 #[.int .i64 (q : Nat), .slice xa L.length xk] w fun e w' => RetInv (fun b => D b ∨ w.heap.size ≤ b) L.length M P e w' ∧ Below w.heap.size w w' := by
  have E0 : Hid (Env D w [] [.mx (.slice xa L.length xk) (L.map nl)] w) := Lib.hid ((Env.start D w).arg (.mx (.slice xa L.length xk) (L.map nl)) hx)
  clear hx
  go_enter Tryd.func40, Tryd.ntmps40
  have hv := Lib.hid hv0
  have hR := Lib.hid hR0
  clear hv0 hR0
  have m30 := hv.out.m30
  go_wp2_with fail
  go_loopg [8, 7] (L.length) (fun gk s8 s7 wr => ∃ (k : Nat) (tg : List Bx) (ts : List Value) (ta : Option Addr) (tk : Nat) (hs : List Value) (O : List (List Nat)), s8 = .int .i64 (k : Int) ∧ s7 = .slice ta O.length tk ∧ Hid (Env D w tg [.gn (gRows hs O), .mx (.slice xa L.length xk) (L.map nl)] wr) ∧ Hid (OM tg ts (.slice ta O.length tk) hs O.length) ∧ Hid ((k ≤ L.length ∧ gk = L.length - k) ∧ O = (invL L).take k))
  case atStart => exact ⟨0, [], [], none, 0, [], [], rfl, rfl, Lib.hid ((E0.out.note (.gn (gRows [] [])) gRows.nil).cast (by simp)), Lib.hid OM.nil, Lib.hid ⟨⟨Nat.zero_le _, rfl⟩, rfl⟩⟩
  case round =>
    clear E0
    obtain ⟨k, tg, ts, ta, tk, hs, O, rfl, rfl, EL, hM, HA⟩ := hrel
    obtain ⟨⟨a1, a2⟩, a3⟩ := HA.out
    have HP := Lib.hid a3
    clear a3 HA
    have HOL : Hid (O.length = k) := Lib.hid (by rw [HP.out, List.length_take, invL_len]; omega)
    by_cases hy : k < L.length
    · have hk := hy
      have t6 : decide ((k : Int) < (L.length : Int)) = true := decide_eq_true (by omega)
      have t6n : decide (k < L.length) = true := decide_eq_true (by omega)
      have hkI : (k : Int) < (L.length : Int) := by omega
      clear hy
      have hol : O.length ≤ 1000 := by rw [HOL.out]; omega
      go_upto_region 6 with (fail)
      go_wp2_with (at_make; refine wpl_makeI rfl _ _ rfl EL.out L.length rfl rfl (by omega) ?_)
      intro w1 ug ugE
      have E1 : Hid (Env D w ((ug, 3, (ncl (List.replicate L.length 0))) :: tg) [.gn (gRows hs O), .mx (.slice xa L.length xk) (L.map nl)] w1) := Lib.hid (by have h := ugE.out; rw [ncl_rep] at h; exact h.cast (by first | rfl | simp))
      clear EL ugE
      go_upto_region 7 with (fail)
      obtain ⟨xv, hxv⟩ : ∃ v, (ncl (List.replicate L.length 0))[k]? = some v := ⟨_, List.getElem?_eq_getElem (by rw [ncl_len, List.length_replicate]; omega)⟩
      have bg := E1.out.bx 0 rfl
      have c1 := bg.cell (k) (hxv)
      have c2 := bg.frozen (k)
      clear bg
      clear hxv
      have hk0 : Hid ((ncl (List.replicate L.length 0)).set k (.int .i64 ((1 : Nat) : Int)) = ncl (UL L.length k)) := Lib.hid (ncl_set _ _ _)
      have E2 : Hid (Env D w ((ug, 3, (((ncl (List.replicate L.length 0))).set (k) (.int .i64 1))) :: tg) [.gn (gRows hs O), .mx (.slice xa L.length xk) (L.map nl)] _) := Lib.hid ((E1.out.set 0 k (.int .i64 1) rfl))
      have E3 : Hid (Env D w ((ug, 3, (ncl (UL L.length k))) :: tg) [.gn (gRows hs O), .mx (.slice xa L.length xk) (L.map nl)] _) := Lib.hid (by have h := E2.out; rw [show (ncl (List.replicate L.length 0)).set k (.int .i64 1) = ncl (UL L.length k) from hk0.out] at h; exact h)
      go_upto_region 8 with (fail)
      obtain ⟨xab, xao, rfl⟩ := Mx.addrN (E3.out.fc 1 rfl) hk
      obtain ⟨ua, uk, E40⟩ := E3.out.elMN 1 rfl (k) hk
      have E4 : Hid (Env D w ((ug, 3, (ncl (UL L.length k))) :: tg) [.ce xab (xao + k) (.slice ua L[k].length uk), .rw (.slice ua L[k].length uk) L[k].length 1 (ncl L[k]), .gn (gRows hs O), .mx (.slice (some ⟨xab, xao, none⟩) L.length xk) (L.map nl)] _) := Lib.hid E40
      clear E40 E3
      have u0 := (E4.out.fc 0 rfl).2
      have HRK : Hid (L[k].length = L.length) := Lib.hid (hv.out.res _ (List.getElem_mem hk)).1
      have HR30 : Hid (L[k].length ≤ 1000) := Lib.hid (by rw [HRK.out]; omega)
      have E5 : Hid (Env D w ((w1.heap.size, 3, []) :: (ug, 3, (ncl (UL L.length k))) :: tg) [.ce xab (xao + k) (.slice ua L[k].length uk), .rw (.slice ua L[k].length uk) L[k].length 1 (ncl L[k]), .gn (gRows hs O), .mx (.slice (some ⟨xab, xao, none⟩) L.length xk) (L.map nl)] _) := Lib.hid ((E4.out.push 3 [] (w1.heap.size) (by simp)))
      have z1 := (E5.out.fc 0 rfl).2
      go_wp2_with (at_builtin; refine wpl_appN (c := uk) tiI rfl _ _ rfl E5.out (A := []) (sg := [(w1.heap.size, 3, [])]) (B' := ((ug, 3, (ncl (UL L.length k))) :: tg)) (n := 0) (by first | rfl | simp) (.inr ⟨w1.heap.size, 0, rfl, rfl, Nat.le_refl _, by omega, rfl⟩) rfl rfl (Rw.src (E5.out.fc 1 rfl)) (by have := HR30.out; omega) ?_)
      intro xs xv xc wc xO xT xE
      (try simp only [Nat.zero_add] at xO xT)
      obtain ⟨ra, rk, rfl⟩ := xO.out.len
      have E6 : Hid (Env D w ((ug, 3, (ncl (UL L.length k))) :: (tg ++ xs)) [.ce xab (xao + k) (.slice ua L[k].length uk), .rw (.slice ua L[k].length uk) L[k].length 1 (ncl L[k]), .gn (gRows hs O), .mx (.slice (some ⟨xab, xao, none⟩) L.length xk) (L.map nl)] wc) := Lib.hid ((xE.out.perm (List.Perm.append_left [] (List.perm_append_comm (l₁ := xs) (l₂ := ((ug, 3, (ncl (UL L.length k))) :: tg))))).cast (by first | rfl | simp))
      clear c1 c2 u0 z1 E1 E2 E4 E5 xE
      go_wp2_with (at_builtin; refine wpl_appN (c := L.length) tiI rfl _ _ rfl E6.out (A := ((ug, 3, (ncl (UL L.length k))) :: tg)) (sg := xs) (B' := []) (n := L[k].length) (by simp) xO.out rfl rfl (SrcN.box (E6.out.bx 0 rfl) (ncl_len _ |>.trans (by rw [UL_len])) (ncl_one _)) (show L[k].length + L.length ≤ 1000000 by have := HR30.out; omega) ?_)
      intro ys yv yc wd yO yT yE
      obtain ⟨sa, sk, rfl⟩ := yO.out.len
      obtain ⟨kv, hkv⟩ : ∃ v, L[k] ++ UL L.length k = v := ⟨_, rfl⟩
      have HKV := Lib.hid hkv
      have HKL : Hid (kv.length = L[k].length + L.length) := Lib.hid (by rw [← hkv, List.length_append, UL_len])
      clear hkv
      have E7 : Hid (Env D w ((ug, 3, (ncl (UL L.length k))) :: tg) [.rw (.slice sa kv.length sk) kv.length 1 (ncl kv), .ce xab (xao + k) (.slice ua L[k].length uk), .rw (.slice ua L[k].length uk) L[k].length 1 (ncl L[k]), .gn (gRows hs O), .mx (.slice (some ⟨xab, xao, none⟩) L.length xk) (L.map nl)] wd) := Lib.hid (by rw [HKL.out, ← HKV.out]; exact Env.cast (Env.freezeOS (A := ((ug, 3, (ncl (UL L.length k))) :: tg)) (sg := ys) (B := []) (yE.out.cast (by simp)) yO.out (xs := ncl (L[k] ++ UL L.length k)) (by have h := yT.out; have h2 := xT.out; simp only [Nat.mul_one] at h h2 ⊢; rw [h, h2]; simp [ncl, nl, icl]) (ncl_one _)) (by simp))
      clear E6 yE
      have E8 : Hid (Env D w ((wd.heap.size, 22, [.slice sa (L[k].length + L.length) sk]) :: (ug, 3, (ncl (UL L.length k))) :: tg) [.rw (.slice sa kv.length sk) kv.length 1 (ncl kv), .ce xab (xao + k) (.slice ua L[k].length uk), .rw (.slice ua L[k].length uk) L[k].length 1 (ncl L[k]), .gn (gRows hs O), .mx (.slice (some ⟨xab, xao, none⟩) L.length xk) (L.map nl)] _) := Lib.hid ((E7.out.push 22 [.slice sa (L[k].length + L.length) sk] (wd.heap.size) (by simp)))
      go_wp2_with (at_builtin; refine wpl_app1 (c := 1) tiR rfl _ _ rfl E8.out (A := [(wd.heap.size, 22, [.slice sa (L[k].length + L.length) sk]), (ug, 3, (ncl (UL L.length k)))]) (sg := tg) (B' := []) (by simp) hM.out.1 rfl rfl (SrcN.one (E8.out.bx 0 rfl) rfl) (by omega) ?_)
      intro yg yp yc w2 yH yT yE
      have yM := Lib.hid (OM.app (x := Value.slice sa (L[k].length + L.length) sk) (g' := yg) hM.out (by simpa using yH.out) (by simpa using yT.out))
      have E9 : Hid (Env D w ((wd.heap.size, 22, [.slice sa (L[k].length + L.length) sk]) :: (ug, 3, (ncl (UL L.length k))) :: [(yg, 22, yc)]) [.gn (gRows (hs ++ [Value.slice sa (L[k].length + L.length) sk]) (O ++ [kv])), .rw (.slice sa kv.length sk) kv.length 1 (ncl kv), .ce xab (xao + k) (.slice ua L[k].length uk), .rw (.slice ua L[k].length uk) L[k].length 1 (ncl L[k]), .gn (gRows hs O), .mx (.slice (some ⟨xab, xao, none⟩) L.length xk) (L.map nl)] w2) := Lib.hid ((yE.out.note (.gn (gRows (hs ++ [Value.slice sa (L[k].length + L.length) sk]) (O ++ [kv]))) (by have h := gRows.app (yE.out.fc 3 rfl) (yE.out.fc 0 rfl); rw [HKL.out] at h; exact h)).cast (by first | rfl | simp))
      clear E7 E8 yE yH yT
      have hZ := E9.out.drop.drop
      have EZ : Hid (Env D w _ [.gn (gRows (hs ++ [Value.slice sa (L[k].length + L.length) sk]) (O ++ [kv])), .mx (.slice (some ⟨xab, xao, none⟩) L.length xk) (L.map nl)] _) := Lib.hid ⟨hZ.bel, hZ.box, ⟨hZ.fc 0 rfl, ⟨hZ.fc 5 rfl, trivial⟩⟩⟩
      clear hZ
      go_wp2
      go_roundg (L.length - (k + 1))
      case rel => exact ⟨k + 1, [(yg, 22, yc)], yc, some ⟨yg, 0, none⟩, yp, _, O ++ [kv], rfl, by simp, Lib.hid (EZ.out.cast (by simp)), Lib.hid (by rw [List.length_append, List.length_singleton]; exact yM.out), Lib.hid ⟨⟨by omega, rfl⟩, by rw [HP.out, List.take_add_one, invL_get hk, HKV.out]; rfl⟩⟩
      case measure => exact by omega
    have t6 : decide ((k : Int) < (L.length : Int)) = false := decide_eq_false (by omega)
    have t6n : decide (k < L.length) = false := decide_eq_false (by omega)
    have HOS : Hid (O = invL L) := Lib.hid (by rw [HP.out]; exact List.take_of_length_le (by rw [invL_len]; omega))
    have HOL2 : Hid (O.length = L.length) := Lib.hid (by rw [HOS.out, invL_len])
    clear hy
    go_upto_region 9 with (fail)
    have E1 : Hid (Env D w [] [.mx (.slice ta O.length tk) (O.map nl), .gn (gRows hs O), .mx (.slice xa L.length xk) (L.map nl)] _) := Lib.hid ((Env.freezeOM (A := []) (sg := tg) (B := []) (EL.out.cast (by first | rfl | simp)) hM.out 0 rfl).cast (by first | rfl | simp))
    clear EL
    clear t6 t6n a1 a2
    have HRO : Hid (ResM q (L.length + L.length) O) := Lib.hid (by rw [HOS.out]; exact invL_res hv.out.q2 hv.out.res)
    have HRO2 : Hid (redN q O L.length = (M, P)) := Lib.hid (by rw [HOS.out]; exact hR.out)
    have HO1 : Hid (1 ≤ O.length ∧ O.length ≤ 30) := Lib.hid (by rw [HOL2.out]; exact ⟨hv.out.m1, hv.out.m30⟩)
    have HMI : Hid (RedI q (L.length + L.length) L.length L.length (M, P)) := Lib.hid (by have h := redN_ok (q := q) (by have := hv.out.q2; omega) HRO.out L.length; rw [HRO2.out, HOL2.out] at h; exact h)
    have HML : Hid (M.length = L.length) := Lib.hid HMI.out.len
    obtain ⟨t, hpt⟩ : ∃ t, decide (P.length < L.length) = t := ⟨_, rfl⟩
    have HPT := Lib.hid hpt
    clear hpt
    cases t with
    | true =>
      have hpl : P.length < L.length := of_decide_eq_true HPT.out
      have t7 : decide ((P.length : Int) < (L.length : Int)) = true := decide_eq_true (by omega)
      have t7n : decide (P.length < L.length) = true := decide_eq_true (by omega)
      have HPL := Lib.hid hpl
      clear hpl
      go_wp2_with fail
      refine (rReduce_c q (L.length + L.length) L.length O M P (E1.out.fc 0 rfl) hv.out.q2 hv.out.qT HRO.out (Nat.le_add_left _ _) HO1.out.1 HO1.out.2 (by omega) HRO2.out).mono ?_
      rintro e w1 ⟨⟨ea, ek, pa, pk, rfl, mH, pH⟩, hb⟩
      have E2 : Hid (Env D w [] [.rw (.slice pa P.length pk) P.length 1 (ncl P), .mx (.slice ea M.length ek) (M.map nl), .mx (.slice ta O.length tk) (O.map nl), .gn (gRows hs O), .mx (.slice xa L.length xk) (L.map nl)] w1) := Lib.hid (E1.out.got (E1.out.got (E1.out.below hb) (.mx (.slice ea M.length ek) (M.map nl)) mH.out) (.rw (.slice pa P.length pk) P.length 1 (ncl P)) pH.out)
      clear E1 hb mH pH
      have hfin := Lib.hid E2.out.bel
      go_wp2
      refine bodyPost_ret (results_tmp2 rfl _ _ _) rfl ?_
      exact ⟨.inl ⟨HPL.out, rfl⟩, hfin.out⟩
    | false =>
      have hpl : ¬ P.length < L.length := of_decide_eq_false HPT.out
      have t7 : decide ((P.length : Int) < (L.length : Int)) = false := decide_eq_false (by omega)
      have t7n : decide (P.length < L.length) = false := decide_eq_false (by omega)
      have HPL := Lib.hid hpl
      clear hpl
      go_wp2_with fail
      refine (rReduce_c q (L.length + L.length) L.length O M P (E1.out.fc 0 rfl) hv.out.q2 hv.out.qT HRO.out (Nat.le_add_left _ _) HO1.out.1 HO1.out.2 (by omega) HRO2.out).mono ?_
      rintro e w1 ⟨⟨ea, ek, pa, pk, rfl, mH, pH⟩, hb⟩
      have E2 : Hid (Env D w [] [.rw (.slice pa P.length pk) P.length 1 (ncl P), .mx (.slice ea M.length ek) (M.map nl), .mx (.slice ta O.length tk) (O.map nl), .gn (gRows hs O), .mx (.slice xa L.length xk) (L.map nl)] w1) := Lib.hid (E1.out.got (E1.out.got (E1.out.below hb) (.mx (.slice ea M.length ek) (M.map nl)) mH.out) (.rw (.slice pa P.length pk) P.length 1 (ncl P)) pH.out)
      clear E1 hb mH pH
      go_wp2_with fail
      clear t7 t7n
      have E3 : Hid (Env D w [] [.mx (.slice ea M.length ek) (M.map nl)] _) := Lib.hid (by have hZ := E2.out; exact ⟨hZ.bel, hZ.box, ⟨hZ.fc 1 rfl, trivial⟩⟩)
      clear E2
      go_wp2_with fail
      go_loopg [13, 12] (L.length) (fun gk s13 s12 wr => ∃ (k : Nat) (tg : List Bx) (ts : List Value) (ta : Option Addr) (tk : Nat) (hs : List Value) (O : List (List Nat)), s13 = .int .i64 (k : Int) ∧ s12 = .slice ta O.length tk ∧ Hid (Env D w tg [.gn (gRows hs O), .mx (.slice ea M.length ek) (M.map nl)] wr) ∧ Hid (OM tg ts (.slice ta O.length tk) hs O.length) ∧ Hid ((k ≤ L.length ∧ gk = L.length - k) ∧ O = (M.map (List.drop L.length)).take k))
      case atStart => exact ⟨0, [], [], none, 0, [], [], rfl, rfl, Lib.hid ((E3.out.note (.gn (gRows [] [])) gRows.nil).cast (by simp)), Lib.hid OM.nil, Lib.hid ⟨⟨Nat.zero_le _, rfl⟩, rfl⟩⟩
      case round =>
        clear E3
        obtain ⟨k, tg, ts, ta, tk, hs, O, rfl, rfl, EL, hM, HA⟩ := hrel
        obtain ⟨⟨b1, b2⟩, b3⟩ := HA.out
        have HPO := Lib.hid b3
        clear b3 HA
        have HOK : Hid (O.length = k) := Lib.hid (by rw [HPO.out, List.length_take, List.length_map, HML.out]; omega)
        have hol : O.length ≤ 30 := by rw [HOK.out]; omega
        by_cases hy : k = L.length
        · skip
          have t8 : decide ((k : Int) < (L.length : Int)) = false := decide_eq_false (by omega)
          have t8n : decide (k < L.length) = false := decide_eq_false (by omega)
          have HD : Hid (O = (M.map (List.drop L.length))) := Lib.hid (by rw [HPO.out, hy]; exact List.take_of_length_le (by rw [List.length_map, HML.out]; exact Nat.le_refl _))
          clear hy
          have hbel := Lib.hid EL.out.bel
          go_wp2
          refine bodyPost_ret (results_tmp2 rfl _ _ _) rfl ?_
          have EF := Env.freezeOM (A := []) (sg := tg) (B := []) (EL.out.cast (by first | rfl | simp)) hM.out 0 rfl
          have h1 : Fct.at _ _ _ := EF.out 0 rfl
          rw [HD.out] at h1
          exact ⟨.inr ⟨HPL.out, ta, tk, by rw [← HD.out]; rfl, Lib.hid h1⟩, hbel.out⟩
        have hk : k < L.length := by omega
        have t8 : decide ((k : Int) < (L.length : Int)) = true := decide_eq_true (by omega)
        have t8n : decide (k < L.length) = true := decide_eq_true (by omega)
        have hkI : (k : Int) < (L.length : Int) := by omega
        clear hy
        go_upto_region 16 with (fail)
        have hkM : k < M.length := by rw [HML.out]; exact hk
        have hkMI : (k : Int) < (M.length : Int) := by omega
        have HMR : Hid (M[k].length = L.length + L.length) := Lib.hid (HMI.out.res _ (List.getElem_mem hkM)).1
        obtain ⟨eab, eao, rfl⟩ := Mx.addrN (EL.out.fc 1 rfl) hkM
        obtain ⟨ma, mk, E40⟩ := EL.out.elMN 1 rfl (k) hkM
        have E4 : Hid (Env D w tg [.ce eab (eao + k) (.slice ma M[k].length mk), .rw (.slice ma M[k].length mk) M[k].length 1 (ncl M[k]), .gn (gRows hs O), .mx (.slice (some ⟨eab, eao, none⟩) M.length ek) (M.map nl)] _) := Lib.hid E40
        clear E40 EL
        have m0 := (E4.out.fc 0 rfl).2
        have h0M : 0 < M[k].length := by rw [HMR.out]; omega
        obtain ⟨mab, mao, rfl⟩ := Rw.addr (E4.out.fc 1 rfl) (by omega)
        have E5 : Hid (Env D w tg [.ce mab (mao + 0) (.int .i64 (M[k][0] : Nat)), .ce eab (eao + k) (.slice (some ⟨mab, mao, none⟩) M[k].length mk), .rw (.slice (some ⟨mab, mao, none⟩) M[k].length mk) M[k].length 1 (ncl M[k]), .gn (gRows hs O), .mx (.slice (some ⟨eab, eao, none⟩) M.length ek) (M.map nl)] _) := Lib.hid (E4.out.elN 1 rfl rfl (0) h0M)
        clear E4
        have v0 := (E5.out.fc 0 rfl).2
        have HMK : Hid (M[k].length ≤ mk) := Lib.hid (by obtain ⟨_, _, e, h, _⟩ := E5.out.fc 2 rfl; cases e; exact h)
        have v1 : L.length ≤ M[k].length := by rw [HMR.out]; omega
        have v1I : (L.length : Int) ≤ (M[k].length : Int) := by omega
        have v2 : (mk = L.length) = False := eq_false (by have := HMK.out; have := HMR.out; omega)
        have v3 : L.length ≤ mk := by have := HMK.out; omega
        obtain ⟨kv, hkv⟩ : ∃ v, M[k].drop L.length = v := ⟨_, rfl⟩
        have HKV := Lib.hid hkv
        have HKL : Hid (kv.length = M[k].length - L.length) := Lib.hid (by rw [← hkv, List.length_drop])
        clear hkv
        have E6 : Hid (Env D w tg [.rw (.slice (some ⟨mab, mao + L.length, none⟩) kv.length (mk - L.length)) kv.length 1 (ncl kv), .ce mab (mao + 0) (.int .i64 (M[k][0] : Nat)), .ce eab (eao + k) (.slice (some ⟨mab, mao, none⟩) M[k].length mk), .rw (.slice (some ⟨mab, mao, none⟩) M[k].length mk) M[k].length 1 (ncl M[k]), .gn (gRows hs O), .mx (.slice (some ⟨eab, eao, none⟩) M.length ek) (M.map nl)] _) := Lib.hid (E5.out.note (.rw (.slice (some ⟨mab, mao + L.length, none⟩) kv.length (mk - L.length)) kv.length 1 (ncl kv)) (by rw [HKL.out, ← HKV.out]; exact Rw.dropN (E5.out.fc 2 rfl) rfl v1))
        clear m0 v0 E5
        have hcm : World.cell? _ _ = some (.slice (some ⟨mab, mao, none⟩) M[k].length mk) := (E6.out.fc 2 rfl).2
        have E7 : Hid (Env D w ((wr.heap.size, 22, [.slice (some ⟨mab, mao + L.length, none⟩) (M[k].length - L.length) (mk - L.length)]) :: tg) [.rw (.slice (some ⟨mab, mao + L.length, none⟩) kv.length (mk - L.length)) kv.length 1 (ncl kv), .ce mab (mao + 0) (.int .i64 (M[k][0] : Nat)), .ce eab (eao + k) (.slice (some ⟨mab, mao, none⟩) M[k].length mk), .rw (.slice (some ⟨mab, mao, none⟩) M[k].length mk) M[k].length 1 (ncl M[k]), .gn (gRows hs O), .mx (.slice (some ⟨eab, eao, none⟩) M.length ek) (M.map nl)] _) := Lib.hid ((E6.out.push 22 [.slice (some ⟨mab, mao + L.length, none⟩) (M[k].length - L.length) (mk - L.length)] (wr.heap.size) (by simp)))
        go_wp2_with (at_builtin; refine wpl_app1 (c := 1) tiR rfl _ _ rfl E7.out (A := [(wr.heap.size, 22, [.slice (some ⟨mab, mao + L.length, none⟩) (M[k].length - L.length) (mk - L.length)])]) (sg := tg) (B' := []) (by simp) hM.out.1 rfl rfl (SrcN.one (E7.out.bx 0 rfl) rfl) (by omega) ?_)
        intro yg yp yc w2 yH yT yE
        have yM := Lib.hid (OM.app (x := Value.slice (some ⟨mab, mao + L.length, none⟩) (M[k].length - L.length) (mk - L.length)) (g' := yg) hM.out (by simpa using yH.out) (by simpa using yT.out))
        have E8 : Hid (Env D w ((wr.heap.size, 22, [.slice (some ⟨mab, mao + L.length, none⟩) (M[k].length - L.length) (mk - L.length)]) :: [(yg, 22, yc)]) [.gn (gRows (hs ++ [Value.slice (some ⟨mab, mao + L.length, none⟩) (M[k].length - L.length) (mk - L.length)]) (O ++ [kv])), .rw (.slice (some ⟨mab, mao + L.length, none⟩) kv.length (mk - L.length)) kv.length 1 (ncl kv), .ce mab (mao + 0) (.int .i64 (M[k][0] : Nat)), .ce eab (eao + k) (.slice (some ⟨mab, mao, none⟩) M[k].length mk), .rw (.slice (some ⟨mab, mao, none⟩) M[k].length mk) M[k].length 1 (ncl M[k]), .gn (gRows hs O), .mx (.slice (some ⟨eab, eao, none⟩) M.length ek) (M.map nl)] w2) := Lib.hid ((yE.out.note (.gn (gRows (hs ++ [Value.slice (some ⟨mab, mao + L.length, none⟩) (M[k].length - L.length) (mk - L.length)]) (O ++ [kv]))) (by have h := gRows.app (yE.out.fc 4 rfl) (yE.out.fc 0 rfl); rw [HKL.out] at h; exact h)).cast (by first | rfl | simp))
        clear hcm E6 E7 yE yH yT
        have hZ := E8.out.drop
        have EZ : Hid (Env D w _ [.gn (gRows (hs ++ [Value.slice (some ⟨mab, mao + L.length, none⟩) (M[k].length - L.length) (mk - L.length)]) (O ++ [kv])), .mx (.slice (some ⟨eab, eao, none⟩) M.length ek) (M.map nl)] _) := Lib.hid ⟨hZ.bel, hZ.box, ⟨hZ.fc 0 rfl, ⟨hZ.fc 6 rfl, trivial⟩⟩⟩
        clear hZ
        go_wp2
        go_roundg (L.length - (k + 1))
        case rel => exact ⟨k + 1, [(yg, 22, yc)], yc, some ⟨yg, 0, none⟩, yp, _, O ++ [kv], rfl, by simp, Lib.hid (EZ.out.cast (by simp)), Lib.hid (by rw [List.length_append, List.length_singleton]; exact yM.out), Lib.hid ⟨⟨by omega, rfl⟩, by rw [HPO.out, List.take_add_one, List.getElem?_map, List.getElem?_eq_getElem hkM, ← HKV.out]; rfl⟩⟩
        case measure => exact by omega
end Go.Proofs.YtinlfogpbologaaDoor

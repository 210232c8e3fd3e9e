/- a copy of a list of uses. -/
import Derived.Test.YtfnnfmefihiefaaSpL
namespace Go.Proofs.Ytfnnfmefihiefaa
open Go.RowKit
set_option linter.unusedVariables false
set_option linter.unusedSimpArgs false
set_option maxRecDepth 100000 in
set_option maxHeartbeats 2000000 in
theorem copyAll_c {D : Nat → Prop} (L : List Uv) {xa : Option Addr} {xk : Nat} {w : World} (hx : Fct.at w D (.gn (gUl (.slice xa L.length xk) L))) (hb0 : L.length ≤ 1000000 ∧ ∀ x ∈ L, x.u.sp.lv.length ≤ 1000000 ∧ x.u.sp.pa.length ≤ 1000000) :
    Calls Try.prog 38 #[.slice xa L.length xk] w fun e w' => RetOU D w.heap.size (L.map Uv.u) e w' ∧ Below w.heap.size w w' := by
  have E0 : Hid (Env D w [] [.gn (gUl (.slice xa L.length xk) L)] w) := Lib.hid ((Env.start D w).arg (.gn (gUl (.slice xa L.length xk) L)) hx)
  clear hx
  go_enter Try.func38, Try.ntmps38
  have hb := Lib.hid hb0
  clear hb0
  have hm9 := hb.out.1
  go_wp2_with (first | (at_make; refine wpl_makeU rfl _ _ rfl E0.out (L.length) rfl rfl (hm9) ?_))
  intro w1 mg mc mO mE
  have E1 : Hid (Env D w ([(mg, 44, mc)]) [.gn (gUd []), .gn (gUl (.slice xa L.length xk) L)] w1) := Lib.hid ((mE.out.cast (by simp)).note (.gn (gUd [])) gUd.nil)
  clear E0 mE
  go_wp2_with fail
  go_loopg [11, 3] (L.length) (fun gk s11 s3 wr => ∃ (k : Nat) (os : List Bx) (oc : List Value) (oa : Option Addr) (ok : Nat) (oX : List Uv), s11 = .int .i64 (k : Int) ∧ s3 = .slice oa oX.length ok ∧ Hid (Env D w (os) [.gn (gUd oX), .gn (gUl (.slice xa L.length xk) L)] wr) ∧ Hid (OU os oc (.slice oa oX.length ok) oX) ∧ Hid ((k ≤ L.length ∧ gk = L.length - k) ∧ oX.map Uv.u = (L.map Uv.u).take k))
  case atStart => exact ⟨0, [(mg, 44, mc)], mc, (some ⟨mg, 0, none⟩), (L.length), [], rfl, rfl, Lib.hid (Env.cast (E1.out) (by simp)), mO, Lib.hid ⟨⟨Nat.zero_le _, rfl⟩, rfl⟩⟩
  case round =>
    clear E1 mO
    obtain ⟨k, os, oc, oa, ok, oX, rfl, rfl, EL, oO, HA⟩ := hrel
    obtain ⟨⟨a1, a2⟩, a3⟩ := HA.out
    have HS := Lib.hid a3
    clear a3 HA
    by_cases hy : k = L.length
    · skip
      have t6 : decide ((k : Int) < (L.length : Int)) = false := decide_eq_false (by omega)
      have t7 : decide (k < L.length) = false := decide_eq_false (by omega)
      have HX : Hid (oX.map Uv.u = L.map Uv.u) := Lib.hid (by rw [HS.out, hy, ← List.length_map (f := Uv.u), List.take_length])
      have HY := Lib.hid hy
      clear hy
      go_wp2
      go_ret
      exact ⟨⟨os, oc, oa, ok, oX, rfl, HX.out, oO, Lib.hid (Env.heldS (A := []) (S := os) EL.out), Lib.hid (Env.outS (A := []) (S := os) EL.out 0 (f := .gn (gUd oX)) rfl)⟩, EL.out.bel⟩
    have hk : k < L.length := lt_of hy a1
    have t6 : decide ((k : Int) < (L.length : Int)) = true := decide_eq_true (by omega)
    have t7 : decide (k < L.length) = true := decide_eq_true (by omega)
    have hkI : (k : Int) < (L.length : Int) := by omega
    clear hy
    have hol : oX.length = k := by have h := congrArg List.length HS.out; simpa [Nat.min_eq_left a1] using h
    have HOL : Hid (oX.length + 1 ≤ 1000000) := Lib.hid (by omega)
    have HOK := Lib.hid hol
    clear hol
    go_upto_region 4 with (fail)
    obtain ⟨xab, xao, rfl⟩ := gUl.addr (EL.out.fc 1 rfl) (List.ne_nil_of_length_pos (Nat.lt_of_le_of_lt (Nat.zero_le _) hk))
    obtain ⟨x, xe⟩ : ∃ x, L[k] = x := ⟨_, rfl⟩
    have xE := Lib.hid xe
    clear xe
    have E2 : Hid (Env D w (os) [.gn (gRg xab (xao + k * 83) (usc x.u x.la x.pa)), .gn (gSp x.u.sp x.la x.pa), .gn (gUd oX), .gn (gUl (.slice (some ⟨xab, xao, none⟩) L.length xk) L)] _) := Lib.hid (EL.out.elU 1 rfl hk xE.out)
    clear EL
    have xS := Lib.hid (E2.out.spOk 1 rfl)
    have xN : Hid (∀ v ∈ usc x.u x.la x.pa, v.oneCell' = true) := Lib.hid (usc_one xS.out (Rw.oneV (E2.out.fc 1 rfl).2.1) (Rw.oneV (E2.out.fc 1 rfl).2.2))
    have HBX : Hid (x.u.sp.lv.length ≤ 1000000 ∧ x.u.sp.pa.length ≤ 1000000) := Lib.hid (hb.out.2 x (by rw [← xE.out]; exact List.getElem_mem hk))
    have r1 := Lib.hid (E2.out.fc 0 rfl).2
    have E3 : Hid (Env D w ((wr.heap.size, 44, usc zU nilV nilV) :: os) [.gn (gRg xab (xao + k * 83) (usc x.u x.la x.pa)), .gn (gSp x.u.sp x.la x.pa), .gn (gUd oX), .gn (gUl (.slice (some ⟨xab, xao, none⟩) L.length xk) L)] _) := Lib.hid ((E2.out.push 44 (usc zU nilV nilV) (wr.heap.size) (by simp)))
    have b2 := Lib.hid (E3.out.bx 0 rfl)
    have E4 : Hid (Env D w ((wr.heap.size, 44, usc x.u x.la x.pa) :: os) [.gn (gRg xab (xao + k * 83) (usc x.u x.la x.pa)), .gn (gSp x.u.sp x.la x.pa), .gn (gUd oX), .gn (gUl (.slice (some ⟨xab, xao, none⟩) L.length xk) L)] _) := Lib.hid ((E3.out.whole 0 (usc x.u x.la x.pa) rfl ((usc_len xS.out _ _).trans (usc_len zS_ok _ _).symm)))
    have b3 := E4.out.bx 0 rfl
    have r3 := Lib.hid (b3.range (o := 0) (fun j hj => by rw [Nat.zero_add]))
    clear b3
    go_wp2_with (first | (with_reducible refine wpl_load_b bUse xab (xao + k * 83) ?_ ?_ (usc x.u x.la x.pa) (usc_len xS.out _ _) r1.out ?_; (· exact ⟨_, rfl, rfl⟩); (· kernel_rfl)) | (with_reducible refine wpl_alloc_b ?_ ?_ _ zvUse ?_; (· rfl); (· rfl)) | (with_reducible refine wpl_store_b bUse wr.heap.size 0 (usc x.u x.la x.pa) ?_ ?_ (usc_len xS.out _ _) (Box.there b2.out (Nat.le_of_eq (usc_len zS_ok _ _).symm)) xN.out ?_; (· exact ⟨_, _, rfl, rfl, rfl⟩); (· kernel_rfl)) | (with_reducible refine wpl_load_b bUse wr.heap.size 0 ?_ ?_ (usc x.u x.la x.pa) (usc_len xS.out _ _) r3.out ?_; (· exact ⟨_, rfl, rfl⟩); (· kernel_rfl)))
    refine (copyOf_c x.u (E4.out.fc 1 rfl) HBX.out).mono ?_
    rintro e w2 ⟨⟨ya, yb, rfl, yh⟩, hb⟩
    have E5 : Hid (Env D w ((wr.heap.size, 44, usc x.u x.la x.pa) :: os) [.gn (gSp x.u.sp ya yb), .gn (gRg xab (xao + k * 83) (usc x.u x.la x.pa)), .gn (gSp x.u.sp x.la x.pa), .gn (gUd oX), .gn (gUl (.slice (some ⟨xab, xao, none⟩) L.length xk) L)] w2) := Lib.hid (E4.out.got (E4.out.below hb) (.gn (gSp x.u.sp ya yb)) yh.out)
    clear r1 b2 r3 E2 E3 E4 hb yh
    have yN : Hid (∀ v ∈ usc x.u ya yb, v.oneCell' = true) := Lib.hid (gUv.one (x := ⟨x.u, ya, yb⟩) (E5.out.fc 0 rfl))
    have E6 : Hid (Env D w ((w2.heap.size, 44, usc x.u ya yb) :: (wr.heap.size, 44, usc x.u x.la x.pa) :: os) [.gn (gSp x.u.sp ya yb), .gn (gRg xab (xao + k * 83) (usc x.u x.la x.pa)), .gn (gSp x.u.sp x.la x.pa), .gn (gUd oX), .gn (gUl (.slice (some ⟨xab, xao, none⟩) L.length xk) L)] _) := Lib.hid ((E5.out.push 44 (usc x.u ya yb) (w2.heap.size) (by simp)))
    go_wp2_with (first | (with_reducible refine wpl_alloc_b ?_ ?_ _ zvUse ?_; (· rfl); (· rfl)) | (with_reducible refine wpl_slice1 ?_ (usc x.u ya yb) (usc_len xS.out _ _) ?_ ?_; (· rfl); (· exact ⟨_, rfl, rfl⟩)) | (at_builtin; refine wpl_app1 (c := 1) tiUse rfl _ _ rfl E6.out (A := [(w2.heap.size, 44, usc x.u ya yb), (wr.heap.size, 44, usc x.u x.la x.pa)]) (sg := os) (B' := []) (F := ((w2.heap.size, 44, usc x.u ya yb) :: (wr.heap.size, 44, usc x.u x.la x.pa) :: os)) (by simp) (oO.out.os rfl) rfl rfl (SrcN.box (m := 1) (E6.out.bx 0 rfl) (usc_len xS.out _ _) yN.out) HOL.out ?_))
    intro zg zp zc w3 zH zT zE
    have zO := Lib.hid (OU.app (x := Uv.mk x.u ya yb) (g' := zg) (cs' := zc) (cap' := zp) oO.out rfl zH.out zT.out)
    have E7 : Hid (Env D w ((w2.heap.size, 44, usc x.u ya yb) :: (wr.heap.size, 44, usc x.u x.la x.pa) :: [(zg, 44, zc)]) [.gn (gUd (oX ++ [Uv.mk x.u ya yb])), .gn (gSp x.u.sp ya yb), .gn (gRg xab (xao + k * 83) (usc x.u x.la x.pa)), .gn (gSp x.u.sp x.la x.pa), .gn (gUd oX), .gn (gUl (.slice (some ⟨xab, xao, none⟩) L.length xk) L)] w3) := Lib.hid ((zE.out.note (.gn (gUd (oX ++ [Uv.mk x.u ya yb]))) (gUd.app (x := Uv.mk x.u ya yb) (zE.out.fc 3 rfl) (zE.out.fc 0 rfl))).cast (by simp))
    clear E5 E6 zE zH zT oO
    have HS2 : Hid ((oX ++ [(⟨x.u, ya, yb⟩ : Uv)]).map Uv.u = (L.map Uv.u).take (k + 1)) := Lib.hid (by rw [List.map_append, HS.out, List.take_add_one, List.getElem?_map, List.getElem?_eq_getElem hk, xE.out]; rfl)
    have hZ := ((E7.out.drop).drop)
    have EZ : Hid (Env D w ([(zg, 44, zc)]) [.gn (gUd (oX ++ [Uv.mk x.u ya yb])), .gn (gUl (.slice (some ⟨xab, xao, none⟩) L.length xk) L)] _) := Lib.hid ⟨hZ.bel, hZ.box, ⟨hZ.fc 0 rfl, ⟨hZ.fc 5 rfl, trivial⟩⟩⟩
    clear hZ
    go_wp2_with (first | (with_reducible refine wpl_alloc_b ?_ ?_ _ zvUse ?_; (· rfl); (· rfl)) | (with_reducible refine wpl_slice1 ?_ (usc x.u ya yb) (usc_len xS.out _ _) ?_ ?_; (· rfl); (· exact ⟨_, rfl, rfl⟩)))
    go_roundg (L.length - (k + 1))
    case rel => exact ⟨k + 1, [(zg, 44, zc)], zc, (some ⟨zg, 0, none⟩), zp, oX ++ [Uv.mk x.u ya yb], rfl, (OU.val rfl), EZ, OU.len' zO , Lib.hid ⟨⟨by omega, rfl⟩, HS2.out⟩⟩
    case measure => exact by omega
end Go.Proofs.Ytfnnfmefihiefaa

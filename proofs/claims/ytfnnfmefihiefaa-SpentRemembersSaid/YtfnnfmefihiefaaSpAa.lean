/- great tables, whatever their size. -/
import Derived.Test.YtfnnfmefihiefaaSpZ
namespace Go.Proofs.Ytfnnfmefihiefaa
open Go.RowKit
set_option linter.unusedVariables false
set_option linter.unusedSimpArgs false
theorem putN_conf {s : Sp} {L : List Us} {u : Us} : ∀ k, u ∈ (putN s L k).2 → u ∈ (putN s L k).1
  | 0, h => by cases h
  | k + 1, h => by
    cases e : findK (putN s L k).1 (cInt s.cn 4) (leafB s k) with
    | some v =>
      rw [putN_some e] at h ⊢
      rcases List.mem_append.1 h with h | h
      · exact putN_conf k h
      · obtain rfl : u = v := by simpa using h
        exact List.mem_of_find?_eq_some e
    | none =>
      rw [putN_none e] at h ⊢
      exact mem_insU_iff.2 (.inr (putN_conf k h))
theorem putRes_bd {P : Us → Prop} {L0 L C : List Us} {s : Sp} {n : Int} (h0 : ∀ u ∈ L0, P u) (hs : ∀ j, P (useOf s j)) (e : putRes L0 s = (L, C, n)) : (∀ u ∈ L, P u) ∧ (∀ u ∈ C, P u) ∧ L.length ≤ L0.length + s.lv.length ∧ C.length ≤ s.lv.length := by
  have hN : ∀ u ∈ (putN s L0 s.lv.length).1, P u := fun u hu => by
    rcases putN_mem _ hu with h | ⟨j, _, rfl⟩
    · exact h0 u h
    · exact hs j
  have hl := putN_len (s := s) (L := L0) s.lv.length
  unfold putRes at e
  split at e
  · cases e; exact ⟨fun u hu => (by cases hu), fun u hu => (by cases hu), Nat.zero_le _, Nat.zero_le _⟩
  · split at e
    · cases e; exact ⟨fun u hu => (by cases hu), fun u hu => (by cases hu), Nat.zero_le _, Nat.zero_le _⟩
    · split at e
      · cases e; exact ⟨fun u hu => (by cases hu), fun u hu => (by cases hu), Nat.zero_le _, Nat.zero_le _⟩
      · cases e; exact ⟨hN, fun u hu => hN u (putN_conf _ hu), hl.2.1, hl.2.2⟩
def Bd (u : Us) : Prop := u.sp.lv.length ≤ 1000000 ∧ u.sp.pa.length ≤ 1000000
theorem Bd.of {X : List Uv} {L : List Us} (h : ∀ u ∈ L, Bd u) (e : X.map Uv.u = L) : ∀ x ∈ X, x.u.sp.lv.length ≤ 1000000 ∧ x.u.sp.pa.length ≤ 1000000 := fun x hx => h x.u (by rw [← e]; exact List.mem_map.2 ⟨x, hx, rfl⟩)
theorem exec_use0 {oi : Oper} {ev : Operand → Value} {w : World} (ho : oi.op = .build 44 #[]) : (execOp ev oi).run Try.prog w = .ok (.value (.agg (usc zU nilV nilV).toArray)) w := exec_build_b _ ho [] (by simp) _ use_built0
theorem map_len {X : List Uv} {L : List Us} (e : X.map Uv.u = L) : X.length = L.length := by rw [← e, List.length_map]
theorem longS_no {s : Sp} (h : longS s = false) : s.lv.length ≤ 40 ∧ s.pa.length ≤ 30 := by
  unfold longS at h
  rw [Bool.or_eq_false_iff] at h
  have h1 := of_decide_eq_false h.1
  have h2 := of_decide_eq_false h.2
  omega
theorem great_no {L : List Us} (h : (decide (40 < L.length) || L.any (fun x => longS x.sp)) = false) : L.length ≤ 40 ∧ ∀ u ∈ L, u.sp.lv.length ≤ 40 ∧ u.sp.pa.length ≤ 30 := by
  rw [Bool.or_eq_false_iff] at h
  have h1 := of_decide_eq_false h.1
  refine ⟨by omega, fun u hu => longS_no ?_⟩
  have h2 := List.any_eq_false.1 h.2 u hu
  simpa using h2
set_option maxRecDepth 100000 in
set_option maxHeartbeats 1000000 in
theorem longw_c {D : Nat → Prop} (s : Sp) {la pa : Value} {w : World} (hs : Fct.at w D (.gn (gSp s la pa))) {t : Bool} (ht0 : longS s = t) :
    Calls Try.prog 13 #[.agg (spc s la pa).toArray] w fun e w' => e = .returned (.bool t) ∧ Below w.heap.size w w' := by
  have E0 : Hid (Env D w [] [.gn (gSp s la pa)] w) := Lib.hid ((Env.start D w).arg (.gn (gSp s la pa)) hs)
  clear hs
  go_enter Try.func13, Try.ntmps13
  have ht := Lib.hid ht0
  clear ht0
  have HS := Lib.hid (E0.out.spOk 0 rfl)
  obtain ⟨xa, xk, xc, xj, rfl, rfl, E10⟩ := E0.out.elS 0 rfl
  have E1 : Hid (Env D w [] [.rw (.slice xa s.lv.length xk) s.lv.length 3 (lcl s.lv), .rw (.slice xc s.pa.length xj) s.pa.length 32 s.pa.flatten, .gn (gSp s (.slice xa s.lv.length xk) (.slice xc s.pa.length xj))] _) := Lib.hid E10
  clear E10 E0
  by_cases q : 40 < s.lv.length
  · have d1 : decide ((40 : Int) < (s.lv.length : Int)) = true := decide_eq_true (by omega)
    have d1b : decide (40 < s.lv.length) = true := decide_eq_true q
    have HT : Hid (t = true) := Lib.hid (by rw [← ht.out]; unfold longS; rw [decide_eq_true q]; rfl)
    have E2 : Hid (Env D w [(w.heap.size, 41, spc s (.slice xa s.lv.length xk) (.slice xc s.pa.length xj))] [.rw (.slice xa s.lv.length xk) s.lv.length 3 (lcl s.lv), .rw (.slice xc s.pa.length xj) s.pa.length 32 s.pa.flatten, .gn (gSp s (.slice xa s.lv.length xk) (.slice xc s.pa.length xj))] _) := Lib.hid ((E1.out.push 41 (spc s (.slice xa s.lv.length xk) (.slice xc s.pa.length xj)) (w.heap.size) (by simp)))
    have b1 := E2.out.bx 0 rfl
    have c1 := b1.cell 77 (spc_tail HS.out _ _).1
    clear b1
    have hfin := Lib.hid E2.out.bel
    go_wp2
    go_ret
    exact ⟨RetEqB HT.out.symm, hfin.out⟩
  have d1 : decide ((40 : Int) < (s.lv.length : Int)) = false := decide_eq_false (by omega)
  have d1b : decide (40 < s.lv.length) = false := decide_eq_false q
  obtain ⟨b, hb⟩ : ∃ b, decide (30 < s.pa.length) = b := ⟨_, rfl⟩
  have d2 : decide ((30 : Int) < (s.pa.length : Int)) = b := by rw [← hb]; exact decide_eq_decide.2 (by omega)
  have HT : Hid (t = b) := Lib.hid (by rw [← ht.out, ← hb]; unfold longS; rw [d1b]; rfl)
  have E2 : Hid (Env D w [(w.heap.size, 41, spc s (.slice xa s.lv.length xk) (.slice xc s.pa.length xj))] [.rw (.slice xa s.lv.length xk) s.lv.length 3 (lcl s.lv), .rw (.slice xc s.pa.length xj) s.pa.length 32 s.pa.flatten, .gn (gSp s (.slice xa s.lv.length xk) (.slice xc s.pa.length xj))] _) := Lib.hid ((E1.out.push 41 (spc s (.slice xa s.lv.length xk) (.slice xc s.pa.length xj)) (w.heap.size) (by simp)))
  have b1 := E2.out.bx 0 rfl
  have c1 := b1.cell 77 (spc_tail HS.out _ _).1
  clear b1
  have b2 := E2.out.bx 0 rfl
  have c2 := b2.cell 79 (spc_tail HS.out _ _).2.2
  clear b2
  have hfin := Lib.hid E2.out.bel
  go_wp2
  go_ret
  exact ⟨RetEqB HT.out.symm, hfin.out⟩
set_option maxRecDepth 100000 in
set_option maxHeartbeats 1000000 in
theorem grw1_c {D : Nat → Prop} (u : Us) {la pa : Value} {w : World} (hu : Fct.at w D (.gn (gSp u.sp la pa))) {t : Bool} (ht0 : longS u.sp = t) :
    Calls Try.prog 42 #[.agg (usc u la pa).toArray] w fun e w' => e = .returned (.bool t) ∧ Below w.heap.size w w' := by
  have E0 : Hid (Env D w [] [.gn (gSp u.sp la pa)] w) := Lib.hid ((Env.start D w).arg (.gn (gSp u.sp la pa)) hu)
  clear hu
  go_enter Try.func42, Try.ntmps42
  have ht := Lib.hid ht0
  clear ht0
  have HU := Lib.hid (E0.out.spOk 0 rfl)
  have E1 : Hid (Env D w [(w.heap.size, 44, usc u la pa)] [.gn (gSp u.sp la pa)] _) := Lib.hid ((E0.out.push 44 (usc u la pa) (w.heap.size) (by simp)))
  have b1 := E1.out.bx 0 rfl
  have r1 := Lib.hid (b1.range (o := 2) (usc_sp HU.out _ _))
  clear b1
  go_wp2_with (first | (with_reducible refine wpl_load_b bSpend w.heap.size 2 ?_ ?_ (spc u.sp la pa) (spc_len HU.out _ _) r1.out ?_; (· exact ⟨_, rfl, rfl⟩); (· kernel_rfl)))
  refine (longw_c u.sp (E1.out.fc 0 rfl) ht.out).mono ?_
  rintro e w1 ⟨rfl, hb⟩
  have E2 : Hid (Env D w [(w.heap.size, 44, usc u la pa)] [.gn (gSp u.sp la pa)] w1) := Lib.hid (E1.out.below hb)
  clear r1 E0 E1 hb
  have hfin := Lib.hid E2.out.bel
  go_wp2
  go_ret
  exact ⟨rfl, hfin.out⟩
set_option maxRecDepth 100000 in
set_option maxHeartbeats 2000000 in
theorem grwI {D : Nat → Prop} (X : List Uv)  {xa : Option Addr} {xk : Nat} {w : World} (hx : Fct.at w D (.gn (gUl (.slice xa X.length xk) X)))   {r : Int} (hr0 : (r = -1 ∧ ∀ k (h : k < (X.map Uv.u).length), longS ((X.map Uv.u)[k]).sp = false) ∨ ∃ k : Nat, r = (k : Int) ∧ ∃ h : k < (X.map Uv.u).length, longS ((X.map Uv.u)[k]).sp = true ∧ ∀ j (h : j < (X.map Uv.u).length), j < k → longS ((X.map Uv.u)[j]).sp = false) (hm0 : X.length ≤ 1000000) :
    Calls Try.prog 53 #[.slice xa X.length xk, .func (.func 42) #[] #[]] w fun e w' => e = .returned (.int .i64 r) ∧ Below w.heap.size w w' := by
  have E0 : Hid (Env D w [] [.gn (gUl (.slice xa X.length xk) X)] w) := Lib.hid ((Env.start D w).arg (.gn (gUl (.slice xa X.length xk) X)) hx)
  clear hx
  go_enter Try.func53, Try.ntmps53
  have hr := Lib.hid hr0
  have hm := Lib.hid hm0
  clear hr0 hm0
  have HL : Hid ((X.map Uv.u).length = X.length) := Lib.hid (List.length_map ..)
  have hm9 := hm.out
  go_wp2_with fail
  go_loopg [8] (X.length) (fun gk s8 wr => ∃ (k : Nat), s8 = .int .i64 (k : Int) ∧ Hid (Env D w [] [.gn (gUl (.slice xa X.length xk) X)] wr) ∧ Hid ((k ≤ X.length ∧ gk = X.length - k) ∧ ∀ j (h : j < (X.map Uv.u).length), j < k → longS ((X.map Uv.u)[j]).sp = false))
  case atStart => exact ⟨0, rfl, Lib.hid E0.out, Lib.hid ⟨⟨Nat.zero_le _, rfl⟩, fun j _ h => absurd h (Nat.not_lt_zero _)⟩⟩
  case round =>
    clear E0
    obtain ⟨k, rfl, EL, HA⟩ := hrel
    obtain ⟨⟨a1, a2⟩, a3⟩ := HA.out
    have HS := Lib.hid a3
    clear a3 HA
    by_cases hy : k = X.length
    rotate_left
    · have hk : k < X.length := by omega
      have t6 : decide ((k : Int) < (X.length : Int)) = true := decide_eq_true (by omega)
      have t7 : decide (k < X.length) = true := decide_eq_true hk
      have hkI : (k : Int) < (X.length : Int) := by omega
      clear hy
      go_upto_region 4 with (fail)
      obtain ⟨xab, xao, rfl⟩ := gUl.addr (EL.out.fc 0 rfl) (List.ne_nil_of_length_pos (Nat.lt_of_le_of_lt (Nat.zero_le _) hk))
      obtain ⟨⟨xu, xp, xq⟩, xe⟩ : ∃ x, X[k] = x := ⟨_, rfl⟩
      have xE := Lib.hid xe
      clear xe
      have E1 : Hid (Env D w [] [.gn (gRg xab (xao + k * 83) (usc xu xp xq)), .gn (gSp xu.sp xp xq), .gn (gUl (.slice (some ⟨xab, xao, none⟩) X.length xk) X)] _) := Lib.hid (EL.out.elU 0 rfl hk xE.out)
      clear EL
      have xS := Lib.hid (E1.out.spOk 1 rfl)
      have xN : Hid (∀ v ∈ usc xu xp xq, v.oneCell' = true) := Lib.hid (usc_one xS.out (Rw.oneV (E1.out.fc 1 rfl).2.1) (Rw.oneV (E1.out.fc 1 rfl).2.2))
      have HKL : Hid (∃ h : k < (X.map Uv.u).length, (X.map Uv.u)[k] = xu) := Lib.hid ⟨by rw [HL.out]; exact hk, by rw [List.getElem_map, xE.out]⟩
      obtain ⟨t, ht⟩ : ∃ t, longS (xu).sp = t := ⟨_, rfl⟩
      have HB := Lib.hid ht
      clear ht
      cases t with
      | true =>
        have HR : Hid (r = (k : Int)) := Lib.hid (by obtain ⟨hkl, ek⟩ := HKL.out; have hb2 := HB.out; rw [← ek] at hb2; rcases hr.out with ⟨_, h9⟩ | ⟨j, rfl, hj, h8, h7⟩; (· have := h9 k hkl; rw [hb2] at this; cases this); rcases Nat.lt_trichotomy j k with e | e | e; (· have := HS.out j hj e; rw [h8] at this; cases this); (· rw [e]); (· have := h7 k hkl e; rw [hb2] at this; cases this))
        have r1 := Lib.hid (E1.out.fc 0 rfl).2
        go_wp2_with (first | (with_reducible refine wpl_load_b bUse xab (xao + k * 83) ?_ ?_ (usc xu xp xq) (usc_len xS.out _ _) r1.out ?_; (· exact ⟨_, rfl, rfl⟩); (· kernel_rfl)))
        refine (grw1_c xu (E1.out.fc 1 rfl) (t := true) HB.out).mono ?_
        rintro e w1 ⟨rfl, hb⟩
        have E2 : Hid (Env D w [] [.gn (gRg xab (xao + k * 83) (usc xu xp xq)), .gn (gSp xu.sp xp xq), .gn (gUl (.slice (some ⟨xab, xao, none⟩) X.length xk) X)] w1) := Lib.hid (E1.out.below hb)
        clear r1 E1 hb
        have hfin := Lib.hid E2.out.bel
        go_wp2
        go_ret
        exact ⟨RetEq HR.out.symm, hfin.out⟩
      | false =>
        have r1 := Lib.hid (E1.out.fc 0 rfl).2
        go_wp2_with (first | (with_reducible refine wpl_load_b bUse xab (xao + k * 83) ?_ ?_ (usc xu xp xq) (usc_len xS.out _ _) r1.out ?_; (· exact ⟨_, rfl, rfl⟩); (· kernel_rfl)))
        refine (grw1_c xu (E1.out.fc 1 rfl) (t := false) HB.out).mono ?_
        rintro e w1 ⟨rfl, hb⟩
        have E2 : Hid (Env D w [] [.gn (gRg xab (xao + k * 83) (usc xu xp xq)), .gn (gSp xu.sp xp xq), .gn (gUl (.slice (some ⟨xab, xao, none⟩) X.length xk) X)] w1) := Lib.hid (E1.out.below hb)
        clear r1 E1 hb
        have EZ := Lib.hid ((E2.out.forget).forget)
        go_wp2
        go_roundg (X.length - (k + 1))
        case rel => exact ⟨k + 1, rfl, EZ, Lib.hid ⟨⟨by omega, rfl⟩, fun j h hj => by by_cases e : j = k; (· subst e; obtain ⟨hkl, ek⟩ := HKL.out; rw [ek]; exact HB.out); exact HS.out j h (by omega)⟩⟩
        case measure => exact by omega
    have t6 : decide ((k : Int) < (X.length : Int)) = false := decide_eq_false (by omega)
    have t7 : decide (k < X.length) = false := decide_eq_false (by omega)
    have HR : Hid (r = -1) := Lib.hid (by rcases hr.out with ⟨h9, _⟩ | ⟨j, rfl, hj, h8, h7⟩; (· exact h9); have := HS.out j hj (by rw [HL.out] at hj; omega); rw [h8] at this; cases this)
    have HY := Lib.hid hy
    clear hy
    have hfin := Lib.hid EL.out.bel
    go_wp2
    go_ret
    exact ⟨RetEq HR.out.symm, hfin.out⟩
set_option maxRecDepth 100000 in
set_option maxHeartbeats 2000000 in
theorem grwC {D : Nat → Prop} (X : List Uv)  {xa : Option Addr} {xk : Nat} {w : World} (hx : Fct.at w D (.gn (gUl (.slice xa X.length xk) X)))   {t : Bool} (ht0 : (X.map Uv.u).any (fun x => longS (x).sp) = t) (hm : X.length ≤ 1000000) :
    Calls Try.prog 35 #[.slice xa X.length xk, .func (.func 42) #[] #[]] w fun e w' => e = .returned (.bool t) ∧ Below w.heap.size w w' := by
  have E0 : Hid (Env D w [] [.gn (gUl (.slice xa X.length xk) X)] w) := Lib.hid ((Env.start D w).arg (.gn (gUl (.slice xa X.length xk) X)) hx)
  clear hx
  go_enter Try.func35, Try.ntmps35
  have ht := Lib.hid ht0
  clear ht0
  obtain ⟨r, hr⟩ : ∃ r : Int, ((r = -1 ∧ ∀ k (h : k < (X.map Uv.u).length), longS ((X.map Uv.u)[k]).sp = false) ∨ ∃ k : Nat, r = (k : Int) ∧ ∃ h : k < (X.map Uv.u).length, longS ((X.map Uv.u)[k]).sp = true ∧ ∀ j (h : j < (X.map Uv.u).length), j < k → longS ((X.map Uv.u)[j]).sp = false) := first_any (X.map Uv.u) (fun x => longS (x).sp)
  have hd : Hid (decide (0 ≤ r) = t) := Lib.hid (by rw [← ht.out]; exact first_dec hr)
  have HR := Lib.hid hr
  clear hr ht
  go_wp2_with fail
  refine (grwI X  (E0.out.fc 0 rfl)  (hr0 := HR.out) (hm0 := hm)).mono ?_
  rintro e w1 ⟨rfl, hb⟩
  have E1 : Hid (Env D w [] [.gn (gUl (.slice xa X.length xk) X)] w1) := Lib.hid (E0.out.below hb)
  clear E0 hb
  have HD := hd.out
  have hfin := Lib.hid E1.out.bel
  go_wp2
  go_ret
  exact ⟨rfl, hfin.out⟩
set_option maxRecDepth 100000 in
set_option maxHeartbeats 2000000 in
theorem greatw_c {D : Nat → Prop} (X : List Uv) {xa : Option Addr} {xk : Nat} {w : World} (hx : Fct.at w D (.gn (gUl (.slice xa X.length xk) X))) {t : Bool} (ht0 : (decide (40 < (X.map Uv.u).length) || (X.map Uv.u).any (fun x => longS x.sp)) = t) :
    Calls Try.prog 12 #[.agg #[.slice xa X.length xk]] w fun e w' => e = .returned (.bool t) ∧ Below w.heap.size w w' := by
  have E0 : Hid (Env D w [] [.gn (gUl (.slice xa X.length xk) X)] w) := Lib.hid ((Env.start D w).arg (.gn (gUl (.slice xa X.length xk) X)) hx)
  clear hx
  go_enter Try.func12, Try.ntmps12
  have ht := Lib.hid ht0
  clear ht0
  by_cases q : 40 < X.length
  · have d1 : decide ((40 : Int) < (X.length : Int)) = true := decide_eq_true (by omega)
    have d1b : decide (40 < X.length) = true := decide_eq_true q
    have HT : Hid (t = true) := Lib.hid (by rw [← ht.out, List.length_map, d1b]; rfl)
    have E1 : Hid (Env D w [(w.heap.size, 25, [.slice xa X.length xk])] [.gn (gUl (.slice xa X.length xk) X)] _) := Lib.hid ((E0.out.push 25 [.slice xa X.length xk] (w.heap.size) (by simp)))
    have hfin := Lib.hid E1.out.bel
    go_wp2
    go_ret
    exact ⟨RetEqB HT.out.symm, hfin.out⟩
  have d1 : decide ((40 : Int) < (X.length : Int)) = false := decide_eq_false (by omega)
  have d1b : decide (40 < X.length) = false := decide_eq_false q
  have hm : X.length ≤ 1000000 := by omega
  have HT : Hid ((X.map Uv.u).any (fun x => longS x.sp) = t) := Lib.hid (by rw [← ht.out, List.length_map, d1b]; rfl)
  go_wp2_with fail
  have E1 : Hid (Env D w [(w.heap.size, 25, [.slice xa X.length xk])] [.gn (gUl (.slice xa X.length xk) X)] _) := Lib.hid ((E0.out.push 25 [.slice xa X.length xk] (w.heap.size) (by simp)))
  refine (grwC X (E1.out.fc 0 rfl) HT.out hm).mono ?_
  rintro e w1 ⟨rfl, hb⟩
  have E2 : Hid (Env D w [(w.heap.size, 25, [.slice xa X.length xk])] [.gn (gUl (.slice xa X.length xk) X)] w1) := Lib.hid (E1.out.below hb)
  clear E0 E1 hb
  have hfin := Lib.hid E2.out.bel
  go_wp2
  go_ret
  exact ⟨rfl, hfin.out⟩
end Go.Proofs.Ytfnnfmefihiefaa

/- voucher: small, one, below, valid, Valid. -/
import Derived.Test.YtikopkkebdobdaaGreatDoorVrN
namespace Go.Proofs.YtikopkkebdobdaaGreatDoor
open Go.RowKit
set_option linter.unusedVariables false
set_option linter.unusedSimpArgs false
set_option maxRecDepth 100000 in
set_option maxHeartbeats 2000000 in
theorem small_c (x : Nat) {w : World}  (hx : (x : Int) ≤ 9223372036854775807) :
    Calls Tryz.prog 64 #[.int .i64 (x : Nat)] w fun e w' => Nn.RetV x e w' ∧ Below w.heap.size w w' := by
  have E0 := Lib.hid (Env.start (fun _ => True) w)
  go_enter Tryz.func64, Tryz.ntmps64
  go_wp2_with fail
  have E1 : Hid (Env (fun _ => True) w [(w.heap.size, 24, [.slice none 0 0])] [] _) := Lib.hid ((E0.out.push 24 [.slice none 0 0] (w.heap.size) (by simp)))
  refine (Nn.ofF x _ hx).mono ?_
  rintro e w1 ⟨⟨ya, yk, rfl, yh⟩, hb⟩
  have E2 := Lib.hid ((E1.out.below hb).noteS yh.out rfl)
  clear E0 E1 hb yh
  have E3 : Hid (Env (fun _ => True) w [(w1.heap.size, 24, [.slice ya (Nn.NatMath.len x) yk]), (w.heap.size, 24, [.slice none 0 0])] [.gn (gS (.slice ya (Nn.NatMath.len x) yk) (Nn.NatMath.digs x))] _) := Lib.hid ((E2.out.push 24 [.slice ya (Nn.NatMath.len x) yk] (w1.heap.size) (by simp)))
  have b1 := E3.out.bx 1 rfl
  have c1_0 := b1.cell 0 rfl
  have f1_0 := b1.frozen 0
  clear b1
  go_wp2
  have E4 : Hid (Env (fun _ => True) w [(w1.heap.size, 24, [.slice ya (Nn.NatMath.len x) yk]), (w.heap.size, 24, [.slice ya (Nn.NatMath.len x) yk])] [.gn (gS (.slice ya (Nn.NatMath.len x) yk) (Nn.NatMath.digs x))] _) := Lib.hid ((E3.out.set 1 0 (.slice ya (Nn.NatMath.len x) yk) rfl))
  have hfin := E4.out
  have q2 := (hfin.bx 1 rfl).cell 0 rfl
  exact bodyPost_ret (v := .agg #[.slice ya (Nn.NatMath.len x) yk]) (by simp [results, Tryz.results64, go_sem, q2]) rfl ⟨⟨ya, yk, rfl, Lib.hid (gS.sl (hfin.out 0 rfl))⟩, hfin.bel⟩
set_option maxRecDepth 100000 in
set_option maxHeartbeats 2000000 in
theorem one_c  {w : World}   :
    Calls Tryz.prog 69 #[] w fun e w' => Nn.RetV 1 e w' ∧ Below w.heap.size w w' := by
  have E0 := Lib.hid (Env.start (fun _ => True) w)
  go_enter Tryz.func69, Tryz.ntmps69
  go_wp2_with fail
  have E1 : Hid (Env (fun _ => True) w [(w.heap.size, 24, [.slice none 0 0])] [] _) := Lib.hid ((E0.out.push 24 [.slice none 0 0] (w.heap.size) (by simp)))
  refine (small_c 1 (by decide)).mono ?_
  rintro e w1 ⟨⟨ya, yk, rfl, yh⟩, hb⟩
  have E2 := Lib.hid ((E1.out.below hb).noteS yh.out rfl)
  clear E0 E1 hb yh
  have b1 := E2.out.bx 0 rfl
  have c1_0 := b1.cell 0 rfl
  have f1_0 := b1.frozen 0
  clear b1
  go_wp2
  have E3 : Hid (Env (fun _ => True) w [(w.heap.size, 24, [.slice ya (Nn.NatMath.len 1) yk])] [.gn (gS (.slice ya (Nn.NatMath.len 1) yk) (Nn.NatMath.digs 1))] _) := Lib.hid ((E2.out.set 0 0 (.slice ya (Nn.NatMath.len 1) yk) rfl))
  have hfin := E3.out
  have q2 := (hfin.bx 0 rfl).cell 0 rfl
  exact bodyPost_ret (v := .agg #[.slice ya (Nn.NatMath.len 1) yk]) (by simp [results, Tryz.results69, go_sem, q2]) rfl ⟨⟨ya, yk, rfl, Lib.hid (gS.sl (hfin.out 0 rfl))⟩, hfin.bel⟩
set_option maxRecDepth 100000 in
set_option maxHeartbeats 2000000 in
theorem of_c (x : Nat) {w : World}  (hx : x < 18446744073709551616) :
    Calls Tryz.prog 25 #[.int .u64 (x : Nat)] w fun e w' => Nn.RetV x e w' ∧ Below w.heap.size w w' := by
  have E0 := Lib.hid (Env.start (fun _ => True) w)
  go_enter Tryz.func25, Tryz.ntmps25
  go_wp2_with fail
  have E1 : Hid (Env (fun _ => True) w [(w.heap.size, 24, [.slice none 0 0])] [] _) := Lib.hid ((E0.out.push 24 [.slice none 0 0] (w.heap.size) (by simp)))
  refine (Nn.rOf_c x _ hx).mono ?_
  rintro e w1 ⟨⟨ya, yk, rfl, yh⟩, hb⟩
  have E2 := Lib.hid ((E1.out.below hb).noteS yh.out rfl)
  clear E0 E1 hb yh
  have b1 := E2.out.bx 0 rfl
  have c1_0 := b1.cell 0 rfl
  have f1_0 := b1.frozen 0
  clear b1
  go_wp2
  have E3 : Hid (Env (fun _ => True) w [(w.heap.size, 24, [.slice ya (Nn.NatMath.len x) yk])] [.gn (gS (.slice ya (Nn.NatMath.len x) yk) (Nn.NatMath.digs x))] _) := Lib.hid ((E2.out.set 0 0 (.slice ya (Nn.NatMath.len x) yk) rfl))
  have hfin := E3.out
  have q2 := (hfin.bx 0 rfl).cell 0 rfl
  exact bodyPost_ret (v := .agg #[.slice ya (Nn.NatMath.len x) yk]) (by simp [results, Tryz.results25, go_sem, q2]) rfl ⟨⟨ya, yk, rfl, Lib.hid (gS.sl (hfin.out 0 rfl))⟩, hfin.bel⟩
open Nn.NatMath in
theorem cmp_lt_dec {N M : Nat} {c : Int} {t : Bool} (hc : Nn.NatMath.cmp N M = c) (ht : decide (N < M) = t) : decide (c < 0) = t := by rw [← hc, Nn.NatMath.cmp_lt_iff, ht]
set_option maxRecDepth 100000 in
set_option maxHeartbeats 2000000 in
theorem below_w (N M : Nat) {xa ya : Option Addr} {xk yk : Nat} {w : World} (ha : Nn.Sl w (.slice xa (Nn.NatMath.len N) xk) (Nn.NatMath.digs N)) (hb : Nn.Sl w (.slice ya (Nn.NatMath.len M) yk) (Nn.NatMath.digs M)) {t : Bool} (ht0 : decide (N < M) = t) (h1 : Nn.NatMath.len N ≤ 64) (h2 : Nn.NatMath.len M ≤ 64) :
    Calls Tryz.prog 35 #[.agg #[.slice xa (Nn.NatMath.len N) xk], .agg #[.slice ya (Nn.NatMath.len M) yk]] w fun e w' => e = .returned (.bool t) ∧ Below w.heap.size w w' := by
  have E0 := Lib.hid (((Env.start (fun _ => True) w).argS ha).argS hb)
  clear ha hb
  go_enter Tryz.func35, Tryz.ntmps35
  obtain ⟨c, hc⟩ : ∃ c, Nn.NatMath.cmp N M = c := ⟨_, rfl⟩
  have HC := Lib.hid hc
  have t1 := cmp_lt_dec hc ht0
  have H1 := Lib.hid h1
  have H2 := Lib.hid h2
  clear hc ht0 h1 h2
  go_wp2_with fail
  have E1 : Hid (Env (fun _ => True) w [(w.heap.size + 1, 24, [.slice ya (Nn.NatMath.len M) yk]), (w.heap.size, 24, [.slice xa (Nn.NatMath.len N) xk])] [.gn (gS (.slice ya (Nn.NatMath.len M) yk) (Nn.NatMath.digs M)), .gn (gS (.slice xa (Nn.NatMath.len N) xk) (Nn.NatMath.digs N))] _) := Lib.hid (((E0.out.push 24 [.slice xa (Nn.NatMath.len N) xk] (w.heap.size) (by simp)).push 24 [.slice ya (Nn.NatMath.len M) yk] (w.heap.size + 1) (by simp)))
  refine (Nn.compareF HC.out (gS.sl (E1.out.fc 1 rfl)) (gS.sl (E1.out.fc 0 rfl)) H1.out H2.out).mono ?_
  rintro e w1 ⟨rfl, hb⟩
  have E2 := Lib.hid (E1.out.below hb)
  clear E0 E1 hb
  have hfin := Lib.hid E2.out.bel
  go_wp2
  go_ret
  exact ⟨rfl, hfin.out⟩
theorem vbelow_c {a b : Value} {N M : Nat} {t : Bool} {w : World} (ht : decide (N < M) = t) (h1 : Nn.NatMath.len N ≤ 64) (h2 : Nn.NatMath.len M ≤ 64) (ha : Nn.Nt w a N) (hb : Nn.Nt w b M) :
    Calls Tryz.prog 35 #[.agg #[a], .agg #[b]] w fun e w' => e = .returned (.bool t) ∧ Below w.heap.size w w' := by
  obtain ⟨ao, ca, rfl, _⟩ := ha.open
  obtain ⟨bo, cb, rfl, _⟩ := hb.open
  exact below_w N M ha hb ht h1 h2
set_option maxRecDepth 100000 in
set_option maxHeartbeats 2000000 in
theorem valid_c (ls : List (List Nat)) {xb xo xk : Nat} {w : World} (hx : Fct.at w (fun _ => True) (.gn (gNs xb xo ls))) {t : Bool} (ht0 : ls.all Nn.vld = t) (hm : ls.length ≤ 1000) :
    Calls Tryz.prog 34 #[.slice (some ⟨xb, xo, none⟩) ls.length xk] w fun e w' => e = .returned (.bool t) ∧ Below w.heap.size w w' := by
  have E0 := Lib.hid ((Env.start (fun _ => True) w).arg (.gn (gNs xb xo ls)) hx)
  clear hx
  go_enter Tryz.func34, Tryz.ntmps34
  have ht := Lib.hid ht0
  clear ht0
  go_wp2_with fail
  go_loopg [7] (ls.length) (fun gk s7 wr => ∃ (k : Nat), s7 = .int .i64 (k : Int) ∧ Hid (Env (fun _ => True) w [] [.gn (gNs xb xo ls)] wr) ∧ Hid ((k ≤ ls.length ∧ gk = ls.length - k) ∧ ∀ j (h : j < ls.length), j < k → Nn.vld ls[j] = true))
  case atStart => exact ⟨0, rfl, Lib.hid E0.out, Lib.hid ⟨⟨Nat.zero_le _, rfl⟩, fun j _ h => absurd h (Nat.not_lt_zero _)⟩⟩
  case round =>
    clear E0
    obtain ⟨k, rfl, EL, HA⟩ := hrel
    obtain ⟨⟨a1, a2⟩, a3⟩ := HA.out
    have HS := Lib.hid a3
    clear a3 HA
    by_cases hy : k = ls.length
    rotate_left
    · have hk : k < ls.length := by omega
      have t6 : decide ((k : Int) < (ls.length : Int)) = true := decide_eq_true (by omega)
      have t7 : decide (k < ls.length) = true := decide_eq_true hk
      clear hy
      go_upto_region 3 with (fail)
      obtain ⟨ua, uk, E10⟩ := EL.out.elS 0 rfl (k) hk
      have E1 : Hid (Env (fun _ => True) w [] [.ce xb (xo + k) (.slice ua ls[k].length uk), .gn (gS (.slice ua ls[k].length uk) ls[k]), .gn (gNs xb xo ls)] _) := Lib.hid E10
      clear E10 EL
      have u0 := (E1.out.fc 0 rfl).2
      by_cases hv : Nn.vld ls[k] = true
      · skip
        have HV := Lib.hid hv
        clear hv
        have E2 : Hid (Env (fun _ => True) w [(wr.heap.size, 24, [.slice ua ls[k].length uk])] [.ce xb (xo + k) (.slice ua ls[k].length uk), .gn (gS (.slice ua ls[k].length uk) ls[k]), .gn (gNs xb xo ls)] _) := Lib.hid ((E1.out.push 24 [.slice ua ls[k].length uk] (wr.heap.size) (by simp)))
        go_wp2_with fail
        refine (Nn.validF HV.out (gS.sl (E2.out.fc 1 rfl))).mono ?_
        rintro e w1 ⟨rfl, hb⟩
        have E3 := Lib.hid (E2.out.below hb)
        clear u0 E1 E2 hb
        have EZ := Lib.hid (((E3.out.drop).forget).forget)
        go_wp2
        go_roundg (ls.length - (k + 1))
        case rel => exact ⟨k + 1, rfl, EZ, Lib.hid ⟨⟨by omega, rfl⟩, fun j h hj => by by_cases e : j = k; (· subst e; exact HV.out); exact HS.out j h (by omega)⟩⟩
        case measure => exact by omega
      · skip
        have HV := Lib.hid (Bool.eq_false_iff.2 hv)
        have HT : Hid (t = false) := Lib.hid (by rw [← ht.out, Bool.eq_false_iff]; intro h; exact hv (List.all_eq_true.1 h _ (List.getElem_mem hk)))
        clear hv
        have E2 : Hid (Env (fun _ => True) w [(wr.heap.size, 24, [.slice ua ls[k].length uk])] [.ce xb (xo + k) (.slice ua ls[k].length uk), .gn (gS (.slice ua ls[k].length uk) ls[k]), .gn (gNs xb xo ls)] _) := Lib.hid ((E1.out.push 24 [.slice ua ls[k].length uk] (wr.heap.size) (by simp)))
        go_wp2_with fail
        refine (Nn.validF HV.out (gS.sl (E2.out.fc 1 rfl))).mono ?_
        rintro e w1 ⟨rfl, hb⟩
        have E3 := Lib.hid (E2.out.below hb)
        clear u0 E1 E2 hb
        have hfin := Lib.hid E3.out.bel
        go_wp2
        go_ret
        exact ⟨RetEqB HT.out.symm, hfin.out⟩
    have t6 : decide ((k : Int) < (ls.length : Int)) = false := decide_eq_false (by omega)
    have t7 : decide (k < ls.length) = false := decide_eq_false (by omega)
    have HT : Hid (t = true) := Lib.hid (by rw [← ht.out, List.all_eq_true]; intro l hl; obtain ⟨j, hj, rfl⟩ := List.getElem_of_mem hl; exact HS.out j hj (by omega))
    clear hy
    have hfin := Lib.hid EL.out.bel
    go_wp2
    go_ret
    exact ⟨RetEqB HT.out.symm, hfin.out⟩
set_option maxRecDepth 100000 in
set_option maxHeartbeats 4000000 in
theorem Valid_1 (lN lE : List Nat) {xa ya : Option Addr} {xk yk : Nat} {w : World} (ha : Nn.Sl w (.slice xa lN.length xk) lN) (hb : Nn.Sl w (.slice ya lE.length yk) lE) (HV0 : [lN, lE].all Nn.vld = false) :
    Calls Tryz.prog 33 #[.agg #[.slice xa lN.length xk, .slice ya lE.length yk]] w fun e w' => e = .returned (.bool false) ∧ Below w.heap.size w w' := by
  have E0 := Lib.hid (((Env.start (fun _ => True) w).argS ha).argS hb)
  clear ha hb
  go_enter Tryz.func33, Tryz.ntmps33
  have HV := Lib.hid HV0
  clear HV0
  go_wp2_with fail
  have E1 : Hid (Env (fun _ => True) w [(w.heap.size, 26, [.slice xa lN.length xk, .slice ya lE.length yk])] [.gn (gS (.slice ya lE.length yk) lE), .gn (gS (.slice xa lN.length xk) lN)] _) := Lib.hid ((E0.out.push 26 [.slice xa lN.length xk, .slice ya lE.length yk] (w.heap.size) (by simp)))
  clear E0
  generalize w.alloc (.cells #[.slice xa lN.length xk, .slice ya lE.length yk] 26) = w1 at *
  have E2 := Lib.hid E1.out.drew
  clear E1
  refine wp_regionU (S := fun w' => w'.cell? ⟨w.heap.size, 0, none⟩ = some (.slice xa lN.length xk) ∧ w'.cell? ⟨w.heap.size, 1, none⟩ = some (.slice ya lE.length yk)) [] (by kernel_rfl) (⟨((E2.out.bx 0 rfl).cell 0 rfl), ((E2.out.bx 0 rfl).cell 1 rfl)⟩) (fun hHeld => ?_)
  generalize w1.drew = w2 at *
  refine uTk (i := 0) (some 3) (v := ?_) ?_ ?_
  rotate_left
  · (intro wS hSw; (try dsimp only at hSw); go_simp; try with_reducible rfl)
  try simp only [Act.put, pq0, pq1, pq2]
  refine uTk (i := 1) (some 4) (v := ?_) ?_ ?_
  rotate_left
  · (intro wS hSw; (try dsimp only at hSw); go_simp; try with_reducible rfl)
  try simp only [Act.put, pq0, pq1, pq2]
  refine uTk (i := 2) (some 5) (v := ?_) ?_ ?_
  rotate_left
  · (intro wS hSw; (try dsimp only at hSw); go_simp; try with_reducible rfl)
  try simp only [Act.put, pq0, pq1, pq2]
  refine uTk (i := 3) (some 6) (v := ?_) ?_ ?_
  rotate_left
  · (intro wS hSw; (try dsimp only at hSw); go_simp; try with_reducible rfl)
  try simp only [Act.put, pq0, pq1, pq2]
  refine uReady (rs := [4]) (by kernel_rfl) (by simp) ?_
  refine ReadyU.cons rfl (fun KK hKK => ?_) ReadyU.nil
  go_simp
  have E3 : Hid (Env (fun _ => True) w [(w2.heap.size, 24, [.slice xa lN.length xk, .slice ya lE.length yk]), (w.heap.size, 26, [.slice xa lN.length xk, .slice ya lE.length yk])] [.gn (gS (.slice ya lE.length yk) lE), .gn (gS (.slice xa lN.length xk) lN)] _) := Lib.hid ((E2.out.push 24 [.slice xa lN.length xk, .slice ya lE.length yk] (w2.heap.size) (by simp)))
  (try dsimp only)
  clear hHeld
  refine hKK.out _ _ (⟨((E3.out.bx 1 rfl).cell 0 rfl), ((E3.out.bx 1 rfl).cell 1 rfl)⟩) (fun hHeld => ?_)
  clear hKK KK
  try simp only [Act.put, pq0, pq1, pq2]
  clear E2
  generalize w2.alloc (.cells #[.slice xa lN.length xk, .slice ya lE.length yk] 24) = w3 at *
  refine uReady (rs := [5]) (by kernel_rfl) (by simp) ?_
  refine ReadyU.cons rfl (fun KK hKK => ?_) ReadyU.nil
  go_simp
  refine (valid_c [lN, lE] (xb := w2.heap.size) (xo := 0) (xk := 2) (gNs.box (E3.out.bx 0 rfl) ⟨(gS.sl (E3.out.fc 1 rfl)), ⟨(gS.sl (E3.out.fc 0 rfl)), trivial⟩⟩) (t := false) HV.out (by simp)).mono ?_
  rintro e w4 ⟨rfl, hb⟩
  have E4 := Lib.hid (E3.out.below hb)
  clear E3 hb
  (try dsimp only)
  clear hHeld
  refine hKK.out _ _ (⟨((E4.out.bx 1 rfl).cell 0 rfl), ((E4.out.bx 1 rfl).cell 1 rfl)⟩) (fun hHeld => ?_)
  clear hKK KK
  try simp only [Act.put, pq0, pq1, pq2]
  refine uTk (i := 6) (some 9) (v := ?_) ?_ ?_
  rotate_left
  · (intro wS hSw; (try dsimp only at hSw); go_simp; try with_reducible rfl)
  try simp only [Act.put, pq0, pq1, pq2]
  refine uPs (i := 7) (some 10) ?_
  try simp only [Act.put, pq0, pq1, pq2]
  refine uPs (i := 8) (some 11) ?_
  try simp only [Act.put, pq0, pq1, pq2]
  refine uPs (i := 9) (some 12) ?_
  try simp only [Act.put, pq0, pq1, pq2]
  refine uPs (i := 10) (some 13) ?_
  try simp only [Act.put, pq0, pq1, pq2]
  refine uTk (i := 11) (some 14) (v := ?_) ?_ ?_
  rotate_left
  · (intro wS hSw; (try dsimp only at hSw); go_simp; try with_reducible rfl)
  try simp only [Act.put, pq0, pq1, pq2]
  refine uTk (i := 12) (some 15) (v := ?_) ?_ ?_
  rotate_left
  · (intro wS hSw; (try dsimp only at hSw); go_simp; try with_reducible rfl)
  try simp only [Act.put, pq0, pq1, pq2]
  refine uPs (i := 13) (some 16) ?_
  try simp only [Act.put, pq0, pq1, pq2]
  refine uPs (i := 14) (some 17) ?_
  try simp only [Act.put, pq0, pq1, pq2]
  refine uPs (i := 15) (some 18) ?_
  try simp only [Act.put, pq0, pq1, pq2]
  refine uPs (i := 16) (some 19) ?_
  try simp only [Act.put, pq0, pq1, pq2]
  refine uPs (i := 17) (some 20) ?_
  try simp only [Act.put, pq0, pq1, pq2]
  refine uTk (i := 18) (some 21) (v := ?_) ?_ ?_
  rotate_left
  · (intro wS hSw; (try dsimp only at hSw); go_simp; try with_reducible rfl)
  try simp only [Act.put, pq0, pq1, pq2]
  refine uTk (i := 19) (some 22) (v := ?_) ?_ ?_
  rotate_left
  · (intro wS hSw; (try dsimp only at hSw); go_simp; try with_reducible rfl)
  try simp only [Act.put, pq0, pq1, pq2]
  refine uPs (i := 20) (some 23) ?_
  try simp only [Act.put, pq0, pq1, pq2]
  refine uPs (i := 21) (some 24) ?_
  try simp only [Act.put, pq0, pq1, pq2]
  refine uPs (i := 22) (some 25) ?_
  try simp only [Act.put, pq0, pq1, pq2]
  refine uPs (i := 23) (some 26) ?_
  try simp only [Act.put, pq0, pq1, pq2]
  refine uPs (i := 24) (some 27) ?_
  try simp only [Act.put, pq0, pq1, pq2]
  refine uTk (i := 25) (some 28) (v := ?_) ?_ ?_
  rotate_left
  · (intro wS hSw; (try dsimp only at hSw); go_simp; try with_reducible rfl)
  try simp only [Act.put, pq0, pq1, pq2]
  refine uTk (i := 26) (some 29) (v := ?_) ?_ ?_
  rotate_left
  · (intro wS hSw; (try dsimp only at hSw); go_simp; try with_reducible rfl)
  try simp only [Act.put, pq0, pq1, pq2]
  refine uPs (i := 27) (some 30) ?_
  try simp only [Act.put, pq0, pq1, pq2]
  refine uPs (i := 28) (some 31) ?_
  try simp only [Act.put, pq0, pq1, pq2]
  refine uPs (i := 29) (some 32) ?_
  try simp only [Act.put, pq0, pq1, pq2]
  refine uPs (i := 30) (some 33) ?_
  try simp only [Act.put, pq0, pq1, pq2]
  refine uPs (i := 31) (some 34) ?_
  try simp only [Act.put, pq0, pq1, pq2]
  refine uTk (i := 32) (some 35) (v := ?_) ?_ ?_
  rotate_left
  · (intro wS hSw; (try dsimp only at hSw); go_simp; try with_reducible rfl)
  try simp only [Act.put, pq0, pq1, pq2]
  refine uTk (i := 33) (some 2) (v := ?_) ?_ ?_
  rotate_left
  · (intro wS hSw; (try dsimp only at hSw); go_simp; try with_reducible rfl)
  try simp only [Act.put, pq0, pq1, pq2]
  refine uDone (by kernel_rfl) ?_ _
  have hfin := Lib.hid E4.out.bel
  go_wp2
  go_ret
  exact ⟨rfl, hfin.out⟩
set_option maxRecDepth 100000 in
set_option maxHeartbeats 4000000 in
theorem Valid_2 (N E : Nat) {xa ya : Option Addr} {xk yk : Nat} {w : World} (ha : Nn.Sl w (.slice xa (Nn.NatMath.len N) xk) (Nn.NatMath.digs N)) (hb : Nn.Sl w (.slice ya (Nn.NatMath.len E) yk) (Nn.NatMath.digs E)) (hN0 : Nn.NatMath.len N ≤ 64) (hE0 : Nn.NatMath.len E ≤ 64) (HV0 : [Nn.NatMath.digs N, Nn.NatMath.digs E].all Nn.vld = true) (hbl0 : ¬ Nn.NatMath.bl N ≤ 512) :
    Calls Tryz.prog 33 #[.agg #[.slice xa (Nn.NatMath.len N) xk, .slice ya (Nn.NatMath.len E) yk]] w fun e w' => e = .returned (.bool false) ∧ Below w.heap.size w w' := by
  have E0 := Lib.hid (((Env.start (fun _ => True) w).argS ha).argS hb)
  clear ha hb
  go_enter Tryz.func33, Tryz.ntmps33
  have hN := Lib.hid hN0
  have hE := Lib.hid hE0
  have HV := Lib.hid HV0
  have hbl := Lib.hid hbl0
  clear hN0 hE0 HV0 hbl0
  obtain ⟨nb, hb⟩ : ∃ nb, Nn.NatMath.bl N = nb := ⟨_, rfl⟩
  have HB := Lib.hid hb
  have t1 : decide ((nb : Int) ≤ 512) = false := by have h := hbl.out; rw [hb] at h; exact decide_eq_false (by omega)
  have t1n : decide (nb ≤ 512) = false := by have h := hbl.out; rw [hb] at h; exact decide_eq_false (by omega)
  clear hb
  go_wp2_with fail
  have E1 : Hid (Env (fun _ => True) w [(w.heap.size, 26, [.slice xa (Nn.NatMath.len N) xk, .slice ya (Nn.NatMath.len E) yk])] [.gn (gS (.slice ya (Nn.NatMath.len E) yk) (Nn.NatMath.digs E)), .gn (gS (.slice xa (Nn.NatMath.len N) xk) (Nn.NatMath.digs N))] _) := Lib.hid ((E0.out.push 26 [.slice xa (Nn.NatMath.len N) xk, .slice ya (Nn.NatMath.len E) yk] (w.heap.size) (by simp)))
  clear E0
  generalize w.alloc (.cells #[.slice xa (Nn.NatMath.len N) xk, .slice ya (Nn.NatMath.len E) yk] 26) = w1 at *
  have E2 := Lib.hid E1.out.drew
  clear E1
  refine wp_regionU (S := fun w' => w'.cell? ⟨w.heap.size, 0, none⟩ = some (.slice xa (Nn.NatMath.len N) xk) ∧ w'.cell? ⟨w.heap.size, 1, none⟩ = some (.slice ya (Nn.NatMath.len E) yk)) [] (by kernel_rfl) (⟨((E2.out.bx 0 rfl).cell 0 rfl), ((E2.out.bx 0 rfl).cell 1 rfl)⟩) (fun hHeld => ?_)
  generalize w1.drew = w2 at *
  refine uTk (i := 0) (some 3) (v := ?_) ?_ ?_
  rotate_left
  · (intro wS hSw; (try dsimp only at hSw); go_simp; try with_reducible rfl)
  try simp only [Act.put, pq0, pq1, pq2]
  refine uTk (i := 1) (some 4) (v := ?_) ?_ ?_
  rotate_left
  · (intro wS hSw; (try dsimp only at hSw); go_simp; try with_reducible rfl)
  try simp only [Act.put, pq0, pq1, pq2]
  refine uTk (i := 2) (some 5) (v := ?_) ?_ ?_
  rotate_left
  · (intro wS hSw; (try dsimp only at hSw); go_simp; try with_reducible rfl)
  try simp only [Act.put, pq0, pq1, pq2]
  refine uTk (i := 3) (some 6) (v := ?_) ?_ ?_
  rotate_left
  · (intro wS hSw; (try dsimp only at hSw); go_simp; try with_reducible rfl)
  try simp only [Act.put, pq0, pq1, pq2]
  refine uReady (rs := [4]) (by kernel_rfl) (by simp) ?_
  refine ReadyU.cons rfl (fun KK hKK => ?_) ReadyU.nil
  go_simp
  have E3 : Hid (Env (fun _ => True) w [(w2.heap.size, 24, [.slice xa (Nn.NatMath.len N) xk, .slice ya (Nn.NatMath.len E) yk]), (w.heap.size, 26, [.slice xa (Nn.NatMath.len N) xk, .slice ya (Nn.NatMath.len E) yk])] [.gn (gS (.slice ya (Nn.NatMath.len E) yk) (Nn.NatMath.digs E)), .gn (gS (.slice xa (Nn.NatMath.len N) xk) (Nn.NatMath.digs N))] _) := Lib.hid ((E2.out.push 24 [.slice xa (Nn.NatMath.len N) xk, .slice ya (Nn.NatMath.len E) yk] (w2.heap.size) (by simp)))
  (try dsimp only)
  clear hHeld
  refine hKK.out _ _ (⟨((E3.out.bx 1 rfl).cell 0 rfl), ((E3.out.bx 1 rfl).cell 1 rfl)⟩) (fun hHeld => ?_)
  clear hKK KK
  try simp only [Act.put, pq0, pq1, pq2]
  clear E2
  generalize w2.alloc (.cells #[.slice xa (Nn.NatMath.len N) xk, .slice ya (Nn.NatMath.len E) yk] 24) = w3 at *
  refine uReady (rs := [5]) (by kernel_rfl) (by simp) ?_
  refine ReadyU.cons rfl (fun KK hKK => ?_) ReadyU.nil
  go_simp
  refine (valid_c [(Nn.NatMath.digs N), (Nn.NatMath.digs E)] (xb := w2.heap.size) (xo := 0) (xk := 2) (gNs.box (E3.out.bx 0 rfl) ⟨(gS.sl (E3.out.fc 1 rfl)), ⟨(gS.sl (E3.out.fc 0 rfl)), trivial⟩⟩) (t := true) HV.out (by simp)).mono ?_
  rintro e w4 ⟨rfl, hb⟩
  have E4 := Lib.hid (E3.out.below hb)
  clear E3 hb
  (try dsimp only)
  clear hHeld
  refine hKK.out _ _ (⟨((E4.out.bx 1 rfl).cell 0 rfl), ((E4.out.bx 1 rfl).cell 1 rfl)⟩) (fun hHeld => ?_)
  clear hKK KK
  try simp only [Act.put, pq0, pq1, pq2]
  refine uTk (i := 6) (some 9) (v := ?_) ?_ ?_
  rotate_left
  · (intro wS hSw; (try dsimp only at hSw); go_simp; try with_reducible rfl)
  try simp only [Act.put, pq0, pq1, pq2]
  refine uTk (i := 7) (some 10) (v := ?_) ?_ ?_
  rotate_left
  · (intro wS hSw; (try dsimp only at hSw); go_simp; try with_reducible rfl)
  try simp only [Act.put, pq0, pq1, pq2]
  refine uTk (i := 8) (some 11) (v := ?_) ?_ ?_
  rotate_left
  · (intro wS hSw; (try dsimp only at hSw); go_simp; try with_reducible rfl)
  try simp only [Act.put, pq0, pq1, pq2]
  refine uReady (rs := [9]) (by kernel_rfl) (by simp) ?_
  refine ReadyU.cons rfl (fun KK hKK => ?_) ReadyU.nil
  go_simp
  refine (Nn.bitsF HB.out hN.out (gS.sl (E4.out.fc 1 rfl))).mono ?_
  rintro e w5 ⟨rfl, hb⟩
  have E5 := Lib.hid (E4.out.below hb)
  clear E4 hb
  (try dsimp only)
  clear hHeld
  refine hKK.out _ _ (⟨((E5.out.bx 1 rfl).cell 0 rfl), ((E5.out.bx 1 rfl).cell 1 rfl)⟩) (fun hHeld => ?_)
  clear hKK KK
  try simp only [Act.put, pq0, pq1, pq2]
  refine uTk (i := 10) (some 13) (v := ?_) ?_ ?_
  rotate_left
  · (intro wS hSw; (try dsimp only at hSw); go_simp; try with_reducible rfl)
  try simp only [Act.put, pq0, pq1, pq2]
  refine uTk (i := 11) (some 14) (v := ?_) ?_ ?_
  rotate_left
  · (intro wS hSw; (try dsimp only at hSw); go_simp; try with_reducible rfl)
  try simp only [Act.put, pq0, pq1, pq2]
  refine uTk (i := 12) (some 15) (v := ?_) ?_ ?_
  rotate_left
  · (intro wS hSw; (try dsimp only at hSw); go_simp; try with_reducible rfl)
  try simp only [Act.put, pq0, pq1, pq2]
  refine uPs (i := 13) (some 16) ?_
  try simp only [Act.put, pq0, pq1, pq2]
  refine uPs (i := 14) (some 17) ?_
  try simp only [Act.put, pq0, pq1, pq2]
  refine uPs (i := 15) (some 18) ?_
  try simp only [Act.put, pq0, pq1, pq2]
  refine uPs (i := 16) (some 19) ?_
  try simp only [Act.put, pq0, pq1, pq2]
  refine uPs (i := 17) (some 20) ?_
  try simp only [Act.put, pq0, pq1, pq2]
  refine uTk (i := 18) (some 21) (v := ?_) ?_ ?_
  rotate_left
  · (intro wS hSw; (try dsimp only at hSw); go_simp; try with_reducible rfl)
  try simp only [Act.put, pq0, pq1, pq2]
  refine uTk (i := 19) (some 22) (v := ?_) ?_ ?_
  rotate_left
  · (intro wS hSw; (try dsimp only at hSw); go_simp; try with_reducible rfl)
  try simp only [Act.put, pq0, pq1, pq2]
  refine uPs (i := 20) (some 23) ?_
  try simp only [Act.put, pq0, pq1, pq2]
  refine uPs (i := 21) (some 24) ?_
  try simp only [Act.put, pq0, pq1, pq2]
  refine uPs (i := 22) (some 25) ?_
  try simp only [Act.put, pq0, pq1, pq2]
  refine uPs (i := 23) (some 26) ?_
  try simp only [Act.put, pq0, pq1, pq2]
  refine uPs (i := 24) (some 27) ?_
  try simp only [Act.put, pq0, pq1, pq2]
  refine uTk (i := 25) (some 28) (v := ?_) ?_ ?_
  rotate_left
  · (intro wS hSw; (try dsimp only at hSw); go_simp; try with_reducible rfl)
  try simp only [Act.put, pq0, pq1, pq2]
  refine uTk (i := 26) (some 29) (v := ?_) ?_ ?_
  rotate_left
  · (intro wS hSw; (try dsimp only at hSw); go_simp; try with_reducible rfl)
  try simp only [Act.put, pq0, pq1, pq2]
  refine uPs (i := 27) (some 30) ?_
  try simp only [Act.put, pq0, pq1, pq2]
  refine uPs (i := 28) (some 31) ?_
  try simp only [Act.put, pq0, pq1, pq2]
  refine uPs (i := 29) (some 32) ?_
  try simp only [Act.put, pq0, pq1, pq2]
  refine uPs (i := 30) (some 33) ?_
  try simp only [Act.put, pq0, pq1, pq2]
  refine uPs (i := 31) (some 34) ?_
  try simp only [Act.put, pq0, pq1, pq2]
  refine uTk (i := 32) (some 35) (v := ?_) ?_ ?_
  rotate_left
  · (intro wS hSw; (try dsimp only at hSw); go_simp; try with_reducible rfl)
  try simp only [Act.put, pq0, pq1, pq2]
  refine uTk (i := 33) (some 2) (v := ?_) ?_ ?_
  rotate_left
  · (intro wS hSw; (try dsimp only at hSw); go_simp; try with_reducible rfl)
  try simp only [Act.put, pq0, pq1, pq2]
  refine uDone (by kernel_rfl) ?_ _
  have hfin := Lib.hid E5.out.bel
  go_wp2
  go_ret
  exact ⟨rfl, hfin.out⟩
set_option maxRecDepth 100000 in
set_option maxHeartbeats 4000000 in
theorem Valid_3 (N E : Nat) {xa ya : Option Addr} {xk yk : Nat} {w : World} (ha : Nn.Sl w (.slice xa (Nn.NatMath.len N) xk) (Nn.NatMath.digs N)) (hb : Nn.Sl w (.slice ya (Nn.NatMath.len E) yk) (Nn.NatMath.digs E)) (hN0 : Nn.NatMath.len N ≤ 64) (hE0 : Nn.NatMath.len E ≤ 64) (HV0 : [Nn.NatMath.digs N, Nn.NatMath.digs E].all Nn.vld = true) (hbl0 : Nn.NatMath.bl N ≤ 512) (h150 : decide (N < 15) = true) :
    Calls Tryz.prog 33 #[.agg #[.slice xa (Nn.NatMath.len N) xk, .slice ya (Nn.NatMath.len E) yk]] w fun e w' => e = .returned (.bool false) ∧ Below w.heap.size w w' := by
  have E0 := Lib.hid (((Env.start (fun _ => True) w).argS ha).argS hb)
  clear ha hb
  go_enter Tryz.func33, Tryz.ntmps33
  have hN := Lib.hid hN0
  have hE := Lib.hid hE0
  have HV := Lib.hid HV0
  have hbl := Lib.hid hbl0
  have h15 := Lib.hid h150
  clear hN0 hE0 HV0 hbl0 h150
  obtain ⟨nb, hb⟩ : ∃ nb, Nn.NatMath.bl N = nb := ⟨_, rfl⟩
  have HB := Lib.hid hb
  have t1 : decide ((nb : Int) ≤ 512) = true := by have h := hbl.out; rw [hb] at h; exact decide_eq_true (by omega)
  have t1n : decide (nb ≤ 512) = true := by have h := hbl.out; rw [hb] at h; exact decide_eq_true (by omega)
  clear hb
  go_wp2_with fail
  have E1 : Hid (Env (fun _ => True) w [(w.heap.size, 26, [.slice xa (Nn.NatMath.len N) xk, .slice ya (Nn.NatMath.len E) yk])] [.gn (gS (.slice ya (Nn.NatMath.len E) yk) (Nn.NatMath.digs E)), .gn (gS (.slice xa (Nn.NatMath.len N) xk) (Nn.NatMath.digs N))] _) := Lib.hid ((E0.out.push 26 [.slice xa (Nn.NatMath.len N) xk, .slice ya (Nn.NatMath.len E) yk] (w.heap.size) (by simp)))
  clear E0
  generalize w.alloc (.cells #[.slice xa (Nn.NatMath.len N) xk, .slice ya (Nn.NatMath.len E) yk] 26) = w1 at *
  have E2 := Lib.hid E1.out.drew
  clear E1
  refine wp_regionU (S := fun w' => w'.cell? ⟨w.heap.size, 0, none⟩ = some (.slice xa (Nn.NatMath.len N) xk) ∧ w'.cell? ⟨w.heap.size, 1, none⟩ = some (.slice ya (Nn.NatMath.len E) yk)) [] (by kernel_rfl) (⟨((E2.out.bx 0 rfl).cell 0 rfl), ((E2.out.bx 0 rfl).cell 1 rfl)⟩) (fun hHeld => ?_)
  generalize w1.drew = w2 at *
  refine uTk (i := 0) (some 3) (v := ?_) ?_ ?_
  rotate_left
  · (intro wS hSw; (try dsimp only at hSw); go_simp; try with_reducible rfl)
  try simp only [Act.put, pq0, pq1, pq2]
  refine uTk (i := 1) (some 4) (v := ?_) ?_ ?_
  rotate_left
  · (intro wS hSw; (try dsimp only at hSw); go_simp; try with_reducible rfl)
  try simp only [Act.put, pq0, pq1, pq2]
  refine uTk (i := 2) (some 5) (v := ?_) ?_ ?_
  rotate_left
  · (intro wS hSw; (try dsimp only at hSw); go_simp; try with_reducible rfl)
  try simp only [Act.put, pq0, pq1, pq2]
  refine uTk (i := 3) (some 6) (v := ?_) ?_ ?_
  rotate_left
  · (intro wS hSw; (try dsimp only at hSw); go_simp; try with_reducible rfl)
  try simp only [Act.put, pq0, pq1, pq2]
  refine uReady (rs := [4]) (by kernel_rfl) (by simp) ?_
  refine ReadyU.cons rfl (fun KK hKK => ?_) ReadyU.nil
  go_simp
  have E3 : Hid (Env (fun _ => True) w [(w2.heap.size, 24, [.slice xa (Nn.NatMath.len N) xk, .slice ya (Nn.NatMath.len E) yk]), (w.heap.size, 26, [.slice xa (Nn.NatMath.len N) xk, .slice ya (Nn.NatMath.len E) yk])] [.gn (gS (.slice ya (Nn.NatMath.len E) yk) (Nn.NatMath.digs E)), .gn (gS (.slice xa (Nn.NatMath.len N) xk) (Nn.NatMath.digs N))] _) := Lib.hid ((E2.out.push 24 [.slice xa (Nn.NatMath.len N) xk, .slice ya (Nn.NatMath.len E) yk] (w2.heap.size) (by simp)))
  (try dsimp only)
  clear hHeld
  refine hKK.out _ _ (⟨((E3.out.bx 1 rfl).cell 0 rfl), ((E3.out.bx 1 rfl).cell 1 rfl)⟩) (fun hHeld => ?_)
  clear hKK KK
  try simp only [Act.put, pq0, pq1, pq2]
  clear E2
  generalize w2.alloc (.cells #[.slice xa (Nn.NatMath.len N) xk, .slice ya (Nn.NatMath.len E) yk] 24) = w3 at *
  refine uReady (rs := [5]) (by kernel_rfl) (by simp) ?_
  refine ReadyU.cons rfl (fun KK hKK => ?_) ReadyU.nil
  go_simp
  refine (valid_c [(Nn.NatMath.digs N), (Nn.NatMath.digs E)] (xb := w2.heap.size) (xo := 0) (xk := 2) (gNs.box (E3.out.bx 0 rfl) ⟨(gS.sl (E3.out.fc 1 rfl)), ⟨(gS.sl (E3.out.fc 0 rfl)), trivial⟩⟩) (t := true) HV.out (by simp)).mono ?_
  rintro e w4 ⟨rfl, hb⟩
  have E4 := Lib.hid (E3.out.below hb)
  clear E3 hb
  (try dsimp only)
  clear hHeld
  refine hKK.out _ _ (⟨((E4.out.bx 1 rfl).cell 0 rfl), ((E4.out.bx 1 rfl).cell 1 rfl)⟩) (fun hHeld => ?_)
  clear hKK KK
  try simp only [Act.put, pq0, pq1, pq2]
  refine uTk (i := 6) (some 9) (v := ?_) ?_ ?_
  rotate_left
  · (intro wS hSw; (try dsimp only at hSw); go_simp; try with_reducible rfl)
  try simp only [Act.put, pq0, pq1, pq2]
  refine uTk (i := 7) (some 10) (v := ?_) ?_ ?_
  rotate_left
  · (intro wS hSw; (try dsimp only at hSw); go_simp; try with_reducible rfl)
  try simp only [Act.put, pq0, pq1, pq2]
  refine uTk (i := 8) (some 11) (v := ?_) ?_ ?_
  rotate_left
  · (intro wS hSw; (try dsimp only at hSw); go_simp; try with_reducible rfl)
  try simp only [Act.put, pq0, pq1, pq2]
  refine uReady (rs := [9]) (by kernel_rfl) (by simp) ?_
  refine ReadyU.cons rfl (fun KK hKK => ?_) ReadyU.nil
  go_simp
  refine (Nn.bitsF HB.out hN.out (gS.sl (E4.out.fc 1 rfl))).mono ?_
  rintro e w5 ⟨rfl, hb⟩
  have E5 := Lib.hid (E4.out.below hb)
  clear E4 hb
  (try dsimp only)
  clear hHeld
  refine hKK.out _ _ (⟨((E5.out.bx 1 rfl).cell 0 rfl), ((E5.out.bx 1 rfl).cell 1 rfl)⟩) (fun hHeld => ?_)
  clear hKK KK
  try simp only [Act.put, pq0, pq1, pq2]
  refine uTk (i := 10) (some 13) (v := ?_) ?_ ?_
  rotate_left
  · (intro wS hSw; (try dsimp only at hSw); go_simp; try with_reducible rfl)
  try simp only [Act.put, pq0, pq1, pq2]
  refine uTk (i := 11) (some 14) (v := ?_) ?_ ?_
  rotate_left
  · (intro wS hSw; (try dsimp only at hSw); go_simp; try with_reducible rfl)
  try simp only [Act.put, pq0, pq1, pq2]
  refine uTk (i := 12) (some 15) (v := ?_) ?_ ?_
  rotate_left
  · (intro wS hSw; (try dsimp only at hSw); go_simp; try with_reducible rfl)
  try simp only [Act.put, pq0, pq1, pq2]
  refine uTk (i := 13) (some 16) (v := ?_) ?_ ?_
  rotate_left
  · (intro wS hSw; (try dsimp only at hSw); go_simp; try with_reducible rfl)
  try simp only [Act.put, pq0, pq1, pq2]
  refine uTk (i := 14) (some 17) (v := ?_) ?_ ?_
  rotate_left
  · (intro wS hSw; (try dsimp only at hSw); go_simp; try with_reducible rfl)
  try simp only [Act.put, pq0, pq1, pq2]
  refine uReady (rs := [15]) (by kernel_rfl) (by simp) ?_
  refine ReadyU.cons rfl (fun KK hKK => ?_) ReadyU.nil
  go_simp
  refine (small_c 15 (by decide)).mono ?_
  rintro e w6 ⟨⟨ua, uk, rfl, uh⟩, hb⟩
  have E6 := Lib.hid ((E5.out.below hb).noteS uh.out rfl)
  clear E5 hb uh
  (try dsimp only)
  clear hHeld
  refine hKK.out _ _ (⟨((E6.out.bx 1 rfl).cell 0 rfl), ((E6.out.bx 1 rfl).cell 1 rfl)⟩) (fun hHeld => ?_)
  clear hKK KK
  try simp only [Act.put, pq0, pq1, pq2]
  refine uReady (rs := [16]) (by kernel_rfl) (by simp) ?_
  refine ReadyU.cons rfl (fun KK hKK => ?_) ReadyU.nil
  go_simp
  refine (vbelow_c h15.out hN.out (len_small (by decide)) (gS.sl (E6.out.fc 2 rfl)) (gS.sl (E6.out.fc 0 rfl))).mono ?_
  rintro e w7 ⟨rfl, hb⟩
  have E7 := Lib.hid (E6.out.below hb)
  clear E6 hb
  (try dsimp only)
  clear hHeld
  refine hKK.out _ _ (⟨((E7.out.bx 1 rfl).cell 0 rfl), ((E7.out.bx 1 rfl).cell 1 rfl)⟩) (fun hHeld => ?_)
  clear hKK KK
  try simp only [Act.put, pq0, pq1, pq2]
  refine uTk (i := 17) (some 20) (v := ?_) ?_ ?_
  rotate_left
  · (intro wS hSw; (try dsimp only at hSw); go_simp; try with_reducible rfl)
  try simp only [Act.put, pq0, pq1, pq2]
  refine uTk (i := 18) (some 21) (v := ?_) ?_ ?_
  rotate_left
  · (intro wS hSw; (try dsimp only at hSw); go_simp; try with_reducible rfl)
  try simp only [Act.put, pq0, pq1, pq2]
  refine uTk (i := 19) (some 22) (v := ?_) ?_ ?_
  rotate_left
  · (intro wS hSw; (try dsimp only at hSw); go_simp; try with_reducible rfl)
  try simp only [Act.put, pq0, pq1, pq2]
  refine uPs (i := 20) (some 23) ?_
  try simp only [Act.put, pq0, pq1, pq2]
  refine uPs (i := 21) (some 24) ?_
  try simp only [Act.put, pq0, pq1, pq2]
  refine uPs (i := 22) (some 25) ?_
  try simp only [Act.put, pq0, pq1, pq2]
  refine uPs (i := 23) (some 26) ?_
  try simp only [Act.put, pq0, pq1, pq2]
  refine uPs (i := 24) (some 27) ?_
  try simp only [Act.put, pq0, pq1, pq2]
  refine uTk (i := 25) (some 28) (v := ?_) ?_ ?_
  rotate_left
  · (intro wS hSw; (try dsimp only at hSw); go_simp; try with_reducible rfl)
  try simp only [Act.put, pq0, pq1, pq2]
  refine uTk (i := 26) (some 29) (v := ?_) ?_ ?_
  rotate_left
  · (intro wS hSw; (try dsimp only at hSw); go_simp; try with_reducible rfl)
  try simp only [Act.put, pq0, pq1, pq2]
  refine uPs (i := 27) (some 30) ?_
  try simp only [Act.put, pq0, pq1, pq2]
  refine uPs (i := 28) (some 31) ?_
  try simp only [Act.put, pq0, pq1, pq2]
  refine uPs (i := 29) (some 32) ?_
  try simp only [Act.put, pq0, pq1, pq2]
  refine uPs (i := 30) (some 33) ?_
  try simp only [Act.put, pq0, pq1, pq2]
  refine uPs (i := 31) (some 34) ?_
  try simp only [Act.put, pq0, pq1, pq2]
  refine uTk (i := 32) (some 35) (v := ?_) ?_ ?_
  rotate_left
  · (intro wS hSw; (try dsimp only at hSw); go_simp; try with_reducible rfl)
  try simp only [Act.put, pq0, pq1, pq2]
  refine uTk (i := 33) (some 2) (v := ?_) ?_ ?_
  rotate_left
  · (intro wS hSw; (try dsimp only at hSw); go_simp; try with_reducible rfl)
  try simp only [Act.put, pq0, pq1, pq2]
  refine uDone (by kernel_rfl) ?_ _
  have hfin := Lib.hid E7.out.bel
  go_wp2
  go_ret
  exact ⟨rfl, hfin.out⟩
set_option maxRecDepth 100000 in
set_option maxHeartbeats 4000000 in
theorem Valid_4 (N E : Nat) {xa ya : Option Addr} {xk yk : Nat} {w : World} (ha : Nn.Sl w (.slice xa (Nn.NatMath.len N) xk) (Nn.NatMath.digs N)) (hb : Nn.Sl w (.slice ya (Nn.NatMath.len E) yk) (Nn.NatMath.digs E)) (hN0 : Nn.NatMath.len N ≤ 64) (hE0 : Nn.NatMath.len E ≤ 64) (HV0 : [Nn.NatMath.digs N, Nn.NatMath.digs E].all Nn.vld = true) (hbl0 : Nn.NatMath.bl N ≤ 512) (h150 : decide (N < 15) = false) (h30 : decide (E < 3) = true) :
    Calls Tryz.prog 33 #[.agg #[.slice xa (Nn.NatMath.len N) xk, .slice ya (Nn.NatMath.len E) yk]] w fun e w' => e = .returned (.bool false) ∧ Below w.heap.size w w' := by
  have E0 := Lib.hid (((Env.start (fun _ => True) w).argS ha).argS hb)
  clear ha hb
  go_enter Tryz.func33, Tryz.ntmps33
  have hN := Lib.hid hN0
  have hE := Lib.hid hE0
  have HV := Lib.hid HV0
  have hbl := Lib.hid hbl0
  have h15 := Lib.hid h150
  have h3 := Lib.hid h30
  clear hN0 hE0 HV0 hbl0 h150 h30
  obtain ⟨nb, hb⟩ : ∃ nb, Nn.NatMath.bl N = nb := ⟨_, rfl⟩
  have HB := Lib.hid hb
  have t1 : decide ((nb : Int) ≤ 512) = true := by have h := hbl.out; rw [hb] at h; exact decide_eq_true (by omega)
  have t1n : decide (nb ≤ 512) = true := by have h := hbl.out; rw [hb] at h; exact decide_eq_true (by omega)
  clear hb
  go_wp2_with fail
  have E1 : Hid (Env (fun _ => True) w [(w.heap.size, 26, [.slice xa (Nn.NatMath.len N) xk, .slice ya (Nn.NatMath.len E) yk])] [.gn (gS (.slice ya (Nn.NatMath.len E) yk) (Nn.NatMath.digs E)), .gn (gS (.slice xa (Nn.NatMath.len N) xk) (Nn.NatMath.digs N))] _) := Lib.hid ((E0.out.push 26 [.slice xa (Nn.NatMath.len N) xk, .slice ya (Nn.NatMath.len E) yk] (w.heap.size) (by simp)))
  clear E0
  generalize w.alloc (.cells #[.slice xa (Nn.NatMath.len N) xk, .slice ya (Nn.NatMath.len E) yk] 26) = w1 at *
  have E2 := Lib.hid E1.out.drew
  clear E1
  refine wp_regionU (S := fun w' => w'.cell? ⟨w.heap.size, 0, none⟩ = some (.slice xa (Nn.NatMath.len N) xk) ∧ w'.cell? ⟨w.heap.size, 1, none⟩ = some (.slice ya (Nn.NatMath.len E) yk)) [] (by kernel_rfl) (⟨((E2.out.bx 0 rfl).cell 0 rfl), ((E2.out.bx 0 rfl).cell 1 rfl)⟩) (fun hHeld => ?_)
  generalize w1.drew = w2 at *
  refine uTk (i := 0) (some 3) (v := ?_) ?_ ?_
  rotate_left
  · (intro wS hSw; (try dsimp only at hSw); go_simp; try with_reducible rfl)
  try simp only [Act.put, pq0, pq1, pq2]
  refine uTk (i := 1) (some 4) (v := ?_) ?_ ?_
  rotate_left
  · (intro wS hSw; (try dsimp only at hSw); go_simp; try with_reducible rfl)
  try simp only [Act.put, pq0, pq1, pq2]
  refine uTk (i := 2) (some 5) (v := ?_) ?_ ?_
  rotate_left
  · (intro wS hSw; (try dsimp only at hSw); go_simp; try with_reducible rfl)
  try simp only [Act.put, pq0, pq1, pq2]
  refine uTk (i := 3) (some 6) (v := ?_) ?_ ?_
  rotate_left
  · (intro wS hSw; (try dsimp only at hSw); go_simp; try with_reducible rfl)
  try simp only [Act.put, pq0, pq1, pq2]
  refine uReady (rs := [4]) (by kernel_rfl) (by simp) ?_
  refine ReadyU.cons rfl (fun KK hKK => ?_) ReadyU.nil
  go_simp
  have E3 : Hid (Env (fun _ => True) w [(w2.heap.size, 24, [.slice xa (Nn.NatMath.len N) xk, .slice ya (Nn.NatMath.len E) yk]), (w.heap.size, 26, [.slice xa (Nn.NatMath.len N) xk, .slice ya (Nn.NatMath.len E) yk])] [.gn (gS (.slice ya (Nn.NatMath.len E) yk) (Nn.NatMath.digs E)), .gn (gS (.slice xa (Nn.NatMath.len N) xk) (Nn.NatMath.digs N))] _) := Lib.hid ((E2.out.push 24 [.slice xa (Nn.NatMath.len N) xk, .slice ya (Nn.NatMath.len E) yk] (w2.heap.size) (by simp)))
  (try dsimp only)
  clear hHeld
  refine hKK.out _ _ (⟨((E3.out.bx 1 rfl).cell 0 rfl), ((E3.out.bx 1 rfl).cell 1 rfl)⟩) (fun hHeld => ?_)
  clear hKK KK
  try simp only [Act.put, pq0, pq1, pq2]
  clear E2
  generalize w2.alloc (.cells #[.slice xa (Nn.NatMath.len N) xk, .slice ya (Nn.NatMath.len E) yk] 24) = w3 at *
  refine uReady (rs := [5]) (by kernel_rfl) (by simp) ?_
  refine ReadyU.cons rfl (fun KK hKK => ?_) ReadyU.nil
  go_simp
  refine (valid_c [(Nn.NatMath.digs N), (Nn.NatMath.digs E)] (xb := w2.heap.size) (xo := 0) (xk := 2) (gNs.box (E3.out.bx 0 rfl) ⟨(gS.sl (E3.out.fc 1 rfl)), ⟨(gS.sl (E3.out.fc 0 rfl)), trivial⟩⟩) (t := true) HV.out (by simp)).mono ?_
  rintro e w4 ⟨rfl, hb⟩
  have E4 := Lib.hid (E3.out.below hb)
  clear E3 hb
  (try dsimp only)
  clear hHeld
  refine hKK.out _ _ (⟨((E4.out.bx 1 rfl).cell 0 rfl), ((E4.out.bx 1 rfl).cell 1 rfl)⟩) (fun hHeld => ?_)
  clear hKK KK
  try simp only [Act.put, pq0, pq1, pq2]
  refine uTk (i := 6) (some 9) (v := ?_) ?_ ?_
  rotate_left
  · (intro wS hSw; (try dsimp only at hSw); go_simp; try with_reducible rfl)
  try simp only [Act.put, pq0, pq1, pq2]
  refine uTk (i := 7) (some 10) (v := ?_) ?_ ?_
  rotate_left
  · (intro wS hSw; (try dsimp only at hSw); go_simp; try with_reducible rfl)
  try simp only [Act.put, pq0, pq1, pq2]
  refine uTk (i := 8) (some 11) (v := ?_) ?_ ?_
  rotate_left
  · (intro wS hSw; (try dsimp only at hSw); go_simp; try with_reducible rfl)
  try simp only [Act.put, pq0, pq1, pq2]
  refine uReady (rs := [9]) (by kernel_rfl) (by simp) ?_
  refine ReadyU.cons rfl (fun KK hKK => ?_) ReadyU.nil
  go_simp
  refine (Nn.bitsF HB.out hN.out (gS.sl (E4.out.fc 1 rfl))).mono ?_
  rintro e w5 ⟨rfl, hb⟩
  have E5 := Lib.hid (E4.out.below hb)
  clear E4 hb
  (try dsimp only)
  clear hHeld
  refine hKK.out _ _ (⟨((E5.out.bx 1 rfl).cell 0 rfl), ((E5.out.bx 1 rfl).cell 1 rfl)⟩) (fun hHeld => ?_)
  clear hKK KK
  try simp only [Act.put, pq0, pq1, pq2]
  refine uTk (i := 10) (some 13) (v := ?_) ?_ ?_
  rotate_left
  · (intro wS hSw; (try dsimp only at hSw); go_simp; try with_reducible rfl)
  try simp only [Act.put, pq0, pq1, pq2]
  refine uTk (i := 11) (some 14) (v := ?_) ?_ ?_
  rotate_left
  · (intro wS hSw; (try dsimp only at hSw); go_simp; try with_reducible rfl)
  try simp only [Act.put, pq0, pq1, pq2]
  refine uTk (i := 12) (some 15) (v := ?_) ?_ ?_
  rotate_left
  · (intro wS hSw; (try dsimp only at hSw); go_simp; try with_reducible rfl)
  try simp only [Act.put, pq0, pq1, pq2]
  refine uTk (i := 13) (some 16) (v := ?_) ?_ ?_
  rotate_left
  · (intro wS hSw; (try dsimp only at hSw); go_simp; try with_reducible rfl)
  try simp only [Act.put, pq0, pq1, pq2]
  refine uTk (i := 14) (some 17) (v := ?_) ?_ ?_
  rotate_left
  · (intro wS hSw; (try dsimp only at hSw); go_simp; try with_reducible rfl)
  try simp only [Act.put, pq0, pq1, pq2]
  refine uReady (rs := [15]) (by kernel_rfl) (by simp) ?_
  refine ReadyU.cons rfl (fun KK hKK => ?_) ReadyU.nil
  go_simp
  refine (small_c 15 (by decide)).mono ?_
  rintro e w6 ⟨⟨ua, uk, rfl, uh⟩, hb⟩
  have E6 := Lib.hid ((E5.out.below hb).noteS uh.out rfl)
  clear E5 hb uh
  (try dsimp only)
  clear hHeld
  refine hKK.out _ _ (⟨((E6.out.bx 1 rfl).cell 0 rfl), ((E6.out.bx 1 rfl).cell 1 rfl)⟩) (fun hHeld => ?_)
  clear hKK KK
  try simp only [Act.put, pq0, pq1, pq2]
  refine uReady (rs := [16]) (by kernel_rfl) (by simp) ?_
  refine ReadyU.cons rfl (fun KK hKK => ?_) ReadyU.nil
  go_simp
  refine (vbelow_c h15.out hN.out (len_small (by decide)) (gS.sl (E6.out.fc 2 rfl)) (gS.sl (E6.out.fc 0 rfl))).mono ?_
  rintro e w7 ⟨rfl, hb⟩
  have E7 := Lib.hid (E6.out.below hb)
  clear E6 hb
  (try dsimp only)
  clear hHeld
  refine hKK.out _ _ (⟨((E7.out.bx 1 rfl).cell 0 rfl), ((E7.out.bx 1 rfl).cell 1 rfl)⟩) (fun hHeld => ?_)
  clear hKK KK
  try simp only [Act.put, pq0, pq1, pq2]
  refine uTk (i := 17) (some 20) (v := ?_) ?_ ?_
  rotate_left
  · (intro wS hSw; (try dsimp only at hSw); go_simp; try with_reducible rfl)
  try simp only [Act.put, pq0, pq1, pq2]
  refine uTk (i := 18) (some 21) (v := ?_) ?_ ?_
  rotate_left
  · (intro wS hSw; (try dsimp only at hSw); go_simp; try with_reducible rfl)
  try simp only [Act.put, pq0, pq1, pq2]
  refine uTk (i := 19) (some 22) (v := ?_) ?_ ?_
  rotate_left
  · (intro wS hSw; (try dsimp only at hSw); go_simp; try with_reducible rfl)
  try simp only [Act.put, pq0, pq1, pq2]
  refine uTk (i := 20) (some 23) (v := ?_) ?_ ?_
  rotate_left
  · (intro wS hSw; (try dsimp only at hSw); go_simp; try with_reducible rfl)
  try simp only [Act.put, pq0, pq1, pq2]
  refine uTk (i := 21) (some 24) (v := ?_) ?_ ?_
  rotate_left
  · (intro wS hSw; (try dsimp only at hSw); go_simp; try with_reducible rfl)
  try simp only [Act.put, pq0, pq1, pq2]
  refine uReady (rs := [22]) (by kernel_rfl) (by simp) ?_
  refine ReadyU.cons rfl (fun KK hKK => ?_) ReadyU.nil
  go_simp
  refine (small_c 3 (by decide)).mono ?_
  rintro e w8 ⟨⟨va, vk, rfl, vh⟩, hb⟩
  have E8 := Lib.hid ((E7.out.below hb).noteS vh.out rfl)
  clear E7 hb vh
  (try dsimp only)
  clear hHeld
  refine hKK.out _ _ (⟨((E8.out.bx 1 rfl).cell 0 rfl), ((E8.out.bx 1 rfl).cell 1 rfl)⟩) (fun hHeld => ?_)
  clear hKK KK
  try simp only [Act.put, pq0, pq1, pq2]
  refine uReady (rs := [23]) (by kernel_rfl) (by simp) ?_
  refine ReadyU.cons rfl (fun KK hKK => ?_) ReadyU.nil
  go_simp
  refine (vbelow_c h3.out hE.out (len_small (by decide)) (gS.sl (E8.out.fc 2 rfl)) (gS.sl (E8.out.fc 0 rfl))).mono ?_
  rintro e w9 ⟨rfl, hb⟩
  have E9 := Lib.hid (E8.out.below hb)
  clear E8 hb
  (try dsimp only)
  clear hHeld
  refine hKK.out _ _ (⟨((E9.out.bx 1 rfl).cell 0 rfl), ((E9.out.bx 1 rfl).cell 1 rfl)⟩) (fun hHeld => ?_)
  clear hKK KK
  try simp only [Act.put, pq0, pq1, pq2]
  refine uTk (i := 24) (some 27) (v := ?_) ?_ ?_
  rotate_left
  · (intro wS hSw; (try dsimp only at hSw); go_simp; try with_reducible rfl)
  try simp only [Act.put, pq0, pq1, pq2]
  refine uTk (i := 25) (some 28) (v := ?_) ?_ ?_
  rotate_left
  · (intro wS hSw; (try dsimp only at hSw); go_simp; try with_reducible rfl)
  try simp only [Act.put, pq0, pq1, pq2]
  refine uTk (i := 26) (some 29) (v := ?_) ?_ ?_
  rotate_left
  · (intro wS hSw; (try dsimp only at hSw); go_simp; try with_reducible rfl)
  try simp only [Act.put, pq0, pq1, pq2]
  refine uPs (i := 27) (some 30) ?_
  try simp only [Act.put, pq0, pq1, pq2]
  refine uPs (i := 28) (some 31) ?_
  try simp only [Act.put, pq0, pq1, pq2]
  refine uPs (i := 29) (some 32) ?_
  try simp only [Act.put, pq0, pq1, pq2]
  refine uPs (i := 30) (some 33) ?_
  try simp only [Act.put, pq0, pq1, pq2]
  refine uPs (i := 31) (some 34) ?_
  try simp only [Act.put, pq0, pq1, pq2]
  refine uTk (i := 32) (some 35) (v := ?_) ?_ ?_
  rotate_left
  · (intro wS hSw; (try dsimp only at hSw); go_simp; try with_reducible rfl)
  try simp only [Act.put, pq0, pq1, pq2]
  refine uTk (i := 33) (some 2) (v := ?_) ?_ ?_
  rotate_left
  · (intro wS hSw; (try dsimp only at hSw); go_simp; try with_reducible rfl)
  try simp only [Act.put, pq0, pq1, pq2]
  refine uDone (by kernel_rfl) ?_ _
  have hfin := Lib.hid E9.out.bel
  go_wp2
  go_ret
  exact ⟨rfl, hfin.out⟩
set_option maxRecDepth 100000 in
set_option maxHeartbeats 4000000 in
theorem Valid_5 (N E : Nat) {xa ya : Option Addr} {xk yk : Nat} {w : World} (ha : Nn.Sl w (.slice xa (Nn.NatMath.len N) xk) (Nn.NatMath.digs N)) (hb : Nn.Sl w (.slice ya (Nn.NatMath.len E) yk) (Nn.NatMath.digs E)) (hN0 : Nn.NatMath.len N ≤ 64) (hE0 : Nn.NatMath.len E ≤ 64) (HV0 : [Nn.NatMath.digs N, Nn.NatMath.digs E].all Nn.vld = true) (hbl0 : Nn.NatMath.bl N ≤ 512) (h150 : decide (N < 15) = false) (h30 : decide (E < 3) = false) (hl0 : decide (E < N) = false) :
    Calls Tryz.prog 33 #[.agg #[.slice xa (Nn.NatMath.len N) xk, .slice ya (Nn.NatMath.len E) yk]] w fun e w' => e = .returned (.bool false) ∧ Below w.heap.size w w' := by
  have E0 := Lib.hid (((Env.start (fun _ => True) w).argS ha).argS hb)
  clear ha hb
  go_enter Tryz.func33, Tryz.ntmps33
  have hN := Lib.hid hN0
  have hE := Lib.hid hE0
  have HV := Lib.hid HV0
  have hbl := Lib.hid hbl0
  have h15 := Lib.hid h150
  have h3 := Lib.hid h30
  have hl := Lib.hid hl0
  clear hN0 hE0 HV0 hbl0 h150 h30 hl0
  obtain ⟨nb, hb⟩ : ∃ nb, Nn.NatMath.bl N = nb := ⟨_, rfl⟩
  have HB := Lib.hid hb
  have t1 : decide ((nb : Int) ≤ 512) = true := by have h := hbl.out; rw [hb] at h; exact decide_eq_true (by omega)
  have t1n : decide (nb ≤ 512) = true := by have h := hbl.out; rw [hb] at h; exact decide_eq_true (by omega)
  clear hb
  go_wp2_with fail
  have E1 : Hid (Env (fun _ => True) w [(w.heap.size, 26, [.slice xa (Nn.NatMath.len N) xk, .slice ya (Nn.NatMath.len E) yk])] [.gn (gS (.slice ya (Nn.NatMath.len E) yk) (Nn.NatMath.digs E)), .gn (gS (.slice xa (Nn.NatMath.len N) xk) (Nn.NatMath.digs N))] _) := Lib.hid ((E0.out.push 26 [.slice xa (Nn.NatMath.len N) xk, .slice ya (Nn.NatMath.len E) yk] (w.heap.size) (by simp)))
  clear E0
  generalize w.alloc (.cells #[.slice xa (Nn.NatMath.len N) xk, .slice ya (Nn.NatMath.len E) yk] 26) = w1 at *
  have E2 := Lib.hid E1.out.drew
  clear E1
  refine wp_regionU (S := fun w' => w'.cell? ⟨w.heap.size, 0, none⟩ = some (.slice xa (Nn.NatMath.len N) xk) ∧ w'.cell? ⟨w.heap.size, 1, none⟩ = some (.slice ya (Nn.NatMath.len E) yk)) [] (by kernel_rfl) (⟨((E2.out.bx 0 rfl).cell 0 rfl), ((E2.out.bx 0 rfl).cell 1 rfl)⟩) (fun hHeld => ?_)
  generalize w1.drew = w2 at *
  refine uTk (i := 0) (some 3) (v := ?_) ?_ ?_
  rotate_left
  · (intro wS hSw; (try dsimp only at hSw); go_simp; try with_reducible rfl)
  try simp only [Act.put, pq0, pq1, pq2]
  refine uTk (i := 1) (some 4) (v := ?_) ?_ ?_
  rotate_left
  · (intro wS hSw; (try dsimp only at hSw); go_simp; try with_reducible rfl)
  try simp only [Act.put, pq0, pq1, pq2]
  refine uTk (i := 2) (some 5) (v := ?_) ?_ ?_
  rotate_left
  · (intro wS hSw; (try dsimp only at hSw); go_simp; try with_reducible rfl)
  try simp only [Act.put, pq0, pq1, pq2]
  refine uTk (i := 3) (some 6) (v := ?_) ?_ ?_
  rotate_left
  · (intro wS hSw; (try dsimp only at hSw); go_simp; try with_reducible rfl)
  try simp only [Act.put, pq0, pq1, pq2]
  refine uReady (rs := [4]) (by kernel_rfl) (by simp) ?_
  refine ReadyU.cons rfl (fun KK hKK => ?_) ReadyU.nil
  go_simp
  have E3 : Hid (Env (fun _ => True) w [(w2.heap.size, 24, [.slice xa (Nn.NatMath.len N) xk, .slice ya (Nn.NatMath.len E) yk]), (w.heap.size, 26, [.slice xa (Nn.NatMath.len N) xk, .slice ya (Nn.NatMath.len E) yk])] [.gn (gS (.slice ya (Nn.NatMath.len E) yk) (Nn.NatMath.digs E)), .gn (gS (.slice xa (Nn.NatMath.len N) xk) (Nn.NatMath.digs N))] _) := Lib.hid ((E2.out.push 24 [.slice xa (Nn.NatMath.len N) xk, .slice ya (Nn.NatMath.len E) yk] (w2.heap.size) (by simp)))
  (try dsimp only)
  clear hHeld
  refine hKK.out _ _ (⟨((E3.out.bx 1 rfl).cell 0 rfl), ((E3.out.bx 1 rfl).cell 1 rfl)⟩) (fun hHeld => ?_)
  clear hKK KK
  try simp only [Act.put, pq0, pq1, pq2]
  clear E2
  generalize w2.alloc (.cells #[.slice xa (Nn.NatMath.len N) xk, .slice ya (Nn.NatMath.len E) yk] 24) = w3 at *
  refine uReady (rs := [5]) (by kernel_rfl) (by simp) ?_
  refine ReadyU.cons rfl (fun KK hKK => ?_) ReadyU.nil
  go_simp
  refine (valid_c [(Nn.NatMath.digs N), (Nn.NatMath.digs E)] (xb := w2.heap.size) (xo := 0) (xk := 2) (gNs.box (E3.out.bx 0 rfl) ⟨(gS.sl (E3.out.fc 1 rfl)), ⟨(gS.sl (E3.out.fc 0 rfl)), trivial⟩⟩) (t := true) HV.out (by simp)).mono ?_
  rintro e w4 ⟨rfl, hb⟩
  have E4 := Lib.hid (E3.out.below hb)
  clear E3 hb
  (try dsimp only)
  clear hHeld
  refine hKK.out _ _ (⟨((E4.out.bx 1 rfl).cell 0 rfl), ((E4.out.bx 1 rfl).cell 1 rfl)⟩) (fun hHeld => ?_)
  clear hKK KK
  try simp only [Act.put, pq0, pq1, pq2]
  refine uTk (i := 6) (some 9) (v := ?_) ?_ ?_
  rotate_left
  · (intro wS hSw; (try dsimp only at hSw); go_simp; try with_reducible rfl)
  try simp only [Act.put, pq0, pq1, pq2]
  refine uTk (i := 7) (some 10) (v := ?_) ?_ ?_
  rotate_left
  · (intro wS hSw; (try dsimp only at hSw); go_simp; try with_reducible rfl)
  try simp only [Act.put, pq0, pq1, pq2]
  refine uTk (i := 8) (some 11) (v := ?_) ?_ ?_
  rotate_left
  · (intro wS hSw; (try dsimp only at hSw); go_simp; try with_reducible rfl)
  try simp only [Act.put, pq0, pq1, pq2]
  refine uReady (rs := [9]) (by kernel_rfl) (by simp) ?_
  refine ReadyU.cons rfl (fun KK hKK => ?_) ReadyU.nil
  go_simp
  refine (Nn.bitsF HB.out hN.out (gS.sl (E4.out.fc 1 rfl))).mono ?_
  rintro e w5 ⟨rfl, hb⟩
  have E5 := Lib.hid (E4.out.below hb)
  clear E4 hb
  (try dsimp only)
  clear hHeld
  refine hKK.out _ _ (⟨((E5.out.bx 1 rfl).cell 0 rfl), ((E5.out.bx 1 rfl).cell 1 rfl)⟩) (fun hHeld => ?_)
  clear hKK KK
  try simp only [Act.put, pq0, pq1, pq2]
  refine uTk (i := 10) (some 13) (v := ?_) ?_ ?_
  rotate_left
  · (intro wS hSw; (try dsimp only at hSw); go_simp; try with_reducible rfl)
  try simp only [Act.put, pq0, pq1, pq2]
  refine uTk (i := 11) (some 14) (v := ?_) ?_ ?_
  rotate_left
  · (intro wS hSw; (try dsimp only at hSw); go_simp; try with_reducible rfl)
  try simp only [Act.put, pq0, pq1, pq2]
  refine uTk (i := 12) (some 15) (v := ?_) ?_ ?_
  rotate_left
  · (intro wS hSw; (try dsimp only at hSw); go_simp; try with_reducible rfl)
  try simp only [Act.put, pq0, pq1, pq2]
  refine uTk (i := 13) (some 16) (v := ?_) ?_ ?_
  rotate_left
  · (intro wS hSw; (try dsimp only at hSw); go_simp; try with_reducible rfl)
  try simp only [Act.put, pq0, pq1, pq2]
  refine uTk (i := 14) (some 17) (v := ?_) ?_ ?_
  rotate_left
  · (intro wS hSw; (try dsimp only at hSw); go_simp; try with_reducible rfl)
  try simp only [Act.put, pq0, pq1, pq2]
  refine uReady (rs := [15]) (by kernel_rfl) (by simp) ?_
  refine ReadyU.cons rfl (fun KK hKK => ?_) ReadyU.nil
  go_simp
  refine (small_c 15 (by decide)).mono ?_
  rintro e w6 ⟨⟨ua, uk, rfl, uh⟩, hb⟩
  have E6 := Lib.hid ((E5.out.below hb).noteS uh.out rfl)
  clear E5 hb uh
  (try dsimp only)
  clear hHeld
  refine hKK.out _ _ (⟨((E6.out.bx 1 rfl).cell 0 rfl), ((E6.out.bx 1 rfl).cell 1 rfl)⟩) (fun hHeld => ?_)
  clear hKK KK
  try simp only [Act.put, pq0, pq1, pq2]
  refine uReady (rs := [16]) (by kernel_rfl) (by simp) ?_
  refine ReadyU.cons rfl (fun KK hKK => ?_) ReadyU.nil
  go_simp
  refine (vbelow_c h15.out hN.out (len_small (by decide)) (gS.sl (E6.out.fc 2 rfl)) (gS.sl (E6.out.fc 0 rfl))).mono ?_
  rintro e w7 ⟨rfl, hb⟩
  have E7 := Lib.hid (E6.out.below hb)
  clear E6 hb
  (try dsimp only)
  clear hHeld
  refine hKK.out _ _ (⟨((E7.out.bx 1 rfl).cell 0 rfl), ((E7.out.bx 1 rfl).cell 1 rfl)⟩) (fun hHeld => ?_)
  clear hKK KK
  try simp only [Act.put, pq0, pq1, pq2]
  refine uTk (i := 17) (some 20) (v := ?_) ?_ ?_
  rotate_left
  · (intro wS hSw; (try dsimp only at hSw); go_simp; try with_reducible rfl)
  try simp only [Act.put, pq0, pq1, pq2]
  refine uTk (i := 18) (some 21) (v := ?_) ?_ ?_
  rotate_left
  · (intro wS hSw; (try dsimp only at hSw); go_simp; try with_reducible rfl)
  try simp only [Act.put, pq0, pq1, pq2]
  refine uTk (i := 19) (some 22) (v := ?_) ?_ ?_
  rotate_left
  · (intro wS hSw; (try dsimp only at hSw); go_simp; try with_reducible rfl)
  try simp only [Act.put, pq0, pq1, pq2]
  refine uTk (i := 20) (some 23) (v := ?_) ?_ ?_
  rotate_left
  · (intro wS hSw; (try dsimp only at hSw); go_simp; try with_reducible rfl)
  try simp only [Act.put, pq0, pq1, pq2]
  refine uTk (i := 21) (some 24) (v := ?_) ?_ ?_
  rotate_left
  · (intro wS hSw; (try dsimp only at hSw); go_simp; try with_reducible rfl)
  try simp only [Act.put, pq0, pq1, pq2]
  refine uReady (rs := [22]) (by kernel_rfl) (by simp) ?_
  refine ReadyU.cons rfl (fun KK hKK => ?_) ReadyU.nil
  go_simp
  refine (small_c 3 (by decide)).mono ?_
  rintro e w8 ⟨⟨va, vk, rfl, vh⟩, hb⟩
  have E8 := Lib.hid ((E7.out.below hb).noteS vh.out rfl)
  clear E7 hb vh
  (try dsimp only)
  clear hHeld
  refine hKK.out _ _ (⟨((E8.out.bx 1 rfl).cell 0 rfl), ((E8.out.bx 1 rfl).cell 1 rfl)⟩) (fun hHeld => ?_)
  clear hKK KK
  try simp only [Act.put, pq0, pq1, pq2]
  refine uReady (rs := [23]) (by kernel_rfl) (by simp) ?_
  refine ReadyU.cons rfl (fun KK hKK => ?_) ReadyU.nil
  go_simp
  refine (vbelow_c h3.out hE.out (len_small (by decide)) (gS.sl (E8.out.fc 2 rfl)) (gS.sl (E8.out.fc 0 rfl))).mono ?_
  rintro e w9 ⟨rfl, hb⟩
  have E9 := Lib.hid (E8.out.below hb)
  clear E8 hb
  (try dsimp only)
  clear hHeld
  refine hKK.out _ _ (⟨((E9.out.bx 1 rfl).cell 0 rfl), ((E9.out.bx 1 rfl).cell 1 rfl)⟩) (fun hHeld => ?_)
  clear hKK KK
  try simp only [Act.put, pq0, pq1, pq2]
  refine uTk (i := 24) (some 27) (v := ?_) ?_ ?_
  rotate_left
  · (intro wS hSw; (try dsimp only at hSw); go_simp; try with_reducible rfl)
  try simp only [Act.put, pq0, pq1, pq2]
  refine uTk (i := 25) (some 28) (v := ?_) ?_ ?_
  rotate_left
  · (intro wS hSw; (try dsimp only at hSw); go_simp; try with_reducible rfl)
  try simp only [Act.put, pq0, pq1, pq2]
  refine uTk (i := 26) (some 29) (v := ?_) ?_ ?_
  rotate_left
  · (intro wS hSw; (try dsimp only at hSw); go_simp; try with_reducible rfl)
  try simp only [Act.put, pq0, pq1, pq2]
  refine uTk (i := 27) (some 30) (v := ?_) ?_ ?_
  rotate_left
  · (intro wS hSw; (try dsimp only at hSw); go_simp; try with_reducible rfl)
  try simp only [Act.put, pq0, pq1, pq2]
  refine uTk (i := 28) (some 31) (v := ?_) ?_ ?_
  rotate_left
  · (intro wS hSw; (try dsimp only at hSw); go_simp; try with_reducible rfl)
  try simp only [Act.put, pq0, pq1, pq2]
  refine uTk (i := 29) (some 32) (v := ?_) ?_ ?_
  rotate_left
  · (intro wS hSw; (try dsimp only at hSw); go_simp; try with_reducible rfl)
  try simp only [Act.put, pq0, pq1, pq2]
  refine uTk (i := 30) (some 33) (v := ?_) ?_ ?_
  rotate_left
  · (intro wS hSw; (try dsimp only at hSw); go_simp; try with_reducible rfl)
  try simp only [Act.put, pq0, pq1, pq2]
  refine uReady (rs := [31]) (by kernel_rfl) (by simp) ?_
  refine ReadyU.cons rfl (fun KK hKK => ?_) ReadyU.nil
  go_simp
  refine (vbelow_c hl.out hE.out hN.out (gS.sl (E9.out.fc 2 rfl)) (gS.sl (E9.out.fc 3 rfl))).mono ?_
  rintro e w10 ⟨rfl, hb⟩
  have E10 := Lib.hid (E9.out.below hb)
  clear E9 hb
  (try dsimp only)
  clear hHeld
  refine hKK.out _ _ (⟨((E10.out.bx 1 rfl).cell 0 rfl), ((E10.out.bx 1 rfl).cell 1 rfl)⟩) (fun hHeld => ?_)
  clear hKK KK
  try simp only [Act.put, pq0, pq1, pq2]
  refine uTk (i := 32) (some 35) (v := ?_) ?_ ?_
  rotate_left
  · (intro wS hSw; (try dsimp only at hSw); go_simp; try with_reducible rfl)
  try simp only [Act.put, pq0, pq1, pq2]
  refine uTk (i := 33) (some 2) (v := ?_) ?_ ?_
  rotate_left
  · (intro wS hSw; (try dsimp only at hSw); go_simp; try with_reducible rfl)
  try simp only [Act.put, pq0, pq1, pq2]
  refine uDone (by kernel_rfl) ?_ _
  have hfin := Lib.hid E10.out.bel
  go_wp2
  go_ret
  exact ⟨rfl, hfin.out⟩
set_option maxRecDepth 100000 in
set_option maxHeartbeats 4000000 in
theorem Valid_6 (N E : Nat) {xa ya : Option Addr} {xk yk : Nat} {w : World} (ha : Nn.Sl w (.slice xa (Nn.NatMath.len N) xk) (Nn.NatMath.digs N)) (hb : Nn.Sl w (.slice ya (Nn.NatMath.len E) yk) (Nn.NatMath.digs E)) (hN0 : Nn.NatMath.len N ≤ 64) (hE0 : Nn.NatMath.len E ≤ 64) (HV0 : [Nn.NatMath.digs N, Nn.NatMath.digs E].all Nn.vld = true) (hbl0 : Nn.NatMath.bl N ≤ 512) (h150 : decide (N < 15) = false) (h30 : decide (E < 3) = false) (hl0 : decide (E < N) = true) :
    Calls Tryz.prog 33 #[.agg #[.slice xa (Nn.NatMath.len N) xk, .slice ya (Nn.NatMath.len E) yk]] w fun e w' => e = .returned (.bool true) ∧ Below w.heap.size w w' := by
  have E0 := Lib.hid (((Env.start (fun _ => True) w).argS ha).argS hb)
  clear ha hb
  go_enter Tryz.func33, Tryz.ntmps33
  have hN := Lib.hid hN0
  have hE := Lib.hid hE0
  have HV := Lib.hid HV0
  have hbl := Lib.hid hbl0
  have h15 := Lib.hid h150
  have h3 := Lib.hid h30
  have hl := Lib.hid hl0
  clear hN0 hE0 HV0 hbl0 h150 h30 hl0
  obtain ⟨nb, hb⟩ : ∃ nb, Nn.NatMath.bl N = nb := ⟨_, rfl⟩
  have HB := Lib.hid hb
  have t1 : decide ((nb : Int) ≤ 512) = true := by have h := hbl.out; rw [hb] at h; exact decide_eq_true (by omega)
  have t1n : decide (nb ≤ 512) = true := by have h := hbl.out; rw [hb] at h; exact decide_eq_true (by omega)
  clear hb
  go_wp2_with fail
  have E1 : Hid (Env (fun _ => True) w [(w.heap.size, 26, [.slice xa (Nn.NatMath.len N) xk, .slice ya (Nn.NatMath.len E) yk])] [.gn (gS (.slice ya (Nn.NatMath.len E) yk) (Nn.NatMath.digs E)), .gn (gS (.slice xa (Nn.NatMath.len N) xk) (Nn.NatMath.digs N))] _) := Lib.hid ((E0.out.push 26 [.slice xa (Nn.NatMath.len N) xk, .slice ya (Nn.NatMath.len E) yk] (w.heap.size) (by simp)))
  clear E0
  generalize w.alloc (.cells #[.slice xa (Nn.NatMath.len N) xk, .slice ya (Nn.NatMath.len E) yk] 26) = w1 at *
  have E2 := Lib.hid E1.out.drew
  clear E1
  refine wp_regionU (S := fun w' => w'.cell? ⟨w.heap.size, 0, none⟩ = some (.slice xa (Nn.NatMath.len N) xk) ∧ w'.cell? ⟨w.heap.size, 1, none⟩ = some (.slice ya (Nn.NatMath.len E) yk)) [] (by kernel_rfl) (⟨((E2.out.bx 0 rfl).cell 0 rfl), ((E2.out.bx 0 rfl).cell 1 rfl)⟩) (fun hHeld => ?_)
  generalize w1.drew = w2 at *
  refine uTk (i := 0) (some 3) (v := ?_) ?_ ?_
  rotate_left
  · (intro wS hSw; (try dsimp only at hSw); go_simp; try with_reducible rfl)
  try simp only [Act.put, pq0, pq1, pq2]
  refine uTk (i := 1) (some 4) (v := ?_) ?_ ?_
  rotate_left
  · (intro wS hSw; (try dsimp only at hSw); go_simp; try with_reducible rfl)
  try simp only [Act.put, pq0, pq1, pq2]
  refine uTk (i := 2) (some 5) (v := ?_) ?_ ?_
  rotate_left
  · (intro wS hSw; (try dsimp only at hSw); go_simp; try with_reducible rfl)
  try simp only [Act.put, pq0, pq1, pq2]
  refine uTk (i := 3) (some 6) (v := ?_) ?_ ?_
  rotate_left
  · (intro wS hSw; (try dsimp only at hSw); go_simp; try with_reducible rfl)
  try simp only [Act.put, pq0, pq1, pq2]
  refine uReady (rs := [4]) (by kernel_rfl) (by simp) ?_
  refine ReadyU.cons rfl (fun KK hKK => ?_) ReadyU.nil
  go_simp
  have E3 : Hid (Env (fun _ => True) w [(w2.heap.size, 24, [.slice xa (Nn.NatMath.len N) xk, .slice ya (Nn.NatMath.len E) yk]), (w.heap.size, 26, [.slice xa (Nn.NatMath.len N) xk, .slice ya (Nn.NatMath.len E) yk])] [.gn (gS (.slice ya (Nn.NatMath.len E) yk) (Nn.NatMath.digs E)), .gn (gS (.slice xa (Nn.NatMath.len N) xk) (Nn.NatMath.digs N))] _) := Lib.hid ((E2.out.push 24 [.slice xa (Nn.NatMath.len N) xk, .slice ya (Nn.NatMath.len E) yk] (w2.heap.size) (by simp)))
  (try dsimp only)
  clear hHeld
  refine hKK.out _ _ (⟨((E3.out.bx 1 rfl).cell 0 rfl), ((E3.out.bx 1 rfl).cell 1 rfl)⟩) (fun hHeld => ?_)
  clear hKK KK
  try simp only [Act.put, pq0, pq1, pq2]
  clear E2
  generalize w2.alloc (.cells #[.slice xa (Nn.NatMath.len N) xk, .slice ya (Nn.NatMath.len E) yk] 24) = w3 at *
  refine uReady (rs := [5]) (by kernel_rfl) (by simp) ?_
  refine ReadyU.cons rfl (fun KK hKK => ?_) ReadyU.nil
  go_simp
  refine (valid_c [(Nn.NatMath.digs N), (Nn.NatMath.digs E)] (xb := w2.heap.size) (xo := 0) (xk := 2) (gNs.box (E3.out.bx 0 rfl) ⟨(gS.sl (E3.out.fc 1 rfl)), ⟨(gS.sl (E3.out.fc 0 rfl)), trivial⟩⟩) (t := true) HV.out (by simp)).mono ?_
  rintro e w4 ⟨rfl, hb⟩
  have E4 := Lib.hid (E3.out.below hb)
  clear E3 hb
  (try dsimp only)
  clear hHeld
  refine hKK.out _ _ (⟨((E4.out.bx 1 rfl).cell 0 rfl), ((E4.out.bx 1 rfl).cell 1 rfl)⟩) (fun hHeld => ?_)
  clear hKK KK
  try simp only [Act.put, pq0, pq1, pq2]
  refine uTk (i := 6) (some 9) (v := ?_) ?_ ?_
  rotate_left
  · (intro wS hSw; (try dsimp only at hSw); go_simp; try with_reducible rfl)
  try simp only [Act.put, pq0, pq1, pq2]
  refine uTk (i := 7) (some 10) (v := ?_) ?_ ?_
  rotate_left
  · (intro wS hSw; (try dsimp only at hSw); go_simp; try with_reducible rfl)
  try simp only [Act.put, pq0, pq1, pq2]
  refine uTk (i := 8) (some 11) (v := ?_) ?_ ?_
  rotate_left
  · (intro wS hSw; (try dsimp only at hSw); go_simp; try with_reducible rfl)
  try simp only [Act.put, pq0, pq1, pq2]
  refine uReady (rs := [9]) (by kernel_rfl) (by simp) ?_
  refine ReadyU.cons rfl (fun KK hKK => ?_) ReadyU.nil
  go_simp
  refine (Nn.bitsF HB.out hN.out (gS.sl (E4.out.fc 1 rfl))).mono ?_
  rintro e w5 ⟨rfl, hb⟩
  have E5 := Lib.hid (E4.out.below hb)
  clear E4 hb
  (try dsimp only)
  clear hHeld
  refine hKK.out _ _ (⟨((E5.out.bx 1 rfl).cell 0 rfl), ((E5.out.bx 1 rfl).cell 1 rfl)⟩) (fun hHeld => ?_)
  clear hKK KK
  try simp only [Act.put, pq0, pq1, pq2]
  refine uTk (i := 10) (some 13) (v := ?_) ?_ ?_
  rotate_left
  · (intro wS hSw; (try dsimp only at hSw); go_simp; try with_reducible rfl)
  try simp only [Act.put, pq0, pq1, pq2]
  refine uTk (i := 11) (some 14) (v := ?_) ?_ ?_
  rotate_left
  · (intro wS hSw; (try dsimp only at hSw); go_simp; try with_reducible rfl)
  try simp only [Act.put, pq0, pq1, pq2]
  refine uTk (i := 12) (some 15) (v := ?_) ?_ ?_
  rotate_left
  · (intro wS hSw; (try dsimp only at hSw); go_simp; try with_reducible rfl)
  try simp only [Act.put, pq0, pq1, pq2]
  refine uTk (i := 13) (some 16) (v := ?_) ?_ ?_
  rotate_left
  · (intro wS hSw; (try dsimp only at hSw); go_simp; try with_reducible rfl)
  try simp only [Act.put, pq0, pq1, pq2]
  refine uTk (i := 14) (some 17) (v := ?_) ?_ ?_
  rotate_left
  · (intro wS hSw; (try dsimp only at hSw); go_simp; try with_reducible rfl)
  try simp only [Act.put, pq0, pq1, pq2]
  refine uReady (rs := [15]) (by kernel_rfl) (by simp) ?_
  refine ReadyU.cons rfl (fun KK hKK => ?_) ReadyU.nil
  go_simp
  refine (small_c 15 (by decide)).mono ?_
  rintro e w6 ⟨⟨ua, uk, rfl, uh⟩, hb⟩
  have E6 := Lib.hid ((E5.out.below hb).noteS uh.out rfl)
  clear E5 hb uh
  (try dsimp only)
  clear hHeld
  refine hKK.out _ _ (⟨((E6.out.bx 1 rfl).cell 0 rfl), ((E6.out.bx 1 rfl).cell 1 rfl)⟩) (fun hHeld => ?_)
  clear hKK KK
  try simp only [Act.put, pq0, pq1, pq2]
  refine uReady (rs := [16]) (by kernel_rfl) (by simp) ?_
  refine ReadyU.cons rfl (fun KK hKK => ?_) ReadyU.nil
  go_simp
  refine (vbelow_c h15.out hN.out (len_small (by decide)) (gS.sl (E6.out.fc 2 rfl)) (gS.sl (E6.out.fc 0 rfl))).mono ?_
  rintro e w7 ⟨rfl, hb⟩
  have E7 := Lib.hid (E6.out.below hb)
  clear E6 hb
  (try dsimp only)
  clear hHeld
  refine hKK.out _ _ (⟨((E7.out.bx 1 rfl).cell 0 rfl), ((E7.out.bx 1 rfl).cell 1 rfl)⟩) (fun hHeld => ?_)
  clear hKK KK
  try simp only [Act.put, pq0, pq1, pq2]
  refine uTk (i := 17) (some 20) (v := ?_) ?_ ?_
  rotate_left
  · (intro wS hSw; (try dsimp only at hSw); go_simp; try with_reducible rfl)
  try simp only [Act.put, pq0, pq1, pq2]
  refine uTk (i := 18) (some 21) (v := ?_) ?_ ?_
  rotate_left
  · (intro wS hSw; (try dsimp only at hSw); go_simp; try with_reducible rfl)
  try simp only [Act.put, pq0, pq1, pq2]
  refine uTk (i := 19) (some 22) (v := ?_) ?_ ?_
  rotate_left
  · (intro wS hSw; (try dsimp only at hSw); go_simp; try with_reducible rfl)
  try simp only [Act.put, pq0, pq1, pq2]
  refine uTk (i := 20) (some 23) (v := ?_) ?_ ?_
  rotate_left
  · (intro wS hSw; (try dsimp only at hSw); go_simp; try with_reducible rfl)
  try simp only [Act.put, pq0, pq1, pq2]
  refine uTk (i := 21) (some 24) (v := ?_) ?_ ?_
  rotate_left
  · (intro wS hSw; (try dsimp only at hSw); go_simp; try with_reducible rfl)
  try simp only [Act.put, pq0, pq1, pq2]
  refine uReady (rs := [22]) (by kernel_rfl) (by simp) ?_
  refine ReadyU.cons rfl (fun KK hKK => ?_) ReadyU.nil
  go_simp
  refine (small_c 3 (by decide)).mono ?_
  rintro e w8 ⟨⟨va, vk, rfl, vh⟩, hb⟩
  have E8 := Lib.hid ((E7.out.below hb).noteS vh.out rfl)
  clear E7 hb vh
  (try dsimp only)
  clear hHeld
  refine hKK.out _ _ (⟨((E8.out.bx 1 rfl).cell 0 rfl), ((E8.out.bx 1 rfl).cell 1 rfl)⟩) (fun hHeld => ?_)
  clear hKK KK
  try simp only [Act.put, pq0, pq1, pq2]
  refine uReady (rs := [23]) (by kernel_rfl) (by simp) ?_
  refine ReadyU.cons rfl (fun KK hKK => ?_) ReadyU.nil
  go_simp
  refine (vbelow_c h3.out hE.out (len_small (by decide)) (gS.sl (E8.out.fc 2 rfl)) (gS.sl (E8.out.fc 0 rfl))).mono ?_
  rintro e w9 ⟨rfl, hb⟩
  have E9 := Lib.hid (E8.out.below hb)
  clear E8 hb
  (try dsimp only)
  clear hHeld
  refine hKK.out _ _ (⟨((E9.out.bx 1 rfl).cell 0 rfl), ((E9.out.bx 1 rfl).cell 1 rfl)⟩) (fun hHeld => ?_)
  clear hKK KK
  try simp only [Act.put, pq0, pq1, pq2]
  refine uTk (i := 24) (some 27) (v := ?_) ?_ ?_
  rotate_left
  · (intro wS hSw; (try dsimp only at hSw); go_simp; try with_reducible rfl)
  try simp only [Act.put, pq0, pq1, pq2]
  refine uTk (i := 25) (some 28) (v := ?_) ?_ ?_
  rotate_left
  · (intro wS hSw; (try dsimp only at hSw); go_simp; try with_reducible rfl)
  try simp only [Act.put, pq0, pq1, pq2]
  refine uTk (i := 26) (some 29) (v := ?_) ?_ ?_
  rotate_left
  · (intro wS hSw; (try dsimp only at hSw); go_simp; try with_reducible rfl)
  try simp only [Act.put, pq0, pq1, pq2]
  refine uTk (i := 27) (some 30) (v := ?_) ?_ ?_
  rotate_left
  · (intro wS hSw; (try dsimp only at hSw); go_simp; try with_reducible rfl)
  try simp only [Act.put, pq0, pq1, pq2]
  refine uTk (i := 28) (some 31) (v := ?_) ?_ ?_
  rotate_left
  · (intro wS hSw; (try dsimp only at hSw); go_simp; try with_reducible rfl)
  try simp only [Act.put, pq0, pq1, pq2]
  refine uTk (i := 29) (some 32) (v := ?_) ?_ ?_
  rotate_left
  · (intro wS hSw; (try dsimp only at hSw); go_simp; try with_reducible rfl)
  try simp only [Act.put, pq0, pq1, pq2]
  refine uTk (i := 30) (some 33) (v := ?_) ?_ ?_
  rotate_left
  · (intro wS hSw; (try dsimp only at hSw); go_simp; try with_reducible rfl)
  try simp only [Act.put, pq0, pq1, pq2]
  refine uReady (rs := [31]) (by kernel_rfl) (by simp) ?_
  refine ReadyU.cons rfl (fun KK hKK => ?_) ReadyU.nil
  go_simp
  refine (vbelow_c hl.out hE.out hN.out (gS.sl (E9.out.fc 2 rfl)) (gS.sl (E9.out.fc 3 rfl))).mono ?_
  rintro e w10 ⟨rfl, hb⟩
  have E10 := Lib.hid (E9.out.below hb)
  clear E9 hb
  (try dsimp only)
  clear hHeld
  refine hKK.out _ _ (⟨((E10.out.bx 1 rfl).cell 0 rfl), ((E10.out.bx 1 rfl).cell 1 rfl)⟩) (fun hHeld => ?_)
  clear hKK KK
  try simp only [Act.put, pq0, pq1, pq2]
  refine uTk (i := 32) (some 35) (v := ?_) ?_ ?_
  rotate_left
  · (intro wS hSw; (try dsimp only at hSw); go_simp; try with_reducible rfl)
  try simp only [Act.put, pq0, pq1, pq2]
  refine uTk (i := 33) (some 2) (v := ?_) ?_ ?_
  rotate_left
  · (intro wS hSw; (try dsimp only at hSw); go_simp; try with_reducible rfl)
  try simp only [Act.put, pq0, pq1, pq2]
  refine uDone (by kernel_rfl) ?_ _
  have hfin := Lib.hid E10.out.bel
  go_wp2
  go_ret
  exact ⟨rfl, hfin.out⟩
end Go.Proofs.YtikopkkebdobdaaGreatDoor

/- is a spend stored already. -/
import Derived.Test.YtfnnfmefihiefaaSpGa
namespace Go.Proofs.Ytfnnfmefihiefaa
open Go.RowKit
set_option linter.unusedVariables false
set_option linter.unusedSimpArgs false
theorem ce_any {W : World} {D : Nat → Prop} {g i : Nat} {v : Value} (h : Fct.at W D (.ce g i v)) : Fct.at W (fun _ => True) (.ce g i v) := Fct.any h
noncomputable def eqSp (s t : Sp) : Bool := @decide (s = t) (Classical.propDecidable _)
theorem eqSp_iff {s t : Sp} : eqSp s t = true ↔ s = t := by unfold eqSp; exact @decide_eq_true_iff _ (Classical.propDecidable _)
def InB (n : Nat) (k : Int) : Prop := ∃ m : Nat, k = (m : Int) ∧ m < n
/-- is the first use of the leaf x of the spend s that of spend number k? -/
def usedB (M : Mk) (s : Sp) (k : Int) (x : Int × Int × Int) : Bool := (((M (cInt s.cn 4) x.1).getD 0 : Nat) : Int) == k
/-- is spend number k the spend s, and the first use of one of its leaves? -/
noncomputable def sameK (S : List Sp) (M : Mk) (s : Sp) (k : Int) : Bool := (match S[k.toNat]? with | some t => eqSp t s | none => false) && s.lv.any (fun x => usedB M s k x)
set_option maxRecDepth 100000 in
set_option maxHeartbeats 1000000 in
theorem c28_c {D : Nat → Prop} (x : Int × Int × Int) (s : Sp) (kI : Int) (fb sb kb mb n : Nat) (M : Mk) {la pa : Value} {w : World} (hf : Fct.at w D (.ce fb 0 (.map (some mb)))) (hr : Fct.at w D (.gn (gRg sb 0 (spc s la pa)))) (hs : Fct.at w D (.gn (gSp s la pa))) (hk : Fct.at w D (.ce kb 0 (.int .i64 kI))) (hM : Hid (QM mb n M w)) (hw0 : wI (cInt s.cn 4) ∧ wI x.1) {t : Bool} (ht0 : usedB M s kI x = t) :
    Calls Try.prog 28 #[.agg #[.int .i64 x.1, .int .i64 x.2.1, .int .i64 x.2.2], .pointer (some ⟨fb, 0, none⟩), .pointer (some ⟨sb, 0, none⟩), .pointer (some ⟨kb, 0, none⟩)] w fun e w' => e = .returned (.bool t) ∧ Below w.heap.size w w' := by
  have E0 : Hid (Env D w [] [.ce kb 0 (.int .i64 kI), .gn (gSp s la pa), .gn (gRg sb 0 (spc s la pa)), .ce fb 0 (.map (some mb))] w) := Lib.hid (((((Env.start D w).arg (.ce fb 0 (.map (some mb))) hf).arg (.gn (gRg sb 0 (spc s la pa))) hr).arg (.gn (gSp s la pa)) hs).arg (.ce kb 0 (.int .i64 kI)) hk)
  clear hf hr hs hk
  go_enter Try.func28, Try.ntmps28
  have hw := Lib.hid hw0
  have ht := Lib.hid ht0
  clear hw0 ht0
  have HS := Lib.hid (E0.out.spOk 1 rfl)
  obtain ⟨j, hj⟩ : ∃ j : Int, (((M (cInt s.cn 4) x.1).getD 0 : Nat) : Int) = j := ⟨_, rfl⟩
  have HJ := Lib.hid hj
  have HT : Hid ((j == kI) = t) := Lib.hid (by rw [← ht.out, ← hj]; rfl)
  clear hj
  go_upto_region 1 with (fail)
  have HT2 := HT.out
  go_wp2_with fail
  have E1 : Hid (Env D w [(w.heap.size, 69, [.int .i64 x.1, .int .i64 x.2.1, .int .i64 x.2.2])] [.ce kb 0 (.int .i64 kI), .gn (gSp s la pa), .gn (gRg sb 0 (spc s la pa)), .ce fb 0 (.map (some mb))] _) := Lib.hid ((E0.out.push 69 [.int .i64 x.1, .int .i64 x.2.1, .int .i64 x.2.2] (w.heap.size) (by simp)))
  clear E0
  generalize w.alloc (.cells #[.int .i64 x.1, .int .i64 x.2.1, .int .i64 x.2.2] 69) = w1 at *
  have E2 : Hid (Env D w [(w.heap.size, 69, [.int .i64 x.1, .int .i64 x.2.1, .int .i64 x.2.2])] [.ce kb 0 (.int .i64 kI), .gn (gSp s la pa), .gn (gRg sb 0 (spc s la pa)), .ce fb 0 (.map (some mb))] (w1.drew)) := Lib.hid E1.out.drew
  clear E1
  refine wp_regionU (S := fun w' => w'.cell? ⟨w.heap.size, 0, none⟩ = some (.int .i64 x.1) ∧ w'.cell? ⟨fb, 0, none⟩ = some (.map (some mb)) ∧ w'.cell? ⟨kb, 0, none⟩ = some (.int .i64 kI) ∧ QM mb n M w' ∧ w'.cell? ⟨sb, 0 + 4, none⟩ = some (.int .i64 (cInt s.cn 4))) [] (by kernel_rfl) (⟨((E2.out.bx 0 rfl).cell 0 rfl), ((E2.out.fc 3 rfl)).2, ((E2.out.fc 0 rfl)).2, (QM.kept hM.out E2.out.bel), (gRg.cell (E2.out.fc 2 rfl) (j := 4) (spc_ca HS.out _ _ (by omega)))⟩) (fun hHeld => ?_)
  generalize w1.drew = w2 at *
  refine uTake (i := 0) (some 6) (v := ?_) rfl rfl (by kernel_rfl) (by kernel_rfl) (by kernel_rfl) (by kernel_rfl) (fun _ _ _ h => h) (by rfl) (by assumption) ?_ ?_
  rotate_left
  · (intro wS hSw; (try dsimp only at hSw); go_simp; try with_reducible rfl)
  try simp only [Act.put, List.setIfInBounds_toArray, List.set_cons_zero, List.set_cons_succ]
  refine uTake (i := 1) (some 7) (v := ?_) rfl rfl (by kernel_rfl) (by kernel_rfl) (by kernel_rfl) (by kernel_rfl) (fun _ _ _ h => h) (by rfl) (by assumption) ?_ ?_
  rotate_left
  · (intro wS hSw; (try dsimp only at hSw); go_simp; try with_reducible rfl)
  try simp only [Act.put, List.setIfInBounds_toArray, List.set_cons_zero, List.set_cons_succ]
  refine uTake (i := 2) (some 8) (v := ?_) rfl rfl (by kernel_rfl) (by kernel_rfl) (by kernel_rfl) (by kernel_rfl) (fun _ _ _ h => h) (by rfl) (by assumption) ?_ ?_
  rotate_left
  · (intro wS hSw; (try dsimp only at hSw); go_simp; try with_reducible rfl)
  try simp only [Act.put, List.setIfInBounds_toArray, List.set_cons_zero, List.set_cons_succ]
  refine uTake (i := 3) (some 9) (v := ?_) rfl rfl (by kernel_rfl) (by kernel_rfl) (by kernel_rfl) (by kernel_rfl) (fun _ _ _ h => h) (by rfl) (by assumption) ?_ ?_
  rotate_left
  · (intro wS hSw; (try dsimp only at hSw); go_simp; try with_reducible rfl)
  try simp only [Act.put, List.setIfInBounds_toArray, List.set_cons_zero, List.set_cons_succ]
  refine uTake (i := 4) (some 10) (v := ?_) rfl rfl (by kernel_rfl) (by kernel_rfl) (by kernel_rfl) (by kernel_rfl) (fun _ _ _ h => h) (by rfl) (by assumption) ?_ ?_
  rotate_left
  · (intro wS hSw; (try dsimp only at hSw); go_simp; try with_reducible rfl)
  try simp only [Act.put, List.setIfInBounds_toArray, List.set_cons_zero, List.set_cons_succ]
  refine uTake (i := 5) (some 11) (v := ?_) rfl rfl (by kernel_rfl) (by kernel_rfl) (by kernel_rfl) (by kernel_rfl) (fun _ _ _ h => h) (by rfl) (by assumption) ?_ ?_
  rotate_left
  · (intro wS hSw; (try dsimp only at hSw); go_simp; try with_reducible rfl)
  try simp only [Act.put, List.setIfInBounds_toArray, List.set_cons_zero, List.set_cons_succ]
  refine uTake (i := 6) (some 12) (v := ?_) rfl rfl (by kernel_rfl) (by kernel_rfl) (by kernel_rfl) (by kernel_rfl) (fun _ _ _ h => h) (by rfl) (by assumption) ?_ ?_
  rotate_left
  · (intro wS hSw; (try dsimp only at hSw); go_simp; try with_reducible rfl)
  try simp only [Act.put, List.setIfInBounds_toArray, List.set_cons_zero, List.set_cons_succ]
  refine uTake (i := 7) (some 13) (v := .int .i64 j) rfl rfl (by kernel_rfl) (by kernel_rfl) (by kernel_rfl) (by kernel_rfl) (fun _ _ _ h => h) (by rfl) (by assumption) ?_ ?_
  · (intro wS hSw; (try dsimp only at hSw); revert hSw; (try simp only [and_imp]); intros; rw [← HJ.out]; exact exec_lookM _ _ rfl rfl rfl hw.out.1 hw.out.2 (by assumption))
  try simp only [Act.put, List.setIfInBounds_toArray, List.set_cons_zero, List.set_cons_succ]
  refine uTake (i := 8) (some 14) (v := ?_) rfl rfl (by kernel_rfl) (by kernel_rfl) (by kernel_rfl) (by kernel_rfl) (fun _ _ _ h => h) (by rfl) (by assumption) ?_ ?_
  rotate_left
  · (intro wS hSw; (try dsimp only at hSw); go_simp; try with_reducible rfl)
  try simp only [Act.put, List.setIfInBounds_toArray, List.set_cons_zero, List.set_cons_succ]
  refine uTake (i := 9) (some 15) (v := ?_) rfl rfl (by kernel_rfl) (by kernel_rfl) (by kernel_rfl) (by kernel_rfl) (fun _ _ _ h => h) (by rfl) (by assumption) ?_ ?_
  rotate_left
  · (intro wS hSw; (try dsimp only at hSw); go_simp; try with_reducible rfl)
  try simp only [Act.put, List.setIfInBounds_toArray, List.set_cons_zero, List.set_cons_succ]
  refine uTake (i := 10) (some 5) (v := ?_) rfl rfl (by kernel_rfl) (by kernel_rfl) (by kernel_rfl) (by kernel_rfl) (fun _ _ _ h => h) (by rfl) (by assumption) ?_ ?_
  rotate_left
  · (intro wS hSw; (try dsimp only at hSw); go_simp; try with_reducible rfl)
  try simp only [Act.put, List.setIfInBounds_toArray, List.set_cons_zero, List.set_cons_succ]
  refine uDone (by kernel_rfl) ?_ _
  have hfin := Lib.hid E2.out.bel
  go_wp2
  go_ret
  exact ⟨rfl, hfin.out⟩
set_option maxRecDepth 100000 in
set_option maxHeartbeats 1000000 in
theorem u28I {D : Nat → Prop} (l : List (Int × Int × Int)) (s : Sp) (kI : Int) (fb : Nat) (sb : Nat) (kb : Nat) (mb : Nat) (n : Nat) (M : Mk) {la pa : Value} {xa : Option Addr} {xk : Nat} {w : World} (hx : Fct.at w D (.rw (.slice xa l.length xk) l.length 3 (lcl l))) (hf : Fct.at w D (.ce fb 0 (.map (some mb)))) (hr : Fct.at w D (.gn (gRg sb 0 (spc s la pa)))) (hs : Fct.at w D (.gn (gSp s la pa))) (hk : Fct.at w D (.ce kb 0 (.int .i64 kI))) (hM : Hid (QM mb n M w)) (hw : Hid (wI (cInt s.cn 4) ∧ ∀ p ∈ l, wI p.1)) {r : Int} (hr0 : (r = -1 ∧ ∀ k (h : k < l.length), usedB M s kI (l[k]) = false) ∨ ∃ k : Nat, r = (k : Int) ∧ ∃ h : k < l.length, usedB M s kI (l[k]) = true ∧ ∀ j (h : j < l.length), j < k → usedB M s kI (l[j]) = false) (hm : l.length ≤ 1000000) :
    Calls Try.prog 49 #[.slice xa l.length xk, .func (.func 28) #[] #[.pointer (some ⟨fb, 0, none⟩), .pointer (some ⟨sb, 0, none⟩), .pointer (some ⟨kb, 0, none⟩)]] w fun e w' => e = .returned (.int .i64 r) ∧ Below w.heap.size w w' := by
  have E0 : Hid (Env D w [] [.ce kb 0 (.int .i64 kI), .gn (gSp s la pa), .gn (gRg sb 0 (spc s la pa)), .ce fb 0 (.map (some mb)), .rw (.slice xa l.length xk) l.length 3 (lcl l)] w) := Lib.hid ((((((Env.start D w).arg (.rw (.slice xa l.length xk) l.length 3 (lcl l)) hx).arg (.ce fb 0 (.map (some mb))) hf).arg (.gn (gRg sb 0 (spc s la pa))) hr).arg (.gn (gSp s la pa)) hs).arg (.ce kb 0 (.int .i64 kI)) hk)
  clear hx hf hr hs hk
  go_enter Try.func49, Try.ntmps49
  have hr := Lib.hid hr0
  clear hr0
  go_wp2_with fail
  go_loopg [8] (l.length) (fun gk s8 wr => ∃ (k : Nat), s8 = .int .i64 (k : Int) ∧ Hid (Env D w [] [.ce kb 0 (.int .i64 kI), .gn (gSp s la pa), .gn (gRg sb 0 (spc s la pa)), .ce fb 0 (.map (some mb)), .rw (.slice xa l.length xk) l.length 3 (lcl l)] wr) ∧ Hid ((k ≤ l.length ∧ gk = l.length - k) ∧ ∀ j (h : j < l.length), j < k → usedB M s kI (l[j]) = false))
  case atStart => exact ⟨0, rfl, Lib.hid E0.out, Lib.hid ⟨⟨Nat.zero_le _, rfl⟩, fun j _ h => absurd h (Nat.not_lt_zero _)⟩⟩
  case round =>
    clear E0
    obtain ⟨k, rfl, EL, HA⟩ := hrel
    obtain ⟨⟨a1, a2⟩, a3⟩ := HA.out
    have HS := Lib.hid a3
    clear a3 HA
    by_cases hy : k = l.length
    rotate_left
    · have hk : k < l.length := by omega
      have t6 : decide ((k : Int) < (l.length : Int)) = true := decide_eq_true (by omega)
      have t7 : decide (k < l.length) = true := decide_eq_true hk
      clear hy
      obtain ⟨t, ht⟩ : ∃ t, usedB M s kI (l[k]) = t := ⟨_, rfl⟩
      have HB := Lib.hid ht
      clear ht
      obtain ⟨xab, xao, rfl⟩ := Rw.addr (EL.out.fc 4 rfl) (by omega)
      obtain ⟨⟨c0, c1, c2⟩, ce⟩ : ∃ c, l[k] = c := ⟨_, rfl⟩
      have cE := Lib.hid ce
      have ch := (EL.out.fc 4 rfl).triple (k := k) rfl hk
      rw [ce] at ch
      obtain ⟨cx, cy, cz⟩ := ch
      clear ce
      rw [cE.out] at HB
      cases t with
      | true =>
        have HR : Hid (r = (k : Int)) := Lib.hid (by have hb := HB.out; rw [← cE.out] at hb; rcases hr.out with ⟨_, h9⟩ | ⟨j, rfl, hj, h8, h7⟩; (· have := h9 k hk; rw [hb] at this; cases this); rcases Nat.lt_trichotomy j k with e | e | e; (· have := HS.out j hj e; rw [h8] at this; cases this); (· rw [e]); (· have := h7 k hk e; rw [hb] at this; cases this))
        go_wp2_with fail
        refine (c28_c (c0, c1, c2) s kI fb sb kb mb n M (EL.out.fc 3 rfl) (EL.out.fc 2 rfl) (EL.out.fc 1 rfl) (EL.out.fc 0 rfl) (Lib.hid (QM.kept hM.out EL.out.bel)) ⟨hw.out.1, by have h := hw.out.2 (c0, c1, c2) (by rw [← cE.out]; exact List.getElem_mem hk); exact h⟩ (t := true) HB.out).mono ?_
        rintro e w1 ⟨rfl, hb⟩
        have E1 : Hid (Env D w [] [.ce kb 0 (.int .i64 kI), .gn (gSp s la pa), .gn (gRg sb 0 (spc s la pa)), .ce fb 0 (.map (some mb)), .rw (.slice (some ⟨xab, xao, none⟩) l.length xk) l.length 3 (lcl l)] w1) := Lib.hid (EL.out.below hb)
        clear cx cy cz EL hb
        have hfin := Lib.hid E1.out.bel
        go_wp2
        go_ret
        exact ⟨RetEq HR.out.symm, hfin.out⟩
      | false =>
        go_wp2_with fail
        refine (c28_c (c0, c1, c2) s kI fb sb kb mb n M (EL.out.fc 3 rfl) (EL.out.fc 2 rfl) (EL.out.fc 1 rfl) (EL.out.fc 0 rfl) (Lib.hid (QM.kept hM.out EL.out.bel)) ⟨hw.out.1, by have h := hw.out.2 (c0, c1, c2) (by rw [← cE.out]; exact List.getElem_mem hk); exact h⟩ (t := false) HB.out).mono ?_
        rintro e w1 ⟨rfl, hb⟩
        have E1 : Hid (Env D w [] [.ce kb 0 (.int .i64 kI), .gn (gSp s la pa), .gn (gRg sb 0 (spc s la pa)), .ce fb 0 (.map (some mb)), .rw (.slice (some ⟨xab, xao, none⟩) l.length xk) l.length 3 (lcl l)] w1) := Lib.hid (EL.out.below hb)
        clear cx cy cz EL hb
        have EZ := Lib.hid E1.out
        go_wp2
        go_roundg (l.length - (k + 1))
        case rel => exact ⟨k + 1, rfl, EZ, Lib.hid ⟨⟨by omega, rfl⟩, fun j h hj => by by_cases e : j = k; (· subst e; rw [cE.out]; exact HB.out); exact HS.out j h (by omega)⟩⟩
        case measure => exact by omega
    have t6 : decide ((k : Int) < (l.length : Int)) = false := decide_eq_false (by omega)
    have t7 : decide (k < l.length) = false := decide_eq_false (by omega)
    have HR : Hid (r = -1) := Lib.hid (by rcases hr.out with ⟨h9, _⟩ | ⟨j, rfl, hj, h8, h7⟩; (· exact h9); have := HS.out j hj (by omega); rw [h8] at this; cases this)
    have HY := Lib.hid hy
    clear hy
    have hfin := Lib.hid EL.out.bel
    go_wp2
    go_ret
    exact ⟨RetEq HR.out.symm, hfin.out⟩
set_option maxRecDepth 100000 in
set_option maxHeartbeats 1000000 in
theorem u28C {D : Nat → Prop} (l : List (Int × Int × Int)) (s : Sp) (kI : Int) (fb : Nat) (sb : Nat) (kb : Nat) (mb : Nat) (n : Nat) (M : Mk) {la pa : Value} {xa : Option Addr} {xk : Nat} {w : World} (hx : Fct.at w D (.rw (.slice xa l.length xk) l.length 3 (lcl l))) (hf : Fct.at w D (.ce fb 0 (.map (some mb)))) (hr : Fct.at w D (.gn (gRg sb 0 (spc s la pa)))) (hs : Fct.at w D (.gn (gSp s la pa))) (hk : Fct.at w D (.ce kb 0 (.int .i64 kI))) (hM : Hid (QM mb n M w)) (hw : Hid (wI (cInt s.cn 4) ∧ ∀ p ∈ l, wI p.1)) {t : Bool} (ht0 : l.any (fun x => usedB M s kI (x)) = t) (hm : l.length ≤ 1000000) :
    Calls Try.prog 27 #[.slice xa l.length xk, .func (.func 28) #[] #[.pointer (some ⟨fb, 0, none⟩), .pointer (some ⟨sb, 0, none⟩), .pointer (some ⟨kb, 0, none⟩)]] w fun e w' => e = .returned (.bool t) ∧ Below w.heap.size w w' := by
  have E0 : Hid (Env D w [] [.ce kb 0 (.int .i64 kI), .gn (gSp s la pa), .gn (gRg sb 0 (spc s la pa)), .ce fb 0 (.map (some mb)), .rw (.slice xa l.length xk) l.length 3 (lcl l)] w) := Lib.hid ((((((Env.start D w).arg (.rw (.slice xa l.length xk) l.length 3 (lcl l)) hx).arg (.ce fb 0 (.map (some mb))) hf).arg (.gn (gRg sb 0 (spc s la pa))) hr).arg (.gn (gSp s la pa)) hs).arg (.ce kb 0 (.int .i64 kI)) hk)
  clear hx hf hr hs hk
  go_enter Try.func27, Try.ntmps27
  have ht := Lib.hid ht0
  clear ht0
  obtain ⟨r, hr⟩ : ∃ r : Int, ((r = -1 ∧ ∀ k (h : k < l.length), usedB M s kI (l[k]) = false) ∨ ∃ k : Nat, r = (k : Int) ∧ ∃ h : k < l.length, usedB M s kI (l[k]) = true ∧ ∀ j (h : j < l.length), j < k → usedB M s kI (l[j]) = false) := first_any l (fun x => usedB M s kI (x))
  have hd : Hid (decide (0 ≤ r) = t) := Lib.hid (by rw [← ht.out]; exact first_dec hr)
  have HR := Lib.hid hr
  clear hr ht
  go_wp2_with fail
  refine (u28I l s kI fb sb kb mb n M (E0.out.fc 4 rfl) (E0.out.fc 3 rfl) (E0.out.fc 2 rfl) (E0.out.fc 1 rfl) (E0.out.fc 0 rfl) (Lib.hid (QM.kept hM.out E0.out.bel)) hw (hr0 := HR.out) (hm := hm)).mono ?_
  rintro e w1 ⟨rfl, hb⟩
  have E1 : Hid (Env D w [] [.ce kb 0 (.int .i64 kI), .gn (gSp s la pa), .gn (gRg sb 0 (spc s la pa)), .ce fb 0 (.map (some mb)), .rw (.slice xa l.length xk) l.length 3 (lcl l)] w1) := Lib.hid (E0.out.below hb)
  clear E0 hb
  have HD := hd.out
  have hfin := Lib.hid E1.out.bel
  go_wp2
  go_ret
  exact ⟨rfl, hfin.out⟩
set_option maxRecDepth 100000 in
set_option maxHeartbeats 2000000 in
theorem c25_c {D : Nat → Prop} (Z : List Sv) (k : Nat) (s : Sp) (lb sb fb mb n : Nat) (M : Mk) {za : Option Addr} {zk : Nat} {la pa : Value} {w : World} (hl : Fct.at w D (.ce lb 0 (.slice za Z.length zk))) (hz : Fct.at w D (.gn (gSl (.slice za Z.length zk) Z))) (hr : Fct.at w D (.gn (gRg sb 0 (spc s la pa)))) (hs : Fct.at w D (.gn (gSp s la pa))) (hf : Fct.at w D (.ce fb 0 (.map (some mb)))) (hM : Hid (QM mb n M w)) (hw : Hid (wI (cInt s.cn 4) ∧ ∀ p ∈ s.lv, wI p.1)) (hk : k < Z.length) (hb0 : ∀ x ∈ Z.map Sv.s, x.lv.length ≤ 40 ∧ x.pa.length ≤ 30) (hs40 : Hid (s.lv.length ≤ 40 ∧ s.pa.length ≤ 30)) {t : Bool} (ht0 : sameK (Z.map Sv.s) M s (k : Int) = t) :
    Calls Try.prog 25 #[.int .i64 (k : Int), .pointer (some ⟨lb, 0, none⟩), .pointer (some ⟨sb, 0, none⟩), .pointer (some ⟨fb, 0, none⟩)] w fun e w' => e = .returned (.bool t) ∧ Below w.heap.size w w' := by
  have E0 : Hid (Env D w [] [.ce fb 0 (.map (some mb)), .gn (gSp s la pa), .gn (gRg sb 0 (spc s la pa)), .gn (gSl (.slice za Z.length zk) Z), .ce lb 0 (.slice za Z.length zk)] w) := Lib.hid ((((((Env.start D w).arg (.ce lb 0 (.slice za Z.length zk)) hl).arg (.gn (gSl (.slice za Z.length zk) Z)) hz).arg (.gn (gRg sb 0 (spc s la pa))) hr).arg (.gn (gSp s la pa)) hs).arg (.ce fb 0 (.map (some mb))) hf)
  clear hl hz hr hs hf
  go_enter Try.func25, Try.ntmps25
  have hb := Lib.hid hb0
  have ht := Lib.hid ht0
  clear hb0 ht0
  have HS := Lib.hid (E0.out.spOk 1 rfl)
  have hkI : (k : Int) < (Z.length : Int) := by omega
  go_upto_region 1 with (fail)
  have E1 : Hid (Env D w [(w.heap.size, 3, [.int .i64 (k : Int)])] [.ce fb 0 (.map (some mb)), .gn (gSp s la pa), .gn (gRg sb 0 (spc s la pa)), .gn (gSl (.slice za Z.length zk) Z), .ce lb 0 (.slice za Z.length zk)] _) := Lib.hid ((E0.out.push 3 [.int .i64 (k : Int)] (w.heap.size) (by simp)))
  obtain ⟨zab, zao, rfl⟩ := gSl.addr (E1.out.fc 3 rfl) (List.ne_nil_of_length_pos (Nat.lt_of_le_of_lt (Nat.zero_le _) hk))
  obtain ⟨z, ze⟩ : ∃ x, Z[k] = x := ⟨_, rfl⟩
  have zE := Lib.hid ze
  clear ze
  have E2 : Hid (Env D w [(w.heap.size, 3, [.int .i64 (k : Int)])] [.gn (gRg zab (zao + k * 80) (spc z.s z.la z.pa)), .gn (gSp z.s z.la z.pa), .ce fb 0 (.map (some mb)), .gn (gSp s la pa), .gn (gRg sb 0 (spc s la pa)), .gn (gSl (.slice (some ⟨zab, zao, none⟩) Z.length zk) Z), .ce lb 0 (.slice (some ⟨zab, zao, none⟩) Z.length zk)] _) := Lib.hid (E1.out.elV 3 rfl hk zE.out)
  clear E1
  have zS := Lib.hid (E2.out.spOk 1 rfl)
  have zN : Hid (∀ v ∈ spc z.s z.la z.pa, v.oneCell' = true) := Lib.hid (gSp.one (E2.out.fc 1 rfl))
  have Bz : Hid (z.s.lv.length ≤ 1000000 ∧ z.s.pa.length ≤ 1000000) := Lib.hid (by have h := hb.out z.s (List.mem_of_getElem? (smap_get hk zE.out)); omega)
  have Bs : Hid (s.lv.length ≤ 1000000 ∧ s.pa.length ≤ 1000000) := Lib.hid (by have h := hs40.out; omega)
  obtain ⟨rr, rrh⟩ : ∃ b : Bool, b = true ↔ z.s = s := by by_cases h : z.s = s; (· exact ⟨true, ⟨fun _ => h, fun _ => rfl⟩⟩); exact ⟨false, ⟨fun h2 => Bool.noConfusion h2, fun h2 => absurd h2 h⟩⟩
  have rrH := Lib.hid rrh
  clear rrh
  have HSK : Hid (sameK (Z.map Sv.s) M s (k : Int) = (rr && s.lv.any (fun x => usedB M s (k : Int) x))) := Lib.hid (by unfold sameK; rw [Int.toNat_natCast, smap_get hk zE.out]; simp only; rw [show eqSp z.s s = rr from Bool.eq_iff_iff.2 (eqSp_iff.trans rrH.out.symm)])
  cases rr with
  | false =>
    have HT : Hid (t = false) := Lib.hid (by rw [← ht.out, HSK.out]; rfl)
    go_wp2_with fail
    clear E0
    generalize w.alloc (.cells #[.int .i64 (k : Int)] 3) = w1 at *
    have E3 : Hid (Env D w [(w.heap.size, 3, [.int .i64 (k : Int)])] [.gn (gRg zab (zao + k * 80) (spc z.s z.la z.pa)), .gn (gSp z.s z.la z.pa), .ce fb 0 (.map (some mb)), .gn (gSp s la pa), .gn (gRg sb 0 (spc s la pa)), .gn (gSl (.slice (some ⟨zab, zao, none⟩) Z.length zk) Z), .ce lb 0 (.slice (some ⟨zab, zao, none⟩) Z.length zk)] (w1.drew)) := Lib.hid E2.out.drew
    clear E2
    refine wp_regionU (S := fun w' => w'.cell? ⟨w.heap.size, 0, none⟩ = some (.int .i64 (k : Int)) ∧ w'.cell? ⟨lb, 0, none⟩ = some (.slice (some ⟨zab, zao, none⟩) Z.length zk) ∧ w'.rangeAt zab (zao + k * 80) (spc z.s z.la z.pa) ∧ w'.rangeAt sb 0 (spc s la pa)) [] (by kernel_rfl) (⟨((E3.out.bx 0 rfl).cell 0 rfl), ((E3.out.fc 6 rfl)).2, (E3.out.fc 0 rfl).2, (E3.out.fc 4 rfl).2⟩) (fun hHeld => ?_)
    generalize w1.drew = w2 at *
    refine uTake (i := 0) (some 6) (v := ?_) rfl rfl (by kernel_rfl) (by kernel_rfl) (by kernel_rfl) (by kernel_rfl) (fun _ _ _ h => h) (by rfl) (by assumption) ?_ ?_
    rotate_left
    · (intro wS hSw; (try dsimp only at hSw); go_simp; try with_reducible rfl)
    try simp only [Act.put, List.setIfInBounds_toArray, List.set_cons_zero, List.set_cons_succ]
    refine uTake (i := 1) (some 7) (v := ?_) rfl rfl (by kernel_rfl) (by kernel_rfl) (by kernel_rfl) (by kernel_rfl) (fun _ _ _ h => h) (by rfl) (by assumption) ?_ ?_
    rotate_left
    · (intro wS hSw; (try dsimp only at hSw); go_simp; try with_reducible rfl)
    try simp only [Act.put, List.setIfInBounds_toArray, List.set_cons_zero, List.set_cons_succ]
    refine uTake (i := 2) (some 8) (v := ?_) rfl rfl (by kernel_rfl) (by kernel_rfl) (by kernel_rfl) (by kernel_rfl) (fun _ _ _ h => h) (by rfl) (by assumption) ?_ ?_
    rotate_left
    · (intro wS hSw; (try dsimp only at hSw); go_simp; try with_reducible rfl)
    try simp only [Act.put, List.setIfInBounds_toArray, List.set_cons_zero, List.set_cons_succ]
    refine uTake (i := 3) (some 9) (v := .agg (spc z.s z.la z.pa).toArray) rfl rfl (by kernel_rfl) (by kernel_rfl) (by kernel_rfl) (by kernel_rfl) (fun _ _ _ h => h) (by rfl) (by assumption) ?_ ?_
    · (intro wS hSw; (try dsimp only at hSw); revert hSw; (try simp only [and_imp]); intros; exact exec_load_b bSpend _ rfl zab (zao + k * 80) rfl (spc z.s z.la z.pa) (spc_len zS.out _ _) (by assumption))
    try simp only [Act.put, List.setIfInBounds_toArray, List.set_cons_zero, List.set_cons_succ]
    refine uTake (i := 4) (some 10) (v := .agg (spc s la pa).toArray) rfl rfl (by kernel_rfl) (by kernel_rfl) (by kernel_rfl) (by kernel_rfl) (fun _ _ _ h => h) (by rfl) (by assumption) ?_ ?_
    · (intro wS hSw; (try dsimp only at hSw); revert hSw; (try simp only [and_imp]); intros; exact exec_load_b bSpend _ rfl sb 0 rfl (spc s la pa) (spc_len HS.out _ _) (by assumption))
    try simp only [Act.put, List.setIfInBounds_toArray, List.set_cons_zero, List.set_cons_succ]
    refine uReady (rs := [5]) (by kernel_rfl) (by simp) ?_
    refine ReadyU.cons rfl (fun KK hKK => ?_) ReadyU.nil
    go_simp
    refine (same32_c z.s s (E3.out.fc 1 rfl) (E3.out.fc 3 rfl) Bz.out Bs.out (r := false) ⟨fun h => Bool.noConfusion h, fun h => rrH.out.2 h⟩).mono ?_
    rintro e w3 ⟨rfl, hb⟩
    have E4 : Hid (Env D w [(w.heap.size, 3, [.int .i64 (k : Int)])] [.gn (gRg zab (zao + k * 80) (spc z.s z.la z.pa)), .gn (gSp z.s z.la z.pa), .ce fb 0 (.map (some mb)), .gn (gSp s la pa), .gn (gRg sb 0 (spc s la pa)), .gn (gSl (.slice (some ⟨zab, zao, none⟩) Z.length zk) Z), .ce lb 0 (.slice (some ⟨zab, zao, none⟩) Z.length zk)] w3) := Lib.hid (E3.out.below hb)
    clear E3 hb
    (try dsimp only)
    clear hHeld
    refine hKK.out _ _ (⟨((E4.out.bx 0 rfl).cell 0 rfl), ((E4.out.fc 6 rfl)).2, (E4.out.fc 0 rfl).2, (E4.out.fc 4 rfl).2⟩) (fun hHeld => ?_)
    clear hKK KK
    try simp only [Act.put, List.setIfInBounds_toArray, List.set_cons_zero, List.set_cons_succ]
    refine uTake (i := 6) (some 12) (v := ?_) rfl rfl (by kernel_rfl) (by kernel_rfl) (by kernel_rfl) (by kernel_rfl) (fun _ _ _ h => h) (by rfl) (by assumption) ?_ ?_
    rotate_left
    · (intro wS hSw; (try dsimp only at hSw); go_simp; try with_reducible rfl)
    try simp only [Act.put, List.setIfInBounds_toArray, List.set_cons_zero, List.set_cons_succ]
    refine uPass (i := 7) (some 13) rfl rfl (by kernel_rfl) (by kernel_rfl) (by kernel_rfl) (by kernel_rfl) (fun _ _ _ h => h) (by rfl) (by assumption) ?_
    try simp only [Act.put, List.setIfInBounds_toArray, List.set_cons_zero, List.set_cons_succ]
    refine uPass (i := 8) (some 14) rfl rfl (by kernel_rfl) (by kernel_rfl) (by kernel_rfl) (by kernel_rfl) (fun _ _ _ h => h) (by rfl) (by assumption) ?_
    try simp only [Act.put, List.setIfInBounds_toArray, List.set_cons_zero, List.set_cons_succ]
    refine uPass (i := 9) (some 15) rfl rfl (by kernel_rfl) (by kernel_rfl) (by kernel_rfl) (by kernel_rfl) (fun _ _ _ h => h) (by rfl) (by assumption) ?_
    try simp only [Act.put, List.setIfInBounds_toArray, List.set_cons_zero, List.set_cons_succ]
    refine uPass (i := 10) (some 16) rfl rfl (by kernel_rfl) (by kernel_rfl) (by kernel_rfl) (by kernel_rfl) (fun _ _ _ h => h) (by rfl) (by assumption) ?_
    try simp only [Act.put, List.setIfInBounds_toArray, List.set_cons_zero, List.set_cons_succ]
    refine uTake (i := 11) (some 17) (v := ?_) rfl rfl (by kernel_rfl) (by kernel_rfl) (by kernel_rfl) (by kernel_rfl) (fun _ _ _ h => h) (by rfl) (by assumption) ?_ ?_
    rotate_left
    · (intro wS hSw; (try dsimp only at hSw); go_simp; try with_reducible rfl)
    try simp only [Act.put, List.setIfInBounds_toArray, List.set_cons_zero, List.set_cons_succ]
    refine uTake (i := 12) (some 5) (v := ?_) rfl rfl (by kernel_rfl) (by kernel_rfl) (by kernel_rfl) (by kernel_rfl) (fun _ _ _ h => h) (by rfl) (by assumption) ?_ ?_
    rotate_left
    · (intro wS hSw; (try dsimp only at hSw); go_simp; try with_reducible rfl)
    try simp only [Act.put, List.setIfInBounds_toArray, List.set_cons_zero, List.set_cons_succ]
    refine uDone (by kernel_rfl) ?_ _
    have hfin := Lib.hid E4.out.bel
    go_wp2
    go_ret
    exact ⟨RetEqB HT.out.symm, hfin.out⟩
  | true =>
    have HT : Hid (s.lv.any (fun x => usedB M s (k : Int) x) = t) := Lib.hid (by rw [← ht.out, HSK.out]; rfl)
    obtain ⟨ya, yk, yc, yj, rfl, rfl, E30⟩ := E2.out.elS 3 rfl
    have E3 : Hid (Env D w [(w.heap.size, 3, [.int .i64 (k : Int)])] [.rw (.slice ya s.lv.length yk) s.lv.length 3 (lcl s.lv), .rw (.slice yc s.pa.length yj) s.pa.length 32 s.pa.flatten, .gn (gRg zab (zao + k * 80) (spc z.s z.la z.pa)), .gn (gSp z.s z.la z.pa), .ce fb 0 (.map (some mb)), .gn (gSp s (.slice ya s.lv.length yk) (.slice yc s.pa.length yj)), .gn (gRg sb 0 (spc s (.slice ya s.lv.length yk) (.slice yc s.pa.length yj))), .gn (gSl (.slice (some ⟨zab, zao, none⟩) Z.length zk) Z), .ce lb 0 (.slice (some ⟨zab, zao, none⟩) Z.length zk)] _) := Lib.hid E30
    clear E30 E2
    go_wp2_with fail
    clear E0
    generalize w.alloc (.cells #[.int .i64 (k : Int)] 3) = w1 at *
    have E4 : Hid (Env D w [(w.heap.size, 3, [.int .i64 (k : Int)])] [.rw (.slice ya s.lv.length yk) s.lv.length 3 (lcl s.lv), .rw (.slice yc s.pa.length yj) s.pa.length 32 s.pa.flatten, .gn (gRg zab (zao + k * 80) (spc z.s z.la z.pa)), .gn (gSp z.s z.la z.pa), .ce fb 0 (.map (some mb)), .gn (gSp s (.slice ya s.lv.length yk) (.slice yc s.pa.length yj)), .gn (gRg sb 0 (spc s (.slice ya s.lv.length yk) (.slice yc s.pa.length yj))), .gn (gSl (.slice (some ⟨zab, zao, none⟩) Z.length zk) Z), .ce lb 0 (.slice (some ⟨zab, zao, none⟩) Z.length zk)] (w1.drew)) := Lib.hid E3.out.drew
    clear E3
    refine wp_regionU (S := fun w' => w'.cell? ⟨w.heap.size, 0, none⟩ = some (.int .i64 (k : Int)) ∧ w'.cell? ⟨lb, 0, none⟩ = some (.slice (some ⟨zab, zao, none⟩) Z.length zk) ∧ w'.rangeAt zab (zao + k * 80) (spc z.s z.la z.pa) ∧ w'.rangeAt sb 0 (spc s (.slice ya s.lv.length yk) (.slice yc s.pa.length yj)) ∧ w'.cell? ⟨sb, 0 + 77, none⟩ = some ((.slice ya s.lv.length yk))) [] (by kernel_rfl) (⟨((E4.out.bx 0 rfl).cell 0 rfl), ((E4.out.fc 8 rfl)).2, (E4.out.fc 2 rfl).2, (E4.out.fc 6 rfl).2, (gRg.cell (E4.out.fc 6 rfl) (j := 77) (spc_tail HS.out _ _).1)⟩) (fun hHeld => ?_)
    generalize w1.drew = w2 at *
    refine uTake (i := 0) (some 6) (v := ?_) rfl rfl (by kernel_rfl) (by kernel_rfl) (by kernel_rfl) (by kernel_rfl) (fun _ _ _ h => h) (by rfl) (by assumption) ?_ ?_
    rotate_left
    · (intro wS hSw; (try dsimp only at hSw); go_simp; try with_reducible rfl)
    try simp only [Act.put, List.setIfInBounds_toArray, List.set_cons_zero, List.set_cons_succ]
    refine uTake (i := 1) (some 7) (v := ?_) rfl rfl (by kernel_rfl) (by kernel_rfl) (by kernel_rfl) (by kernel_rfl) (fun _ _ _ h => h) (by rfl) (by assumption) ?_ ?_
    rotate_left
    · (intro wS hSw; (try dsimp only at hSw); go_simp; try with_reducible rfl)
    try simp only [Act.put, List.setIfInBounds_toArray, List.set_cons_zero, List.set_cons_succ]
    refine uTake (i := 2) (some 8) (v := ?_) rfl rfl (by kernel_rfl) (by kernel_rfl) (by kernel_rfl) (by kernel_rfl) (fun _ _ _ h => h) (by rfl) (by assumption) ?_ ?_
    rotate_left
    · (intro wS hSw; (try dsimp only at hSw); go_simp; try with_reducible rfl)
    try simp only [Act.put, List.setIfInBounds_toArray, List.set_cons_zero, List.set_cons_succ]
    refine uTake (i := 3) (some 9) (v := .agg (spc z.s z.la z.pa).toArray) rfl rfl (by kernel_rfl) (by kernel_rfl) (by kernel_rfl) (by kernel_rfl) (fun _ _ _ h => h) (by rfl) (by assumption) ?_ ?_
    · (intro wS hSw; (try dsimp only at hSw); revert hSw; (try simp only [and_imp]); intros; exact exec_load_b bSpend _ rfl zab (zao + k * 80) rfl (spc z.s z.la z.pa) (spc_len zS.out _ _) (by assumption))
    try simp only [Act.put, List.setIfInBounds_toArray, List.set_cons_zero, List.set_cons_succ]
    refine uTake (i := 4) (some 10) (v := .agg (spc s (.slice ya s.lv.length yk) (.slice yc s.pa.length yj)).toArray) rfl rfl (by kernel_rfl) (by kernel_rfl) (by kernel_rfl) (by kernel_rfl) (fun _ _ _ h => h) (by rfl) (by assumption) ?_ ?_
    · (intro wS hSw; (try dsimp only at hSw); revert hSw; (try simp only [and_imp]); intros; exact exec_load_b bSpend _ rfl sb 0 rfl (spc s (.slice ya s.lv.length yk) (.slice yc s.pa.length yj)) (spc_len HS.out _ _) (by assumption))
    try simp only [Act.put, List.setIfInBounds_toArray, List.set_cons_zero, List.set_cons_succ]
    refine uReady (rs := [5]) (by kernel_rfl) (by simp) ?_
    refine ReadyU.cons rfl (fun KK hKK => ?_) ReadyU.nil
    go_simp
    refine (same32_c z.s s (E4.out.fc 3 rfl) (E4.out.fc 5 rfl) Bz.out Bs.out (r := true) ⟨fun _ => rrH.out.1 (by simp), fun _ => rfl⟩).mono ?_
    rintro e w3 ⟨rfl, hb⟩
    have E5 : Hid (Env D w [(w.heap.size, 3, [.int .i64 (k : Int)])] [.rw (.slice ya s.lv.length yk) s.lv.length 3 (lcl s.lv), .rw (.slice yc s.pa.length yj) s.pa.length 32 s.pa.flatten, .gn (gRg zab (zao + k * 80) (spc z.s z.la z.pa)), .gn (gSp z.s z.la z.pa), .ce fb 0 (.map (some mb)), .gn (gSp s (.slice ya s.lv.length yk) (.slice yc s.pa.length yj)), .gn (gRg sb 0 (spc s (.slice ya s.lv.length yk) (.slice yc s.pa.length yj))), .gn (gSl (.slice (some ⟨zab, zao, none⟩) Z.length zk) Z), .ce lb 0 (.slice (some ⟨zab, zao, none⟩) Z.length zk)] w3) := Lib.hid (E4.out.below hb)
    clear E4 hb
    (try dsimp only)
    clear hHeld
    refine hKK.out _ _ (⟨((E5.out.bx 0 rfl).cell 0 rfl), ((E5.out.fc 8 rfl)).2, (E5.out.fc 2 rfl).2, (E5.out.fc 6 rfl).2, (gRg.cell (E5.out.fc 6 rfl) (j := 77) (spc_tail HS.out _ _).1)⟩) (fun hHeld => ?_)
    clear hKK KK
    try simp only [Act.put, List.setIfInBounds_toArray, List.set_cons_zero, List.set_cons_succ]
    refine uTake (i := 6) (some 12) (v := ?_) rfl rfl (by kernel_rfl) (by kernel_rfl) (by kernel_rfl) (by kernel_rfl) (fun _ _ _ h => h) (by rfl) (by assumption) ?_ ?_
    rotate_left
    · (intro wS hSw; (try dsimp only at hSw); go_simp; try with_reducible rfl)
    try simp only [Act.put, List.setIfInBounds_toArray, List.set_cons_zero, List.set_cons_succ]
    refine uTake (i := 7) (some 13) (v := ?_) rfl rfl (by kernel_rfl) (by kernel_rfl) (by kernel_rfl) (by kernel_rfl) (fun _ _ _ h => h) (by rfl) (by assumption) ?_ ?_
    rotate_left
    · (intro wS hSw; (try dsimp only at hSw); go_simp; try with_reducible rfl)
    try simp only [Act.put, List.setIfInBounds_toArray, List.set_cons_zero, List.set_cons_succ]
    refine uTake (i := 8) (some 14) (v := ?_) rfl rfl (by kernel_rfl) (by kernel_rfl) (by kernel_rfl) (by kernel_rfl) (fun _ _ _ h => h) (by rfl) (by assumption) ?_ ?_
    rotate_left
    · (intro wS hSw; (try dsimp only at hSw); go_simp; try with_reducible rfl)
    try simp only [Act.put, List.setIfInBounds_toArray, List.set_cons_zero, List.set_cons_succ]
    refine uTake (i := 9) (some 15) (v := ?_) rfl rfl (by kernel_rfl) (by kernel_rfl) (by kernel_rfl) (by kernel_rfl) (fun _ _ _ h => h) (by rfl) (by assumption) ?_ ?_
    rotate_left
    · (intro wS hSw; (try dsimp only at hSw); go_simp; try with_reducible rfl)
    try simp only [Act.put, List.setIfInBounds_toArray, List.set_cons_zero, List.set_cons_succ]
    refine uReady (rs := [10]) (by kernel_rfl) (by simp) ?_
    refine ReadyU.cons rfl (fun KK hKK => ?_) ReadyU.nil
    go_simp
    refine (u28C s.lv s (k : Int) fb sb (w.heap.size) mb n M (D := fun _ => True) (Fct.any (f := .rw (.slice ya s.lv.length yk) s.lv.length 3 (lcl s.lv)) (E5.out.fc 0 rfl)) (Fct.any (f := .ce fb 0 (.map (some mb))) (E5.out.fc 4 rfl)) (Fct.any (f := .gn (gRg sb 0 (spc s (.slice ya s.lv.length yk) (.slice yc s.pa.length yj)))) (E5.out.fc 6 rfl)) (Fct.any (f := .gn (gSp s (.slice ya s.lv.length yk) (.slice yc s.pa.length yj))) (E5.out.fc 5 rfl)) ⟨⟨(E5.out.bx 0 rfl).lt, trivial⟩, (E5.out.bx 0 rfl).cell 0 rfl⟩ (Lib.hid (QM.kept hM.out E5.out.bel)) hw (t := t) HT.out (by have h := hs40.out; omega)).mono ?_
    rintro e w4 ⟨rfl, hb⟩
    have E6 : Hid (Env D w [(w.heap.size, 3, [.int .i64 (k : Int)])] [.rw (.slice ya s.lv.length yk) s.lv.length 3 (lcl s.lv), .rw (.slice yc s.pa.length yj) s.pa.length 32 s.pa.flatten, .gn (gRg zab (zao + k * 80) (spc z.s z.la z.pa)), .gn (gSp z.s z.la z.pa), .ce fb 0 (.map (some mb)), .gn (gSp s (.slice ya s.lv.length yk) (.slice yc s.pa.length yj)), .gn (gRg sb 0 (spc s (.slice ya s.lv.length yk) (.slice yc s.pa.length yj))), .gn (gSl (.slice (some ⟨zab, zao, none⟩) Z.length zk) Z), .ce lb 0 (.slice (some ⟨zab, zao, none⟩) Z.length zk)] w4) := Lib.hid (E5.out.below hb)
    clear E5 hb
    (try dsimp only)
    clear hHeld
    refine hKK.out _ _ (⟨((E6.out.bx 0 rfl).cell 0 rfl), ((E6.out.fc 8 rfl)).2, (E6.out.fc 2 rfl).2, (E6.out.fc 6 rfl).2, (gRg.cell (E6.out.fc 6 rfl) (j := 77) (spc_tail HS.out _ _).1)⟩) (fun hHeld => ?_)
    clear hKK KK
    try simp only [Act.put, List.setIfInBounds_toArray, List.set_cons_zero, List.set_cons_succ]
    refine uTake (i := 11) (some 17) (v := ?_) rfl rfl (by kernel_rfl) (by kernel_rfl) (by kernel_rfl) (by kernel_rfl) (fun _ _ _ h => h) (by rfl) (by assumption) ?_ ?_
    rotate_left
    · (intro wS hSw; (try dsimp only at hSw); go_simp; try with_reducible rfl)
    try simp only [Act.put, List.setIfInBounds_toArray, List.set_cons_zero, List.set_cons_succ]
    refine uTake (i := 12) (some 5) (v := ?_) rfl rfl (by kernel_rfl) (by kernel_rfl) (by kernel_rfl) (by kernel_rfl) (fun _ _ _ h => h) (by rfl) (by assumption) ?_ ?_
    rotate_left
    · (intro wS hSw; (try dsimp only at hSw); go_simp; try with_reducible rfl)
    try simp only [Act.put, List.setIfInBounds_toArray, List.set_cons_zero, List.set_cons_succ]
    refine uDone (by kernel_rfl) ?_ _
    have hfin := Lib.hid E6.out.bel
    go_wp2
    go_ret
    exact ⟨rfl, hfin.out⟩
theorem c25_w {D : Nat → Prop} (Z : List Sv) (s : Sp) (lb sb fb mb n : Nat) (M : Mk) {kI : Int} (hin : InB Z.length kI) {za : Option Addr} {zk : Nat} {la pa : Value} {w : World} (hl : Fct.at w D (.ce lb 0 (.slice za Z.length zk))) (hz : Fct.at w D (.gn (gSl (.slice za Z.length zk) Z))) (hr : Fct.at w D (.gn (gRg sb 0 (spc s la pa)))) (hs : Fct.at w D (.gn (gSp s la pa))) (hf : Fct.at w D (.ce fb 0 (.map (some mb)))) (hM : Hid (QM mb n M w)) (hw : Hid (wI (cInt s.cn 4) ∧ ∀ p ∈ s.lv, wI p.1)) (hb0 : ∀ x ∈ Z.map Sv.s, x.lv.length ≤ 40 ∧ x.pa.length ≤ 30) (hs40 : Hid (s.lv.length ≤ 40 ∧ s.pa.length ≤ 30)) {t : Bool} (ht0 : sameK (Z.map Sv.s) M s kI = t) :
    Calls Try.prog 25 #[.int .i64 kI, .pointer (some ⟨lb, 0, none⟩), .pointer (some ⟨sb, 0, none⟩), .pointer (some ⟨fb, 0, none⟩)] w fun e w' => e = .returned (.bool t) ∧ Below w.heap.size w w' := by
  obtain ⟨m, rfl, hm⟩ := hin
  exact c25_c Z m s lb sb fb mb n M hl hz hr hs hf hM hw hm hb0 hs40 ht0
set_option maxRecDepth 100000 in
set_option maxHeartbeats 1000000 in
theorem smI {D : Nat → Prop} (l : List Int) (Z : List Sv) (s : Sp) (lb : Nat) (sb : Nat) (fb : Nat) (mb : Nat) (n : Nat) (M : Mk) {za : Option Addr} {zk : Nat} {la pa : Value} {xa : Option Addr} {xk : Nat} {w : World} (hx : Fct.at w D (.rw (.slice xa l.length xk) l.length 1 (icl l))) (hcl : Fct.at w D (.ce lb 0 (.slice za Z.length zk))) (hz : Fct.at w D (.gn (gSl (.slice za Z.length zk) Z))) (hrs : Fct.at w D (.gn (gRg sb 0 (spc s la pa)))) (hs : Fct.at w D (.gn (gSp s la pa))) (hf : Fct.at w D (.ce fb 0 (.map (some mb)))) (hM : Hid (QM mb n M w)) (hw : Hid (wI (cInt s.cn 4) ∧ ∀ p ∈ s.lv, wI p.1)) (hb4 : Hid (∀ x ∈ Z.map Sv.s, x.lv.length ≤ 40 ∧ x.pa.length ≤ 30)) (hs40 : Hid (s.lv.length ≤ 40 ∧ s.pa.length ≤ 30)) (hin : Hid (∀ k ∈ l, InB Z.length k)) {r : Int} (hr0 : (r = -1 ∧ ∀ k (h : k < l.length), sameK (Z.map Sv.s) M s (l[k]) = false) ∨ ∃ k : Nat, r = (k : Int) ∧ ∃ h : k < l.length, sameK (Z.map Sv.s) M s (l[k]) = true ∧ ∀ j (h : j < l.length), j < k → sameK (Z.map Sv.s) M s (l[j]) = false) (hm : l.length ≤ 1000000) :
    Calls Try.prog 47 #[.slice xa l.length xk, .func (.func 25) #[] #[.pointer (some ⟨lb, 0, none⟩), .pointer (some ⟨sb, 0, none⟩), .pointer (some ⟨fb, 0, none⟩)]] w fun e w' => e = .returned (.int .i64 r) ∧ Below w.heap.size w w' := by
  have E0 : Hid (Env D w [] [.ce fb 0 (.map (some mb)), .gn (gSp s la pa), .gn (gRg sb 0 (spc s la pa)), .gn (gSl (.slice za Z.length zk) Z), .ce lb 0 (.slice za Z.length zk), .rw (.slice xa l.length xk) l.length 1 (icl l)] w) := Lib.hid (((((((Env.start D w).arg (.rw (.slice xa l.length xk) l.length 1 (icl l)) hx).arg (.ce lb 0 (.slice za Z.length zk)) hcl).arg (.gn (gSl (.slice za Z.length zk) Z)) hz).arg (.gn (gRg sb 0 (spc s la pa))) hrs).arg (.gn (gSp s la pa)) hs).arg (.ce fb 0 (.map (some mb))) hf)
  clear hx hcl hz hrs hs hf
  go_enter Try.func47, Try.ntmps47
  have hr := Lib.hid hr0
  clear hr0
  go_wp2_with fail
  go_loopg [8] (l.length) (fun gk s8 wr => ∃ (k : Nat), s8 = .int .i64 (k : Int) ∧ Hid (Env D w [] [.ce fb 0 (.map (some mb)), .gn (gSp s la pa), .gn (gRg sb 0 (spc s la pa)), .gn (gSl (.slice za Z.length zk) Z), .ce lb 0 (.slice za Z.length zk), .rw (.slice xa l.length xk) l.length 1 (icl l)] wr) ∧ Hid ((k ≤ l.length ∧ gk = l.length - k) ∧ ∀ j (h : j < l.length), j < k → sameK (Z.map Sv.s) M s (l[j]) = false))
  case atStart => exact ⟨0, rfl, Lib.hid E0.out, Lib.hid ⟨⟨Nat.zero_le _, rfl⟩, fun j _ h => absurd h (Nat.not_lt_zero _)⟩⟩
  case round =>
    clear E0
    obtain ⟨k, rfl, EL, HA⟩ := hrel
    obtain ⟨⟨a1, a2⟩, a3⟩ := HA.out
    have HS := Lib.hid a3
    clear a3 HA
    by_cases hy : k = l.length
    rotate_left
    · have hk : k < l.length := by omega
      have t6 : decide ((k : Int) < (l.length : Int)) = true := decide_eq_true (by omega)
      have t7 : decide (k < l.length) = true := decide_eq_true hk
      clear hy
      obtain ⟨xab, xao, rfl⟩ := Rw.addr (EL.out.fc 5 rfl) (by omega)
      have E1 : Hid (Env D w [] [.ce xab (xao + k) (.int .i64 l[k]), .ce fb 0 (.map (some mb)), .gn (gSp s la pa), .gn (gRg sb 0 (spc s la pa)), .gn (gSl (.slice za Z.length zk) Z), .ce lb 0 (.slice za Z.length zk), .rw (.slice (some ⟨xab, xao, none⟩) l.length xk) l.length 1 (icl l)] _) := Lib.hid (EL.out.elI 5 rfl rfl (k) hk)
      clear EL
      have u0 := (E1.out.fc 0 rfl).2
      by_cases hb : sameK (Z.map Sv.s) M s (l[k]) = true
      · have HB := Lib.hid hb
        have HR : Hid (r = (k : Int)) := Lib.hid (by rcases hr.out with ⟨_, h9⟩ | ⟨j, rfl, hj, h8, h7⟩; (· have := h9 k hk; rw [hb] at this; cases this); rcases Nat.lt_trichotomy j k with e | e | e; (· have := HS.out j hj e; rw [h8] at this; cases this); (· rw [e]); (· have := h7 k hk e; rw [hb] at this; cases this))
        clear hb
        go_wp2_with fail
        refine (c25_w Z s lb sb fb mb n M (hin.out _ (List.getElem_mem hk)) (E1.out.fc 5 rfl) (E1.out.fc 4 rfl) (E1.out.fc 3 rfl) (E1.out.fc 2 rfl) (E1.out.fc 1 rfl) (Lib.hid (QM.kept hM.out E1.out.bel)) hw hb4.out hs40 HB.out).mono ?_
        rintro e w1 ⟨rfl, hb⟩
        have E2 : Hid (Env D w [] [.ce xab (xao + k) (.int .i64 l[k]), .ce fb 0 (.map (some mb)), .gn (gSp s la pa), .gn (gRg sb 0 (spc s la pa)), .gn (gSl (.slice za Z.length zk) Z), .ce lb 0 (.slice za Z.length zk), .rw (.slice (some ⟨xab, xao, none⟩) l.length xk) l.length 1 (icl l)] w1) := Lib.hid (E1.out.below hb)
        clear u0 E1 hb
        have hfin := Lib.hid E2.out.bel
        go_wp2
        go_ret
        exact ⟨RetEq HR.out.symm, hfin.out⟩
      · have HB := Lib.hid (Bool.eq_false_iff.2 hb)
        clear hb
        go_wp2_with fail
        refine (c25_w Z s lb sb fb mb n M (hin.out _ (List.getElem_mem hk)) (E1.out.fc 5 rfl) (E1.out.fc 4 rfl) (E1.out.fc 3 rfl) (E1.out.fc 2 rfl) (E1.out.fc 1 rfl) (Lib.hid (QM.kept hM.out E1.out.bel)) hw hb4.out hs40 HB.out).mono ?_
        rintro e w1 ⟨rfl, hb⟩
        have E2 : Hid (Env D w [] [.ce xab (xao + k) (.int .i64 l[k]), .ce fb 0 (.map (some mb)), .gn (gSp s la pa), .gn (gRg sb 0 (spc s la pa)), .gn (gSl (.slice za Z.length zk) Z), .ce lb 0 (.slice za Z.length zk), .rw (.slice (some ⟨xab, xao, none⟩) l.length xk) l.length 1 (icl l)] w1) := Lib.hid (E1.out.below hb)
        clear u0 E1 hb
        have EZ := Lib.hid (E2.out.forget)
        go_wp2
        go_roundg (l.length - (k + 1))
        case rel => exact ⟨k + 1, rfl, EZ, Lib.hid ⟨⟨by omega, rfl⟩, fun j h hj => by by_cases e : j = k; (· subst e; exact HB.out); exact HS.out j h (by omega)⟩⟩
        case measure => exact by omega
    have t6 : decide ((k : Int) < (l.length : Int)) = false := decide_eq_false (by omega)
    have t7 : decide (k < l.length) = false := decide_eq_false (by omega)
    have HR : Hid (r = -1) := Lib.hid (by rcases hr.out with ⟨h9, _⟩ | ⟨j, rfl, hj, h8, h7⟩; (· exact h9); have := HS.out j hj (by omega); rw [h8] at this; cases this)
    have HY := Lib.hid hy
    clear hy
    have hfin := Lib.hid EL.out.bel
    go_wp2
    go_ret
    exact ⟨RetEq HR.out.symm, hfin.out⟩
set_option maxRecDepth 100000 in
set_option maxHeartbeats 1000000 in
theorem smC {D : Nat → Prop} (l : List Int) (Z : List Sv) (s : Sp) (lb : Nat) (sb : Nat) (fb : Nat) (mb : Nat) (n : Nat) (M : Mk) {za : Option Addr} {zk : Nat} {la pa : Value} {xa : Option Addr} {xk : Nat} {w : World} (hx : Fct.at w D (.rw (.slice xa l.length xk) l.length 1 (icl l))) (hcl : Fct.at w D (.ce lb 0 (.slice za Z.length zk))) (hz : Fct.at w D (.gn (gSl (.slice za Z.length zk) Z))) (hrs : Fct.at w D (.gn (gRg sb 0 (spc s la pa)))) (hs : Fct.at w D (.gn (gSp s la pa))) (hf : Fct.at w D (.ce fb 0 (.map (some mb)))) (hM : Hid (QM mb n M w)) (hw : Hid (wI (cInt s.cn 4) ∧ ∀ p ∈ s.lv, wI p.1)) (hb4 : Hid (∀ x ∈ Z.map Sv.s, x.lv.length ≤ 40 ∧ x.pa.length ≤ 30)) (hs40 : Hid (s.lv.length ≤ 40 ∧ s.pa.length ≤ 30)) (hin : Hid (∀ k ∈ l, InB Z.length k)) {t : Bool} (ht0 : l.any (fun x => sameK (Z.map Sv.s) M s (x)) = t) (hm : l.length ≤ 1000000) :
    Calls Try.prog 24 #[.slice xa l.length xk, .func (.func 25) #[] #[.pointer (some ⟨lb, 0, none⟩), .pointer (some ⟨sb, 0, none⟩), .pointer (some ⟨fb, 0, none⟩)]] w fun e w' => e = .returned (.bool t) ∧ Below w.heap.size w w' := by
  have E0 : Hid (Env D w [] [.ce fb 0 (.map (some mb)), .gn (gSp s la pa), .gn (gRg sb 0 (spc s la pa)), .gn (gSl (.slice za Z.length zk) Z), .ce lb 0 (.slice za Z.length zk), .rw (.slice xa l.length xk) l.length 1 (icl l)] w) := Lib.hid (((((((Env.start D w).arg (.rw (.slice xa l.length xk) l.length 1 (icl l)) hx).arg (.ce lb 0 (.slice za Z.length zk)) hcl).arg (.gn (gSl (.slice za Z.length zk) Z)) hz).arg (.gn (gRg sb 0 (spc s la pa))) hrs).arg (.gn (gSp s la pa)) hs).arg (.ce fb 0 (.map (some mb))) hf)
  clear hx hcl hz hrs hs hf
  go_enter Try.func24, Try.ntmps24
  have ht := Lib.hid ht0
  clear ht0
  obtain ⟨r, hr⟩ : ∃ r : Int, ((r = -1 ∧ ∀ k (h : k < l.length), sameK (Z.map Sv.s) M s (l[k]) = false) ∨ ∃ k : Nat, r = (k : Int) ∧ ∃ h : k < l.length, sameK (Z.map Sv.s) M s (l[k]) = true ∧ ∀ j (h : j < l.length), j < k → sameK (Z.map Sv.s) M s (l[j]) = false) := first_any l (fun x => sameK (Z.map Sv.s) M s (x))
  have hd : Hid (decide (0 ≤ r) = t) := Lib.hid (by rw [← ht.out]; exact first_dec hr)
  have HR := Lib.hid hr
  clear hr ht
  go_wp2_with fail
  refine (smI l Z s lb sb fb mb n M (E0.out.fc 5 rfl) (E0.out.fc 4 rfl) (E0.out.fc 3 rfl) (E0.out.fc 2 rfl) (E0.out.fc 1 rfl) (E0.out.fc 0 rfl) (Lib.hid (QM.kept hM.out E0.out.bel)) hw hb4 hs40 hin (hr0 := HR.out) (hm := hm)).mono ?_
  rintro e w1 ⟨rfl, hb⟩
  have E1 : Hid (Env D w [] [.ce fb 0 (.map (some mb)), .gn (gSp s la pa), .gn (gRg sb 0 (spc s la pa)), .gn (gSl (.slice za Z.length zk) Z), .ce lb 0 (.slice za Z.length zk), .rw (.slice xa l.length xk) l.length 1 (icl l)] w1) := Lib.hid (E0.out.below hb)
  clear E0 hb
  have HD := hd.out
  have hfin := Lib.hid E1.out.bel
  go_wp2
  go_ret
  exact ⟨rfl, hfin.out⟩
end Go.Proofs.Ytfnnfmefihiefaa

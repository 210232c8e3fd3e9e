/- specieref13: Field, Residues, Valid, at. -/
import Derived.Test.YtinlfogpbologaaDoorPolI
namespace Go.Proofs.YtinlfogpbologaaDoor
open Go.RowKit DivMath WordMath
set_option linter.unusedVariables false
set_option linter.unusedSimpArgs false
set_option maxHeartbeats 1000000 in
theorem rField_c (q : Int) (w : World) {t : Bool} (hn : -9223372036854775808 ≤ q) (ht : fieldB q = t) :
    Calls Tryd.prog 18 #[.int .i64 q] w fun e w' => e = .returned (.bool t) ∧ Below w.heap.size w w' := by
  by_cases h : q < 2305843009213693952
  · have d1 : decide (q < 2305843009213693952) = true := decide_eq_true h
    obtain ⟨b, hb⟩ : ∃ b, b = Pri.isP q.toNat := ⟨_, rfl⟩
    have htb : t = b := by rw [← ht, hb]; unfold fieldB; rw [d1, Bool.true_and]
    have cc := rIs_c q w ⟨hn, by omega⟩
    rw [← hb] at cc
    have CC := Lib.hid cc
    subst htb
    clear ht hb cc hn h
    go_enter Tryd.func18, Tryd.ntmps18
    go_wp2_with fail
    refine CC.out.mono ?_
    rintro e w1 ⟨rfl, hB⟩
    go_wp2
    go_ret
    exact ⟨rfl, hB⟩
  · have d1 : decide (q < 2305843009213693952) = false := decide_eq_false h
    have htb : t = false := by rw [← ht]; unfold fieldB; rw [d1, Bool.false_and]
    subst htb
    clear ht
    go_enter Tryd.func18, Tryd.ntmps18
    go_wp2
    go_ret
    exact ⟨rfl, Below.refl _ _⟩
set_option maxRecDepth 100000 in
set_option maxHeartbeats 1000000 in
theorem rResidues_c {D : Nat → Prop} (q : Int) (l : List Int) {xa : Option Addr} {xk : Nat} {w : World} (hx : Fct.at w D (.rw (.slice xa l.length xk) l.length 1 (icl l))) {t : Bool} (ht0 : l.all (resB q) = t) (hm : l.length ≤ 1000000) :
    Calls Tryd.prog 19 #[.int .i64 q, .slice xa l.length xk] w fun e w' => e = .returned (.bool t) ∧ Below w.heap.size w w' := by
  have E0 : Hid (Env D w [] [.rw (.slice xa l.length xk) l.length 1 (icl l)] w) := Lib.hid ((Env.start D w).arg (.rw (.slice xa l.length xk) l.length 1 (icl l)) hx)
  clear hx
  go_enter Tryd.func19, Tryd.ntmps19
  have ht := Lib.hid ht0
  clear ht0
  go_wp2_with fail
  go_loopg [5] (l.length) (fun gk s5 wr => ∃ (k : Nat), s5 = .int .i64 (k : Int) ∧ Hid (Env D w [] [.rw (.slice xa l.length xk) l.length 1 (icl l)] wr) ∧ Hid ((k ≤ l.length ∧ gk = l.length - k) ∧ ∀ j (h : j < l.length), j < k → resB q l[j] = true))
  case atStart => exact ⟨0, rfl, Lib.hid E0.out, Lib.hid ⟨⟨Nat.zero_le _, rfl⟩, fun j _ h => absurd h (Nat.not_lt_zero _)⟩⟩
  case round =>
    clear E0
    obtain ⟨k, rfl, EL, HA⟩ := hrel
    obtain ⟨⟨a1, a2⟩, a3⟩ := HA.out
    have HS := Lib.hid a3
    clear a3 HA
    by_cases hy : k = l.length
    rotate_left
    · have hk : k < l.length := by omega
      have t6 : decide ((k : Int) < (l.length : Int)) = true := decide_eq_true (by omega)
      have t7 : decide (k < l.length) = true := decide_eq_true hk
      clear hy
      obtain ⟨xab, xao, rfl⟩ := Rw.addr (EL.out.fc 0 rfl) (by omega)
      have E1 : Hid (Env D w [] [.ce xab (xao + k) (.int .i64 l[k]), .rw (.slice (some ⟨xab, xao, none⟩) l.length xk) l.length 1 (icl l)] _) := Lib.hid (EL.out.elI 0 rfl rfl (k) hk)
      clear EL
      have u0 := (E1.out.fc 0 rfl).2
      have HF : Hid (resB q l[k] = false → t = false) := Lib.hid (fun h => by rw [← ht.out, List.all_eq_false]; exact ⟨l[k], List.getElem_mem hk, by rw [h]; simp⟩)
      by_cases h1 : l[k] < 0
      · have d1 : decide (l[k] < 0) = true := decide_eq_true h1
        obtain rfl : t = false := HF.out (by unfold resB; rw [decide_eq_false (by omega)]; rfl)
        clear h1
        have hfin := Lib.hid E1.out.bel
        go_wp2
        go_ret
        exact ⟨rfl, hfin.out⟩
      have d1 : decide (l[k] < 0) = false := decide_eq_false h1
      by_cases h2 : q ≤ l[k]
      · have d2 : decide (q ≤ l[k]) = true := decide_eq_true h2
        obtain rfl : t = false := HF.out (by unfold resB; rw [decide_eq_false (show ¬ l[k] < q by omega), Bool.and_false])
        clear h1 h2
        have hfin := Lib.hid E1.out.bel
        go_wp2
        go_ret
        exact ⟨rfl, hfin.out⟩
      have d2 : decide (q ≤ l[k]) = false := decide_eq_false h2
      have HR : Hid (resB q l[k] = true) := Lib.hid (by unfold resB; rw [decide_eq_true (by omega), decide_eq_true (by omega)]; rfl)
      clear h1 h2
      have EZ := Lib.hid (E1.out.forget)
      go_wp2
      go_roundg (l.length - (k + 1))
      case rel => exact ⟨k + 1, rfl, EZ, Lib.hid ⟨⟨by omega, rfl⟩, fun j h hj => by by_cases e : j = k; (· subst e; exact HR.out); exact HS.out j h (by omega)⟩⟩
      case measure => exact by omega
    have t6 : decide ((k : Int) < (l.length : Int)) = false := decide_eq_false (by omega)
    have t7 : decide (k < l.length) = false := decide_eq_false (by omega)
    obtain rfl : t = true := by rw [← ht.out, List.all_eq_true]; intro x hx; obtain ⟨j, hj, rfl⟩ := List.getElem_of_mem hx; exact HS.out j hj (by omega)
    have HY := Lib.hid hy
    clear hy
    have hfin := Lib.hid EL.out.bel
    go_wp2
    go_ret
    exact ⟨rfl, hfin.out⟩
set_option maxRecDepth 100000 in
set_option maxHeartbeats 1000000 in
theorem rAt_c {D : Nat → Prop} (l : List Nat) (i : Nat) {xa : Option Addr} {xk : Nat} {w : World} (hx : Fct.at w D (.rw (.slice xa l.length xk) l.length 1 (ncl l))) {r : Nat} (hr0 : l.getD i 0 = r) (hi9 : (i : Int) ≤ 1000000) (hm : l.length ≤ 1000000) :
    Calls Tryd.prog 67 #[.slice xa l.length xk, .int .i64 (i : Nat)] w fun e w' => e = .returned (.int .i64 (r : Nat)) ∧ Below w.heap.size w w' := by
  have E0 : Hid (Env D w [] [.rw (.slice xa l.length xk) l.length 1 (ncl l)] w) := Lib.hid ((Env.start D w).arg (.rw (.slice xa l.length xk) l.length 1 (ncl l)) hx)
  clear hx
  go_enter Tryd.func67, Tryd.ntmps67
  by_cases hi0 : l.length ≤ i
  rotate_left
  · have t6 : decide ((i : Int) < (l.length : Int)) = true := decide_eq_true (by omega)
    have hi : i < l.length := by omega
    have t7 : decide (i < l.length) = true := decide_eq_true hi
    clear hi0
    have hr : r = l[i] := by rw [← hr0]; simp [List.getElem?_eq_getElem hi]
    subst hr
    clear hr0
    obtain ⟨xab, xao, rfl⟩ := Rw.addr (E0.out.fc 0 rfl) (by omega)
    have E1 : Hid (Env D w [] [.ce xab (xao + i) (.int .i64 (l[i] : Nat)), .rw (.slice (some ⟨xab, xao, none⟩) l.length xk) l.length 1 (ncl l)] _) := Lib.hid (E0.out.elN 0 rfl rfl (i) hi)
    clear E0
    have u0 := (E1.out.fc 0 rfl).2
    have hfin := Lib.hid E1.out.bel
    go_wp2
    go_ret
    exact ⟨rfl, hfin.out⟩
  have t6 : decide ((i : Int) < (l.length : Int)) = false := decide_eq_false (by omega)
  have t7 : decide (i < l.length) = false := decide_eq_false (by omega)
  have hr : r = 0 := by rw [← hr0]; simp [List.getElem?_eq_none (show l.length ≤ i by omega)]
  subst hr
  clear hr0 hi0
  have hfin := Lib.hid E0.out.bel
  go_wp2
  go_ret
  exact ⟨rfl, hfin.out⟩
set_option maxRecDepth 100000 in
set_option maxHeartbeats 1000000 in
theorem rValid_long {D : Nat → Prop} (q : Int) (l : List Int) {xa : Option Addr} {xk : Nat} {w : World} (hx : Fct.at w D (.rw (.slice xa l.length xk) l.length 1 (icl l))) (hl : 1000 < l.length) :
    Calls Tryd.prog 22 #[.int .i64 q, .slice xa l.length xk] w fun e w' => e = .returned (.bool false) ∧ Below w.heap.size w w' := by
  have E0 : Hid (Env D w [] [.rw (.slice xa l.length xk) l.length 1 (icl l)] w) := Lib.hid ((Env.start D w).arg (.rw (.slice xa l.length xk) l.length 1 (icl l)) hx)
  clear hx
  go_enter Tryd.func22, Tryd.ntmps22
  have d1 : decide ((l.length : Int) ≤ 1000) = false := decide_eq_false (by omega)
  have d1n : decide (l.length ≤ 1000) = false := decide_eq_false (by omega)
  have hfin := Lib.hid E0.out.bel
  go_wp2
  go_ret
  exact ⟨rfl, hfin.out⟩
set_option maxRecDepth 100000 in
set_option maxHeartbeats 1000000 in
theorem rValid_res {D : Nat → Prop} (q : Int) (l : List Int) {xa : Option Addr} {xk : Nat} {w : World} (hx : Fct.at w D (.rw (.slice xa l.length xk) l.length 1 (icl l))) (hl : l.length ≤ 1000) (ht0 : l.all (resB q) = false) :
    Calls Tryd.prog 22 #[.int .i64 q, .slice xa l.length xk] w fun e w' => e = .returned (.bool false) ∧ Below w.heap.size w w' := by
  have E0 : Hid (Env D w [] [.rw (.slice xa l.length xk) l.length 1 (icl l)] w) := Lib.hid ((Env.start D w).arg (.rw (.slice xa l.length xk) l.length 1 (icl l)) hx)
  clear hx
  go_enter Tryd.func22, Tryd.ntmps22
  have ht := Lib.hid ht0
  clear ht0
  have d1 : decide ((l.length : Int) ≤ 1000) = true := decide_eq_true (by omega)
  have d1n : decide (l.length ≤ 1000) = true := decide_eq_true (by omega)
  go_wp2_with fail
  refine (rResidues_c q l (E0.out.fc 0 rfl) ht.out (by omega)).mono ?_
  rintro e w1 ⟨rfl, hb⟩
  have E1 : Hid (Env D w [] [.rw (.slice xa l.length xk) l.length 1 (icl l)] w1) := Lib.hid (E0.out.below hb)
  clear E0 hb
  have hfin := Lib.hid E1.out.bel
  go_wp2
  go_ret
  exact ⟨rfl, hfin.out⟩
set_option maxRecDepth 100000 in
set_option maxHeartbeats 1000000 in
theorem rValid_nil {D : Nat → Prop} (q : Int) (l : List Int) {xa : Option Addr} {xk : Nat} {w : World} (hx : Fct.at w D (.rw (.slice xa l.length xk) l.length 1 (icl l))) (hl : l.length = 0) :
    Calls Tryd.prog 22 #[.int .i64 q, .slice xa l.length xk] w fun e w' => e = .returned (.bool true) ∧ Below w.heap.size w w' := by
  have E0 : Hid (Env D w [] [.rw (.slice xa l.length xk) l.length 1 (icl l)] w) := Lib.hid ((Env.start D w).arg (.rw (.slice xa l.length xk) l.length 1 (icl l)) hx)
  clear hx
  go_enter Tryd.func22, Tryd.ntmps22
  obtain rfl := List.length_eq_zero_iff.1 hl
  clear hl
  have d1 : decide ((([] : List Int).length : Int) ≤ 1000) = true := rfl
  have d2 : ((([] : List Int).length : Int) == 0) = true := rfl
  go_wp2_with fail
  refine (rResidues_c q [] (t := true) (E0.out.fc 0 rfl) rfl (by simp)).mono ?_
  rintro e w1 ⟨rfl, hb⟩
  have E1 : Hid (Env D w [] [.rw (.slice xa ([] : List Int).length xk) ([] : List Int).length 1 (icl ([] : List Int))] w1) := Lib.hid (E0.out.below hb)
  clear E0 hb
  have hfin := Lib.hid E1.out.bel
  go_wp2
  go_ret
  exact ⟨rfl, hfin.out⟩
set_option maxRecDepth 100000 in
set_option maxHeartbeats 1000000 in
theorem rValid_zero {D : Nat → Prop} (q : Int) (l : List Int) {xa : Option Addr} {xk : Nat} {w : World} (hx : Fct.at w D (.rw (.slice xa l.length xk) l.length 1 (icl l))) (hl : 0 < l.length) (hl2 : l.length ≤ 1000) (ht0 : l.all (resB q) = true) (hz : l[l.length - 1] = 0) :
    Calls Tryd.prog 22 #[.int .i64 q, .slice xa l.length xk] w fun e w' => e = .returned (.bool false) ∧ Below w.heap.size w w' := by
  have E0 : Hid (Env D w [] [.rw (.slice xa l.length xk) l.length 1 (icl l)] w) := Lib.hid ((Env.start D w).arg (.rw (.slice xa l.length xk) l.length 1 (icl l)) hx)
  clear hx
  go_enter Tryd.func22, Tryd.ntmps22
  have ht := Lib.hid ht0
  clear ht0
  have d1 : decide ((l.length : Int) ≤ 1000) = true := decide_eq_true (by omega)
  have d1n : decide (l.length ≤ 1000) = true := decide_eq_true (by omega)
  have d2 : ((l.length : Int) == 0) = false := beq_eq_false_iff_ne.2 (by omega)
  have d4 : wrap64 ((l.length : Int) - 1) = ((l.length - 1 : Nat) : Int) := by rw [IntWalk.wrap64_in _ (by omega)]; omega
  have d5 : (l.length : Int) - 1 = ((l.length - 1 : Nat) : Int) := by omega
  obtain ⟨xab, xao, rfl⟩ := Rw.addr (E0.out.fc 0 rfl) (by omega)
  have E1 : Hid (Env D w [] [.ce xab (xao + (l.length - 1)) (.int .i64 l[l.length - 1]), .rw (.slice (some ⟨xab, xao, none⟩) l.length xk) l.length 1 (icl l)] _) := Lib.hid (E0.out.elI 0 rfl rfl (l.length - 1) (by omega))
  clear E0
  have u0 := (E1.out.fc 0 rfl).2
  have d3 : (l[l.length - 1] == 0) = true := by simp [hz]
  have d3n : (l[l.length - 1] != 0) = false := by simp [hz]
  clear hz
  go_wp2_with fail
  refine (rResidues_c q l (E1.out.fc 1 rfl) ht.out (by omega)).mono ?_
  rintro e w1 ⟨rfl, hb⟩
  have E2 : Hid (Env D w [] [.ce xab (xao + (l.length - 1)) (.int .i64 l[l.length - 1]), .rw (.slice (some ⟨xab, xao, none⟩) l.length xk) l.length 1 (icl l)] w1) := Lib.hid (E1.out.below hb)
  clear u0 E1 hb
  have z1 := (E2.out.fc 0 rfl).2
  have hfin := Lib.hid E2.out.bel
  go_wp2
  go_ret
  exact ⟨rfl, hfin.out⟩
set_option maxRecDepth 100000 in
set_option maxHeartbeats 1000000 in
theorem rValid_some {D : Nat → Prop} (q : Int) (l : List Int) {xa : Option Addr} {xk : Nat} {w : World} (hx : Fct.at w D (.rw (.slice xa l.length xk) l.length 1 (icl l))) (hl : 0 < l.length) (hl2 : l.length ≤ 1000) (ht0 : l.all (resB q) = true) (hz : ¬ l[l.length - 1] = 0) :
    Calls Tryd.prog 22 #[.int .i64 q, .slice xa l.length xk] w fun e w' => e = .returned (.bool true) ∧ Below w.heap.size w w' := by
  have E0 : Hid (Env D w [] [.rw (.slice xa l.length xk) l.length 1 (icl l)] w) := Lib.hid ((Env.start D w).arg (.rw (.slice xa l.length xk) l.length 1 (icl l)) hx)
  clear hx
  go_enter Tryd.func22, Tryd.ntmps22
  have ht := Lib.hid ht0
  clear ht0
  have d1 : decide ((l.length : Int) ≤ 1000) = true := decide_eq_true (by omega)
  have d1n : decide (l.length ≤ 1000) = true := decide_eq_true (by omega)
  have d2 : ((l.length : Int) == 0) = false := beq_eq_false_iff_ne.2 (by omega)
  have d4 : wrap64 ((l.length : Int) - 1) = ((l.length - 1 : Nat) : Int) := by rw [IntWalk.wrap64_in _ (by omega)]; omega
  have d5 : (l.length : Int) - 1 = ((l.length - 1 : Nat) : Int) := by omega
  obtain ⟨xab, xao, rfl⟩ := Rw.addr (E0.out.fc 0 rfl) (by omega)
  have E1 : Hid (Env D w [] [.ce xab (xao + (l.length - 1)) (.int .i64 l[l.length - 1]), .rw (.slice (some ⟨xab, xao, none⟩) l.length xk) l.length 1 (icl l)] _) := Lib.hid (E0.out.elI 0 rfl rfl (l.length - 1) (by omega))
  clear E0
  have u0 := (E1.out.fc 0 rfl).2
  have d3 : (l[l.length - 1] == 0) = false := by simp [hz]
  have d3n : (l[l.length - 1] != 0) = true := by simp [hz]
  clear hz
  go_wp2_with fail
  refine (rResidues_c q l (E1.out.fc 1 rfl) ht.out (by omega)).mono ?_
  rintro e w1 ⟨rfl, hb⟩
  have E2 : Hid (Env D w [] [.ce xab (xao + (l.length - 1)) (.int .i64 l[l.length - 1]), .rw (.slice (some ⟨xab, xao, none⟩) l.length xk) l.length 1 (icl l)] w1) := Lib.hid (E1.out.below hb)
  clear u0 E1 hb
  have z1 := (E2.out.fc 0 rfl).2
  have hfin := Lib.hid E2.out.bel
  go_wp2
  go_ret
  exact ⟨rfl, hfin.out⟩
theorem rValid_c {D : Nat → Prop} (q : Int) (l : List Int) {xa : Option Addr} {xk : Nat} {w : World} (hx : Fct.at w D (.rw (.slice xa l.length xk) l.length 1 (icl l))) {t : Bool} (ht : polyB q l = t) :
    Calls Tryd.prog 22 #[.int .i64 q, .slice xa l.length xk] w fun e w' => e = .returned (.bool t) ∧ Below w.heap.size w w' := by
  by_cases h1 : 1000 < l.length
  · rw [polyB_long h1] at ht; subst ht; exact rValid_long q l hx h1
  · by_cases h2 : l.length = 0
    · rw [polyB_nil h2] at ht; subst ht; exact rValid_nil q l hx h2
    · cases hr : l.all (resB q) with
      | false => have : polyB q l = false := by { unfold polyB; rw [hr, Bool.false_and, Bool.and_false] }
                 rw [this] at ht; subst ht; exact rValid_res q l hx (by omega) hr
      | true =>
        by_cases h3 : l[l.length - 1] = 0
        · rw [polyB_zero (by omega) h3] at ht; subst ht; exact rValid_zero q l hx (by omega) (by omega) hr h3
        · rw [polyB_some (by omega) (by omega) h3, hr] at ht; subst ht; exact rValid_some q l hx (by omega) (by omega) hr h3
end Go.Proofs.YtinlfogpbologaaDoor

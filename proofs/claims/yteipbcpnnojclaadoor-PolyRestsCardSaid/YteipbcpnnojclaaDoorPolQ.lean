/- Merged: PolR, PolS, PolT, PolU, PolV, PolW, PolX, PolY, PolZ, PolL, PolO, PolQm, PolBb. -/
import Derived.Test.YteipbcpnnojclaaDoorPolI
/- specieref13: Field, Residues, Valid, at. -/
namespace Go.Proofs.YteipbcpnnojclaaDoor
open Go.RowKit DivMath WordMath
set_option linter.unusedVariables false
set_option linter.unusedSimpArgs false
set_option maxHeartbeats 1000000 in
theorem rField_c (q : Int) (w : World) {t : Bool} (hn : -9223372036854775808 ≤ q) (ht : fieldB q = t) :
    Calls Tryd.prog 16 #[.int .i64 q] w fun e w' => e = .returned (.bool t) ∧ Below w.heap.size w w' := by
  by_cases h : q < 2305843009213693952
  · have d1 : decide (q < 2305843009213693952) = true := decide_eq_true h
    obtain ⟨b, hb⟩ : ∃ b, b = Pri.isP q.toNat := ⟨_, rfl⟩
    have htb : t = b := by rw [← ht, hb]; unfold fieldB; rw [d1, Bool.true_and]
    have cc := rIs_c q w ⟨hn, by omega⟩
    rw [← hb] at cc
    have CC := Lib.hid cc
    subst htb
    clear ht hb cc hn h
    go_enter Tryd.func16, Tryd.ntmps16
    go_wp2_with fail
    refine CC.out.mono ?_
    rintro e w1 ⟨rfl, hB⟩
    go_wp2
    go_ret
    exact ⟨rfl, hB⟩
  · have d1 : decide (q < 2305843009213693952) = false := decide_eq_false h
    have htb : t = false := by rw [← ht]; unfold fieldB; rw [d1, Bool.false_and]
    subst htb
    clear ht
    go_enter Tryd.func16, Tryd.ntmps16
    go_wp2
    go_ret
    exact ⟨rfl, Below.refl _ _⟩
set_option maxRecDepth 100000 in
set_option maxHeartbeats 1000000 in
theorem rResidues_c {D : Nat → Prop} (q : Int) (l : List Int) {xa : Option Addr} {xk : Nat} {w : World} (hx : Fct.at w D (.rw (.slice xa l.length xk) l.length 1 (icl l))) {t : Bool} (ht0 : l.all (resB q) = t) (hm : l.length ≤ 1000000) :
    Calls Tryd.prog 17 #[.int .i64 q, .slice xa l.length xk] w fun e w' => e = .returned (.bool t) ∧ Below w.heap.size w w' := by
  have E0 : Hid (Env D w [] [.rw (.slice xa l.length xk) l.length 1 (icl l)] w) := Lib.hid ((Env.start D w).arg (.rw (.slice xa l.length xk) l.length 1 (icl l)) hx)
  clear hx
  go_enter Tryd.func17, Tryd.ntmps17
  have ht := Lib.hid ht0
  clear ht0
  go_wp2_with fail
  go_loopg [5] (l.length) (fun gk s5 wr => ∃ (k : Nat), s5 = .int .i64 (k : Int) ∧ Hid (Env D w [] [.rw (.slice xa l.length xk) l.length 1 (icl l)] wr) ∧ Hid ((k ≤ l.length ∧ gk = l.length - k) ∧ ∀ j (h : j < l.length), j < k → resB q l[j] = true))
  case atStart => exact ⟨0, rfl, Lib.hid E0.out, Lib.hid ⟨⟨Nat.zero_le _, rfl⟩, fun j _ h => absurd h (Nat.not_lt_zero _)⟩⟩
  case round =>
    clear E0
    obtain ⟨k, rfl, EL, HA⟩ := hrel
    obtain ⟨⟨a1, a2⟩, a3⟩ := HA.out
    have HS := Lib.hid a3
    clear a3 HA
    by_cases hy : k = l.length
    rotate_left
    · have hk : k < l.length := by omega
      have t6 : decide ((k : Int) < (l.length : Int)) = true := decide_eq_true (by omega)
      have t7 : decide (k < l.length) = true := decide_eq_true hk
      clear hy
      obtain ⟨xab, xao, rfl⟩ := Rw.addr (EL.out.fc 0 rfl) (by omega)
      have E1 : Hid (Env D w [] [.ce xab (xao + k) (.int .i64 l[k]), .rw (.slice (some ⟨xab, xao, none⟩) l.length xk) l.length 1 (icl l)] _) := Lib.hid (EL.out.elI 0 rfl rfl (k) hk)
      clear EL
      have u0 := (E1.out.fc 0 rfl).2
      have HF : Hid (resB q l[k] = false → t = false) := Lib.hid (fun h => by rw [← ht.out, List.all_eq_false]; exact ⟨l[k], List.getElem_mem hk, by rw [h]; simp⟩)
      by_cases h1 : l[k] < 0
      · have d1 : decide (l[k] < 0) = true := decide_eq_true h1
        obtain rfl : t = false := HF.out (by unfold resB; rw [decide_eq_false (by omega)]; rfl)
        clear h1
        have hfin := Lib.hid E1.out.bel
        go_wp2
        go_ret
        exact ⟨rfl, hfin.out⟩
      have d1 : decide (l[k] < 0) = false := decide_eq_false h1
      by_cases h2 : q ≤ l[k]
      · have d2 : decide (q ≤ l[k]) = true := decide_eq_true h2
        obtain rfl : t = false := HF.out (by unfold resB; rw [decide_eq_false (show ¬ l[k] < q by omega), Bool.and_false])
        clear h1 h2
        have hfin := Lib.hid E1.out.bel
        go_wp2
        go_ret
        exact ⟨rfl, hfin.out⟩
      have d2 : decide (q ≤ l[k]) = false := decide_eq_false h2
      have HR : Hid (resB q l[k] = true) := Lib.hid (by unfold resB; rw [decide_eq_true (by omega), decide_eq_true (by omega)]; rfl)
      clear h1 h2
      have EZ := Lib.hid (E1.out.forget)
      go_wp2
      go_roundg (l.length - (k + 1))
      case rel => exact ⟨k + 1, rfl, EZ, Lib.hid ⟨⟨by omega, rfl⟩, fun j h hj => by by_cases e : j = k; (· subst e; exact HR.out); exact HS.out j h (by omega)⟩⟩
      case measure => exact by omega
    have t6 : decide ((k : Int) < (l.length : Int)) = false := decide_eq_false (by omega)
    have t7 : decide (k < l.length) = false := decide_eq_false (by omega)
    obtain rfl : t = true := by rw [← ht.out, List.all_eq_true]; intro x hx; obtain ⟨j, hj, rfl⟩ := List.getElem_of_mem hx; exact HS.out j hj (by omega)
    have HY := Lib.hid hy
    clear hy
    have hfin := Lib.hid EL.out.bel
    go_wp2
    go_ret
    exact ⟨rfl, hfin.out⟩
set_option maxRecDepth 100000 in
set_option maxHeartbeats 1000000 in
theorem rAt_c {D : Nat → Prop} (l : List Nat) (i : Nat) {xa : Option Addr} {xk : Nat} {w : World} (hx : Fct.at w D (.rw (.slice xa l.length xk) l.length 1 (ncl l))) {r : Nat} (hr0 : l.getD i 0 = r) (hi9 : (i : Int) ≤ 1000000) (hm : l.length ≤ 1000000) :
    Calls Tryd.prog 109 #[.slice xa l.length xk, .int .i64 (i : Nat)] w fun e w' => e = .returned (.int .i64 (r : Nat)) ∧ Below w.heap.size w w' := by
  have E0 : Hid (Env D w [] [.rw (.slice xa l.length xk) l.length 1 (ncl l)] w) := Lib.hid ((Env.start D w).arg (.rw (.slice xa l.length xk) l.length 1 (ncl l)) hx)
  clear hx
  go_enter Tryd.func109, Tryd.ntmps109
  by_cases hi0 : l.length ≤ i
  rotate_left
  · have t6 : decide ((i : Int) < (l.length : Int)) = true := decide_eq_true (by omega)
    have hi : i < l.length := by omega
    have t7 : decide (i < l.length) = true := decide_eq_true hi
    clear hi0
    have hr : r = l[i] := by rw [← hr0]; simp [List.getElem?_eq_getElem hi]
    subst hr
    clear hr0
    obtain ⟨xab, xao, rfl⟩ := Rw.addr (E0.out.fc 0 rfl) (by omega)
    have E1 : Hid (Env D w [] [.ce xab (xao + i) (.int .i64 (l[i] : Nat)), .rw (.slice (some ⟨xab, xao, none⟩) l.length xk) l.length 1 (ncl l)] _) := Lib.hid (E0.out.elN 0 rfl rfl (i) hi)
    clear E0
    have u0 := (E1.out.fc 0 rfl).2
    have hfin := Lib.hid E1.out.bel
    go_wp2
    go_ret
    exact ⟨rfl, hfin.out⟩
  have t6 : decide ((i : Int) < (l.length : Int)) = false := decide_eq_false (by omega)
  have t7 : decide (i < l.length) = false := decide_eq_false (by omega)
  have hr : r = 0 := by rw [← hr0]; simp [List.getElem?_eq_none (show l.length ≤ i by omega)]
  subst hr
  clear hr0 hi0
  have hfin := Lib.hid E0.out.bel
  go_wp2
  go_ret
  exact ⟨rfl, hfin.out⟩
set_option maxRecDepth 100000 in
set_option maxHeartbeats 1000000 in
theorem rValid_long {D : Nat → Prop} (q : Int) (l : List Int) {xa : Option Addr} {xk : Nat} {w : World} (hx : Fct.at w D (.rw (.slice xa l.length xk) l.length 1 (icl l))) (hl : 1000 < l.length) :
    Calls Tryd.prog 27 #[.int .i64 q, .slice xa l.length xk] w fun e w' => e = .returned (.bool false) ∧ Below w.heap.size w w' := by
  have E0 : Hid (Env D w [] [.rw (.slice xa l.length xk) l.length 1 (icl l)] w) := Lib.hid ((Env.start D w).arg (.rw (.slice xa l.length xk) l.length 1 (icl l)) hx)
  clear hx
  go_enter Tryd.func27, Tryd.ntmps27
  have d1 : decide ((l.length : Int) ≤ 1000) = false := decide_eq_false (by omega)
  have d1n : decide (l.length ≤ 1000) = false := decide_eq_false (by omega)
  have hfin := Lib.hid E0.out.bel
  go_wp2
  go_ret
  exact ⟨rfl, hfin.out⟩
set_option maxRecDepth 100000 in
set_option maxHeartbeats 1000000 in
theorem rValid_res {D : Nat → Prop} (q : Int) (l : List Int) {xa : Option Addr} {xk : Nat} {w : World} (hx : Fct.at w D (.rw (.slice xa l.length xk) l.length 1 (icl l))) (hl : l.length ≤ 1000) (ht0 : l.all (resB q) = false) :
    Calls Tryd.prog 27 #[.int .i64 q, .slice xa l.length xk] w fun e w' => e = .returned (.bool false) ∧ Below w.heap.size w w' := by
  have E0 : Hid (Env D w [] [.rw (.slice xa l.length xk) l.length 1 (icl l)] w) := Lib.hid ((Env.start D w).arg (.rw (.slice xa l.length xk) l.length 1 (icl l)) hx)
  clear hx
  go_enter Tryd.func27, Tryd.ntmps27
  have ht := Lib.hid ht0
  clear ht0
  have d1 : decide ((l.length : Int) ≤ 1000) = true := decide_eq_true (by omega)
  have d1n : decide (l.length ≤ 1000) = true := decide_eq_true (by omega)
  go_wp2_with fail
  refine (rResidues_c q l (E0.out.fc 0 rfl) ht.out (by omega)).mono ?_
  rintro e w1 ⟨rfl, hb⟩
  have E1 : Hid (Env D w [] [.rw (.slice xa l.length xk) l.length 1 (icl l)] w1) := Lib.hid (E0.out.below hb)
  clear E0 hb
  have hfin := Lib.hid E1.out.bel
  go_wp2
  go_ret
  exact ⟨rfl, hfin.out⟩
set_option maxRecDepth 100000 in
set_option maxHeartbeats 1000000 in
theorem rValid_nil {D : Nat → Prop} (q : Int) (l : List Int) {xa : Option Addr} {xk : Nat} {w : World} (hx : Fct.at w D (.rw (.slice xa l.length xk) l.length 1 (icl l))) (hl : l.length = 0) :
    Calls Tryd.prog 27 #[.int .i64 q, .slice xa l.length xk] w fun e w' => e = .returned (.bool true) ∧ Below w.heap.size w w' := by
  have E0 : Hid (Env D w [] [.rw (.slice xa l.length xk) l.length 1 (icl l)] w) := Lib.hid ((Env.start D w).arg (.rw (.slice xa l.length xk) l.length 1 (icl l)) hx)
  clear hx
  go_enter Tryd.func27, Tryd.ntmps27
  obtain rfl := List.length_eq_zero_iff.1 hl
  clear hl
  have d1 : decide ((([] : List Int).length : Int) ≤ 1000) = true := rfl
  have d2 : ((([] : List Int).length : Int) == 0) = true := rfl
  go_wp2_with fail
  refine (rResidues_c q [] (t := true) (E0.out.fc 0 rfl) rfl (by simp)).mono ?_
  rintro e w1 ⟨rfl, hb⟩
  have E1 : Hid (Env D w [] [.rw (.slice xa ([] : List Int).length xk) ([] : List Int).length 1 (icl ([] : List Int))] w1) := Lib.hid (E0.out.below hb)
  clear E0 hb
  have hfin := Lib.hid E1.out.bel
  go_wp2
  go_ret
  exact ⟨rfl, hfin.out⟩
set_option maxRecDepth 100000 in
set_option maxHeartbeats 1000000 in
theorem rValid_zero {D : Nat → Prop} (q : Int) (l : List Int) {xa : Option Addr} {xk : Nat} {w : World} (hx : Fct.at w D (.rw (.slice xa l.length xk) l.length 1 (icl l))) (hl : 0 < l.length) (hl2 : l.length ≤ 1000) (ht0 : l.all (resB q) = true) (hz : l[l.length - 1] = 0) :
    Calls Tryd.prog 27 #[.int .i64 q, .slice xa l.length xk] w fun e w' => e = .returned (.bool false) ∧ Below w.heap.size w w' := by
  have E0 : Hid (Env D w [] [.rw (.slice xa l.length xk) l.length 1 (icl l)] w) := Lib.hid ((Env.start D w).arg (.rw (.slice xa l.length xk) l.length 1 (icl l)) hx)
  clear hx
  go_enter Tryd.func27, Tryd.ntmps27
  have ht := Lib.hid ht0
  clear ht0
  have d1 : decide ((l.length : Int) ≤ 1000) = true := decide_eq_true (by omega)
  have d1n : decide (l.length ≤ 1000) = true := decide_eq_true (by omega)
  have d2 : ((l.length : Int) == 0) = false := beq_eq_false_iff_ne.2 (by omega)
  have d4 : wrap64 ((l.length : Int) - 1) = ((l.length - 1 : Nat) : Int) := by rw [IntWalk.wrap64_in _ (by omega)]; omega
  have d5 : (l.length : Int) - 1 = ((l.length - 1 : Nat) : Int) := by omega
  obtain ⟨xab, xao, rfl⟩ := Rw.addr (E0.out.fc 0 rfl) (by omega)
  have E1 : Hid (Env D w [] [.ce xab (xao + (l.length - 1)) (.int .i64 l[l.length - 1]), .rw (.slice (some ⟨xab, xao, none⟩) l.length xk) l.length 1 (icl l)] _) := Lib.hid (E0.out.elI 0 rfl rfl (l.length - 1) (by omega))
  clear E0
  have u0 := (E1.out.fc 0 rfl).2
  have d3 : (l[l.length - 1] == 0) = true := by simp [hz]
  have d3n : (l[l.length - 1] != 0) = false := by simp [hz]
  clear hz
  go_wp2_with fail
  refine (rResidues_c q l (E1.out.fc 1 rfl) ht.out (by omega)).mono ?_
  rintro e w1 ⟨rfl, hb⟩
  have E2 : Hid (Env D w [] [.ce xab (xao + (l.length - 1)) (.int .i64 l[l.length - 1]), .rw (.slice (some ⟨xab, xao, none⟩) l.length xk) l.length 1 (icl l)] w1) := Lib.hid (E1.out.below hb)
  clear u0 E1 hb
  have z1 := (E2.out.fc 0 rfl).2
  have hfin := Lib.hid E2.out.bel
  go_wp2
  go_ret
  exact ⟨rfl, hfin.out⟩
set_option maxRecDepth 100000 in
set_option maxHeartbeats 1000000 in
theorem rValid_some {D : Nat → Prop} (q : Int) (l : List Int) {xa : Option Addr} {xk : Nat} {w : World} (hx : Fct.at w D (.rw (.slice xa l.length xk) l.length 1 (icl l))) (hl : 0 < l.length) (hl2 : l.length ≤ 1000) (ht0 : l.all (resB q) = true) (hz : ¬ l[l.length - 1] = 0) :
    Calls Tryd.prog 27 #[.int .i64 q, .slice xa l.length xk] w fun e w' => e = .returned (.bool true) ∧ Below w.heap.size w w' := by
  have E0 : Hid (Env D w [] [.rw (.slice xa l.length xk) l.length 1 (icl l)] w) := Lib.hid ((Env.start D w).arg (.rw (.slice xa l.length xk) l.length 1 (icl l)) hx)
  clear hx
  go_enter Tryd.func27, Tryd.ntmps27
  have ht := Lib.hid ht0
  clear ht0
  have d1 : decide ((l.length : Int) ≤ 1000) = true := decide_eq_true (by omega)
  have d1n : decide (l.length ≤ 1000) = true := decide_eq_true (by omega)
  have d2 : ((l.length : Int) == 0) = false := beq_eq_false_iff_ne.2 (by omega)
  have d4 : wrap64 ((l.length : Int) - 1) = ((l.length - 1 : Nat) : Int) := by rw [IntWalk.wrap64_in _ (by omega)]; omega
  have d5 : (l.length : Int) - 1 = ((l.length - 1 : Nat) : Int) := by omega
  obtain ⟨xab, xao, rfl⟩ := Rw.addr (E0.out.fc 0 rfl) (by omega)
  have E1 : Hid (Env D w [] [.ce xab (xao + (l.length - 1)) (.int .i64 l[l.length - 1]), .rw (.slice (some ⟨xab, xao, none⟩) l.length xk) l.length 1 (icl l)] _) := Lib.hid (E0.out.elI 0 rfl rfl (l.length - 1) (by omega))
  clear E0
  have u0 := (E1.out.fc 0 rfl).2
  have d3 : (l[l.length - 1] == 0) = false := by simp [hz]
  have d3n : (l[l.length - 1] != 0) = true := by simp [hz]
  clear hz
  go_wp2_with fail
  refine (rResidues_c q l (E1.out.fc 1 rfl) ht.out (by omega)).mono ?_
  rintro e w1 ⟨rfl, hb⟩
  have E2 : Hid (Env D w [] [.ce xab (xao + (l.length - 1)) (.int .i64 l[l.length - 1]), .rw (.slice (some ⟨xab, xao, none⟩) l.length xk) l.length 1 (icl l)] w1) := Lib.hid (E1.out.below hb)
  clear u0 E1 hb
  have z1 := (E2.out.fc 0 rfl).2
  have hfin := Lib.hid E2.out.bel
  go_wp2
  go_ret
  exact ⟨rfl, hfin.out⟩
theorem rValid_c {D : Nat → Prop} (q : Int) (l : List Int) {xa : Option Addr} {xk : Nat} {w : World} (hx : Fct.at w D (.rw (.slice xa l.length xk) l.length 1 (icl l))) {t : Bool} (ht : polyB q l = t) :
    Calls Tryd.prog 27 #[.int .i64 q, .slice xa l.length xk] w fun e w' => e = .returned (.bool t) ∧ Below w.heap.size w w' := by
  by_cases h1 : 1000 < l.length
  · rw [polyB_long h1] at ht; subst ht; exact rValid_long q l hx h1
  · by_cases h2 : l.length = 0
    · rw [polyB_nil h2] at ht; subst ht; exact rValid_nil q l hx h2
    · cases hr : l.all (resB q) with
      | false => have : polyB q l = false := by { unfold polyB; rw [hr, Bool.false_and, Bool.and_false] }
                 rw [this] at ht; subst ht; exact rValid_res q l hx (by omega) hr
      | true =>
        by_cases h3 : l[l.length - 1] = 0
        · rw [polyB_zero (by omega) h3] at ht; subst ht; exact rValid_zero q l hx (by omega) (by omega) hr h3
        · rw [polyB_some (by omega) (by omega) h3, hr] at ht; subst ht; exact rValid_some q l hx (by omega) (by omega) hr h3
end Go.Proofs.YteipbcpnnojclaaDoor

/- specieref13: Trim. -/
namespace Go.Proofs.YteipbcpnnojclaaDoor
open Go.RowKit DivMath WordMath
set_option linter.unusedVariables false
set_option linter.unusedSimpArgs false
/-- a list of the call's own, as a caller reads it -/
theorem OI.rwN {sg : List Bx} {cs : List Value} {v : Value} {o : List Nat} {D0 : Nat → Prop} {w W : World} {F : List Bx} {G : List Fct} (h : OI sg cs v (nl o)) (E : Env D0 w F G W) (hs : ∀ p ∈ sg, p ∈ F) : Rw W (fun b => w.heap.size ≤ b) v o.length 1 (ncl o) := by
  obtain ⟨h, ht⟩ := h
  rw [nl_len] at h ht
  rcases h with ⟨rfl, rfl, rfl, h0⟩ | ⟨g, cap, rfl, rfl, h1, h2, h3⟩
  · have : o = [] := List.length_eq_zero_iff.1 h0
    subst this; exact Rw.nil _ _ _
  · have hB := (held_iff.1 E.box).1 (g, 3, cs) (hs _ (by simp))
    refine ⟨_, cap, rfl, h1, h2, ncl_len o, ncl_one o, fun _ => ⟨g, 0, rfl, ⟨hB.lt, hB.1⟩, fun i u hu => ?_⟩⟩
    rw [Nat.zero_add]
    rw [show ncl o = cs.take o.length from ht.symm, List.getElem?_take] at hu
    split at hu
    · exact hB.cell _ hu
    · cases hu
theorem OI.snoc {g p : Nat} {cs : List Value} {o : List Nat} {x : Nat} (h : OI [(g, 3, cs)] cs (.slice (some ⟨g, 0, none⟩) ((nl o).length + 1) p) (nl o ++ [(x : Int)])) : OI [(g, 3, cs)] cs (.slice (some ⟨g, 0, none⟩) (nl (o ++ [x])).length p) (nl (o ++ [x])) := by
  have e : nl (o ++ [x]) = nl o ++ [(x : Int)] := by simp [nl]
  rw [e]; simpa using h
theorem OI.v {g p : Nat} {o : List Nat} {x : Nat} : Value.slice (some ⟨g, 0, none⟩) ((nl o).length + 1) p = .slice (some ⟨g, 0, none⟩) (nl (o ++ [x])).length p := by simp [nl]
theorem OI.nlnil : OI [] [] (.slice none (nl []).length 0) (nl []) := OI.nil
set_option maxRecDepth 100000 in
set_option maxHeartbeats 2000000 in
theorem rTrim_c {D : Nat → Prop} (l : List Nat) {xa : Option Addr} {xk : Nat} {w : World} (hx : Fct.at w D (.rw (.slice xa l.length xk) l.length 1 (ncl l))) (hm : l.length ≤ 2000) :
    Calls Tryd.prog 65 #[.slice xa l.length xk] w fun e w' => RetI (fun b => w.heap.size ≤ b) (trimN l) e w' ∧ Below w.heap.size w w' := by
  have E0 : Hid (Env D w [] [.rw (.slice xa l.length xk) l.length 1 (ncl l)] w) := Lib.hid ((Env.start D w).arg (.rw (.slice xa l.length xk) l.length 1 (ncl l)) hx)
  clear hx
  go_enter Tryd.func65, Tryd.ntmps65
  go_wp2_with fail
  go_loopg [3] (l.length) (fun gk s3 wr => ∃ (n : Nat), s3 = .int .i64 (n : Int) ∧ Hid (Env D w [] [.rw (.slice xa l.length xk) l.length 1 (ncl l)] wr) ∧ Hid ((n ≤ l.length ∧ gk = n) ∧ trimN (l.take n) = trimN l))
  case atStart => exact ⟨l.length, rfl, Lib.hid E0.out, Lib.hid ⟨⟨Nat.le_refl _, rfl⟩, by rw [List.take_length]⟩⟩
  case round =>
    clear E0
    obtain ⟨n, rfl, EL, HA⟩ := hrel
    obtain ⟨⟨a1, a2⟩, a3⟩ := HA.out
    have HS := Lib.hid a3
    clear a3 HA
    have hn9 : (n : Int) ≤ 2000 := by omega
    by_cases hy : n = 0
    · have d2 : decide ((0 : Int) < (n : Int)) = false := decide_eq_false (by omega)
      have d2n : decide (0 < n) = false := decide_eq_false (by omega)
      have HT : Hid (l.take n = trimN l) := Lib.hid (by rw [← HS.out, hy]; rfl)
      have HY := Lib.hid hy
      clear hy
      have HN := Lib.hid a1
      clear a2
      go_wp2_with fail
      go_loopg [5, 4] (n) (fun gk s5 s4 wr => ∃ (k : Nat) (sg : List Bx) (cs : List Value) (va : Option Addr) (vk : Nat) (o : List Nat), s5 = .int .i64 (k : Int) ∧ s4 = .slice va (nl o).length vk ∧ Hid (Env D w (sg) [.rw (.slice xa l.length xk) l.length 1 (ncl l)] wr) ∧ Hid (OI sg cs (.slice va (nl o).length vk) (nl o)) ∧ Hid ((k ≤ n ∧ gk = n - k) ∧ o = l.take k))
      case atStart => exact ⟨0, [], [], none, 0, [], rfl, rfl, Lib.hid (EL.out.cast (by simp)), Lib.hid OI.nlnil, Lib.hid ⟨⟨Nat.zero_le _, rfl⟩, rfl⟩⟩
      case round =>
        clear EL
        obtain ⟨k, sg, cs, va, vk, o, rfl, rfl, EL, hO, HA⟩ := hrel
        obtain ⟨⟨b1, b2⟩, b3⟩ := HA.out
        have HP := Lib.hid b3
        clear b3 HA
        by_cases hw : k = n
        rotate_left
        · have hk : k < n := by omega
          have hkl : k < l.length := by omega
          have t8 : decide ((k : Int) < (n : Int)) = true := decide_eq_true (by omega)
          have t9 : decide (k < n) = true := decide_eq_true hk
          clear hw
          have hol : (nl o).length + 1 ≤ 1000000 := by rw [nl_len, HP.out]; simp; omega
          have HOL := Lib.hid hol
          clear hol
          obtain ⟨xab, xao, rfl⟩ := Rw.addr (EL.out.fc 0 rfl) (by omega)
          have E1 : Hid (Env D w (sg) [.ce xab (xao + k) (.int .i64 (l[k] : Nat)), .rw (.slice (some ⟨xab, xao, none⟩) l.length xk) l.length 1 (ncl l)] _) := Lib.hid (EL.out.elN 0 rfl rfl (k) hkl)
          clear EL
          have p0 := (E1.out.fc 0 rfl).2
          have E2 : Hid (Env D w ((wr.heap.size, 3, [.int .i64 (l[k] : Nat)]) :: sg) [.ce xab (xao + k) (.int .i64 (l[k] : Nat)), .rw (.slice (some ⟨xab, xao, none⟩) l.length xk) l.length 1 (ncl l)] _) := Lib.hid ((E1.out.push 3 [.int .i64 (l[k] : Nat)] (wr.heap.size) (by simp)))
          go_wp2_with (at_builtin; refine wpl_app1 (c := 1) tiI rfl _ _ rfl E2.out (A := [(wr.heap.size, 3, [.int .i64 (l[k] : Nat)])]) (sg := sg) (B' := []) (F := ((wr.heap.size, 3, [.int .i64 (l[k] : Nat)]) :: sg)) (by simp) (hO.out.os rfl) rfl rfl (SrcN.int (E2.out.bx 0 rfl)) HOL.out ?_)
          intro zg zp zc w1 zH zT zE
          have zO := Lib.hid (OI.app (x := ((l[k] : Nat) : Int)) (g' := zg) (cs' := zc) (cap' := zp) hO.out rfl (by simpa using zH.out) (by simpa using zT.out))
          have E3 : Hid (Env D w ((wr.heap.size, 3, [.int .i64 (l[k] : Nat)]) :: [(zg, 3, zc)]) [.ce xab (xao + k) (.int .i64 (l[k] : Nat)), .rw (.slice (some ⟨xab, xao, none⟩) l.length xk) l.length 1 (ncl l)] w1) := Lib.hid (zE.out.cast (by simp))
          clear p0 E1 E2 zE zH zT hO
          have EZ := Lib.hid ((E3.out.drop).forget)
          have OZ := Lib.hid (OI.snoc (x := l[k]) zO.out)
          go_wp2
          go_roundg (n - (k + 1))
          case rel => exact ⟨k + 1, [(zg, 3, zc)], zc, some ⟨zg, 0, none⟩, zp, o ++ [l[k]], rfl, OI.v, EZ, OZ, Lib.hid ⟨⟨by omega, rfl⟩, by rw [HP.out, List.take_succ_eq_append_getElem hkl]⟩⟩
          case measure => exact by omega
        have t8 : decide ((k : Int) < (n : Int)) = false := decide_eq_false (by omega)
        have t9 : decide (k < n) = false := decide_eq_false (by omega)
        have HD : Hid (o = trimN l) := Lib.hid (by rw [HP.out, hw, HT.out])
        have HY2 := Lib.hid hw
        clear hw
        have hres := Lib.hid (hO.out.rwN EL.out (by intro p hp; exact hp))
        have hbel := Lib.hid EL.out.bel
        go_wp2
        go_ret
        refine ⟨⟨va, vk, by rw [← HD.out, nl_len]; rfl, Lib.hid ?_⟩, hbel.out⟩
        have h := hres.out
        rw [← HD.out]
        rw [nl_len] at h
        exact h
    · have d2 : decide ((0 : Int) < (n : Int)) = true := decide_eq_true (by omega)
      have d2n : decide (0 < n) = true := decide_eq_true (by omega)
      have d4 : wrap64 ((n : Int) - 1) = ((n - 1 : Nat) : Int) := by rw [IntWalk.wrap64_in _ (by omega)]; omega
      have d5 : (n : Int) - 1 = ((n - 1 : Nat) : Int) := by omega
      have hk : n - 1 < l.length := by omega
      obtain ⟨xab, xao, rfl⟩ := Rw.addr (EL.out.fc 0 rfl) (by omega)
      have E1 : Hid (Env D w [] [.ce xab (xao + (n - 1)) (.int .i64 (l[n - 1] : Nat)), .rw (.slice (some ⟨xab, xao, none⟩) l.length xk) l.length 1 (ncl l)] _) := Lib.hid (EL.out.elN 0 rfl rfl (n - 1) hk)
      clear EL
      have u0 := (E1.out.fc 0 rfl).2
      by_cases hz : l[n - 1] = 0
      · have HR : Hid (trimN (l.take (n - 1)) = trimN l) := Lib.hid (by rw [← trimN_zero (by omega) a1 hz]; exact HS.out)
        have d3 : ((l[n - 1] : Nat) : Int) = 0 := by omega
        have d6 : (((l[n - 1] : Nat) : Int) == 0) = true := by simp; omega
        have d7 : (l[n - 1] == 0) = true := by simp; omega
        clear hz d3
        have EZ := Lib.hid (E1.out.forget)
        go_wp2
        go_roundg (n - 1)
        case rel => exact ⟨n - 1, rfl, EZ, Lib.hid ⟨⟨by omega, rfl⟩, HR.out⟩⟩
        case measure => exact by omega
      · have HT : Hid (l.take n = trimN l) := Lib.hid (by rw [← HS.out, trimN_some (by omega) a1 hz])
        have d6 : (((l[n - 1] : Nat) : Int) == 0) = false := by simp; omega
        have d7 : (l[n - 1] == 0) = false := by simp; omega
        clear hz
        have HN := Lib.hid a1
        clear a2
        go_wp2_with fail
        go_loopg [5, 4] (n) (fun gk s5 s4 wr => ∃ (k : Nat) (sg : List Bx) (cs : List Value) (va : Option Addr) (vk : Nat) (o : List Nat), s5 = .int .i64 (k : Int) ∧ s4 = .slice va (nl o).length vk ∧ Hid (Env D w (sg) [.ce xab (xao + (n - 1)) (.int .i64 (l[n - 1] : Nat)), .rw (.slice (some ⟨xab, xao, none⟩) l.length xk) l.length 1 (ncl l)] wr) ∧ Hid (OI sg cs (.slice va (nl o).length vk) (nl o)) ∧ Hid ((k ≤ n ∧ gk = n - k) ∧ o = l.take k))
        case atStart => exact ⟨0, [], [], none, 0, [], rfl, rfl, Lib.hid (E1.out.cast (by simp)), Lib.hid OI.nlnil, Lib.hid ⟨⟨Nat.zero_le _, rfl⟩, rfl⟩⟩
        case round =>
          clear u0 E1
          obtain ⟨k, sg, cs, va, vk, o, rfl, rfl, EL, hO, HA⟩ := hrel
          obtain ⟨⟨b1, b2⟩, b3⟩ := HA.out
          have HP := Lib.hid b3
          clear b3 HA
          by_cases hw : k = n
          rotate_left
          · have hk : k < n := by omega
            have hkl : k < l.length := by omega
            have t8 : decide ((k : Int) < (n : Int)) = true := decide_eq_true (by omega)
            have t9 : decide (k < n) = true := decide_eq_true hk
            clear hw
            have hol : (nl o).length + 1 ≤ 1000000 := by rw [nl_len, HP.out]; simp; omega
            have HOL := Lib.hid hol
            clear hol
            have E2 : Hid (Env D w (sg) [.ce xab (xao + k) (.int .i64 (l[k] : Nat)), .ce xab (xao + (n - 1)) (.int .i64 (l[n - 1] : Nat)), .rw (.slice (some ⟨xab, xao, none⟩) l.length xk) l.length 1 (ncl l)] _) := Lib.hid (EL.out.elN 1 rfl rfl (k) hkl)
            clear EL
            have p0 := (E2.out.fc 0 rfl).2
            have E3 : Hid (Env D w ((wr.heap.size, 3, [.int .i64 (l[k] : Nat)]) :: sg) [.ce xab (xao + k) (.int .i64 (l[k] : Nat)), .ce xab (xao + (n - 1)) (.int .i64 (l[n - 1] : Nat)), .rw (.slice (some ⟨xab, xao, none⟩) l.length xk) l.length 1 (ncl l)] _) := Lib.hid ((E2.out.push 3 [.int .i64 (l[k] : Nat)] (wr.heap.size) (by simp)))
            go_wp2_with (at_builtin; refine wpl_app1 (c := 1) tiI rfl _ _ rfl E3.out (A := [(wr.heap.size, 3, [.int .i64 (l[k] : Nat)])]) (sg := sg) (B' := []) (F := ((wr.heap.size, 3, [.int .i64 (l[k] : Nat)]) :: sg)) (by simp) (hO.out.os rfl) rfl rfl (SrcN.int (E3.out.bx 0 rfl)) HOL.out ?_)
            intro zg zp zc w1 zH zT zE
            have zO := Lib.hid (OI.app (x := ((l[k] : Nat) : Int)) (g' := zg) (cs' := zc) (cap' := zp) hO.out rfl (by simpa using zH.out) (by simpa using zT.out))
            have E4 : Hid (Env D w ((wr.heap.size, 3, [.int .i64 (l[k] : Nat)]) :: [(zg, 3, zc)]) [.ce xab (xao + k) (.int .i64 (l[k] : Nat)), .ce xab (xao + (n - 1)) (.int .i64 (l[n - 1] : Nat)), .rw (.slice (some ⟨xab, xao, none⟩) l.length xk) l.length 1 (ncl l)] w1) := Lib.hid (zE.out.cast (by simp))
            clear p0 E2 E3 zE zH zT hO
            have EZ := Lib.hid ((E4.out.drop).forget)
            have OZ := Lib.hid (OI.snoc (x := l[k]) zO.out)
            go_wp2
            go_roundg (n - (k + 1))
            case rel => exact ⟨k + 1, [(zg, 3, zc)], zc, some ⟨zg, 0, none⟩, zp, o ++ [l[k]], rfl, OI.v, EZ, OZ, Lib.hid ⟨⟨by omega, rfl⟩, by rw [HP.out, List.take_succ_eq_append_getElem hkl]⟩⟩
            case measure => exact by omega
          have t8 : decide ((k : Int) < (n : Int)) = false := decide_eq_false (by omega)
          have t9 : decide (k < n) = false := decide_eq_false (by omega)
          have HD : Hid (o = trimN l) := Lib.hid (by rw [HP.out, hw, HT.out])
          have HY2 := Lib.hid hw
          clear hw
          have hres := Lib.hid (hO.out.rwN EL.out (by intro p hp; exact hp))
          have hbel := Lib.hid EL.out.bel
          go_wp2
          go_ret
          refine ⟨⟨va, vk, by rw [← HD.out, nl_len]; rfl, Lib.hid ?_⟩, hbel.out⟩
          have h := hres.out
          rw [← HD.out]
          rw [nl_len] at h
          exact h
end Go.Proofs.YteipbcpnnojclaaDoor

/- specieref13: Eval. -/
namespace Go.Proofs.YteipbcpnnojclaaDoor
open Go.RowKit DivMath WordMath
set_option linter.unusedVariables false
set_option linter.unusedSimpArgs false
theorem refMulB (a b q : Nat) (w : World) (ha : (a : Int) < (q : Int)) (hb : (b : Int) < (q : Int)) (hm : (q : Int) < Top) :
    Calls Tryd.prog 66 #[.int .i64 a, .int .i64 b, .int .i64 q] w fun e w' => RetN (fun r => r = a * b % q) e ∧ Below w.heap.size w w' :=
  (refMul_c a b q w (by unfold Top at hm; omega) (by unfold Top at hm; omega) (by omega) hm).mono fun e w' ⟨h1, h2⟩ => ⟨h1, h2.below⟩
theorem evN_lt {q x : Nat} (hq : 0 < q) : ∀ l, evN q x l < q
  | [] => hq
  | _ :: _ => Nat.mod_lt _ hq
theorem evN_drop {q x : Nat} {l : List Nat} {d : Nat} (h : d < l.length) : evN q x (l.drop d) = (evN q x (l.drop (d + 1)) * x % q + l[d]) % q := by
  rw [List.drop_eq_getElem_cons h]; rfl
theorem addL_take {q : Nat} {a b : List Nat} {k : Nat} (hk : k < max a.length b.length) {u v : Nat} (hu : a.getD k 0 = u) (hv : b.getD k 0 = v) : (addL q a b).take (k + 1) = (addL q a b).take k ++ [(u + v) % q] := by
  have hl : k < (addL q a b).length := by rw [addL_len]; exact hk
  rw [List.take_succ_eq_append_getElem hl, ← hu, ← hv]
  simp [addL]
theorem getD_lt {q : Nat} (hq : 0 < q) {l : List Nat} (h : ∀ c ∈ l, c < q) (i : Nat) : l.getD i 0 < q := by
  rw [List.getD_eq_getElem?_getD]
  cases hi : l[i]? with
  | none => exact hq
  | some v => exact h v (List.mem_of_getElem? hi)
end Go.Proofs.YteipbcpnnojclaaDoor

/- specieref13: Add. -/
namespace Go.Proofs.YteipbcpnnojclaaDoor
open Go.RowKit DivMath WordMath
set_option linter.unusedVariables false
set_option linter.unusedSimpArgs false
set_option maxRecDepth 100000 in
set_option maxHeartbeats 300000 in
theorem rAdd_c {D : Nat → Prop} (q : Nat) (a b : List Nat) {xa ya : Option Addr} {xk yk : Nat} {w : World} (hx : Fct.at w D (.rw (.slice xa a.length xk) a.length 1 (ncl a))) (hy : Fct.at w D (.rw (.slice ya b.length yk) b.length 1 (ncl b))) (hq : 0 < q) (hqT : (q : Int) < Top) (ha0 : ∀ c ∈ a, c < q) (hb0 : ∀ c ∈ b, c < q) (hla : a.length ≤ 1000) (hlb : b.length ≤ 1000) :
    Calls Tryd.prog 68 #[.int .i64 (q : Nat), .slice xa a.length xk, .slice ya b.length yk] w fun e w' => RetI (fun b => w.heap.size ≤ b) (trimN (addL q a b)) e w' ∧ Below w.heap.size w w' := by
  have E0 : Hid (Env D w [] [.rw (.slice ya b.length yk) b.length 1 (ncl b), .rw (.slice xa a.length xk) a.length 1 (ncl a)] w) := Lib.hid (((Env.start D w).arg (.rw (.slice xa a.length xk) a.length 1 (ncl a)) hx).arg (.rw (.slice ya b.length yk) b.length 1 (ncl b)) hy)
  clear hx hy
  go_enter Tryd.func68, Tryd.ntmps68
  have ha := Lib.hid ha0
  have hb := Lib.hid hb0
  clear ha0 hb0
  have HT := Lib.hid hqT
  have hq9 : (q : Int) ≤ 2305843009213693951 := by unfold Top at hqT; omega
  clear hqT
  have hq0 : ¬ (q = 0) := by omega
  have hqz : ((q : Int) == 0) = false := beq_eq_false_iff_ne.2 (by omega)
  obtain ⟨n, hn⟩ : ∃ n, n = max a.length b.length := ⟨_, rfl⟩
  have hmx : max (a.length : Int) (b.length : Int) = (n : Int) := by omega
  have hn9 : n ≤ 1000 := by omega
  have HN := Lib.hid hn
  clear hn
  go_wp2_with fail
  go_loopg [8, 7] (n) (fun gk s8 s7 wr => ∃ (k : Nat) (sg : List Bx) (cs : List Value) (va : Option Addr) (vk : Nat) (o : List Nat), s8 = .int .i64 (k : Int) ∧ s7 = .slice va (nl o).length vk ∧ Hid (Env D w (sg) [.rw (.slice ya b.length yk) b.length 1 (ncl b), .rw (.slice xa a.length xk) a.length 1 (ncl a)] wr) ∧ Hid (OI sg cs (.slice va (nl o).length vk) (nl o)) ∧ Hid ((k ≤ n ∧ gk = n - k) ∧ o = (addL q a b).take k))
  case atStart => exact ⟨0, [], [], none, 0, [], rfl, rfl, Lib.hid (E0.out.cast (by simp)), Lib.hid OI.nlnil, Lib.hid ⟨⟨Nat.zero_le _, rfl⟩, rfl⟩⟩
  case round =>
    clear E0
    obtain ⟨k, sg, cs, va, vk, o, rfl, rfl, EL, hO, HA⟩ := hrel
    obtain ⟨⟨b1, b2⟩, b3⟩ := HA.out
    have HP := Lib.hid b3
    clear b3 HA
    by_cases hw : k = n
    rotate_left
    · have hk : k < n := by omega
      have t8 : decide ((k : Int) < (n : Int)) = true := decide_eq_true (by omega)
      have t9 : decide (k < n) = true := decide_eq_true hk
      clear hw
      have hk9 : (k : Int) ≤ 999 := by omega
      have HOL : Hid ((nl o).length + 1 ≤ 1000000) := Lib.hid (by rw [nl_len, HP.out]; simp; omega)
      obtain ⟨u, hu⟩ : ∃ u, a.getD k 0 = u := ⟨_, rfl⟩
      obtain ⟨v, hv⟩ : ∃ v, b.getD k 0 = v := ⟨_, rfl⟩
      have huq : (u : Int) < (q : Int) := by rw [← hu]; exact Int.ofNat_lt.2 (getD_lt hq ha.out k)
      have hvq : (v : Int) < (q : Int) := by rw [← hv]; exact Int.ofNat_lt.2 (getD_lt hq hb.out k)
      have HNX := Lib.hid (addL_take (q := q) (by rw [← HN.out]; exact hk) hu hv)
      have HU := Lib.hid hu
      have HV := Lib.hid hv
      clear hu hv
      have ew : wrap64 ((u : Int) + (v : Int)) = ((u + v : Nat) : Int) := by rw [IntWalk.wrap64_in _ (by omega)]; rfl
      go_wp2_with fail
      refine (rAt_c a k (EL.out.fc 1 rfl) HU.out (by omega) (by omega)).mono ?_
      rintro e w1 ⟨rfl, hb⟩
      have E1 : Hid (Env D w (sg) [.rw (.slice ya b.length yk) b.length 1 (ncl b), .rw (.slice xa a.length xk) a.length 1 (ncl a)] w1) := Lib.hid (EL.out.below hb)
      clear EL hb
      clear hmx
      go_wp2_with fail
      refine (rAt_c b k (E1.out.fc 0 rfl) HV.out (by omega) (by omega)).mono ?_
      rintro e w2 ⟨rfl, hb⟩
      have E2 : Hid (Env D w (sg) [.rw (.slice ya b.length yk) b.length 1 (ncl b), .rw (.slice xa a.length xk) a.length 1 (ncl a)] w2) := Lib.hid (E1.out.below hb)
      clear E1 hb
      have E3 : Hid (Env D w ((w2.heap.size, 3, [.int .i64 (((u : Int) + (v : Int)) % (q : Int))]) :: sg) [.rw (.slice ya b.length yk) b.length 1 (ncl b), .rw (.slice xa a.length xk) a.length 1 (ncl a)] _) := Lib.hid ((E2.out.push 3 [.int .i64 (((u : Int) + (v : Int)) % (q : Int))] (w2.heap.size) (by simp)))
      go_wp2_with (at_builtin; refine wpl_app1 (c := 1) tiI rfl _ _ rfl E3.out (A := [(w2.heap.size, 3, [.int .i64 (((u : Int) + (v : Int)) % (q : Int))])]) (sg := sg) (B' := []) (F := ((w2.heap.size, 3, [.int .i64 (((u : Int) + (v : Int)) % (q : Int))]) :: sg)) (by simp) (hO.out.os rfl) rfl rfl (SrcN.int (E3.out.bx 0 rfl)) HOL.out ?_)
      intro zg zp zc w3 zH zT zE
      have zO := Lib.hid (OI.app (x := (((u : Int) + (v : Int)) % (q : Int))) (g' := zg) (cs' := zc) (cap' := zp) hO.out rfl (by simpa using zH.out) (by simpa using zT.out))
      have E4 : Hid (Env D w ((w2.heap.size, 3, [.int .i64 (((u : Int) + (v : Int)) % (q : Int))]) :: [(zg, 3, zc)]) [.rw (.slice ya b.length yk) b.length 1 (ncl b), .rw (.slice xa a.length xk) a.length 1 (ncl a)] w3) := Lib.hid (zE.out.cast (by simp))
      clear E2 E3 zE zH zT hO
      have EZ := Lib.hid (E4.out.drop)
      have OZ := Lib.hid (OI.snoc (x := ((u + v) % q)) (Lib.hid (by have h := zO.out; simpa using h) : Hid (OI [(zg, 3, zc)] zc (.slice (some ⟨zg, 0, none⟩) ((nl o).length + 1) zp) (nl o ++ [(((u + v) % q : Nat) : Int)]))).out)
      go_wp2
      go_roundg (n - (k + 1))
      case rel => exact ⟨k + 1, [(zg, 3, zc)], zc, some ⟨zg, 0, none⟩, zp, o ++ [((u + v) % q)], rfl, OI.v, EZ, OZ, Lib.hid ⟨⟨by omega, rfl⟩, by rw [HNX.out, HP.out]⟩⟩
      case measure => exact by omega
    have t8 : decide ((k : Int) < (n : Int)) = false := decide_eq_false (by omega)
    have t9 : decide (k < n) = false := decide_eq_false (by omega)
    have HD : Hid (o = addL q a b) := Lib.hid (by rw [HP.out, hw, HN.out, ← addL_len q, List.take_length])
    have HY2 := Lib.hid hw
    clear hw
    have hol : o.length ≤ 2000 := by rw [HD.out, addL_len]; omega
    have tc := rTrim_c (xa := va) (xk := vk) (w := wr) o (by have h := hO.out.rwN EL.out (by intro p hp; exact hp); rw [nl_len] at h; exact h) hol
    rw [← nl_len o] at tc
    have TC := Lib.hid tc
    clear tc hol
    have hsz := Lib.hid EL.out.bel.size
    go_wp2_with fail
    refine (TC.out).mono ?_
    rintro e w1 ⟨⟨za, zk, rfl, zh⟩, hb⟩
    have E1 : Hid (Env D w (sg) [.rw (.slice ya b.length yk) b.length 1 (ncl b), .rw (.slice xa a.length xk) a.length 1 (ncl a)] w1) := Lib.hid (EL.out.below hb)
    clear EL hb
    have hbel := Lib.hid E1.out.bel
    go_wp2
    go_ret
    rw [← HD.out]
    exact ⟨⟨za, zk, rfl, Lib.hid (Rw.from zh.out hsz.out)⟩, hbel.out⟩
end Go.Proofs.YteipbcpnnojclaaDoor

/- specieref13: Mul. -/
namespace Go.Proofs.YteipbcpnnojclaaDoor
open Go.RowKit DivMath WordMath
set_option linter.unusedVariables false
set_option linter.unusedSimpArgs false
set_option maxRecDepth 100000 in
set_option maxHeartbeats 4000000 in
theorem rprod_a {D : Nat → Prop} (q : Nat) (a b : List Nat) {xa ya : Option Addr} {xk yk : Nat} {w : World} (hx : Fct.at w D (.rw (.slice xa a.length xk) a.length 1 (ncl a))) (hy : Fct.at w D (.rw (.slice ya b.length yk) b.length 1 (ncl b))) (hq : 0 < q) (hqT : (q : Int) < Top) (ha0 : ∀ c ∈ a, c < q) (hb0 : ∀ c ∈ b, c < q) (hla : a.length ≤ 1000) (hlb : b.length ≤ 1000) (hz : a.length = 0) :
    Calls Tryd.prog 64 #[.int .i64 (q : Nat), .slice xa a.length xk, .slice ya b.length yk] w fun e w' => e = .returned (.slice none 0 0) ∧ Below w.heap.size w w' := by
  have E0 : Hid (Env D w [] [.rw (.slice ya b.length yk) b.length 1 (ncl b), .rw (.slice xa a.length xk) a.length 1 (ncl a)] w) := Lib.hid (((Env.start D w).arg (.rw (.slice xa a.length xk) a.length 1 (ncl a)) hx).arg (.rw (.slice ya b.length yk) b.length 1 (ncl b)) hy)
  clear hx hy
  go_enter Tryd.func64, Tryd.ntmps64
  have ha := Lib.hid ha0
  have hb := Lib.hid hb0
  clear ha0 hb0
  have HT := Lib.hid hqT
  have hq9 : (q : Int) ≤ 2305843009213693951 := by unfold Top at hqT; omega
  clear hqT
  have hq0 : ¬ (q = 0) := by omega
  have hqz : ((q : Int) == 0) = false := by simp; omega
  obtain rfl := List.length_eq_zero_iff.1 hz
  have d0 : (((([] : List Nat).length : Nat) : Int) == 0) = true := rfl
  have hfin := Lib.hid E0.out.bel
  go_wp2
  go_ret
  exact ⟨rfl, hfin.out⟩
set_option maxRecDepth 100000 in
set_option maxHeartbeats 4000000 in
theorem rprod_b {D : Nat → Prop} (q : Nat) (a b : List Nat) {xa ya : Option Addr} {xk yk : Nat} {w : World} (hx : Fct.at w D (.rw (.slice xa a.length xk) a.length 1 (ncl a))) (hy : Fct.at w D (.rw (.slice ya b.length yk) b.length 1 (ncl b))) (hq : 0 < q) (hqT : (q : Int) < Top) (ha0 : ∀ c ∈ a, c < q) (hb0 : ∀ c ∈ b, c < q) (hla : a.length ≤ 1000) (hlb : b.length ≤ 1000) (hz : 0 < a.length) (hz2 : b.length = 0) :
    Calls Tryd.prog 64 #[.int .i64 (q : Nat), .slice xa a.length xk, .slice ya b.length yk] w fun e w' => e = .returned (.slice none 0 0) ∧ Below w.heap.size w w' := by
  have E0 : Hid (Env D w [] [.rw (.slice ya b.length yk) b.length 1 (ncl b), .rw (.slice xa a.length xk) a.length 1 (ncl a)] w) := Lib.hid (((Env.start D w).arg (.rw (.slice xa a.length xk) a.length 1 (ncl a)) hx).arg (.rw (.slice ya b.length yk) b.length 1 (ncl b)) hy)
  clear hx hy
  go_enter Tryd.func64, Tryd.ntmps64
  have ha := Lib.hid ha0
  have hb := Lib.hid hb0
  clear ha0 hb0
  have HT := Lib.hid hqT
  have hq9 : (q : Int) ≤ 2305843009213693951 := by unfold Top at hqT; omega
  clear hqT
  have hq0 : ¬ (q = 0) := by omega
  have hqz : ((q : Int) == 0) = false := by simp; omega
  have d0 : ((a.length : Int) == 0) = false := beq_eq_false_iff_ne.2 (by omega)
  obtain rfl := List.length_eq_zero_iff.1 hz2
  have d1 : (((([] : List Nat).length : Nat) : Int) == 0) = true := rfl
  have hfin := Lib.hid E0.out.bel
  go_wp2
  go_ret
  exact ⟨rfl, hfin.out⟩
set_option maxRecDepth 100000 in
set_option maxHeartbeats 4000000 in
theorem rprod_c {D : Nat → Prop} (q : Nat) (a b : List Nat) {xa ya : Option Addr} {xk yk : Nat} {w : World} (hx : Fct.at w D (.rw (.slice xa a.length xk) a.length 1 (ncl a))) (hy : Fct.at w D (.rw (.slice ya b.length yk) b.length 1 (ncl b))) (hq : 0 < q) (hqT : (q : Int) < Top) (ha0 : ∀ c ∈ a, c < q) (hb0 : ∀ c ∈ b, c < q) (hla : a.length ≤ 1000) (hlb : b.length ≤ 1000) (hz : 0 < a.length) (hz2 : 0 < b.length) :
    Calls Tryd.prog 64 #[.int .i64 (q : Nat), .slice xa a.length xk, .slice ya b.length yk] w fun e w' => RetI (fun b => w.heap.size ≤ b) (trimN (mulTo q a b a.length)) e w' ∧ Below w.heap.size w w' := by
  have E0 : Hid (Env D w [] [.rw (.slice ya b.length yk) b.length 1 (ncl b), .rw (.slice xa a.length xk) a.length 1 (ncl a)] w) := Lib.hid (((Env.start D w).arg (.rw (.slice xa a.length xk) a.length 1 (ncl a)) hx).arg (.rw (.slice ya b.length yk) b.length 1 (ncl b)) hy)
  clear hx hy
  go_enter Tryd.func64, Tryd.ntmps64
  have ha := Lib.hid ha0
  have hb := Lib.hid hb0
  clear ha0 hb0
  have HT := Lib.hid hqT
  have hq9 : (q : Int) ≤ 2305843009213693951 := by unfold Top at hqT; omega
  clear hqT
  have hq0 : ¬ (q = 0) := by omega
  have hqz : ((q : Int) == 0) = false := by simp; omega
  have d0 : ((a.length : Int) == 0) = false := beq_eq_false_iff_ne.2 (by omega)
  have d1 : ((b.length : Int) == 0) = false := beq_eq_false_iff_ne.2 (by omega)
  have d0n : (a.length == 0) = false := beq_eq_false_iff_ne.2 (by omega)
  have d1n : (b.length == 0) = false := beq_eq_false_iff_ne.2 (by omega)
  have ws : wrap64 ((a.length : Int) + (b.length : Int)) = ((a.length + b.length : Nat) : Int) := by rw [IntWalk.wrap64_in _ (by omega)]; rfl
  have ws2 : wrap64 (((a.length + b.length : Nat) : Int) - 1) = ((a.length + b.length - 1 : Nat) : Int) := by rw [IntWalk.wrap64_in _ (by omega)]; omega
  have ws3 : wrap64 ((a.length : Int) + (b.length : Int) - 1) = ((a.length + b.length - 1 : Nat) : Int) := by rw [IntWalk.wrap64_in _ (by omega)]; omega
  obtain ⟨n, hn⟩ : ∃ n, n = a.length + b.length - 1 := ⟨_, rfl⟩
  rw [← hn] at ws2 ws3
  have hn9 : n ≤ 2000 := by omega
  have HN := Lib.hid hn
  clear hn
  have ws4 : (a.length : Int) + (b.length : Int) - 1 = (n : Int) := by have := HN.out; omega
  go_wp2_with (at_make; refine wpl_makeI rfl _ _ rfl E0.out n rfl rfl (by omega) ?_)
  intro wm pg Em0
  have Em : Hid (Env D w [(pg, 3, ncl (List.replicate n 0))] [.rw (.slice ya b.length yk) b.length 1 (ncl b), .rw (.slice xa a.length xk) a.length 1 (ncl a)] wm) := Lib.hid (by have h := Em0.out; rw [ncl_rep] at h; exact h)
  clear Em0 E0
  go_wp2_with fail
  go_loopg [8] (a.length) (fun gk s8 wr => ∃ (i : Nat) (o : List Nat), s8 = .int .i64 (i : Int) ∧ Hid (Env D w [(pg, 3, (ncl o))] [.rw (.slice ya b.length yk) b.length 1 (ncl b), .rw (.slice xa a.length xk) a.length 1 (ncl a)] wr) ∧ Hid ((i ≤ a.length ∧ gk = a.length - i) ∧ o = mulTo q a b i))
  case atStart => exact ⟨0, List.replicate n 0, rfl, Lib.hid Em.out, Lib.hid ⟨⟨Nat.zero_le _, rfl⟩, by rw [HN.out]; rfl⟩⟩
  case round =>
    clear Em
    obtain ⟨i, o, rfl, EL, HA⟩ := hrel
    obtain ⟨⟨a1, a2⟩, a3⟩ := HA.out
    have HS := Lib.hid a3
    clear a3 HA
    have hol : o.length = n := by rw [HS.out, HN.out]; exact mulTo_len q a b i
    have HOL := Lib.hid hol
    clear hol
    by_cases hy : i = a.length
    rotate_left
    · have hi : i < a.length := by omega
      have hi9 : (i : Int) ≤ 999 := by omega
      have t6 : decide ((i : Int) < (a.length : Int)) = true := decide_eq_true (by omega)
      have t7 : decide (i < a.length) = true := decide_eq_true hi
      clear hy
      go_wp2_with fail
      go_loopg [9] (b.length) (fun gk s9 wr => ∃ (k : Nat) (p : List Nat), s9 = .int .i64 (k : Int) ∧ Hid (Env D w [(pg, 3, (ncl p))] [.rw (.slice ya b.length yk) b.length 1 (ncl b), .rw (.slice xa a.length xk) a.length 1 (ncl a)] wr) ∧ Hid ((k ≤ b.length ∧ gk = b.length - k) ∧ p = mulRow q a b i k o))
      case atStart => exact ⟨0, o, rfl, Lib.hid EL.out, Lib.hid ⟨⟨Nat.zero_le _, rfl⟩, rfl⟩⟩
      case round =>
        clear EL
        obtain ⟨k, p, rfl, EL, HA⟩ := hrel
        obtain ⟨⟨b1, b2⟩, b3⟩ := HA.out
        have HP := Lib.hid b3
        clear b3 HA
        have hpl : p.length = n := by rw [HP.out, mulRow_len]; exact HOL.out
        have HPL := Lib.hid hpl
        clear hpl
        by_cases hy : k = b.length
        rotate_left
        · have hk : k < b.length := by omega
          have t8 : decide ((k : Int) < (b.length : Int)) = true := decide_eq_true (by omega)
          have t9 : decide (k < b.length) = true := decide_eq_true hk
          clear hy
          have hk9 : (k : Int) ≤ 999 := by omega
          have hik : i + k < p.length := by rw [HPL.out, HN.out]; omega
          have hin : ((i : Int) + (k : Int)) < (n : Int) := by have := HPL.out; omega
          have hinn : i + k < n := by have := HPL.out; omega
          have hik9 : i + k ≤ 9223372036854775807 := by omega
          have HIK9 := Lib.hid hik9
          clear hik9
          have h0ik : Hid ((0 : Int) ≤ (i : Int) + (k : Int)) := Lib.hid (by omega)
          have htn : Hid (((i : Int) + (k : Int)).toNat = i + k) := Lib.hid rfl
          have wik : wrap64 ((i : Int) + (k : Int)) = ((i + k : Nat) : Int) := wrap64_add i k HIK9.out
          have wik2 : IntKind.i64.wrap ((i : Int) + (k : Int)) = ((i + k : Nat) : Int) := wrapI_add i k HIK9.out
          have hpq : p[i + k] < q := (by rw [HP.out]; exact mulRow_lt hq a b i k o (by rw [HS.out]; exact mulTo_lt hq a b i) : ∀ c ∈ p, c < q) _ (List.getElem_mem hik)
          have haq : ((a[i] : Nat) : Int) < (q : Int) := Int.ofNat_lt.2 (ha.out _ (List.getElem_mem hi))
          have hbq : ((b[k] : Nat) : Int) < (q : Int) := Int.ofNat_lt.2 (hb.out _ (List.getElem_mem hk))
          have hpi : ((p[i + k] : Nat) : Int) < (q : Int) := Int.ofNat_lt.2 hpq
          have HPQ := Lib.hid hpq
          clear hpq
          obtain ⟨xab, xao, rfl⟩ := Rw.addr (EL.out.fc 1 rfl) (by omega)
          have E1 : Hid (Env D w [(pg, 3, (ncl p))] [.ce xab (xao + i) (.int .i64 (a[i] : Nat)), .rw (.slice ya b.length yk) b.length 1 (ncl b), .rw (.slice (some ⟨xab, xao, none⟩) a.length xk) a.length 1 (ncl a)] _) := Lib.hid (EL.out.elN 1 rfl rfl (i) hi)
          clear EL
          have u0 := (E1.out.fc 0 rfl).2
          obtain ⟨yab, yao, rfl⟩ := Rw.addr (E1.out.fc 1 rfl) (by omega)
          have E2 : Hid (Env D w [(pg, 3, (ncl p))] [.ce yab (yao + k) (.int .i64 (b[k] : Nat)), .ce xab (xao + i) (.int .i64 (a[i] : Nat)), .rw (.slice (some ⟨yab, yao, none⟩) b.length yk) b.length 1 (ncl b), .rw (.slice (some ⟨xab, xao, none⟩) a.length xk) a.length 1 (ncl a)] _) := Lib.hid (E1.out.elN 1 rfl rfl (k) hk)
          clear E1
          have v0 := (E2.out.fc 0 rfl).2
          go_wp2_with fail
          have E3 : Hid (Env D w [(pg, 3, (ncl p))] [.ce yab (yao + k) (.int .i64 (b[k] : Nat)), .ce xab (xao + i) (.int .i64 (a[i] : Nat)), .rw (.slice (some ⟨yab, yao, none⟩) b.length yk) b.length 1 (ncl b), .rw (.slice (some ⟨xab, xao, none⟩) a.length xk) a.length 1 (ncl a)] (wr.drew)) := Lib.hid E2.out.drew
          clear u0 v0 E2
          refine wp_regionU (S := fun w' => w'.cell? ⟨pg, i + k, none⟩ = some (.int .i64 (p[i + k] : Nat)) ∧ w'.cell? ⟨xab, xao + i, none⟩ = some (.int .i64 (a[i] : Nat)) ∧ w'.cell? ⟨yab, yao + k, none⟩ = some (.int .i64 (b[k] : Nat))) [24] (by kernel_rfl) (⟨(E3.out.bx 0 rfl).cell (i + k) (ncl_get p (i + k) hik), (E3.out.fc 1 rfl).2, (E3.out.fc 0 rfl).2⟩) (fun hHeld => ?_)
          generalize wr.drew = w1 at *
          refine uTake (i := 0) (some 37) (v := ?_) rfl rfl (by kernel_rfl) (by kernel_rfl) (by kernel_rfl) (by kernel_rfl) (fun _ _ _ h => h) (by rfl) (by assumption) ?_ ?_
          rotate_left
          · (intro wS hSw; (try dsimp only at hSw); go_simp; try with_reducible rfl)
          try simp only [Act.put, List.setIfInBounds_toArray, List.set_cons_zero, List.set_cons_succ]
          refine uTake (i := 1) (some 38) (v := ?_) rfl rfl (by kernel_rfl) (by kernel_rfl) (by kernel_rfl) (by kernel_rfl) (fun _ _ _ h => h) (by rfl) (by assumption) ?_ ?_
          rotate_left
          · (intro wS hSw; (try dsimp only at hSw); go_simp; try with_reducible rfl)
          try simp only [Act.put, List.setIfInBounds_toArray, List.set_cons_zero, List.set_cons_succ]
          refine uTake (i := 2) (some 39) (v := ?_) rfl rfl (by kernel_rfl) (by kernel_rfl) (by kernel_rfl) (by kernel_rfl) (fun _ _ _ h => h) (by rfl) (by assumption) ?_ ?_
          rotate_left
          · (intro wS hSw; (try dsimp only at hSw); go_simp; try with_reducible rfl)
          try simp only [Act.put, List.setIfInBounds_toArray, List.set_cons_zero, List.set_cons_succ]
          refine uTake (i := 3) (some 40) (v := ?_) rfl rfl (by kernel_rfl) (by kernel_rfl) (by kernel_rfl) (by kernel_rfl) (fun _ _ _ h => h) (by rfl) (by assumption) ?_ ?_
          rotate_left
          · (intro wS hSw; (try dsimp only at hSw); go_simp; try with_reducible rfl)
          try simp only [Act.put, List.setIfInBounds_toArray, List.set_cons_zero, List.set_cons_succ]
          refine uTake (i := 4) (some 41) (v := ?_) rfl rfl (by kernel_rfl) (by kernel_rfl) (by kernel_rfl) (by kernel_rfl) (fun _ _ _ h => h) (by rfl) (by assumption) ?_ ?_
          rotate_left
          · (intro wS hSw; (try dsimp only at hSw); go_simp; try with_reducible rfl)
          try simp only [Act.put, List.setIfInBounds_toArray, List.set_cons_zero, List.set_cons_succ]
          refine uTake (i := 5) (some 42) (v := ?_) rfl rfl (by kernel_rfl) (by kernel_rfl) (by kernel_rfl) (by kernel_rfl) (fun _ _ _ h => h) (by rfl) (by assumption) ?_ ?_
          rotate_left
          · (intro wS hSw; (try dsimp only at hSw); go_simp; try with_reducible rfl)
          try simp only [Act.put, List.setIfInBounds_toArray, List.set_cons_zero, List.set_cons_succ]
          refine uTake (i := 6) (some 43) (v := ?_) rfl rfl (by kernel_rfl) (by kernel_rfl) (by kernel_rfl) (by kernel_rfl) (fun _ _ _ h => h) (by rfl) (by assumption) ?_ ?_
          rotate_left
          · (intro wS hSw; (try dsimp only at hSw); go_simp; try with_reducible rfl)
          try simp only [Act.put, List.setIfInBounds_toArray, List.set_cons_zero, List.set_cons_succ]
          refine uTake (i := 7) (some 44) (v := ?_) rfl rfl (by kernel_rfl) (by kernel_rfl) (by kernel_rfl) (by kernel_rfl) (fun _ _ _ h => h) (by rfl) (by assumption) ?_ ?_
          rotate_left
          · (intro wS hSw; (try dsimp only at hSw); go_simp; try with_reducible rfl)
          try simp only [Act.put, List.setIfInBounds_toArray, List.set_cons_zero, List.set_cons_succ]
          refine uTake (i := 8) (some 45) (v := .pointer (some ⟨pg, i + k, none⟩)) rfl rfl (by kernel_rfl) (by kernel_rfl) (by kernel_rfl) (by kernel_rfl) (fun _ _ _ h => h) (by rfl) (by assumption) ?_ ?_
          · (intro wS hSw; (try dsimp only at hSw); go_simp; rw [if_pos h0ik.out, htn.out])
          try simp only [Act.put, List.setIfInBounds_toArray, List.set_cons_zero, List.set_cons_succ]
          refine uTake (i := 9) (some 46) (v := ?_) rfl rfl (by kernel_rfl) (by kernel_rfl) (by kernel_rfl) (by kernel_rfl) (fun _ _ _ h => h) (by rfl) (by assumption) ?_ ?_
          rotate_left
          · (intro wS hSw; (try dsimp only at hSw); go_simp; try with_reducible rfl)
          try simp only [Act.put, List.setIfInBounds_toArray, List.set_cons_zero, List.set_cons_succ]
          refine uTake (i := 10) (some 47) (v := ?_) rfl rfl (by kernel_rfl) (by kernel_rfl) (by kernel_rfl) (by kernel_rfl) (fun _ _ _ h => h) (by rfl) (by assumption) ?_ ?_
          rotate_left
          · (intro wS hSw; (try dsimp only at hSw); go_simp; try with_reducible rfl)
          try simp only [Act.put, List.setIfInBounds_toArray, List.set_cons_zero, List.set_cons_succ]
          refine uTake (i := 11) (some 48) (v := ?_) rfl rfl (by kernel_rfl) (by kernel_rfl) (by kernel_rfl) (by kernel_rfl) (fun _ _ _ h => h) (by rfl) (by assumption) ?_ ?_
          rotate_left
          · (intro wS hSw; (try dsimp only at hSw); go_simp; try with_reducible rfl)
          try simp only [Act.put, List.setIfInBounds_toArray, List.set_cons_zero, List.set_cons_succ]
          refine uTake (i := 12) (some 49) (v := ?_) rfl rfl (by kernel_rfl) (by kernel_rfl) (by kernel_rfl) (by kernel_rfl) (fun _ _ _ h => h) (by rfl) (by assumption) ?_ ?_
          rotate_left
          · (intro wS hSw; (try dsimp only at hSw); go_simp; try with_reducible rfl)
          try simp only [Act.put, List.setIfInBounds_toArray, List.set_cons_zero, List.set_cons_succ]
          refine uTake (i := 13) (some 50) (v := ?_) rfl rfl (by kernel_rfl) (by kernel_rfl) (by kernel_rfl) (by kernel_rfl) (fun _ _ _ h => h) (by rfl) (by assumption) ?_ ?_
          rotate_left
          · (intro wS hSw; (try dsimp only at hSw); go_simp; try with_reducible rfl)
          try simp only [Act.put, List.setIfInBounds_toArray, List.set_cons_zero, List.set_cons_succ]
          refine uTake (i := 14) (some 51) (v := ?_) rfl rfl (by kernel_rfl) (by kernel_rfl) (by kernel_rfl) (by kernel_rfl) (fun _ _ _ h => h) (by rfl) (by assumption) ?_ ?_
          rotate_left
          · (intro wS hSw; (try dsimp only at hSw); go_simp; try with_reducible rfl)
          try simp only [Act.put, List.setIfInBounds_toArray, List.set_cons_zero, List.set_cons_succ]
          refine uTake (i := 15) (some 52) (v := ?_) rfl rfl (by kernel_rfl) (by kernel_rfl) (by kernel_rfl) (by kernel_rfl) (fun _ _ _ h => h) (by rfl) (by assumption) ?_ ?_
          rotate_left
          · (intro wS hSw; (try dsimp only at hSw); go_simp; try with_reducible rfl)
          try simp only [Act.put, List.setIfInBounds_toArray, List.set_cons_zero, List.set_cons_succ]
          refine uTake (i := 16) (some 53) (v := ?_) rfl rfl (by kernel_rfl) (by kernel_rfl) (by kernel_rfl) (by kernel_rfl) (fun _ _ _ h => h) (by rfl) (by assumption) ?_ ?_
          rotate_left
          · (intro wS hSw; (try dsimp only at hSw); go_simp; try with_reducible rfl)
          try simp only [Act.put, List.setIfInBounds_toArray, List.set_cons_zero, List.set_cons_succ]
          refine uTake (i := 17) (some 54) (v := ?_) rfl rfl (by kernel_rfl) (by kernel_rfl) (by kernel_rfl) (by kernel_rfl) (fun _ _ _ h => h) (by rfl) (by assumption) ?_ ?_
          rotate_left
          · (intro wS hSw; (try dsimp only at hSw); go_simp; try with_reducible rfl)
          try simp only [Act.put, List.setIfInBounds_toArray, List.set_cons_zero, List.set_cons_succ]
          refine uTake (i := 18) (some 55) (v := ?_) rfl rfl (by kernel_rfl) (by kernel_rfl) (by kernel_rfl) (by kernel_rfl) (fun _ _ _ h => h) (by rfl) (by assumption) ?_ ?_
          rotate_left
          · (intro wS hSw; (try dsimp only at hSw); go_simp; try with_reducible rfl)
          try simp only [Act.put, List.setIfInBounds_toArray, List.set_cons_zero, List.set_cons_succ]
          refine uTake (i := 21) (some 58) (v := ?_) rfl rfl (by kernel_rfl) (by kernel_rfl) (by kernel_rfl) (by kernel_rfl) (fun _ _ _ h => h) (by rfl) (by assumption) ?_ ?_
          rotate_left
          · (intro wS hSw; (try dsimp only at hSw); go_simp; try with_reducible rfl)
          try simp only [Act.put, List.setIfInBounds_toArray, List.set_cons_zero, List.set_cons_succ]
          refine uReady (rs := [19]) (by kernel_rfl) (by simp) ?_
          refine ReadyU.cons rfl (fun KK hKK => ?_) ReadyU.nil
          go_simp
          refine (refMulB a[i] b[k] q _ haq hbq HT.out).mono ?_
          rintro e w2 ⟨⟨r, rh, rfl⟩, hb⟩
          have E4 : Hid (Env D w [(pg, 3, (ncl p))] [.ce yab (yao + k) (.int .i64 (b[k] : Nat)), .ce xab (xao + i) (.int .i64 (a[i] : Nat)), .rw (.slice (some ⟨yab, yao, none⟩) b.length yk) b.length 1 (ncl b), .rw (.slice (some ⟨xab, xao, none⟩) a.length xk) a.length 1 (ncl a)] w2) := Lib.hid (E3.out.below hb)
          clear E3 hb
          have hrq : (r : Int) < (q : Int) := by rw [rh.out]; exact Int.ofNat_lt.2 (Nat.mod_lt _ hq)
          have hw : IntKind.i64.wrap (((p[i + k] : Nat) : Int) + (r : Int)) = ((p[i + k] + r : Nat) : Int) := wrapI_res hpi hrq hq9
          (try dsimp only)
          clear hHeld
          refine hKK.out _ _ (⟨(E4.out.bx 0 rfl).cell (i + k) (ncl_get p (i + k) hik), (E4.out.fc 1 rfl).2, (E4.out.fc 0 rfl).2⟩) (fun hHeld => ?_)
          clear hKK KK
          try simp only [Act.put, List.setIfInBounds_toArray, List.set_cons_zero, List.set_cons_succ]
          refine uTake (i := 20) (some 57) (v := .int .i64 ((p[i + k] + r : Nat) : Int)) rfl rfl (by kernel_rfl) (by kernel_rfl) (by kernel_rfl) (by kernel_rfl) (fun _ _ _ h => h) (by rfl) (by assumption) ?_ ?_
          · (intro wS hSw; (try dsimp only at hSw); go_simp)
          try simp only [Act.put, List.setIfInBounds_toArray, List.set_cons_zero, List.set_cons_succ]
          refine uTake (i := 22) (some 59) (v := .int .i64 (((p[i + k] + r) % q : Nat) : Int)) rfl rfl (by kernel_rfl) (by kernel_rfl) (by kernel_rfl) (by kernel_rfl) (fun _ _ _ h => h) (by rfl) (by assumption) ?_ ?_
          · (intro wS hSw; (try dsimp only at hSw); go_simp; exact Int.tmod_eq_emod_of_nonneg (by omega))
          try simp only [Act.put, List.setIfInBounds_toArray, List.set_cons_zero, List.set_cons_succ]
          refine uTake (i := 23) (some 60) (v := .pointer (some ⟨pg, i + k, none⟩)) rfl rfl (by kernel_rfl) (by kernel_rfl) (by kernel_rfl) (by kernel_rfl) (fun _ _ _ h => h) (by rfl) (by assumption) ?_ ?_
          · (intro wS hSw; (try dsimp only at hSw); go_simp; rw [if_pos h0ik.out, htn.out])
          try simp only [Act.put, List.setIfInBounds_toArray, List.set_cons_zero, List.set_cons_succ]
          have fz := (E4.out.bx 0 rfl).frozen (i + k)
          refine uReady (rs := [24]) (by kernel_rfl) (by simp) ?_
          refine ReadyU.consU (by kernel_rfl) rfl (fun KK hKK => ?_) ReadyU.nil
          go_simp
          have E5 : Hid (Env D w [(pg, 3, ((ncl p).set (i + k) (.int .i64 ((p[i + k] + r) % q : Nat))))] [.ce yab (yao + k) (.int .i64 (b[k] : Nat)), .ce xab (xao + i) (.int .i64 (a[i] : Nat)), .rw (.slice (some ⟨yab, yao, none⟩) b.length yk) b.length 1 (ncl b), .rw (.slice (some ⟨xab, xao, none⟩) a.length xk) a.length 1 (ncl a)] _) := Lib.hid ((E4.out.set 0 (i + k) (.int .i64 ((p[i + k] + r) % q : Nat)) rfl))
          (try dsimp only)
          (try clear hHeld)
          refine hKK.out _ _ ?_
          clear hKK KK
          try simp only [Act.put, List.setIfInBounds_toArray, List.set_cons_zero, List.set_cons_succ]
          refine uDone (by kernel_rfl) ?_ _
          have E6 : Hid (Env D w [(pg, 3, (ncl (p.set (i + k) ((p[i + k] + r) % q))))] [.ce yab (yao + k) (.int .i64 (b[k] : Nat)), .ce xab (xao + i) (.int .i64 (a[i] : Nat)), .rw (.slice (some ⟨yab, yao, none⟩) b.length yk) b.length 1 (ncl b), .rw (.slice (some ⟨xab, xao, none⟩) a.length xk) a.length 1 (ncl a)] _) := Lib.hid (by have h := E5.out; rw [ncl_set] at h; exact h)
          have HNX := Lib.hid (mulRow_step (q := q) (o0 := o) hi hk (by rw [← HP.out]; exact hik) rh.out)
          have EZ := Lib.hid ((E6.out.forget).forget)
          go_wp2
          go_roundg (b.length - (k + 1))
          case rel => exact ⟨k + 1, p.set (i + k) ((p[i + k] + r) % q), rfl, EZ, Lib.hid ⟨⟨by omega, rfl⟩, by rw [← HNX.out]; congr 1 <;> (first | exact HP.out | (congr 2; exact getElem_congr_coll HP.out))⟩⟩
          case measure => exact by omega
        have t8 : decide ((k : Int) < (b.length : Int)) = false := decide_eq_false (by omega)
        have t9 : decide (k < b.length) = false := decide_eq_false (by omega)
        have HD : Hid (p = mulTo q a b (i + 1)) := Lib.hid (by rw [HP.out, hy, HS.out]; rfl)
        have HY := Lib.hid hy
        clear hy
        have EZ := Lib.hid EL.out
        go_wp2
        go_roundg (a.length - (i + 1))
        case rel => exact ⟨i + 1, p, rfl, EZ, Lib.hid ⟨⟨by omega, rfl⟩, HD.out⟩⟩
        case measure => exact by omega
    have t6 : decide ((i : Int) < (a.length : Int)) = false := decide_eq_false (by omega)
    have t7 : decide (i < a.length) = false := decide_eq_false (by omega)
    have HD : Hid (o = mulTo q a b a.length) := Lib.hid (by rw [HS.out, hy])
    have HY := Lib.hid hy
    clear hy
    have tc := rTrim_c (xa := some ⟨pg, 0, none⟩) (xk := n) (w := wr) o (Rw.boxP (EL.out.bx 0 rfl) (by have := HOL.out; omega) (by omega)) (by have := HOL.out; omega)
    rw [HOL.out] at tc
    have TC := Lib.hid tc
    clear tc
    have hsz := Lib.hid EL.out.bel.size
    go_wp2_with fail
    refine (TC.out).mono ?_
    rintro e w1 ⟨⟨za, zk, rfl, zh⟩, hb⟩
    have E1 : Hid (Env D w [(pg, 3, (ncl o))] [.rw (.slice ya b.length yk) b.length 1 (ncl b), .rw (.slice xa a.length xk) a.length 1 (ncl a)] w1) := Lib.hid (EL.out.below hb)
    clear EL hb
    have hbel := Lib.hid E1.out.bel
    go_wp2
    go_ret
    rw [← HD.out]
    exact ⟨⟨za, zk, rfl, Lib.hid (Rw.from zh.out hsz.out)⟩, hbel.out⟩
theorem rMul_c {D : Nat → Prop} (q : Nat) (a b : List Nat) {xa ya : Option Addr} {xk yk : Nat} {w : World} (hx : Fct.at w D (.rw (.slice xa a.length xk) a.length 1 (ncl a))) (hy : Fct.at w D (.rw (.slice ya b.length yk) b.length 1 (ncl b))) (hq : 0 < q) (hqT : (q : Int) < Top) (ha : ∀ c ∈ a, c < q) (hb : ∀ c ∈ b, c < q) (hla : a.length ≤ 1000) (hlb : b.length ≤ 1000) :
    Calls Tryd.prog 64 #[.int .i64 (q : Nat), .slice xa a.length xk, .slice ya b.length yk] w fun e w' => RetI (fun b => w.heap.size ≤ b) (trimN (mulL q a b)) e w' ∧ Below w.heap.size w w' := by
  unfold mulL
  by_cases h : a.length = 0
  · rw [if_pos (.inl h)]; exact (rprod_a q a b hx hy hq hqT ha hb hla hlb h).mono fun e w' ⟨he, hw⟩ => ⟨⟨none, 0, he, Lib.hid (Rw.nil _ _ _)⟩, hw⟩
  · by_cases h2 : b.length = 0
    · rw [if_pos (.inr h2)]; exact (rprod_b q a b hx hy hq hqT ha hb hla hlb (by omega) h2).mono fun e w' ⟨he, hw⟩ => ⟨⟨none, 0, he, Lib.hid (Rw.nil _ _ _)⟩, hw⟩
    · rw [if_neg (by omega)]; exact rprod_c q a b hx hy hq hqT ha hb hla hlb (by omega) (by omega)
end Go.Proofs.YteipbcpnnojclaaDoor

/- slices.Equal; poly: sub, inverse, check. -/
namespace Go.Proofs.YteipbcpnnojclaaDoor
open Go.RowKit DivMath WordMath
set_option linter.unusedVariables false
set_option linter.unusedSimpArgs false
theorem nl_inj {a b : List Nat} (h : nl a = nl b) : a = b := by
  unfold nl at h
  exact List.map_inj_right (fun _ _ e => by exact_mod_cast e) |>.1 h
/-- slices.Equal of two rows of residues -/
theorem equalN_c {D : Nat → Prop} {a b : List Nat} {xa ya : Option Addr} {xk yk : Nat} {w : World} (hx : Fct.at w D (.rw (.slice xa a.length xk) a.length 1 (ncl a))) (hy : Fct.at w D (.rw (.slice ya b.length yk) b.length 1 (ncl b))) (hla : a.length ≤ 1000000) (hlb : b.length ≤ 1000000) {t : Bool} (ht : (a == b) = t) :
    Calls Tryd.prog 19 #[.slice xa a.length xk, .slice ya b.length yk] w fun e w' => e = .returned (.bool t) ∧ Below w.heap.size w w' := by
  subst ht
  by_cases hne : a.length = b.length
  · by_cases h0 : a.length = 0
    · have hb0 : b.length = 0 := by omega
      have e : (a == b) = true := by rw [List.length_eq_zero_iff.1 h0, List.length_eq_zero_iff.1 hb0]; rfl
      rw [e, h0, hb0]
      exact (Tryd.slices_Equal_int_empty xa ya xk 0 yk w (by omega)).mono fun e w' ⟨h1, h2⟩ => ⟨h1, by rw [h2]; exact Below.refl _ _⟩
    · obtain ⟨b1, o1, rfl⟩ := Rw.addr hx h0
      obtain ⟨b2, o2, rfl⟩ := Rw.addr hy (by omega)
      refine (Tryd.slices_Equal_int b1 o1 a.length xk b2 o2 b.length yk (nl a) (nl b) w (by rw [nl_len]; omega) (by rw [nl_len]; omega) (by omega) (by omega) (fun j hj => ?_) (fun j hj => ?_)).mono fun e w' ⟨h1, q, h2⟩ => ⟨?_, by rw [h2]; exact below_drewN (Below.refl _ _) q⟩
      · rw [nl_len] at hj; rw [(Rw.el hx h0 (ncl_get a j hj)).2]; simp [nl, List.getElem?_eq_getElem hj]
      · rw [nl_len] at hj; rw [(Rw.el hy (by omega) (ncl_get b j hj)).2]; simp [nl, List.getElem?_eq_getElem hj]
      · have e1 : (nl a).take a.length = nl a := List.take_of_length_le (by rw [nl_len]; omega)
        have e2 : (nl b).take b.length = nl b := List.take_of_length_le (by rw [nl_len]; omega)
        rw [e1, e2] at h1
        rw [h1]
        congr 2
        rw [Bool.eq_iff_iff, beq_iff_eq, beq_iff_eq]
        exact ⟨nl_inj, fun h => by rw [h]⟩
  · have e : (a == b) = false := by rw [beq_eq_false_iff_ne]; intro h; exact hne (by rw [h])
    rw [e]
    exact (Tryd.slices_Equal_int_lens xa ya _ xk _ yk w hne).mono fun e w' ⟨h1, h2⟩ => ⟨h1, by rw [h2]; exact Below.refl _ _⟩
set_option maxHeartbeats 400000 in
theorem polsub_c (q a b : Nat) (w : World) (ha : (a : Int) < (q : Int)) (hb : (b : Int) < (q : Int)) (hm : (q : Int) < Top) :
    Calls Tryd.prog 59 #[.int .i64 q, .int .i64 a, .int .i64 b] w fun e w' => RetN (fun r => r = (a + (q - b)) % q) e ∧ Below w.heap.size w w' := by
  have hq9 : (q : Int) ≤ 2305843009213693951 := by unfold Top at hm; omega
  have e1 : wrap64 ((a : Int) - (b : Int)) = (a : Int) - (b : Int) := IntWalk.wrap64_in _ (by omega)
  have e2 : wrap64 ((a : Int) - (b : Int) + (q : Int)) = ((a + (q - b) : Nat) : Int) := by rw [IntWalk.wrap64_in _ (by omega)]; omega
  have hq0 : ¬ (q = 0) := by omega
  have hqz : ((q : Int) == 0) = false := beq_eq_false_iff_ne.2 (by omega)
  obtain ⟨s, hs⟩ : ∃ s, s = a + (q - b) := ⟨_, rfl⟩
  rw [← hs] at e2
  have e3 : (a : Int) - (b : Int) + (q : Int) = (s : Int) := by omega
  have HS := Lib.hid hs
  clear hs hm
  go_enter Tryd.func59, Tryd.ntmps59
  go_wp2
  go_ret
  exact ⟨⟨s % q, Lib.hid (by rw [HS.out]), by rfl⟩, Below.refl _ _⟩
set_option maxHeartbeats 400000 in
theorem polinv_c (q a : Nat) (w : World) (ha : (a : Int) < (q : Int)) (hm : (q : Int) < Top) (hg : Nat.gcd a q = 1) :
    Calls Tryd.prog 61 #[.int .i64 q, .int .i64 a] w fun e w' => RetN (fun r => r < q ∧ a * r % q = 1 % q) e ∧ Below w.heap.size w w' := by
  go_enter Tryd.func61, Tryd.ntmps61
  go_wp2_with (first | (go_at_call 106; refine (Inverse_ok _ _ _ ha hm hg).mono ?_; rintro e w' ⟨⟨r, hr, rfl⟩, n, rfl⟩))
  go_ret
  exact ⟨⟨r, Lib.hid hr.out, rfl⟩, below_drewN (Below.refl _ _) _⟩
end Go.Proofs.YteipbcpnnojclaaDoor

/- poly: check. -/
namespace Go.Proofs.YteipbcpnnojclaaDoor
open Go.RowKit DivMath WordMath
set_option linter.unusedVariables false
set_option linter.unusedSimpArgs false
theorem containsN_c {D : Nat → Prop} {l : List Nat} {x : Nat} {xa : Option Addr} {xk : Nat} {w : World} (hx : Fct.at w D (.rw (.slice xa l.length xk) l.length 1 (ncl l))) (hl : l.length ≤ 1000000) {t : Bool} (ht : l.contains x = t) :
    Calls Tryd.prog 23 #[.slice xa l.length xk, .int .i64 (x : Nat)] w fun e w' => e = .returned (.bool t) ∧ Below w.heap.size w w' := by
  subst ht
  by_cases h0 : l.length = 0
  · rw [List.length_eq_zero_iff.1 h0]
    exact (Tryd.slices_Contains_int_empty xa xk x w).mono fun e w' ⟨h1, h2⟩ => ⟨h1, by rw [h2]; exact Below.refl _ _⟩
  · obtain ⟨b1, o1, rfl⟩ := Rw.addr hx h0
    refine (Tryd.slices_Contains_int b1 o1 l.length xk (nl l) x w (by rw [nl_len]; omega) (by omega) (fun j hj => ?_)).mono fun e w' ⟨h1, h2⟩ => ⟨?_, by rw [h2]; exact Below.refl _ _⟩
    · rw [nl_len] at hj; rw [(Rw.el hx h0 (ncl_get l j hj)).2]; simp [nl, List.getElem?_eq_getElem hj]
    · have e1 : (nl l).take l.length = nl l := List.take_of_length_le (by rw [nl_len]; omega)
      rw [e1] at h1
      rw [h1]
      congr 2
      rw [Bool.eq_iff_iff, List.contains_iff_mem, List.contains_iff_mem]
      unfold nl
      rw [List.mem_map]
      exact ⟨fun ⟨n, hn, e⟩ => by (have : n = x := by exact_mod_cast e); subst this; exact hn, fun h => ⟨x, h, rfl⟩⟩
theorem nodup_take {l : List Nat} (h : l.Nodup) {k : Nat} (hk : k < l.length) : (l.take k).contains l[k] = false := by
  have h2 : (l.take (k + 1)).Nodup := h.sublist (List.take_sublist _ _)
  rw [List.take_succ_eq_append_getElem hk, List.nodup_append] at h2
  rw [Bool.eq_false_iff]
  intro hc
  have := List.contains_iff_mem.1 hc
  exact h2.2.2 _ this _ (by simp) rfl
theorem resN_c {D : Nat → Prop} (q : Nat) (l : List Nat) {xa : Option Addr} {xk : Nat} {w : World} (hx : Fct.at w D (.rw (.slice xa l.length xk) l.length 1 (ncl l))) (h : ∀ c ∈ l, c < q) (hm : l.length ≤ 1000000) :
    Calls Tryd.prog 70 #[.int .i64 (q : Nat), .slice xa l.length xk] w fun e w' => e = .returned (.bool true) ∧ Below w.heap.size w w' := by
  have := residues_c (D := D) (w := w) (xa := xa) (xk := xk) q (nl l) (by rw [nl_len]; exact hx) (nl_all h) (by rw [nl_len]; exact hm)
  rw [nl_len] at this; exact this
set_option maxRecDepth 100000 in
set_option maxHeartbeats 1000000 in
theorem check_ok {D : Nat → Prop} (q : Nat) (l b : List Nat) {xa ya : Option Addr} {xk yk : Nat} {w : World} (hx : Fct.at w D (.rw (.slice xa l.length xk) l.length 1 (ncl l))) (hy : Fct.at w D (.rw (.slice ya b.length yk) b.length 1 (ncl b))) (hl0 : Laid w) (hn : (q : Int) ≤ 9223372036854775807) (hf0 : fieldB q = true) (hlen : l.length ≤ 100) (hlb : b.length ≤ 1000) (hr0 : ∀ c ∈ l, c < q) (hs0 : ∀ c ∈ b, c < q) (hd0 : l.Nodup) :
    Calls Tryd.prog 57 #[.int .i64 (q : Nat), .slice xa l.length xk, .slice ya b.length yk] w fun e w' => e = .returned (.int .i64 0) ∧ Below w.heap.size w w' := by
  have E0 : Hid (Env D w [] [.rw (.slice ya b.length yk) b.length 1 (ncl b), .rw (.slice xa l.length xk) l.length 1 (ncl l)] w) := Lib.hid (((Env.start D w).arg (.rw (.slice xa l.length xk) l.length 1 (ncl l)) hx).arg (.rw (.slice ya b.length yk) b.length 1 (ncl b)) hy)
  clear hx hy
  go_enter Tryd.func57, Tryd.ntmps57
  have hl := Lib.hid hl0
  have hf := Lib.hid hf0
  have hr := Lib.hid hr0
  have hs := Lib.hid hs0
  have hd := Lib.hid hd0
  clear hl0 hf0 hr0 hs0 hd0
  have d1 : decide ((100 : Int) < (l.length : Int)) = false := decide_eq_false (by omega)
  have hq2 : -9223372036854775808 ≤ (q : Int) ∧ (q : Int) ≤ 9223372036854775807 := by omega
  go_wp2_with fail
  refine (isPrime_c q _ (hl.out.below E0.out.bel) hq2 hf.out).mono ?_
  rintro e w1 ⟨rfl, hb⟩
  have E1 : Hid (Env D w [] [.rw (.slice ya b.length yk) b.length 1 (ncl b), .rw (.slice xa l.length xk) l.length 1 (ncl l)] w1) := Lib.hid (E0.out.below hb)
  clear E0 hb
  go_wp2_with fail
  refine (resN_c q l (E1.out.fc 1 rfl) hr.out (by omega)).mono ?_
  rintro e w2 ⟨rfl, hb⟩
  have E2 : Hid (Env D w [] [.rw (.slice ya b.length yk) b.length 1 (ncl b), .rw (.slice xa l.length xk) l.length 1 (ncl l)] w2) := Lib.hid (E1.out.below hb)
  clear E1 hb
  go_wp2_with fail
  refine (resN_c q b (E2.out.fc 0 rfl) hs.out (by omega)).mono ?_
  rintro e w3 ⟨rfl, hb⟩
  have E3 : Hid (Env D w [] [.rw (.slice ya b.length yk) b.length 1 (ncl b), .rw (.slice xa l.length xk) l.length 1 (ncl l)] w3) := Lib.hid (E2.out.below hb)
  clear E2 hb
  go_wp2_with fail
  go_loopg [31] (l.length) (fun gk s31 wr => ∃ (k : Nat), s31 = .int .i64 (k : Int) ∧ Hid (Env D w [] [.rw (.slice ya b.length yk) b.length 1 (ncl b), .rw (.slice xa l.length xk) l.length 1 (ncl l)] wr) ∧ Hid (k ≤ l.length ∧ gk = l.length - k))
  case atStart => exact ⟨0, rfl, Lib.hid E3.out, Lib.hid ⟨Nat.zero_le _, rfl⟩⟩
  case round =>
    clear E3
    obtain ⟨k, rfl, EL, HA⟩ := hrel
    obtain ⟨a1, a2⟩ := HA.out
    clear HA
    by_cases hy : k = l.length
    rotate_left
    · have hk : k < l.length := by omega
      have t6 : decide ((k : Int) < (l.length : Int)) = true := decide_eq_true (by omega)
      have t7 : decide (k < l.length) = true := decide_eq_true hk
      clear hy
      have hk9 : (k : Int) ≤ 99 := by omega
      obtain ⟨hcap, hcap9⟩ := Rw.cap (EL.out.fc 1 rfl)
      have hnk : k ≤ xk := by omega
      have hnk2 : (k : Int) ≤ (xk : Int) := by omega
      clear hcap
      obtain ⟨xab, xao, rfl⟩ := Rw.addr (EL.out.fc 1 rfl) (by omega)
      have E4 : Hid (Env D w [] [.ce xab (xao + k) (.int .i64 (l[k] : Nat)), .rw (.slice ya b.length yk) b.length 1 (ncl b), .rw (.slice (some ⟨xab, xao, none⟩) l.length xk) l.length 1 (ncl l)] _) := Lib.hid (EL.out.elN 1 rfl rfl (k) hk)
      clear EL
      have u0 := (E4.out.fc 0 rfl).2
      have hln : (l.take k).length = k := by simp; omega
      have cc := containsN_c (Rw.takeN (E4.out.fc 2 rfl) (Nat.le_of_lt hk)) (by simp; omega) (nodup_take hd.out hk)
      rw [hln] at cc
      have CC := Lib.hid cc
      clear cc hln
      go_wp2_with fail
      refine (CC.out).mono ?_
      rintro e w4 ⟨rfl, hb⟩
      have E5 : Hid (Env D w [] [.ce xab (xao + k) (.int .i64 (l[k] : Nat)), .rw (.slice ya b.length yk) b.length 1 (ncl b), .rw (.slice (some ⟨xab, xao, none⟩) l.length xk) l.length 1 (ncl l)] w4) := Lib.hid (E4.out.below hb)
      clear u0 E4 hb
      have EZ := Lib.hid (E5.out.forget)
      go_wp2
      go_roundg (l.length - (k + 1))
      case rel => exact ⟨k + 1, rfl, EZ, Lib.hid ⟨by omega, rfl⟩⟩
      case measure => exact by omega
    have t6 : decide ((k : Int) < (l.length : Int)) = false := decide_eq_false (by omega)
    have t7 : decide (k < l.length) = false := decide_eq_false (by omega)
    clear hy
    have hfin := Lib.hid EL.out.bel
    go_wp2
    go_ret
    exact ⟨rfl, hfin.out⟩
end Go.Proofs.YteipbcpnnojclaaDoor

/- poly: Weights. -/
namespace Go.Proofs.YteipbcpnnojclaaDoor
open Go.RowKit DivMath WordMath
set_option linter.unusedVariables false
set_option linter.unusedSimpArgs false
theorem getD_elem {l : List Nat} {i : Nat} (h : i < l.length) : l.getD i 0 = l[i] := by rw [List.getD_eq_getElem?_getD, List.getElem?_eq_getElem h]; rfl
/-- the product of x - l[j] over the places j below k, but i -/
def wM (q x : Nat) (l : List Nat) (i : Nat) : Nat → Nat
  | 0 => 1 % q
  | k + 1 => if k = i then wM q x l i k else wM q x l i k * ((x + (q - l.getD k 0)) % q) % q
theorem wM_lt {q : Nat} (hq : 0 < q) (x : Nat) (l : List Nat) (i : Nat) : ∀ k, wM q x l i k < q
  | 0 => Nat.mod_lt _ hq
  | k + 1 => by unfold wM; split; exact wM_lt hq x l i k; exact Nat.mod_lt _ hq
theorem wM_same {q x : Nat} {l : List Nat} {i k : Nat} (h : k = i) : wM q x l i (k + 1) = wM q x l i k := by
  show (if k = i then _ else _) = _
  rw [if_pos h]
theorem wM_step {q x : Nat} {l : List Nat} {i k : Nat} (h : ¬ k = i) (hk : k < l.length) {r s : Nat} (hs : s = (x + (q - l[k])) % q) (hr : r = wM q x l i k * s % q) : r = wM q x l i (k + 1) := by
  show _ = (if k = i then _ else _)
  rw [if_neg h, hr, hs, getD_elem hk]
/-- v is the weight of place i at x -/
def WR (q x : Nat) (l : List Nat) (i v : Nat) : Prop := ∃ r, r < q ∧ wM q (l.getD i 0) l i l.length * r % q = 1 % q ∧ v = wM q x l i l.length * r % q
theorem WR_snoc {q x : Nat} {l o : List Nat} {i v : Nat} (ho : o.length = i) (h : ∀ j, j < i → WR q x l j (o.getD j 0)) (hv : WR q x l i v) : ∀ j, j < i + 1 → WR q x l j ((o ++ [v]).getD j 0) := fun j hj => by
  by_cases e : j = i
  · subst e
    rw [getD_elem (by simp; omega), List.getElem_append_right (by omega)]
    simpa using hv
  · have hji : j < i := by omega
    have e2 : (o ++ [v]).getD j 0 = o.getD j 0 := by
      rw [getD_elem (by simp; omega), getD_elem (by omega), List.getElem_append_left]
    rw [e2]; exact h j hji
set_option maxRecDepth 100000 in
set_option maxHeartbeats 4000000 in
theorem Weights_ok {D : Nat → Prop} (q : Nat) (l : List Nat) (x : Nat) {xa : Option Addr} {xk : Nat} {w : World} (hx : Fct.at w D (.rw (.slice xa l.length xk) l.length 1 (ncl l))) (hl0 : Laid w) (hqT : (q : Int) < Top) (hq1 : 1 < q) (hf0 : fieldB q = true) (hlen : l.length ≤ 100) (hr0 : ∀ c ∈ l, c < q) (hxq : (x : Int) < (q : Int)) (hd0 : l.Nodup) (hg0 : ∀ i, i < l.length → Nat.gcd (wM q (l.getD i 0) l i l.length) q = 1) :
    Calls Tryd.prog 15 #[.int .i64 (q : Nat), .slice xa l.length xk, .int .i64 (x : Nat)] w fun e w' => (∃ o : List Nat, Hid (o.length = l.length ∧ ∀ i, i < l.length → WR q x l i (o.getD i 0)) ∧ RetIE (fun b => w.heap.size ≤ b) o 0 e w') ∧ Below w.heap.size w w' := by
  have E0 : Hid (Env D w [] [.rw (.slice xa l.length xk) l.length 1 (ncl l)] w) := Lib.hid ((Env.start D w).arg (.rw (.slice xa l.length xk) l.length 1 (ncl l)) hx)
  clear hx
  go_enter Tryd.func15, Tryd.ntmps15
  have hl := Lib.hid hl0
  have hf := Lib.hid hf0
  have hr := Lib.hid hr0
  have hd := Lib.hid hd0
  have hg := Lib.hid hg0
  clear hl0 hf0 hr0 hd0 hg0
  have HT := Lib.hid hqT
  have hq9 : (q : Int) ≤ 2305843009213693951 := by unfold Top at hqT; omega
  clear hqT
  have hq0 : ¬ (q = 0) := by omega
  have hqz : ((q : Int) == 0) = false := beq_eq_false_iff_ne.2 (by omega)
  have HQ : Hid (0 < q) := Lib.hid (by omega)
  have HQ9 := Lib.hid hq9
  have HXS : Hid (∀ c ∈ [x], c < q) := Lib.hid (fun c hc => by rw [List.mem_singleton.1 hc]; exact Int.ofNat_lt.1 hxq)
  have E1 : Hid (Env D w [(w.heap.size, 3, [.int .i64 (x : Nat)])] [.rw (.slice xa l.length xk) l.length 1 (ncl l)] _) := Lib.hid ((E0.out.push 3 [.int .i64 (x : Nat)] (w.heap.size) (by simp)))
  go_wp2_with fail
  refine (check_ok q l [x] (Rw.tr (E1.out.fc 0 rfl)) (Rw.box1 (E1.out.bx 0 rfl)) (hl.out.below E1.out.bel) (by have := HQ9.out; omega) hf.out hlen (by simp) hr.out HXS.out hd.out).mono ?_
  rintro e w1 ⟨rfl, hb⟩
  have E2 : Hid (Env D w [(w.heap.size, 3, [.int .i64 (x : Nat)])] [.rw (.slice xa l.length xk) l.length 1 (ncl l)] w1) := Lib.hid (E1.out.below hb)
  clear E0 E1 hb
  go_wp2_with fail
  go_loopg [26, 9] (l.length) (fun gk s26 s9 wr => ∃ (i : Nat) (sg : List Bx) (cs : List Value) (va : Option Addr) (vk : Nat) (o : List Nat), s26 = .int .i64 (i : Int) ∧ s9 = .slice va (nl o).length vk ∧ Hid (Env D w ((w.heap.size, 3, [.int .i64 (x : Nat)]) :: sg) [.rw (.slice xa l.length xk) l.length 1 (ncl l)] wr) ∧ Hid (OI sg cs (.slice va (nl o).length vk) (nl o)) ∧ Hid ((i ≤ l.length ∧ gk = l.length - i) ∧ o.length = i ∧ ∀ j, j < i → WR q x l j (o.getD j 0)))
  case atStart => exact ⟨0, [], [], none, 0, [], rfl, rfl, Lib.hid (E2.out.cast (by simp)), Lib.hid OI.nlnil, Lib.hid ⟨⟨Nat.zero_le _, rfl⟩, rfl, fun j h => absurd h (Nat.not_lt_zero _)⟩⟩
  case round =>
    clear E2
    obtain ⟨i, sg, cs, va, vk, o, rfl, rfl, EL, hO, HA⟩ := hrel
    obtain ⟨⟨a1, a2⟩, a3, a4⟩ := HA.out
    have HOL := Lib.hid a3
    have HS := Lib.hid a4
    clear a3 a4 HA
    by_cases hy : i = l.length
    rotate_left
    · have hi : i < l.length := by omega
      have t6 : decide ((i : Int) < (l.length : Int)) = true := decide_eq_true (by omega)
      have t7 : decide (i < l.length) = true := decide_eq_true hi
      clear hy
      have hi9 : (i : Int) ≤ 99 := by omega
      have hiq : ((l[i] : Nat) : Int) < (q : Int) := Int.ofNat_lt.2 (hr.out _ (List.getElem_mem hi))
      obtain ⟨xab, xao, rfl⟩ := Rw.addr (EL.out.fc 0 rfl) (by omega)
      have E3 : Hid (Env D w ((w.heap.size, 3, [.int .i64 (x : Nat)]) :: sg) [.ce xab (xao + i) (.int .i64 (l[i] : Nat)), .rw (.slice (some ⟨xab, xao, none⟩) l.length xk) l.length 1 (ncl l)] _) := Lib.hid (EL.out.elN 0 rfl rfl (i) hi)
      clear EL
      have u0 := (E3.out.fc 0 rfl).2
      go_wp2_with fail
      have E4 : Hid (Env D w ((w.heap.size, 3, [.int .i64 (x : Nat)]) :: sg) [.ce xab (xao + i) (.int .i64 (l[i] : Nat)), .rw (.slice (some ⟨xab, xao, none⟩) l.length xk) l.length 1 (ncl l)] (wr.drew)) := Lib.hid E3.out.drew
      clear u0 E3
      refine wp_regionU (S := fun w' => True) [] (by kernel_rfl) (trivial) (fun hHeld => ?_)
      generalize wr.drew = w2 at *
      refine uTake (i := 0) (some 31) (v := ?_) rfl rfl (by kernel_rfl) (by kernel_rfl) (by kernel_rfl) (by kernel_rfl) (fun _ _ _ h => h) (by rfl) (by assumption) ?_ ?_
      rotate_left
      · (intro wS hSw; (try dsimp only at hSw); go_simp; try with_reducible rfl)
      try simp only [Act.put, List.setIfInBounds_toArray, List.set_cons_zero, List.set_cons_succ]
      refine uTake (i := 1) (some 32) (v := .int .i64 ((1 % q : Nat) : Int)) rfl rfl (by kernel_rfl) (by kernel_rfl) (by kernel_rfl) (by kernel_rfl) (fun _ _ _ h => h) (by rfl) (by assumption) ?_ ?_
      · (intro wS hSw; (try dsimp only at hSw); go_simp; exact Int.tmod_eq_emod_of_nonneg (by omega))
      try simp only [Act.put, List.setIfInBounds_toArray, List.set_cons_zero, List.set_cons_succ]
      refine uTake (i := 2) (some 33) (v := ?_) rfl rfl (by kernel_rfl) (by kernel_rfl) (by kernel_rfl) (by kernel_rfl) (fun _ _ _ h => h) (by rfl) (by assumption) ?_ ?_
      rotate_left
      · (intro wS hSw; (try dsimp only at hSw); go_simp; try with_reducible rfl)
      try simp only [Act.put, List.setIfInBounds_toArray, List.set_cons_zero, List.set_cons_succ]
      refine uTake (i := 3) (some 34) (v := .int .i64 ((1 % q : Nat) : Int)) rfl rfl (by kernel_rfl) (by kernel_rfl) (by kernel_rfl) (by kernel_rfl) (fun _ _ _ h => h) (by rfl) (by assumption) ?_ ?_
      · (intro wS hSw; (try dsimp only at hSw); go_simp; exact Int.tmod_eq_emod_of_nonneg (by omega))
      try simp only [Act.put, List.setIfInBounds_toArray, List.set_cons_zero, List.set_cons_succ]
      refine uTake (i := 4) (some 12) (v := ?_) rfl rfl (by kernel_rfl) (by kernel_rfl) (by kernel_rfl) (by kernel_rfl) (fun _ _ _ h => h) (by rfl) (by assumption) ?_ ?_
      rotate_left
      · (intro wS hSw; (try dsimp only at hSw); go_simp; try with_reducible rfl)
      try simp only [Act.put, List.setIfInBounds_toArray, List.set_cons_zero, List.set_cons_succ]
      refine uTake (i := 5) (some 13) (v := ?_) rfl rfl (by kernel_rfl) (by kernel_rfl) (by kernel_rfl) (by kernel_rfl) (fun _ _ _ h => h) (by rfl) (by assumption) ?_ ?_
      rotate_left
      · (intro wS hSw; (try dsimp only at hSw); go_simp; try with_reducible rfl)
      try simp only [Act.put, List.setIfInBounds_toArray, List.set_cons_zero, List.set_cons_succ]
      refine uDone (by kernel_rfl) ?_ _
      go_wp2_with fail
      go_loopg [37, 12, 13] (l.length) (fun gk s37 s12 s13 wr => ∃ (k o1 u1 : Nat), s37 = .int .i64 (k : Int) ∧ s12 = .int .i64 (o1 : Int) ∧ s13 = .int .i64 (u1 : Int) ∧ Hid (Env D w ((w.heap.size, 3, [.int .i64 (x : Nat)]) :: sg) [.ce xab (xao + i) (.int .i64 (l[i] : Nat)), .rw (.slice (some ⟨xab, xao, none⟩) l.length xk) l.length 1 (ncl l)] wr) ∧ Hid ((k ≤ l.length ∧ gk = l.length - k) ∧ o1 = wM q x l i k ∧ u1 = wM q l[i] l i k))
      case atStart => exact ⟨0, 1 % q, 1 % q, rfl, rfl, rfl, Lib.hid E4.out, Lib.hid ⟨⟨Nat.zero_le _, rfl⟩, rfl, rfl⟩⟩
      case round =>
        clear E4
        obtain ⟨k, o1, u1, rfl, rfl, rfl, EL, HA⟩ := hrel
        obtain ⟨⟨b1, b2⟩, b3, b4⟩ := HA.out
        have HO1 := Lib.hid b3
        have HU1 := Lib.hid b4
        clear b3 b4 HA
        have ho1 : (o1 : Int) < (q : Int) := by rw [HO1.out]; exact Int.ofNat_lt.2 (wM_lt HQ.out _ _ _ _)
        have hu1 : (u1 : Int) < (q : Int) := by rw [HU1.out]; exact Int.ofNat_lt.2 (wM_lt HQ.out _ _ _ _)
        by_cases hy : k = l.length
        rotate_left
        · have hk : k < l.length := by omega
          have t8 : decide ((k : Int) < (l.length : Int)) = true := decide_eq_true (by omega)
          have t9 : decide (k < l.length) = true := decide_eq_true hk
          clear hy
          have hk9 : (k : Int) ≤ 99 := by omega
          have hkq : ((l[k] : Nat) : Int) < (q : Int) := Int.ofNat_lt.2 (hr.out _ (List.getElem_mem hk))
          have E5 : Hid (Env D w ((w.heap.size, 3, [.int .i64 (x : Nat)]) :: sg) [.ce xab (xao + k) (.int .i64 (l[k] : Nat)), .ce xab (xao + i) (.int .i64 (l[i] : Nat)), .rw (.slice (some ⟨xab, xao, none⟩) l.length xk) l.length 1 (ncl l)] _) := Lib.hid (EL.out.elN 1 rfl rfl (k) hk)
          clear EL
          have v0 := (E5.out.fc 0 rfl).2
          by_cases hki : k = i
          · have n1 : ((k : Int) == (i : Int)) = true := beq_iff_eq.2 (by omega)
            have n2 : (k == i) = true := beq_iff_eq.2 hki
            have n3 : ((k : Int) != (i : Int)) = false := by rw [bne, n1]; rfl
            have n4 : (k != i) = false := by rw [bne, n2]; rfl
            have HKI := Lib.hid hki
            clear hki
            have EZ := Lib.hid (E5.out.forget)
            go_wp2
            go_roundg (l.length - (k + 1))
            case rel => exact ⟨k + 1, o1, u1, rfl, rfl, rfl, EZ, Lib.hid ⟨⟨by omega, rfl⟩, by rw [wM_same HKI.out]; exact HO1.out, by rw [wM_same HKI.out]; exact HU1.out⟩⟩
            case measure => exact by omega
          · have n1 : ((k : Int) == (i : Int)) = false := beq_eq_false_iff_ne.2 (by omega)
            have n2 : (k == i) = false := beq_eq_false_iff_ne.2 hki
            have n3 : ((k : Int) != (i : Int)) = true := by rw [bne, n1]; rfl
            have n4 : (k != i) = true := by rw [bne, n2]; rfl
            have HKI := Lib.hid hki
            clear hki
            go_wp2_with fail
            refine (polsub_c q x l[k] _ hxq hkq HT.out).mono ?_
            rintro e w3 ⟨⟨s1, s1h, rfl⟩, hb⟩
            have E6 : Hid (Env D w ((w.heap.size, 3, [.int .i64 (x : Nat)]) :: sg) [.ce xab (xao + k) (.int .i64 (l[k] : Nat)), .ce xab (xao + i) (.int .i64 (l[i] : Nat)), .rw (.slice (some ⟨xab, xao, none⟩) l.length xk) l.length 1 (ncl l)] w3) := Lib.hid (E5.out.below hb)
            clear v0 E5 hb
            have s1q : (s1 : Int) < (q : Int) := by rw [s1h.out]; exact Int.ofNat_lt.2 (Nat.mod_lt _ HQ.out)
            go_wp2_with fail
            refine (polmulB q o1 s1 _ ho1 s1q HT.out).mono ?_
            rintro e w4 ⟨⟨s2, s2h, rfl⟩, hb⟩
            have E7 : Hid (Env D w ((w.heap.size, 3, [.int .i64 (x : Nat)]) :: sg) [.ce xab (xao + k) (.int .i64 (l[k] : Nat)), .ce xab (xao + i) (.int .i64 (l[i] : Nat)), .rw (.slice (some ⟨xab, xao, none⟩) l.length xk) l.length 1 (ncl l)] w4) := Lib.hid (E6.out.below hb)
            clear E6 hb
            have s2q : (s2 : Int) < (q : Int) := by rw [s2h.out]; exact Int.ofNat_lt.2 (Nat.mod_lt _ HQ.out)
            go_wp2_with fail
            refine (polsub_c q l[i] l[k] _ hiq hkq HT.out).mono ?_
            rintro e w5 ⟨⟨s3, s3h, rfl⟩, hb⟩
            have E8 : Hid (Env D w ((w.heap.size, 3, [.int .i64 (x : Nat)]) :: sg) [.ce xab (xao + k) (.int .i64 (l[k] : Nat)), .ce xab (xao + i) (.int .i64 (l[i] : Nat)), .rw (.slice (some ⟨xab, xao, none⟩) l.length xk) l.length 1 (ncl l)] w5) := Lib.hid (E7.out.below hb)
            clear E7 hb
            have s3q : (s3 : Int) < (q : Int) := by rw [s3h.out]; exact Int.ofNat_lt.2 (Nat.mod_lt _ HQ.out)
            go_wp2_with fail
            refine (polmulB q u1 s3 _ hu1 s3q HT.out).mono ?_
            rintro e w6 ⟨⟨s4, s4h, rfl⟩, hb⟩
            have E9 : Hid (Env D w ((w.heap.size, 3, [.int .i64 (x : Nat)]) :: sg) [.ce xab (xao + k) (.int .i64 (l[k] : Nat)), .ce xab (xao + i) (.int .i64 (l[i] : Nat)), .rw (.slice (some ⟨xab, xao, none⟩) l.length xk) l.length 1 (ncl l)] w6) := Lib.hid (E8.out.below hb)
            clear E8 hb
            have s4q : (s4 : Int) < (q : Int) := by rw [s4h.out]; exact Int.ofNat_lt.2 (Nat.mod_lt _ HQ.out)
            have EZ := Lib.hid (E9.out.forget)
            go_wp2
            go_roundg (l.length - (k + 1))
            case rel => exact ⟨k + 1, s2, s4, rfl, rfl, rfl, EZ, Lib.hid ⟨⟨by omega, rfl⟩, wM_step HKI.out hk s1h.out (by rw [← HO1.out]; exact s2h.out), wM_step HKI.out hk s3h.out (by rw [← HU1.out]; exact s4h.out)⟩⟩
            case measure => exact by omega
        have t8 : decide ((k : Int) < (l.length : Int)) = false := decide_eq_false (by omega)
        have t9 : decide (k < l.length) = false := decide_eq_false (by omega)
        have HK := Lib.hid hy
        clear hy
        have HGD : Hid (l.getD i 0 = l[i]) := Lib.hid (getD_elem hi)
        have HGC : Hid (Nat.gcd u1 q = 1) := Lib.hid (by have h := hg.out i hi; rw [HGD.out, ← HK.out] at h; rw [HU1.out]; exact h)
        have hol : (nl o).length + 1 ≤ 1000000 := by rw [nl_len, HOL.out]; omega
        have HOL2 := Lib.hid hol
        clear hol
        go_wp2_with fail
        refine (polinv_c q u1 _ hu1 HT.out HGC.out).mono ?_
        rintro e w3 ⟨⟨r1, r1h, rfl⟩, hb⟩
        have E5 : Hid (Env D w ((w.heap.size, 3, [.int .i64 (x : Nat)]) :: sg) [.ce xab (xao + i) (.int .i64 (l[i] : Nat)), .rw (.slice (some ⟨xab, xao, none⟩) l.length xk) l.length 1 (ncl l)] w3) := Lib.hid (EL.out.below hb)
        clear EL hb
        have r1q : (r1 : Int) < (q : Int) := Int.ofNat_lt.2 r1h.out.1
        go_wp2_with fail
        refine (polmulB q o1 r1 _ ho1 r1q HT.out).mono ?_
        rintro e w4 ⟨⟨r2, r2h, rfl⟩, hb⟩
        have E6 : Hid (Env D w ((w.heap.size, 3, [.int .i64 (x : Nat)]) :: sg) [.ce xab (xao + i) (.int .i64 (l[i] : Nat)), .rw (.slice (some ⟨xab, xao, none⟩) l.length xk) l.length 1 (ncl l)] w4) := Lib.hid (E5.out.below hb)
        clear E5 hb
        have E7 : Hid (Env D w ((w4.heap.size, 3, [.int .i64 (r2 : Nat)]) :: (w.heap.size, 3, [.int .i64 (x : Nat)]) :: sg) [.ce xab (xao + i) (.int .i64 (l[i] : Nat)), .rw (.slice (some ⟨xab, xao, none⟩) l.length xk) l.length 1 (ncl l)] _) := Lib.hid ((E6.out.push 3 [.int .i64 (r2 : Nat)] (w4.heap.size) (by simp)))
        go_wp2_with (at_builtin; refine wpl_app1 (c := 1) tiI rfl _ _ rfl E7.out (A := [(w4.heap.size, 3, [.int .i64 (r2 : Nat)]), (w.heap.size, 3, [.int .i64 (x : Nat)])]) (sg := sg) (B' := []) (F := ((w4.heap.size, 3, [.int .i64 (r2 : Nat)]) :: (w.heap.size, 3, [.int .i64 (x : Nat)]) :: sg)) (by simp) (hO.out.os rfl) rfl rfl (SrcN.int (E7.out.bx 0 rfl)) HOL2.out ?_)
        intro zg zp zc w5 zH zT zE
        have zO := Lib.hid (OI.app (x := ((r2 : Nat) : Int)) (g' := zg) (cs' := zc) (cap' := zp) hO.out rfl (by simpa using zH.out) (by simpa using zT.out))
        have E8 : Hid (Env D w ((w4.heap.size, 3, [.int .i64 (r2 : Nat)]) :: (w.heap.size, 3, [.int .i64 (x : Nat)]) :: [(zg, 3, zc)]) [.ce xab (xao + i) (.int .i64 (l[i] : Nat)), .rw (.slice (some ⟨xab, xao, none⟩) l.length xk) l.length 1 (ncl l)] w5) := Lib.hid (zE.out.cast (by simp))
        clear E6 E7 zE zH zT hO
        have HWR : Hid (WR q x l i r2) := Lib.hid ⟨r1, r1h.out.1, by rw [HGD.out, ← HK.out, ← HU1.out]; exact r1h.out.2, by rw [← HK.out, ← HO1.out]; exact r2h.out⟩
        have EZ := Lib.hid ((E8.out.drop).forget)
        have OZ := Lib.hid (OI.snoc (x := r2) zO.out)
        go_wp2
        go_roundg (l.length - (i + 1))
        case rel => exact ⟨i + 1, [(zg, 3, zc)], zc, some ⟨zg, 0, none⟩, zp, o ++ [r2], rfl, OI.v, EZ, OZ, Lib.hid ⟨⟨by omega, rfl⟩, by rw [List.length_append, HOL.out]; rfl, WR_snoc HOL.out HS.out HWR.out⟩⟩
        case measure => exact by omega
    have t6 : decide ((i : Int) < (l.length : Int)) = false := decide_eq_false (by omega)
    have t7 : decide (i < l.length) = false := decide_eq_false (by omega)
    have HD : Hid (o.length = l.length ∧ ∀ j, j < l.length → WR q x l j (o.getD j 0)) := Lib.hid ⟨by rw [HOL.out, hy], by rw [← hy]; exact HS.out⟩
    have HY := Lib.hid hy
    clear hy
    have hres := Lib.hid (hO.out.rwN EL.out (by intro p hp; exact List.mem_cons_of_mem _ hp))
    have hbel := Lib.hid EL.out.bel
    go_wp2
    go_ret2
    refine ⟨⟨o, HD, va, vk, by rw [nl_len]; rfl, Lib.hid ?_⟩, hbel.out⟩
    have h := hres.out
    rw [nl_len] at h
    exact h
end Go.Proofs.YteipbcpnnojclaaDoor

/- poly: Interpolate. -/
namespace Go.Proofs.YteipbcpnnojclaaDoor
open Go.RowKit DivMath WordMath
set_option linter.unusedVariables false
set_option linter.unusedSimpArgs false
theorem mulL_le (q : Nat) (a b : List Nat) : (mulL q a b).length ≤ a.length + b.length - 1 := by
  unfold mulL; split
  · simp
  · rw [mulTo_len]; exact Nat.le_refl _
theorem mulL_lt {q : Nat} (hq : 0 < q) (a b : List Nat) : ∀ c ∈ mulL q a b, c < q := by
  unfold mulL; split
  · intro c hc; cases hc
  · exact mulTo_lt hq a b _
/-- the polynomials of Newton's way, behind k points: the sum so far and the product of the factors -/
def ItR (q : Nat) (a b : List Nat) : Nat → List Nat → List Nat → Prop
  | 0, u, v => u = [] ∧ v = [1]
  | k + 1, u, v => ∃ u0 v0 r, ItR q a b k u0 v0 ∧ r < q ∧ evN q (a.getD k 0) v0 * r % q = 1 % q ∧ u = trimN (addL q u0 (trimN (mulL q [((b.getD k 0 + (q - evN q (a.getD k 0) u0)) % q) * r % q] v0))) ∧ v = trimN (mulL q v0 [(0 + (q - a.getD k 0)) % q, 1])
theorem ItR_len {q : Nat} (hq : 1 < q) {a b : List Nat} : ∀ {k u v}, ItR q a b k u v → (u.length ≤ k ∧ v.length ≤ k + 1) ∧ (∀ c ∈ u, c < q) ∧ ∀ c ∈ v, c < q
  | 0, u, v, h => by
    obtain ⟨rfl, rfl⟩ := h
    refine ⟨⟨Nat.le_refl _, Nat.le_refl _⟩, by simp, fun c hc => by rw [List.mem_singleton.1 hc]; exact hq⟩
  | k + 1, u, v, h => by
    obtain ⟨u0, v0, r, h1, h2, h3, rfl, rfl⟩ := h
    obtain ⟨⟨l1, l2⟩, b1, b2⟩ := ItR_len hq h1
    refine ⟨⟨?_, ?_⟩, trimN_lt (addL_lt (by omega) _ _), trimN_lt (mulL_lt (by omega) _ _)⟩
    · refine Nat.le_trans (trimN_len _) ?_
      rw [addL_len]
      have e1 := trimN_len (mulL q [((b.getD k 0 + (q - evN q (a.getD k 0) u0)) % q) * r % q] v0)
      have e2 := mulL_le q [((b.getD k 0 + (q - evN q (a.getD k 0) u0)) % q) * r % q] v0
      simp only [List.length_singleton] at e2
      omega
    · refine Nat.le_trans (trimN_len _) ?_
      have e2 := mulL_le q v0 [(0 + (q - a.getD k 0)) % q, 1]
      simp only [List.length_cons, List.length_nil] at e2
      omega
theorem Env.freezeN {D0 : Nat → Prop} {w W : World} {F : List Bx} {G : List Fct} {g : Nat} {T : TypeId} (l : List Nat) (E : Env D0 w ((g, T, ncl l) :: F) G W) (hn : l.length ≤ 1000000) : Env D0 w F (.rw (.slice (some ⟨g, 0, none⟩) l.length l.length) l.length 1 (ncl l) :: G) W := by
  have hB := E.box.1
  refine E.drop.note _ ⟨some ⟨g, 0, none⟩, l.length, rfl, Nat.le_refl _, by omega, ncl_len l, ncl_one l, fun _ => ⟨g, 0, rfl, ⟨hB.lt, fun p hp => E.box.2.1 p hp, .inr hB.1⟩, fun i u hu => ?_⟩⟩
  rw [Nat.zero_add]; exact hB.cell i hu
set_option maxRecDepth 100000 in
set_option maxHeartbeats 4000000 in
theorem Interpolate_ok {D : Nat → Prop} (q : Nat) (a b : List Nat) {xa ya : Option Addr} {xk yk : Nat} {w : World} (hx : Fct.at w D (.rw (.slice xa a.length xk) a.length 1 (ncl a))) (hy : Fct.at w D (.rw (.slice ya b.length yk) b.length 1 (ncl b))) (hl0 : Laid w) (hqT : (q : Int) < Top) (hq1 : 1 < q) (hf0 : fieldB q = true) (hab : a.length = b.length) (hlen : a.length ≤ 100) (hr0 : ∀ c ∈ a, c < q) (hs0 : ∀ c ∈ b, c < q) (hd0 : a.Nodup) (hg0 : ∀ k u v, k < a.length → ItR q a b k u v → Nat.gcd (evN q (a.getD k 0) v) q = 1) :
    Calls Tryd.prog 14 #[.int .i64 (q : Nat), .slice xa a.length xk, .slice ya b.length yk] w fun e w' => (∃ u v : List Nat, Hid (ItR q a b a.length u v) ∧ RetIE (fun _ => True) u 0 e w') ∧ Below w.heap.size w w' := by
  have E0 : Hid (Env D w [] [.rw (.slice ya b.length yk) b.length 1 (ncl b), .rw (.slice xa a.length xk) a.length 1 (ncl a)] w) := Lib.hid (((Env.start D w).arg (.rw (.slice xa a.length xk) a.length 1 (ncl a)) hx).arg (.rw (.slice ya b.length yk) b.length 1 (ncl b)) hy)
  clear hx hy
  go_enter Tryd.func14, Tryd.ntmps14
  have hl := Lib.hid hl0
  have hf := Lib.hid hf0
  have hr := Lib.hid hr0
  have hs := Lib.hid hs0
  have hd := Lib.hid hd0
  have hg := Lib.hid hg0
  clear hl0 hf0 hr0 hs0 hd0 hg0
  have HT := Lib.hid hqT
  have hq9 : (q : Int) ≤ 2305843009213693951 := by unfold Top at hqT; omega
  clear hqT
  have HQ : Hid (0 < q) := Lib.hid (by omega)
  have HQ1 := Lib.hid hq1
  have HQ9 := Lib.hid hq9
  have n1 : ((a.length : Int) == (b.length : Int)) = true := beq_iff_eq.2 (by omega)
  have n2 : (a.length == b.length) = true := beq_iff_eq.2 hab
  have n3 : ((a.length : Int) != (b.length : Int)) = false := by rw [bne, n1]; rfl
  have n4 : (a.length != b.length) = false := by rw [bne, n2]; rfl
  have HAB := Lib.hid hab
  clear hab
  go_wp2_with fail
  refine (check_ok q a b (E0.out.fc 1 rfl) (E0.out.fc 0 rfl) (hl.out.below E0.out.bel) (by have := HQ9.out; omega) hf.out hlen (by have := HAB.out; omega) hr.out hs.out hd.out).mono ?_
  rintro e w1 ⟨rfl, hb⟩
  have E1 : Hid (Env D w [] [.rw (.slice ya b.length yk) b.length 1 (ncl b), .rw (.slice xa a.length xk) a.length 1 (ncl a)] w1) := Lib.hid (E0.out.below hb)
  clear E0 hb
  go_wp2_with fail
  have E2 : Hid (Env D w [(w1.heap.size, 3, [.int .i64 1])] [.rw (.slice ya b.length yk) b.length 1 (ncl b), .rw (.slice xa a.length xk) a.length 1 (ncl a)] _) := Lib.hid ((E1.out.push 3 [.int .i64 1] (w1.heap.size) (by simp)))
  have E3 : Hid (Env D w [] [.rw (.slice none ([] : List Nat).length 0) ([] : List Nat).length 1 (ncl []), .rw (.slice (some ⟨w1.heap.size, 0, none⟩) [1].length [1].length) [1].length 1 (ncl [1]), .rw (.slice ya b.length yk) b.length 1 (ncl b), .rw (.slice xa a.length xk) a.length 1 (ncl a)] (w1.alloc (.cells #[.int .i64 1] 3))) := Lib.hid ((Env.freezeN [1] E2.out (by simp)).note _ (Rw.nil _ _ _))
  go_loopg [29, 9, 10] (a.length) (fun gk s29 s9 s10 wr => ∃ (k : Nat) (ua : Option Addr) (uk : Nat) (u : List Nat) (va : Option Addr) (vk : Nat) (v : List Nat), s29 = .int .i64 (k : Int) ∧ s9 = .slice ua u.length uk ∧ s10 = .slice va v.length vk ∧ Hid (Env D w [] [.rw (.slice ua u.length uk) u.length 1 (ncl u), .rw (.slice va v.length vk) v.length 1 (ncl v), .rw (.slice ya b.length yk) b.length 1 (ncl b), .rw (.slice xa a.length xk) a.length 1 (ncl a)] wr) ∧ Hid ((k ≤ a.length ∧ gk = a.length - k) ∧ ItR q a b k u v))
  case atStart => exact ⟨0, none, 0, [], some ⟨w1.heap.size, 0, none⟩, 1, [1], rfl, rfl, rfl, Lib.hid E3.out, Lib.hid ⟨⟨Nat.zero_le _, rfl⟩, rfl, rfl⟩⟩
  case round =>
    clear E1 E2 E3
    obtain ⟨k, ua, uk, u, va, vk, v, rfl, rfl, rfl, EL, HA⟩ := hrel
    obtain ⟨⟨a1, a2⟩, a3⟩ := HA.out
    have HS := Lib.hid a3
    clear a3 HA
    by_cases hy : k = a.length
    rotate_left
    · have hk : k < a.length := by omega
      have t6 : decide ((k : Int) < (a.length : Int)) = true := decide_eq_true (by omega)
      have t7 : decide (k < a.length) = true := decide_eq_true hk
      clear hy
      have hk9 : (k : Int) ≤ 99 := by omega
      have hkb : k < b.length := by have := HAB.out; omega
      have HL := Lib.hid (ItR_len HQ1.out HS.out)
      have hxq : ((a[k] : Nat) : Int) < (q : Int) := Int.ofNat_lt.2 (hr.out _ (List.getElem_mem hk))
      have hyq : ((b[k] : Nat) : Int) < (q : Int) := Int.ofNat_lt.2 (hs.out _ (List.getElem_mem hkb))
      have heu : ((evN q a[k] u : Nat) : Int) < (q : Int) := Int.ofNat_lt.2 (evN_lt HQ.out _)
      have hev : ((evN q a[k] v : Nat) : Int) < (q : Int) := Int.ofNat_lt.2 (evN_lt HQ.out _)
      have HGA : Hid (a.getD k 0 = a[k]) := Lib.hid (getD_elem hk)
      have HGB : Hid (b.getD k 0 = b[k]) := Lib.hid (getD_elem hkb)
      have HGC : Hid (Nat.gcd (evN q a[k] v) q = 1) := Lib.hid (by have h := hg.out k u v hk HS.out; rw [HGA.out] at h; exact h)
      obtain ⟨xab, xao, rfl⟩ := Rw.addr (EL.out.fc 3 rfl) (by omega)
      have E4 : Hid (Env D w [] [.ce xab (xao + k) (.int .i64 (a[k] : Nat)), .rw (.slice ua u.length uk) u.length 1 (ncl u), .rw (.slice va v.length vk) v.length 1 (ncl v), .rw (.slice ya b.length yk) b.length 1 (ncl b), .rw (.slice (some ⟨xab, xao, none⟩) a.length xk) a.length 1 (ncl a)] _) := Lib.hid (EL.out.elN 3 rfl rfl (k) hk)
      clear EL
      have p0 := (E4.out.fc 0 rfl).2
      obtain ⟨yab, yao, rfl⟩ := Rw.addr (E4.out.fc 3 rfl) (by omega)
      have E5 : Hid (Env D w [] [.ce yab (yao + k) (.int .i64 (b[k] : Nat)), .ce xab (xao + k) (.int .i64 (a[k] : Nat)), .rw (.slice ua u.length uk) u.length 1 (ncl u), .rw (.slice va v.length vk) v.length 1 (ncl v), .rw (.slice (some ⟨yab, yao, none⟩) b.length yk) b.length 1 (ncl b), .rw (.slice (some ⟨xab, xao, none⟩) a.length xk) a.length 1 (ncl a)] _) := Lib.hid (E4.out.elN 3 rfl rfl (k) hkb)
      clear E4
      have o0 := (E5.out.fc 0 rfl).2
      go_wp2_with fail
      have E6 : Hid (Env D w [] [.ce yab (yao + k) (.int .i64 (b[k] : Nat)), .ce xab (xao + k) (.int .i64 (a[k] : Nat)), .rw (.slice ua u.length uk) u.length 1 (ncl u), .rw (.slice va v.length vk) v.length 1 (ncl v), .rw (.slice (some ⟨yab, yao, none⟩) b.length yk) b.length 1 (ncl b), .rw (.slice (some ⟨xab, xao, none⟩) a.length xk) a.length 1 (ncl a)] (wr.drew)) := Lib.hid E5.out.drew
      clear p0 o0 E5
      refine wp_regionU (S := fun w' => w'.cell? ⟨yab, yao + k, none⟩ = some (.int .i64 (b[k] : Nat))) [] (by kernel_rfl) ((E6.out.fc 0 rfl).2) (fun hHeld => ?_)
      generalize wr.drew = w2 at *
      refine uTake (i := 0) (some 34) (v := ?_) rfl rfl (by kernel_rfl) (by kernel_rfl) (by kernel_rfl) (by kernel_rfl) (fun _ _ _ h => h) (by rfl) (by assumption) ?_ ?_
      rotate_left
      · (intro wS hSw; (try dsimp only at hSw); go_simp; try with_reducible rfl)
      try simp only [Act.put, List.setIfInBounds_toArray, List.set_cons_zero, List.set_cons_succ]
      refine uTake (i := 1) (some 35) (v := ?_) rfl rfl (by kernel_rfl) (by kernel_rfl) (by kernel_rfl) (by kernel_rfl) (fun _ _ _ h => h) (by rfl) (by assumption) ?_ ?_
      rotate_left
      · (intro wS hSw; (try dsimp only at hSw); go_simp; try with_reducible rfl)
      try simp only [Act.put, List.setIfInBounds_toArray, List.set_cons_zero, List.set_cons_succ]
      refine uTake (i := 2) (some 36) (v := ?_) rfl rfl (by kernel_rfl) (by kernel_rfl) (by kernel_rfl) (by kernel_rfl) (fun _ _ _ h => h) (by rfl) (by assumption) ?_ ?_
      rotate_left
      · (intro wS hSw; (try dsimp only at hSw); go_simp; try with_reducible rfl)
      try simp only [Act.put, List.setIfInBounds_toArray, List.set_cons_zero, List.set_cons_succ]
      refine uTake (i := 3) (some 37) (v := ?_) rfl rfl (by kernel_rfl) (by kernel_rfl) (by kernel_rfl) (by kernel_rfl) (fun _ _ _ h => h) (by rfl) (by assumption) ?_ ?_
      rotate_left
      · (intro wS hSw; (try dsimp only at hSw); go_simp; try with_reducible rfl)
      try simp only [Act.put, List.setIfInBounds_toArray, List.set_cons_zero, List.set_cons_succ]
      refine uTake (i := 4) (some 38) (v := ?_) rfl rfl (by kernel_rfl) (by kernel_rfl) (by kernel_rfl) (by kernel_rfl) (fun _ _ _ h => h) (by rfl) (by assumption) ?_ ?_
      rotate_left
      · (intro wS hSw; (try dsimp only at hSw); go_simp; try with_reducible rfl)
      try simp only [Act.put, List.setIfInBounds_toArray, List.set_cons_zero, List.set_cons_succ]
      refine uTake (i := 5) (some 39) (v := ?_) rfl rfl (by kernel_rfl) (by kernel_rfl) (by kernel_rfl) (by kernel_rfl) (fun _ _ _ h => h) (by rfl) (by assumption) ?_ ?_
      rotate_left
      · (intro wS hSw; (try dsimp only at hSw); go_simp; try with_reducible rfl)
      try simp only [Act.put, List.setIfInBounds_toArray, List.set_cons_zero, List.set_cons_succ]
      refine uTake (i := 6) (some 40) (v := ?_) rfl rfl (by kernel_rfl) (by kernel_rfl) (by kernel_rfl) (by kernel_rfl) (fun _ _ _ h => h) (by rfl) (by assumption) ?_ ?_
      rotate_left
      · (intro wS hSw; (try dsimp only at hSw); go_simp; try with_reducible rfl)
      try simp only [Act.put, List.setIfInBounds_toArray, List.set_cons_zero, List.set_cons_succ]
      refine uTake (i := 7) (some 41) (v := ?_) rfl rfl (by kernel_rfl) (by kernel_rfl) (by kernel_rfl) (by kernel_rfl) (fun _ _ _ h => h) (by rfl) (by assumption) ?_ ?_
      rotate_left
      · (intro wS hSw; (try dsimp only at hSw); go_simp; try with_reducible rfl)
      try simp only [Act.put, List.setIfInBounds_toArray, List.set_cons_zero, List.set_cons_succ]
      refine uTake (i := 8) (some 42) (v := ?_) rfl rfl (by kernel_rfl) (by kernel_rfl) (by kernel_rfl) (by kernel_rfl) (fun _ _ _ h => h) (by rfl) (by assumption) ?_ ?_
      rotate_left
      · (intro wS hSw; (try dsimp only at hSw); go_simp; try with_reducible rfl)
      try simp only [Act.put, List.setIfInBounds_toArray, List.set_cons_zero, List.set_cons_succ]
      refine uTake (i := 11) (some 45) (v := ?_) rfl rfl (by kernel_rfl) (by kernel_rfl) (by kernel_rfl) (by kernel_rfl) (fun _ _ _ h => h) (by rfl) (by assumption) ?_ ?_
      rotate_left
      · (intro wS hSw; (try dsimp only at hSw); go_simp; try with_reducible rfl)
      try simp only [Act.put, List.setIfInBounds_toArray, List.set_cons_zero, List.set_cons_succ]
      refine uTake (i := 12) (some 46) (v := ?_) rfl rfl (by kernel_rfl) (by kernel_rfl) (by kernel_rfl) (by kernel_rfl) (fun _ _ _ h => h) (by rfl) (by assumption) ?_ ?_
      rotate_left
      · (intro wS hSw; (try dsimp only at hSw); go_simp; try with_reducible rfl)
      try simp only [Act.put, List.setIfInBounds_toArray, List.set_cons_zero, List.set_cons_succ]
      refine uTake (i := 13) (some 47) (v := ?_) rfl rfl (by kernel_rfl) (by kernel_rfl) (by kernel_rfl) (by kernel_rfl) (fun _ _ _ h => h) (by rfl) (by assumption) ?_ ?_
      rotate_left
      · (intro wS hSw; (try dsimp only at hSw); go_simp; try with_reducible rfl)
      try simp only [Act.put, List.setIfInBounds_toArray, List.set_cons_zero, List.set_cons_succ]
      refine uTake (i := 14) (some 48) (v := ?_) rfl rfl (by kernel_rfl) (by kernel_rfl) (by kernel_rfl) (by kernel_rfl) (fun _ _ _ h => h) (by rfl) (by assumption) ?_ ?_
      rotate_left
      · (intro wS hSw; (try dsimp only at hSw); go_simp; try with_reducible rfl)
      try simp only [Act.put, List.setIfInBounds_toArray, List.set_cons_zero, List.set_cons_succ]
      refine uReady (rs := [9]) (by kernel_rfl) (by simp) ?_
      refine ReadyU.cons rfl (fun KK hKK => ?_) ReadyU.nil
      go_simp
      refine (eval_c (E6.out.fc 2 rfl) HL.out.2.1 hxq HT.out (by have := HL.out.1; omega)).mono ?_
      rintro e w3 ⟨rfl, hb⟩
      have E7 : Hid (Env D w [] [.ce yab (yao + k) (.int .i64 (b[k] : Nat)), .ce xab (xao + k) (.int .i64 (a[k] : Nat)), .rw (.slice ua u.length uk) u.length 1 (ncl u), .rw (.slice va v.length vk) v.length 1 (ncl v), .rw (.slice (some ⟨yab, yao, none⟩) b.length yk) b.length 1 (ncl b), .rw (.slice (some ⟨xab, xao, none⟩) a.length xk) a.length 1 (ncl a)] w3) := Lib.hid (E6.out.below hb)
      clear E6 hb
      (try dsimp only)
      clear hHeld
      refine hKK.out _ _ ((E7.out.fc 0 rfl).2) (fun hHeld => ?_)
      clear hKK KK
      try simp only [Act.put, List.setIfInBounds_toArray, List.set_cons_zero, List.set_cons_succ]
      refine uReady (rs := [10]) (by kernel_rfl) (by simp) ?_
      refine ReadyU.cons rfl (fun KK hKK => ?_) ReadyU.nil
      go_simp
      refine (polsub_c q b[k] (evN q a[k] u) _ hyq heu HT.out).mono ?_
      rintro e w4 ⟨⟨s1, s1h, rfl⟩, hb⟩
      have E8 : Hid (Env D w [] [.ce yab (yao + k) (.int .i64 (b[k] : Nat)), .ce xab (xao + k) (.int .i64 (a[k] : Nat)), .rw (.slice ua u.length uk) u.length 1 (ncl u), .rw (.slice va v.length vk) v.length 1 (ncl v), .rw (.slice (some ⟨yab, yao, none⟩) b.length yk) b.length 1 (ncl b), .rw (.slice (some ⟨xab, xao, none⟩) a.length xk) a.length 1 (ncl a)] w4) := Lib.hid (E7.out.below hb)
      clear E7 hb
      have s1q : (s1 : Int) < (q : Int) := by rw [s1h.out]; exact Int.ofNat_lt.2 (Nat.mod_lt _ HQ.out)
      (try dsimp only)
      clear hHeld
      refine hKK.out _ _ ((E8.out.fc 0 rfl).2) (fun hHeld => ?_)
      clear hKK KK
      try simp only [Act.put, List.setIfInBounds_toArray, List.set_cons_zero, List.set_cons_succ]
      refine uReady (rs := [15]) (by kernel_rfl) (by simp) ?_
      refine ReadyU.cons rfl (fun KK hKK => ?_) ReadyU.nil
      go_simp
      refine (eval_c (E8.out.fc 3 rfl) HL.out.2.2 hxq HT.out (by have := HL.out.1; omega)).mono ?_
      rintro e w5 ⟨rfl, hb⟩
      have E9 : Hid (Env D w [] [.ce yab (yao + k) (.int .i64 (b[k] : Nat)), .ce xab (xao + k) (.int .i64 (a[k] : Nat)), .rw (.slice ua u.length uk) u.length 1 (ncl u), .rw (.slice va v.length vk) v.length 1 (ncl v), .rw (.slice (some ⟨yab, yao, none⟩) b.length yk) b.length 1 (ncl b), .rw (.slice (some ⟨xab, xao, none⟩) a.length xk) a.length 1 (ncl a)] w5) := Lib.hid (E8.out.below hb)
      clear E8 hb
      (try dsimp only)
      clear hHeld
      refine hKK.out _ _ ((E9.out.fc 0 rfl).2) (fun hHeld => ?_)
      clear hKK KK
      try simp only [Act.put, List.setIfInBounds_toArray, List.set_cons_zero, List.set_cons_succ]
      refine uReady (rs := [16]) (by kernel_rfl) (by simp) ?_
      refine ReadyU.cons rfl (fun KK hKK => ?_) ReadyU.nil
      go_simp
      refine (polinv_c q (evN q a[k] v) _ hev HT.out HGC.out).mono ?_
      rintro e w6 ⟨⟨r1, r1h, rfl⟩, hb⟩
      have E10 : Hid (Env D w [] [.ce yab (yao + k) (.int .i64 (b[k] : Nat)), .ce xab (xao + k) (.int .i64 (a[k] : Nat)), .rw (.slice ua u.length uk) u.length 1 (ncl u), .rw (.slice va v.length vk) v.length 1 (ncl v), .rw (.slice (some ⟨yab, yao, none⟩) b.length yk) b.length 1 (ncl b), .rw (.slice (some ⟨xab, xao, none⟩) a.length xk) a.length 1 (ncl a)] w6) := Lib.hid (E9.out.below hb)
      clear E9 hb
      have r1q : (r1 : Int) < (q : Int) := Int.ofNat_lt.2 r1h.out.1
      (try dsimp only)
      clear hHeld
      refine hKK.out _ _ ((E10.out.fc 0 rfl).2) (fun hHeld => ?_)
      clear hKK KK
      try simp only [Act.put, List.setIfInBounds_toArray, List.set_cons_zero, List.set_cons_succ]
      refine uReady (rs := [17]) (by kernel_rfl) (by simp) ?_
      refine ReadyU.cons rfl (fun KK hKK => ?_) ReadyU.nil
      go_simp
      refine (polmulB q s1 r1 _ s1q r1q HT.out).mono ?_
      rintro e w7 ⟨⟨c1, c1h, rfl⟩, hb⟩
      have E11 : Hid (Env D w [] [.ce yab (yao + k) (.int .i64 (b[k] : Nat)), .ce xab (xao + k) (.int .i64 (a[k] : Nat)), .rw (.slice ua u.length uk) u.length 1 (ncl u), .rw (.slice va v.length vk) v.length 1 (ncl v), .rw (.slice (some ⟨yab, yao, none⟩) b.length yk) b.length 1 (ncl b), .rw (.slice (some ⟨xab, xao, none⟩) a.length xk) a.length 1 (ncl a)] w7) := Lib.hid (E10.out.below hb)
      clear E10 hb
      have c1q : (c1 : Int) < (q : Int) := by rw [c1h.out]; exact Int.ofNat_lt.2 (Nat.mod_lt _ HQ.out)
      (try dsimp only)
      clear hHeld
      refine hKK.out _ _ ((E11.out.fc 0 rfl).2) (fun hHeld => ?_)
      clear hKK KK
      try simp only [Act.put, List.setIfInBounds_toArray, List.set_cons_zero, List.set_cons_succ]
      refine uTake (i := 18) (some 13) (v := ?_) rfl rfl (by kernel_rfl) (by kernel_rfl) (by kernel_rfl) (by kernel_rfl) (fun _ _ _ h => h) (by rfl) (by assumption) ?_ ?_
      rotate_left
      · (intro wS hSw; (try dsimp only at hSw); go_simp; try with_reducible rfl)
      try simp only [Act.put, List.setIfInBounds_toArray, List.set_cons_zero, List.set_cons_succ]
      refine uDone (by kernel_rfl) ?_ _
      have E12 : Hid (Env D w [(w7.heap.size, 3, [.int .i64 (c1 : Nat)])] [.ce yab (yao + k) (.int .i64 (b[k] : Nat)), .ce xab (xao + k) (.int .i64 (a[k] : Nat)), .rw (.slice ua u.length uk) u.length 1 (ncl u), .rw (.slice va v.length vk) v.length 1 (ncl v), .rw (.slice (some ⟨yab, yao, none⟩) b.length yk) b.length 1 (ncl b), .rw (.slice (some ⟨xab, xao, none⟩) a.length xk) a.length 1 (ncl a)] _) := Lib.hid ((E11.out.push 3 [.int .i64 (c1 : Nat)] (w7.heap.size) (by simp)))
      go_wp2_with fail
      refine (product_c q [c1] v (Rw.boxP (o := [c1]) (E12.out.bx 0 rfl) (Nat.le_refl _) (by simp)) (Rw.tr (E12.out.fc 3 rfl)) HQ.out HT.out (fun c hc => by rw [List.mem_singleton.1 hc, c1h.out]; exact Nat.mod_lt _ HQ.out) HL.out.2.2 (by simp) (by have := HL.out.1; omega)).mono ?_
      rintro e w8 ⟨⟨ma, mk, rfl, mh⟩, hb⟩
      have E13 : Hid (Env D w [(w7.heap.size, 3, [.int .i64 (c1 : Nat)])] [.rw (.slice ma (trimN (mulL q [c1] v)).length mk) (trimN (mulL q [c1] v)).length 1 (ncl (trimN (mulL q [c1] v))), .ce yab (yao + k) (.int .i64 (b[k] : Nat)), .ce xab (xao + k) (.int .i64 (a[k] : Nat)), .rw (.slice ua u.length uk) u.length 1 (ncl u), .rw (.slice va v.length vk) v.length 1 (ncl v), .rw (.slice (some ⟨yab, yao, none⟩) b.length yk) b.length 1 (ncl b), .rw (.slice (some ⟨xab, xao, none⟩) a.length xk) a.length 1 (ncl a)] w8) := Lib.hid (E12.out.got (E12.out.below hb) (.rw (.slice ma (trimN (mulL q [c1] v)).length mk) (trimN (mulL q [c1] v)).length 1 (ncl (trimN (mulL q [c1] v)))) (Lib.hid (Rw.ge mh.out)).out)
      clear E11 E12 hb
      go_wp2_with fail
      refine (sum_c q u (trimN (mulL q [c1] v)) (E13.out.fc 3 rfl) (E13.out.fc 0 rfl) HQ.out HT.out HL.out.2.1 (trimN_lt (mulL_lt HQ.out _ _)) (by have := HL.out.1; omega) (Nat.le_trans (trimN_len _) (Nat.le_trans (mulL_le _ _ _) (by have := HL.out.1; simp only [List.length_cons, List.length_nil]; omega)))).mono ?_
      rintro e w9 ⟨⟨za, zk, rfl, zh⟩, hb⟩
      have E14 : Hid (Env D w [(w7.heap.size, 3, [.int .i64 (c1 : Nat)])] [.rw (.slice za (trimN (addL q u (trimN (mulL q [c1] v)))).length zk) (trimN (addL q u (trimN (mulL q [c1] v)))).length 1 (ncl (trimN (addL q u (trimN (mulL q [c1] v))))), .rw (.slice ma (trimN (mulL q [c1] v)).length mk) (trimN (mulL q [c1] v)).length 1 (ncl (trimN (mulL q [c1] v))), .ce yab (yao + k) (.int .i64 (b[k] : Nat)), .ce xab (xao + k) (.int .i64 (a[k] : Nat)), .rw (.slice ua u.length uk) u.length 1 (ncl u), .rw (.slice va v.length vk) v.length 1 (ncl v), .rw (.slice (some ⟨yab, yao, none⟩) b.length yk) b.length 1 (ncl b), .rw (.slice (some ⟨xab, xao, none⟩) a.length xk) a.length 1 (ncl a)] w9) := Lib.hid (E13.out.got (E13.out.below hb) (.rw (.slice za (trimN (addL q u (trimN (mulL q [c1] v)))).length zk) (trimN (addL q u (trimN (mulL q [c1] v)))).length 1 (ncl (trimN (addL q u (trimN (mulL q [c1] v)))))) (Lib.hid (Rw.ge zh.out)).out)
      clear E13 hb
      go_wp2_with fail
      refine (polsub_c q 0 a[k] _ (by have := HQ.out; omega) hxq HT.out).mono ?_
      rintro e w10 ⟨⟨s2, s2h, rfl⟩, hb⟩
      have E15 : Hid (Env D w [(w7.heap.size, 3, [.int .i64 (c1 : Nat)])] [.rw (.slice za (trimN (addL q u (trimN (mulL q [c1] v)))).length zk) (trimN (addL q u (trimN (mulL q [c1] v)))).length 1 (ncl (trimN (addL q u (trimN (mulL q [c1] v))))), .rw (.slice ma (trimN (mulL q [c1] v)).length mk) (trimN (mulL q [c1] v)).length 1 (ncl (trimN (mulL q [c1] v))), .ce yab (yao + k) (.int .i64 (b[k] : Nat)), .ce xab (xao + k) (.int .i64 (a[k] : Nat)), .rw (.slice ua u.length uk) u.length 1 (ncl u), .rw (.slice va v.length vk) v.length 1 (ncl v), .rw (.slice (some ⟨yab, yao, none⟩) b.length yk) b.length 1 (ncl b), .rw (.slice (some ⟨xab, xao, none⟩) a.length xk) a.length 1 (ncl a)] w10) := Lib.hid (E14.out.below hb)
      clear E14 hb
      have s2q : (s2 : Int) < (q : Int) := by rw [s2h.out]; exact Int.ofNat_lt.2 (Nat.mod_lt _ HQ.out)
      have E16 : Hid (Env D w [(w10.heap.size, 3, [.int .i64 (s2 : Nat), .int .i64 1]), (w7.heap.size, 3, [.int .i64 (c1 : Nat)])] [.rw (.slice za (trimN (addL q u (trimN (mulL q [c1] v)))).length zk) (trimN (addL q u (trimN (mulL q [c1] v)))).length 1 (ncl (trimN (addL q u (trimN (mulL q [c1] v))))), .rw (.slice ma (trimN (mulL q [c1] v)).length mk) (trimN (mulL q [c1] v)).length 1 (ncl (trimN (mulL q [c1] v))), .ce yab (yao + k) (.int .i64 (b[k] : Nat)), .ce xab (xao + k) (.int .i64 (a[k] : Nat)), .rw (.slice ua u.length uk) u.length 1 (ncl u), .rw (.slice va v.length vk) v.length 1 (ncl v), .rw (.slice (some ⟨yab, yao, none⟩) b.length yk) b.length 1 (ncl b), .rw (.slice (some ⟨xab, xao, none⟩) a.length xk) a.length 1 (ncl a)] _) := Lib.hid ((E15.out.push 3 [.int .i64 (s2 : Nat), .int .i64 1] (w10.heap.size) (by simp)))
      go_wp2_with fail
      refine (product_c q v [s2, 1] (Rw.tr (E16.out.fc 5 rfl)) (Rw.boxP (o := [s2, 1]) (E16.out.bx 0 rfl) (Nat.le_refl _) (by simp)) HQ.out HT.out HL.out.2.2 (fun c hc => by rcases List.mem_cons.1 hc with h | h; (· rw [h, s2h.out]; exact Nat.mod_lt _ HQ.out); rw [List.mem_singleton.1 h]; exact HQ1.out) (by have := HL.out.1; omega) (by simp)).mono ?_
      rintro e w11 ⟨⟨ta, tk, rfl, th⟩, hb⟩
      have E17 : Hid (Env D w [(w10.heap.size, 3, [.int .i64 (s2 : Nat), .int .i64 1]), (w7.heap.size, 3, [.int .i64 (c1 : Nat)])] [.rw (.slice ta (trimN (mulL q v [s2, 1])).length tk) (trimN (mulL q v [s2, 1])).length 1 (ncl (trimN (mulL q v [s2, 1]))), .rw (.slice za (trimN (addL q u (trimN (mulL q [c1] v)))).length zk) (trimN (addL q u (trimN (mulL q [c1] v)))).length 1 (ncl (trimN (addL q u (trimN (mulL q [c1] v))))), .rw (.slice ma (trimN (mulL q [c1] v)).length mk) (trimN (mulL q [c1] v)).length 1 (ncl (trimN (mulL q [c1] v))), .ce yab (yao + k) (.int .i64 (b[k] : Nat)), .ce xab (xao + k) (.int .i64 (a[k] : Nat)), .rw (.slice ua u.length uk) u.length 1 (ncl u), .rw (.slice va v.length vk) v.length 1 (ncl v), .rw (.slice (some ⟨yab, yao, none⟩) b.length yk) b.length 1 (ncl b), .rw (.slice (some ⟨xab, xao, none⟩) a.length xk) a.length 1 (ncl a)] w11) := Lib.hid (E16.out.got (E16.out.below hb) (.rw (.slice ta (trimN (mulL q v [s2, 1])).length tk) (trimN (mulL q v [s2, 1])).length 1 (ncl (trimN (mulL q v [s2, 1])))) (Lib.hid (Rw.ge th.out)).out)
      clear E15 E16 hb
      have HIT : Hid (ItR q a b (k + 1) (trimN (addL q u (trimN (mulL q [c1] v)))) (trimN (mulL q v [s2, 1]))) := Lib.hid ⟨u, v, r1, HS.out, r1h.out.1, by rw [HGA.out]; exact r1h.out.2, by rw [c1h.out, s1h.out, HGA.out, HGB.out], by rw [s2h.out, HGA.out]⟩
      have EY := Lib.hid ((E17.out.drop).drop)
      have EZ := Lib.hid (⟨EY.out.bel, EY.out.box, EY.out.fc 1 rfl, EY.out.fc 0 rfl, EY.out.fc 7 rfl, EY.out.fc 8 rfl, trivial⟩ : Env D w [] [.rw (.slice za (trimN (addL q u (trimN (mulL q [c1] v)))).length zk) (trimN (addL q u (trimN (mulL q [c1] v)))).length 1 (ncl (trimN (addL q u (trimN (mulL q [c1] v))))), .rw (.slice ta (trimN (mulL q v [s2, 1])).length tk) (trimN (mulL q v [s2, 1])).length 1 (ncl (trimN (mulL q v [s2, 1]))), .rw (.slice (some ⟨yab, yao, none⟩) b.length yk) b.length 1 (ncl b), .rw (.slice (some ⟨xab, xao, none⟩) a.length xk) a.length 1 (ncl a)] _)
      go_wp2
      go_roundg (a.length - (k + 1))
      case rel => exact ⟨k + 1, za, zk, trimN (addL q u (trimN (mulL q [c1] v))), ta, tk, trimN (mulL q v [s2, 1]), rfl, rfl, rfl, EZ, Lib.hid ⟨⟨by omega, rfl⟩, HIT.out⟩⟩
      case measure => exact by omega
    have t6 : decide ((k : Int) < (a.length : Int)) = false := decide_eq_false (by omega)
    have t7 : decide (k < a.length) = false := decide_eq_false (by omega)
    have HD : Hid (ItR q a b a.length u v) := Lib.hid (by rw [← hy]; exact HS.out)
    have HY := Lib.hid hy
    clear hy
    have hres := Lib.hid (Rw.tr (EL.out.fc 0 rfl))
    have hbel := Lib.hid EL.out.bel
    go_wp2
    go_ret2
    exact ⟨⟨u, v, HD, ua, uk, rfl, hres⟩, hbel.out⟩
end Go.Proofs.YteipbcpnnojclaaDoor

/- poly: the examples of layer 13. -/
namespace Go.Proofs.YteipbcpnnojclaaDoor
open Go.RowKit DivMath WordMath
set_option linter.unusedVariables false
set_option linter.unusedSimpArgs false
theorem field11 : fieldB 11 = true := by decide +kernel
theorem valid11 : validB ((11 : Nat) : Int) [nl [3, 2]] = true := by decide +kernel
theorem ex_eval {D : Nat → Prop} {xa : Option Addr} {xk : Nat} {w : World} (hx : Fct.at w D (.rw (.slice xa [3, 2].length xk) [3, 2].length 1 (ncl [3, 2]))) (hl : Laid w) :
    Calls Tryd.prog 22 #[.int .i64 11, .slice xa 2 xk, .int .i64 2] w fun e w' => e = .returned (.tuple #[.int .i64 7, .int .i64 0]) ∧ Below w.heap.size w w' :=
  Eval_ok 11 [3, 2] 2 hx hl (by unfold Top; omega) valid11 (by simp) (by decide) (by omega)
theorem wts_eq : ∀ o : List Nat, o.length = 2 → (∀ i, i < 2 → WR 11 0 [1, 2] i (o.getD i 0)) → o = [2, 10] := by
  intro o h1 h2
  match o, h1 with
  | [x, y], _ =>
    obtain ⟨r, hr, hr2, hx⟩ := h2 0 (by omega)
    obtain ⟨s, hs, hs2, hy⟩ := h2 1 (by omega)
    have e1 : ∀ r, r < 11 → wM 11 ([1, 2].getD 0 0) [1, 2] 0 [1, 2].length * r % 11 = 1 % 11 → wM 11 0 [1, 2] 0 [1, 2].length * r % 11 = 2 := by decide
    have e2 : ∀ r, r < 11 → wM 11 ([1, 2].getD 1 0) [1, 2] 1 [1, 2].length * r % 11 = 1 % 11 → wM 11 0 [1, 2] 1 [1, 2].length * r % 11 = 10 := by decide
    rw [e1 r hr hr2] at hx
    rw [e2 s hs hs2] at hy
    simp at hx hy
    rw [hx, hy]
theorem ex_wts {D : Nat → Prop} {xa : Option Addr} {xk : Nat} {w : World} (hx : Fct.at w D (.rw (.slice xa [1, 2].length xk) [1, 2].length 1 (ncl [1, 2]))) (hl : Laid w) :
    Calls Tryd.prog 15 #[.int .i64 11, .slice xa 2 xk, .int .i64 0] w fun e w' => RetIE (fun b => w.heap.size ≤ b) [2, 10] 0 e w' ∧ Below w.heap.size w w' :=
  (Weights_ok 11 [1, 2] 0 hx hl (by unfold Top; omega) (by omega) field11 (by simp) (by decide) (by omega) (by decide) (by decide)).mono fun e w' ⟨⟨o, ho, hr⟩, hb⟩ => by
    obtain rfl := wts_eq o ho.out.1 ho.out.2
    exact ⟨hr, hb⟩
theorem itp0 {u v : List Nat} (h : ItR 11 [1, 2] [5, 7] 1 u v) : u = [5] ∧ v = [10, 1] := by
  obtain ⟨u0, v0, r, ⟨rfl, rfl⟩, hr, he, rfl, rfl⟩ := h
  have e : ∀ r, r < 11 → evN 11 ([1, 2].getD 0 0) [1] * r % 11 = 1 % 11 → r = 1 := by decide
  obtain rfl := e r hr he
  decide
theorem itp1 {u v : List Nat} (h : ItR 11 [1, 2] [5, 7] 2 u v) : u = [3, 2] := by
  obtain ⟨u0, v0, r, h0, hr, he, rfl, rfl⟩ := h
  obtain ⟨rfl, rfl⟩ := itp0 h0
  have e : ∀ r, r < 11 → evN 11 ([1, 2].getD 1 0) [10, 1] * r % 11 = 1 % 11 → r = 1 := by decide
  obtain rfl := e r hr he
  decide
theorem itpg : ∀ k u v, k < [1, 2].length → ItR 11 [1, 2] [5, 7] k u v → Nat.gcd (evN 11 ([1, 2].getD k 0) v) 11 = 1 := by
  intro k u v hk h
  match k, hk with
  | 0, _ => obtain ⟨rfl, rfl⟩ := h; decide
  | 1, _ => obtain ⟨rfl, rfl⟩ := itp0 h; decide
theorem ex_itp {D : Nat → Prop} {xa ya : Option Addr} {xk yk : Nat} {w : World} (hx : Fct.at w D (.rw (.slice xa [1, 2].length xk) [1, 2].length 1 (ncl [1, 2]))) (hy : Fct.at w D (.rw (.slice ya [5, 7].length yk) [5, 7].length 1 (ncl [5, 7]))) (hl : Laid w) :
    Calls Tryd.prog 14 #[.int .i64 11, .slice xa 2 xk, .slice ya 2 yk] w fun e w' => RetIE (fun _ => True) [3, 2] 0 e w' ∧ Below w.heap.size w w' :=
  (Interpolate_ok 11 [1, 2] [5, 7] hx hy hl (by unfold Top; omega) (by omega) field11 rfl (by simp) (by decide) (by decide) (by decide) itpg).mono fun e w' ⟨⟨u, v, hu, hr⟩, hb⟩ => by
    obtain rfl := itp1 hu.out
    exact ⟨hr, hb⟩
set_option maxRecDepth 100000 in
set_option maxHeartbeats 4000000 in
theorem awake13_c  {w : World}  (hl0 : Laid w) :
    Calls Tryd.prog 13 #[] w fun e w' => e = .returned (.bool true) ∧ Below w.heap.size w w' := by
  have E0 : Hid (Env (fun _ : Nat => True) w [] [] w) := Lib.hid (Env.start (fun _ : Nat => True) w)
  go_enter Tryd.func13, Tryd.ntmps13
  have hl := Lib.hid hl0
  clear hl0
  have E1 : Hid (Env (fun _ : Nat => True) w [(w.heap.size, 3, [.int .i64 3, .int .i64 2])] [] _) := Lib.hid ((E0.out.push 3 [.int .i64 3, .int .i64 2] (w.heap.size) (by simp)))
  go_wp2_with fail
  refine (ex_eval (Rw.boxP (o := [3, 2]) (E1.out.bx 0 rfl) (Nat.le_refl _) (by simp)) (hl.out.below E1.out.bel)).mono ?_
  rintro e w1 ⟨rfl, hb⟩
  have E2 : Hid (Env (fun _ : Nat => True) w [(w.heap.size, 3, [.int .i64 3, .int .i64 2])] [] w1) := Lib.hid (E1.out.below hb)
  clear E0 E1 hb
  have E3 : Hid (Env (fun _ : Nat => True) w [(w1.heap.size, 3, [.int .i64 1, .int .i64 2]), (w.heap.size, 3, [.int .i64 3, .int .i64 2])] [] _) := Lib.hid ((E2.out.push 3 [.int .i64 1, .int .i64 2] (w1.heap.size) (by simp)))
  go_wp2_with fail
  refine (ex_wts (Rw.boxP (o := [1, 2]) (E3.out.bx 0 rfl) (Nat.le_refl _) (by simp)) (hl.out.below E3.out.bel)).mono ?_
  rintro e w2 ⟨⟨ya, yk, rfl, yh⟩, hb⟩
  have E4 : Hid (Env (fun _ : Nat => True) w [(w1.heap.size, 3, [.int .i64 1, .int .i64 2]), (w.heap.size, 3, [.int .i64 3, .int .i64 2])] [.rw (.slice ya ([2, 10]).length yk) ([2, 10]).length 1 (ncl ([2, 10]))] w2) := Lib.hid (E3.out.got (E3.out.below hb) (.rw (.slice ya ([2, 10]).length yk) ([2, 10]).length 1 (ncl ([2, 10]))) (Lib.hid (Rw.ge yh.out)).out)
  clear E2 E3 hb
  have E5 : Hid (Env (fun _ : Nat => True) w [(w2.heap.size + 1, 3, [.int .i64 5, .int .i64 7]), (w2.heap.size, 3, [.int .i64 1, .int .i64 2]), (w1.heap.size, 3, [.int .i64 1, .int .i64 2]), (w.heap.size, 3, [.int .i64 3, .int .i64 2])] [.rw (.slice ya ([2, 10]).length yk) ([2, 10]).length 1 (ncl ([2, 10]))] _) := Lib.hid (((E4.out.push 3 [.int .i64 1, .int .i64 2] (w2.heap.size) (by simp)).push 3 [.int .i64 5, .int .i64 7] (w2.heap.size + 1) (by simp)))
  go_wp2_with fail
  refine (ex_itp (Rw.boxP (o := [1, 2]) (E5.out.bx 1 rfl) (Nat.le_refl _) (by simp)) (Rw.boxP (o := [5, 7]) (E5.out.bx 0 rfl) (Nat.le_refl _) (by simp)) (hl.out.below E5.out.bel)).mono ?_
  rintro e w3 ⟨⟨za, zk, rfl, zh⟩, hb⟩
  have E6 : Hid (Env (fun _ : Nat => True) w [(w2.heap.size + 1, 3, [.int .i64 5, .int .i64 7]), (w2.heap.size, 3, [.int .i64 1, .int .i64 2]), (w1.heap.size, 3, [.int .i64 1, .int .i64 2]), (w.heap.size, 3, [.int .i64 3, .int .i64 2])] [.rw (.slice ya ([2, 10]).length yk) ([2, 10]).length 1 (ncl ([2, 10]))] w3) := Lib.hid (E5.out.below hb)
  clear E4 E5 hb
  have E7 : Hid (Env (fun _ : Nat => True) w [] [.rw (.slice za [3, 2].length zk) [3, 2].length 1 (ncl [3, 2]), .rw (.slice ya ([2, 10]).length yk) ([2, 10]).length 1 (ncl ([2, 10]))] _) := Lib.hid ((E6.out.drop.drop.drop.drop).note _ (Rw.turn zh.out (Nat.le_refl _) (fun b _ _ => ⟨by simp, .inl trivial⟩) (fun _ _ _ _ => rfl)))
  clear E6 zh
  have E8 : Hid (Env (fun _ : Nat => True) w [(w3.heap.size, 3, [.int .i64 2, .int .i64 10])] [.rw (.slice za [3, 2].length zk) [3, 2].length 1 (ncl [3, 2]), .rw (.slice ya ([2, 10]).length yk) ([2, 10]).length 1 (ncl ([2, 10]))] _) := Lib.hid ((E7.out.push 3 [.int .i64 2, .int .i64 10] (w3.heap.size) (by simp)))
  go_wp2_with fail
  refine (equalN_c (t := true) (a := [2, 10]) (b := [2, 10]) (Rw.tr (E8.out.fc 1 rfl)) (Rw.boxP (o := [2, 10]) (E8.out.bx 0 rfl) (Nat.le_refl _) (by simp)) (by simp) (by simp) (by decide)).mono ?_
  rintro e w4 ⟨rfl, hb⟩
  have E9 : Hid (Env (fun _ : Nat => True) w [(w3.heap.size, 3, [.int .i64 2, .int .i64 10])] [.rw (.slice za [3, 2].length zk) [3, 2].length 1 (ncl [3, 2]), .rw (.slice ya ([2, 10]).length yk) ([2, 10]).length 1 (ncl ([2, 10]))] w4) := Lib.hid (E8.out.below hb)
  clear E7 E8 hb
  have E10 : Hid (Env (fun _ : Nat => True) w [(w4.heap.size, 3, [.int .i64 3, .int .i64 2]), (w3.heap.size, 3, [.int .i64 2, .int .i64 10])] [.rw (.slice za [3, 2].length zk) [3, 2].length 1 (ncl [3, 2]), .rw (.slice ya ([2, 10]).length yk) ([2, 10]).length 1 (ncl ([2, 10]))] _) := Lib.hid ((E9.out.push 3 [.int .i64 3, .int .i64 2] (w4.heap.size) (by simp)))
  go_wp2_with fail
  refine (equalN_c (t := true) (a := [3, 2]) (b := [3, 2]) (Rw.tr (E10.out.fc 0 rfl)) (Rw.boxP (o := [3, 2]) (E10.out.bx 0 rfl) (Nat.le_refl _) (by simp)) (by simp) (by simp) (by decide)).mono ?_
  rintro e w5 ⟨rfl, hb⟩
  have E11 : Hid (Env (fun _ : Nat => True) w [(w4.heap.size, 3, [.int .i64 3, .int .i64 2]), (w3.heap.size, 3, [.int .i64 2, .int .i64 10])] [.rw (.slice za [3, 2].length zk) [3, 2].length 1 (ncl [3, 2]), .rw (.slice ya ([2, 10]).length yk) ([2, 10]).length 1 (ncl ([2, 10]))] w5) := Lib.hid (E10.out.below hb)
  clear E9 E10 hb
  have hfin := Lib.hid E11.out.bel
  go_wp2
  go_ret
  exact ⟨rfl, hfin.out⟩
end Go.Proofs.YteipbcpnnojclaaDoor

/- Values of sums and products of polynomials: plain laws. -/
namespace Go.Proofs.YteipbcpnnojclaaDoor
open Go.RowKit DivMath WordMath
set_option linter.unusedVariables false
namespace Pv
/-- a and b have the same rest -/
def Cg (q a b : Nat) : Prop := a % q = b % q
theorem Cg.refl {q a : Nat} : Cg q a a := rfl
theorem Cg.symm {q a b : Nat} (h : Cg q a b) : Cg q b a := Eq.symm h
theorem Cg.trans {q a b c : Nat} (h : Cg q a b) (h2 : Cg q b c) : Cg q a c := Eq.trans h h2
theorem Cg.add {q a b c d : Nat} (h : Cg q a b) (h2 : Cg q c d) : Cg q (a + c) (b + d) := by unfold Cg at *; rw [Nat.add_mod, h, h2, ← Nat.add_mod]
theorem Cg.mul {q a b c d : Nat} (h : Cg q a b) (h2 : Cg q c d) : Cg q (a * c) (b * d) := by unfold Cg at *; rw [Nat.mul_mod, h, h2, ← Nat.mul_mod]
theorem Cg.mod {q a : Nat} : Cg q (a % q) a := Nat.mod_mod _ _
/-- the value, no rest taken -/
def pv (x : Nat) : List Nat → Nat
  | [] => 0
  | c :: l => c + x * pv x l
theorem evN_pv (q x : Nat) : ∀ l, evN q x l = pv x l % q
  | [] => by simp [evN, pv]
  | c :: l => by
    rw [evN, evN_pv q x l, pv]
    refine (Cg.add (Cg.mod.trans ?_) Cg.refl : Cg q _ (x * pv x l + c)).trans ?_
    · rw [Nat.mul_comm x]; exact Cg.mul Cg.mod Cg.refl
    · rw [Nat.add_comm]; exact Cg.refl
theorem pv_app (x : Nat) : ∀ a b, pv x (a ++ b) = pv x a + x ^ a.length * pv x b
  | [], b => by simp [pv]
  | c :: a, b => by
    rw [List.cons_append, pv, pv_app x a b, pv, List.length_cons, Nat.pow_succ, Nat.mul_add, Nat.mul_comm (x ^ a.length) x, Nat.mul_assoc, Nat.add_assoc]
theorem pv_trim (x : Nat) (l : List Nat) : pv x (trimN l) = pv x l := by
  suffices h : ∀ n, ∀ l : List Nat, l.length = n → pv x (trimN l) = pv x l from h _ l rfl
  intro n
  induction n with
  | zero => intro l h; rw [List.length_eq_zero_iff.1 h]; rfl
  | succ n ih =>
    intro l h
    have e : l = l.take n ++ [l[n]] := by
      have := take_pred (l := l) (n := n + 1) (by omega) (by omega)
      rw [List.take_of_length_le (by omega)] at this
      simpa using this
    rw [e, trimN_snoc]
    split
    · rename_i h0
      rw [ih _ (by simp; omega), pv_app, h0]
      simp [pv]
    · rfl
/-- a list's value by its places -/
def sm (x : Nat) (f : Nat → Nat) : Nat → Nat
  | 0 => 0
  | n + 1 => sm x f n + f n * x ^ n
theorem sm_pv (x : Nat) (l : List Nat) : ∀ n, sm x (fun i => l.getD i 0) n = pv x (l.take n)
  | 0 => by simp [sm, pv]
  | n + 1 => by
    rw [sm, sm_pv x l n, List.take_add_one]
    by_cases h : n < l.length
    · rw [List.getElem?_eq_getElem h, getD_elem h, pv_app]
      have : (l.take n).length = n := by simp; omega
      simp [pv, this, Nat.mul_comm]
    · rw [List.getElem?_eq_none (by omega)]
      have : l.getD n 0 = 0 := by rw [List.getD_eq_getElem?_getD, List.getElem?_eq_none (by omega)]; rfl
      rw [this]; simp
theorem sm_all (x : Nat) (l : List Nat) (n : Nat) (h : l.length ≤ n) : sm x (fun i => l.getD i 0) n = pv x l := by rw [sm_pv, List.take_of_length_le h]
theorem sm_cg {q x : Nat} {f g h : Nat → Nat} : ∀ n, (∀ i, i < n → f i = (g i + h i) % q) → Cg q (sm x f n) (sm x g n + sm x h n)
  | 0, _ => Cg.refl
  | n + 1, H => by
    unfold sm
    have h1 := sm_cg (x := x) n fun i hi => H i (by omega)
    rw [H n (by omega)]
    refine (Cg.add h1 (Cg.mul Cg.mod Cg.refl)).trans ?_
    have : sm x g n + sm x h n + (g n + h n) * x ^ n = sm x g n + g n * x ^ n + (sm x h n + h n * x ^ n) := by rw [Nat.add_mul]; omega
    rw [this]; exact Cg.refl
theorem pv_add (q x : Nat) (a b : List Nat) : Cg q (pv x (addL q a b)) (pv x a + pv x b) := by
  have h := sm_cg (q := q) (x := x) (f := fun i => (addL q a b).getD i 0) (g := fun i => a.getD i 0) (h := fun i => b.getD i 0) (max a.length b.length) (fun i hi => by
    show (addL q a b).getD i 0 = _
    rw [getD_elem (by rw [addL_len]; exact hi)]
    simp [addL])
  rw [sm_all x _ _ (by rw [addL_len]; exact Nat.le_refl _), sm_all x _ _ (by omega), sm_all x _ _ (by omega)] at h
  exact h
theorem pv_set (x : Nat) : ∀ (l : List Nat) (j v : Nat) (h : j < l.length), pv x (l.set j v) + l.getD j 0 * x ^ j = pv x l + v * x ^ j
  | [], j, v, h => absurd h (Nat.not_lt_zero _)
  | c :: l, 0, v, _ => by simp [pv]; omega
  | c :: l, j + 1, v, h => by
    have ih := pv_set x l j v (by simp at h; omega)
    have e1 : (c :: l).getD (j + 1) 0 = l.getD j 0 := by simp
    rw [List.set_cons_succ, pv, pv, e1, Nat.pow_succ]
    have h2 : x * (pv x (l.set j v) + l.getD j 0 * x ^ j) = x * (pv x l + v * x ^ j) := by rw [ih]
    rw [Nat.mul_add, Nat.mul_add] at h2
    have h3 : x * (l.getD j 0 * x ^ j) = l.getD j 0 * (x ^ j * x) := by rw [Nat.mul_left_comm, Nat.mul_comm x]
    have h4 : x * (v * x ^ j) = v * (x ^ j * x) := by rw [Nat.mul_left_comm, Nat.mul_comm x]
    omega
theorem Cg.cancel {q a b c : Nat} (h : Cg q (a + c) (b + c)) : Cg q a b := by
  unfold Cg at *
  have h2 : ((a + c : Nat) : Int) % q = ((b + c : Nat) : Int) % q := by exact_mod_cast h
  have h3 : ((a : Int)) % q = (b : Int) % q := by
    have := Int.emod_emod_of_dvd
    have e : ((a : Int) + c - (b + c)) % q = 0 := by
      rw [← Int.emod_eq_emod_iff_emod_sub_eq_zero]; exact_mod_cast h
    apply Int.emod_eq_emod_iff_emod_sub_eq_zero.2
    rw [← e]; congr 1; omega
  exact_mod_cast h3
theorem pv_put {q x : Nat} {o : List Nat} {j u : Nat} (h : j < o.length) : Cg q (pv x (o.set j ((o.getD j 0 + u % q) % q))) (pv x o + u * x ^ j) := by
  refine Cg.cancel (c := o.getD j 0 * x ^ j) ?_
  rw [pv_set x o j _ h]
  refine (Cg.add Cg.refl (Cg.mul (Cg.mod.trans (Cg.add Cg.refl Cg.mod)) Cg.refl)).trans ?_
  have : pv x o + (o.getD j 0 + u) * x ^ j = pv x o + u * x ^ j + o.getD j 0 * x ^ j := by rw [Nat.add_mul]; omega
  rw [this]; exact Cg.refl
theorem pv_row {q x : Nat} {a b : List Nat} {i : Nat} {o : List Nat} : ∀ k, i + k ≤ o.length → Cg q (pv x (mulRow q a b i k o)) (pv x o + a.getD i 0 * x ^ i * sm x (fun k => b.getD k 0) k)
  | 0, _ => by simp [mulRow, sm]; exact Cg.refl
  | k + 1, h => by
    have ih := pv_row (x := x) (a := a) (b := b) (q := q) (i := i) (o := o) k (by omega)
    unfold mulRow sm
    refine (pv_put (by rw [mulRow_len]; omega)).trans ?_
    refine (Cg.add ih Cg.refl).trans ?_
    have : a.getD i 0 * x ^ i * (sm x (fun k => b.getD k 0) k + b.getD k 0 * x ^ k) = a.getD i 0 * x ^ i * sm x (fun k => b.getD k 0) k + a.getD i 0 * b.getD k 0 * x ^ (i + k) := by
      rw [Nat.mul_add, Nat.pow_add]; congr 1
      rw [Nat.mul_assoc, Nat.mul_assoc, Nat.mul_left_comm (x ^ i)]
    rw [this, Nat.add_assoc]; exact Cg.refl
theorem pv_to {q x : Nat} {a b : List Nat} (hb : 0 < b.length) : ∀ i, i ≤ a.length → Cg q (pv x (mulTo q a b i)) (sm x (fun k => a.getD k 0) i * pv x b)
  | 0, _ => by
    have : ∀ n, pv x (List.replicate n 0) = 0 := fun n => by
      induction n with
      | zero => rfl
      | succ n ih => rw [List.replicate_succ, pv, ih]; simp
    unfold mulTo sm; rw [this]; simp; exact Cg.refl
  | i + 1, h => by
    have ih := pv_to (x := x) (a := a) (b := b) (q := q) hb i (by omega)
    unfold mulTo sm
    have hr := pv_row (x := x) (a := a) (b := b) (q := q) (i := i) (o := mulTo q a b i) b.length (by rw [mulTo_len]; omega)
    rw [sm_all x b _ (Nat.le_refl _)] at hr
    refine hr.trans ?_
    refine (Cg.add ih Cg.refl).trans ?_
    rw [Nat.add_mul]; exact Cg.refl
theorem pv_mul (q x : Nat) (a b : List Nat) : Cg q (pv x (mulL q a b)) (pv x a * pv x b) := by
  unfold mulL
  split
  · rename_i h
    rcases h with h | h
    · rw [List.length_eq_zero_iff.1 h]; simp [pv]; exact Cg.refl
    · rw [List.length_eq_zero_iff.1 h]; simp [pv]; exact Cg.refl
  · rename_i h
    have := pv_to (q := q) (x := x) (a := a) (b := b) (by omega) a.length (Nat.le_refl _)
    rw [sm_all x a _ (Nat.le_refl _)] at this
    exact this
end Pv
open Pv in
theorem ev_sum (q x : Nat) (a b : List Nat) : evN q x (trimN (addL q a b)) = (evN q x a + evN q x b) % q := by
  rw [evN_pv, evN_pv, evN_pv, pv_trim]
  exact (pv_add q x a b).trans (Cg.add Cg.mod.symm Cg.mod.symm)
open Pv in
theorem ev_product (q x : Nat) (a b : List Nat) : evN q x (trimN (mulL q a b)) = evN q x a * evN q x b % q := by
  rw [evN_pv, evN_pv, evN_pv, pv_trim]
  exact (pv_mul q x a b).trans (Cg.mul Cg.mod.symm Cg.mod.symm)
theorem trim_last {l : List Nat} : ∀ (h : 0 < (trimN l).length), (trimN l)[(trimN l).length - 1] ≠ 0 := by
  suffices H : ∀ n, ∀ l : List Nat, l.length = n → (trimN l).getLast? ≠ some 0 from fun h h0 => H _ l rfl (by rw [List.getLast?_eq_getElem?, List.getElem?_eq_getElem (by omega), h0])
  intro n
  induction n with
  | zero => intro l h; rw [List.length_eq_zero_iff.1 h]; simp [trimN]
  | succ n ih =>
    intro l h
    have e : l = l.take n ++ [l[n]] := by
      have := take_pred (l := l) (n := n + 1) (by omega) (by omega)
      rw [List.take_of_length_le (by omega)] at this
      simpa using this
    rw [e, trimN_snoc]
    split
    · exact ih _ (by simp; omega)
    · rename_i h0
      rw [List.getLast?_append]; simpa using h0
theorem poly_trim {q : Nat} {l : List Nat} (hl : l.length ≤ 1000) (h : ∀ c ∈ l, c < q) : polyB (q : Int) (nl (trimN l)) = true := by
  have hlen : (nl (trimN l)).length ≤ 1000 := by rw [nl_len]; exact Nat.le_trans (trimN_len _) hl
  by_cases h0 : (trimN l).length = 0
  · exact polyB_nil (by rw [nl_len]; exact h0)
  · rw [polyB_some (by rw [nl_len]; omega) hlen ?_]
    · exact nl_all (trimN_lt h)
    · have := trim_last (l := l) (by omega)
      simp only [nl_len]
      intro h2
      apply this
      have : ((trimN l)[(trimN l).length - 1] : Int) = 0 := by rw [← h2]; simp [nl]
      exact_mod_cast this
end Go.Proofs.YteipbcpnnojclaaDoor

/- Contracts of PolM, PolN, PolP: those that this program has. -/
namespace Go.Proofs.YteipbcpnnojclaaDoor
open Go.RowKit DivMath WordMath
set_option linter.unusedVariables false
set_option linter.unusedSimpArgs false
theorem all_nl {q : Int} {l : List Int} (h : l.all (resB q) = true) : ∃ m : List Nat, l = nl m ∧ ∀ c ∈ m, (c : Int) < q := by
  refine ⟨l.map Int.toNat, ?_, ?_⟩
  · unfold nl
    rw [List.map_map]
    conv => lhs; rw [← List.map_id l]
    refine List.map_congr_left fun x hx => ?_
    have := List.all_eq_true.1 h x hx
    unfold resB at this
    simp only [Bool.and_eq_true, decide_eq_true_eq] at this
    simp only [id_eq, Function.comp]
    omega
  · intro c hc
    obtain ⟨x, hx, rfl⟩ := List.mem_map.1 hc
    have := List.all_eq_true.1 h x hx
    unfold resB at this
    simp only [Bool.and_eq_true, decide_eq_true_eq] at this
    omega
theorem valid_of_field {q : Int} {L : List (List Int)} (h : fieldB q = false) : validB q L = false := by unfold validB; rw [h]; rfl
theorem poly_of_res {q : Int} {l : List Int} (h : l.all (resB q) = false) : polyB q l = false := by unfold polyB; rw [h]; simp
theorem valid_of_poly {q : Int} {l : List Int} (h : polyB q l = false) : validB q [l] = false := by unfold validB; simp [h]
theorem EvalN_no {D : Nat → Prop} (q : Int) (l : List Nat) (x : Int) {xa : Option Addr} {xk : Nat} {w : World} (hx : Fct.at w D (.rw (.slice xa l.length xk) l.length 1 (ncl l))) (hl : Laid w) (hn : -9223372036854775808 ≤ q ∧ q ≤ 9223372036854775807) (hv : validB q [nl l] = false) :
    Calls Tryd.prog 22 #[.int .i64 q, .slice xa l.length xk, .int .i64 x] w fun e w' => e = .returned (.tuple #[.int .i64 0, .int .i64 1]) ∧ Below w.heap.size w w' := by
  have := Eval_no (xa := xa) (xk := xk) (w := w) (D := D) q (nl l) x (by rw [nl_len]; exact hx) hl hn hv
  rw [nl_len] at this; exact this
theorem EvalN_range {D : Nat → Prop} (q : Int) (l : List Nat) (x : Int) {xa : Option Addr} {xk : Nat} {w : World} (hx : Fct.at w D (.rw (.slice xa l.length xk) l.length 1 (ncl l))) (hl : Laid w) (hn : -9223372036854775808 ≤ q ∧ q ≤ 9223372036854775807) (hv : validB q [nl l] = true) (hr : resB q x = false) :
    Calls Tryd.prog 22 #[.int .i64 q, .slice xa l.length xk, .int .i64 x] w fun e w' => e = .returned (.tuple #[.int .i64 0, .int .i64 2]) ∧ Below w.heap.size w w' := by
  have := Eval_range (xa := xa) (xk := xk) (w := w) (D := D) q (nl l) x (by rw [nl_len]; exact hx) hl hn hv hr
  rw [nl_len] at this; exact this
theorem rResN_c {D : Nat → Prop} (q : Int) (l : List Nat) {xa : Option Addr} {xk : Nat} {w : World} (hx : Fct.at w D (.rw (.slice xa l.length xk) l.length 1 (ncl l))) {t : Bool} (ht : (nl l).all (resB q) = t) (hm : l.length ≤ 1000000) :
    Calls Tryd.prog 17 #[.int .i64 q, .slice xa l.length xk] w fun e w' => e = .returned (.bool t) ∧ Below w.heap.size w w' := by
  have := rResidues_c (xa := xa) (xk := xk) (w := w) (D := D) q (nl l) (by rw [nl_len]; exact hx) ht (by rw [nl_len]; exact hm)
  rw [nl_len] at this; exact this
theorem rValN_c {D : Nat → Prop} (q : Int) (l : List Nat) {xa : Option Addr} {xk : Nat} {w : World} (hx : Fct.at w D (.rw (.slice xa l.length xk) l.length 1 (ncl l))) {t : Bool} (ht : polyB q (nl l) = t) :
    Calls Tryd.prog 27 #[.int .i64 q, .slice xa l.length xk] w fun e w' => e = .returned (.bool t) ∧ Below w.heap.size w w' := by
  have := rValid_c (xa := xa) (xk := xk) (w := w) (D := D) q (nl l) (by rw [nl_len]; exact hx) ht
  rw [nl_len] at this; exact this
theorem poly_res {q : Int} {l : List Int} (h : polyB q l = true) : l.all (resB q) = true := by
  unfold polyB at h
  simp only [Bool.and_eq_true] at h
  exact h.2.1
theorem valid2 {q : Int} {a b : List Int} : validB q [a, b] = (fieldB q && (polyB q a && polyB q b)) := by unfold validB; simp
theorem valid1 {q : Int} {a : List Int} : validB q [a] = (fieldB q && polyB q a) := by unfold validB; simp
theorem EvalV {D : Nat → Prop} (q : Nat) (l : List Nat) (x : Nat) {xa : Option Addr} {xk : Nat} {w : World} (hx : Fct.at w D (.rw (.slice xa l.length xk) l.length 1 (ncl l))) (hl : Laid w) (hqT : (q : Int) < Top) (hv : validB q [nl l] = true) (hlen : l.length ≤ 1000) (hr : ∀ c ∈ l, c < q) (hxq : (x : Int) < (q : Int)) {v : Nat} (h : evN q x l = v) :
    Calls Tryd.prog 22 #[.int .i64 (q : Nat), .slice xa l.length xk, .int .i64 (x : Nat)] w fun e w' => e = .returned (.tuple #[.int .i64 (v : Nat), .int .i64 0]) ∧ Below w.heap.size w w' := by
  subst h; exact Eval_ok q l x hx hl hqT hv hlen hr hxq
theorem AddV (a b m : Nat) (w : World) (ha : (a : Int) < (m : Int)) (hb : (b : Int) < (m : Int)) (hm : (m : Int) < Top) {v : Nat} (h : v = (a + b) % m) :
    Calls Tryd.prog 25 #[.int .i64 a, .int .i64 b, .int .i64 m] w fun e w' => e = .returned (.tuple #[.int .i64 (v : Nat), .int .i64 0]) ∧ Below w.heap.size w w' :=
  (Add_ok a b m w ha hb hm).mono fun e w' ⟨⟨r, hr, he⟩, h2⟩ => by
    obtain rfl : r = v := by rw [hr.out, h]
    exact ⟨he, h2.below⟩
theorem MulV (a b m : Nat) (w : World) (ha : (a : Int) < (m : Int)) (hb : (b : Int) < (m : Int)) (hm : (m : Int) < Top) {v : Nat} (h : v = a * b % m) :
    Calls Tryd.prog 24 #[.int .i64 a, .int .i64 b, .int .i64 m] w fun e w' => e = .returned (.tuple #[.int .i64 (v : Nat), .int .i64 0]) ∧ Below w.heap.size w w' :=
  (Mul_ok a b m w ha hb hm).mono fun e w' ⟨⟨r, hr, he⟩, h2⟩ => by
    obtain rfl : r = v := by rw [hr.out, h]
    exact ⟨he, h2.below⟩
/-- whatever the polynomial: a pair of numbers comes back -/
theorem Eval_any {D : Nat → Prop} (q : Int) (l : List Int) (x : Int) {xa : Option Addr} {xk : Nat} {w : World} (hx : Fct.at w D (.rw (.slice xa l.length xk) l.length 1 (icl l))) (hl : Laid w) (hn : -9223372036854775808 ≤ q ∧ q ≤ 9223372036854775807) :
    Calls Tryd.prog 22 #[.int .i64 q, .slice xa l.length xk, .int .i64 x] w fun e w' => (∃ y c : Int, e = .returned (.tuple #[.int .i64 y, .int .i64 c])) ∧ Below w.heap.size w w' := by
  cases hv : validB q [l] with
  | false => exact (Eval_no q l x hx hl hn hv).mono fun e w' ⟨h1, h2⟩ => ⟨⟨0, 1, h1⟩, h2⟩
  | true =>
    cases hr : resB q x with
    | false => exact (Eval_range q l x hx hl hn hv hr).mono fun e w' ⟨h1, h2⟩ => ⟨⟨0, 2, h1⟩, h2⟩
    | true =>
      rw [valid1] at hv
      have hv0 := hv
      simp only [Bool.and_eq_true] at hv
      obtain ⟨n, rfl, hn2, hT⟩ := fieldB_pos hv.1
      obtain ⟨m, rfl, hm⟩ := all_nl (poly_res hv.2)
      have hx' : Fct.at w D (.rw (.slice xa m.length xk) m.length 1 (ncl m)) := by have h := hx; rw [nl_len] at h; exact h
      unfold resB at hr
      simp only [Bool.and_eq_true, decide_eq_true_eq] at hr
      obtain ⟨y, rfl⟩ : ∃ y : Nat, x = (y : Int) := ⟨x.toNat, by omega⟩
      have hlen : m.length ≤ 1000 := by
        have := hv.2
        unfold polyB at this
        simp only [Bool.and_eq_true, decide_eq_true_eq, nl_len] at this
        exact this.1
      rw [nl_len]
      exact (Eval_ok n m y hx' hl hT (by rw [valid1]; exact hv0) hlen (fun c hc => Int.ofNat_lt.1 (hm c hc)) hr.2).mono fun e w' ⟨h1, h2⟩ => ⟨⟨_, _, h1⟩, h2⟩
end Go.Proofs.YteipbcpnnojclaaDoor

/- poly: check in all cases; Interpolate, Weights where it says no. -/
namespace Go.Proofs.YteipbcpnnojclaaDoor
open Go.RowKit DivMath WordMath
set_option linter.unusedVariables false
set_option linter.unusedSimpArgs false
set_option maxRecDepth 100000 in
set_option maxHeartbeats 1000000 in
theorem check_a {D : Nat → Prop} (q : Int) (l b : List Int) {xa ya : Option Addr} {xk yk : Nat} {w : World} (hx : Fct.at w D (.rw (.slice xa l.length xk) l.length 1 (icl l))) (hy : Fct.at w D (.rw (.slice ya b.length yk) b.length 1 (icl b))) (hl0 : Laid w) (hn : -9223372036854775808 ≤ q ∧ q ≤ 9223372036854775807) (hf0 : fieldB q = false) :
    Calls Tryd.prog 57 #[.int .i64 q, .slice xa l.length xk, .slice ya b.length yk] w fun e w' => e = .returned (.int .i64 1) ∧ Below w.heap.size w w' := by
  have E0 : Hid (Env D w [] [.rw (.slice ya b.length yk) b.length 1 (icl b), .rw (.slice xa l.length xk) l.length 1 (icl l)] w) := Lib.hid (((Env.start D w).arg (.rw (.slice xa l.length xk) l.length 1 (icl l)) hx).arg (.rw (.slice ya b.length yk) b.length 1 (icl b)) hy)
  clear hx hy
  go_enter Tryd.func57, Tryd.ntmps57
  have hl := Lib.hid hl0
  have hf := Lib.hid hf0
  clear hl0 hf0
  go_wp2_with fail
  refine (isPrime_c q _ (hl.out.below E0.out.bel) hn hf.out).mono ?_
  rintro e w1 ⟨rfl, hb⟩
  have E1 : Hid (Env D w [] [.rw (.slice ya b.length yk) b.length 1 (icl b), .rw (.slice xa l.length xk) l.length 1 (icl l)] w1) := Lib.hid (E0.out.below hb)
  clear E0 hb
  have hfin := Lib.hid E1.out.bel
  go_wp2
  go_ret
  exact ⟨rfl, hfin.out⟩
set_option maxRecDepth 100000 in
set_option maxHeartbeats 1000000 in
theorem check_b {D : Nat → Prop} (q : Int) (l b : List Int) {xa ya : Option Addr} {xk yk : Nat} {w : World} (hx : Fct.at w D (.rw (.slice xa l.length xk) l.length 1 (icl l))) (hy : Fct.at w D (.rw (.slice ya b.length yk) b.length 1 (icl b))) (hl0 : Laid w) (hn : -9223372036854775808 ≤ q ∧ q ≤ 9223372036854775807) (hf0 : fieldB q = true) (hlen : 100 < l.length) :
    Calls Tryd.prog 57 #[.int .i64 q, .slice xa l.length xk, .slice ya b.length yk] w fun e w' => e = .returned (.int .i64 1) ∧ Below w.heap.size w w' := by
  have E0 : Hid (Env D w [] [.rw (.slice ya b.length yk) b.length 1 (icl b), .rw (.slice xa l.length xk) l.length 1 (icl l)] w) := Lib.hid (((Env.start D w).arg (.rw (.slice xa l.length xk) l.length 1 (icl l)) hx).arg (.rw (.slice ya b.length yk) b.length 1 (icl b)) hy)
  clear hx hy
  go_enter Tryd.func57, Tryd.ntmps57
  have hl := Lib.hid hl0
  have hf := Lib.hid hf0
  clear hl0 hf0
  have d1 : decide ((100 : Int) < (l.length : Int)) = true := decide_eq_true (by omega)
  go_wp2_with fail
  refine (isPrime_c q _ (hl.out.below E0.out.bel) hn hf.out).mono ?_
  rintro e w1 ⟨rfl, hb⟩
  have E1 : Hid (Env D w [] [.rw (.slice ya b.length yk) b.length 1 (icl b), .rw (.slice xa l.length xk) l.length 1 (icl l)] w1) := Lib.hid (E0.out.below hb)
  clear E0 hb
  have hfin := Lib.hid E1.out.bel
  go_wp2
  go_ret
  exact ⟨rfl, hfin.out⟩
set_option maxRecDepth 100000 in
set_option maxHeartbeats 1000000 in
theorem check_c1 {D : Nat → Prop} (q : Int) (l b : List Int) {xa ya : Option Addr} {xk yk : Nat} {w : World} (hx : Fct.at w D (.rw (.slice xa l.length xk) l.length 1 (icl l))) (hy : Fct.at w D (.rw (.slice ya b.length yk) b.length 1 (icl b))) (hl0 : Laid w) (hn : -9223372036854775808 ≤ q ∧ q ≤ 9223372036854775807) (hf0 : fieldB q = true) (hlen : l.length ≤ 100) (hr0 : l.all (resB q) = false) :
    Calls Tryd.prog 57 #[.int .i64 q, .slice xa l.length xk, .slice ya b.length yk] w fun e w' => e = .returned (.int .i64 2) ∧ Below w.heap.size w w' := by
  have E0 : Hid (Env D w [] [.rw (.slice ya b.length yk) b.length 1 (icl b), .rw (.slice xa l.length xk) l.length 1 (icl l)] w) := Lib.hid (((Env.start D w).arg (.rw (.slice xa l.length xk) l.length 1 (icl l)) hx).arg (.rw (.slice ya b.length yk) b.length 1 (icl b)) hy)
  clear hx hy
  go_enter Tryd.func57, Tryd.ntmps57
  have hl := Lib.hid hl0
  have hf := Lib.hid hf0
  have hr := Lib.hid hr0
  clear hl0 hf0 hr0
  have d1 : decide ((100 : Int) < (l.length : Int)) = false := decide_eq_false (by omega)
  go_wp2_with fail
  refine (isPrime_c q _ (hl.out.below E0.out.bel) hn hf.out).mono ?_
  rintro e w1 ⟨rfl, hb⟩
  have E1 : Hid (Env D w [] [.rw (.slice ya b.length yk) b.length 1 (icl b), .rw (.slice xa l.length xk) l.length 1 (icl l)] w1) := Lib.hid (E0.out.below hb)
  clear E0 hb
  go_wp2_with fail
  refine (residues_c q l (E1.out.fc 1 rfl) hr.out (by omega)).mono ?_
  rintro e w2 ⟨rfl, hb⟩
  have E2 : Hid (Env D w [] [.rw (.slice ya b.length yk) b.length 1 (icl b), .rw (.slice xa l.length xk) l.length 1 (icl l)] w2) := Lib.hid (E1.out.below hb)
  clear E1 hb
  have hfin := Lib.hid E2.out.bel
  go_wp2
  go_ret
  exact ⟨rfl, hfin.out⟩
set_option maxRecDepth 100000 in
set_option maxHeartbeats 1000000 in
theorem check_c2 {D : Nat → Prop} (q : Int) (l b : List Int) {xa ya : Option Addr} {xk yk : Nat} {w : World} (hx : Fct.at w D (.rw (.slice xa l.length xk) l.length 1 (icl l))) (hy : Fct.at w D (.rw (.slice ya b.length yk) b.length 1 (icl b))) (hl0 : Laid w) (hn : -9223372036854775808 ≤ q ∧ q ≤ 9223372036854775807) (hf0 : fieldB q = true) (hlen : l.length ≤ 100) (hlb : b.length ≤ 1000) (hr0 : l.all (resB q) = true) (hs0 : b.all (resB q) = false) :
    Calls Tryd.prog 57 #[.int .i64 q, .slice xa l.length xk, .slice ya b.length yk] w fun e w' => e = .returned (.int .i64 2) ∧ Below w.heap.size w w' := by
  have E0 : Hid (Env D w [] [.rw (.slice ya b.length yk) b.length 1 (icl b), .rw (.slice xa l.length xk) l.length 1 (icl l)] w) := Lib.hid (((Env.start D w).arg (.rw (.slice xa l.length xk) l.length 1 (icl l)) hx).arg (.rw (.slice ya b.length yk) b.length 1 (icl b)) hy)
  clear hx hy
  go_enter Tryd.func57, Tryd.ntmps57
  have hl := Lib.hid hl0
  have hf := Lib.hid hf0
  have hr := Lib.hid hr0
  have hs := Lib.hid hs0
  clear hl0 hf0 hr0 hs0
  have d1 : decide ((100 : Int) < (l.length : Int)) = false := decide_eq_false (by omega)
  go_wp2_with fail
  refine (isPrime_c q _ (hl.out.below E0.out.bel) hn hf.out).mono ?_
  rintro e w1 ⟨rfl, hb⟩
  have E1 : Hid (Env D w [] [.rw (.slice ya b.length yk) b.length 1 (icl b), .rw (.slice xa l.length xk) l.length 1 (icl l)] w1) := Lib.hid (E0.out.below hb)
  clear E0 hb
  go_wp2_with fail
  refine (residues_c q l (E1.out.fc 1 rfl) hr.out (by omega)).mono ?_
  rintro e w2 ⟨rfl, hb⟩
  have E2 : Hid (Env D w [] [.rw (.slice ya b.length yk) b.length 1 (icl b), .rw (.slice xa l.length xk) l.length 1 (icl l)] w2) := Lib.hid (E1.out.below hb)
  clear E1 hb
  go_wp2_with fail
  refine (residues_c q b (E2.out.fc 0 rfl) hs.out (by omega)).mono ?_
  rintro e w3 ⟨rfl, hb⟩
  have E3 : Hid (Env D w [] [.rw (.slice ya b.length yk) b.length 1 (icl b), .rw (.slice xa l.length xk) l.length 1 (icl l)] w3) := Lib.hid (E2.out.below hb)
  clear E2 hb
  have hfin := Lib.hid E3.out.bel
  go_wp2
  go_ret
  exact ⟨rfl, hfin.out⟩
set_option maxRecDepth 100000 in
set_option maxHeartbeats 1000000 in
theorem check_d {D : Nat → Prop} (q : Nat) (l b : List Nat) (m : Nat) {xa ya : Option Addr} {xk yk : Nat} {w : World} (hx : Fct.at w D (.rw (.slice xa l.length xk) l.length 1 (ncl l))) (hy : Fct.at w D (.rw (.slice ya b.length yk) b.length 1 (ncl b))) (hl0 : Laid w) (hn : (q : Int) ≤ 9223372036854775807) (hf0 : fieldB q = true) (hlen : l.length ≤ 100) (hlb : b.length ≤ 1000) (hr0 : ∀ c ∈ l, c < q) (hs0 : ∀ c ∈ b, c < q) (hm : m < l.length) (hd0 : ∀ j (h : j < l.length), j < m → (l.take j).contains l[j] = false) (hd1 : (l.take m).contains l[m] = true) :
    Calls Tryd.prog 57 #[.int .i64 (q : Nat), .slice xa l.length xk, .slice ya b.length yk] w fun e w' => e = .returned (.int .i64 8) ∧ Below w.heap.size w w' := by
  have E0 : Hid (Env D w [] [.rw (.slice ya b.length yk) b.length 1 (ncl b), .rw (.slice xa l.length xk) l.length 1 (ncl l)] w) := Lib.hid (((Env.start D w).arg (.rw (.slice xa l.length xk) l.length 1 (ncl l)) hx).arg (.rw (.slice ya b.length yk) b.length 1 (ncl b)) hy)
  clear hx hy
  go_enter Tryd.func57, Tryd.ntmps57
  have hl := Lib.hid hl0
  have hf := Lib.hid hf0
  have hr := Lib.hid hr0
  have hs := Lib.hid hs0
  have hd := Lib.hid hd0
  clear hl0 hf0 hr0 hs0 hd0
  have hdm := Lib.hid hd1
  clear hd1
  have d1 : decide ((100 : Int) < (l.length : Int)) = false := decide_eq_false (by omega)
  have hq2 : -9223372036854775808 ≤ (q : Int) ∧ (q : Int) ≤ 9223372036854775807 := by omega
  go_wp2_with fail
  refine (isPrime_c q _ (hl.out.below E0.out.bel) hq2 hf.out).mono ?_
  rintro e w1 ⟨rfl, hb⟩
  have E1 : Hid (Env D w [] [.rw (.slice ya b.length yk) b.length 1 (ncl b), .rw (.slice xa l.length xk) l.length 1 (ncl l)] w1) := Lib.hid (E0.out.below hb)
  clear E0 hb
  go_wp2_with fail
  refine (resN_c q l (E1.out.fc 1 rfl) hr.out (by omega)).mono ?_
  rintro e w2 ⟨rfl, hb⟩
  have E2 : Hid (Env D w [] [.rw (.slice ya b.length yk) b.length 1 (ncl b), .rw (.slice xa l.length xk) l.length 1 (ncl l)] w2) := Lib.hid (E1.out.below hb)
  clear E1 hb
  go_wp2_with fail
  refine (resN_c q b (E2.out.fc 0 rfl) hs.out (by omega)).mono ?_
  rintro e w3 ⟨rfl, hb⟩
  have E3 : Hid (Env D w [] [.rw (.slice ya b.length yk) b.length 1 (ncl b), .rw (.slice xa l.length xk) l.length 1 (ncl l)] w3) := Lib.hid (E2.out.below hb)
  clear E2 hb
  go_wp2_with fail
  go_loopg [31] (l.length) (fun gk s31 wr => ∃ (k : Nat), s31 = .int .i64 (k : Int) ∧ Hid (Env D w [] [.rw (.slice ya b.length yk) b.length 1 (ncl b), .rw (.slice xa l.length xk) l.length 1 (ncl l)] wr) ∧ Hid (k ≤ m ∧ gk = l.length - k))
  case atStart => exact ⟨0, rfl, Lib.hid E3.out, Lib.hid ⟨Nat.zero_le _, rfl⟩⟩
  case round =>
    clear E3
    obtain ⟨k, rfl, EL, HA⟩ := hrel
    obtain ⟨a1, a2⟩ := HA.out
    clear HA
    have hk : k < l.length := by omega
    have t6 : decide ((k : Int) < (l.length : Int)) = true := decide_eq_true (by omega)
    have t7 : decide (k < l.length) = true := decide_eq_true hk
    have hk9 : (k : Int) ≤ 99 := by omega
    obtain ⟨hcap, hcap9⟩ := Rw.cap (EL.out.fc 1 rfl)
    have hnk : k ≤ xk := by omega
    have hnk2 : (k : Int) ≤ (xk : Int) := by omega
    clear hcap
    obtain ⟨xab, xao, rfl⟩ := Rw.addr (EL.out.fc 1 rfl) (by omega)
    have E4 : Hid (Env D w [] [.ce xab (xao + k) (.int .i64 (l[k] : Nat)), .rw (.slice ya b.length yk) b.length 1 (ncl b), .rw (.slice (some ⟨xab, xao, none⟩) l.length xk) l.length 1 (ncl l)] _) := Lib.hid (EL.out.elN 1 rfl rfl (k) hk)
    clear EL
    have u0 := (E4.out.fc 0 rfl).2
    have hln : (l.take k).length = k := by simp; omega
    by_cases hy : k = m
    rotate_left
    · have hkm : k < m := by omega
      clear hy
      have cc := containsN_c (Rw.takeN (E4.out.fc 2 rfl) (Nat.le_of_lt hk)) (by simp; omega) (hd.out k hk hkm)
      rw [hln] at cc
      have CC := Lib.hid cc
      clear cc hln
      go_wp2_with fail
      refine (CC.out).mono ?_
      rintro e w4 ⟨rfl, hb⟩
      have E5 : Hid (Env D w [] [.ce xab (xao + k) (.int .i64 (l[k] : Nat)), .rw (.slice ya b.length yk) b.length 1 (ncl b), .rw (.slice (some ⟨xab, xao, none⟩) l.length xk) l.length 1 (ncl l)] w4) := Lib.hid (E4.out.below hb)
      clear u0 E4 hb
      have EZ := Lib.hid (E5.out.forget)
      go_wp2
      go_roundg (l.length - (k + 1))
      case rel => exact ⟨k + 1, rfl, EZ, Lib.hid ⟨by omega, rfl⟩⟩
      case measure => exact by omega
    subst hy
    have cc := containsN_c (Rw.takeN (E4.out.fc 2 rfl) (Nat.le_of_lt hk)) (by simp; omega) (hdm.out)
    rw [hln] at cc
    have CC := Lib.hid cc
    clear cc hln
    go_wp2_with fail
    refine (CC.out).mono ?_
    rintro e w4 ⟨rfl, hb⟩
    have E5 : Hid (Env D w [] [.ce xab (xao + k) (.int .i64 (l[k] : Nat)), .rw (.slice ya b.length yk) b.length 1 (ncl b), .rw (.slice (some ⟨xab, xao, none⟩) l.length xk) l.length 1 (ncl l)] w4) := Lib.hid (E4.out.below hb)
    clear u0 E4 hb
    have hfin := Lib.hid E5.out.bel
    go_wp2
    go_ret
    exact ⟨rfl, hfin.out⟩
/-- what check says -/
def ChkR (q : Int) (l b : List Int) (c : Int) : Prop := (fieldB q = false ∧ c = 1) ∨ (fieldB q = true ∧ 100 < l.length ∧ c = 1) ∨ (fieldB q = true ∧ l.length ≤ 100 ∧ l.all (resB q) = false ∧ c = 2) ∨ (fieldB q = true ∧ l.length ≤ 100 ∧ l.all (resB q) = true ∧ b.all (resB q) = false ∧ c = 2) ∨
  (fieldB q = true ∧ l.length ≤ 100 ∧ l.all (resB q) = true ∧ b.all (resB q) = true ∧ ¬ l.Nodup ∧ c = 8) ∨ (fieldB q = true ∧ l.length ≤ 100 ∧ l.all (resB q) = true ∧ b.all (resB q) = true ∧ l.Nodup ∧ c = 0)
theorem ChkR.ex (q : Int) (l b : List Int) : ∃ c, ChkR q l b c := by
  unfold ChkR
  cases hf : fieldB q with
  | false => exact ⟨1, Or.inl ⟨rfl, rfl⟩⟩
  | true =>
    by_cases h1 : 100 < l.length
    · exact ⟨1, Or.inr (Or.inl ⟨rfl, h1, rfl⟩)⟩
    cases hr : l.all (resB q) with
    | false => exact ⟨2, Or.inr (Or.inr (Or.inl ⟨rfl, by omega, rfl, rfl⟩))⟩
    | true =>
      cases hs : b.all (resB q) with
      | false => exact ⟨2, Or.inr (Or.inr (Or.inr (Or.inl ⟨rfl, by omega, rfl, rfl, rfl⟩)))⟩
      | true =>
        by_cases hd : l.Nodup
        · exact ⟨0, Or.inr (Or.inr (Or.inr (Or.inr (Or.inr ⟨rfl, by omega, rfl, rfl, hd, rfl⟩))))⟩
        · exact ⟨8, Or.inr (Or.inr (Or.inr (Or.inr (Or.inl ⟨rfl, by omega, rfl, rfl, hd, rfl⟩))))⟩
theorem dup_first {l : List Nat} (h : ¬ l.Nodup) : ∃ m, ∃ hm : m < l.length, (l.take m).contains l[m] = true ∧ ∀ j (h : j < l.length), j < m → (l.take j).contains l[j] = false := by
  have key : ∀ n, n ≤ l.length → (∃ m, ∃ hm : m < l.length, (l.take m).contains l[m] = true ∧ ∀ j (h : j < l.length), j < m → (l.take j).contains l[j] = false) ∨ ((l.take n).Nodup ∧ ∀ j (h : j < l.length), j < n → (l.take j).contains l[j] = false) := by
    intro n
    induction n with
    | zero => intro _; exact Or.inr ⟨by simp, fun j h hj => by omega⟩
    | succ n ih =>
      intro hn
      rcases ih (by omega) with h1 | ⟨h1, h2⟩
      · exact Or.inl h1
      have hn2 : n < l.length := by omega
      cases hc : (l.take n).contains l[n] with
      | true => exact Or.inl ⟨n, hn2, hc, h2⟩
      | false =>
        refine Or.inr ⟨?_, fun j h hj => ?_⟩
        · rw [List.take_succ_eq_append_getElem hn2, List.nodup_append]
          refine ⟨h1, by simp, fun a ha b hb hab => ?_⟩
          rw [List.mem_singleton.1 hb] at hab
          rw [hab] at ha
          have := List.contains_iff_mem.2 ha
          rw [hc] at this; cases this
        · by_cases e : j = n
          · subst e; exact hc
          · exact h2 j h (by omega)
  rcases key l.length (Nat.le_refl _) with h1 | ⟨h1, -⟩
  · exact h1
  · rw [List.take_length] at h1; exact absurd h1 h
theorem nl_nodup {l : List Nat} : (nl l).Nodup ↔ l.Nodup := by
  unfold nl List.Nodup
  rw [List.pairwise_map]
  exact ⟨fun h => h.imp (fun hab e => hab (by rw [e])), fun h => h.imp (fun hab e => hab (by exact_mod_cast e))⟩
theorem check_r {D : Nat → Prop} (q : Int) (l b : List Int) {xa ya : Option Addr} {xk yk : Nat} {w : World} (hx : Fct.at w D (.rw (.slice xa l.length xk) l.length 1 (icl l))) (hy : Fct.at w D (.rw (.slice ya b.length yk) b.length 1 (icl b))) (hl : Laid w) (hn : -9223372036854775808 ≤ q ∧ q ≤ 9223372036854775807) (hb : b.length ≤ 1000) {c : Int} (h : ChkR q l b c) :
    Calls Tryd.prog 57 #[.int .i64 q, .slice xa l.length xk, .slice ya b.length yk] w fun e w' => e = .returned (.int .i64 c) ∧ Below w.heap.size w w' := by
  rcases h with ⟨h1, rfl⟩ | ⟨h1, h2, rfl⟩ | ⟨h1, h2, h3, rfl⟩ | ⟨h1, h2, h3, h4, rfl⟩ | ⟨h1, h2, h3, h4, h5, rfl⟩ | ⟨h1, h2, h3, h4, h5, rfl⟩
  · exact check_a q l b hx hy hl hn h1
  · exact check_b q l b hx hy hl hn h1 h2
  · exact check_c1 q l b hx hy hl hn h1 h2 h3
  · exact check_c2 q l b hx hy hl hn h1 h2 hb h3 h4
  · obtain ⟨n, rfl, -, hT⟩ := fieldB_pos h1
    obtain ⟨m, rfl, hm⟩ := all_nl h3
    obtain ⟨k, rfl, hk⟩ := all_nl h4
    rw [nl_nodup] at h5
    obtain ⟨i, hi, d1, d2⟩ := dup_first h5
    have hx' : Fct.at w D (.rw (.slice xa m.length xk) m.length 1 (ncl m)) := by have h := hx; rw [nl_len] at h; exact h
    have hy' : Fct.at w D (.rw (.slice ya k.length yk) k.length 1 (ncl k)) := by have h := hy; rw [nl_len] at h; exact h
    rw [nl_len] at h2 hb
    rw [nl_len, nl_len]
    exact check_d n m k i hx' hy' hl (by omega) h1 h2 hb (fun c hc => Int.ofNat_lt.1 (hm c hc)) (fun c hc => Int.ofNat_lt.1 (hk c hc)) hi d2 d1
  · obtain ⟨n, rfl, -, hT⟩ := fieldB_pos h1
    obtain ⟨m, rfl, hm⟩ := all_nl h3
    obtain ⟨k, rfl, hk⟩ := all_nl h4
    rw [nl_nodup] at h5
    have hx' : Fct.at w D (.rw (.slice xa m.length xk) m.length 1 (ncl m)) := by have h := hx; rw [nl_len] at h; exact h
    have hy' : Fct.at w D (.rw (.slice ya k.length yk) k.length 1 (ncl k)) := by have h := hy; rw [nl_len] at h; exact h
    rw [nl_len] at h2 hb
    rw [nl_len, nl_len]
    exact check_ok n m k hx' hy' hl (by omega) h1 h2 hb (fun c hc => Int.ofNat_lt.1 (hm c hc)) (fun c hc => Int.ofNat_lt.1 (hk c hc)) h5
set_option maxRecDepth 100000 in
set_option maxHeartbeats 1000000 in
theorem Interpolate_len {D : Nat → Prop} (q : Int) (a b : List Int) {xa ya : Option Addr} {xk yk : Nat} {w : World} (hx : Fct.at w D (.rw (.slice xa a.length xk) a.length 1 (icl a))) (hy : Fct.at w D (.rw (.slice ya b.length yk) b.length 1 (icl b))) (hl0 : Laid w) (hn : -9223372036854775808 ≤ q ∧ q ≤ 9223372036854775807) (hab : a.length ≠ b.length) :
    Calls Tryd.prog 14 #[.int .i64 q, .slice xa a.length xk, .slice ya b.length yk] w fun e w' => e = .returned (.tuple #[.slice none 0 0, .int .i64 1]) ∧ Below w.heap.size w w' := by
  have E0 : Hid (Env D w [] [.rw (.slice ya b.length yk) b.length 1 (icl b), .rw (.slice xa a.length xk) a.length 1 (icl a)] w) := Lib.hid (((Env.start D w).arg (.rw (.slice xa a.length xk) a.length 1 (icl a)) hx).arg (.rw (.slice ya b.length yk) b.length 1 (icl b)) hy)
  clear hx hy
  go_enter Tryd.func14, Tryd.ntmps14
  have hl := Lib.hid hl0
  clear hl0
  have n1 : ((a.length : Int) == (b.length : Int)) = false := beq_eq_false_iff_ne.2 (by omega)
  have n3 : ((a.length : Int) != (b.length : Int)) = true := by rw [bne, n1]; rfl
  have n2 : (a.length == b.length) = false := beq_eq_false_iff_ne.2 hab
  have n4 : (a.length != b.length) = true := by rw [bne, n2]; rfl
  clear hab
  have hfin := Lib.hid E0.out.bel
  go_wp2
  go_ret2
  exact ⟨rfl, hfin.out⟩
set_option maxRecDepth 100000 in
set_option maxHeartbeats 1000000 in
theorem Interpolate_err {D : Nat → Prop} (q : Int) (a b : List Int) {xa ya : Option Addr} {xk yk : Nat} {w : World} (hx : Fct.at w D (.rw (.slice xa a.length xk) a.length 1 (icl a))) (hy : Fct.at w D (.rw (.slice ya b.length yk) b.length 1 (icl b))) (hl0 : Laid w) (hn : -9223372036854775808 ≤ q ∧ q ≤ 9223372036854775807) {c : Int} (hab : a.length = b.length) (hb : b.length ≤ 1000) (hc : c ≠ 0) (hk0 : ChkR q a b c) :
    Calls Tryd.prog 14 #[.int .i64 q, .slice xa a.length xk, .slice ya b.length yk] w fun e w' => e = .returned (.tuple #[.slice none 0 0, .int .i64 c]) ∧ Below w.heap.size w w' := by
  have E0 : Hid (Env D w [] [.rw (.slice ya b.length yk) b.length 1 (icl b), .rw (.slice xa a.length xk) a.length 1 (icl a)] w) := Lib.hid (((Env.start D w).arg (.rw (.slice xa a.length xk) a.length 1 (icl a)) hx).arg (.rw (.slice ya b.length yk) b.length 1 (icl b)) hy)
  clear hx hy
  go_enter Tryd.func14, Tryd.ntmps14
  have hl := Lib.hid hl0
  have hk := Lib.hid hk0
  clear hl0 hk0
  have n1 : ((a.length : Int) == (b.length : Int)) = true := beq_iff_eq.2 (by omega)
  have n3 : ((a.length : Int) != (b.length : Int)) = false := by rw [bne, n1]; rfl
  have n2 : (a.length == b.length) = true := beq_iff_eq.2 hab
  have n4 : (a.length != b.length) = false := by rw [bne, n2]; rfl
  clear hab
  have m1 : ((c : Int) == 0) = false := beq_eq_false_iff_ne.2 hc
  have m2 : ((c : Int) != 0) = true := by rw [bne, m1]; rfl
  clear hc
  go_wp2_with fail
  refine (check_r q a b (E0.out.fc 1 rfl) (E0.out.fc 0 rfl) (hl.out.below E0.out.bel) hn hb hk.out).mono ?_
  rintro e w1 ⟨rfl, hb⟩
  have E1 : Hid (Env D w [] [.rw (.slice ya b.length yk) b.length 1 (icl b), .rw (.slice xa a.length xk) a.length 1 (icl a)] w1) := Lib.hid (E0.out.below hb)
  clear E0 hb
  have hfin := Lib.hid E1.out.bel
  go_wp2
  go_ret2
  exact ⟨rfl, hfin.out⟩
set_option maxRecDepth 100000 in
set_option maxHeartbeats 1000000 in
theorem Weights_err {D : Nat → Prop} (q : Int) (l : List Int) (x : Int) {xa : Option Addr} {xk : Nat} {w : World} (hx : Fct.at w D (.rw (.slice xa l.length xk) l.length 1 (icl l))) (hl0 : Laid w) (hn : -9223372036854775808 ≤ q ∧ q ≤ 9223372036854775807) {c : Int} (hc : c ≠ 0) (hk0 : ChkR q l [x] c) :
    Calls Tryd.prog 15 #[.int .i64 q, .slice xa l.length xk, .int .i64 x] w fun e w' => e = .returned (.tuple #[.slice none 0 0, .int .i64 c]) ∧ Below w.heap.size w w' := by
  have E0 : Hid (Env D w [] [.rw (.slice xa l.length xk) l.length 1 (icl l)] w) := Lib.hid ((Env.start D w).arg (.rw (.slice xa l.length xk) l.length 1 (icl l)) hx)
  clear hx
  go_enter Tryd.func15, Tryd.ntmps15
  have hl := Lib.hid hl0
  have hk := Lib.hid hk0
  clear hl0 hk0
  have m1 : ((c : Int) == 0) = false := beq_eq_false_iff_ne.2 hc
  have m2 : ((c : Int) != 0) = true := by rw [bne, m1]; rfl
  clear hc
  have E1 : Hid (Env D w [(w.heap.size, 3, [.int .i64 x])] [.rw (.slice xa l.length xk) l.length 1 (icl l)] _) := Lib.hid ((E0.out.push 3 [.int .i64 x] (w.heap.size) (by simp)))
  go_wp2_with fail
  refine (check_r q l [x] (Rw.tr (E1.out.fc 0 rfl)) (Rw.box1 (E1.out.bx 0 rfl)) (hl.out.below E1.out.bel) hn (by simp) hk.out).mono ?_
  rintro e w1 ⟨rfl, hb⟩
  have E2 : Hid (Env D w [(w.heap.size, 3, [.int .i64 x])] [.rw (.slice xa l.length xk) l.length 1 (icl l)] w1) := Lib.hid (E1.out.below hb)
  clear E0 E1 hb
  have hfin := Lib.hid E2.out.bel
  go_wp2
  go_ret2
  exact ⟨rfl, hfin.out⟩
end Go.Proofs.YteipbcpnnojclaaDoor

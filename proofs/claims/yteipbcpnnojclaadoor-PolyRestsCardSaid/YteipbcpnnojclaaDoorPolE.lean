/- poly: valid. -/
import Derived.Test.YteipbcpnnojclaaDoorPolD
namespace Go.Proofs.YteipbcpnnojclaaDoor
open Go.RowKit DivMath WordMath
set_option linter.unusedVariables false
set_option linter.unusedSimpArgs false
/-- a polynomial modulo q -/
def polyB (q : Int) (l : List Int) : Bool := decide (l.length ≤ 1000) && (l.all (resB q) && !(l.getLast? == some 0))
theorem polyB_long {q : Int} {l : List Int} (h : 1000 < l.length) : polyB q l = false := by unfold polyB; rw [decide_eq_false (by omega), Bool.false_and]
theorem polyB_nil {q : Int} {l : List Int} (h : l.length = 0) : polyB q l = true := by
  obtain rfl := List.length_eq_zero_iff.1 h
  rfl
theorem last_get {l : List Int} (h : 0 < l.length) : l.getLast? = some l[l.length - 1] := by
  rw [List.getLast?_eq_getElem?, List.getElem?_eq_getElem (by omega)]
theorem polyB_zero {q : Int} {l : List Int} (h : 0 < l.length) (hz : l[l.length - 1] = 0) : polyB q l = false := by
  unfold polyB; rw [last_get h, hz]; simp
theorem polyB_some {q : Int} {l : List Int} (h : 0 < l.length) (h1 : l.length ≤ 1000) (hz : ¬ l[l.length - 1] = 0) : polyB q l = l.all (resB q) := by
  unfold polyB; rw [last_get h, decide_eq_true h1, Bool.true_and]; simp [hz]
set_option maxRecDepth 100000 in
set_option maxHeartbeats 1000000 in
theorem val1_long {D : Nat → Prop} (q : Int) (g : Nat) (l : List Int) {xa : Option Addr} {xk : Nat} {w : World} (hx : Fct.at w D (.rw (.slice xa l.length xk) l.length 1 (icl l))) (hg : Fct.at w D (.ce g 0 (.int .i64 q))) (hl : 1000 < l.length) :
    Calls Tryd.prog 110 #[.slice xa l.length xk, .pointer (some ⟨g, 0, none⟩)] w fun e w' => e = .returned (.bool true) ∧ Below w.heap.size w w' := by
  have E0 : Hid (Env D w [] [.ce g 0 (.int .i64 q), .rw (.slice xa l.length xk) l.length 1 (icl l)] w) := Lib.hid (((Env.start D w).arg (.rw (.slice xa l.length xk) l.length 1 (icl l)) hx).arg (.ce g 0 (.int .i64 q)) hg)
  clear hx hg
  go_enter Tryd.func110, Tryd.ntmps110
  have d1 : decide ((1000 : Int) < (l.length : Int)) = true := decide_eq_true (by omega)
  have hfin := Lib.hid E0.out.bel
  go_wp2
  go_ret
  exact ⟨rfl, hfin.out⟩
set_option maxRecDepth 100000 in
set_option maxHeartbeats 1000000 in
theorem val1_nil {D : Nat → Prop} (q : Int) (g : Nat) (l : List Int) {xa : Option Addr} {xk : Nat} {w : World} (hx : Fct.at w D (.rw (.slice xa l.length xk) l.length 1 (icl l))) (hg : Fct.at w D (.ce g 0 (.int .i64 q))) (hl : l.length = 0) :
    Calls Tryd.prog 110 #[.slice xa l.length xk, .pointer (some ⟨g, 0, none⟩)] w fun e w' => e = .returned (.bool false) ∧ Below w.heap.size w w' := by
  have E0 : Hid (Env D w [] [.ce g 0 (.int .i64 q), .rw (.slice xa l.length xk) l.length 1 (icl l)] w) := Lib.hid (((Env.start D w).arg (.rw (.slice xa l.length xk) l.length 1 (icl l)) hx).arg (.ce g 0 (.int .i64 q)) hg)
  clear hx hg
  go_enter Tryd.func110, Tryd.ntmps110
  obtain rfl := List.length_eq_zero_iff.1 hl
  clear hl
  have d1 : decide ((1000 : Int) < (([] : List Int).length : Int)) = false := rfl
  have d2 : decide ((0 : Int) < (([] : List Int).length : Int)) = false := rfl
  have z1 := (E0.out.fc 0 rfl).2
  go_wp2_with fail
  refine (residues_c q [] (t := true) (E0.out.fc 1 rfl) rfl (by simp)).mono ?_
  rintro e w1 ⟨rfl, hb⟩
  have E1 : Hid (Env D w [] [.ce g 0 (.int .i64 q), .rw (.slice xa [].length xk) [].length 1 (icl [])] w1) := Lib.hid (E0.out.below hb)
  clear z1 E0 hb
  have hfin := Lib.hid E1.out.bel
  go_wp2
  go_ret
  exact ⟨rfl, hfin.out⟩
set_option maxRecDepth 100000 in
set_option maxHeartbeats 1000000 in
theorem val1_zero {D : Nat → Prop} (q : Int) (g : Nat) (l : List Int) {xa : Option Addr} {xk : Nat} {w : World} (hx : Fct.at w D (.rw (.slice xa l.length xk) l.length 1 (icl l))) (hg : Fct.at w D (.ce g 0 (.int .i64 q))) (hl : 0 < l.length) (hl2 : l.length ≤ 1000) (hz : l[l.length - 1] = 0) :
    Calls Tryd.prog 110 #[.slice xa l.length xk, .pointer (some ⟨g, 0, none⟩)] w fun e w' => e = .returned (.bool true) ∧ Below w.heap.size w w' := by
  have E0 : Hid (Env D w [] [.ce g 0 (.int .i64 q), .rw (.slice xa l.length xk) l.length 1 (icl l)] w) := Lib.hid (((Env.start D w).arg (.rw (.slice xa l.length xk) l.length 1 (icl l)) hx).arg (.ce g 0 (.int .i64 q)) hg)
  clear hx hg
  go_enter Tryd.func110, Tryd.ntmps110
  have d1 : decide ((1000 : Int) < (l.length : Int)) = false := decide_eq_false (by omega)
  have d2 : decide ((0 : Int) < (l.length : Int)) = true := decide_eq_true (by omega)
  have d4 : wrap64 ((l.length : Int) - 1) = ((l.length - 1 : Nat) : Int) := by rw [IntWalk.wrap64_in _ (by omega)]; omega
  have d5 : (l.length : Int) - 1 = ((l.length - 1 : Nat) : Int) := by omega
  obtain ⟨xab, xao, rfl⟩ := Rw.addr (E0.out.fc 1 rfl) (by omega)
  have E1 : Hid (Env D w [] [.ce xab (xao + (l.length - 1)) (.int .i64 l[l.length - 1]), .ce g 0 (.int .i64 q), .rw (.slice (some ⟨xab, xao, none⟩) l.length xk) l.length 1 (icl l)] _) := Lib.hid (E0.out.elI 1 rfl rfl (l.length - 1) (by omega))
  clear E0
  have u0 := (E1.out.fc 0 rfl).2
  have d3 : (l[l.length - 1] == 0) = true := by simp [hz]
  clear hz
  have hfin := Lib.hid E1.out.bel
  go_wp2
  go_ret
  exact ⟨rfl, hfin.out⟩
set_option maxRecDepth 100000 in
set_option maxHeartbeats 1000000 in
theorem val1_some {D : Nat → Prop} (q : Int) (g : Nat) (l : List Int) {xa : Option Addr} {xk : Nat} {w : World} (hx : Fct.at w D (.rw (.slice xa l.length xk) l.length 1 (icl l))) (hg : Fct.at w D (.ce g 0 (.int .i64 q))) (hl : 0 < l.length) (hl2 : l.length ≤ 1000) (hz : ¬ l[l.length - 1] = 0) {t : Bool} (ht0 : l.all (resB q) = t) :
    Calls Tryd.prog 110 #[.slice xa l.length xk, .pointer (some ⟨g, 0, none⟩)] w fun e w' => e = .returned (.bool (!t)) ∧ Below w.heap.size w w' := by
  have E0 : Hid (Env D w [] [.ce g 0 (.int .i64 q), .rw (.slice xa l.length xk) l.length 1 (icl l)] w) := Lib.hid (((Env.start D w).arg (.rw (.slice xa l.length xk) l.length 1 (icl l)) hx).arg (.ce g 0 (.int .i64 q)) hg)
  clear hx hg
  go_enter Tryd.func110, Tryd.ntmps110
  have ht := Lib.hid ht0
  clear ht0
  have d1 : decide ((1000 : Int) < (l.length : Int)) = false := decide_eq_false (by omega)
  have d2 : decide ((0 : Int) < (l.length : Int)) = true := decide_eq_true (by omega)
  have d4 : wrap64 ((l.length : Int) - 1) = ((l.length - 1 : Nat) : Int) := by rw [IntWalk.wrap64_in _ (by omega)]; omega
  have d5 : (l.length : Int) - 1 = ((l.length - 1 : Nat) : Int) := by omega
  obtain ⟨xab, xao, rfl⟩ := Rw.addr (E0.out.fc 1 rfl) (by omega)
  have E1 : Hid (Env D w [] [.ce xab (xao + (l.length - 1)) (.int .i64 l[l.length - 1]), .ce g 0 (.int .i64 q), .rw (.slice (some ⟨xab, xao, none⟩) l.length xk) l.length 1 (icl l)] _) := Lib.hid (E0.out.elI 1 rfl rfl (l.length - 1) (by omega))
  clear E0
  have u0 := (E1.out.fc 0 rfl).2
  have d3 : (l[l.length - 1] == 0) = false := by simp [hz]
  clear hz
  have z1 := (E1.out.fc 1 rfl).2
  go_wp2_with fail
  refine (residues_c q l (E1.out.fc 2 rfl) ht.out (by omega)).mono ?_
  rintro e w1 ⟨rfl, hb⟩
  have E2 : Hid (Env D w [] [.ce xab (xao + (l.length - 1)) (.int .i64 l[l.length - 1]), .ce g 0 (.int .i64 q), .rw (.slice (some ⟨xab, xao, none⟩) l.length xk) l.length 1 (icl l)] w1) := Lib.hid (E1.out.below hb)
  clear u0 z1 E1 hb
  have hfin := Lib.hid E2.out.bel
  go_wp2
  go_ret
  exact ⟨rfl, hfin.out⟩
theorem val1_c {D : Nat → Prop} (q : Int) (g : Nat) (l : List Int) {xa : Option Addr} {xk : Nat} {w : World} (hx : Fct.at w D (.rw (.slice xa l.length xk) l.length 1 (icl l))) (hg : Fct.at w D (.ce g 0 (.int .i64 q))) {t : Bool} (ht : (!polyB q l) = t) :
    Calls Tryd.prog 110 #[.slice xa l.length xk, .pointer (some ⟨g, 0, none⟩)] w fun e w' => e = .returned (.bool t) ∧ Below w.heap.size w w' := by
  by_cases h1 : 1000 < l.length
  · rw [polyB_long h1] at ht; subst ht; exact val1_long q g l hx hg h1
  · by_cases h2 : l.length = 0
    · rw [polyB_nil h2] at ht; subst ht; exact val1_nil q g l hx hg h2
    · by_cases h3 : l[l.length - 1] = 0
      · rw [polyB_zero (by omega) h3] at ht; subst ht; exact val1_zero q g l hx hg (by omega) (by omega) h3
      · rw [polyB_some (by omega) (by omega) h3] at ht; subst ht; exact val1_some q g l hx hg (by omega) (by omega) h3 rfl
set_option maxRecDepth 100000 in
set_option maxHeartbeats 1000000 in
theorem valI {D : Nat → Prop} (l : List (List Int)) (q : Int) (g : Nat) {xa : Option Addr} {xk : Nat} {w : World} (hx : Fct.at w D (.mx (.slice xa l.length xk) l)) (hg : Fct.at w D (.ce g 0 (.int .i64 q)))  {r : Int} (hr0 : (r = -1 ∧ ∀ k (h : k < l.length), (!polyB q l[k]) = false) ∨ ∃ k : Nat, r = (k : Int) ∧ ∃ h : k < l.length, (!polyB q l[k]) = true ∧ ∀ j (h : j < l.length), j < k → (!polyB q l[j]) = false) (hm : l.length ≤ 1000000) :
    Calls Tryd.prog 87 #[.slice xa l.length xk, .func (.func 110) #[] #[.pointer (some ⟨g, 0, none⟩)]] w fun e w' => e = .returned (.int .i64 r) ∧ Below w.heap.size w w' := by
  have E0 : Hid (Env D w [] [.ce g 0 (.int .i64 q), .mx (.slice xa l.length xk) l] w) := Lib.hid (((Env.start D w).arg (.mx (.slice xa l.length xk) l) hx).arg (.ce g 0 (.int .i64 q)) hg)
  clear hx hg
  go_enter Tryd.func87, Tryd.ntmps87
  have hr := Lib.hid hr0
  clear hr0
  go_wp2_with fail
  go_loopg [8] (l.length) (fun gk s8 wr => ∃ (k : Nat), s8 = .int .i64 (k : Int) ∧ Hid (Env D w [] [.ce g 0 (.int .i64 q), .mx (.slice xa l.length xk) l] wr) ∧ Hid ((k ≤ l.length ∧ gk = l.length - k) ∧ ∀ j (h : j < l.length), j < k → (!polyB q l[j]) = false))
  case atStart => exact ⟨0, rfl, Lib.hid E0.out, Lib.hid ⟨⟨Nat.zero_le _, rfl⟩, fun j _ h => absurd h (Nat.not_lt_zero _)⟩⟩
  case round =>
    clear E0
    obtain ⟨k, rfl, EL, HA⟩ := hrel
    obtain ⟨⟨a1, a2⟩, a3⟩ := HA.out
    have HS := Lib.hid a3
    clear a3 HA
    by_cases hy : k = l.length
    rotate_left
    · have hk : k < l.length := by omega
      have t6 : decide ((k : Int) < (l.length : Int)) = true := decide_eq_true (by omega)
      have t7 : decide (k < l.length) = true := decide_eq_true hk
      clear hy
      obtain ⟨xab, xao, rfl⟩ := Mx.addr (EL.out.fc 1 rfl) hk
      obtain ⟨ua, uk, E10⟩ := EL.out.elM 1 rfl (k) hk
      have E1 : Hid (Env D w [] [.ce xab (xao + k) (.slice ua l[k].length uk), .rw (.slice ua l[k].length uk) l[k].length 1 (icl l[k]), .ce g 0 (.int .i64 q), .mx (.slice (some ⟨xab, xao, none⟩) l.length xk) l] _) := Lib.hid E10
      clear E10 EL
      have u0 := (E1.out.fc 0 rfl).2
      by_cases hb : (!polyB q l[k]) = true
      · have HB := Lib.hid hb
        have HR : Hid (r = (k : Int)) := Lib.hid (by rcases hr.out with ⟨_, h9⟩ | ⟨j, rfl, hj, h8, h7⟩; (· have := h9 k hk; rw [hb] at this; cases this); rcases Nat.lt_trichotomy j k with e | e | e; (· have := HS.out j hj e; rw [h8] at this; cases this); (· rw [e]); (· have := h7 k hk e; rw [hb] at this; cases this))
        clear hb
        go_wp2_with fail
        refine (val1_c q g l[k] (E1.out.fc 1 rfl) (E1.out.fc 2 rfl) HB.out).mono ?_
        rintro e w1 ⟨rfl, hb⟩
        have E2 : Hid (Env D w [] [.ce xab (xao + k) (.slice ua l[k].length uk), .rw (.slice ua l[k].length uk) l[k].length 1 (icl l[k]), .ce g 0 (.int .i64 q), .mx (.slice (some ⟨xab, xao, none⟩) l.length xk) l] w1) := Lib.hid (E1.out.below hb)
        clear u0 E1 hb
        have hfin := Lib.hid E2.out.bel
        go_wp2
        go_ret
        exact ⟨RetEq HR.out.symm, hfin.out⟩
      · have HB := Lib.hid (Bool.eq_false_iff.2 hb)
        clear hb
        go_wp2_with fail
        refine (val1_c q g l[k] (E1.out.fc 1 rfl) (E1.out.fc 2 rfl) HB.out).mono ?_
        rintro e w1 ⟨rfl, hb⟩
        have E2 : Hid (Env D w [] [.ce xab (xao + k) (.slice ua l[k].length uk), .rw (.slice ua l[k].length uk) l[k].length 1 (icl l[k]), .ce g 0 (.int .i64 q), .mx (.slice (some ⟨xab, xao, none⟩) l.length xk) l] w1) := Lib.hid (E1.out.below hb)
        clear u0 E1 hb
        have EZ := Lib.hid ((E2.out.forget).forget)
        go_wp2
        go_roundg (l.length - (k + 1))
        case rel => exact ⟨k + 1, rfl, EZ, Lib.hid ⟨⟨by omega, rfl⟩, fun j h hj => by by_cases e : j = k; (· subst e; exact HB.out); exact HS.out j h (by omega)⟩⟩
        case measure => exact by omega
    have t6 : decide ((k : Int) < (l.length : Int)) = false := decide_eq_false (by omega)
    have t7 : decide (k < l.length) = false := decide_eq_false (by omega)
    have HR : Hid (r = -1) := Lib.hid (by rcases hr.out with ⟨h9, _⟩ | ⟨j, rfl, hj, h8, h7⟩; (· exact h9); have := HS.out j hj (by omega); rw [h8] at this; cases this)
    have HY := Lib.hid hy
    clear hy
    have hfin := Lib.hid EL.out.bel
    go_wp2
    go_ret
    exact ⟨RetEq HR.out.symm, hfin.out⟩
set_option maxRecDepth 100000 in
set_option maxHeartbeats 1000000 in
theorem valC {D : Nat → Prop} (l : List (List Int)) (q : Int) (g : Nat) {xa : Option Addr} {xk : Nat} {w : World} (hx : Fct.at w D (.mx (.slice xa l.length xk) l)) (hg : Fct.at w D (.ce g 0 (.int .i64 q)))  {t : Bool} (ht0 : l.any (fun x => (!polyB q x)) = t) (hm : l.length ≤ 1000000) :
    Calls Tryd.prog 40 #[.slice xa l.length xk, .func (.func 110) #[] #[.pointer (some ⟨g, 0, none⟩)]] w fun e w' => e = .returned (.bool t) ∧ Below w.heap.size w w' := by
  have E0 : Hid (Env D w [] [.ce g 0 (.int .i64 q), .mx (.slice xa l.length xk) l] w) := Lib.hid (((Env.start D w).arg (.mx (.slice xa l.length xk) l) hx).arg (.ce g 0 (.int .i64 q)) hg)
  clear hx hg
  go_enter Tryd.func40, Tryd.ntmps40
  have ht := Lib.hid ht0
  clear ht0
  obtain ⟨r, hr⟩ : ∃ r : Int, ((r = -1 ∧ ∀ k (h : k < l.length), (!polyB q l[k]) = false) ∨ ∃ k : Nat, r = (k : Int) ∧ ∃ h : k < l.length, (!polyB q l[k]) = true ∧ ∀ j (h : j < l.length), j < k → (!polyB q l[j]) = false) := first_any l (fun x => (!polyB q x))
  have hd : Hid (decide (0 ≤ r) = t) := Lib.hid (by rw [← ht.out]; exact first_dec hr)
  have HR := Lib.hid hr
  clear hr ht
  go_wp2_with fail
  refine (valI l q g (E0.out.fc 1 rfl) (E0.out.fc 0 rfl) (hr0 := HR.out) (hm := hm)).mono ?_
  rintro e w1 ⟨rfl, hb⟩
  have E1 : Hid (Env D w [] [.ce g 0 (.int .i64 q), .mx (.slice xa l.length xk) l] w1) := Lib.hid (E0.out.below hb)
  clear E0 hb
  have HD := hd.out
  have hfin := Lib.hid E1.out.bel
  go_wp2
  go_ret
  exact ⟨rfl, hfin.out⟩
/-- q is a prime, and the lists are polynomials -/
def validB (q : Int) (L : List (List Int)) : Bool := fieldB q && L.all (polyB q)
set_option maxRecDepth 100000 in
set_option maxHeartbeats 1000000 in
theorem valid_no {D : Nat → Prop} (q : Int) (L : List (List Int)) {xa : Option Addr} {xk : Nat} {w : World} (hx : Fct.at w D (.mx (.slice xa L.length xk) L)) (hl0 : Laid w) (hn : -9223372036854775808 ≤ q ∧ q ≤ 9223372036854775807) (hf0 : fieldB q = false) :
    Calls Tryd.prog 69 #[.int .i64 q, .slice xa L.length xk] w fun e w' => e = .returned (.bool false) ∧ Below w.heap.size w w' := by
  have E0 : Hid (Env D w [] [.mx (.slice xa L.length xk) L] w) := Lib.hid ((Env.start D w).arg (.mx (.slice xa L.length xk) L) hx)
  clear hx
  go_enter Tryd.func69, Tryd.ntmps69
  have hl := Lib.hid hl0
  have hf := Lib.hid hf0
  clear hl0 hf0
  go_wp2_with fail
  have E1 : Hid (Env D w [(w.heap.size, 3, [.int .i64 q])] [.mx (.slice xa L.length xk) L] _) := Lib.hid ((E0.out.push 3 [.int .i64 q] (w.heap.size) (by simp)))
  refine (isPrime_c q _ (hl.out.below E1.out.bel) hn hf.out).mono ?_
  rintro e w1 ⟨rfl, hb⟩
  have E2 : Hid (Env D w [(w.heap.size, 3, [.int .i64 q])] [.mx (.slice xa L.length xk) L] w1) := Lib.hid (E1.out.below hb)
  clear E0 E1 hb
  have hfin := Lib.hid E2.out.bel
  go_wp2
  go_ret
  exact ⟨rfl, hfin.out⟩
set_option maxRecDepth 100000 in
set_option maxHeartbeats 1000000 in
theorem valid_yes {D : Nat → Prop} (q : Int) (L : List (List Int)) {xa : Option Addr} {xk : Nat} {w : World} (hx : Fct.at w D (.mx (.slice xa L.length xk) L)) (hl0 : Laid w) (hn : -9223372036854775808 ≤ q ∧ q ≤ 9223372036854775807) (hf0 : fieldB q = true) {t : Bool} (ht0 : L.all (polyB q) = t) (hm : L.length ≤ 1000000) :
    Calls Tryd.prog 69 #[.int .i64 q, .slice xa L.length xk] w fun e w' => e = .returned (.bool t) ∧ Below w.heap.size w w' := by
  have E0 : Hid (Env D w [] [.mx (.slice xa L.length xk) L] w) := Lib.hid ((Env.start D w).arg (.mx (.slice xa L.length xk) L) hx)
  clear hx
  go_enter Tryd.func69, Tryd.ntmps69
  have ht : Hid (L.any (fun x => !polyB q x) = !t) := Lib.hid (by rw [← ht0, List.not_all_eq_any_not])
  clear ht0
  have hl := Lib.hid hl0
  have hf := Lib.hid hf0
  clear hl0 hf0
  go_wp2_with fail
  have E1 : Hid (Env D w [(w.heap.size, 3, [.int .i64 q])] [.mx (.slice xa L.length xk) L] _) := Lib.hid ((E0.out.push 3 [.int .i64 q] (w.heap.size) (by simp)))
  refine (isPrime_c q _ (hl.out.below E1.out.bel) hn hf.out).mono ?_
  rintro e w1 ⟨rfl, hb⟩
  have E2 : Hid (Env D w [(w.heap.size, 3, [.int .i64 q])] [.mx (.slice xa L.length xk) L] w1) := Lib.hid (E1.out.below hb)
  clear E0 E1 hb
  go_wp2_with fail
  refine (valC L q (w.heap.size) (Fct.any (E2.out.fc 0 rfl)) ⟨⟨(E2.out.bx 0 rfl).lt, trivial⟩, (E2.out.bx 0 rfl).cell 0 rfl⟩ ht.out hm).mono ?_
  rintro e w2 ⟨rfl, hb⟩
  have E3 : Hid (Env D w [(w.heap.size, 3, [.int .i64 q])] [.mx (.slice xa L.length xk) L] w2) := Lib.hid (E2.out.below hb)
  clear E2 hb
  have hfin := Lib.hid E3.out.bel
  go_wp2
  go_ret
  exact ⟨rfl, hfin.out⟩
theorem valid_c {D : Nat → Prop} (q : Int) (L : List (List Int)) {xa : Option Addr} {xk : Nat} {w : World} (hx : Fct.at w D (.mx (.slice xa L.length xk) L)) (hl : Laid w) (hn : -9223372036854775808 ≤ q ∧ q ≤ 9223372036854775807) {t : Bool} (ht : validB q L = t) (hm : L.length ≤ 1000000) :
    Calls Tryd.prog 69 #[.int .i64 q, .slice xa L.length xk] w fun e w' => e = .returned (.bool t) ∧ Below w.heap.size w w' := by
  unfold validB at ht
  cases hf : fieldB q with
  | false => rw [hf, Bool.false_and] at ht; subst ht; exact valid_no q L hx hl hn hf
  | true => rw [hf, Bool.true_and] at ht; exact valid_yes q L hx hl hn hf ht hm
end Go.Proofs.YteipbcpnnojclaaDoor

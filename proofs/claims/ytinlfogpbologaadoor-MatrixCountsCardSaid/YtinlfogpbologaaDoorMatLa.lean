/- specielaw14: great. -/
import Derived.Test.YtinlfogpbologaaDoorMatJ
namespace Go.Proofs.YtinlfogpbologaaDoor
open Go.RowKit DivMath WordMath
set_option linter.unusedVariables false
set_option linter.unusedSimpArgs false
/-- too long for the law, but perhaps valid; or more than 100 -/
def grB (n : Nat) : Bool := (decide (12 < n) && decide (n ≤ 30)) || decide (100 < n)
set_option maxRecDepth 100000 in
set_option maxHeartbeats 1000000 in
theorem great2_a {D : Nat → Prop} (l : List Int) {xa : Option Addr} {xk : Nat} {w : World} (hx : Fct.at w D (.rw (.slice xa l.length xk) l.length 1 (icl l))) (hm : l.length ≤ 12) :
    Calls Tryd.prog 73 #[.slice xa l.length xk] w fun e w' => e = .returned (.bool false) ∧ Below w.heap.size w w' := by
  have E0 : Hid (Env D w [] [.rw (.slice xa l.length xk) l.length 1 (icl l)] w) := Lib.hid ((Env.start D w).arg (.rw (.slice xa l.length xk) l.length 1 (icl l)) hx)
  clear hx
  go_enter Tryd.func73, Tryd.ntmps73
  have d1 : decide ((12 < (l.length : Int))) = false := decide_eq_false (by omega)
  have d1n : decide ((12 < l.length)) = false := decide_eq_false (by omega)
  have d3 : decide ((100 < (l.length : Int))) = false := decide_eq_false (by omega)
  have d3n : decide ((100 < l.length)) = false := decide_eq_false (by omega)
  clear hm
  have hfin := Lib.hid E0.out.bel
  go_wp2
  go_ret
  exact ⟨rfl, hfin.out⟩
set_option maxRecDepth 100000 in
set_option maxHeartbeats 1000000 in
theorem great2_b {D : Nat → Prop} (l : List Int) {xa : Option Addr} {xk : Nat} {w : World} (hx : Fct.at w D (.rw (.slice xa l.length xk) l.length 1 (icl l))) (hm : 12 < l.length ∧ l.length ≤ 30) :
    Calls Tryd.prog 73 #[.slice xa l.length xk] w fun e w' => e = .returned (.bool true) ∧ Below w.heap.size w w' := by
  have E0 : Hid (Env D w [] [.rw (.slice xa l.length xk) l.length 1 (icl l)] w) := Lib.hid ((Env.start D w).arg (.rw (.slice xa l.length xk) l.length 1 (icl l)) hx)
  clear hx
  go_enter Tryd.func73, Tryd.ntmps73
  have d1 : decide ((12 < (l.length : Int))) = true := decide_eq_true (by omega)
  have d1n : decide ((12 < l.length)) = true := decide_eq_true (by omega)
  have d2 : decide (((l.length : Int) ≤ 30)) = true := decide_eq_true (by omega)
  have d2n : decide ((l.length ≤ 30)) = true := decide_eq_true (by omega)
  clear hm
  have hfin := Lib.hid E0.out.bel
  go_wp2
  go_ret
  exact ⟨rfl, hfin.out⟩
set_option maxRecDepth 100000 in
set_option maxHeartbeats 1000000 in
theorem great2_c' {D : Nat → Prop} (l : List Int) {xa : Option Addr} {xk : Nat} {w : World} (hx : Fct.at w D (.rw (.slice xa l.length xk) l.length 1 (icl l))) (hm : 30 < l.length ∧ l.length ≤ 100) :
    Calls Tryd.prog 73 #[.slice xa l.length xk] w fun e w' => e = .returned (.bool false) ∧ Below w.heap.size w w' := by
  have E0 : Hid (Env D w [] [.rw (.slice xa l.length xk) l.length 1 (icl l)] w) := Lib.hid ((Env.start D w).arg (.rw (.slice xa l.length xk) l.length 1 (icl l)) hx)
  clear hx
  go_enter Tryd.func73, Tryd.ntmps73
  have d1 : decide ((12 < (l.length : Int))) = true := decide_eq_true (by omega)
  have d1n : decide ((12 < l.length)) = true := decide_eq_true (by omega)
  have d2 : decide (((l.length : Int) ≤ 30)) = false := decide_eq_false (by omega)
  have d2n : decide ((l.length ≤ 30)) = false := decide_eq_false (by omega)
  have d3 : decide ((100 < (l.length : Int))) = false := decide_eq_false (by omega)
  have d3n : decide ((100 < l.length)) = false := decide_eq_false (by omega)
  clear hm
  have hfin := Lib.hid E0.out.bel
  go_wp2
  go_ret
  exact ⟨rfl, hfin.out⟩
set_option maxRecDepth 100000 in
set_option maxHeartbeats 1000000 in
theorem great2_d {D : Nat → Prop} (l : List Int) {xa : Option Addr} {xk : Nat} {w : World} (hx : Fct.at w D (.rw (.slice xa l.length xk) l.length 1 (icl l))) (hm : 100 < l.length) :
    Calls Tryd.prog 73 #[.slice xa l.length xk] w fun e w' => e = .returned (.bool true) ∧ Below w.heap.size w w' := by
  have E0 : Hid (Env D w [] [.rw (.slice xa l.length xk) l.length 1 (icl l)] w) := Lib.hid ((Env.start D w).arg (.rw (.slice xa l.length xk) l.length 1 (icl l)) hx)
  clear hx
  go_enter Tryd.func73, Tryd.ntmps73
  have d1 : decide ((12 < (l.length : Int))) = true := decide_eq_true (by omega)
  have d1n : decide ((12 < l.length)) = true := decide_eq_true (by omega)
  have d2 : decide (((l.length : Int) ≤ 30)) = false := decide_eq_false (by omega)
  have d2n : decide ((l.length ≤ 30)) = false := decide_eq_false (by omega)
  have d3 : decide ((100 < (l.length : Int))) = true := decide_eq_true (by omega)
  have d3n : decide ((100 < l.length)) = true := decide_eq_true (by omega)
  clear hm
  have hfin := Lib.hid E0.out.bel
  go_wp2
  go_ret
  exact ⟨rfl, hfin.out⟩
theorem great2_c {D : Nat → Prop} (l : List Int) {xa : Option Addr} {xk : Nat} {w : World} (hx : Fct.at w D (.rw (.slice xa l.length xk) l.length 1 (icl l))) :
    Calls Tryd.prog 73 #[.slice xa l.length xk] w fun e w' => e = .returned (.bool (grB l.length)) ∧ Below w.heap.size w w' := by
  by_cases h1 : l.length ≤ 12
  · rw [show grB l.length = false from by unfold grB; rw [decide_eq_false (show ¬ 12 < l.length by omega), decide_eq_false (show ¬ 100 < l.length by omega)]; rfl]; exact great2_a l hx h1
  by_cases h2 : l.length ≤ 30
  · rw [show grB l.length = true from by unfold grB; rw [decide_eq_true (show 12 < l.length by omega), decide_eq_true h2]; rfl]; exact great2_b l hx ⟨by omega, h2⟩
  by_cases h3 : l.length ≤ 100
  · rw [show grB l.length = false from by unfold grB; rw [decide_eq_false h2, decide_eq_false (show ¬ 100 < l.length by omega), Bool.and_false]; rfl]; exact great2_c' l hx ⟨by omega, h3⟩
  · rw [show grB l.length = true from by unfold grB; rw [decide_eq_true (show 100 < l.length by omega), Bool.or_true]]; exact great2_d l hx (by omega)
theorem great2_t {D : Nat → Prop} (l : List Int) {xa : Option Addr} {xk : Nat} {w : World} (hx : Fct.at w D (.rw (.slice xa l.length xk) l.length 1 (icl l))) {t : Bool} (ht : grB l.length = t) :
    Calls Tryd.prog 73 #[.slice xa l.length xk] w fun e w' => e = .returned (.bool t) ∧ Below w.heap.size w w' := by
  subst ht; exact great2_c l hx
set_option maxRecDepth 100000 in
set_option maxHeartbeats 1000000 in
theorem grrI {D : Nat → Prop} (l : List (List Int))  {xa : Option Addr} {xk : Nat} {w : World} (hx : Fct.at w D (.mx (.slice xa l.length xk) l))  {r : Int} (hr0 : (r = -1 ∧ ∀ k (h : k < l.length), grB (l[k]).length = false) ∨ ∃ k : Nat, r = (k : Int) ∧ ∃ h : k < l.length, grB (l[k]).length = true ∧ ∀ j (h : j < l.length), j < k → grB (l[j]).length = false) (hm : l.length ≤ 1000000) :
    Calls Tryd.prog 111 #[.slice xa l.length xk, .func (.func 73) #[] #[]] w fun e w' => e = .returned (.int .i64 r) ∧ Below w.heap.size w w' := by
  have E0 : Hid (Env D w [] [.mx (.slice xa l.length xk) l] w) := Lib.hid ((Env.start D w).arg (.mx (.slice xa l.length xk) l) hx)
  clear hx
  go_enter Tryd.func111, Tryd.ntmps111
  have hr := Lib.hid hr0
  clear hr0
  go_wp2_with fail
  go_loopg [8] (l.length) (fun gk s8 wr => ∃ (k : Nat), s8 = .int .i64 (k : Int) ∧ Hid (Env D w [] [.mx (.slice xa l.length xk) l] wr) ∧ Hid ((k ≤ l.length ∧ gk = l.length - k) ∧ ∀ j (h : j < l.length), j < k → grB (l[j]).length = false))
  case atStart => exact ⟨0, rfl, Lib.hid E0.out, Lib.hid ⟨⟨Nat.zero_le _, rfl⟩, fun j _ h => absurd h (Nat.not_lt_zero _)⟩⟩
  case round =>
    clear E0
    obtain ⟨k, rfl, EL, HA⟩ := hrel
    obtain ⟨⟨a1, a2⟩, a3⟩ := HA.out
    have HS := Lib.hid a3
    clear a3 HA
    by_cases hy : k = l.length
    rotate_left
    · have hk : k < l.length := by omega
      have t6 : decide ((k : Int) < (l.length : Int)) = true := decide_eq_true (by omega)
      have t7 : decide (k < l.length) = true := decide_eq_true hk
      clear hy
      obtain ⟨xab, xao, rfl⟩ := Mx.addr (EL.out.fc 0 rfl) hk
      obtain ⟨ua, uk, E10⟩ := EL.out.elM 0 rfl (k) hk
      have E1 : Hid (Env D w [] [.ce xab (xao + k) (.slice ua l[k].length uk), .rw (.slice ua l[k].length uk) l[k].length 1 (icl l[k]), .mx (.slice (some ⟨xab, xao, none⟩) l.length xk) l] _) := Lib.hid E10
      clear E10 EL
      have u0 := (E1.out.fc 0 rfl).2
      by_cases hb : grB (l[k]).length = true
      · have HB := Lib.hid hb
        have HR : Hid (r = (k : Int)) := Lib.hid (by rcases hr.out with ⟨_, h9⟩ | ⟨j, rfl, hj, h8, h7⟩; (· have := h9 k hk; rw [hb] at this; cases this); rcases Nat.lt_trichotomy j k with e | e | e; (· have := HS.out j hj e; rw [h8] at this; cases this); (· rw [e]); (· have := h7 k hk e; rw [hb] at this; cases this))
        clear hb
        go_wp2_with fail
        refine (great2_t l[k] (E1.out.fc 1 rfl) HB.out).mono ?_
        rintro e w1 ⟨rfl, hb⟩
        have E2 : Hid (Env D w [] [.ce xab (xao + k) (.slice ua l[k].length uk), .rw (.slice ua l[k].length uk) l[k].length 1 (icl l[k]), .mx (.slice (some ⟨xab, xao, none⟩) l.length xk) l] w1) := Lib.hid (E1.out.below hb)
        clear u0 E1 hb
        have hfin := Lib.hid E2.out.bel
        go_wp2
        go_ret
        exact ⟨RetEq HR.out.symm, hfin.out⟩
      · have HB := Lib.hid (Bool.eq_false_iff.2 hb)
        clear hb
        go_wp2_with fail
        refine (great2_t l[k] (E1.out.fc 1 rfl) HB.out).mono ?_
        rintro e w1 ⟨rfl, hb⟩
        have E2 : Hid (Env D w [] [.ce xab (xao + k) (.slice ua l[k].length uk), .rw (.slice ua l[k].length uk) l[k].length 1 (icl l[k]), .mx (.slice (some ⟨xab, xao, none⟩) l.length xk) l] w1) := Lib.hid (E1.out.below hb)
        clear u0 E1 hb
        have EZ := Lib.hid ((E2.out.forget).forget)
        go_wp2
        go_roundg (l.length - (k + 1))
        case rel => exact ⟨k + 1, rfl, EZ, Lib.hid ⟨⟨by omega, rfl⟩, fun j h hj => by by_cases e : j = k; (· subst e; exact HB.out); exact HS.out j h (by omega)⟩⟩
        case measure => exact by omega
    have t6 : decide ((k : Int) < (l.length : Int)) = false := decide_eq_false (by omega)
    have t7 : decide (k < l.length) = false := decide_eq_false (by omega)
    have HR : Hid (r = -1) := Lib.hid (by rcases hr.out with ⟨h9, _⟩ | ⟨j, rfl, hj, h8, h7⟩; (· exact h9); have := HS.out j hj (by omega); rw [h8] at this; cases this)
    have HY := Lib.hid hy
    clear hy
    have hfin := Lib.hid EL.out.bel
    go_wp2
    go_ret
    exact ⟨RetEq HR.out.symm, hfin.out⟩
set_option maxRecDepth 100000 in
set_option maxHeartbeats 1000000 in
theorem grrC {D : Nat → Prop} (l : List (List Int))  {xa : Option Addr} {xk : Nat} {w : World} (hx : Fct.at w D (.mx (.slice xa l.length xk) l))  {t : Bool} (ht0 : l.any (fun x => grB (x).length) = t) (hm : l.length ≤ 1000000) :
    Calls Tryd.prog 72 #[.slice xa l.length xk, .func (.func 73) #[] #[]] w fun e w' => e = .returned (.bool t) ∧ Below w.heap.size w w' := by
  have E0 : Hid (Env D w [] [.mx (.slice xa l.length xk) l] w) := Lib.hid ((Env.start D w).arg (.mx (.slice xa l.length xk) l) hx)
  clear hx
  go_enter Tryd.func72, Tryd.ntmps72
  have ht := Lib.hid ht0
  clear ht0
  obtain ⟨r, hr⟩ : ∃ r : Int, ((r = -1 ∧ ∀ k (h : k < l.length), grB (l[k]).length = false) ∨ ∃ k : Nat, r = (k : Int) ∧ ∃ h : k < l.length, grB (l[k]).length = true ∧ ∀ j (h : j < l.length), j < k → grB (l[j]).length = false) := first_any l (fun x => grB (x).length)
  have hd : Hid (decide (0 ≤ r) = t) := Lib.hid (by rw [← ht.out]; exact first_dec hr)
  have HR := Lib.hid hr
  clear hr ht
  go_wp2_with fail
  refine (grrI l  (E0.out.fc 0 rfl)  (hr0 := HR.out) (hm := hm)).mono ?_
  rintro e w1 ⟨rfl, hb⟩
  have E1 : Hid (Env D w [] [.mx (.slice xa l.length xk) l] w1) := Lib.hid (E0.out.below hb)
  clear E0 hb
  have HD := hd.out
  have hfin := Lib.hid E1.out.bel
  go_wp2
  go_ret
  exact ⟨rfl, hfin.out⟩
def grM (M : List (List Int)) : Bool := grB M.length || M.any (fun x => grB x.length)
set_option maxRecDepth 100000 in
set_option maxHeartbeats 1000000 in
theorem great1_a {D : Nat → Prop} (l : List (List Int)) {xa : Option Addr} {xk : Nat} {w : World} (hx : Fct.at w D (.mx (.slice xa l.length xk) l)) (hm : l.length ≤ 12) {t : Bool} (ht0 : l.any (fun x => grB x.length) = t) :
    Calls Tryd.prog 71 #[.slice xa l.length xk] w fun e w' => e = .returned (.bool t) ∧ Below w.heap.size w w' := by
  have E0 : Hid (Env D w [] [.mx (.slice xa l.length xk) l] w) := Lib.hid ((Env.start D w).arg (.mx (.slice xa l.length xk) l) hx)
  clear hx
  go_enter Tryd.func71, Tryd.ntmps71
  have ht := Lib.hid ht0
  clear ht0
  have d1 : decide ((12 < (l.length : Int))) = false := decide_eq_false (by omega)
  have d1n : decide ((12 < l.length)) = false := decide_eq_false (by omega)
  have d3 : decide ((100 < (l.length : Int))) = false := decide_eq_false (by omega)
  have d3n : decide ((100 < l.length)) = false := decide_eq_false (by omega)
  have HL : Hid (l.length ≤ 1000000 ∨ 100 < l.length) := Lib.hid (by omega)
  have HM : Hid (l.length ≤ 1000000) := Lib.hid (by omega)
  clear hm
  go_wp2_with fail
  refine (grrC l (E0.out.fc 0 rfl) ht.out HM.out).mono ?_
  rintro e w1 ⟨rfl, hb⟩
  have E1 : Hid (Env D w [] [.mx (.slice xa l.length xk) l] w1) := Lib.hid (E0.out.below hb)
  clear E0 hb
  have hfin := Lib.hid E1.out.bel
  go_wp2
  go_ret
  exact ⟨rfl, hfin.out⟩
set_option maxRecDepth 100000 in
set_option maxHeartbeats 1000000 in
theorem great1_b {D : Nat → Prop} (l : List (List Int)) {xa : Option Addr} {xk : Nat} {w : World} (hx : Fct.at w D (.mx (.slice xa l.length xk) l)) (hm : 12 < l.length ∧ l.length ≤ 30) :
    Calls Tryd.prog 71 #[.slice xa l.length xk] w fun e w' => e = .returned (.bool true) ∧ Below w.heap.size w w' := by
  have E0 : Hid (Env D w [] [.mx (.slice xa l.length xk) l] w) := Lib.hid ((Env.start D w).arg (.mx (.slice xa l.length xk) l) hx)
  clear hx
  go_enter Tryd.func71, Tryd.ntmps71
  have d1 : decide ((12 < (l.length : Int))) = true := decide_eq_true (by omega)
  have d1n : decide ((12 < l.length)) = true := decide_eq_true (by omega)
  have d2 : decide (((l.length : Int) ≤ 30)) = true := decide_eq_true (by omega)
  have d2n : decide ((l.length ≤ 30)) = true := decide_eq_true (by omega)
  have HL : Hid (l.length ≤ 1000000 ∨ 100 < l.length) := Lib.hid (by omega)
  clear hm
  have hfin := Lib.hid E0.out.bel
  go_wp2
  go_ret
  exact ⟨rfl, hfin.out⟩
set_option maxRecDepth 100000 in
set_option maxHeartbeats 1000000 in
theorem great1_c' {D : Nat → Prop} (l : List (List Int)) {xa : Option Addr} {xk : Nat} {w : World} (hx : Fct.at w D (.mx (.slice xa l.length xk) l)) (hm : 30 < l.length ∧ l.length ≤ 100) {t : Bool} (ht0 : l.any (fun x => grB x.length) = t) :
    Calls Tryd.prog 71 #[.slice xa l.length xk] w fun e w' => e = .returned (.bool t) ∧ Below w.heap.size w w' := by
  have E0 : Hid (Env D w [] [.mx (.slice xa l.length xk) l] w) := Lib.hid ((Env.start D w).arg (.mx (.slice xa l.length xk) l) hx)
  clear hx
  go_enter Tryd.func71, Tryd.ntmps71
  have ht := Lib.hid ht0
  clear ht0
  have d1 : decide ((12 < (l.length : Int))) = true := decide_eq_true (by omega)
  have d1n : decide ((12 < l.length)) = true := decide_eq_true (by omega)
  have d2 : decide (((l.length : Int) ≤ 30)) = false := decide_eq_false (by omega)
  have d2n : decide ((l.length ≤ 30)) = false := decide_eq_false (by omega)
  have d3 : decide ((100 < (l.length : Int))) = false := decide_eq_false (by omega)
  have d3n : decide ((100 < l.length)) = false := decide_eq_false (by omega)
  have HL : Hid (l.length ≤ 1000000 ∨ 100 < l.length) := Lib.hid (by omega)
  have HM : Hid (l.length ≤ 1000000) := Lib.hid (by omega)
  clear hm
  go_wp2_with fail
  refine (grrC l (E0.out.fc 0 rfl) ht.out HM.out).mono ?_
  rintro e w1 ⟨rfl, hb⟩
  have E1 : Hid (Env D w [] [.mx (.slice xa l.length xk) l] w1) := Lib.hid (E0.out.below hb)
  clear E0 hb
  have hfin := Lib.hid E1.out.bel
  go_wp2
  go_ret
  exact ⟨rfl, hfin.out⟩
set_option maxRecDepth 100000 in
set_option maxHeartbeats 1000000 in
theorem great1_d {D : Nat → Prop} (l : List (List Int)) {xa : Option Addr} {xk : Nat} {w : World} (hx : Fct.at w D (.mx (.slice xa l.length xk) l)) (hm : 100 < l.length) :
    Calls Tryd.prog 71 #[.slice xa l.length xk] w fun e w' => e = .returned (.bool true) ∧ Below w.heap.size w w' := by
  have E0 : Hid (Env D w [] [.mx (.slice xa l.length xk) l] w) := Lib.hid ((Env.start D w).arg (.mx (.slice xa l.length xk) l) hx)
  clear hx
  go_enter Tryd.func71, Tryd.ntmps71
  have d1 : decide ((12 < (l.length : Int))) = true := decide_eq_true (by omega)
  have d1n : decide ((12 < l.length)) = true := decide_eq_true (by omega)
  have d2 : decide (((l.length : Int) ≤ 30)) = false := decide_eq_false (by omega)
  have d2n : decide ((l.length ≤ 30)) = false := decide_eq_false (by omega)
  have d3 : decide ((100 < (l.length : Int))) = true := decide_eq_true (by omega)
  have d3n : decide ((100 < l.length)) = true := decide_eq_true (by omega)
  have HL : Hid (l.length ≤ 1000000 ∨ 100 < l.length) := Lib.hid (by omega)
  clear hm
  have hfin := Lib.hid E0.out.bel
  go_wp2
  go_ret
  exact ⟨rfl, hfin.out⟩
theorem great1_c {D : Nat → Prop} (l : List (List Int)) {xa : Option Addr} {xk : Nat} {w : World} (hx : Fct.at w D (.mx (.slice xa l.length xk) l)) {t : Bool} (ht : grM l = t) :
    Calls Tryd.prog 71 #[.slice xa l.length xk] w fun e w' => e = .returned (.bool t) ∧ Below w.heap.size w w' := by
  unfold grM grB at ht
  by_cases h1 : l.length ≤ 12
  · rw [decide_eq_false (show ¬ 12 < l.length by omega), decide_eq_false (show ¬ 100 < l.length by omega)] at ht
    exact great1_a l hx h1 (by simpa [grB] using ht)
  by_cases h2 : l.length ≤ 30
  · rw [decide_eq_true (show 12 < l.length by omega), decide_eq_true h2] at ht
    have e : t = true := by rw [← ht]; rfl
    subst e; exact great1_b l hx ⟨by omega, h2⟩
  by_cases h3 : l.length ≤ 100
  · rw [decide_eq_false h2, decide_eq_false (show ¬ 100 < l.length by omega), Bool.and_false] at ht
    exact great1_c' l hx ⟨by omega, h3⟩ (by simpa [grB] using ht)
  · rw [decide_eq_true (show 100 < l.length by omega), Bool.or_true] at ht
    have e : t = true := by rw [← ht]; rfl
    subst e; exact great1_d l hx (by omega)
end Go.Proofs.YtinlfogpbologaaDoor

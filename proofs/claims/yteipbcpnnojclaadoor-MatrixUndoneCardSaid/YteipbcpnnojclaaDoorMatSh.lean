/- matrix: shaped. -/
import Derived.Test.YteipbcpnnojclaaDoorMgB
namespace Go.Proofs.YteipbcpnnojclaaDoor
open Go.RowKit DivMath WordMath
set_option linter.unusedVariables false
set_option linter.unusedSimpArgs false
set_option maxRecDepth 100000 in
set_option maxHeartbeats 1000000 in
theorem shp1_a {D : Nat → Prop} (q : Int) (l : List Int) (n g1 g2 : Nat) {xa : Option Addr} {xk : Nat} {w : World} (hx : Fct.at w D (.rw (.slice xa l.length xk) l.length 1 (icl l))) (h1 : Fct.at w D (.ce g1 0 (.int .i64 (n : Nat)))) (h3 : Fct.at w D (.ce g2 0 (.int .i64 q))) (hne : ¬ l.length = n) :
    Calls Tryd.prog 86 #[.slice xa l.length xk, .pointer (some ⟨g1, 0, none⟩), .pointer (some ⟨g2, 0, none⟩)] w fun e w' => e = .returned (.bool true) ∧ Below w.heap.size w w' := by
  have E0 : Hid (Env D w [] [.ce g2 0 (.int .i64 q), .ce g1 0 (.int .i64 (n : Nat)), .rw (.slice xa l.length xk) l.length 1 (icl l)] w) := Lib.hid ((((Env.start D w).arg (.rw (.slice xa l.length xk) l.length 1 (icl l)) hx).arg (.ce g1 0 (.int .i64 (n : Nat))) h1).arg (.ce g2 0 (.int .i64 q)) h3)
  clear hx h1 h3
  go_enter Tryd.func86, Tryd.ntmps86
  have n1 : ((l.length : Int) == (n : Int)) = false := beq_eq_false_iff_ne.2 (by omega)
  have n2 : (l.length == n) = false := beq_eq_false_iff_ne.2 hne
  have n3 : ((l.length : Int) != (n : Int)) = true := by rw [bne, n1]; rfl
  have n4 : (l.length != n) = true := by rw [bne, n2]; rfl
  have HNE := Lib.hid hne
  clear hne
  have c0 := (E0.out.fc 1 rfl).2
  have c1 := (E0.out.fc 0 rfl).2
  have hfin := Lib.hid E0.out.bel
  go_wp2
  go_ret
  exact ⟨rfl, hfin.out⟩
set_option maxRecDepth 100000 in
set_option maxHeartbeats 1000000 in
theorem shp1_b {D : Nat → Prop} (q : Int) (l : List Int) (n g1 g2 : Nat) {xa : Option Addr} {xk : Nat} {w : World} (hx : Fct.at w D (.rw (.slice xa l.length xk) l.length 1 (icl l))) (h1 : Fct.at w D (.ce g1 0 (.int .i64 (n : Nat)))) (h3 : Fct.at w D (.ce g2 0 (.int .i64 q))) (hne : l.length = n) {t : Bool} (ht0 : l.all (resB q) = t) (hm : l.length ≤ 1000000) :
    Calls Tryd.prog 86 #[.slice xa l.length xk, .pointer (some ⟨g1, 0, none⟩), .pointer (some ⟨g2, 0, none⟩)] w fun e w' => e = .returned (.bool (!t)) ∧ Below w.heap.size w w' := by
  have E0 : Hid (Env D w [] [.ce g2 0 (.int .i64 q), .ce g1 0 (.int .i64 (n : Nat)), .rw (.slice xa l.length xk) l.length 1 (icl l)] w) := Lib.hid ((((Env.start D w).arg (.rw (.slice xa l.length xk) l.length 1 (icl l)) hx).arg (.ce g1 0 (.int .i64 (n : Nat))) h1).arg (.ce g2 0 (.int .i64 q)) h3)
  clear hx h1 h3
  go_enter Tryd.func86, Tryd.ntmps86
  have n1 : ((l.length : Int) == (n : Int)) = true := beq_iff_eq.2 (by omega)
  have n2 : (l.length == n) = true := beq_iff_eq.2 hne
  have n3 : ((l.length : Int) != (n : Int)) = false := by rw [bne, n1]; rfl
  have n4 : (l.length != n) = false := by rw [bne, n2]; rfl
  have ht := Lib.hid ht0
  clear ht0
  have HNE := Lib.hid hne
  clear hne
  have c0 := (E0.out.fc 1 rfl).2
  have c1 := (E0.out.fc 0 rfl).2
  go_wp2_with fail
  refine (rVector_c q l (E0.out.fc 2 rfl) ht.out hm).mono ?_
  rintro e w1 ⟨rfl, hb⟩
  have E1 : Hid (Env D w [] [.ce g2 0 (.int .i64 q), .ce g1 0 (.int .i64 (n : Nat)), .rw (.slice xa l.length xk) l.length 1 (icl l)] w1) := Lib.hid (E0.out.below hb)
  clear E0 hb
  have hfin := Lib.hid E1.out.bel
  go_wp2
  go_ret
  exact ⟨rfl, hfin.out⟩
theorem shp1_c {D : Nat → Prop} (q : Int) (l : List Int) (n g1 g2 : Nat) {xa : Option Addr} {xk : Nat} {w : World} (hx : Fct.at w D (.rw (.slice xa l.length xk) l.length 1 (icl l))) (h1 : Fct.at w D (.ce g1 0 (.int .i64 (n : Nat)))) (h3 : Fct.at w D (.ce g2 0 (.int .i64 q))) (hn9 : n ≤ 1000000) {t : Bool} (ht : (!rowB q n l) = t) :
    Calls Tryd.prog 86 #[.slice xa l.length xk, .pointer (some ⟨g1, 0, none⟩), .pointer (some ⟨g2, 0, none⟩)] w fun e w' => e = .returned (.bool t) ∧ Below w.heap.size w w' := by
  unfold rowB at ht
  by_cases h : l.length = n
  · rw [beq_iff_eq.2 h, Bool.true_and] at ht
    subst ht
    exact shp1_b q l n g1 g2 hx h1 h3 h rfl (by omega)
  · rw [beq_eq_false_iff_ne.2 h, Bool.false_and] at ht
    subst ht
    exact shp1_a q l n g1 g2 hx h1 h3 h
set_option maxRecDepth 100000 in
set_option maxHeartbeats 1000000 in
theorem shpI {D : Nat → Prop} (l : List (List Int)) (q : Int) (n : Nat) (g1 : Nat) (g2 : Nat) {xa : Option Addr} {xk : Nat} {w : World} (hx : Fct.at w D (.mx (.slice xa l.length xk) l)) (h1 : Fct.at w D (.ce g1 0 (.int .i64 (n : Nat)))) (h3 : Fct.at w D (.ce g2 0 (.int .i64 q))) (hn9 : n ≤ 1000000) {r : Int} (hr0 : (r = -1 ∧ ∀ k (h : k < l.length), (!rowB q n l[k]) = false) ∨ ∃ k : Nat, r = (k : Int) ∧ ∃ h : k < l.length, (!rowB q n l[k]) = true ∧ ∀ j (h : j < l.length), j < k → (!rowB q n l[j]) = false) (hm : l.length ≤ 1000000) :
    Calls Tryd.prog 87 #[.slice xa l.length xk, .func (.func 86) #[] #[.pointer (some ⟨g1, 0, none⟩), .pointer (some ⟨g2, 0, none⟩)]] w fun e w' => e = .returned (.int .i64 r) ∧ Below w.heap.size w w' := by
  have E0 : Hid (Env D w [] [.ce g2 0 (.int .i64 q), .ce g1 0 (.int .i64 (n : Nat)), .mx (.slice xa l.length xk) l] w) := Lib.hid ((((Env.start D w).arg (.mx (.slice xa l.length xk) l) hx).arg (.ce g1 0 (.int .i64 (n : Nat))) h1).arg (.ce g2 0 (.int .i64 q)) h3)
  clear hx h1 h3
  go_enter Tryd.func87, Tryd.ntmps87
  have hr := Lib.hid hr0
  clear hr0
  go_wp2_with fail
  go_loopg [8] (l.length) (fun gk s8 wr => ∃ (k : Nat), s8 = .int .i64 (k : Int) ∧ Hid (Env D w [] [.ce g2 0 (.int .i64 q), .ce g1 0 (.int .i64 (n : Nat)), .mx (.slice xa l.length xk) l] wr) ∧ Hid ((k ≤ l.length ∧ gk = l.length - k) ∧ ∀ j (h : j < l.length), j < k → (!rowB q n l[j]) = false))
  case atStart => exact ⟨0, rfl, Lib.hid E0.out, Lib.hid ⟨⟨Nat.zero_le _, rfl⟩, fun j _ h => absurd h (Nat.not_lt_zero _)⟩⟩
  case round =>
    clear E0
    obtain ⟨k, rfl, EL, HA⟩ := hrel
    obtain ⟨⟨a1, a2⟩, a3⟩ := HA.out
    have HS := Lib.hid a3
    clear a3 HA
    by_cases hy : k = l.length
    rotate_left
    · have hk : k < l.length := by omega
      have t6 : decide ((k : Int) < (l.length : Int)) = true := decide_eq_true (by omega)
      have t7 : decide (k < l.length) = true := decide_eq_true hk
      clear hy
      obtain ⟨xab, xao, rfl⟩ := Mx.addr (EL.out.fc 2 rfl) hk
      obtain ⟨ua, uk, E10⟩ := EL.out.elM 2 rfl (k) hk
      have E1 : Hid (Env D w [] [.ce xab (xao + k) (.slice ua l[k].length uk), .rw (.slice ua l[k].length uk) l[k].length 1 (icl l[k]), .ce g2 0 (.int .i64 q), .ce g1 0 (.int .i64 (n : Nat)), .mx (.slice (some ⟨xab, xao, none⟩) l.length xk) l] _) := Lib.hid E10
      clear E10 EL
      have u0 := (E1.out.fc 0 rfl).2
      by_cases hb : (!rowB q n l[k]) = true
      · have HB := Lib.hid hb
        have HR : Hid (r = (k : Int)) := Lib.hid (by rcases hr.out with ⟨_, h9⟩ | ⟨j, rfl, hj, h8, h7⟩; (· have := h9 k hk; rw [hb] at this; cases this); rcases Nat.lt_trichotomy j k with e | e | e; (· have := HS.out j hj e; rw [h8] at this; cases this); (· rw [e]); (· have := h7 k hk e; rw [hb] at this; cases this))
        clear hb
        go_wp2_with fail
        refine (shp1_c q l[k] n g1 g2 (E1.out.fc 1 rfl) (E1.out.fc 3 rfl) (E1.out.fc 2 rfl) hn9 HB.out).mono ?_
        rintro e w1 ⟨rfl, hb⟩
        have E2 : Hid (Env D w [] [.ce xab (xao + k) (.slice ua l[k].length uk), .rw (.slice ua l[k].length uk) l[k].length 1 (icl l[k]), .ce g2 0 (.int .i64 q), .ce g1 0 (.int .i64 (n : Nat)), .mx (.slice (some ⟨xab, xao, none⟩) l.length xk) l] w1) := Lib.hid (E1.out.below hb)
        clear u0 E1 hb
        have hfin := Lib.hid E2.out.bel
        go_wp2
        go_ret
        exact ⟨RetEq HR.out.symm, hfin.out⟩
      · have HB := Lib.hid (Bool.eq_false_iff.2 hb)
        clear hb
        go_wp2_with fail
        refine (shp1_c q l[k] n g1 g2 (E1.out.fc 1 rfl) (E1.out.fc 3 rfl) (E1.out.fc 2 rfl) hn9 HB.out).mono ?_
        rintro e w1 ⟨rfl, hb⟩
        have E2 : Hid (Env D w [] [.ce xab (xao + k) (.slice ua l[k].length uk), .rw (.slice ua l[k].length uk) l[k].length 1 (icl l[k]), .ce g2 0 (.int .i64 q), .ce g1 0 (.int .i64 (n : Nat)), .mx (.slice (some ⟨xab, xao, none⟩) l.length xk) l] w1) := Lib.hid (E1.out.below hb)
        clear u0 E1 hb
        have EZ := Lib.hid ((E2.out.forget).forget)
        go_wp2
        go_roundg (l.length - (k + 1))
        case rel => exact ⟨k + 1, rfl, EZ, Lib.hid ⟨⟨by omega, rfl⟩, fun j h hj => by by_cases e : j = k; (· subst e; exact HB.out); exact HS.out j h (by omega)⟩⟩
        case measure => exact by omega
    have t6 : decide ((k : Int) < (l.length : Int)) = false := decide_eq_false (by omega)
    have t7 : decide (k < l.length) = false := decide_eq_false (by omega)
    have HR : Hid (r = -1) := Lib.hid (by rcases hr.out with ⟨h9, _⟩ | ⟨j, rfl, hj, h8, h7⟩; (· exact h9); have := HS.out j hj (by omega); rw [h8] at this; cases this)
    have HY := Lib.hid hy
    clear hy
    have hfin := Lib.hid EL.out.bel
    go_wp2
    go_ret
    exact ⟨RetEq HR.out.symm, hfin.out⟩
set_option maxRecDepth 100000 in
set_option maxHeartbeats 1000000 in
theorem shpC {D : Nat → Prop} (l : List (List Int)) (q : Int) (n : Nat) (g1 : Nat) (g2 : Nat) {xa : Option Addr} {xk : Nat} {w : World} (hx : Fct.at w D (.mx (.slice xa l.length xk) l)) (h1 : Fct.at w D (.ce g1 0 (.int .i64 (n : Nat)))) (h3 : Fct.at w D (.ce g2 0 (.int .i64 q))) (hn9 : n ≤ 1000000) {t : Bool} (ht0 : l.any (fun x => (!rowB q n x)) = t) (hm : l.length ≤ 1000000) :
    Calls Tryd.prog 40 #[.slice xa l.length xk, .func (.func 86) #[] #[.pointer (some ⟨g1, 0, none⟩), .pointer (some ⟨g2, 0, none⟩)]] w fun e w' => e = .returned (.bool t) ∧ Below w.heap.size w w' := by
  have E0 : Hid (Env D w [] [.ce g2 0 (.int .i64 q), .ce g1 0 (.int .i64 (n : Nat)), .mx (.slice xa l.length xk) l] w) := Lib.hid ((((Env.start D w).arg (.mx (.slice xa l.length xk) l) hx).arg (.ce g1 0 (.int .i64 (n : Nat))) h1).arg (.ce g2 0 (.int .i64 q)) h3)
  clear hx h1 h3
  go_enter Tryd.func40, Tryd.ntmps40
  have ht := Lib.hid ht0
  clear ht0
  obtain ⟨r, hr⟩ : ∃ r : Int, ((r = -1 ∧ ∀ k (h : k < l.length), (!rowB q n l[k]) = false) ∨ ∃ k : Nat, r = (k : Int) ∧ ∃ h : k < l.length, (!rowB q n l[k]) = true ∧ ∀ j (h : j < l.length), j < k → (!rowB q n l[j]) = false) := first_any l (fun x => (!rowB q n x))
  have hd : Hid (decide (0 ≤ r) = t) := Lib.hid (by rw [← ht.out]; exact first_dec hr)
  have HR := Lib.hid hr
  clear hr ht
  go_wp2_with fail
  refine (shpI l q n g1 g2 (E0.out.fc 2 rfl) (E0.out.fc 1 rfl) (E0.out.fc 0 rfl) hn9 (hr0 := HR.out) (hm := hm)).mono ?_
  rintro e w1 ⟨rfl, hb⟩
  have E1 : Hid (Env D w [] [.ce g2 0 (.int .i64 q), .ce g1 0 (.int .i64 (n : Nat)), .mx (.slice xa l.length xk) l] w1) := Lib.hid (E0.out.below hb)
  clear E0 hb
  have HD := hd.out
  have hfin := Lib.hid E1.out.bel
  go_wp2
  go_ret
  exact ⟨rfl, hfin.out⟩
set_option maxRecDepth 100000 in
set_option maxHeartbeats 2000000 in
theorem shaped_c {D : Nat → Prop} (q : Int) (M : List (List Int)) (n : Nat) {xa : Option Addr} {xk : Nat} {w : World} (hx : Fct.at w D (.mx (.slice xa M.length xk) M)) (hM0 : M.any (fun x => !rowB q n x) = false) (hm : M.length ≤ 1000000) (hn9 : n ≤ 1000000) :
    Calls Tryd.prog 38 #[.int .i64 q, .slice xa M.length xk, .int .i64 (M.length : Nat), .int .i64 (n : Nat)] w fun e w' => e = .returned (.bool true) ∧ Below w.heap.size w w' := by
  have E0 : Hid (Env D w [] [.mx (.slice xa M.length xk) M] w) := Lib.hid ((Env.start D w).arg (.mx (.slice xa M.length xk) M) hx)
  clear hx
  go_enter Tryd.func38, Tryd.ntmps38
  have hM := Lib.hid hM0
  clear hM0
  have E1 : Hid (Env D w [(w.heap.size + 1, 3, [.int .i64 (n : Nat)]), (w.heap.size, 3, [.int .i64 q])] [.mx (.slice xa M.length xk) M] _) := Lib.hid (((E0.out.push 3 [.int .i64 q] (w.heap.size) (by simp)).push 3 [.int .i64 (n : Nat)] (w.heap.size + 1) (by simp)))
  go_wp2_with fail
  refine (shpC (D := fun _ => True) M q n (w.heap.size + 1) (w.heap.size) (Fct.any (E1.out.fc 0 rfl)) ⟨⟨(E1.out.bx 0 rfl).lt, trivial⟩, (E1.out.bx 0 rfl).cell 0 rfl⟩ ⟨⟨(E1.out.bx 1 rfl).lt, trivial⟩, (E1.out.bx 1 rfl).cell 0 rfl⟩ hn9 hM.out hm).mono ?_
  rintro e w1 ⟨rfl, hb⟩
  have E2 : Hid (Env D w [(w.heap.size + 1, 3, [.int .i64 (n : Nat)]), (w.heap.size, 3, [.int .i64 q])] [.mx (.slice xa M.length xk) M] w1) := Lib.hid (E1.out.below hb)
  clear E0 E1 hb
  have hfin := Lib.hid E2.out.bel
  go_wp2
  go_ret
  exact ⟨rfl, hfin.out⟩
theorem shaped_ok {D : Nat → Prop} (q n m k : Nat) (L : List (List Nat)) {xa : Option Addr} {xk : Nat} {w : World} (hx : Fct.at w D (.mx (.slice xa L.length xk) (L.map nl))) (hm : m = L.length) (hk : k = n) (h : ResM q n L) (hl : L.length ≤ 1000000) (hn : n ≤ 1000000) :
    Calls Tryd.prog 38 #[.int .i64 (q : Nat), .slice xa L.length xk, .int .i64 (m : Nat), .int .i64 (k : Nat)] w fun e w' => e = .returned (.bool true) ∧ Below w.heap.size w w' := by
  subst hm hk
  have h2 := shaped_c (q : Int) (L.map nl) k (xa := xa) (xk := xk) (D := D) (w := w) (by rw [List.length_map]; exact hx) (by
    rw [List.any_eq_false]
    intro x hx
    obtain ⟨r, hr, rfl⟩ := List.mem_map.1 hx
    rw [row_nl (h r hr)]; simp) (by rw [List.length_map]; exact hl) hn
  rw [List.length_map] at h2
  exact h2
end Go.Proofs.YteipbcpnnojclaaDoor

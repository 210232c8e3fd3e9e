/- Contracts of MatB, MatC, MatD, MatJ, MatLa, MatLb: those that this program has. -/
import Derived.Test.YteipbcpnnojclaaDoorMgA
namespace Go.Proofs.YteipbcpnnojclaaDoor
open Go.RowKit DivMath WordMath
set_option linter.unusedVariables false
set_option linter.unusedSimpArgs false
set_option maxRecDepth 100000 in
set_option maxHeartbeats 1000000 in
theorem rVector_c {D : Nat → Prop} (q : Int) (l : List Int) {xa : Option Addr} {xk : Nat} {w : World} (hx : Fct.at w D (.rw (.slice xa l.length xk) l.length 1 (icl l))) {t : Bool} (ht0 : l.all (resB q) = t) (hm : l.length ≤ 1000000) :
    Calls Tryd.prog 34 #[.int .i64 q, .slice xa l.length xk] w fun e w' => e = .returned (.bool t) ∧ Below w.heap.size w w' := by
  have E0 : Hid (Env D w [] [.rw (.slice xa l.length xk) l.length 1 (icl l)] w) := Lib.hid ((Env.start D w).arg (.rw (.slice xa l.length xk) l.length 1 (icl l)) hx)
  clear hx
  go_enter Tryd.func34, Tryd.ntmps34
  have ht := Lib.hid ht0
  clear ht0
  go_wp2_with fail
  go_loopg [5] (l.length) (fun gk s5 wr => ∃ (k : Nat), s5 = .int .i64 (k : Int) ∧ Hid (Env D w [] [.rw (.slice xa l.length xk) l.length 1 (icl l)] wr) ∧ Hid ((k ≤ l.length ∧ gk = l.length - k) ∧ ∀ j (h : j < l.length), j < k → resB q l[j] = true))
  case atStart => exact ⟨0, rfl, Lib.hid E0.out, Lib.hid ⟨⟨Nat.zero_le _, rfl⟩, fun j _ h => absurd h (Nat.not_lt_zero _)⟩⟩
  case round =>
    clear E0
    obtain ⟨k, rfl, EL, HA⟩ := hrel
    obtain ⟨⟨a1, a2⟩, a3⟩ := HA.out
    have HS := Lib.hid a3
    clear a3 HA
    by_cases hy : k = l.length
    rotate_left
    · have hk : k < l.length := by omega
      have t6 : decide ((k : Int) < (l.length : Int)) = true := decide_eq_true (by omega)
      have t7 : decide (k < l.length) = true := decide_eq_true hk
      clear hy
      obtain ⟨xab, xao, rfl⟩ := Rw.addr (EL.out.fc 0 rfl) (by omega)
      have E1 : Hid (Env D w [] [.ce xab (xao + k) (.int .i64 l[k]), .rw (.slice (some ⟨xab, xao, none⟩) l.length xk) l.length 1 (icl l)] _) := Lib.hid (EL.out.elI 0 rfl rfl (k) hk)
      clear EL
      have u0 := (E1.out.fc 0 rfl).2
      have HF : Hid (resB q l[k] = false → t = false) := Lib.hid (fun h => by rw [← ht.out, List.all_eq_false]; exact ⟨l[k], List.getElem_mem hk, by rw [h]; simp⟩)
      by_cases h1 : l[k] < 0
      · have d1 : decide (l[k] < 0) = true := decide_eq_true h1
        obtain rfl : t = false := HF.out (by unfold resB; rw [decide_eq_false (by omega)]; rfl)
        clear h1
        have hfin := Lib.hid E1.out.bel
        go_wp2
        go_ret
        exact ⟨rfl, hfin.out⟩
      have d1 : decide (l[k] < 0) = false := decide_eq_false h1
      by_cases h2 : q ≤ l[k]
      · have d2 : decide (q ≤ l[k]) = true := decide_eq_true h2
        obtain rfl : t = false := HF.out (by unfold resB; rw [decide_eq_false (show ¬ l[k] < q by omega), Bool.and_false])
        clear h1 h2
        have hfin := Lib.hid E1.out.bel
        go_wp2
        go_ret
        exact ⟨rfl, hfin.out⟩
      have d2 : decide (q ≤ l[k]) = false := decide_eq_false h2
      have HR : Hid (resB q l[k] = true) := Lib.hid (by unfold resB; rw [decide_eq_true (by omega), decide_eq_true (by omega)]; rfl)
      clear h1 h2
      have EZ := Lib.hid (E1.out.forget)
      go_wp2
      go_roundg (l.length - (k + 1))
      case rel => exact ⟨k + 1, rfl, EZ, Lib.hid ⟨⟨by omega, rfl⟩, fun j h hj => by by_cases e : j = k; (· subst e; exact HR.out); exact HS.out j h (by omega)⟩⟩
      case measure => exact by omega
    have t6 : decide ((k : Int) < (l.length : Int)) = false := decide_eq_false (by omega)
    have t7 : decide (k < l.length) = false := decide_eq_false (by omega)
    obtain rfl : t = true := by rw [← ht.out, List.all_eq_true]; intro x hx; obtain ⟨j, hj, rfl⟩ := List.getElem_of_mem hx; exact HS.out j hj (by omega)
    have HY := Lib.hid hy
    clear hy
    have hfin := Lib.hid EL.out.bel
    go_wp2
    go_ret
    exact ⟨rfl, hfin.out⟩
set_option maxHeartbeats 1000000 in
theorem rPrime_c (q : Int) (w : World) {t : Bool} (hn : -9223372036854775808 ≤ q) (ht : fieldB q = t) :
    Calls Tryd.prog 78 #[.int .i64 q] w fun e w' => e = .returned (.bool t) ∧ Below w.heap.size w w' := by
  by_cases h2 : q < 2
  · have d0 : decide (2 ≤ q) = false := decide_eq_false (by omega)
    have htb : t = false := by
      rw [← ht]; unfold fieldB Pri.isP; rw [if_pos (by omega), Bool.and_false]
    subst htb
    clear ht
    go_enter Tryd.func78, Tryd.ntmps78
    go_wp2
    go_ret
    exact ⟨rfl, Below.refl _ _⟩
  have d0 : decide (2 ≤ q) = true := decide_eq_true (by omega)
  by_cases h : q < 2305843009213693952
  · have d1 : decide (q < 2305843009213693952) = true := decide_eq_true h
    obtain ⟨b, hb⟩ : ∃ b, b = Pri.isP q.toNat := ⟨_, rfl⟩
    have htb : t = b := by rw [← ht, hb]; unfold fieldB; rw [d1, Bool.true_and]
    have cc := rIs_c q w ⟨hn, by omega⟩
    rw [← hb] at cc
    have CC := Lib.hid cc
    subst htb
    clear ht hb cc hn h h2
    go_enter Tryd.func78, Tryd.ntmps78
    go_wp2_with fail
    refine CC.out.mono ?_
    rintro e w1 ⟨rfl, hB⟩
    go_wp2
    go_ret
    exact ⟨rfl, hB⟩
  · have d1 : decide (q < 2305843009213693952) = false := decide_eq_false h
    have htb : t = false := by rw [← ht]; unfold fieldB; rw [d1, Bool.false_and]
    subst htb
    clear ht
    go_enter Tryd.func78, Tryd.ntmps78
    go_wp2
    go_ret
    exact ⟨rfl, Below.refl _ _⟩
/-- a row of n residues -/
def rowB (q : Int) (n : Nat) (l : List Int) : Bool := (l.length == n) && l.all (resB q)
set_option maxRecDepth 100000 in
set_option maxHeartbeats 1000000 in
theorem mval1_a {D : Nat → Prop} (q : Int) (l : List Int) (n g1 g2 mb mo mn mk rk : Nat) {ra xa : Option Addr} {xk : Nat} {w : World} (hx : Fct.at w D (.rw (.slice xa l.length xk) l.length 1 (icl l))) (h1 : Fct.at w D (.ce g1 0 (.slice (some ⟨mb, mo, none⟩) mn mk))) (h2 : Fct.at w D (.ce mb mo (.slice ra n rk))) (h3 : Fct.at w D (.ce g2 0 (.int .i64 q))) (hmn : 0 < mn) (hne : ¬ l.length = n) :
    Calls Tryd.prog 117 #[.slice xa l.length xk, .pointer (some ⟨g1, 0, none⟩), .pointer (some ⟨g2, 0, none⟩)] w fun e w' => e = .returned (.bool true) ∧ Below w.heap.size w w' := by
  have E0 : Hid (Env D w [] [.ce g2 0 (.int .i64 q), .ce mb mo (.slice ra n rk), .ce g1 0 (.slice (some ⟨mb, mo, none⟩) mn mk), .rw (.slice xa l.length xk) l.length 1 (icl l)] w) := Lib.hid (((((Env.start D w).arg (.rw (.slice xa l.length xk) l.length 1 (icl l)) hx).arg (.ce g1 0 (.slice (some ⟨mb, mo, none⟩) mn mk)) h1).arg (.ce mb mo (.slice ra n rk)) h2).arg (.ce g2 0 (.int .i64 q)) h3)
  clear hx h1 h2 h3
  go_enter Tryd.func117, Tryd.ntmps117
  have n1 : ((l.length : Int) == (n : Int)) = false := beq_eq_false_iff_ne.2 (by omega)
  have n2 : (l.length == n) = false := beq_eq_false_iff_ne.2 hne
  have n3 : ((l.length : Int) != (n : Int)) = true := by rw [bne, n1]; rfl
  have n4 : (l.length != n) = true := by rw [bne, n2]; rfl
  have q1 : (0 : Int) < (mn : Int) := by omega
  have HNE := Lib.hid hne
  clear hne
  have c0 := (E0.out.fc 2 rfl).2
  have c1 := (E0.out.fc 1 rfl).2
  have c2 := (E0.out.fc 0 rfl).2
  have hfin := Lib.hid E0.out.bel
  go_wp2
  go_ret
  exact ⟨rfl, hfin.out⟩
set_option maxRecDepth 100000 in
set_option maxHeartbeats 1000000 in
theorem mval1_b {D : Nat → Prop} (q : Int) (l : List Int) (n g1 g2 mb mo mn mk rk : Nat) {ra xa : Option Addr} {xk : Nat} {w : World} (hx : Fct.at w D (.rw (.slice xa l.length xk) l.length 1 (icl l))) (h1 : Fct.at w D (.ce g1 0 (.slice (some ⟨mb, mo, none⟩) mn mk))) (h2 : Fct.at w D (.ce mb mo (.slice ra n rk))) (h3 : Fct.at w D (.ce g2 0 (.int .i64 q))) (hmn : 0 < mn) (hne : l.length = n) {t : Bool} (ht0 : l.all (resB q) = t) (hm : l.length ≤ 1000000) :
    Calls Tryd.prog 117 #[.slice xa l.length xk, .pointer (some ⟨g1, 0, none⟩), .pointer (some ⟨g2, 0, none⟩)] w fun e w' => e = .returned (.bool (!t)) ∧ Below w.heap.size w w' := by
  have E0 : Hid (Env D w [] [.ce g2 0 (.int .i64 q), .ce mb mo (.slice ra n rk), .ce g1 0 (.slice (some ⟨mb, mo, none⟩) mn mk), .rw (.slice xa l.length xk) l.length 1 (icl l)] w) := Lib.hid (((((Env.start D w).arg (.rw (.slice xa l.length xk) l.length 1 (icl l)) hx).arg (.ce g1 0 (.slice (some ⟨mb, mo, none⟩) mn mk)) h1).arg (.ce mb mo (.slice ra n rk)) h2).arg (.ce g2 0 (.int .i64 q)) h3)
  clear hx h1 h2 h3
  go_enter Tryd.func117, Tryd.ntmps117
  have n1 : ((l.length : Int) == (n : Int)) = true := beq_iff_eq.2 (by omega)
  have n2 : (l.length == n) = true := beq_iff_eq.2 hne
  have n3 : ((l.length : Int) != (n : Int)) = false := by rw [bne, n1]; rfl
  have n4 : (l.length != n) = false := by rw [bne, n2]; rfl
  have ht := Lib.hid ht0
  clear ht0
  have q1 : (0 : Int) < (mn : Int) := by omega
  have HNE := Lib.hid hne
  clear hne
  have c0 := (E0.out.fc 2 rfl).2
  have c1 := (E0.out.fc 1 rfl).2
  have c2 := (E0.out.fc 0 rfl).2
  go_wp2_with fail
  refine (scalars_c q l (E0.out.fc 3 rfl) ht.out hm).mono ?_
  rintro e w1 ⟨rfl, hb⟩
  have E1 : Hid (Env D w [] [.ce g2 0 (.int .i64 q), .ce mb mo (.slice ra n rk), .ce g1 0 (.slice (some ⟨mb, mo, none⟩) mn mk), .rw (.slice xa l.length xk) l.length 1 (icl l)] w1) := Lib.hid (E0.out.below hb)
  clear E0 hb
  have hfin := Lib.hid E1.out.bel
  go_wp2
  go_ret
  exact ⟨rfl, hfin.out⟩
theorem mval1_c {D : Nat → Prop} (q : Int) (l : List Int) (n g1 g2 mb mo mn mk rk : Nat) {ra xa : Option Addr} {xk : Nat} {w : World} (hx : Fct.at w D (.rw (.slice xa l.length xk) l.length 1 (icl l))) (h1 : Fct.at w D (.ce g1 0 (.slice (some ⟨mb, mo, none⟩) mn mk))) (h2 : Fct.at w D (.ce mb mo (.slice ra n rk))) (h3 : Fct.at w D (.ce g2 0 (.int .i64 q))) (hmn : 0 < mn) (hn9 : n ≤ 1000000) {t : Bool} (ht : (!rowB q n l) = t) :
    Calls Tryd.prog 117 #[.slice xa l.length xk, .pointer (some ⟨g1, 0, none⟩), .pointer (some ⟨g2, 0, none⟩)] w fun e w' => e = .returned (.bool t) ∧ Below w.heap.size w w' := by
  unfold rowB at ht
  by_cases h : l.length = n
  · rw [beq_iff_eq.2 h, Bool.true_and] at ht
    subst ht
    exact mval1_b q l n g1 g2 mb mo mn mk rk hx h1 h2 h3 hmn h rfl (by omega)
  · rw [beq_eq_false_iff_ne.2 h, Bool.false_and] at ht
    subst ht
    exact mval1_a q l n g1 g2 mb mo mn mk rk hx h1 h2 h3 hmn h
set_option maxRecDepth 100000 in
set_option maxHeartbeats 1000000 in
theorem mvalI {D : Nat → Prop} (l : List (List Int)) (q : Int) (n : Nat) (g1 : Nat) (g2 : Nat) (mb : Nat) (mo : Nat) (mn : Nat) (mk : Nat) (rk : Nat) {ra : Option Addr} {xa : Option Addr} {xk : Nat} {w : World} (hx : Fct.at w D (.mx (.slice xa l.length xk) l)) (h1 : Fct.at w D (.ce g1 0 (.slice (some ⟨mb, mo, none⟩) mn mk))) (h2 : Fct.at w D (.ce mb mo (.slice ra n rk))) (h3 : Fct.at w D (.ce g2 0 (.int .i64 q))) (hmn : 0 < mn) (hn9 : n ≤ 1000000) {r : Int} (hr0 : (r = -1 ∧ ∀ k (h : k < l.length), (!rowB q n l[k]) = false) ∨ ∃ k : Nat, r = (k : Int) ∧ ∃ h : k < l.length, (!rowB q n l[k]) = true ∧ ∀ j (h : j < l.length), j < k → (!rowB q n l[j]) = false) (hm : l.length ≤ 1000000) :
    Calls Tryd.prog 87 #[.slice xa l.length xk, .func (.func 117) #[] #[.pointer (some ⟨g1, 0, none⟩), .pointer (some ⟨g2, 0, none⟩)]] w fun e w' => e = .returned (.int .i64 r) ∧ Below w.heap.size w w' := by
  have E0 : Hid (Env D w [] [.ce g2 0 (.int .i64 q), .ce mb mo (.slice ra n rk), .ce g1 0 (.slice (some ⟨mb, mo, none⟩) mn mk), .mx (.slice xa l.length xk) l] w) := Lib.hid (((((Env.start D w).arg (.mx (.slice xa l.length xk) l) hx).arg (.ce g1 0 (.slice (some ⟨mb, mo, none⟩) mn mk)) h1).arg (.ce mb mo (.slice ra n rk)) h2).arg (.ce g2 0 (.int .i64 q)) h3)
  clear hx h1 h2 h3
  go_enter Tryd.func87, Tryd.ntmps87
  have hr := Lib.hid hr0
  clear hr0
  go_wp2_with fail
  go_loopg [8] (l.length) (fun gk s8 wr => ∃ (k : Nat), s8 = .int .i64 (k : Int) ∧ Hid (Env D w [] [.ce g2 0 (.int .i64 q), .ce mb mo (.slice ra n rk), .ce g1 0 (.slice (some ⟨mb, mo, none⟩) mn mk), .mx (.slice xa l.length xk) l] wr) ∧ Hid ((k ≤ l.length ∧ gk = l.length - k) ∧ ∀ j (h : j < l.length), j < k → (!rowB q n l[j]) = false))
  case atStart => exact ⟨0, rfl, Lib.hid E0.out, Lib.hid ⟨⟨Nat.zero_le _, rfl⟩, fun j _ h => absurd h (Nat.not_lt_zero _)⟩⟩
  case round =>
    clear E0
    obtain ⟨k, rfl, EL, HA⟩ := hrel
    obtain ⟨⟨a1, a2⟩, a3⟩ := HA.out
    have HS := Lib.hid a3
    clear a3 HA
    by_cases hy : k = l.length
    rotate_left
    · have hk : k < l.length := by omega
      have t6 : decide ((k : Int) < (l.length : Int)) = true := decide_eq_true (by omega)
      have t7 : decide (k < l.length) = true := decide_eq_true hk
      clear hy
      obtain ⟨xab, xao, rfl⟩ := Mx.addr (EL.out.fc 3 rfl) hk
      obtain ⟨ua, uk, E10⟩ := EL.out.elM 3 rfl (k) hk
      have E1 : Hid (Env D w [] [.ce xab (xao + k) (.slice ua l[k].length uk), .rw (.slice ua l[k].length uk) l[k].length 1 (icl l[k]), .ce g2 0 (.int .i64 q), .ce mb mo (.slice ra n rk), .ce g1 0 (.slice (some ⟨mb, mo, none⟩) mn mk), .mx (.slice (some ⟨xab, xao, none⟩) l.length xk) l] _) := Lib.hid E10
      clear E10 EL
      have u0 := (E1.out.fc 0 rfl).2
      by_cases hb : (!rowB q n l[k]) = true
      · have HB := Lib.hid hb
        have HR : Hid (r = (k : Int)) := Lib.hid (by rcases hr.out with ⟨_, h9⟩ | ⟨j, rfl, hj, h8, h7⟩; (· have := h9 k hk; rw [hb] at this; cases this); rcases Nat.lt_trichotomy j k with e | e | e; (· have := HS.out j hj e; rw [h8] at this; cases this); (· rw [e]); (· have := h7 k hk e; rw [hb] at this; cases this))
        clear hb
        go_wp2_with fail
        refine (mval1_c q l[k] n g1 g2 mb mo mn mk rk (E1.out.fc 1 rfl) (E1.out.fc 4 rfl) (E1.out.fc 3 rfl) (E1.out.fc 2 rfl) hmn hn9 HB.out).mono ?_
        rintro e w1 ⟨rfl, hb⟩
        have E2 : Hid (Env D w [] [.ce xab (xao + k) (.slice ua l[k].length uk), .rw (.slice ua l[k].length uk) l[k].length 1 (icl l[k]), .ce g2 0 (.int .i64 q), .ce mb mo (.slice ra n rk), .ce g1 0 (.slice (some ⟨mb, mo, none⟩) mn mk), .mx (.slice (some ⟨xab, xao, none⟩) l.length xk) l] w1) := Lib.hid (E1.out.below hb)
        clear u0 E1 hb
        have hfin := Lib.hid E2.out.bel
        go_wp2
        go_ret
        exact ⟨RetEq HR.out.symm, hfin.out⟩
      · have HB := Lib.hid (Bool.eq_false_iff.2 hb)
        clear hb
        go_wp2_with fail
        refine (mval1_c q l[k] n g1 g2 mb mo mn mk rk (E1.out.fc 1 rfl) (E1.out.fc 4 rfl) (E1.out.fc 3 rfl) (E1.out.fc 2 rfl) hmn hn9 HB.out).mono ?_
        rintro e w1 ⟨rfl, hb⟩
        have E2 : Hid (Env D w [] [.ce xab (xao + k) (.slice ua l[k].length uk), .rw (.slice ua l[k].length uk) l[k].length 1 (icl l[k]), .ce g2 0 (.int .i64 q), .ce mb mo (.slice ra n rk), .ce g1 0 (.slice (some ⟨mb, mo, none⟩) mn mk), .mx (.slice (some ⟨xab, xao, none⟩) l.length xk) l] w1) := Lib.hid (E1.out.below hb)
        clear u0 E1 hb
        have EZ := Lib.hid ((E2.out.forget).forget)
        go_wp2
        go_roundg (l.length - (k + 1))
        case rel => exact ⟨k + 1, rfl, EZ, Lib.hid ⟨⟨by omega, rfl⟩, fun j h hj => by by_cases e : j = k; (· subst e; exact HB.out); exact HS.out j h (by omega)⟩⟩
        case measure => exact by omega
    have t6 : decide ((k : Int) < (l.length : Int)) = false := decide_eq_false (by omega)
    have t7 : decide (k < l.length) = false := decide_eq_false (by omega)
    have HR : Hid (r = -1) := Lib.hid (by rcases hr.out with ⟨h9, _⟩ | ⟨j, rfl, hj, h8, h7⟩; (· exact h9); have := HS.out j hj (by omega); rw [h8] at this; cases this)
    have HY := Lib.hid hy
    clear hy
    have hfin := Lib.hid EL.out.bel
    go_wp2
    go_ret
    exact ⟨RetEq HR.out.symm, hfin.out⟩
set_option maxRecDepth 100000 in
set_option maxHeartbeats 1000000 in
theorem mvalC {D : Nat → Prop} (l : List (List Int)) (q : Int) (n : Nat) (g1 : Nat) (g2 : Nat) (mb : Nat) (mo : Nat) (mn : Nat) (mk : Nat) (rk : Nat) {ra : Option Addr} {xa : Option Addr} {xk : Nat} {w : World} (hx : Fct.at w D (.mx (.slice xa l.length xk) l)) (h1 : Fct.at w D (.ce g1 0 (.slice (some ⟨mb, mo, none⟩) mn mk))) (h2 : Fct.at w D (.ce mb mo (.slice ra n rk))) (h3 : Fct.at w D (.ce g2 0 (.int .i64 q))) (hmn : 0 < mn) (hn9 : n ≤ 1000000) {t : Bool} (ht0 : l.any (fun x => (!rowB q n x)) = t) (hm : l.length ≤ 1000000) :
    Calls Tryd.prog 40 #[.slice xa l.length xk, .func (.func 117) #[] #[.pointer (some ⟨g1, 0, none⟩), .pointer (some ⟨g2, 0, none⟩)]] w fun e w' => e = .returned (.bool t) ∧ Below w.heap.size w w' := by
  have E0 : Hid (Env D w [] [.ce g2 0 (.int .i64 q), .ce mb mo (.slice ra n rk), .ce g1 0 (.slice (some ⟨mb, mo, none⟩) mn mk), .mx (.slice xa l.length xk) l] w) := Lib.hid (((((Env.start D w).arg (.mx (.slice xa l.length xk) l) hx).arg (.ce g1 0 (.slice (some ⟨mb, mo, none⟩) mn mk)) h1).arg (.ce mb mo (.slice ra n rk)) h2).arg (.ce g2 0 (.int .i64 q)) h3)
  clear hx h1 h2 h3
  go_enter Tryd.func40, Tryd.ntmps40
  have ht := Lib.hid ht0
  clear ht0
  obtain ⟨r, hr⟩ : ∃ r : Int, ((r = -1 ∧ ∀ k (h : k < l.length), (!rowB q n l[k]) = false) ∨ ∃ k : Nat, r = (k : Int) ∧ ∃ h : k < l.length, (!rowB q n l[k]) = true ∧ ∀ j (h : j < l.length), j < k → (!rowB q n l[j]) = false) := first_any l (fun x => (!rowB q n x))
  have hd : Hid (decide (0 ≤ r) = t) := Lib.hid (by rw [← ht.out]; exact first_dec hr)
  have HR := Lib.hid hr
  clear hr ht
  go_wp2_with fail
  refine (mvalI l q n g1 g2 mb mo mn mk rk (E0.out.fc 3 rfl) (E0.out.fc 2 rfl) (E0.out.fc 1 rfl) (E0.out.fc 0 rfl) hmn hn9 (hr0 := HR.out) (hm := hm)).mono ?_
  rintro e w1 ⟨rfl, hb⟩
  have E1 : Hid (Env D w [] [.ce g2 0 (.int .i64 q), .ce mb mo (.slice ra n rk), .ce g1 0 (.slice (some ⟨mb, mo, none⟩) mn mk), .mx (.slice xa l.length xk) l] w1) := Lib.hid (E0.out.below hb)
  clear E0 hb
  have HD := hd.out
  have hfin := Lib.hid E1.out.bel
  go_wp2
  go_ret
  exact ⟨rfl, hfin.out⟩
def hdM (M : List (List Int)) : Nat := (M.headD []).length
theorem hdM_eq {M : List (List Int)} (h : 0 < M.length) : hdM M = M[0].length := by
  unfold hdM
  cases M with
  | nil => simp at h
  | cons x M => rfl
/-- is M a matrix modulo a prime? -/
def mvB (q : Int) (M : List (List Int)) : Bool := fieldB q && (decide (1 ≤ M.length) && (decide (M.length ≤ 30) && (decide (1 ≤ hdM M) && (decide (hdM M ≤ 30) && !M.any (fun x => !rowB q (hdM M) x)))))
/-- what a valid matrix is -/
structure MvI (q n : Nat) (L : List (List Nat)) : Prop where
  res : ResM q n L
  q2 : 2 ≤ q
  qT : (q : Int) < Top
  fb : fieldB (q : Int) = true
  m1 : 1 ≤ L.length
  m30 : L.length ≤ 30
  n1 : 1 ≤ n
  n30 : n ≤ 30
theorem all_nl2 {q : Int} {l : List Int} (h : l.all (resB q) = true) : ∃ m : List Nat, l = nl m ∧ ∀ c ∈ m, (c : Int) < q := by
  induction l with
  | nil => exact ⟨[], rfl, by simp⟩
  | cons x l ih =>
    rw [List.all_cons, Bool.and_eq_true] at h
    obtain ⟨m, rfl, hm⟩ := ih h.2
    have hx := h.1
    unfold resB at hx
    rw [Bool.and_eq_true, decide_eq_true_iff, decide_eq_true_iff] at hx
    refine ⟨x.toNat :: m, by simp [nl]; omega, fun c hc => ?_⟩
    rcases List.mem_cons.1 hc with rfl | hc
    · omega
    · exact hm c hc
theorem rows_nl {q : Nat} {n : Nat} {M : List (List Int)} (h : ∀ x ∈ M, rowB (q : Int) n x = true) : ∃ L : List (List Nat), M = L.map nl ∧ ResM q n L := by
  induction M with
  | nil => exact ⟨[], rfl, fun r hr => by cases hr⟩
  | cons x M ih =>
    obtain ⟨L, rfl, hL⟩ := ih fun y hy => h y (List.mem_cons_of_mem _ hy)
    have hx := h x (by simp)
    unfold rowB at hx
    rw [Bool.and_eq_true, beq_iff_eq] at hx
    obtain ⟨m, rfl, hm⟩ := all_nl2 hx.2
    refine ⟨m :: L, rfl, fun r hr => ?_⟩
    rcases List.mem_cons.1 hr with rfl | hr
    · exact ⟨by rw [← nl_len]; exact hx.1, fun x hx => by have := hm x hx; omega⟩
    · exact hL r hr
theorem mv_nat {q : Int} {M : List (List Int)} (h : mvB q M = true) : ∃ (p n : Nat) (L : List (List Nat)), q = (p : Int) ∧ M = L.map nl ∧ MvI p n L ∧ n = hdM M := by
  unfold mvB at h
  simp only [Bool.and_eq_true, decide_eq_true_iff, Bool.not_eq_true', List.any_eq_false] at h
  obtain ⟨h1, h2, h3, h4, h5, h6⟩ := h
  obtain ⟨p, rfl, hp2, hpT⟩ := fieldB_pos h1
  obtain ⟨L, rfl, hL⟩ := rows_nl (n := hdM M) fun x hx => by simpa using h6 x hx
  rw [List.length_map] at h2 h3
  exact ⟨p, _, L, rfl, rfl, ⟨hL, hp2, hpT, h1, h2, h3, h4, h5⟩, rfl⟩
theorem row_nl {q n : Nat} {r : List Nat} (h : r.length = n ∧ ∀ x ∈ r, x < q) : rowB (q : Int) n (nl r) = true := by
  unfold rowB
  rw [nl_len, beq_iff_eq.2 h.1, Bool.true_and]
  exact nl_all h.2
theorem hdM_nl {q n : Nat} {L : List (List Nat)} (h : MvI q n L) : hdM (L.map nl) = n := by
  rw [hdM_eq (by rw [List.length_map]; exact h.m1), List.getElem_map, nl_len]
  exact (h.res _ (List.getElem_mem _)).1
theorem mv_of {q n : Nat} {L : List (List Nat)} (h : MvI q n L) : mvB (q : Int) (L.map nl) = true := by
  unfold mvB
  rw [hdM_nl h]
  have h6 : (L.map nl).any (fun x => !rowB (q : Int) n x) = false := List.any_eq_false.2 fun x hx => by
    obtain ⟨r, hr, rfl⟩ := List.mem_map.1 hx
    rw [row_nl (h.res r hr)]; simp
  simp [h.fb, h.m1, h.m30, h.n1, h.n30, h6]
theorem Laid.kept {w W : World} (h : Laid w) (hb : Below w.heap.size w W) : Laid W := h.below hb
theorem mIs_c (q : Int) {w : World} (hl : Laid w) (hn : -9223372036854775808 ≤ q ∧ q ≤ 9223372036854775807) {t : Bool} (ht : Pri.isP q.toNat = t) :
    Calls Tryd.prog 55 #[.int .i64 q] w fun e w' => e = .returned (.bool t) ∧ Below w.heap.size w w' := by
  subst ht
  refine (Is_c q w hl hn).mono ?_
  rintro e w' ⟨rfl, n, rfl⟩
  exact ⟨rfl, below_drewN (Below.refl _ _) _⟩
set_option maxRecDepth 100000 in
set_option maxHeartbeats 2000000 in
theorem mv_a {D : Nat → Prop} (q : Int) (M : List (List Int)) {xa : Option Addr} {xk : Nat} {w : World} (hx : Fct.at w D (.mx (.slice xa M.length xk) M)) (hl0 : Laid w) (hn : -9223372036854775808 ≤ q ∧ q ≤ 9223372036854775807) (hq : 2305843009213693952 ≤ q) :
    Calls Tryd.prog 79 #[.int .i64 q, .slice xa M.length xk] w fun e w' => e = .returned (.bool false) ∧ Below w.heap.size w w' := by
  have E0 : Hid (Env D w [] [.mx (.slice xa M.length xk) M] w) := Lib.hid ((Env.start D w).arg (.mx (.slice xa M.length xk) M) hx)
  clear hx
  go_enter Tryd.func79, Tryd.ntmps79
  have hl := Lib.hid hl0
  clear hl0
  have e1 : decide (2305843009213693952 ≤ q) = true := decide_eq_true (by omega)
  have E1 : Hid (Env D w [(w.heap.size + 1, 44, [.slice xa M.length xk]), (w.heap.size, 3, [.int .i64 q])] [.mx (.slice xa M.length xk) M] _) := Lib.hid (((E0.out.push 3 [.int .i64 q] (w.heap.size) (by simp)).push 44 [.slice xa M.length xk] (w.heap.size + 1) (by simp)))
  have hfin := Lib.hid E1.out.bel
  go_wp2
  go_ret
  exact ⟨rfl, hfin.out⟩
set_option maxRecDepth 100000 in
set_option maxHeartbeats 2000000 in
theorem mv_b {D : Nat → Prop} (q : Int) (M : List (List Int)) {xa : Option Addr} {xk : Nat} {w : World} (hx : Fct.at w D (.mx (.slice xa M.length xk) M)) (hl0 : Laid w) (hn : -9223372036854775808 ≤ q ∧ q ≤ 9223372036854775807) (hq : q < 2305843009213693952) (hp0 : Pri.isP q.toNat = false) :
    Calls Tryd.prog 79 #[.int .i64 q, .slice xa M.length xk] w fun e w' => e = .returned (.bool false) ∧ Below w.heap.size w w' := by
  have E0 : Hid (Env D w [] [.mx (.slice xa M.length xk) M] w) := Lib.hid ((Env.start D w).arg (.mx (.slice xa M.length xk) M) hx)
  clear hx
  go_enter Tryd.func79, Tryd.ntmps79
  have hp := Lib.hid hp0
  clear hp0
  have hl := Lib.hid hl0
  clear hl0
  have e1 : decide (2305843009213693952 ≤ q) = false := decide_eq_false (by omega)
  go_wp2_with fail
  have E1 : Hid (Env D w [(w.heap.size + 1, 44, [.slice xa M.length xk]), (w.heap.size, 3, [.int .i64 q])] [.mx (.slice xa M.length xk) M] _) := Lib.hid (((E0.out.push 3 [.int .i64 q] (w.heap.size) (by simp)).push 44 [.slice xa M.length xk] (w.heap.size + 1) (by simp)))
  refine (mIs_c q (hl.out.below E1.out.bel) hn hp.out).mono ?_
  rintro e w1 ⟨rfl, hb⟩
  have E2 : Hid (Env D w [(w.heap.size + 1, 44, [.slice xa M.length xk]), (w.heap.size, 3, [.int .i64 q])] [.mx (.slice xa M.length xk) M] w1) := Lib.hid (E1.out.below hb)
  clear E0 E1 hb
  have hfin := Lib.hid E2.out.bel
  go_wp2
  go_ret
  exact ⟨rfl, hfin.out⟩
set_option maxRecDepth 100000 in
set_option maxHeartbeats 2000000 in
theorem mv_c {D : Nat → Prop} (q : Int) (M : List (List Int)) {xa : Option Addr} {xk : Nat} {w : World} (hx : Fct.at w D (.mx (.slice xa M.length xk) M)) (hl0 : Laid w) (hn : -9223372036854775808 ≤ q ∧ q ≤ 9223372036854775807) (hq : q < 2305843009213693952) (hp0 : Pri.isP q.toNat = true) (hm : M.length < 1) :
    Calls Tryd.prog 79 #[.int .i64 q, .slice xa M.length xk] w fun e w' => e = .returned (.bool false) ∧ Below w.heap.size w w' := by
  have E0 : Hid (Env D w [] [.mx (.slice xa M.length xk) M] w) := Lib.hid ((Env.start D w).arg (.mx (.slice xa M.length xk) M) hx)
  clear hx
  go_enter Tryd.func79, Tryd.ntmps79
  have hp := Lib.hid hp0
  clear hp0
  have hl := Lib.hid hl0
  clear hl0
  have e1 : decide (2305843009213693952 ≤ q) = false := decide_eq_false (by omega)
  have e2 : decide ((M.length : Int) < 1) = true := decide_eq_true (by omega)
  have e2n : decide (M.length < 1) = true := decide_eq_true (by omega)
  go_wp2_with fail
  have E1 : Hid (Env D w [(w.heap.size + 1, 44, [.slice xa M.length xk]), (w.heap.size, 3, [.int .i64 q])] [.mx (.slice xa M.length xk) M] _) := Lib.hid (((E0.out.push 3 [.int .i64 q] (w.heap.size) (by simp)).push 44 [.slice xa M.length xk] (w.heap.size + 1) (by simp)))
  refine (mIs_c q (hl.out.below E1.out.bel) hn hp.out).mono ?_
  rintro e w1 ⟨rfl, hb⟩
  have E2 : Hid (Env D w [(w.heap.size + 1, 44, [.slice xa M.length xk]), (w.heap.size, 3, [.int .i64 q])] [.mx (.slice xa M.length xk) M] w1) := Lib.hid (E1.out.below hb)
  clear E0 E1 hb
  have b1 := E2.out.bx 0 rfl
  have c1_0 := b1.cell 0 rfl
  clear b1
  have hfin := Lib.hid E2.out.bel
  go_wp2
  go_ret
  exact ⟨rfl, hfin.out⟩
set_option maxRecDepth 100000 in
set_option maxHeartbeats 2000000 in
theorem mv_d {D : Nat → Prop} (q : Int) (M : List (List Int)) {xa : Option Addr} {xk : Nat} {w : World} (hx : Fct.at w D (.mx (.slice xa M.length xk) M)) (hl0 : Laid w) (hn : -9223372036854775808 ≤ q ∧ q ≤ 9223372036854775807) (hq : q < 2305843009213693952) (hp0 : Pri.isP q.toNat = true) (hm1 : 30 < M.length) :
    Calls Tryd.prog 79 #[.int .i64 q, .slice xa M.length xk] w fun e w' => e = .returned (.bool false) ∧ Below w.heap.size w w' := by
  have E0 : Hid (Env D w [] [.mx (.slice xa M.length xk) M] w) := Lib.hid ((Env.start D w).arg (.mx (.slice xa M.length xk) M) hx)
  clear hx
  go_enter Tryd.func79, Tryd.ntmps79
  have hp := Lib.hid hp0
  clear hp0
  have hl := Lib.hid hl0
  clear hl0
  have e1 : decide (2305843009213693952 ≤ q) = false := decide_eq_false (by omega)
  have e2 : decide ((M.length : Int) < 1) = false := decide_eq_false (by omega)
  have e2n : decide (M.length < 1) = false := decide_eq_false (by omega)
  have e3 : decide ((30 : Int) < (M.length : Int)) = true := decide_eq_true (by omega)
  have e3n : decide (30 < M.length) = true := decide_eq_true (by omega)
  go_wp2_with fail
  have E1 : Hid (Env D w [(w.heap.size + 1, 44, [.slice xa M.length xk]), (w.heap.size, 3, [.int .i64 q])] [.mx (.slice xa M.length xk) M] _) := Lib.hid (((E0.out.push 3 [.int .i64 q] (w.heap.size) (by simp)).push 44 [.slice xa M.length xk] (w.heap.size + 1) (by simp)))
  refine (mIs_c q (hl.out.below E1.out.bel) hn hp.out).mono ?_
  rintro e w1 ⟨rfl, hb⟩
  have E2 : Hid (Env D w [(w.heap.size + 1, 44, [.slice xa M.length xk]), (w.heap.size, 3, [.int .i64 q])] [.mx (.slice xa M.length xk) M] w1) := Lib.hid (E1.out.below hb)
  clear E0 E1 hb
  have b1 := E2.out.bx 0 rfl
  have c1_0 := b1.cell 0 rfl
  clear b1
  have hfin := Lib.hid E2.out.bel
  go_wp2
  go_ret
  exact ⟨rfl, hfin.out⟩
set_option maxRecDepth 100000 in
set_option maxHeartbeats 2000000 in
theorem mv_e {D : Nat → Prop} (q : Int) (M : List (List Int)) {xa : Option Addr} {xk : Nat} {w : World} (hx : Fct.at w D (.mx (.slice xa M.length xk) M)) (hl0 : Laid w) (hn : -9223372036854775808 ≤ q ∧ q ≤ 9223372036854775807) (hq : q < 2305843009213693952) (hp0 : Pri.isP q.toNat = true) (hm : 1 ≤ M.length) (hm1 : M.length ≤ 30) (hr : M[0].length < 1) :
    Calls Tryd.prog 79 #[.int .i64 q, .slice xa M.length xk] w fun e w' => e = .returned (.bool false) ∧ Below w.heap.size w w' := by
  have E0 : Hid (Env D w [] [.mx (.slice xa M.length xk) M] w) := Lib.hid ((Env.start D w).arg (.mx (.slice xa M.length xk) M) hx)
  clear hx
  go_enter Tryd.func79, Tryd.ntmps79
  have hp := Lib.hid hp0
  clear hp0
  have hl := Lib.hid hl0
  clear hl0
  have e1 : decide (2305843009213693952 ≤ q) = false := decide_eq_false (by omega)
  have e2 : decide ((M.length : Int) < 1) = false := decide_eq_false (by omega)
  have e2n : decide (M.length < 1) = false := decide_eq_false (by omega)
  have e3 : decide ((30 : Int) < (M.length : Int)) = false := decide_eq_false (by omega)
  have e3n : decide (30 < M.length) = false := decide_eq_false (by omega)
  have hz : 0 < M.length := by omega
  have hzI : (0 : Int) < (M.length : Int) := by omega
  go_upto_region 1 with (fail)
  have E1 : Hid (Env D w [(w.heap.size + 1, 44, [.slice xa M.length xk]), (w.heap.size, 3, [.int .i64 q])] [.mx (.slice xa M.length xk) M] _) := Lib.hid (((E0.out.push 3 [.int .i64 q] (w.heap.size) (by simp)).push 44 [.slice xa M.length xk] (w.heap.size + 1) (by simp)))
  obtain ⟨xab, xao, rfl⟩ := Mx.addr (E1.out.fc 0 rfl) hz
  obtain ⟨ua, uk, E20⟩ := E1.out.elM 0 rfl (0) hz
  have E2 : Hid (Env D w [(w.heap.size + 1, 44, [.slice (some ⟨xab, xao, none⟩) M.length xk]), (w.heap.size, 3, [.int .i64 q])] [.ce xab (xao) (.slice ua M[0].length uk), .rw (.slice ua M[0].length uk) M[0].length 1 (icl M[0]), .mx (.slice (some ⟨xab, xao, none⟩) M.length xk) M] _) := Lib.hid E20
  clear E20 E1
  have u0 := (E2.out.fc 0 rfl).2
  have e4 : decide ((M[0].length : Int) < 1) = true := decide_eq_true (by omega)
  have e4n : decide (M[0].length < 1) = true := decide_eq_true (by omega)
  have e4z : M[0].length = 0 := by omega
  have b1 := E2.out.bx 1 rfl
  have c1_0 := b1.cell 0 rfl
  clear b1
  go_wp2_with fail
  refine (mIs_c q (hl.out.below E2.out.bel) hn hp.out).mono ?_
  rintro e w1 ⟨rfl, hb⟩
  have E3 : Hid (Env D w [(w.heap.size + 1, 44, [.slice (some ⟨xab, xao, none⟩) M.length xk]), (w.heap.size, 3, [.int .i64 q])] [.ce xab (xao) (.slice ua M[0].length uk), .rw (.slice ua M[0].length uk) M[0].length 1 (icl M[0]), .mx (.slice (some ⟨xab, xao, none⟩) M.length xk) M] w1) := Lib.hid (E2.out.below hb)
  clear u0 c1_0 E0 E2 hb
  have b2 := E3.out.bx 0 rfl
  have c2_0 := b2.cell 0 rfl
  clear b2
  have z3 := (E3.out.fc 0 rfl).2
  have hfin := Lib.hid E3.out.bel
  go_wp2
  go_ret
  exact ⟨rfl, hfin.out⟩
set_option maxRecDepth 100000 in
set_option maxHeartbeats 2000000 in
theorem mv_f {D : Nat → Prop} (q : Int) (M : List (List Int)) {xa : Option Addr} {xk : Nat} {w : World} (hx : Fct.at w D (.mx (.slice xa M.length xk) M)) (hl0 : Laid w) (hn : -9223372036854775808 ≤ q ∧ q ≤ 9223372036854775807) (hq : q < 2305843009213693952) (hp0 : Pri.isP q.toNat = true) (hm : 1 ≤ M.length) (hm1 : M.length ≤ 30) (hr : 30 < M[0].length) :
    Calls Tryd.prog 79 #[.int .i64 q, .slice xa M.length xk] w fun e w' => e = .returned (.bool false) ∧ Below w.heap.size w w' := by
  have E0 : Hid (Env D w [] [.mx (.slice xa M.length xk) M] w) := Lib.hid ((Env.start D w).arg (.mx (.slice xa M.length xk) M) hx)
  clear hx
  go_enter Tryd.func79, Tryd.ntmps79
  have hp := Lib.hid hp0
  clear hp0
  have hl := Lib.hid hl0
  clear hl0
  have e1 : decide (2305843009213693952 ≤ q) = false := decide_eq_false (by omega)
  have e2 : decide ((M.length : Int) < 1) = false := decide_eq_false (by omega)
  have e2n : decide (M.length < 1) = false := decide_eq_false (by omega)
  have e3 : decide ((30 : Int) < (M.length : Int)) = false := decide_eq_false (by omega)
  have e3n : decide (30 < M.length) = false := decide_eq_false (by omega)
  have hz : 0 < M.length := by omega
  have hzI : (0 : Int) < (M.length : Int) := by omega
  go_upto_region 1 with (fail)
  have E1 : Hid (Env D w [(w.heap.size + 1, 44, [.slice xa M.length xk]), (w.heap.size, 3, [.int .i64 q])] [.mx (.slice xa M.length xk) M] _) := Lib.hid (((E0.out.push 3 [.int .i64 q] (w.heap.size) (by simp)).push 44 [.slice xa M.length xk] (w.heap.size + 1) (by simp)))
  obtain ⟨xab, xao, rfl⟩ := Mx.addr (E1.out.fc 0 rfl) hz
  obtain ⟨ua, uk, E20⟩ := E1.out.elM 0 rfl (0) hz
  have E2 : Hid (Env D w [(w.heap.size + 1, 44, [.slice (some ⟨xab, xao, none⟩) M.length xk]), (w.heap.size, 3, [.int .i64 q])] [.ce xab (xao) (.slice ua M[0].length uk), .rw (.slice ua M[0].length uk) M[0].length 1 (icl M[0]), .mx (.slice (some ⟨xab, xao, none⟩) M.length xk) M] _) := Lib.hid E20
  clear E20 E1
  have u0 := (E2.out.fc 0 rfl).2
  have e4 : decide ((M[0].length : Int) < 1) = false := decide_eq_false (by omega)
  have e4n : decide (M[0].length < 1) = false := decide_eq_false (by omega)
  have e5 : decide ((30 : Int) < (M[0].length : Int)) = true := decide_eq_true (by omega)
  have e5n : decide (30 < M[0].length) = true := decide_eq_true (by omega)
  have b1 := E2.out.bx 1 rfl
  have c1_0 := b1.cell 0 rfl
  clear b1
  go_wp2_with fail
  refine (mIs_c q (hl.out.below E2.out.bel) hn hp.out).mono ?_
  rintro e w1 ⟨rfl, hb⟩
  have E3 : Hid (Env D w [(w.heap.size + 1, 44, [.slice (some ⟨xab, xao, none⟩) M.length xk]), (w.heap.size, 3, [.int .i64 q])] [.ce xab (xao) (.slice ua M[0].length uk), .rw (.slice ua M[0].length uk) M[0].length 1 (icl M[0]), .mx (.slice (some ⟨xab, xao, none⟩) M.length xk) M] w1) := Lib.hid (E2.out.below hb)
  clear u0 c1_0 E0 E2 hb
  have b2 := E3.out.bx 0 rfl
  have c2_0 := b2.cell 0 rfl
  clear b2
  have z3 := (E3.out.fc 0 rfl).2
  have hfin := Lib.hid E3.out.bel
  go_wp2
  go_ret
  exact ⟨rfl, hfin.out⟩
set_option maxRecDepth 100000 in
set_option maxHeartbeats 2000000 in
theorem mv_g {D : Nat → Prop} (q : Int) (M : List (List Int)) {xa : Option Addr} {xk : Nat} {w : World} (hx : Fct.at w D (.mx (.slice xa M.length xk) M)) (hl0 : Laid w) (hn : -9223372036854775808 ≤ q ∧ q ≤ 9223372036854775807) (hq : q < 2305843009213693952) (hp0 : Pri.isP q.toNat = true) (hm : 1 ≤ M.length) (hm1 : M.length ≤ 30) (hr1 : 1 ≤ M[0].length) (hr : M[0].length ≤ 30) {t : Bool} (ht0 : M.any (fun x => !rowB q M[0].length x) = t) :
    Calls Tryd.prog 79 #[.int .i64 q, .slice xa M.length xk] w fun e w' => e = .returned (.bool (!t)) ∧ Below w.heap.size w w' := by
  have E0 : Hid (Env D w [] [.mx (.slice xa M.length xk) M] w) := Lib.hid ((Env.start D w).arg (.mx (.slice xa M.length xk) M) hx)
  clear hx
  go_enter Tryd.func79, Tryd.ntmps79
  have hp := Lib.hid hp0
  clear hp0
  have ht := Lib.hid ht0
  clear ht0
  have hl := Lib.hid hl0
  clear hl0
  have e1 : decide (2305843009213693952 ≤ q) = false := decide_eq_false (by omega)
  have e2 : decide ((M.length : Int) < 1) = false := decide_eq_false (by omega)
  have e2n : decide (M.length < 1) = false := decide_eq_false (by omega)
  have e3 : decide ((30 : Int) < (M.length : Int)) = false := decide_eq_false (by omega)
  have e3n : decide (30 < M.length) = false := decide_eq_false (by omega)
  have hz : 0 < M.length := by omega
  have hzI : (0 : Int) < (M.length : Int) := by omega
  go_upto_region 1 with (fail)
  have E1 : Hid (Env D w [(w.heap.size + 1, 44, [.slice xa M.length xk]), (w.heap.size, 3, [.int .i64 q])] [.mx (.slice xa M.length xk) M] _) := Lib.hid (((E0.out.push 3 [.int .i64 q] (w.heap.size) (by simp)).push 44 [.slice xa M.length xk] (w.heap.size + 1) (by simp)))
  obtain ⟨xab, xao, rfl⟩ := Mx.addr (E1.out.fc 0 rfl) hz
  obtain ⟨ua, uk, E20⟩ := E1.out.elM 0 rfl (0) hz
  have E2 : Hid (Env D w [(w.heap.size + 1, 44, [.slice (some ⟨xab, xao, none⟩) M.length xk]), (w.heap.size, 3, [.int .i64 q])] [.ce xab (xao) (.slice ua M[0].length uk), .rw (.slice ua M[0].length uk) M[0].length 1 (icl M[0]), .mx (.slice (some ⟨xab, xao, none⟩) M.length xk) M] _) := Lib.hid E20
  clear E20 E1
  have u0 := (E2.out.fc 0 rfl).2
  have e4 : decide ((M[0].length : Int) < 1) = false := decide_eq_false (by omega)
  have e4n : decide (M[0].length < 1) = false := decide_eq_false (by omega)
  have e5 : decide ((30 : Int) < (M[0].length : Int)) = false := decide_eq_false (by omega)
  have e5n : decide (30 < M[0].length) = false := decide_eq_false (by omega)
  have b1 := E2.out.bx 1 rfl
  have c1_0 := b1.cell 0 rfl
  clear b1
  go_wp2_with fail
  refine (mIs_c q (hl.out.below E2.out.bel) hn hp.out).mono ?_
  rintro e w1 ⟨rfl, hb⟩
  have E3 : Hid (Env D w [(w.heap.size + 1, 44, [.slice (some ⟨xab, xao, none⟩) M.length xk]), (w.heap.size, 3, [.int .i64 q])] [.ce xab (xao) (.slice ua M[0].length uk), .rw (.slice ua M[0].length uk) M[0].length 1 (icl M[0]), .mx (.slice (some ⟨xab, xao, none⟩) M.length xk) M] w1) := Lib.hid (E2.out.below hb)
  clear u0 c1_0 E0 E2 hb
  have b2 := E3.out.bx 0 rfl
  have c2_0 := b2.cell 0 rfl
  clear b2
  have z3 := (E3.out.fc 0 rfl).2
  go_wp2_with fail
  refine (mvalC (D := fun _ => True) M q M[0].length (w.heap.size + 1) (w.heap.size) xab xao M.length xk uk (Fct.any (E3.out.fc 2 rfl)) ⟨⟨(E3.out.bx 0 rfl).lt, trivial⟩, (E3.out.bx 0 rfl).cell 0 rfl⟩ (Fct.any (E3.out.fc 0 rfl)) ⟨⟨(E3.out.bx 1 rfl).lt, trivial⟩, (E3.out.bx 1 rfl).cell 0 rfl⟩ hz (by omega) ht.out (by omega)).mono ?_
  rintro e w2 ⟨rfl, hb⟩
  have E4 : Hid (Env D w [(w.heap.size + 1, 44, [.slice (some ⟨xab, xao, none⟩) M.length xk]), (w.heap.size, 3, [.int .i64 q])] [.ce xab (xao) (.slice ua M[0].length uk), .rw (.slice ua M[0].length uk) M[0].length 1 (icl M[0]), .mx (.slice (some ⟨xab, xao, none⟩) M.length xk) M] w2) := Lib.hid (E3.out.below hb)
  clear c2_0 z3 E3 hb
  have hfin := Lib.hid E4.out.bel
  go_wp2
  go_ret
  exact ⟨rfl, hfin.out⟩
theorem mValid_c {D : Nat → Prop} (q : Int) (M : List (List Int)) {xa : Option Addr} {xk : Nat} {w : World} (hx : Fct.at w D (.mx (.slice xa M.length xk) M)) (hl : Laid w) (hn : -9223372036854775808 ≤ q ∧ q ≤ 9223372036854775807) {t : Bool} (ht : mvB q M = t) :
    Calls Tryd.prog 79 #[.int .i64 q, .slice xa M.length xk] w fun e w' => e = .returned (.bool t) ∧ Below w.heap.size w w' := by
  subst ht
  unfold mvB fieldB
  by_cases h1 : q < 2305843009213693952
  · rw [decide_eq_true h1, Bool.true_and]
    cases h2 : Pri.isP q.toNat with
    | false => exact mv_b q M hx hl hn h1 h2
    | true =>
      rw [Bool.true_and]
      by_cases h3 : 1 ≤ M.length
      · rw [decide_eq_true h3, Bool.true_and]
        by_cases h4 : M.length ≤ 30
        · rw [decide_eq_true h4, Bool.true_and, hdM_eq h3]
          by_cases h5 : 1 ≤ M[0].length
          · rw [decide_eq_true h5, Bool.true_and]
            by_cases h6 : M[0].length ≤ 30
            · rw [decide_eq_true h6, Bool.true_and]
              exact mv_g q M hx hl hn h1 h2 h3 h4 h5 h6 rfl
            · rw [decide_eq_false h6, Bool.false_and]
              exact mv_f q M hx hl hn h1 h2 h3 h4 (by omega)
          · rw [decide_eq_false h5, Bool.false_and]
            exact mv_e q M hx hl hn h1 h2 h3 h4 (by omega)
        · rw [decide_eq_false h4, Bool.false_and]
          exact mv_d q M hx hl hn h1 h2 (by omega)
      · rw [decide_eq_false h3, Bool.false_and]
        exact mv_c q M hx hl hn h1 h2 (by omega)
  · rw [decide_eq_false h1, Bool.false_and, Bool.false_and]
    exact mv_a q M hx hl hn (by omega)
set_option maxRecDepth 100000 in
set_option maxHeartbeats 1000000 in
theorem Rank_no {D : Nat → Prop} (q : Int) (M : List (List Int)) {xa : Option Addr} {xk : Nat} {w : World} (hx : Fct.at w D (.mx (.slice xa M.length xk) M)) (hl0 : Laid w) (hn : -9223372036854775808 ≤ q ∧ q ≤ 9223372036854775807) (hv0 : mvB q M = false) :
    Calls Tryd.prog 37 #[.int .i64 q, .slice xa M.length xk] w fun e w' => e = .returned (.tuple #[.int .i64 0, .int .i64 1]) ∧ Below w.heap.size w w' := by
  have E0 : Hid (Env D w [] [.mx (.slice xa M.length xk) M] w) := Lib.hid ((Env.start D w).arg (.mx (.slice xa M.length xk) M) hx)
  clear hx
  go_enter Tryd.func37, Tryd.ntmps37
  have hl := Lib.hid hl0
  have hv := Lib.hid hv0
  clear hl0 hv0
  go_wp2_with fail
  refine (mValid_c q M (E0.out.fc 0 rfl) (hl.out.below E0.out.bel) hn hv.out).mono ?_
  rintro e w1 ⟨rfl, hb⟩
  have E1 : Hid (Env D w [] [.mx (.slice xa M.length xk) M] w1) := Lib.hid (E0.out.below hb)
  clear E0 hb
  have hfin := Lib.hid E1.out.bel
  go_wp2
  go_ret2
  exact ⟨rfl, hfin.out⟩
theorem mValidN {D : Nat → Prop} {q n : Nat} {L : List (List Nat)} {xa : Option Addr} {xk : Nat} {w : World} (hx : Fct.at w D (.mx (.slice xa L.length xk) (L.map nl))) (hl : Laid w) (h : MvI q n L) :
    Calls Tryd.prog 79 #[.int .i64 (q : Nat), .slice xa L.length xk] w fun e w' => e = .returned (.bool true) ∧ Below w.heap.size w w' := by
  have h1 := mValid_c (q : Int) (L.map nl) (xa := xa) (xk := xk) (D := D) (w := w) (by rw [List.length_map]; exact hx) hl (by have := h.qT; unfold Top at this; omega) (mv_of h)
  rw [List.length_map] at h1
  exact h1
theorem MvI.cp {q n : Nat} {L : List (List Nat)} (h : MvI q n L) : ∀ r ∈ L, 0 < r.length ∧ r.length ≤ 1000 := fun r hr => by
  have := h.res r hr; have := h.n1; have := h.n30; omega
set_option maxRecDepth 100000 in
set_option maxHeartbeats 2000000 in
theorem Rank_ok {D : Nat → Prop} (q n : Nat) (L : List (List Nat)) {xa : Option Addr} {xk : Nat} {w : World} (hx : Fct.at w D (.mx (.slice xa L.length xk) (L.map nl))) (hl0 : Laid w) (hv0 : MvI q n L) :
    Calls Tryd.prog 37 #[.int .i64 (q : Nat), .slice xa L.length xk] w fun e w' => e = .returned (.tuple #[.int .i64 ((redN q L n).2.length : Nat), .int .i64 0]) ∧ Below w.heap.size w w' := by
  have E0 : Hid (Env D w [] [.mx (.slice xa L.length xk) (L.map nl)] w) := Lib.hid ((Env.start D w).arg (.mx (.slice xa L.length xk) (L.map nl)) hx)
  clear hx
  go_enter Tryd.func37, Tryd.ntmps37
  have hl := Lib.hid hl0
  have hv := Lib.hid hv0
  clear hl0 hv0
  have hz : 0 < L.length := hv.out.m1
  have hzI : (0 : Int) < (L.length : Int) := by omega
  have h30 := hv.out.m30
  go_wp2_with fail
  refine (mValidN (E0.out.fc 0 rfl) (hl.out.below E0.out.bel) hv.out).mono ?_
  rintro e w1 ⟨rfl, hb⟩
  have E1 : Hid (Env D w [] [.mx (.slice xa L.length xk) (L.map nl)] w1) := Lib.hid (E0.out.below hb)
  clear E0 hb
  go_upto_region 3 with (fail)
  obtain ⟨xab, xao, rfl⟩ := Mx.addrN (E1.out.fc 0 rfl) hz
  obtain ⟨ua, uk, E20⟩ := E1.out.elMN 0 rfl (0) hz
  have E2 : Hid (Env D w [] [.ce xab (xao) (.slice ua L[0].length uk), .rw (.slice ua L[0].length uk) L[0].length 1 (ncl L[0]), .mx (.slice (some ⟨xab, xao, none⟩) L.length xk) (L.map nl)] _) := Lib.hid E20
  clear E20 E1
  have HL0 : Hid (L[0].length = n) := Lib.hid (hv.out.res _ (List.getElem_mem hz)).1
  go_wp2_with fail
  have E3 : Hid (Env D w [] [.ce xab (xao) (.slice ua L[0].length uk), .rw (.slice ua L[0].length uk) L[0].length 1 (ncl L[0]), .mx (.slice (some ⟨xab, xao, none⟩) L.length xk) (L.map nl)] (w1.drew)) := Lib.hid E2.out.drew
  clear E2
  refine wp_regionU (S := fun w' => w'.cell? ⟨xab, xao, none⟩ = some (.slice ua L[0].length uk)) [] (by kernel_rfl) ((E3.out.fc 0 rfl).2) (fun hHeld => ?_)
  generalize w1.drew = w2 at *
  refine uTake (i := 0) (some 10) (v := ?_) rfl rfl (by kernel_rfl) (by kernel_rfl) (by kernel_rfl) (by kernel_rfl) (fun _ _ _ h => h) (by rfl) (by assumption) ?_ ?_
  rotate_left
  · (intro wS hSw; (try dsimp only at hSw); go_simp; try with_reducible rfl)
  try simp only [Act.put, List.setIfInBounds_toArray, List.set_cons_zero, List.set_cons_succ]
  refine uTake (i := 1) (some 11) (v := ?_) rfl rfl (by kernel_rfl) (by kernel_rfl) (by kernel_rfl) (by kernel_rfl) (fun _ _ _ h => h) (by rfl) (by assumption) ?_ ?_
  rotate_left
  · (intro wS hSw; (try dsimp only at hSw); go_simp; try with_reducible rfl)
  try simp only [Act.put, List.setIfInBounds_toArray, List.set_cons_zero, List.set_cons_succ]
  refine uTake (i := 3) (some 13) (v := ?_) rfl rfl (by kernel_rfl) (by kernel_rfl) (by kernel_rfl) (by kernel_rfl) (fun _ _ _ h => h) (by rfl) (by assumption) ?_ ?_
  rotate_left
  · (intro wS hSw; (try dsimp only at hSw); go_simp; try with_reducible rfl)
  try simp only [Act.put, List.setIfInBounds_toArray, List.set_cons_zero, List.set_cons_succ]
  refine uTake (i := 4) (some 14) (v := ?_) rfl rfl (by kernel_rfl) (by kernel_rfl) (by kernel_rfl) (by kernel_rfl) (fun _ _ _ h => h) (by rfl) (by assumption) ?_ ?_
  rotate_left
  · (intro wS hSw; (try dsimp only at hSw); go_simp; try with_reducible rfl)
  try simp only [Act.put, List.setIfInBounds_toArray, List.set_cons_zero, List.set_cons_succ]
  refine uTake (i := 5) (some 15) (v := ?_) rfl rfl (by kernel_rfl) (by kernel_rfl) (by kernel_rfl) (by kernel_rfl) (fun _ _ _ h => h) (by rfl) (by assumption) ?_ ?_
  rotate_left
  · (intro wS hSw; (try dsimp only at hSw); go_simp; try with_reducible rfl)
  try simp only [Act.put, List.setIfInBounds_toArray, List.set_cons_zero, List.set_cons_succ]
  refine uTake (i := 6) (some 16) (v := ?_) rfl rfl (by kernel_rfl) (by kernel_rfl) (by kernel_rfl) (by kernel_rfl) (fun _ _ _ h => h) (by rfl) (by assumption) ?_ ?_
  rotate_left
  · (intro wS hSw; (try dsimp only at hSw); go_simp; try with_reducible rfl)
  try simp only [Act.put, List.setIfInBounds_toArray, List.set_cons_zero, List.set_cons_succ]
  refine uReady (rs := [2]) (by kernel_rfl) (by simp) ?_
  refine ReadyU.cons rfl (fun KK hKK => ?_) ReadyU.nil
  go_simp
  refine (copied_c L (E3.out.fc 2 rfl) (by omega) hv.out.cp).mono ?_
  rintro e w3 ⟨⟨cg, cR, rfl, cH, cF⟩, hb⟩
  have E4 : Hid (Env D w ((mbx cg cR) ++ []) [.ce xab (xao) (.slice ua L[0].length uk), .rw (.slice ua L[0].length uk) L[0].length 1 (ncl L[0]), .mx (.slice (some ⟨xab, xao, none⟩) L.length xk) (L.map nl)] w3) := Lib.hid ((E3.out.gotSeg hb cF).cast (by simp))
  clear E3 hb
  have crl : Hid (cR.length = L.length) := Lib.hid (by have h := congrArg List.length cH.out.1; simpa using h)
  (try dsimp only)
  clear hHeld
  refine hKK.out _ _ ((E4.out.fc 0 rfl).2) (fun hHeld => ?_)
  clear hKK KK
  try simp only [Act.put, List.setIfInBounds_toArray, List.set_cons_zero, List.set_cons_succ]
  have zRD := reduce_c q n L[0].length cR (A0 := []) (B0 := []) (Lib.hid E4.out) hv.out.q2 hv.out.qT (by rw [cH.out.1]; exact hv.out.res) (by rw [HL0.out]; exact Nat.le_refl _) (by rw [crl.out]; omega) (by have := hv.out.n30; omega) cH.out.2
  rw [crl.out] at zRD
  have zRE := Lib.hid zRD
  clear zRD
  refine uReady (rs := [7]) (by kernel_rfl) (by simp) ?_
  refine ReadyU.cons rfl (fun KK hKK => ?_) ReadyU.nil
  go_simp
  refine (zRE.out).mono ?_
  rintro e w4 ⟨zR, zP, za, zk, rfl, zH, zE9⟩
  have E5 : Hid (Env D w ((mbx cg zR) ++ []) [.rw (.slice za zP.length zk) zP.length 1 (ncl zP), .ce xab (xao) (.slice ua L[0].length uk), .rw (.slice ua L[0].length uk) L[0].length 1 (ncl L[0]), .mx (.slice (some ⟨xab, xao, none⟩) L.length xk) (L.map nl)] w4) := Lib.hid (zE9.out.cast (by first | rfl | simp))
  clear E4 zE9
  (try dsimp only)
  clear hHeld
  refine hKK.out _ _ ((E5.out.fc 1 rfl).2) (fun hHeld => ?_)
  clear hKK KK
  try simp only [Act.put, List.setIfInBounds_toArray, List.set_cons_zero, List.set_cons_succ]
  refine uTake (i := 8) (some 18) (v := ?_) rfl rfl (by kernel_rfl) (by kernel_rfl) (by kernel_rfl) (by kernel_rfl) (fun _ _ _ h => h) (by rfl) (by assumption) ?_ ?_
  rotate_left
  · (intro wS hSw; (try dsimp only at hSw); go_simp; try with_reducible rfl)
  try simp only [Act.put, List.setIfInBounds_toArray, List.set_cons_zero, List.set_cons_succ]
  refine uTake (i := 9) (some 4) (v := ?_) rfl rfl (by kernel_rfl) (by kernel_rfl) (by kernel_rfl) (by kernel_rfl) (fun _ _ _ h => h) (by rfl) (by assumption) ?_ ?_
  rotate_left
  · (intro wS hSw; (try dsimp only at hSw); go_simp; try with_reducible rfl)
  try simp only [Act.put, List.setIfInBounds_toArray, List.set_cons_zero, List.set_cons_succ]
  refine uTake (i := 10) (some 5) (v := ?_) rfl rfl (by kernel_rfl) (by kernel_rfl) (by kernel_rfl) (by kernel_rfl) (fun _ _ _ h => h) (by rfl) (by assumption) ?_ ?_
  rotate_left
  · (intro wS hSw; (try dsimp only at hSw); go_simp; try with_reducible rfl)
  try simp only [Act.put, List.setIfInBounds_toArray, List.set_cons_zero, List.set_cons_succ]
  refine uDone (by kernel_rfl) ?_ _
  have HZL : Hid (zP.length = (redN q L n).2.length) := Lib.hid (by have h := congrArg (fun x => x.2.length) zH.out.1; rw [cH.out.1, HL0.out] at h; exact h)
  have hfin := Lib.hid E5.out.bel
  go_wp2
  go_ret2
  exact ⟨by rw [← HZL.out]; rfl, hfin.out⟩
/-- too long for the law, but perhaps valid; or more than 100 -/
def grB (n : Nat) : Bool := (decide (12 < n) && decide (n ≤ 30)) || decide (100 < n)
set_option maxRecDepth 100000 in
set_option maxHeartbeats 1000000 in
theorem great2_a {D : Nat → Prop} (l : List Int) {xa : Option Addr} {xk : Nat} {w : World} (hx : Fct.at w D (.rw (.slice xa l.length xk) l.length 1 (icl l))) (hm : l.length ≤ 12) :
    Calls Tryd.prog 77 #[.slice xa l.length xk] w fun e w' => e = .returned (.bool false) ∧ Below w.heap.size w w' := by
  have E0 : Hid (Env D w [] [.rw (.slice xa l.length xk) l.length 1 (icl l)] w) := Lib.hid ((Env.start D w).arg (.rw (.slice xa l.length xk) l.length 1 (icl l)) hx)
  clear hx
  go_enter Tryd.func77, Tryd.ntmps77
  have d1 : decide ((12 < (l.length : Int))) = false := decide_eq_false (by omega)
  have d1n : decide ((12 < l.length)) = false := decide_eq_false (by omega)
  have d3 : decide ((100 < (l.length : Int))) = false := decide_eq_false (by omega)
  have d3n : decide ((100 < l.length)) = false := decide_eq_false (by omega)
  clear hm
  have hfin := Lib.hid E0.out.bel
  go_wp2
  go_ret
  exact ⟨rfl, hfin.out⟩
set_option maxRecDepth 100000 in
set_option maxHeartbeats 1000000 in
theorem great2_b {D : Nat → Prop} (l : List Int) {xa : Option Addr} {xk : Nat} {w : World} (hx : Fct.at w D (.rw (.slice xa l.length xk) l.length 1 (icl l))) (hm : 12 < l.length ∧ l.length ≤ 30) :
    Calls Tryd.prog 77 #[.slice xa l.length xk] w fun e w' => e = .returned (.bool true) ∧ Below w.heap.size w w' := by
  have E0 : Hid (Env D w [] [.rw (.slice xa l.length xk) l.length 1 (icl l)] w) := Lib.hid ((Env.start D w).arg (.rw (.slice xa l.length xk) l.length 1 (icl l)) hx)
  clear hx
  go_enter Tryd.func77, Tryd.ntmps77
  have d1 : decide ((12 < (l.length : Int))) = true := decide_eq_true (by omega)
  have d1n : decide ((12 < l.length)) = true := decide_eq_true (by omega)
  have d2 : decide (((l.length : Int) ≤ 30)) = true := decide_eq_true (by omega)
  have d2n : decide ((l.length ≤ 30)) = true := decide_eq_true (by omega)
  clear hm
  have hfin := Lib.hid E0.out.bel
  go_wp2
  go_ret
  exact ⟨rfl, hfin.out⟩
set_option maxRecDepth 100000 in
set_option maxHeartbeats 1000000 in
theorem great2_c' {D : Nat → Prop} (l : List Int) {xa : Option Addr} {xk : Nat} {w : World} (hx : Fct.at w D (.rw (.slice xa l.length xk) l.length 1 (icl l))) (hm : 30 < l.length ∧ l.length ≤ 100) :
    Calls Tryd.prog 77 #[.slice xa l.length xk] w fun e w' => e = .returned (.bool false) ∧ Below w.heap.size w w' := by
  have E0 : Hid (Env D w [] [.rw (.slice xa l.length xk) l.length 1 (icl l)] w) := Lib.hid ((Env.start D w).arg (.rw (.slice xa l.length xk) l.length 1 (icl l)) hx)
  clear hx
  go_enter Tryd.func77, Tryd.ntmps77
  have d1 : decide ((12 < (l.length : Int))) = true := decide_eq_true (by omega)
  have d1n : decide ((12 < l.length)) = true := decide_eq_true (by omega)
  have d2 : decide (((l.length : Int) ≤ 30)) = false := decide_eq_false (by omega)
  have d2n : decide ((l.length ≤ 30)) = false := decide_eq_false (by omega)
  have d3 : decide ((100 < (l.length : Int))) = false := decide_eq_false (by omega)
  have d3n : decide ((100 < l.length)) = false := decide_eq_false (by omega)
  clear hm
  have hfin := Lib.hid E0.out.bel
  go_wp2
  go_ret
  exact ⟨rfl, hfin.out⟩
set_option maxRecDepth 100000 in
set_option maxHeartbeats 1000000 in
theorem great2_d {D : Nat → Prop} (l : List Int) {xa : Option Addr} {xk : Nat} {w : World} (hx : Fct.at w D (.rw (.slice xa l.length xk) l.length 1 (icl l))) (hm : 100 < l.length) :
    Calls Tryd.prog 77 #[.slice xa l.length xk] w fun e w' => e = .returned (.bool true) ∧ Below w.heap.size w w' := by
  have E0 : Hid (Env D w [] [.rw (.slice xa l.length xk) l.length 1 (icl l)] w) := Lib.hid ((Env.start D w).arg (.rw (.slice xa l.length xk) l.length 1 (icl l)) hx)
  clear hx
  go_enter Tryd.func77, Tryd.ntmps77
  have d1 : decide ((12 < (l.length : Int))) = true := decide_eq_true (by omega)
  have d1n : decide ((12 < l.length)) = true := decide_eq_true (by omega)
  have d2 : decide (((l.length : Int) ≤ 30)) = false := decide_eq_false (by omega)
  have d2n : decide ((l.length ≤ 30)) = false := decide_eq_false (by omega)
  have d3 : decide ((100 < (l.length : Int))) = true := decide_eq_true (by omega)
  have d3n : decide ((100 < l.length)) = true := decide_eq_true (by omega)
  clear hm
  have hfin := Lib.hid E0.out.bel
  go_wp2
  go_ret
  exact ⟨rfl, hfin.out⟩
theorem great2_c {D : Nat → Prop} (l : List Int) {xa : Option Addr} {xk : Nat} {w : World} (hx : Fct.at w D (.rw (.slice xa l.length xk) l.length 1 (icl l))) :
    Calls Tryd.prog 77 #[.slice xa l.length xk] w fun e w' => e = .returned (.bool (grB l.length)) ∧ Below w.heap.size w w' := by
  by_cases h1 : l.length ≤ 12
  · rw [show grB l.length = false from by unfold grB; rw [decide_eq_false (show ¬ 12 < l.length by omega), decide_eq_false (show ¬ 100 < l.length by omega)]; rfl]; exact great2_a l hx h1
  by_cases h2 : l.length ≤ 30
  · rw [show grB l.length = true from by unfold grB; rw [decide_eq_true (show 12 < l.length by omega), decide_eq_true h2]; rfl]; exact great2_b l hx ⟨by omega, h2⟩
  by_cases h3 : l.length ≤ 100
  · rw [show grB l.length = false from by unfold grB; rw [decide_eq_false h2, decide_eq_false (show ¬ 100 < l.length by omega), Bool.and_false]; rfl]; exact great2_c' l hx ⟨by omega, h3⟩
  · rw [show grB l.length = true from by unfold grB; rw [decide_eq_true (show 100 < l.length by omega), Bool.or_true]]; exact great2_d l hx (by omega)
theorem great2_t {D : Nat → Prop} (l : List Int) {xa : Option Addr} {xk : Nat} {w : World} (hx : Fct.at w D (.rw (.slice xa l.length xk) l.length 1 (icl l))) {t : Bool} (ht : grB l.length = t) :
    Calls Tryd.prog 77 #[.slice xa l.length xk] w fun e w' => e = .returned (.bool t) ∧ Below w.heap.size w w' := by
  subst ht; exact great2_c l hx
set_option maxRecDepth 100000 in
set_option maxHeartbeats 1000000 in
theorem grrI {D : Nat → Prop} (l : List (List Int))  {xa : Option Addr} {xk : Nat} {w : World} (hx : Fct.at w D (.mx (.slice xa l.length xk) l))  {r : Int} (hr0 : (r = -1 ∧ ∀ k (h : k < l.length), grB (l[k]).length = false) ∨ ∃ k : Nat, r = (k : Int) ∧ ∃ h : k < l.length, grB (l[k]).length = true ∧ ∀ j (h : j < l.length), j < k → grB (l[j]).length = false) (hm : l.length ≤ 1000000) :
    Calls Tryd.prog 87 #[.slice xa l.length xk, .func (.func 77) #[] #[]] w fun e w' => e = .returned (.int .i64 r) ∧ Below w.heap.size w w' := by
  have E0 : Hid (Env D w [] [.mx (.slice xa l.length xk) l] w) := Lib.hid ((Env.start D w).arg (.mx (.slice xa l.length xk) l) hx)
  clear hx
  go_enter Tryd.func87, Tryd.ntmps87
  have hr := Lib.hid hr0
  clear hr0
  go_wp2_with fail
  go_loopg [8] (l.length) (fun gk s8 wr => ∃ (k : Nat), s8 = .int .i64 (k : Int) ∧ Hid (Env D w [] [.mx (.slice xa l.length xk) l] wr) ∧ Hid ((k ≤ l.length ∧ gk = l.length - k) ∧ ∀ j (h : j < l.length), j < k → grB (l[j]).length = false))
  case atStart => exact ⟨0, rfl, Lib.hid E0.out, Lib.hid ⟨⟨Nat.zero_le _, rfl⟩, fun j _ h => absurd h (Nat.not_lt_zero _)⟩⟩
  case round =>
    clear E0
    obtain ⟨k, rfl, EL, HA⟩ := hrel
    obtain ⟨⟨a1, a2⟩, a3⟩ := HA.out
    have HS := Lib.hid a3
    clear a3 HA
    by_cases hy : k = l.length
    rotate_left
    · have hk : k < l.length := by omega
      have t6 : decide ((k : Int) < (l.length : Int)) = true := decide_eq_true (by omega)
      have t7 : decide (k < l.length) = true := decide_eq_true hk
      clear hy
      obtain ⟨xab, xao, rfl⟩ := Mx.addr (EL.out.fc 0 rfl) hk
      obtain ⟨ua, uk, E10⟩ := EL.out.elM 0 rfl (k) hk
      have E1 : Hid (Env D w [] [.ce xab (xao + k) (.slice ua l[k].length uk), .rw (.slice ua l[k].length uk) l[k].length 1 (icl l[k]), .mx (.slice (some ⟨xab, xao, none⟩) l.length xk) l] _) := Lib.hid E10
      clear E10 EL
      have u0 := (E1.out.fc 0 rfl).2
      by_cases hb : grB (l[k]).length = true
      · have HB := Lib.hid hb
        have HR : Hid (r = (k : Int)) := Lib.hid (by rcases hr.out with ⟨_, h9⟩ | ⟨j, rfl, hj, h8, h7⟩; (· have := h9 k hk; rw [hb] at this; cases this); rcases Nat.lt_trichotomy j k with e | e | e; (· have := HS.out j hj e; rw [h8] at this; cases this); (· rw [e]); (· have := h7 k hk e; rw [hb] at this; cases this))
        clear hb
        go_wp2_with fail
        refine (great2_t l[k] (E1.out.fc 1 rfl) HB.out).mono ?_
        rintro e w1 ⟨rfl, hb⟩
        have E2 : Hid (Env D w [] [.ce xab (xao + k) (.slice ua l[k].length uk), .rw (.slice ua l[k].length uk) l[k].length 1 (icl l[k]), .mx (.slice (some ⟨xab, xao, none⟩) l.length xk) l] w1) := Lib.hid (E1.out.below hb)
        clear u0 E1 hb
        have hfin := Lib.hid E2.out.bel
        go_wp2
        go_ret
        exact ⟨RetEq HR.out.symm, hfin.out⟩
      · have HB := Lib.hid (Bool.eq_false_iff.2 hb)
        clear hb
        go_wp2_with fail
        refine (great2_t l[k] (E1.out.fc 1 rfl) HB.out).mono ?_
        rintro e w1 ⟨rfl, hb⟩
        have E2 : Hid (Env D w [] [.ce xab (xao + k) (.slice ua l[k].length uk), .rw (.slice ua l[k].length uk) l[k].length 1 (icl l[k]), .mx (.slice (some ⟨xab, xao, none⟩) l.length xk) l] w1) := Lib.hid (E1.out.below hb)
        clear u0 E1 hb
        have EZ := Lib.hid ((E2.out.forget).forget)
        go_wp2
        go_roundg (l.length - (k + 1))
        case rel => exact ⟨k + 1, rfl, EZ, Lib.hid ⟨⟨by omega, rfl⟩, fun j h hj => by by_cases e : j = k; (· subst e; exact HB.out); exact HS.out j h (by omega)⟩⟩
        case measure => exact by omega
    have t6 : decide ((k : Int) < (l.length : Int)) = false := decide_eq_false (by omega)
    have t7 : decide (k < l.length) = false := decide_eq_false (by omega)
    have HR : Hid (r = -1) := Lib.hid (by rcases hr.out with ⟨h9, _⟩ | ⟨j, rfl, hj, h8, h7⟩; (· exact h9); have := HS.out j hj (by omega); rw [h8] at this; cases this)
    have HY := Lib.hid hy
    clear hy
    have hfin := Lib.hid EL.out.bel
    go_wp2
    go_ret
    exact ⟨RetEq HR.out.symm, hfin.out⟩
set_option maxRecDepth 100000 in
set_option maxHeartbeats 1000000 in
theorem grrC {D : Nat → Prop} (l : List (List Int))  {xa : Option Addr} {xk : Nat} {w : World} (hx : Fct.at w D (.mx (.slice xa l.length xk) l))  {t : Bool} (ht0 : l.any (fun x => grB (x).length) = t) (hm : l.length ≤ 1000000) :
    Calls Tryd.prog 40 #[.slice xa l.length xk, .func (.func 77) #[] #[]] w fun e w' => e = .returned (.bool t) ∧ Below w.heap.size w w' := by
  have E0 : Hid (Env D w [] [.mx (.slice xa l.length xk) l] w) := Lib.hid ((Env.start D w).arg (.mx (.slice xa l.length xk) l) hx)
  clear hx
  go_enter Tryd.func40, Tryd.ntmps40
  have ht := Lib.hid ht0
  clear ht0
  obtain ⟨r, hr⟩ : ∃ r : Int, ((r = -1 ∧ ∀ k (h : k < l.length), grB (l[k]).length = false) ∨ ∃ k : Nat, r = (k : Int) ∧ ∃ h : k < l.length, grB (l[k]).length = true ∧ ∀ j (h : j < l.length), j < k → grB (l[j]).length = false) := first_any l (fun x => grB (x).length)
  have hd : Hid (decide (0 ≤ r) = t) := Lib.hid (by rw [← ht.out]; exact first_dec hr)
  have HR := Lib.hid hr
  clear hr ht
  go_wp2_with fail
  refine (grrI l  (E0.out.fc 0 rfl)  (hr0 := HR.out) (hm := hm)).mono ?_
  rintro e w1 ⟨rfl, hb⟩
  have E1 : Hid (Env D w [] [.mx (.slice xa l.length xk) l] w1) := Lib.hid (E0.out.below hb)
  clear E0 hb
  have HD := hd.out
  have hfin := Lib.hid E1.out.bel
  go_wp2
  go_ret
  exact ⟨rfl, hfin.out⟩
def grM (M : List (List Int)) : Bool := grB M.length || M.any (fun x => grB x.length)
set_option maxRecDepth 100000 in
set_option maxHeartbeats 1000000 in
theorem great1_a {D : Nat → Prop} (l : List (List Int)) {xa : Option Addr} {xk : Nat} {w : World} (hx : Fct.at w D (.mx (.slice xa l.length xk) l)) (hm : l.length ≤ 12) {t : Bool} (ht0 : l.any (fun x => grB x.length) = t) :
    Calls Tryd.prog 76 #[.slice xa l.length xk] w fun e w' => e = .returned (.bool t) ∧ Below w.heap.size w w' := by
  have E0 : Hid (Env D w [] [.mx (.slice xa l.length xk) l] w) := Lib.hid ((Env.start D w).arg (.mx (.slice xa l.length xk) l) hx)
  clear hx
  go_enter Tryd.func76, Tryd.ntmps76
  have ht := Lib.hid ht0
  clear ht0
  have d1 : decide ((12 < (l.length : Int))) = false := decide_eq_false (by omega)
  have d1n : decide ((12 < l.length)) = false := decide_eq_false (by omega)
  have d3 : decide ((100 < (l.length : Int))) = false := decide_eq_false (by omega)
  have d3n : decide ((100 < l.length)) = false := decide_eq_false (by omega)
  have HL : Hid (l.length ≤ 1000000 ∨ 100 < l.length) := Lib.hid (by omega)
  have HM : Hid (l.length ≤ 1000000) := Lib.hid (by omega)
  clear hm
  go_wp2_with fail
  refine (grrC l (E0.out.fc 0 rfl) ht.out HM.out).mono ?_
  rintro e w1 ⟨rfl, hb⟩
  have E1 : Hid (Env D w [] [.mx (.slice xa l.length xk) l] w1) := Lib.hid (E0.out.below hb)
  clear E0 hb
  have hfin := Lib.hid E1.out.bel
  go_wp2
  go_ret
  exact ⟨rfl, hfin.out⟩
set_option maxRecDepth 100000 in
set_option maxHeartbeats 1000000 in
theorem great1_b {D : Nat → Prop} (l : List (List Int)) {xa : Option Addr} {xk : Nat} {w : World} (hx : Fct.at w D (.mx (.slice xa l.length xk) l)) (hm : 12 < l.length ∧ l.length ≤ 30) :
    Calls Tryd.prog 76 #[.slice xa l.length xk] w fun e w' => e = .returned (.bool true) ∧ Below w.heap.size w w' := by
  have E0 : Hid (Env D w [] [.mx (.slice xa l.length xk) l] w) := Lib.hid ((Env.start D w).arg (.mx (.slice xa l.length xk) l) hx)
  clear hx
  go_enter Tryd.func76, Tryd.ntmps76
  have d1 : decide ((12 < (l.length : Int))) = true := decide_eq_true (by omega)
  have d1n : decide ((12 < l.length)) = true := decide_eq_true (by omega)
  have d2 : decide (((l.length : Int) ≤ 30)) = true := decide_eq_true (by omega)
  have d2n : decide ((l.length ≤ 30)) = true := decide_eq_true (by omega)
  have HL : Hid (l.length ≤ 1000000 ∨ 100 < l.length) := Lib.hid (by omega)
  clear hm
  have hfin := Lib.hid E0.out.bel
  go_wp2
  go_ret
  exact ⟨rfl, hfin.out⟩
set_option maxRecDepth 100000 in
set_option maxHeartbeats 1000000 in
theorem great1_c' {D : Nat → Prop} (l : List (List Int)) {xa : Option Addr} {xk : Nat} {w : World} (hx : Fct.at w D (.mx (.slice xa l.length xk) l)) (hm : 30 < l.length ∧ l.length ≤ 100) {t : Bool} (ht0 : l.any (fun x => grB x.length) = t) :
    Calls Tryd.prog 76 #[.slice xa l.length xk] w fun e w' => e = .returned (.bool t) ∧ Below w.heap.size w w' := by
  have E0 : Hid (Env D w [] [.mx (.slice xa l.length xk) l] w) := Lib.hid ((Env.start D w).arg (.mx (.slice xa l.length xk) l) hx)
  clear hx
  go_enter Tryd.func76, Tryd.ntmps76
  have ht := Lib.hid ht0
  clear ht0
  have d1 : decide ((12 < (l.length : Int))) = true := decide_eq_true (by omega)
  have d1n : decide ((12 < l.length)) = true := decide_eq_true (by omega)
  have d2 : decide (((l.length : Int) ≤ 30)) = false := decide_eq_false (by omega)
  have d2n : decide ((l.length ≤ 30)) = false := decide_eq_false (by omega)
  have d3 : decide ((100 < (l.length : Int))) = false := decide_eq_false (by omega)
  have d3n : decide ((100 < l.length)) = false := decide_eq_false (by omega)
  have HL : Hid (l.length ≤ 1000000 ∨ 100 < l.length) := Lib.hid (by omega)
  have HM : Hid (l.length ≤ 1000000) := Lib.hid (by omega)
  clear hm
  go_wp2_with fail
  refine (grrC l (E0.out.fc 0 rfl) ht.out HM.out).mono ?_
  rintro e w1 ⟨rfl, hb⟩
  have E1 : Hid (Env D w [] [.mx (.slice xa l.length xk) l] w1) := Lib.hid (E0.out.below hb)
  clear E0 hb
  have hfin := Lib.hid E1.out.bel
  go_wp2
  go_ret
  exact ⟨rfl, hfin.out⟩
set_option maxRecDepth 100000 in
set_option maxHeartbeats 1000000 in
theorem great1_d {D : Nat → Prop} (l : List (List Int)) {xa : Option Addr} {xk : Nat} {w : World} (hx : Fct.at w D (.mx (.slice xa l.length xk) l)) (hm : 100 < l.length) :
    Calls Tryd.prog 76 #[.slice xa l.length xk] w fun e w' => e = .returned (.bool true) ∧ Below w.heap.size w w' := by
  have E0 : Hid (Env D w [] [.mx (.slice xa l.length xk) l] w) := Lib.hid ((Env.start D w).arg (.mx (.slice xa l.length xk) l) hx)
  clear hx
  go_enter Tryd.func76, Tryd.ntmps76
  have d1 : decide ((12 < (l.length : Int))) = true := decide_eq_true (by omega)
  have d1n : decide ((12 < l.length)) = true := decide_eq_true (by omega)
  have d2 : decide (((l.length : Int) ≤ 30)) = false := decide_eq_false (by omega)
  have d2n : decide ((l.length ≤ 30)) = false := decide_eq_false (by omega)
  have d3 : decide ((100 < (l.length : Int))) = true := decide_eq_true (by omega)
  have d3n : decide ((100 < l.length)) = true := decide_eq_true (by omega)
  have HL : Hid (l.length ≤ 1000000 ∨ 100 < l.length) := Lib.hid (by omega)
  clear hm
  have hfin := Lib.hid E0.out.bel
  go_wp2
  go_ret
  exact ⟨rfl, hfin.out⟩
theorem great1_c {D : Nat → Prop} (l : List (List Int)) {xa : Option Addr} {xk : Nat} {w : World} (hx : Fct.at w D (.mx (.slice xa l.length xk) l)) {t : Bool} (ht : grM l = t) :
    Calls Tryd.prog 76 #[.slice xa l.length xk] w fun e w' => e = .returned (.bool t) ∧ Below w.heap.size w w' := by
  unfold grM grB at ht
  by_cases h1 : l.length ≤ 12
  · rw [decide_eq_false (show ¬ 12 < l.length by omega), decide_eq_false (show ¬ 100 < l.length by omega)] at ht
    exact great1_a l hx h1 (by simpa [grB] using ht)
  by_cases h2 : l.length ≤ 30
  · rw [decide_eq_true (show 12 < l.length by omega), decide_eq_true h2] at ht
    have e : t = true := by rw [← ht]; rfl
    subst e; exact great1_b l hx ⟨by omega, h2⟩
  by_cases h3 : l.length ≤ 100
  · rw [decide_eq_false h2, decide_eq_false (show ¬ 100 < l.length by omega), Bool.and_false] at ht
    exact great1_c' l hx ⟨by omega, h3⟩ (by simpa [grB] using ht)
  · rw [decide_eq_true (show 100 < l.length by omega), Bool.or_true] at ht
    have e : t = true := by rw [← ht]; rfl
    subst e; exact great1_d l hx (by omega)
/-- the headers in a block read as matrices -/
def gMats (g o : Nat) (l : List (List (List Int))) : GF where
  at_ w D := ∀ i (h : i < l.length), (g < w.heap.size ∧ D g) ∧ ∃ (a : Option Addr) (c : Nat), w.cell? ⟨g, o + i, none⟩ = some (.slice a l[i].length c) ∧ Mx w D (.slice a l[i].length c) l[i]
  turn h hs hD hc := fun i hi => by
    obtain ⟨h1, a, c, e1, e2⟩ := h i hi
    exact ⟨⟨Nat.lt_of_lt_of_le h1.1 hs, hD _ h1.1 h1.2⟩, a, c, (hc _ _ h1.1 h1.2).trans e1, e2.turn hs hD hc⟩
theorem Mx.tr {W : World} {D : Nat → Prop} {v : Value} {L : List (List Int)} (h : Mx W D v L) : Mx W (fun _ => True) v L := h.turn (Nat.le_refl _) (fun _ _ _ => trivial) (fun _ _ _ _ => rfl)
theorem Env.elG {D0 : Nat → Prop} {w W : World} {F : List Bx} {G : List Fct} (h : Env D0 w F G W) (i : Nat) {b o : Nat} {l : List (List (List Int))} (e : G[i]? = some (.gn (gMats b o l))) (k : Nat) (hk : k < l.length) :
    ∃ va vk, Env D0 w F (.ce b (o + k) (.slice va l[k].length vk) :: .mx (.slice va l[k].length vk) l[k] :: G) W := by
  obtain ⟨h1, a, c, e1, e2⟩ := (h.fc i e : (gMats b o l).at_ W (DF D0 w.heap.size F)) k hk
  exact ⟨a, c, (h.note (.mx _ _) e2).note (.ce _ _ _) ⟨h1, e1⟩⟩
/-- headers in a box -/
theorem gMats.one {W : World} {B g n : Nat} {T : TypeId} {D : Nat → Prop} {a : Option Addr} {c : Nat} {M : List (List Int)} (hn : M.length = n) (hB : Box B g T [.slice a n c] W) (h : Fct.at W D (.mx (.slice a n c) M)) : Fct.at W (fun _ => True) (.gn (gMats g 0 [M])) := by
  subst hn
  intro i hi
  obtain rfl : i = 0 := by have : i < 1 := hi; omega
  exact ⟨⟨hB.lt, trivial⟩, a, c, hB.cell 0 rfl, Mx.tr h⟩
theorem gMats.two {W : World} {B g n n2 : Nat} {T : TypeId} {D : Nat → Prop} {a a2 : Option Addr} {c c2 : Nat} {M N : List (List Int)} (hn : M.length = n) (hn2 : N.length = n2) (hB : Box B g T [.slice a n c, .slice a2 n2 c2] W) (h : Fct.at W D (.mx (.slice a n c) M)) (h2 : Fct.at W D (.mx (.slice a2 n2 c2) N)) : Fct.at W (fun _ => True) (.gn (gMats g 0 [M, N])) := by
  subst hn hn2
  intro i hi
  have : i < 2 := hi
  rcases (by omega : i = 0 ∨ i = 1) with rfl | rfl
  · exact ⟨⟨hB.lt, trivial⟩, a, c, hB.cell 0 rfl, Mx.tr h⟩
  · exact ⟨⟨hB.lt, trivial⟩, a2, c2, hB.cell 1 rfl, Mx.tr h2⟩
set_option maxRecDepth 100000 in
set_option maxHeartbeats 1000000 in
theorem grgI {D : Nat → Prop} (l : List (List (List Int))) {xb xo xk : Nat} {w : World} (hx : Fct.at w D (.gn (gMats xb xo l)))  {r : Int} (hr0 : (r = -1 ∧ ∀ k (h : k < l.length), grM (l[k]) = false) ∨ ∃ k : Nat, r = (k : Int) ∧ ∃ h : k < l.length, grM (l[k]) = true ∧ ∀ j (h : j < l.length), j < k → grM (l[j]) = false) (hm : l.length ≤ 1000000) :
    Calls Tryd.prog 116 #[.slice (some ⟨xb, xo, none⟩) l.length xk, .func (.func 76) #[] #[]] w fun e w' => e = .returned (.int .i64 r) ∧ Below w.heap.size w w' := by
  have E0 : Hid (Env D w [] [.gn (gMats xb xo l)] w) := Lib.hid ((Env.start D w).arg (.gn (gMats xb xo l)) hx)
  clear hx
  go_enter Tryd.func116, Tryd.ntmps116
  have hr := Lib.hid hr0
  clear hr0
  go_wp2_with fail
  go_loopg [8] (l.length) (fun gk s8 wr => ∃ (k : Nat), s8 = .int .i64 (k : Int) ∧ Hid (Env D w [] [.gn (gMats xb xo l)] wr) ∧ Hid ((k ≤ l.length ∧ gk = l.length - k) ∧ ∀ j (h : j < l.length), j < k → grM (l[j]) = false))
  case atStart => exact ⟨0, rfl, Lib.hid E0.out, Lib.hid ⟨⟨Nat.zero_le _, rfl⟩, fun j _ h => absurd h (Nat.not_lt_zero _)⟩⟩
  case round =>
    clear E0
    obtain ⟨k, rfl, EL, HA⟩ := hrel
    obtain ⟨⟨a1, a2⟩, a3⟩ := HA.out
    have HS := Lib.hid a3
    clear a3 HA
    by_cases hy : k = l.length
    rotate_left
    · have hk : k < l.length := by omega
      have t6 : decide ((k : Int) < (l.length : Int)) = true := decide_eq_true (by omega)
      have t7 : decide (k < l.length) = true := decide_eq_true hk
      clear hy
      obtain ⟨ua, uk, E10⟩ := EL.out.elG 0 rfl (k) hk
      have E1 : Hid (Env D w [] [.ce xb (xo + k) (.slice ua l[k].length uk), .mx (.slice ua l[k].length uk) l[k], .gn (gMats xb xo l)] _) := Lib.hid E10
      clear E10 EL
      have u0 := (E1.out.fc 0 rfl).2
      by_cases hb : grM (l[k]) = true
      · have HB := Lib.hid hb
        have HR : Hid (r = (k : Int)) := Lib.hid (by rcases hr.out with ⟨_, h9⟩ | ⟨j, rfl, hj, h8, h7⟩; (· have := h9 k hk; rw [hb] at this; cases this); rcases Nat.lt_trichotomy j k with e | e | e; (· have := HS.out j hj e; rw [h8] at this; cases this); (· rw [e]); (· have := h7 k hk e; rw [hb] at this; cases this))
        clear hb
        go_wp2_with fail
        refine (great1_c l[k] (E1.out.fc 1 rfl) HB.out).mono ?_
        rintro e w1 ⟨rfl, hb⟩
        have E2 : Hid (Env D w [] [.ce xb (xo + k) (.slice ua l[k].length uk), .mx (.slice ua l[k].length uk) l[k], .gn (gMats xb xo l)] w1) := Lib.hid (E1.out.below hb)
        clear u0 E1 hb
        have hfin := Lib.hid E2.out.bel
        go_wp2
        go_ret
        exact ⟨RetEq HR.out.symm, hfin.out⟩
      · have HB := Lib.hid (Bool.eq_false_iff.2 hb)
        clear hb
        go_wp2_with fail
        refine (great1_c l[k] (E1.out.fc 1 rfl) HB.out).mono ?_
        rintro e w1 ⟨rfl, hb⟩
        have E2 : Hid (Env D w [] [.ce xb (xo + k) (.slice ua l[k].length uk), .mx (.slice ua l[k].length uk) l[k], .gn (gMats xb xo l)] w1) := Lib.hid (E1.out.below hb)
        clear u0 E1 hb
        have EZ := Lib.hid ((E2.out.forget).forget)
        go_wp2
        go_roundg (l.length - (k + 1))
        case rel => exact ⟨k + 1, rfl, EZ, Lib.hid ⟨⟨by omega, rfl⟩, fun j h hj => by by_cases e : j = k; (· subst e; exact HB.out); exact HS.out j h (by omega)⟩⟩
        case measure => exact by omega
    have t6 : decide ((k : Int) < (l.length : Int)) = false := decide_eq_false (by omega)
    have t7 : decide (k < l.length) = false := decide_eq_false (by omega)
    have HR : Hid (r = -1) := Lib.hid (by rcases hr.out with ⟨h9, _⟩ | ⟨j, rfl, hj, h8, h7⟩; (· exact h9); have := HS.out j hj (by omega); rw [h8] at this; cases this)
    have HY := Lib.hid hy
    clear hy
    have hfin := Lib.hid EL.out.bel
    go_wp2
    go_ret
    exact ⟨RetEq HR.out.symm, hfin.out⟩
set_option maxRecDepth 100000 in
set_option maxHeartbeats 1000000 in
theorem grgC {D : Nat → Prop} (l : List (List (List Int))) {xb xo xk : Nat} {w : World} (hx : Fct.at w D (.gn (gMats xb xo l)))  {t : Bool} (ht0 : l.any (fun x => grM (x)) = t) (hm : l.length ≤ 1000000) :
    Calls Tryd.prog 75 #[.slice (some ⟨xb, xo, none⟩) l.length xk, .func (.func 76) #[] #[]] w fun e w' => e = .returned (.bool t) ∧ Below w.heap.size w w' := by
  have E0 : Hid (Env D w [] [.gn (gMats xb xo l)] w) := Lib.hid ((Env.start D w).arg (.gn (gMats xb xo l)) hx)
  clear hx
  go_enter Tryd.func75, Tryd.ntmps75
  have ht := Lib.hid ht0
  clear ht0
  obtain ⟨r, hr⟩ : ∃ r : Int, ((r = -1 ∧ ∀ k (h : k < l.length), grM (l[k]) = false) ∨ ∃ k : Nat, r = (k : Int) ∧ ∃ h : k < l.length, grM (l[k]) = true ∧ ∀ j (h : j < l.length), j < k → grM (l[j]) = false) := first_any l (fun x => grM (x))
  have hd : Hid (decide (0 ≤ r) = t) := Lib.hid (by rw [← ht.out]; exact first_dec hr)
  have HR := Lib.hid hr
  clear hr ht
  go_wp2_with fail
  refine (grgI l (E0.out.fc 0 rfl) (hr0 := HR.out) (hm := hm)).mono ?_
  rintro e w1 ⟨rfl, hb⟩
  have E1 : Hid (Env D w [] [.gn (gMats xb xo l)] w1) := Lib.hid (E0.out.below hb)
  clear E0 hb
  have HD := hd.out
  have hfin := Lib.hid E1.out.bel
  go_wp2
  go_ret
  exact ⟨rfl, hfin.out⟩
set_option maxRecDepth 100000 in
set_option maxHeartbeats 1000000 in
theorem great14_c {D : Nat → Prop} (l : List (List (List Int))) {xb xo xk : Nat} {w : World} (hx : Fct.at w D (.gn (gMats xb xo l)))  {t : Bool} (ht0 : l.any (fun x => grM x) = t) (hm : l.length ≤ 1000000) :
    Calls Tryd.prog 32 #[.slice (some ⟨xb, xo, none⟩) l.length xk] w fun e w' => e = .returned (.bool t) ∧ Below w.heap.size w w' := by
  have E0 : Hid (Env D w [] [.gn (gMats xb xo l)] w) := Lib.hid ((Env.start D w).arg (.gn (gMats xb xo l)) hx)
  clear hx
  go_enter Tryd.func32, Tryd.ntmps32
  have ht := Lib.hid ht0
  clear ht0
  go_wp2_with fail
  refine (grgC l (E0.out.fc 0 rfl) ht.out hm).mono ?_
  rintro e w1 ⟨rfl, hb⟩
  have E1 : Hid (Env D w [] [.gn (gMats xb xo l)] w1) := Lib.hid (E0.out.below hb)
  clear E0 hb
  have hfin := Lib.hid E1.out.bel
  go_wp2
  go_ret
  exact ⟨rfl, hfin.out⟩
end Go.Proofs.YteipbcpnnojclaaDoor

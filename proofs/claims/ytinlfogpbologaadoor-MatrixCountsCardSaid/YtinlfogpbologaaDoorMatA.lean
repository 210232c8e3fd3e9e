/- matrix: add, mul, minus, dot, scalars. -/
import Derived.Test.YtinlfogpbologaaDoorMatNl
namespace Go.Proofs.YtinlfogpbologaaDoor
open Go.RowKit DivMath WordMath
set_option linter.unusedVariables false
set_option linter.unusedSimpArgs false
set_option maxHeartbeats 400000 in
theorem matmul_c (q a b : Nat) (w : World) (ha : (a : Int) < (q : Int)) (hb : (b : Int) < (q : Int)) (hm : (q : Int) < Top) :
    Calls Tryd.prog 122 #[.int .i64 q, .int .i64 a, .int .i64 b] w fun e w' => RetN (fun r => r = a * b % q) e ∧ Below w.heap.size w w' := by
  go_enter Tryd.func122, Tryd.ntmps122
  go_wp2_with (first | (go_at_call 29; refine (Mul_ok _ _ _ _ ha hb hm).mono ?_; rintro e w' ⟨⟨r, hr, rfl⟩, n, rfl⟩))
  go_ret
  exact ⟨⟨r, hr, rfl⟩, below_drewN (Below.refl _ _) _⟩
set_option maxHeartbeats 400000 in
theorem matadd_c (q a b : Nat) (w : World) (ha : (a : Int) < (q : Int)) (hb : (b : Int) < (q : Int)) (hm : (q : Int) < Top) :
    Calls Tryd.prog 121 #[.int .i64 q, .int .i64 a, .int .i64 b] w fun e w' => RetN (fun r => r = (a + b) % q) e ∧ Below w.heap.size w w' := by
  go_enter Tryd.func121, Tryd.ntmps121
  go_wp2_with (first | (go_at_call 28; refine (Add_ok _ _ _ _ ha hb hm).mono ?_; rintro e w' ⟨⟨r, hr, rfl⟩, n, rfl⟩))
  go_ret
  exact ⟨⟨r, hr, rfl⟩, below_drewN (Below.refl _ _) _⟩
set_option maxHeartbeats 400000 in
theorem matminus_c (q a : Nat) (w : World) (ha : (a : Int) < (q : Int)) (hm : (q : Int) < Top) :
    Calls Tryd.prog 76 #[.int .i64 q, .int .i64 a] w fun e w' => RetN (fun r => r = (q - a) % q) e ∧ Below w.heap.size w w' := by
  have h0 : ((0 : Nat) : Int) < (q : Int) := by omega
  go_enter Tryd.func76, Tryd.ntmps76
  go_wp2_with (first | (go_at_call 113; refine (Sub_ok 0 _ _ _ h0 ha hm).mono ?_; rintro e w' ⟨⟨r, hr, rfl⟩, n, rfl⟩))
  go_ret
  exact ⟨⟨r, Lib.hid (by rw [hr.out, Nat.zero_add]), rfl⟩, below_drewN (Below.refl _ _) _⟩
/-- the product of two rows -/
def dotN (q : Nat) (a b : List Nat) : Nat → Nat
  | 0 => 0
  | k + 1 => (dotN q a b k + a.getD k 0 * b.getD k 0 % q) % q
theorem dotN_lt {q : Nat} (hq : 0 < q) (a b : List Nat) : ∀ k, dotN q a b k < q
  | 0 => hq
  | k + 1 => Nat.mod_lt _ hq
set_option maxRecDepth 100000 in
set_option maxHeartbeats 2000000 in
theorem matdot_c {D : Nat → Prop} (q : Nat) (a b : List Nat) {xa ya : Option Addr} {xk yk : Nat} {w : World} (hx : Fct.at w D (.rw (.slice xa a.length xk) a.length 1 (ncl a))) (hy : Fct.at w D (.rw (.slice ya b.length yk) b.length 1 (ncl b))) (hq : 0 < q) (hqT : (q : Int) < Top) (ha0 : ∀ c ∈ a, c < q) (hb0 : ∀ c ∈ b, c < q) (hab : a.length ≤ b.length) (hlen : a.length ≤ 1000) :
    Calls Tryd.prog 84 #[.int .i64 (q : Nat), .slice xa a.length xk, .slice ya b.length yk] w fun e w' => e = .returned (.int .i64 (dotN q a b a.length : Nat)) ∧ Below w.heap.size w w' := by
  have E0 : Hid (Env D w [] [.rw (.slice ya b.length yk) b.length 1 (ncl b), .rw (.slice xa a.length xk) a.length 1 (ncl a)] w) := Lib.hid (((Env.start D w).arg (.rw (.slice xa a.length xk) a.length 1 (ncl a)) hx).arg (.rw (.slice ya b.length yk) b.length 1 (ncl b)) hy)
  clear hx hy
  go_enter Tryd.func84, Tryd.ntmps84
  have ha := Lib.hid ha0
  have hb := Lib.hid hb0
  clear ha0 hb0
  have HT := Lib.hid hqT
  clear hqT
  have HQ := Lib.hid hq
  have HAB := Lib.hid hab
  clear hab
  go_wp2_with fail
  go_loopg [12, 7] (a.length) (fun gk s12 s7 wr => ∃ (k s : Nat), s12 = .int .i64 (k : Int) ∧ s7 = .int .i64 (s : Int) ∧ Hid (Env D w [] [.rw (.slice ya b.length yk) b.length 1 (ncl b), .rw (.slice xa a.length xk) a.length 1 (ncl a)] wr) ∧ Hid ((k ≤ a.length ∧ gk = a.length - k) ∧ s = dotN q a b k))
  case atStart => exact ⟨0, 0, rfl, rfl, Lib.hid E0.out, Lib.hid ⟨⟨Nat.zero_le _, rfl⟩, rfl⟩⟩
  case round =>
    clear E0
    obtain ⟨k, s, rfl, rfl, EL, HA⟩ := hrel
    obtain ⟨⟨a1, a2⟩, a3⟩ := HA.out
    have HS := Lib.hid a3
    clear a3 HA
    by_cases hy : k = a.length
    rotate_left
    · have hk : k < a.length := by omega
      have t6 : decide ((k : Int) < (a.length : Int)) = true := decide_eq_true (by omega)
      have t7 : decide (k < a.length) = true := decide_eq_true hk
      clear hy
      have hk9 : (k : Int) ≤ 999 := by omega
      have hkb : k < b.length := by have := HAB.out; omega
      have d1 : ((k : Int) < (b.length : Int)) := by omega
      have hsq : (s : Int) < (q : Int) := by rw [HS.out]; exact Int.ofNat_lt.2 (dotN_lt HQ.out _ _ _)
      have hxq : ((a[k] : Nat) : Int) < (q : Int) := Int.ofNat_lt.2 (ha.out _ (List.getElem_mem hk))
      have hyq : ((b[k] : Nat) : Int) < (q : Int) := Int.ofNat_lt.2 (hb.out _ (List.getElem_mem hkb))
      obtain ⟨xab, xao, rfl⟩ := Rw.addr (EL.out.fc 1 rfl) (by omega)
      have E1 : Hid (Env D w [] [.ce xab (xao + k) (.int .i64 (a[k] : Nat)), .rw (.slice ya b.length yk) b.length 1 (ncl b), .rw (.slice (some ⟨xab, xao, none⟩) a.length xk) a.length 1 (ncl a)] _) := Lib.hid (EL.out.elN 1 rfl rfl (k) hk)
      clear EL
      have p0 := (E1.out.fc 0 rfl).2
      obtain ⟨yab, yao, rfl⟩ := Rw.addr (E1.out.fc 1 rfl) (by omega)
      have E2 : Hid (Env D w [] [.ce yab (yao + k) (.int .i64 (b[k] : Nat)), .ce xab (xao + k) (.int .i64 (a[k] : Nat)), .rw (.slice (some ⟨yab, yao, none⟩) b.length yk) b.length 1 (ncl b), .rw (.slice (some ⟨xab, xao, none⟩) a.length xk) a.length 1 (ncl a)] _) := Lib.hid (E1.out.elN 1 rfl rfl (k) hkb)
      clear E1
      have o0 := (E2.out.fc 0 rfl).2
      go_wp2_with fail
      refine (matmul_c q a[k] b[k] _ hxq hyq HT.out).mono ?_
      rintro e w1 ⟨⟨m1, m1h, rfl⟩, hb⟩
      have E3 : Hid (Env D w [] [.ce yab (yao + k) (.int .i64 (b[k] : Nat)), .ce xab (xao + k) (.int .i64 (a[k] : Nat)), .rw (.slice (some ⟨yab, yao, none⟩) b.length yk) b.length 1 (ncl b), .rw (.slice (some ⟨xab, xao, none⟩) a.length xk) a.length 1 (ncl a)] w1) := Lib.hid (E2.out.below hb)
      clear p0 o0 E2 hb
      have m1q : (m1 : Int) < (q : Int) := by rw [m1h.out]; exact Int.ofNat_lt.2 (Nat.mod_lt _ HQ.out)
      go_wp2_with fail
      refine (matadd_c q s m1 _ hsq m1q HT.out).mono ?_
      rintro e w2 ⟨⟨m2, m2h, rfl⟩, hb⟩
      have E4 : Hid (Env D w [] [.ce yab (yao + k) (.int .i64 (b[k] : Nat)), .ce xab (xao + k) (.int .i64 (a[k] : Nat)), .rw (.slice (some ⟨yab, yao, none⟩) b.length yk) b.length 1 (ncl b), .rw (.slice (some ⟨xab, xao, none⟩) a.length xk) a.length 1 (ncl a)] w2) := Lib.hid (E3.out.below hb)
      clear E3 hb
      have HD : Hid (m2 = dotN q a b (k + 1)) := Lib.hid (by rw [m2h.out, m1h.out, HS.out]; show _ = (dotN q a b k + a.getD k 0 * b.getD k 0 % q) % q; rw [getD_elem hk, getD_elem hkb])
      have EZ := Lib.hid ((E4.out.forget).forget)
      go_wp2
      go_roundg (a.length - (k + 1))
      case rel => exact ⟨k + 1, m2, rfl, rfl, EZ, Lib.hid ⟨⟨by omega, rfl⟩, HD.out⟩⟩
      case measure => exact by omega
    have t6 : decide ((k : Int) < (a.length : Int)) = false := decide_eq_false (by omega)
    have t7 : decide (k < a.length) = false := decide_eq_false (by omega)
    obtain rfl : s = dotN q a b a.length := by rw [HS.out, hy]
    have HY := Lib.hid hy
    clear hy
    have hfin := Lib.hid EL.out.bel
    go_wp2
    go_ret
    exact ⟨rfl, hfin.out⟩
set_option maxHeartbeats 1000000 in
theorem mres1_c (q x : Int) (g : Nat) (w : World) (hg : w.cell? ⟨g, 0, none⟩ = some (.int .i64 q)) {t : Bool} (ht : (!resB q x) = t) :
    Calls Tryd.prog 120 #[.int .i64 x, .pointer (some ⟨g, 0, none⟩)] w fun e w' => e = .returned (.bool t) ∧ Below w.heap.size w w' := by
  unfold resB at ht
  by_cases h : x < 0
  · have d1 : decide (x < 0) = true := decide_eq_true h
    have : t = true := by rw [← ht]; simp; omega
    subst this
    clear ht
    go_enter Tryd.func120, Tryd.ntmps120
    go_wp2
    go_ret
    exact ⟨rfl, Below.refl _ _⟩
  · have d1 : decide (x < 0) = false := decide_eq_false h
    have d2 : decide (q ≤ x) = t := by rw [← ht, Bool.eq_iff_iff]; simp; omega
    clear ht
    go_enter Tryd.func120, Tryd.ntmps120
    go_wp2
    go_ret
    exact ⟨rfl, Below.refl _ _⟩
set_option maxRecDepth 100000 in
set_option maxHeartbeats 1000000 in
theorem mresI {D : Nat → Prop} (l : List Int) (q : Int) (g : Nat) {xa : Option Addr} {xk : Nat} {w : World} (hx : Fct.at w D (.rw (.slice xa l.length xk) l.length 1 (icl l))) (hg : Fct.at w D (.ce g 0 (.int .i64 q)))  {r : Int} (hr0 : (r = -1 ∧ ∀ k (h : k < l.length), (!resB q l[k]) = false) ∨ ∃ k : Nat, r = (k : Int) ∧ ∃ h : k < l.length, (!resB q l[k]) = true ∧ ∀ j (h : j < l.length), j < k → (!resB q l[j]) = false) (hm : l.length ≤ 1000000) :
    Calls Tryd.prog 138 #[.slice xa l.length xk, .func (.func 120) #[] #[.pointer (some ⟨g, 0, none⟩)]] w fun e w' => e = .returned (.int .i64 r) ∧ Below w.heap.size w w' := by
  have E0 : Hid (Env D w [] [.ce g 0 (.int .i64 q), .rw (.slice xa l.length xk) l.length 1 (icl l)] w) := Lib.hid (((Env.start D w).arg (.rw (.slice xa l.length xk) l.length 1 (icl l)) hx).arg (.ce g 0 (.int .i64 q)) hg)
  clear hx hg
  go_enter Tryd.func138, Tryd.ntmps138
  have hr := Lib.hid hr0
  clear hr0
  go_wp2_with fail
  go_loopg [8] (l.length) (fun gk s8 wr => ∃ (k : Nat), s8 = .int .i64 (k : Int) ∧ Hid (Env D w [] [.ce g 0 (.int .i64 q), .rw (.slice xa l.length xk) l.length 1 (icl l)] wr) ∧ Hid ((k ≤ l.length ∧ gk = l.length - k) ∧ ∀ j (h : j < l.length), j < k → (!resB q l[j]) = false))
  case atStart => exact ⟨0, rfl, Lib.hid E0.out, Lib.hid ⟨⟨Nat.zero_le _, rfl⟩, fun j _ h => absurd h (Nat.not_lt_zero _)⟩⟩
  case round =>
    clear E0
    obtain ⟨k, rfl, EL, HA⟩ := hrel
    obtain ⟨⟨a1, a2⟩, a3⟩ := HA.out
    have HS := Lib.hid a3
    clear a3 HA
    by_cases hy : k = l.length
    rotate_left
    · have hk : k < l.length := by omega
      have t6 : decide ((k : Int) < (l.length : Int)) = true := decide_eq_true (by omega)
      have t7 : decide (k < l.length) = true := decide_eq_true hk
      clear hy
      obtain ⟨xab, xao, rfl⟩ := Rw.addr (EL.out.fc 1 rfl) (by omega)
      have E1 : Hid (Env D w [] [.ce xab (xao + k) (.int .i64 l[k]), .ce g 0 (.int .i64 q), .rw (.slice (some ⟨xab, xao, none⟩) l.length xk) l.length 1 (icl l)] _) := Lib.hid (EL.out.elI 1 rfl rfl (k) hk)
      clear EL
      have u0 := (E1.out.fc 0 rfl).2
      by_cases hb : (!resB q l[k]) = true
      · have HB := Lib.hid hb
        have HR : Hid (r = (k : Int)) := Lib.hid (by rcases hr.out with ⟨_, h9⟩ | ⟨j, rfl, hj, h8, h7⟩; (· have := h9 k hk; rw [hb] at this; cases this); rcases Nat.lt_trichotomy j k with e | e | e; (· have := HS.out j hj e; rw [h8] at this; cases this); (· rw [e]); (· have := h7 k hk e; rw [hb] at this; cases this))
        clear hb
        go_wp2_with fail
        refine (mres1_c q l[k] g _ ((E1.out.fc 1 rfl)).2 HB.out).mono ?_
        rintro e w1 ⟨rfl, hb⟩
        have E2 : Hid (Env D w [] [.ce xab (xao + k) (.int .i64 l[k]), .ce g 0 (.int .i64 q), .rw (.slice (some ⟨xab, xao, none⟩) l.length xk) l.length 1 (icl l)] w1) := Lib.hid (E1.out.below hb)
        clear u0 E1 hb
        have hfin := Lib.hid E2.out.bel
        go_wp2
        go_ret
        exact ⟨RetEq HR.out.symm, hfin.out⟩
      · have HB := Lib.hid (Bool.eq_false_iff.2 hb)
        clear hb
        go_wp2_with fail
        refine (mres1_c q l[k] g _ ((E1.out.fc 1 rfl)).2 HB.out).mono ?_
        rintro e w1 ⟨rfl, hb⟩
        have E2 : Hid (Env D w [] [.ce xab (xao + k) (.int .i64 l[k]), .ce g 0 (.int .i64 q), .rw (.slice (some ⟨xab, xao, none⟩) l.length xk) l.length 1 (icl l)] w1) := Lib.hid (E1.out.below hb)
        clear u0 E1 hb
        have EZ := Lib.hid (E2.out.forget)
        go_wp2
        go_roundg (l.length - (k + 1))
        case rel => exact ⟨k + 1, rfl, EZ, Lib.hid ⟨⟨by omega, rfl⟩, fun j h hj => by by_cases e : j = k; (· subst e; exact HB.out); exact HS.out j h (by omega)⟩⟩
        case measure => exact by omega
    have t6 : decide ((k : Int) < (l.length : Int)) = false := decide_eq_false (by omega)
    have t7 : decide (k < l.length) = false := decide_eq_false (by omega)
    have HR : Hid (r = -1) := Lib.hid (by rcases hr.out with ⟨h9, _⟩ | ⟨j, rfl, hj, h8, h7⟩; (· exact h9); have := HS.out j hj (by omega); rw [h8] at this; cases this)
    have HY := Lib.hid hy
    clear hy
    have hfin := Lib.hid EL.out.bel
    go_wp2
    go_ret
    exact ⟨RetEq HR.out.symm, hfin.out⟩
set_option maxRecDepth 100000 in
set_option maxHeartbeats 1000000 in
theorem mresC {D : Nat → Prop} (l : List Int) (q : Int) (g : Nat) {xa : Option Addr} {xk : Nat} {w : World} (hx : Fct.at w D (.rw (.slice xa l.length xk) l.length 1 (icl l))) (hg : Fct.at w D (.ce g 0 (.int .i64 q)))  {t : Bool} (ht0 : l.any (fun x => (!resB q x)) = t) (hm : l.length ≤ 1000000) :
    Calls Tryd.prog 104 #[.slice xa l.length xk, .func (.func 120) #[] #[.pointer (some ⟨g, 0, none⟩)]] w fun e w' => e = .returned (.bool t) ∧ Below w.heap.size w w' := by
  have E0 : Hid (Env D w [] [.ce g 0 (.int .i64 q), .rw (.slice xa l.length xk) l.length 1 (icl l)] w) := Lib.hid (((Env.start D w).arg (.rw (.slice xa l.length xk) l.length 1 (icl l)) hx).arg (.ce g 0 (.int .i64 q)) hg)
  clear hx hg
  go_enter Tryd.func104, Tryd.ntmps104
  have ht := Lib.hid ht0
  clear ht0
  obtain ⟨r, hr⟩ : ∃ r : Int, ((r = -1 ∧ ∀ k (h : k < l.length), (!resB q l[k]) = false) ∨ ∃ k : Nat, r = (k : Int) ∧ ∃ h : k < l.length, (!resB q l[k]) = true ∧ ∀ j (h : j < l.length), j < k → (!resB q l[j]) = false) := first_any l (fun x => (!resB q x))
  have hd : Hid (decide (0 ≤ r) = t) := Lib.hid (by rw [← ht.out]; exact first_dec hr)
  have HR := Lib.hid hr
  clear hr ht
  go_wp2_with fail
  refine (mresI l q g (E0.out.fc 1 rfl) (E0.out.fc 0 rfl) (hr0 := HR.out) (hm := hm)).mono ?_
  rintro e w1 ⟨rfl, hb⟩
  have E1 : Hid (Env D w [] [.ce g 0 (.int .i64 q), .rw (.slice xa l.length xk) l.length 1 (icl l)] w1) := Lib.hid (E0.out.below hb)
  clear E0 hb
  have HD := hd.out
  have hfin := Lib.hid E1.out.bel
  go_wp2
  go_ret
  exact ⟨rfl, hfin.out⟩
set_option maxRecDepth 100000 in
set_option maxHeartbeats 1000000 in
theorem scalars_c {D : Nat → Prop} (q : Int) (l : List Int) {xa : Option Addr} {xk : Nat} {w : World} (hx : Fct.at w D (.rw (.slice xa l.length xk) l.length 1 (icl l))) {t : Bool} (ht0 : l.all (resB q) = t) (hm : l.length ≤ 1000000) :
    Calls Tryd.prog 83 #[.int .i64 q, .slice xa l.length xk] w fun e w' => e = .returned (.bool t) ∧ Below w.heap.size w w' := by
  have E0 : Hid (Env D w [] [.rw (.slice xa l.length xk) l.length 1 (icl l)] w) := Lib.hid ((Env.start D w).arg (.rw (.slice xa l.length xk) l.length 1 (icl l)) hx)
  clear hx
  go_enter Tryd.func83, Tryd.ntmps83
  have ht : Hid (l.any (fun x => !resB q x) = !t) := Lib.hid (by rw [← ht0, List.not_all_eq_any_not])
  clear ht0
  have E1 : Hid (Env D w [(w.heap.size, 3, [.int .i64 q])] [.rw (.slice xa l.length xk) l.length 1 (icl l)] _) := Lib.hid ((E0.out.push 3 [.int .i64 q] (w.heap.size) (by simp)))
  go_wp2_with fail
  refine (mresC l q (w.heap.size) (Fct.any (E1.out.fc 0 rfl)) ⟨⟨(E1.out.bx 0 rfl).lt, trivial⟩, (E1.out.bx 0 rfl).cell 0 rfl⟩ ht.out hm).mono ?_
  rintro e w1 ⟨rfl, hb⟩
  have E2 : Hid (Env D w [(w.heap.size, 3, [.int .i64 q])] [.rw (.slice xa l.length xk) l.length 1 (icl l)] w1) := Lib.hid (E1.out.below hb)
  clear E0 E1 hb
  have hfin := Lib.hid E2.out.bel
  go_wp2
  go_ret
  exact ⟨rfl, hfin.out⟩
end Go.Proofs.YtinlfogpbologaaDoor

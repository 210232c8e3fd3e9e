/- which spends are storable. -/
import Derived.Test.YtfnnfmefihiefaaSpF
namespace Go.Proofs.Ytfnnfmefihiefaa
open Go.RowKit
set_option linter.unusedVariables false
set_option linter.unusedSimpArgs false
theorem Fct.any {W : World} {D : Nat → Prop} {f : Fct} (h : Fct.at W D f) : Fct.at W (fun _ => True) f := Fct.turn h (Nat.le_refl _) (fun _ _ _ => trivial) (fun _ _ _ _ => rfl)
theorem RetEq {a b : Int} (h : a = b) : Ending.returned (.int .i64 a) = Ending.returned (.int .i64 b) := by rw [h]
theorem first_any {α : Type} (L : List α) (p : α → Bool) : ∃ r : Int, (r = -1 ∧ ∀ k (h : k < L.length), p L[k] = false) ∨ ∃ k : Nat, r = (k : Int) ∧ ∃ h : k < L.length, p L[k] = true ∧ ∀ j (h : j < L.length), j < k → p L[j] = false := by
  induction L with
  | nil => exact ⟨-1, .inl ⟨rfl, fun k h => absurd h (Nat.not_lt_zero _)⟩⟩
  | cons a L ih =>
    cases ha : p a with
    | true => exact ⟨0, .inr ⟨0, rfl, Nat.zero_lt_succ _, ha, fun j _ h => absurd h (Nat.not_lt_zero _)⟩⟩
    | false =>
      obtain ⟨r, ⟨h1, h2⟩ | ⟨k, h1, hk, h2, h3⟩⟩ := ih
      · refine ⟨-1, .inl ⟨rfl, fun k h => ?_⟩⟩
        cases k with
        | zero => exact ha
        | succ k => exact h2 k (by simpa using h)
      · refine ⟨(k + 1 : Nat), .inr ⟨k + 1, rfl, by simpa using hk, h2, fun j h hj => ?_⟩⟩
        cases j with
        | zero => exact ha
        | succ j => exact h3 j (by simpa using h) (by omega)
theorem first_dec {α : Type} {L : List α} {p : α → Bool} {r : Int} (h : (r = -1 ∧ ∀ k (h : k < L.length), p L[k] = false) ∨ ∃ k : Nat, r = (k : Int) ∧ ∃ h : k < L.length, p L[k] = true ∧ ∀ j (h : j < L.length), j < k → p L[j] = false) : decide (0 ≤ r) = L.any p := by
  rcases h with ⟨rfl, h2⟩ | ⟨k, rfl, hk, h2, h3⟩
  · refine Eq.trans (b := false) rfl (Eq.symm ?_)
    rw [List.any_eq_false]
    intro x hx
    obtain ⟨k, hk, rfl⟩ := List.getElem_of_mem hx
    rw [h2 k hk]; simp
  · rw [decide_eq_true (by omega)]
    exact (List.any_eq_true.2 ⟨_, List.getElem_mem hk, h2⟩).symm
/-- a storable spend -/
def StOk (s : Sp) : Prop := 1 ≤ s.lv.length ∧ s.lv.length ≤ 32 ∧ s.pa.length ≤ 20 ∧ ∀ i (hi : i < s.lv.length) j (hj : j < s.lv.length), j < i → s.lv[j].1 ≠ s.lv[i].1
/-- a part of a row, from the front -/
theorem Rw.pre {W : World} {D : Nat → Prop} {a : Option Addr} {n c : Nat} {l : List (Int × Int × Int)} (h : Rw W D (.slice a n c) n 3 (lcl l)) (hn : n = l.length) {i : Nat} (hi : i ≤ l.length) : Rw W D (.slice a i c) i 3 (lcl (l.take i)) := by
  obtain ⟨ao, cap, h1, h2, h3, h4, h5, h6⟩ := h
  cases h1
  have e : lcl (l.take i) = (lcl l).take (i * 3) := by
    have : ∀ (l : List (Int × Int × Int)) (i : Nat), lcl (l.take i) = (lcl l).take (i * 3) := by
      intro l
      induction l with
      | nil => intro i; simp [lcl]
      | cons x l ih =>
        intro i
        cases i with
        | zero => simp [lcl]
        | succ i =>
          have e1 : ∀ l, lcl (x :: l) = .int .i64 x.1 :: .int .i64 x.2.1 :: .int .i64 x.2.2 :: lcl l := fun _ => rfl
          rw [List.take_succ_cons, e1, e1, ih i, show (i + 1) * 3 = i * 3 + 1 + 1 + 1 by omega]; rfl
    exact this l i
  refine ⟨a, c, rfl, by omega, h3, by rw [lcl_len, List.length_take]; omega, fun u hu => h5 u (by rw [e] at hu; exact List.mem_of_mem_take hu), fun hn => ?_⟩
  obtain ⟨b, off, k1, k2, k3⟩ := h6 (by omega)
  refine ⟨b, off, k1, k2, fun j u hu => k3 j u ?_⟩
  rw [e, List.getElem?_take] at hu
  split at hu
  · exact hu
  · cases hu
set_option maxRecDepth 100000 in
set_option maxHeartbeats 1000000 in
theorem st1_c {D : Nat → Prop} (x : Int × Int × Int) (B : Int) (g : Nat) {w : World} (hg : Fct.at w D (.ce g 0 (.int .i64 B))) {t : Bool} (ht0 : (x.1 == B) = t) :
    Calls Try.prog 52 #[.agg #[.int .i64 x.1, .int .i64 x.2.1, .int .i64 x.2.2], .pointer (some ⟨g, 0, none⟩)] w fun e w' => e = .returned (.bool t) ∧ Below w.heap.size w w' := by
  have E0 : Hid (Env D w [] [.ce g 0 (.int .i64 B)] w) := Lib.hid ((Env.start D w).arg (.ce g 0 (.int .i64 B)) hg)
  clear hg
  go_enter Try.func52, Try.ntmps52
  have ht := Lib.hid ht0
  clear ht0
  have E1 : Hid (Env D w [(w.heap.size, 69, [.int .i64 x.1, .int .i64 x.2.1, .int .i64 x.2.2])] [.ce g 0 (.int .i64 B)] _) := Lib.hid ((E0.out.push 69 [.int .i64 x.1, .int .i64 x.2.1, .int .i64 x.2.2] (w.heap.size) (by simp)))
  have z1 := (E1.out.fc 0 rfl).2
  have HT := ht.out
  have hfin := Lib.hid E1.out.bel
  go_wp2
  go_ret
  exact ⟨rfl, hfin.out⟩
set_option maxRecDepth 100000 in
set_option maxHeartbeats 1000000 in
theorem stI {D : Nat → Prop} (l : List (Int × Int × Int)) (B : Int) (g : Nat) {xa : Option Addr} {xk : Nat} {w : World} (hx : Fct.at w D (.rw (.slice xa l.length xk) l.length 3 (lcl l))) (hg : Fct.at w D (.ce g 0 (.int .i64 B)))  {r : Int} (hr0 : (r = -1 ∧ ∀ k (h : k < l.length), (l[k].1 == B) = false) ∨ ∃ k : Nat, r = (k : Int) ∧ ∃ h : k < l.length, (l[k].1 == B) = true ∧ ∀ j (h : j < l.length), j < k → (l[j].1 == B) = false) (hm : l.length ≤ 1000000) :
    Calls Try.prog 49 #[.slice xa l.length xk, .func (.func 52) #[] #[.pointer (some ⟨g, 0, none⟩)]] w fun e w' => e = .returned (.int .i64 r) ∧ Below w.heap.size w w' := by
  have E0 : Hid (Env D w [] [.ce g 0 (.int .i64 B), .rw (.slice xa l.length xk) l.length 3 (lcl l)] w) := Lib.hid (((Env.start D w).arg (.rw (.slice xa l.length xk) l.length 3 (lcl l)) hx).arg (.ce g 0 (.int .i64 B)) hg)
  clear hx hg
  go_enter Try.func49, Try.ntmps49
  have hr := Lib.hid hr0
  clear hr0
  go_wp2_with fail
  go_loopg [8] (l.length) (fun gk s8 wr => ∃ (k : Nat), s8 = .int .i64 (k : Int) ∧ Hid (Env D w [] [.ce g 0 (.int .i64 B), .rw (.slice xa l.length xk) l.length 3 (lcl l)] wr) ∧ Hid ((k ≤ l.length ∧ gk = l.length - k) ∧ ∀ j (h : j < l.length), j < k → (l[j].1 == B) = false))
  case atStart => exact ⟨0, rfl, Lib.hid E0.out, Lib.hid ⟨⟨Nat.zero_le _, rfl⟩, fun j _ h => absurd h (Nat.not_lt_zero _)⟩⟩
  case round =>
    clear E0
    obtain ⟨k, rfl, EL, HA⟩ := hrel
    obtain ⟨⟨a1, a2⟩, a3⟩ := HA.out
    have HS := Lib.hid a3
    clear a3 HA
    by_cases hy : k = l.length
    rotate_left
    · have hk : k < l.length := by omega
      have t6 : decide ((k : Int) < (l.length : Int)) = true := decide_eq_true (by omega)
      have t7 : decide (k < l.length) = true := decide_eq_true hk
      clear hy
      obtain ⟨t, ht⟩ : ∃ t, (l[k].1 == B) = t := ⟨_, rfl⟩
      have HB := Lib.hid ht
      clear ht
      obtain ⟨xab, xao, rfl⟩ := Rw.addr (EL.out.fc 1 rfl) (by omega)
      obtain ⟨⟨c0, c1, c2⟩, ce⟩ : ∃ c, l[k] = c := ⟨_, rfl⟩
      have cE := Lib.hid ce
      have ch := (EL.out.fc 1 rfl).triple (k := k) rfl hk
      rw [ce] at ch
      obtain ⟨cx, cy, cz⟩ := ch
      clear ce
      rw [cE.out] at HB
      cases t with
      | true =>
        have HR : Hid (r = (k : Int)) := Lib.hid (by have hb := HB.out; rw [← cE.out] at hb; rcases hr.out with ⟨_, h9⟩ | ⟨j, rfl, hj, h8, h7⟩; (· have := h9 k hk; rw [hb] at this; cases this); rcases Nat.lt_trichotomy j k with e | e | e; (· have := HS.out j hj e; rw [h8] at this; cases this); (· rw [e]); (· have := h7 k hk e; rw [hb] at this; cases this))
        go_wp2_with fail
        refine (st1_c (c0, c1, c2) B g (EL.out.fc 0 rfl) (t := true) HB.out).mono ?_
        rintro e w1 ⟨rfl, hb⟩
        have E1 : Hid (Env D w [] [.ce g 0 (.int .i64 B), .rw (.slice (some ⟨xab, xao, none⟩) l.length xk) l.length 3 (lcl l)] w1) := Lib.hid (EL.out.below hb)
        clear cx cy cz EL hb
        have hfin := Lib.hid E1.out.bel
        go_wp2
        go_ret
        exact ⟨RetEq HR.out.symm, hfin.out⟩
      | false =>
        go_wp2_with fail
        refine (st1_c (c0, c1, c2) B g (EL.out.fc 0 rfl) (t := false) HB.out).mono ?_
        rintro e w1 ⟨rfl, hb⟩
        have E1 : Hid (Env D w [] [.ce g 0 (.int .i64 B), .rw (.slice (some ⟨xab, xao, none⟩) l.length xk) l.length 3 (lcl l)] w1) := Lib.hid (EL.out.below hb)
        clear cx cy cz EL hb
        have EZ := Lib.hid E1.out
        go_wp2
        go_roundg (l.length - (k + 1))
        case rel => exact ⟨k + 1, rfl, EZ, Lib.hid ⟨⟨by omega, rfl⟩, fun j h hj => by by_cases e : j = k; (· subst e; rw [cE.out]; exact HB.out); exact HS.out j h (by omega)⟩⟩
        case measure => exact by omega
    have t6 : decide ((k : Int) < (l.length : Int)) = false := decide_eq_false (by omega)
    have t7 : decide (k < l.length) = false := decide_eq_false (by omega)
    have HR : Hid (r = -1) := Lib.hid (by rcases hr.out with ⟨h9, _⟩ | ⟨j, rfl, hj, h8, h7⟩; (· exact h9); have := HS.out j hj (by omega); rw [h8] at this; cases this)
    have HY := Lib.hid hy
    clear hy
    have hfin := Lib.hid EL.out.bel
    go_wp2
    go_ret
    exact ⟨RetEq HR.out.symm, hfin.out⟩
set_option maxRecDepth 100000 in
set_option maxHeartbeats 1000000 in
theorem stC {D : Nat → Prop} (l : List (Int × Int × Int)) (B : Int) (g : Nat) {xa : Option Addr} {xk : Nat} {w : World} (hx : Fct.at w D (.rw (.slice xa l.length xk) l.length 3 (lcl l))) (hg : Fct.at w D (.ce g 0 (.int .i64 B)))  {t : Bool} (ht0 : l.any (fun x => (x.1 == B)) = t) (hm : l.length ≤ 1000000) :
    Calls Try.prog 27 #[.slice xa l.length xk, .func (.func 52) #[] #[.pointer (some ⟨g, 0, none⟩)]] w fun e w' => e = .returned (.bool t) ∧ Below w.heap.size w w' := by
  have E0 : Hid (Env D w [] [.ce g 0 (.int .i64 B), .rw (.slice xa l.length xk) l.length 3 (lcl l)] w) := Lib.hid (((Env.start D w).arg (.rw (.slice xa l.length xk) l.length 3 (lcl l)) hx).arg (.ce g 0 (.int .i64 B)) hg)
  clear hx hg
  go_enter Try.func27, Try.ntmps27
  have ht := Lib.hid ht0
  clear ht0
  obtain ⟨r, hr⟩ : ∃ r : Int, ((r = -1 ∧ ∀ k (h : k < l.length), (l[k].1 == B) = false) ∨ ∃ k : Nat, r = (k : Int) ∧ ∃ h : k < l.length, (l[k].1 == B) = true ∧ ∀ j (h : j < l.length), j < k → (l[j].1 == B) = false) := first_any l (fun x => (x.1 == B))
  have hd : Hid (decide (0 ≤ r) = t) := Lib.hid (by rw [← ht.out]; exact first_dec hr)
  have HR := Lib.hid hr
  clear hr ht
  go_wp2_with fail
  refine (stI l B g (E0.out.fc 1 rfl) (E0.out.fc 0 rfl) (hr0 := HR.out) (hm := hm)).mono ?_
  rintro e w1 ⟨rfl, hb⟩
  have E1 : Hid (Env D w [] [.ce g 0 (.int .i64 B), .rw (.slice xa l.length xk) l.length 3 (lcl l)] w1) := Lib.hid (E0.out.below hb)
  clear E0 hb
  have HD := hd.out
  have hfin := Lib.hid E1.out.bel
  go_wp2
  go_ret
  exact ⟨rfl, hfin.out⟩
set_option maxRecDepth 100000 in
set_option maxHeartbeats 2000000 in
theorem storable_c {D : Nat → Prop} (s : Sp) {la pa : Value} {w : World} (hs : Fct.at w D (.gn (gSp s la pa))) (fs0 : s.lv.length ≤ 1000000 ∧ s.pa.length ≤ 1000000) {t : Bool} (ht0 : t = true ↔ StOk s) :
    Calls Try.prog 34 #[.agg (spc s la pa).toArray] w fun e w' => e = .returned (.bool t) ∧ Below w.heap.size w w' := by
  have E0 : Hid (Env D w [] [.gn (gSp s la pa)] w) := Lib.hid ((Env.start D w).arg (.gn (gSp s la pa)) hs)
  clear hs
  go_enter Try.func34, Try.ntmps34
  have fs := Lib.hid fs0
  have ht := Lib.hid ht0
  clear fs0 ht0
  have HS := Lib.hid (E0.out.spOk 0 rfl)
  obtain ⟨xa, xk, xc, xj, rfl, rfl, E10⟩ := E0.out.elS 0 rfl
  have E1 : Hid (Env D w [] [.rw (.slice xa s.lv.length xk) s.lv.length 3 (lcl s.lv), .rw (.slice xc s.pa.length xj) s.pa.length 32 s.pa.flatten, .gn (gSp s (.slice xa s.lv.length xk) (.slice xc s.pa.length xj))] _) := Lib.hid E10
  clear E10 E0
  go_upto_region 1 with (fail)
  have E2 : Hid (Env D w [(w.heap.size, 41, spc s (.slice xa s.lv.length xk) (.slice xc s.pa.length xj))] [.rw (.slice xa s.lv.length xk) s.lv.length 3 (lcl s.lv), .rw (.slice xc s.pa.length xj) s.pa.length 32 s.pa.flatten, .gn (gSp s (.slice xa s.lv.length xk) (.slice xc s.pa.length xj))] _) := Lib.hid ((E1.out.push 41 (spc s (.slice xa s.lv.length xk) (.slice xc s.pa.length xj)) (w.heap.size) (by simp)))
  clear E1
  generalize w.alloc (.cells (spc s (.slice xa s.lv.length xk) (.slice xc s.pa.length xj)).toArray 41) = w1 at *
  by_cases q1 : s.lv.length < 1
  · skip
    have d1 : decide ((s.lv.length : Int) < 1) = true := decide_eq_true (by omega)
    have d1b : decide (s.lv.length < 1) = true := decide_eq_true (by omega)
    have HT : Hid (t = false) := Lib.hid (by cases t; (· rfl); exfalso; have h := ht.out.1 rfl; exact absurd h.1 (by omega))
    have b1 := E2.out.bx 0 rfl
    have c1 := b1.cell 77 (spc_tail HS.out _ _).1
    clear b1
    have hfin := Lib.hid E2.out.bel
    go_wp2
    go_ret
    exact ⟨RetEqB HT.out.symm, hfin.out⟩
  have d1 : decide ((s.lv.length : Int) < 1) = false := decide_eq_false (by omega)
  have d1b : decide (s.lv.length < 1) = false := decide_eq_false (by omega)
  by_cases q2 : 32 < s.lv.length
  · skip
    have d2 : decide ((32 : Int) < (s.lv.length : Int)) = true := decide_eq_true (by omega)
    have d2b : decide (32 < s.lv.length) = true := decide_eq_true (by omega)
    have HT : Hid (t = false) := Lib.hid (by cases t; (· rfl); exfalso; have h := ht.out.1 rfl; exact absurd h.2.1 (by omega))
    have b1 := E2.out.bx 0 rfl
    have c1 := b1.cell 77 (spc_tail HS.out _ _).1
    clear b1
    have b2 := E2.out.bx 0 rfl
    have c2 := b2.cell 77 (spc_tail HS.out _ _).1
    clear b2
    have hfin := Lib.hid E2.out.bel
    go_wp2
    go_ret
    exact ⟨RetEqB HT.out.symm, hfin.out⟩
  have d2 : decide ((32 : Int) < (s.lv.length : Int)) = false := decide_eq_false (by omega)
  have d2b : decide (32 < s.lv.length) = false := decide_eq_false (by omega)
  by_cases q3 : 20 < s.pa.length
  · skip
    have d3 : decide ((20 : Int) < (s.pa.length : Int)) = true := decide_eq_true (by omega)
    have d3b : decide (20 < s.pa.length) = true := decide_eq_true (by omega)
    have HT : Hid (t = false) := Lib.hid (by cases t; (· rfl); exfalso; have h := ht.out.1 rfl; exact absurd h.2.2.1 (by omega))
    have b1 := E2.out.bx 0 rfl
    have c1 := b1.cell 77 (spc_tail HS.out _ _).1
    clear b1
    have b2 := E2.out.bx 0 rfl
    have c2 := b2.cell 77 (spc_tail HS.out _ _).1
    clear b2
    have b3 := E2.out.bx 0 rfl
    have c3 := b3.cell 79 (spc_tail HS.out _ _).2.2
    clear b3
    have hfin := Lib.hid E2.out.bel
    go_wp2
    go_ret
    exact ⟨RetEqB HT.out.symm, hfin.out⟩
  have d3 : decide ((20 : Int) < (s.pa.length : Int)) = false := decide_eq_false (by omega)
  have d3b : decide (20 < s.pa.length) = false := decide_eq_false (by omega)
  have QQ := Lib.hid (And.intro q1 (And.intro q2 q3))
  clear q1 q2 q3
  have b1 := E2.out.bx 0 rfl
  have c1 := b1.cell 77 (spc_tail HS.out _ _).1
  clear b1
  have b2 := E2.out.bx 0 rfl
  have c2 := b2.cell 77 (spc_tail HS.out _ _).1
  clear b2
  have b3 := E2.out.bx 0 rfl
  have c3 := b3.cell 79 (spc_tail HS.out _ _).2.2
  clear b3
  have b4 := E2.out.bx 0 rfl
  have c4 := b4.cell 77 (spc_tail HS.out _ _).1
  clear b4
  go_wp2_with fail
  go_loopg [25] (s.lv.length) (fun gk s25 wr => ∃ (n : Nat), s25 = .int .i64 (n : Int) ∧ Hid (Env D w [(w.heap.size, 41, spc s (.slice xa s.lv.length xk) (.slice xc s.pa.length xj))] [.rw (.slice xa s.lv.length xk) s.lv.length 3 (lcl s.lv), .rw (.slice xc s.pa.length xj) s.pa.length 32 s.pa.flatten, .gn (gSp s (.slice xa s.lv.length xk) (.slice xc s.pa.length xj))] wr) ∧ Hid ((n ≤ s.lv.length ∧ gk = s.lv.length - n) ∧ (∀ i (hi : i < s.lv.length) j (hj : j < s.lv.length), i < n → j < i → s.lv[j].1 ≠ s.lv[i].1)))
  case atStart => exact ⟨0, rfl, Lib.hid E2.out, Lib.hid ⟨⟨Nat.zero_le _, rfl⟩, fun i _ j _ h => absurd h (Nat.not_lt_zero _)⟩⟩
  case round =>
    clear c1 c2 c3 c4 E2 d1 d1b d2 d2b d3 d3b
    obtain ⟨n, rfl, EL, HA⟩ := hrel
    obtain ⟨⟨a1, a2⟩, a3⟩ := HA.out
    have HU := Lib.hid a3
    clear a3 HA
    by_cases hy : n = s.lv.length
    · skip
      have t6 : decide ((n : Int) < (s.lv.length : Int)) = false := decide_eq_false (by omega)
      have t7 : decide (n < s.lv.length) = false := decide_eq_false (by omega)
      have HT : Hid (t = true) := Lib.hid (ht.out.2 ⟨by have := QQ.out.1; omega, by have := QQ.out.2.1; omega, by have := QQ.out.2.2; omega, fun i hi j hj h => HU.out i hi j hj (by omega) h⟩)
      have HY := Lib.hid hy
      clear hy
      have hfin := Lib.hid EL.out.bel
      go_wp2
      go_ret
      exact ⟨RetEqB HT.out.symm, hfin.out⟩
    have hi : n < s.lv.length := lt_of hy a1
    have hm9 : s.lv.length ≤ 1000000 := fs.out.1
    have t6 : decide ((n : Int) < (s.lv.length : Int)) = true := decide_eq_true (by omega)
    have t7 : decide (n < s.lv.length) = true := decide_eq_true (by omega)
    have hiI : (n : Int) < (s.lv.length : Int) := by omega
    have hiJ : (n : Int) ≤ (s.lv.length : Int) := by omega
    have hiK : ((n : Int)).toNat = n := by omega
    clear hy
    go_upto_region 5 with (fail)
    obtain ⟨xab, xao, rfl⟩ := Rw.addr (EL.out.fc 0 rfl) (by omega)
    obtain ⟨⟨c0, c1, c2⟩, ce⟩ : ∃ c, s.lv[n] = c := ⟨_, rfl⟩
    have cE := Lib.hid ce
    have ch := (EL.out.fc 0 rfl).triple (k := n) rfl hi
    rw [ce] at ch
    obtain ⟨cx, cy, cz⟩ := ch
    clear ce
    go_upto_region 6 with (fail)
    have E3 : Hid (Env D w [(wr.heap.size, 69, [.int .i64 c0, .int .i64 c1, .int .i64 c2]), (w.heap.size, 41, spc s (.slice (some ⟨xab, xao, none⟩) s.lv.length xk) (.slice xc s.pa.length xj))] [.rw (.slice (some ⟨xab, xao, none⟩) s.lv.length xk) s.lv.length 3 (lcl s.lv), .rw (.slice xc s.pa.length xj) s.pa.length 32 s.pa.flatten, .gn (gSp s (.slice (some ⟨xab, xao, none⟩) s.lv.length xk) (.slice xc s.pa.length xj))] _) := Lib.hid ((EL.out.push 69 [.int .i64 c0, .int .i64 c1, .int .i64 c2] (wr.heap.size) (by simp)))
    clear cx cy cz EL
    generalize wr.alloc (.cells #[.int .i64 c0, .int .i64 c1, .int .i64 c2] 69) = w2 at *
    obtain ⟨t2, ht2⟩ : ∃ t2, (s.lv.take n).any (fun x => x.1 == c0) = t2 := ⟨_, rfl⟩
    have HB := Lib.hid ht2
    clear ht2
    have e9 : (s.lv.take n).length = n := by rw [List.length_take]; omega
    have HE9 := Lib.hid e9
    clear e9
    have hcap : s.lv.length ≤ xk := by obtain ⟨_, _, h1, h2, _⟩ := E3.out.fc 0 rfl; cases h1; exact h2
    have hcapI : (n : Int) ≤ (xk : Int) := by omega
    cases t2 with
    | true =>
      have HT : Hid (t = false) := Lib.hid (by cases t; (· rfl); exfalso; have h := ht.out.1 rfl; obtain ⟨x, hx, hb⟩ := List.any_eq_true.1 HB.out; obtain ⟨j, hj, rfl⟩ := List.getElem_of_mem hx; have hj2 : j < n := (by rw [HE9.out] at hj; exact hj); rw [List.getElem_take] at hb; exact h.2.2.2 n hi j (by omega) hj2 (by rw [cE.out]; exact beq_iff_eq.1 hb))
      have b5 := E3.out.bx 1 rfl
      have c5 := b5.cell 77 (spc_tail HS.out _ _).1
      clear b5
      go_wp2_with fail
      refine ((show Calls _ _ #[.slice (some ⟨xab, xao, none⟩) n xk, _] _ _ from by have h := stC (D := fun _ => True) (s.lv.take n) c0 (wr.heap.size) (xa := some ⟨xab, xao, none⟩) (xk := xk) (by rw [HE9.out]; exact Fct.any (f := .rw _ _ _ _) (Rw.pre (E3.out.fc 0 rfl) rfl (Nat.le_of_lt hi))) ⟨⟨(E3.out.bx 0 rfl).lt, trivial⟩, (E3.out.bx 0 rfl).cell 0 rfl⟩ (t := true) HB.out (by rw [HE9.out]; omega); rw [HE9.out] at h; exact h)).mono ?_
      rintro e w3 ⟨rfl, hb⟩
      have E4 : Hid (Env D w [(wr.heap.size, 69, [.int .i64 c0, .int .i64 c1, .int .i64 c2]), (w.heap.size, 41, spc s (.slice (some ⟨xab, xao, none⟩) s.lv.length xk) (.slice xc s.pa.length xj))] [.rw (.slice (some ⟨xab, xao, none⟩) s.lv.length xk) s.lv.length 3 (lcl s.lv), .rw (.slice xc s.pa.length xj) s.pa.length 32 s.pa.flatten, .gn (gSp s (.slice (some ⟨xab, xao, none⟩) s.lv.length xk) (.slice xc s.pa.length xj))] w3) := Lib.hid (E3.out.below hb)
      clear c5 E3 hb
      have hfin := Lib.hid E4.out.bel
      go_wp2
      go_ret
      exact ⟨RetEqB HT.out.symm, hfin.out⟩
    | false =>
      have HU2 : Hid (∀ i (hi : i < s.lv.length) j (hj : j < s.lv.length), i < n + 1 → j < i → s.lv[j].1 ≠ s.lv[i].1) := Lib.hid (fun i hi2 j hj h1 h2 => by by_cases e : i = n; (· subst e; intro e2; have hb := List.any_eq_false.1 HB.out (s.lv[j]) (List.mem_take_iff_getElem.2 ⟨j, by omega, rfl⟩); rw [cE.out] at e2; exact hb (beq_iff_eq.2 e2)); exact HU.out i hi2 j hj (by omega) h2)
      have b5 := E3.out.bx 1 rfl
      have c5 := b5.cell 77 (spc_tail HS.out _ _).1
      clear b5
      go_wp2_with fail
      refine ((show Calls _ _ #[.slice (some ⟨xab, xao, none⟩) n xk, _] _ _ from by have h := stC (D := fun _ => True) (s.lv.take n) c0 (wr.heap.size) (xa := some ⟨xab, xao, none⟩) (xk := xk) (by rw [HE9.out]; exact Fct.any (f := .rw _ _ _ _) (Rw.pre (E3.out.fc 0 rfl) rfl (Nat.le_of_lt hi))) ⟨⟨(E3.out.bx 0 rfl).lt, trivial⟩, (E3.out.bx 0 rfl).cell 0 rfl⟩ (t := false) HB.out (by rw [HE9.out]; omega); rw [HE9.out] at h; exact h)).mono ?_
      rintro e w3 ⟨rfl, hb⟩
      have E4 : Hid (Env D w [(wr.heap.size, 69, [.int .i64 c0, .int .i64 c1, .int .i64 c2]), (w.heap.size, 41, spc s (.slice (some ⟨xab, xao, none⟩) s.lv.length xk) (.slice xc s.pa.length xj))] [.rw (.slice (some ⟨xab, xao, none⟩) s.lv.length xk) s.lv.length 3 (lcl s.lv), .rw (.slice xc s.pa.length xj) s.pa.length 32 s.pa.flatten, .gn (gSp s (.slice (some ⟨xab, xao, none⟩) s.lv.length xk) (.slice xc s.pa.length xj))] w3) := Lib.hid (E3.out.below hb)
      clear c5 E3 hb
      have EZ := Lib.hid (E4.out.drop)
      go_wp2
      go_roundg (s.lv.length - (n + 1))
      case rel => exact ⟨n + 1, rfl, EZ, Lib.hid ⟨⟨by omega, rfl⟩, HU2.out⟩⟩
      case measure => exact by omega
set_option maxRecDepth 100000 in
set_option maxHeartbeats 2000000 in
theorem rstorable_c {D : Nat → Prop} (s : Sp) {la pa : Value} {w : World} (hs : Fct.at w D (.gn (gSp s la pa))) (fs0 : s.lv.length ≤ 1000000 ∧ s.pa.length ≤ 1000000) {t : Bool} (ht0 : t = true ↔ StOk s) :
    Calls Try.prog 23 #[.agg (spc s la pa).toArray] w fun e w' => e = .returned (.bool t) ∧ Below w.heap.size w w' := by
  have E0 : Hid (Env D w [] [.gn (gSp s la pa)] w) := Lib.hid ((Env.start D w).arg (.gn (gSp s la pa)) hs)
  clear hs
  go_enter Try.func23, Try.ntmps23
  have fs := Lib.hid fs0
  have ht := Lib.hid ht0
  clear fs0 ht0
  have HS := Lib.hid (E0.out.spOk 0 rfl)
  obtain ⟨xa, xk, xc, xj, rfl, rfl, E10⟩ := E0.out.elS 0 rfl
  have E1 : Hid (Env D w [] [.rw (.slice xa s.lv.length xk) s.lv.length 3 (lcl s.lv), .rw (.slice xc s.pa.length xj) s.pa.length 32 s.pa.flatten, .gn (gSp s (.slice xa s.lv.length xk) (.slice xc s.pa.length xj))] _) := Lib.hid E10
  clear E10 E0
  go_upto_region 1 with (fail)
  have E2 : Hid (Env D w [(w.heap.size, 41, spc s (.slice xa s.lv.length xk) (.slice xc s.pa.length xj))] [.rw (.slice xa s.lv.length xk) s.lv.length 3 (lcl s.lv), .rw (.slice xc s.pa.length xj) s.pa.length 32 s.pa.flatten, .gn (gSp s (.slice xa s.lv.length xk) (.slice xc s.pa.length xj))] _) := Lib.hid ((E1.out.push 41 (spc s (.slice xa s.lv.length xk) (.slice xc s.pa.length xj)) (w.heap.size) (by simp)))
  clear E1
  generalize w.alloc (.cells (spc s (.slice xa s.lv.length xk) (.slice xc s.pa.length xj)).toArray 41) = w1 at *
  by_cases q1 : s.lv.length < 1
  · skip
    have d1 : decide ((s.lv.length : Int) < 1) = true := decide_eq_true (by omega)
    have d1b : decide (s.lv.length < 1) = true := decide_eq_true (by omega)
    have HT : Hid (t = false) := Lib.hid (by cases t; (· rfl); exfalso; have h := ht.out.1 rfl; exact absurd h.1 (by omega))
    have b1 := E2.out.bx 0 rfl
    have c1 := b1.cell 77 (spc_tail HS.out _ _).1
    clear b1
    have hfin := Lib.hid E2.out.bel
    go_wp2
    go_ret
    exact ⟨RetEqB HT.out.symm, hfin.out⟩
  have d1 : decide ((s.lv.length : Int) < 1) = false := decide_eq_false (by omega)
  have d1b : decide (s.lv.length < 1) = false := decide_eq_false (by omega)
  by_cases q2 : 32 < s.lv.length
  · skip
    have d2 : decide ((32 : Int) < (s.lv.length : Int)) = true := decide_eq_true (by omega)
    have d2b : decide (32 < s.lv.length) = true := decide_eq_true (by omega)
    have HT : Hid (t = false) := Lib.hid (by cases t; (· rfl); exfalso; have h := ht.out.1 rfl; exact absurd h.2.1 (by omega))
    have b1 := E2.out.bx 0 rfl
    have c1 := b1.cell 77 (spc_tail HS.out _ _).1
    clear b1
    have b2 := E2.out.bx 0 rfl
    have c2 := b2.cell 77 (spc_tail HS.out _ _).1
    clear b2
    have hfin := Lib.hid E2.out.bel
    go_wp2
    go_ret
    exact ⟨RetEqB HT.out.symm, hfin.out⟩
  have d2 : decide ((32 : Int) < (s.lv.length : Int)) = false := decide_eq_false (by omega)
  have d2b : decide (32 < s.lv.length) = false := decide_eq_false (by omega)
  by_cases q3 : 20 < s.pa.length
  · skip
    have d3 : decide ((20 : Int) < (s.pa.length : Int)) = true := decide_eq_true (by omega)
    have d3b : decide (20 < s.pa.length) = true := decide_eq_true (by omega)
    have HT : Hid (t = false) := Lib.hid (by cases t; (· rfl); exfalso; have h := ht.out.1 rfl; exact absurd h.2.2.1 (by omega))
    have b1 := E2.out.bx 0 rfl
    have c1 := b1.cell 77 (spc_tail HS.out _ _).1
    clear b1
    have b2 := E2.out.bx 0 rfl
    have c2 := b2.cell 77 (spc_tail HS.out _ _).1
    clear b2
    have b3 := E2.out.bx 0 rfl
    have c3 := b3.cell 79 (spc_tail HS.out _ _).2.2
    clear b3
    have hfin := Lib.hid E2.out.bel
    go_wp2
    go_ret
    exact ⟨RetEqB HT.out.symm, hfin.out⟩
  have d3 : decide ((20 : Int) < (s.pa.length : Int)) = false := decide_eq_false (by omega)
  have d3b : decide (20 < s.pa.length) = false := decide_eq_false (by omega)
  have QQ := Lib.hid (And.intro q1 (And.intro q2 q3))
  clear q1 q2 q3
  have b1 := E2.out.bx 0 rfl
  have c1 := b1.cell 77 (spc_tail HS.out _ _).1
  clear b1
  have b2 := E2.out.bx 0 rfl
  have c2 := b2.cell 77 (spc_tail HS.out _ _).1
  clear b2
  have b3 := E2.out.bx 0 rfl
  have c3 := b3.cell 79 (spc_tail HS.out _ _).2.2
  clear b3
  go_wp2_with fail
  go_loopg [3] (s.lv.length) (fun gk s3 wr => ∃ (n : Nat), s3 = .int .i64 (n : Int) ∧ Hid (Env D w [(w.heap.size, 41, spc s (.slice xa s.lv.length xk) (.slice xc s.pa.length xj))] [.rw (.slice xa s.lv.length xk) s.lv.length 3 (lcl s.lv), .rw (.slice xc s.pa.length xj) s.pa.length 32 s.pa.flatten, .gn (gSp s (.slice xa s.lv.length xk) (.slice xc s.pa.length xj))] wr) ∧ Hid ((n ≤ s.lv.length ∧ gk = s.lv.length - n) ∧ (∀ i (hi : i < s.lv.length) j (hj : j < s.lv.length), i < n → j < i → s.lv[j].1 ≠ s.lv[i].1)))
  case atStart => exact ⟨0, rfl, Lib.hid E2.out, Lib.hid ⟨⟨Nat.zero_le _, rfl⟩, fun i _ j _ h => absurd h (Nat.not_lt_zero _)⟩⟩
  case round =>
    clear c1 c2 c3 E2 d1 d1b d2 d2b d3 d3b
    obtain ⟨n, rfl, EL, HA⟩ := hrel
    obtain ⟨⟨a1, a2⟩, a3⟩ := HA.out
    have HU := Lib.hid a3
    clear a3 HA
    by_cases hy : n = s.lv.length
    · skip
      have t6 : decide ((n : Int) < (s.lv.length : Int)) = false := decide_eq_false (by omega)
      have t7 : decide (n < s.lv.length) = false := decide_eq_false (by omega)
      have HT : Hid (t = true) := Lib.hid (ht.out.2 ⟨by have := QQ.out.1; omega, by have := QQ.out.2.1; omega, by have := QQ.out.2.2; omega, fun i hi j hj h => HU.out i hi j hj (by omega) h⟩)
      have HY := Lib.hid hy
      clear hy
      have b4 := EL.out.bx 0 rfl
      have c4 := b4.cell 77 (spc_tail HS.out _ _).1
      clear b4
      have hfin := Lib.hid EL.out.bel
      go_wp2
      go_ret
      exact ⟨RetEqB HT.out.symm, hfin.out⟩
    have hi : n < s.lv.length := lt_of hy a1
    have hm9 : s.lv.length ≤ 1000000 := fs.out.1
    have t6 : decide ((n : Int) < (s.lv.length : Int)) = true := decide_eq_true (by omega)
    have t7 : decide (n < s.lv.length) = true := decide_eq_true (by omega)
    have hiI : (n : Int) < (s.lv.length : Int) := by omega
    clear hy
    have b4 := EL.out.bx 0 rfl
    have c4 := b4.cell 77 (spc_tail HS.out _ _).1
    clear b4
    go_wp2_with fail
    go_loopg [4] (n) (fun gk s4 wr => ∃ (k : Nat), s4 = .int .i64 (k : Int) ∧ Hid (Env D w [(w.heap.size, 41, spc s (.slice xa s.lv.length xk) (.slice xc s.pa.length xj))] [.rw (.slice xa s.lv.length xk) s.lv.length 3 (lcl s.lv), .rw (.slice xc s.pa.length xj) s.pa.length 32 s.pa.flatten, .gn (gSp s (.slice xa s.lv.length xk) (.slice xc s.pa.length xj))] wr) ∧ Hid ((k ≤ n ∧ gk = n - k) ∧ (∀ j (hj : j < s.lv.length), j < k → s.lv[j].1 ≠ s.lv[n].1)))
    case atStart => exact ⟨0, rfl, Lib.hid EL.out, Lib.hid ⟨⟨Nat.zero_le _, rfl⟩, fun j _ h => absurd h (Nat.not_lt_zero _)⟩⟩
    case round =>
      clear c4 EL t6 t7
      obtain ⟨k, rfl, EL, HA⟩ := hrel
      obtain ⟨⟨b1, b2⟩, b3⟩ := HA.out
      have HV := Lib.hid b3
      clear b3 HA
      by_cases hz : k = n
      · skip
        have s6 : decide ((k : Int) < (n : Int)) = false := decide_eq_false (by omega)
        have s7 : decide (k < n) = false := decide_eq_false (by omega)
        have HU2 : Hid (∀ i (hi : i < s.lv.length) j (hj : j < s.lv.length), i < n + 1 → j < i → s.lv[j].1 ≠ s.lv[i].1) := Lib.hid (fun i hi2 j hj h1 h2 => by by_cases e : i = n; (· subst e; exact HV.out j hj (by omega)); exact HU.out i hi2 j hj (by omega) h2)
        have HZ := Lib.hid hz
        clear hz
        have EZ := Lib.hid EL.out
        go_wp2
        go_roundg (s.lv.length - (n + 1))
        case rel => exact ⟨n + 1, rfl, EZ, Lib.hid ⟨⟨by omega, rfl⟩, HU2.out⟩⟩
        case measure => exact by omega
      have hk : k < n := lt_of hz b1
      have hk2 : k < s.lv.length := by omega
      have hkI : (k : Int) < (s.lv.length : Int) := by omega
      have s6 : decide ((k : Int) < (n : Int)) = true := decide_eq_true (by omega)
      have s7 : decide (k < n) = true := decide_eq_true (by omega)
      clear hz
      go_upto_region 9 with (fail)
      obtain ⟨xab, xao, rfl⟩ := Rw.addr (EL.out.fc 0 rfl) (by omega)
      obtain ⟨⟨c0, c1, c2⟩, ce⟩ : ∃ c, s.lv[n] = c := ⟨_, rfl⟩
      have cE := Lib.hid ce
      clear ce
      obtain ⟨⟨d0, d1, d2⟩, de⟩ : ∃ c, s.lv[k] = c := ⟨_, rfl⟩
      have dE := Lib.hid de
      clear de
      obtain ⟨b, hb⟩ : ∃ b, (c0 == d0) = b := ⟨_, rfl⟩
      have HB := Lib.hid hb
      go_wp2_with fail
      have E3 : Hid (Env D w [(w.heap.size, 41, spc s (.slice (some ⟨xab, xao, none⟩) s.lv.length xk) (.slice xc s.pa.length xj))] [.rw (.slice (some ⟨xab, xao, none⟩) s.lv.length xk) s.lv.length 3 (lcl s.lv), .rw (.slice xc s.pa.length xj) s.pa.length 32 s.pa.flatten, .gn (gSp s (.slice (some ⟨xab, xao, none⟩) s.lv.length xk) (.slice xc s.pa.length xj))] (wr.drew)) := Lib.hid EL.out.drew
      clear EL
      refine wp_regionU (S := fun w' => w'.cell? ⟨xab, xao + n * 3, none⟩ = some (.int .i64 c0) ∧ w'.cell? ⟨xab, xao + k * 3, none⟩ = some (.int .i64 d0) ∧ w'.cell? ⟨w.heap.size, 77, none⟩ = some (.slice (some ⟨xab, xao, none⟩) s.lv.length xk)) [] (by kernel_rfl) (⟨(by have h := ((E3.out.fc 0 rfl)).triple (k := n) rfl hi; rw [cE.out] at h; exact h.1), (by have h := ((E3.out.fc 0 rfl)).triple (k := k) rfl hk2; rw [dE.out] at h; exact h.1), ((E3.out.bx 0 rfl).cell 77 (spc_tail HS.out _ _).1)⟩) (fun hHeld => ?_)
      generalize wr.drew = w2 at *
      refine uTake (i := 0) (some 34) (v := ?_) rfl rfl (by kernel_rfl) (by kernel_rfl) (by kernel_rfl) (by kernel_rfl) (fun _ _ _ h => h) (by rfl) (by assumption) ?_ ?_
      rotate_left
      · (intro wS hSw; (try dsimp only at hSw); go_simp; try with_reducible rfl)
      try simp only [Act.put, List.setIfInBounds_toArray, List.set_cons_zero, List.set_cons_succ]
      refine uTake (i := 1) (some 35) (v := ?_) rfl rfl (by kernel_rfl) (by kernel_rfl) (by kernel_rfl) (by kernel_rfl) (fun _ _ _ h => h) (by rfl) (by assumption) ?_ ?_
      rotate_left
      · (intro wS hSw; (try dsimp only at hSw); go_simp; try with_reducible rfl)
      try simp only [Act.put, List.setIfInBounds_toArray, List.set_cons_zero, List.set_cons_succ]
      refine uTake (i := 2) (some 36) (v := ?_) rfl rfl (by kernel_rfl) (by kernel_rfl) (by kernel_rfl) (by kernel_rfl) (fun _ _ _ h => h) (by rfl) (by assumption) ?_ ?_
      rotate_left
      · (intro wS hSw; (try dsimp only at hSw); go_simp; try with_reducible rfl)
      try simp only [Act.put, List.setIfInBounds_toArray, List.set_cons_zero, List.set_cons_succ]
      refine uTake (i := 3) (some 37) (v := ?_) rfl rfl (by kernel_rfl) (by kernel_rfl) (by kernel_rfl) (by kernel_rfl) (fun _ _ _ h => h) (by rfl) (by assumption) ?_ ?_
      rotate_left
      · (intro wS hSw; (try dsimp only at hSw); go_simp; try with_reducible rfl)
      try simp only [Act.put, List.setIfInBounds_toArray, List.set_cons_zero, List.set_cons_succ]
      refine uTake (i := 4) (some 38) (v := ?_) rfl rfl (by kernel_rfl) (by kernel_rfl) (by kernel_rfl) (by kernel_rfl) (fun _ _ _ h => h) (by rfl) (by assumption) ?_ ?_
      rotate_left
      · (intro wS hSw; (try dsimp only at hSw); go_simp; try with_reducible rfl)
      try simp only [Act.put, List.setIfInBounds_toArray, List.set_cons_zero, List.set_cons_succ]
      refine uTake (i := 5) (some 39) (v := ?_) rfl rfl (by kernel_rfl) (by kernel_rfl) (by kernel_rfl) (by kernel_rfl) (fun _ _ _ h => h) (by rfl) (by assumption) ?_ ?_
      rotate_left
      · (intro wS hSw; (try dsimp only at hSw); go_simp; try with_reducible rfl)
      try simp only [Act.put, List.setIfInBounds_toArray, List.set_cons_zero, List.set_cons_succ]
      refine uTake (i := 6) (some 40) (v := ?_) rfl rfl (by kernel_rfl) (by kernel_rfl) (by kernel_rfl) (by kernel_rfl) (fun _ _ _ h => h) (by rfl) (by assumption) ?_ ?_
      rotate_left
      · (intro wS hSw; (try dsimp only at hSw); go_simp; try with_reducible rfl)
      try simp only [Act.put, List.setIfInBounds_toArray, List.set_cons_zero, List.set_cons_succ]
      refine uTake (i := 7) (some 41) (v := ?_) rfl rfl (by kernel_rfl) (by kernel_rfl) (by kernel_rfl) (by kernel_rfl) (fun _ _ _ h => h) (by rfl) (by assumption) ?_ ?_
      rotate_left
      · (intro wS hSw; (try dsimp only at hSw); go_simp; try with_reducible rfl)
      try simp only [Act.put, List.setIfInBounds_toArray, List.set_cons_zero, List.set_cons_succ]
      refine uTake (i := 8) (some 42) (v := ?_) rfl rfl (by kernel_rfl) (by kernel_rfl) (by kernel_rfl) (by kernel_rfl) (fun _ _ _ h => h) (by rfl) (by assumption) ?_ ?_
      rotate_left
      · (intro wS hSw; (try dsimp only at hSw); go_simp; try with_reducible rfl)
      try simp only [Act.put, List.setIfInBounds_toArray, List.set_cons_zero, List.set_cons_succ]
      refine uTake (i := 9) (some 43) (v := ?_) rfl rfl (by kernel_rfl) (by kernel_rfl) (by kernel_rfl) (by kernel_rfl) (fun _ _ _ h => h) (by rfl) (by assumption) ?_ ?_
      rotate_left
      · (intro wS hSw; (try dsimp only at hSw); go_simp; try with_reducible rfl)
      try simp only [Act.put, List.setIfInBounds_toArray, List.set_cons_zero, List.set_cons_succ]
      refine uTake (i := 10) (some 44) (v := ?_) rfl rfl (by kernel_rfl) (by kernel_rfl) (by kernel_rfl) (by kernel_rfl) (fun _ _ _ h => h) (by rfl) (by assumption) ?_ ?_
      rotate_left
      · (intro wS hSw; (try dsimp only at hSw); go_simp; try with_reducible rfl)
      try simp only [Act.put, List.setIfInBounds_toArray, List.set_cons_zero, List.set_cons_succ]
      refine uTake (i := 11) (some 45) (v := ?_) rfl rfl (by kernel_rfl) (by kernel_rfl) (by kernel_rfl) (by kernel_rfl) (fun _ _ _ h => h) (by rfl) (by assumption) ?_ ?_
      rotate_left
      · (intro wS hSw; (try dsimp only at hSw); go_simp; try with_reducible rfl)
      try simp only [Act.put, List.setIfInBounds_toArray, List.set_cons_zero, List.set_cons_succ]
      refine uTake (i := 12) (some 46) (v := .bool b) rfl rfl (by kernel_rfl) (by kernel_rfl) (by kernel_rfl) (by kernel_rfl) (fun _ _ _ h => h) (by rfl) (by assumption) ?_ ?_
      · (intro wS hSw; (try dsimp only at hSw); go_simp; (try (rw [← hb]; by_cases h0 : c0 = d0 <;> simp [h0])))
      try simp only [Act.put, List.setIfInBounds_toArray, List.set_cons_zero, List.set_cons_succ]
      refine uDone (by kernel_rfl) ?_ _
      cases b with
      | true =>
        have HT : Hid (t = false) := Lib.hid (by cases t; (· rfl); exfalso; have h := ht.out.1 rfl; have e := beq_iff_eq.1 HB.out; exact h.2.2.2 n hi k hk2 hk (by rw [cE.out, dE.out]; exact e.symm))
        have hfin := Lib.hid E3.out.bel
        go_wp2
        go_ret
        exact ⟨RetEqB HT.out.symm, hfin.out⟩
      | false =>
        have HV2 : Hid (∀ j (hj : j < s.lv.length), j < k + 1 → s.lv[j].1 ≠ s.lv[n].1) := Lib.hid (fun j hj h1 => by by_cases e : j = k; (· subst e; rw [cE.out, dE.out]; intro e2; have h9 := beq_eq_false_iff_ne.1 HB.out; exact h9 e2.symm); exact HV.out j hj (by omega))
        have EZ := Lib.hid E3.out
        go_wp2
        go_roundg (n - (k + 1))
        case rel => exact ⟨k + 1, rfl, EZ, Lib.hid ⟨⟨by omega, rfl⟩, HV2.out⟩⟩
        case measure => exact by omega
end Go.Proofs.Ytfnnfmefihiefaa

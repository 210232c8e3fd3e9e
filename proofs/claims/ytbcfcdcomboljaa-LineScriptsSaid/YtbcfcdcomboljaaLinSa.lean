/- line: where a message is put in. -/
import Derived.Test.YtbcfcdcomboljaaLinWb
namespace Go.Proofs.Ytbcfcdcomboljaa
open Go.RowKit
set_option linter.unusedVariables false
set_option linter.unusedSimpArgs false
/-- where an arrival at t is put in -/
def PlaceIs (l : List Int) (t : Int) (i : Nat) : Prop := i ≤ l.length ∧ (∀ k (h : k < l.length), k < i → l[k] ≤ t) ∧ (∀ k (h : k < l.length), i ≤ k → t < l[k])
theorem PlaceIs.uniq {l : List Int} {t : Int} {i j : Nat} (h : PlaceIs l t i) (h' : PlaceIs l t j) : i = j := by
  rcases Nat.lt_trichotomy i j with e | e | e
  · have := h.2.2 i (by have := h'.1; omega) (Nat.le_refl _); have := h'.2.1 i (by have := h'.1; omega) e; omega
  · exact e
  · have := h'.2.2 j (by have := h.1; omega) (Nat.le_refl _); have := h.2.1 j (by have := h.1; omega) e; omega
theorem place_ex {l : List Int} (hs : Srt l) (t : Int) : ∃ i, PlaceIs l t i := by
  have mono : ∀ d i (h : i + d < l.length), l[i] ≤ l[i + d] := by
    intro d
    induction d with
    | zero => intro i h; exact Int.le_refl _
    | succ d ih => intro i h; exact Int.le_trans (ih i (by omega)) (hs (i + d) (by omega))
  have : ∀ n, n ≤ l.length → ∃ i, i ≤ n ∧ (∀ k (h : k < l.length), k < i → l[k] ≤ t) ∧ (∀ k (h : k < l.length), i ≤ k → k < n → t < l[k]) := by
    intro n
    induction n with
    | zero => intro _; exact ⟨0, Nat.le_refl _, fun k _ h => by omega, fun k _ _ h => by omega⟩
    | succ n ih =>
      intro hn
      obtain ⟨i, h1, h2, h3⟩ := ih (by omega)
      by_cases hc : l[n] ≤ t
      · refine ⟨n + 1, Nat.le_refl _, fun k h hk => ?_, fun k h h1 h2 => by omega⟩
        have := mono (n - k) k (by omega)
        simp only [show k + (n - k) = n by omega] at this
        omega
      · refine ⟨i, by omega, h2, fun k h h4 h5 => ?_⟩
        by_cases e : k = n
        · subst e; omega
        · exact h3 k h h4 (by omega)
  obtain ⟨i, h1, h2, h3⟩ := this l.length (Nat.le_refl _)
  exact ⟨i, h1, h2, fun k h h4 => h3 k h h4 h⟩
def cmpS (a b : Int) : Int := if a = b then -1 else if a < b then -1 else if b < a then 1 else 0
theorem cmpS_neg {a b : Int} : decide (cmpS a b < 0) = decide (a ≤ b) := by unfold cmpS; split <;> (try split) <;> (try split) <;> simp <;> omega
theorem compare_l (a b : Int) (w : World) : Calls Try.prog 64 #[.int .i64 a, .int .i64 b] w fun e w' => e = .returned (.int .i64 (if a < b then -1 else if b < a then 1 else 0)) ∧ w' = w := by
  go_enter Try.func64, Try.ntmps64
  go_wp2_with (go_at_call 84; refine (isNaN_l _ _).mono ?_; rintro e w' ⟨rfl, rfl⟩)
  all_goals go_ret
  all_goals refine ⟨?_, rfl⟩
  all_goals simp_all
  all_goals (try omega)
theorem send1_c (a b : Int) (w : World) : Calls Try.prog 63 #[.int .i64 a, .int .i64 b] w fun e w' => e = .returned (.int .i64 (cmpS a b)) ∧ Below w.heap.size w w' := by
  unfold cmpS
  go_enter Try.func63, Try.ntmps63
  go_wp2_with (go_at_call 64; refine (compare_l _ _ _).mono ?_; rintro e w' ⟨rfl, rfl⟩)
  all_goals go_ret
  all_goals refine ⟨?_, Below.refl _ _⟩
  all_goals simp_all
  all_goals (try omega)
def RetP (i : Nat) (e : Ending) : Prop := ∃ t : Bool, e = .returned (.tuple #[.int .i64 (i : Int), .bool t])
set_option maxRecDepth 100000 in
set_option maxHeartbeats 1000000 in
theorem bsi_n {D : Nat → Prop} {xa : Option Addr} {xk : Nat} (c : Int) {w : World}   :
    Calls Try.prog 62 #[.slice xa 0 xk, .int .i64 c, .func (.func 63) #[] #[]] w fun e w' => RetP 0 e ∧ Below w.heap.size w w' := by
  have E0 : Hid (Env D w [] [] w) := Lib.hid (Env.start D w)
  go_enter Try.func62, Try.ntmps62
  go_wp2_with fail
  refine wp_loop_rounds 1 ?_
  rw [rounds_succ]
  have hfin := Lib.hid E0.out.bel
  go_wp2
  go_ret2
  exact ⟨⟨false, rfl⟩, hfin.out⟩
set_option maxRecDepth 100000 in
set_option maxHeartbeats 1000000 in
theorem bsi_s {D : Nat → Prop} (l : List Int) {xb xo xk : Nat} (c : Int) {w : World} (hy : Fct.at w D (.rw (.slice (some ⟨xb, xo, none⟩) l.length xk) l.length 1 (icl l))) {i : Nat} (hi0 : PlaceIs l c i) (hs0 : Srt l) (hm : l.length ≤ 1000000) :
    Calls Try.prog 62 #[.slice (some ⟨xb, xo, none⟩) l.length xk, .int .i64 c, .func (.func 63) #[] #[]] w fun e w' => RetP i e ∧ Below w.heap.size w w' := by
  have E0 : Hid (Env D w [] [.rw (.slice (some ⟨xb, xo, none⟩) l.length xk) l.length 1 (icl l)] w) := Lib.hid ((Env.start D w).arg (.rw (.slice (some ⟨xb, xo, none⟩) l.length xk) l.length 1 (icl l)) hy)
  clear hy
  go_enter Try.func62, Try.ntmps62
  have hi := Lib.hid hi0
  have hs := Lib.hid hs0
  clear hs0 hi0
  go_wp2_with fail
  go_loopg [9, 10, 11] (l.length) (fun gk s9 s10 s11 wr => ∃ (lo hi : Nat) (x11 : Value), s9 = .int .i64 (lo : Int) ∧ s10 = .int .i64 (hi : Int) ∧ s11 = x11 ∧ Hid (Env D w [] [.rw (.slice (some ⟨xb, xo, none⟩) l.length xk) l.length 1 (icl l)] wr) ∧ Hid ((lo ≤ hi ∧ hi ≤ l.length ∧ gk = hi - lo) ∧ lo ≤ i ∧ i ≤ hi))
  case atStart => exact ⟨0, l.length, _, rfl, rfl, rfl, Lib.hid E0.out, Lib.hid ⟨⟨Nat.zero_le _, Nat.le_refl _, rfl⟩, Nat.zero_le _, hi.out.1⟩⟩
  case round =>
    clear E0
    obtain ⟨lo, hj, x11, rfl, rfl, rfl, EL, HA⟩ := hrel
    obtain ⟨⟨a1, a2, a5⟩, a6, a7⟩ := HA.out
    clear HA
    by_cases hy : lo < hj
    · have t1 : decide ((lo : Int) < (hj : Int)) = true := decide_eq_true (by omega)
      have t2 : decide (lo < hj) = true := decide_eq_true hy
      obtain ⟨m, hm0, hmn⟩ : ∃ m, m = (lo + hj) / 2 ∧ (lo ≤ m ∧ m < hj) := ⟨_, rfl, by omega⟩
      have HM := Lib.hid hm0
      have hmd : m < l.length := by omega
      have w1 : IntKind.i64.wrap ((lo : Int) + (hj : Int)) = ((lo + hj : Nat) : Int) := by rw [IntKind.wrap_i64]; omega
      have w2 : IntKind.u64.wrap (((lo + hj : Nat) : Int)) = ((lo + hj : Nat) : Int) := by rw [IntKind.wrap_u64]; omega
      have ed : ((lo : Int) + (hj : Int)) / 2 = (m : Int) := by omega
      have en : (lo + hj) / 2 = m := by omega
      clear hm0 hy
      have E1 : Hid (Env D w [] [.ce xb (xo + m) (.int .i64 l[m]), .rw (.slice (some ⟨xb, xo, none⟩) l.length xk) l.length 1 (icl l)] _) := Lib.hid (EL.out.elI 0 rfl rfl (m) hmd)
      clear EL
      have u0 := (E1.out.fc 0 rfl).2
      go_wp2_with fail
      refine (send1_c l[m] c _).mono ?_
      rintro e w1 ⟨rfl, hb⟩
      have E2 : Hid (Env D w [] [.ce xb (xo + m) (.int .i64 l[m]), .rw (.slice (some ⟨xb, xo, none⟩) l.length xk) l.length 1 (icl l)] w1) := Lib.hid (E1.out.below hb)
      clear u0 E1 hb
      have hc := @cmpS_neg l[m] c
      by_cases hlt : l[m] ≤ c
      · have t3 : decide (cmpS l[m] c < 0) = true := by rw [hc]; exact decide_eq_true hlt
        have HX : Hid (m + 1 ≤ i) := Lib.hid (by apply Nat.lt_of_not_le; intro hle; have := hi.out.2.2 m hmd hle; omega)
        have ei : (m : Int) + 1 = ((m + 1 : Nat) : Int) := by omega
        have wi : IntKind.i64.wrap ((m : Int) + 1) = ((m + 1 : Nat) : Int) := by rw [IntKind.wrap_i64]; omega
        clear ei en ed hlt hc
        have EZ := Lib.hid (E2.out.forget)
        go_wp2
        go_roundg (hj - (m + 1))
        case rel => exact ⟨m + 1, hj, _, rfl, rfl, rfl, EZ, Lib.hid ⟨⟨by omega, by omega, rfl⟩, HX.out, a7⟩⟩
        case measure => exact by omega
      · have t3 : decide (cmpS l[m] c < 0) = false := by rw [hc]; exact decide_eq_false hlt
        have HX : Hid (i ≤ m) := Lib.hid (by apply Nat.le_of_not_lt; intro hle; have := hi.out.2.1 m hmd hle; omega)
        clear en ed hlt hc
        have EZ := Lib.hid (E2.out.forget)
        go_wp2
        go_roundg (m - lo)
        case rel => exact ⟨lo, m, _, rfl, rfl, rfl, EZ, Lib.hid ⟨⟨by omega, by omega, rfl⟩, a6, HX.out⟩⟩
        case measure => exact by omega
    have t1 : decide ((lo : Int) < (hj : Int)) = false := decide_eq_false (by omega)
    have t2 : decide (lo < hj) = false := decide_eq_false hy
    have eli : lo = i := by omega
    subst eli
    clear hy
    by_cases hz : lo < l.length
    · have t3 : decide ((lo : Int) < (l.length : Int)) = true := decide_eq_true (by omega)
      have t4 : decide (lo < l.length) = true := decide_eq_true hz
      have E1 : Hid (Env D w [] [.ce xb (xo + lo) (.int .i64 l[lo]), .rw (.slice (some ⟨xb, xo, none⟩) l.length xk) l.length 1 (icl l)] _) := Lib.hid (EL.out.elI 0 rfl rfl (lo) hz)
      clear EL
      have u0 := (E1.out.fc 0 rfl).2
      go_wp2_with fail
      refine (send1_c l[lo] c _).mono ?_
      rintro e w1 ⟨rfl, hb⟩
      have E2 : Hid (Env D w [] [.ce xb (xo + lo) (.int .i64 l[lo]), .rw (.slice (some ⟨xb, xo, none⟩) l.length xk) l.length 1 (icl l)] w1) := Lib.hid (E1.out.below hb)
      clear u0 E1 hb
      have hfin := Lib.hid E2.out.bel
      go_wp2
      go_ret2
      exact ⟨⟨_, rfl⟩, hfin.out⟩
    · have t3 : decide ((lo : Int) < (l.length : Int)) = false := decide_eq_false (by omega)
      have t4 : decide (lo < l.length) = false := decide_eq_false hz
      clear hz
      have hfin := Lib.hid EL.out.bel
      go_wp2
      go_ret2
      exact ⟨⟨_, rfl⟩, hfin.out⟩
theorem bsi_c {D : Nat → Prop} {l : List Int} {xa : Option Addr} {xk : Nat} {c : Int} {i : Nat} (hi : PlaceIs l c i) (hs : Srt l) (hm : l.length ≤ 1000000) {w : World} (hx : Fct.at w D (.rw (.slice xa l.length xk) l.length 1 (icl l))) :
    Calls Try.prog 62 #[.slice xa l.length xk, .int .i64 c, .func (.func 63) #[] #[]] w fun e w' => RetP i e ∧ Below w.heap.size w w' := by
  by_cases h0 : l.length = 0
  · obtain rfl : l = [] := List.length_eq_zero_iff.1 h0
    obtain rfl : i = 0 := by have := hi.1; simpa using this
    exact bsi_n (D := D) c
  · obtain ⟨b, o, rfl⟩ := Rw.addr hx h0
    exact bsi_s l c hx hi hs hm
end Go.Proofs.Ytbcfcdcomboljaa

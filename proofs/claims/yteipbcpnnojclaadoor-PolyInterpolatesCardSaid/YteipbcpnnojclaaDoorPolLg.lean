/- poly: the law PolyLagrange. -/
import Derived.Test.YteipbcpnnojclaaDoorPolBa
namespace Go.Proofs.YteipbcpnnojclaaDoor
open Go.RowKit DivMath WordMath
set_option linter.unusedVariables false
set_option linter.unusedSimpArgs false
theorem Rw.up {W : World} {D : Nat → Prop} {B C n k : Nat} {v : Value} {cs : List Value} (hD : ∀ b, D b) (h : Rw W (fun _ => True) v n k cs) : Fct.at W (fun b => DF D B [] b ∨ C ≤ b) (.rw v n k cs) :=
  Rw.turn h (Nat.le_refl _) (fun b _ _ => Or.inl ⟨fun p hp => (by cases hp), Or.inl (hD b)⟩) (fun _ _ _ _ => rfl)
theorem polyB_mk {q : Nat} {l : List Nat} (hl : l.length ≤ 1000) (h : ∀ c ∈ l, c < q) (hz : ∀ h : 0 < l.length, l[l.length - 1] ≠ 0) : polyB (q : Int) (nl l) = true := by
  by_cases h0 : l.length = 0
  · exact polyB_nil (by rw [nl_len]; exact h0)
  · rw [polyB_some (by rw [nl_len]; omega) (by rw [nl_len]; exact hl) ?_]
    · exact nl_all h
    · simp only [nl_len]
      intro h2
      apply hz (by omega)
      have : (l[l.length - 1] : Int) = 0 := by rw [← h2]; simp [nl]
      exact_mod_cast this
/-- the error code that Interpolate answers -/
def IErr (q : Int) (a b : List Int) (c : Int) : Prop := c ≠ 0 ∧ ((a.length ≠ b.length ∧ c = 1) ∨ (a.length = b.length ∧ ChkR q a b c))
theorem Interp_E {D : Nat → Prop} (q : Int) (a b : List Int) {xa ya : Option Addr} {xk yk : Nat} {w : World} (hx : Fct.at w D (.rw (.slice xa a.length xk) a.length 1 (icl a))) (hy : Fct.at w D (.rw (.slice ya b.length yk) b.length 1 (icl b))) (hl : Laid w) (hn : -9223372036854775808 ≤ q ∧ q ≤ 9223372036854775807) (hb : b.length ≤ 1000) {c : Int} (h : IErr q a b c) :
    Calls Tryd.prog 14 #[.int .i64 q, .slice xa a.length xk, .slice ya b.length yk] w fun e w' => e = .returned (.tuple #[.slice none 0 0, .int .i64 c]) ∧ Below w.heap.size w w' := by
  obtain ⟨h0, ⟨h1, rfl⟩ | ⟨h1, h2⟩⟩ := h
  · exact Interpolate_len q a b hx hy hl hn h1
  · exact Interpolate_err q a b hx hy hl hn h1 hb h0 h2
theorem ChkR0 {q : Int} {a b : List Int} (h : ChkR q a b 0) : ∃ (n : Nat) (a' b' : List Nat), q = n ∧ a = nl a' ∧ b = nl b' ∧ QuadMath.Prime n ∧ (n : Int) < Top ∧ fieldB (n : Int) = true ∧ a'.length ≤ 100 ∧ (∀ c ∈ a', c < n) ∧ (∀ c ∈ b', c < n) ∧ a'.Nodup := by
  rcases h with ⟨_, h⟩ | ⟨_, _, h⟩ | ⟨_, _, _, h⟩ | ⟨_, _, _, _, h⟩ | ⟨_, _, _, _, _, h⟩ | ⟨h1, h2, h3, h4, h5, _⟩
  · exact absurd h (by decide)
  · exact absurd h (by decide)
  · exact absurd h (by decide)
  · exact absurd h (by decide)
  · exact absurd h (by decide)
  obtain ⟨n, rfl, hn2, hT⟩ := fieldB_pos h1
  obtain ⟨a', rfl, ha⟩ := all_nl h3
  obtain ⟨b', rfl, hb⟩ := all_nl h4
  rw [nl_len] at h2
  exact ⟨n, a', b', rfl, rfl, rfl, field_prime h1, hT, h1, h2, fun c hc => Int.ofNat_lt.1 (ha c hc), fun c hc => Int.ofNat_lt.1 (hb c hc), nl_nodup.1 h5⟩
theorem Interp_0a {D : Nat → Prop} (q : Int) (a b : List Int) {xa ya : Option Addr} {xk yk : Nat} {w : World} (hx : Fct.at w D (.rw (.slice xa a.length xk) a.length 1 (icl a))) (hy : Fct.at w D (.rw (.slice ya b.length yk) b.length 1 (icl b))) (hl : Laid w) (hn : -9223372036854775808 ≤ q ∧ q ≤ 9223372036854775807) (hab : a.length = b.length) (h : ChkR q a b 0) :
    Calls Tryd.prog 14 #[.int .i64 q, .slice xa a.length xk, .slice ya b.length yk] w fun e w' => (∃ s n k, e = .returned (.tuple #[.slice s n k, .int .i64 0])) ∧ Below w.heap.size w w' := by
  obtain ⟨n, a', b', rfl, rfl, rfl, hp, hT, hf, hlen, ha, hb, hd⟩ := ChkR0 h
  rw [nl_len] at hx hab ⊢
  rw [nl_len] at hy hab ⊢
  exact (Interpolate_ok n a' b' hx hy hl hT hp.1 hf hab hlen ha hb hd (fun k u v hk h => ItR_gcd hp ha hb hd k u v hk h)).mono fun e w' ⟨⟨u, v, g1, s, k, g2, _⟩, g3⟩ => ⟨⟨s, u.length, k, g2⟩, g3⟩
theorem Weights_any {D : Nat → Prop} (q : Int) (a : List Int) (x : Int) {xa : Option Addr} {xk : Nat} {w : World} (hx : Fct.at w D (.rw (.slice xa a.length xk) a.length 1 (icl a))) (hl : Laid w) (hn : -9223372036854775808 ≤ q ∧ q ≤ 9223372036854775807) :
    Calls Tryd.prog 15 #[.int .i64 q, .slice xa a.length xk, .int .i64 x] w fun e w' => (∃ s n k c, e = .returned (.tuple #[.slice s n k, .int .i64 c])) ∧ Below w.heap.size w w' := by
  obtain ⟨c, hc⟩ := ChkR.ex q a [x]
  by_cases h0 : c = 0
  · subst h0
    obtain ⟨n, a', b', rfl, rfl, hb1, hp, hT, hf, hlen, ha, hb, hd⟩ := ChkR0 hc
    obtain ⟨y, rfl, hy⟩ : ∃ y : Nat, b' = [y] ∧ x = y := by
      rcases b' with _ | ⟨y, _ | ⟨z, t⟩⟩
      · cases hb1
      · simp [nl] at hb1; exact ⟨y, rfl, hb1⟩
      · cases hb1
    subst hy
    rw [nl_len] at hx ⊢
    exact (Weights_ok n a' y hx hl hT hp.1 hf hlen ha (Int.ofNat_lt.2 (hb y (by simp))) hd (wM_gcd hp ha hd)).mono fun e w' ⟨⟨o, g1, s, k, g2, _⟩, g3⟩ => ⟨⟨s, o.length, k, 0, g2⟩, g3⟩
  · exact (Weights_err q a x hx hl hn h0 hc).mono fun e w' ⟨h1, h2⟩ => ⟨⟨none, 0, 0, c, h1⟩, h2⟩
set_option maxRecDepth 100000 in
set_option maxHeartbeats 2000000 in
theorem pl_a {D : Nat → Prop} (q : Int) (a b : List Int) (x : Int) {xa ya : Option Addr} {xk yk : Nat} {w : World} (hx : Fct.at w D (.rw (.slice xa a.length xk) a.length 1 (icl a))) (hy : Fct.at w D (.rw (.slice ya b.length yk) b.length 1 (icl b))) (hl0 : Laid w) (hn : -9223372036854775808 ≤ q ∧ q ≤ 9223372036854775807) (h1 : 12 < a.length) :
    Calls Tryd.prog 5 #[.int .i64 q, .slice xa a.length xk, .slice ya b.length yk, .int .i64 x] w fun e w' => e = .returned (.bool true) ∧ Below w.heap.size w w' := by
  have E0 : Hid (Env D w [] [.rw (.slice ya b.length yk) b.length 1 (icl b), .rw (.slice xa a.length xk) a.length 1 (icl a)] w) := Lib.hid (((Env.start D w).arg (.rw (.slice xa a.length xk) a.length 1 (icl a)) hx).arg (.rw (.slice ya b.length yk) b.length 1 (icl b)) hy)
  clear hx hy
  go_enter Tryd.func5, Tryd.ntmps5
  have HN := Lib.hid hn
  have hl := Lib.hid hl0
  clear hl0
  go_wp2_with fail
  refine (awake13_c (hl.out.below E0.out.bel)).mono ?_
  rintro e w1 ⟨rfl, hb⟩
  have E1 : Hid (Env D w [] [.rw (.slice ya b.length yk) b.length 1 (icl b), .rw (.slice xa a.length xk) a.length 1 (icl a)] w1) := Lib.hid (E0.out.below hb)
  clear E0 hb
  have d1 : decide ((12 : Int) < (a.length : Int)) = true := decide_eq_true (by omega)
  have d1n : decide (12 < a.length) = true := decide_eq_true (by omega)
  have hfin := Lib.hid E1.out.bel
  go_wp2
  go_ret
  exact ⟨rfl, hfin.out⟩
set_option maxRecDepth 100000 in
set_option maxHeartbeats 2000000 in
theorem pl_b {D : Nat → Prop} (q : Int) (a b : List Int) (x : Int) {xa ya : Option Addr} {xk yk : Nat} {w : World} (hx : Fct.at w D (.rw (.slice xa a.length xk) a.length 1 (icl a))) (hy : Fct.at w D (.rw (.slice ya b.length yk) b.length 1 (icl b))) (hl0 : Laid w) (hn : -9223372036854775808 ≤ q ∧ q ≤ 9223372036854775807) (h1 : a.length ≤ 12) (h2 : 12 < b.length) :
    Calls Tryd.prog 5 #[.int .i64 q, .slice xa a.length xk, .slice ya b.length yk, .int .i64 x] w fun e w' => e = .returned (.bool true) ∧ Below w.heap.size w w' := by
  have E0 : Hid (Env D w [] [.rw (.slice ya b.length yk) b.length 1 (icl b), .rw (.slice xa a.length xk) a.length 1 (icl a)] w) := Lib.hid (((Env.start D w).arg (.rw (.slice xa a.length xk) a.length 1 (icl a)) hx).arg (.rw (.slice ya b.length yk) b.length 1 (icl b)) hy)
  clear hx hy
  go_enter Tryd.func5, Tryd.ntmps5
  have HN := Lib.hid hn
  have hl := Lib.hid hl0
  clear hl0
  go_wp2_with fail
  refine (awake13_c (hl.out.below E0.out.bel)).mono ?_
  rintro e w1 ⟨rfl, hb⟩
  have E1 : Hid (Env D w [] [.rw (.slice ya b.length yk) b.length 1 (icl b), .rw (.slice xa a.length xk) a.length 1 (icl a)] w1) := Lib.hid (E0.out.below hb)
  clear E0 hb
  have d1 : decide ((12 : Int) < (a.length : Int)) = false := decide_eq_false (by omega)
  have d1n : decide (12 < a.length) = false := decide_eq_false (by omega)
  have d2 : decide ((12 : Int) < (b.length : Int)) = true := decide_eq_true (by omega)
  have d2n : decide (12 < b.length) = true := decide_eq_true (by omega)
  have hfin := Lib.hid E1.out.bel
  go_wp2
  go_ret
  exact ⟨rfl, hfin.out⟩
set_option maxRecDepth 100000 in
set_option maxHeartbeats 2000000 in
theorem pl_e {D : Nat → Prop} (q : Int) (a b : List Int) (x : Int) {xa ya : Option Addr} {xk yk : Nat} {w : World} (hx : Fct.at w D (.rw (.slice xa a.length xk) a.length 1 (icl a))) (hy : Fct.at w D (.rw (.slice ya b.length yk) b.length 1 (icl b))) (hl0 : Laid w) (hn : -9223372036854775808 ≤ q ∧ q ≤ 9223372036854775807) (h1 : a.length ≤ 12) (h2 : b.length ≤ 12) (c : Int) (hc : c ≠ 0) (he0 : IErr q a b c) :
    Calls Tryd.prog 5 #[.int .i64 q, .slice xa a.length xk, .slice ya b.length yk, .int .i64 x] w fun e w' => e = .returned (.bool true) ∧ Below w.heap.size w w' := by
  have E0 : Hid (Env D w [] [.rw (.slice ya b.length yk) b.length 1 (icl b), .rw (.slice xa a.length xk) a.length 1 (icl a)] w) := Lib.hid (((Env.start D w).arg (.rw (.slice xa a.length xk) a.length 1 (icl a)) hx).arg (.rw (.slice ya b.length yk) b.length 1 (icl b)) hy)
  clear hx hy
  go_enter Tryd.func5, Tryd.ntmps5
  have HN := Lib.hid hn
  have hl := Lib.hid hl0
  have he := Lib.hid he0
  clear hl0 he0
  go_wp2_with fail
  refine (awake13_c (hl.out.below E0.out.bel)).mono ?_
  rintro e w1 ⟨rfl, hb⟩
  have E1 : Hid (Env D w [] [.rw (.slice ya b.length yk) b.length 1 (icl b), .rw (.slice xa a.length xk) a.length 1 (icl a)] w1) := Lib.hid (E0.out.below hb)
  clear E0 hb
  have d1 : decide ((12 : Int) < (a.length : Int)) = false := decide_eq_false (by omega)
  have d1n : decide (12 < a.length) = false := decide_eq_false (by omega)
  have d2 : decide ((12 : Int) < (b.length : Int)) = false := decide_eq_false (by omega)
  have d2n : decide (12 < b.length) = false := decide_eq_false (by omega)
  have z1 : (c != 0) = true := by rw [bne_iff_ne]; exact hc
  have z2 : (c == 0) = false := beq_eq_false_iff_ne.2 hc
  have HC := Lib.hid hc
  clear hc
  go_wp2_with fail
  refine (Interp_E q a b (E1.out.fc 1 rfl) (E1.out.fc 0 rfl) (hl.out.below E1.out.bel) HN.out (by omega) he.out).mono ?_
  rintro e w2 ⟨rfl, hb⟩
  have E2 : Hid (Env D w [] [.rw (.slice ya b.length yk) b.length 1 (icl b), .rw (.slice xa a.length xk) a.length 1 (icl a)] w2) := Lib.hid (E1.out.below hb)
  clear E1 hb
  go_wp2_with fail
  refine (Weights_any q a x (E2.out.fc 1 rfl) (hl.out.below E2.out.bel) HN.out).mono ?_
  rintro e w3 ⟨⟨va, vn, vk, vc, rfl⟩, hb⟩
  have E3 : Hid (Env D w [] [.rw (.slice ya b.length yk) b.length 1 (icl b), .rw (.slice xa a.length xk) a.length 1 (icl a)] w3) := Lib.hid (E2.out.below hb)
  clear E2 hb
  have hfin := Lib.hid E3.out.bel
  go_wp2
  go_ret
  exact ⟨rfl, hfin.out⟩
set_option maxRecDepth 100000 in
set_option maxHeartbeats 2000000 in
theorem pl_f {D : Nat → Prop} (q : Int) (a b : List Int) (x : Int) {xa ya : Option Addr} {xk yk : Nat} {w : World} (hx : Fct.at w D (.rw (.slice xa a.length xk) a.length 1 (icl a))) (hy : Fct.at w D (.rw (.slice ya b.length yk) b.length 1 (icl b))) (hl0 : Laid w) (hn : -9223372036854775808 ≤ q ∧ q ≤ 9223372036854775807) (h1 : a.length ≤ 12) (h2 : b.length ≤ 12) (c : Int) (hc : c ≠ 0) (hab0 : a.length = b.length) (he0 : ChkR q a b 0) (hw0 : ChkR q a [x] c) :
    Calls Tryd.prog 5 #[.int .i64 q, .slice xa a.length xk, .slice ya b.length yk, .int .i64 x] w fun e w' => e = .returned (.bool true) ∧ Below w.heap.size w w' := by
  have E0 : Hid (Env D w [] [.rw (.slice ya b.length yk) b.length 1 (icl b), .rw (.slice xa a.length xk) a.length 1 (icl a)] w) := Lib.hid (((Env.start D w).arg (.rw (.slice xa a.length xk) a.length 1 (icl a)) hx).arg (.rw (.slice ya b.length yk) b.length 1 (icl b)) hy)
  clear hx hy
  go_enter Tryd.func5, Tryd.ntmps5
  have HN := Lib.hid hn
  have hl := Lib.hid hl0
  have hab := Lib.hid hab0
  have he := Lib.hid he0
  have hw := Lib.hid hw0
  clear hl0 hab0 he0 hw0
  go_wp2_with fail
  refine (awake13_c (hl.out.below E0.out.bel)).mono ?_
  rintro e w1 ⟨rfl, hb⟩
  have E1 : Hid (Env D w [] [.rw (.slice ya b.length yk) b.length 1 (icl b), .rw (.slice xa a.length xk) a.length 1 (icl a)] w1) := Lib.hid (E0.out.below hb)
  clear E0 hb
  have d1 : decide ((12 : Int) < (a.length : Int)) = false := decide_eq_false (by omega)
  have d1n : decide (12 < a.length) = false := decide_eq_false (by omega)
  have d2 : decide ((12 : Int) < (b.length : Int)) = false := decide_eq_false (by omega)
  have d2n : decide (12 < b.length) = false := decide_eq_false (by omega)
  have z1 : (c != 0) = true := by rw [bne_iff_ne]; exact hc
  have z2 : (c == 0) = false := beq_eq_false_iff_ne.2 hc
  have HC := Lib.hid hc
  clear hc
  go_wp2_with fail
  refine (Interp_0a q a b (E1.out.fc 1 rfl) (E1.out.fc 0 rfl) (hl.out.below E1.out.bel) HN.out hab.out he.out).mono ?_
  rintro e w2 ⟨⟨ua, un, uk, rfl⟩, hb⟩
  have E2 : Hid (Env D w [] [.rw (.slice ya b.length yk) b.length 1 (icl b), .rw (.slice xa a.length xk) a.length 1 (icl a)] w2) := Lib.hid (E1.out.below hb)
  clear E1 hb
  go_wp2_with fail
  refine (Weights_err q a x (E2.out.fc 1 rfl) (hl.out.below E2.out.bel) HN.out HC.out hw.out).mono ?_
  rintro e w3 ⟨rfl, hb⟩
  have E3 : Hid (Env D w [] [.rw (.slice ya b.length yk) b.length 1 (icl b), .rw (.slice xa a.length xk) a.length 1 (icl a)] w3) := Lib.hid (E2.out.below hb)
  clear E2 hb
  have hfin := Lib.hid E3.out.bel
  go_wp2
  go_ret
  exact ⟨rfl, hfin.out⟩
set_option maxRecDepth 100000 in
set_option maxHeartbeats 4000000 in
theorem pl_ok {D : Nat → Prop} (q : Nat) (a b : List Nat) (x : Nat) {xa ya : Option Addr} {xk yk : Nat} {w : World} (hx : Fct.at w D (.rw (.slice xa a.length xk) a.length 1 (ncl a))) (hy : Fct.at w D (.rw (.slice ya b.length yk) b.length 1 (ncl b))) (hDD0 : ∀ b, D b) (hl0 : Laid w) (hp0 : QuadMath.Prime q) (hqT : (q : Int) < Top) (h1 : a.length ≤ 12) (h2 : b.length ≤ 12) (hab0 : a.length = b.length) (hf0 : fieldB q = true) (hr0 : ∀ c ∈ a, c < q) (hs0 : ∀ c ∈ b, c < q) (hxq0 : x < q) (hd0 : a.Nodup) :
    Calls Tryd.prog 5 #[.int .i64 (q : Nat), .slice xa a.length xk, .slice ya b.length yk, .int .i64 (x : Nat)] w fun e w' => e = .returned (.bool true) ∧ Below w.heap.size w w' := by
  have E0 : Hid (Env D w [] [.rw (.slice ya b.length yk) b.length 1 (ncl b), .rw (.slice xa a.length xk) a.length 1 (ncl a)] w) := Lib.hid (((Env.start D w).arg (.rw (.slice xa a.length xk) a.length 1 (ncl a)) hx).arg (.rw (.slice ya b.length yk) b.length 1 (ncl b)) hy)
  clear hx hy
  go_enter Tryd.func5, Tryd.ntmps5
  have hDD := Lib.hid hDD0
  have hl := Lib.hid hl0
  have hp := Lib.hid hp0
  have hab := Lib.hid hab0
  have hf := Lib.hid hf0
  have hr := Lib.hid hr0
  have hs := Lib.hid hs0
  have hxq := Lib.hid hxq0
  have hd := Lib.hid hd0
  clear hDD0 hl0 hp0 hab0 hf0 hr0 hs0 hxq0 hd0
  have HT := Lib.hid hqT
  clear hqT
  have HX : Hid ((x : Int) < (q : Int)) := Lib.hid (Int.ofNat_lt.2 hxq.out)
  have HQ : Hid (0 < q) := Lib.hid (by have := hp.out.1; omega)
  go_wp2_with fail
  refine (awake13_c (hl.out.below E0.out.bel)).mono ?_
  rintro e w1 ⟨rfl, hb⟩
  have E1 : Hid (Env D w [] [.rw (.slice ya b.length yk) b.length 1 (ncl b), .rw (.slice xa a.length xk) a.length 1 (ncl a)] w1) := Lib.hid (E0.out.below hb)
  clear E0 hb
  have d1 : decide ((12 : Int) < (a.length : Int)) = false := decide_eq_false (by omega)
  have d1n : decide (12 < a.length) = false := decide_eq_false (by omega)
  have d2 : decide ((12 : Int) < (b.length : Int)) = false := decide_eq_false (by omega)
  have d2n : decide (12 < b.length) = false := decide_eq_false (by omega)
  go_wp2_with fail
  refine (Interpolate_ok q a b (E1.out.fc 1 rfl) (E1.out.fc 0 rfl) (hl.out.below E1.out.bel) HT.out hp.out.1 hf.out hab.out (by omega) hr.out hs.out hd.out (fun k u v hk h => ItR_gcd hp.out hr.out hs.out hd.out k u v hk h)).mono ?_
  rintro e w2 ⟨⟨u, v, HI, ra, rk, rfl, rh⟩, hb⟩
  have E2 : Hid (Env D w [] [.rw (.slice ra u.length rk) u.length 1 (ncl u), .rw (.slice ya b.length yk) b.length 1 (ncl b), .rw (.slice xa a.length xk) a.length 1 (ncl a)] w2) := Lib.hid (E1.out.got (E1.out.below hb) (.rw (.slice ra u.length rk) u.length 1 (ncl u)) (Lib.hid (Rw.up hDD.out rh.out)).out)
  clear E1 hb
  go_wp2_with fail
  refine (Weights_ok q a x (E2.out.fc 2 rfl) (hl.out.below E2.out.bel) HT.out hp.out.1 hf.out (by omega) hr.out HX.out hd.out (wM_gcd hp.out hr.out hd.out)).mono ?_
  rintro e w3 ⟨⟨o, HW, sa, sk, rfl, sh⟩, hb⟩
  have E3 : Hid (Env D w [] [.rw (.slice sa o.length sk) o.length 1 (ncl o), .rw (.slice ra u.length rk) u.length 1 (ncl u), .rw (.slice ya b.length yk) b.length 1 (ncl b), .rw (.slice xa a.length xk) a.length 1 (ncl a)] w3) := Lib.hid (E2.out.got (E2.out.below hb) (.rw (.slice sa o.length sk) o.length 1 (ncl o)) (Lib.hid (Rw.up hDD.out (Rw.tr sh.out))).out)
  clear E2 hb
  have HN := Lib.hid (ItR_at hp.out hr.out hs.out _ _ _ HI.out)
  have HU := Lib.hid (ItR_len hp.out.1 HI.out)
  have hu9 : u.length ≤ 1000 := by have := HU.out.1.1; omega
  have HU9 := Lib.hid hu9
  clear hu9
  have HV : Hid (validB (q : Int) [nl u] = true) := Lib.hid (by rw [valid1, hf.out, polyB_mk HU9.out HU.out.2.1 HN.out.last]; rfl)
  obtain ⟨ev, hev⟩ : ∃ ev, evN q x u = ev := ⟨_, rfl⟩
  have HEV := Lib.hid hev
  clear hev
  have HLG : Hid (ev = lagS q o b o.length) := Lib.hid (by rw [← HEV.out, HW.out.1]; exact lagrange hp.out hxq.out hr.out hs.out hd.out hab.out HI.out HW.out.2)
  go_wp2_with fail
  refine (EvalV q u x (E3.out.fc 1 rfl) (hl.out.below E3.out.bel) HT.out HV.out HU9.out HU.out.2.1 HX.out HEV.out).mono ?_
  rintro e w4 ⟨rfl, hb⟩
  have E4 : Hid (Env D w [] [.rw (.slice sa o.length sk) o.length 1 (ncl o), .rw (.slice ra u.length rk) u.length 1 (ncl u), .rw (.slice ya b.length yk) b.length 1 (ncl b), .rw (.slice xa a.length xk) a.length 1 (ncl a)] w4) := Lib.hid (E3.out.below hb)
  clear E3 hb
  have m0a : ((o.length : Int) != (a.length : Int)) = false := by rw [HW.out.1]; simp
  have m0b : (o.length != a.length) = false := by rw [HW.out.1]; simp
  have m1a : ((a.length : Int) != (b.length : Int)) = false := by rw [hab.out]; simp
  have m1b : (a.length != b.length) = false := by rw [hab.out]; simp
  have HO9 : Hid (o.length ≤ 12) := Lib.hid (by rw [HW.out.1]; exact h1)
  go_wp2_with fail
  go_loopg [15, 75] (o.length) (fun gk s15 s75 wr => ∃ (s i : Nat), s15 = .int .i64 (s : Int) ∧ s75 = .int .i64 (i : Int) ∧ Hid (Env D w [] [.rw (.slice sa o.length sk) o.length 1 (ncl o), .rw (.slice ra u.length rk) u.length 1 (ncl u), .rw (.slice ya b.length yk) b.length 1 (ncl b), .rw (.slice xa a.length xk) a.length 1 (ncl a)] wr) ∧ Hid ((i ≤ o.length ∧ gk = o.length - i) ∧ s = lagS q o b i))
  case atStart => exact ⟨0, 0, rfl, rfl, Lib.hid E4.out, Lib.hid ⟨⟨Nat.zero_le _, rfl⟩, rfl⟩⟩
  case round =>
    clear E4
    obtain ⟨s, i, rfl, rfl, EL, HA⟩ := hrel
    obtain ⟨⟨a1, a2⟩, a3⟩ := HA.out
    have HS := Lib.hid a3
    clear a3 HA
    by_cases hy : i = o.length
    rotate_left
    · have hi : i < o.length := by omega
      have t6 : decide ((i : Int) < (o.length : Int)) = true := decide_eq_true (by omega)
      have t7 : decide (i < o.length) = true := decide_eq_true hi
      clear hy
      have hi9 : (i : Int) ≤ 12 := by have := HO9.out; omega
      have hia : i < a.length := by have := HW.out.1; omega
      have hib : i < b.length := by have := HW.out.1; have := hab.out; omega
      have hibI : (i : Int) < (b.length : Int) := by omega
      have hiaI : (i : Int) < (a.length : Int) := by omega
      have HWI : Hid (WR q x a i o[i]) := Lib.hid (by have h := HW.out.2 i hia; rw [getD_elem hi] at h; exact h)
      have hoq : ((o[i] : Nat) : Int) < (q : Int) := Int.ofNat_lt.2 (by obtain ⟨r, _, _, e⟩ := HWI.out; rw [e]; exact Nat.mod_lt _ HQ.out)
      have hbq : ((b[i] : Nat) : Int) < (q : Int) := Int.ofNat_lt.2 (hs.out _ (List.getElem_mem hib))
      have hsq : (s : Int) < (q : Int) := by rw [HS.out]; exact Int.ofNat_lt.2 (lagS_lt HQ.out _ _ _)
      obtain ⟨sab, sao, rfl⟩ := Rw.addr (EL.out.fc 0 rfl) (by omega)
      have E5 : Hid (Env D w [] [.ce sab (sao + i) (.int .i64 (o[i] : Nat)), .rw (.slice (some ⟨sab, sao, none⟩) o.length sk) o.length 1 (ncl o), .rw (.slice ra u.length rk) u.length 1 (ncl u), .rw (.slice ya b.length yk) b.length 1 (ncl b), .rw (.slice xa a.length xk) a.length 1 (ncl a)] _) := Lib.hid (EL.out.elN 0 rfl rfl (i) hi)
      clear EL
      have p0 := (E5.out.fc 0 rfl).2
      obtain ⟨yab, yao, rfl⟩ := Rw.addr (E5.out.fc 3 rfl) (by omega)
      have E6 : Hid (Env D w [] [.ce yab (yao + i) (.int .i64 (b[i] : Nat)), .ce sab (sao + i) (.int .i64 (o[i] : Nat)), .rw (.slice (some ⟨sab, sao, none⟩) o.length sk) o.length 1 (ncl o), .rw (.slice ra u.length rk) u.length 1 (ncl u), .rw (.slice (some ⟨yab, yao, none⟩) b.length yk) b.length 1 (ncl b), .rw (.slice xa a.length xk) a.length 1 (ncl a)] _) := Lib.hid (E5.out.elN 3 rfl rfl (i) hib)
      clear E5
      have v20 := (E6.out.fc 0 rfl).2
      go_wp2_with fail
      have E7 : Hid (Env D w [] [.ce yab (yao + i) (.int .i64 (b[i] : Nat)), .ce sab (sao + i) (.int .i64 (o[i] : Nat)), .rw (.slice (some ⟨sab, sao, none⟩) o.length sk) o.length 1 (ncl o), .rw (.slice ra u.length rk) u.length 1 (ncl u), .rw (.slice (some ⟨yab, yao, none⟩) b.length yk) b.length 1 (ncl b), .rw (.slice xa a.length xk) a.length 1 (ncl a)] (wr.drew)) := Lib.hid E6.out.drew
      clear p0 v20 E6
      refine wp_regionU (S := fun w' => w'.cell? ⟨sab, sao + i, none⟩ = some (.int .i64 (o[i] : Nat)) ∧ w'.cell? ⟨yab, yao + i, none⟩ = some (.int .i64 (b[i] : Nat))) [] (by kernel_rfl) (⟨(E7.out.fc 1 rfl).2, (E7.out.fc 0 rfl).2⟩) (fun hHeld => ?_)
      generalize wr.drew = w5 at *
      refine uTake (i := 0) (some 79) (v := ?_) rfl rfl (by kernel_rfl) (by kernel_rfl) (by kernel_rfl) (by kernel_rfl) (fun _ _ _ h => h) (by rfl) (by assumption) ?_ ?_
      rotate_left
      · (intro wS hSw; (try dsimp only at hSw); go_simp; try with_reducible rfl)
      try simp only [Act.put, List.setIfInBounds_toArray, List.set_cons_zero, List.set_cons_succ]
      refine uTake (i := 1) (some 80) (v := ?_) rfl rfl (by kernel_rfl) (by kernel_rfl) (by kernel_rfl) (by kernel_rfl) (fun _ _ _ h => h) (by rfl) (by assumption) ?_ ?_
      rotate_left
      · (intro wS hSw; (try dsimp only at hSw); go_simp; try with_reducible rfl)
      try simp only [Act.put, List.setIfInBounds_toArray, List.set_cons_zero, List.set_cons_succ]
      refine uTake (i := 2) (some 81) (v := ?_) rfl rfl (by kernel_rfl) (by kernel_rfl) (by kernel_rfl) (by kernel_rfl) (fun _ _ _ h => h) (by rfl) (by assumption) ?_ ?_
      rotate_left
      · (intro wS hSw; (try dsimp only at hSw); go_simp; try with_reducible rfl)
      try simp only [Act.put, List.setIfInBounds_toArray, List.set_cons_zero, List.set_cons_succ]
      refine uTake (i := 3) (some 82) (v := ?_) rfl rfl (by kernel_rfl) (by kernel_rfl) (by kernel_rfl) (by kernel_rfl) (fun _ _ _ h => h) (by rfl) (by assumption) ?_ ?_
      rotate_left
      · (intro wS hSw; (try dsimp only at hSw); go_simp; try with_reducible rfl)
      try simp only [Act.put, List.setIfInBounds_toArray, List.set_cons_zero, List.set_cons_succ]
      refine uTake (i := 4) (some 83) (v := ?_) rfl rfl (by kernel_rfl) (by kernel_rfl) (by kernel_rfl) (by kernel_rfl) (fun _ _ _ h => h) (by rfl) (by assumption) ?_ ?_
      rotate_left
      · (intro wS hSw; (try dsimp only at hSw); go_simp; try with_reducible rfl)
      try simp only [Act.put, List.setIfInBounds_toArray, List.set_cons_zero, List.set_cons_succ]
      refine uTake (i := 5) (some 84) (v := ?_) rfl rfl (by kernel_rfl) (by kernel_rfl) (by kernel_rfl) (by kernel_rfl) (fun _ _ _ h => h) (by rfl) (by assumption) ?_ ?_
      rotate_left
      · (intro wS hSw; (try dsimp only at hSw); go_simp; try with_reducible rfl)
      try simp only [Act.put, List.setIfInBounds_toArray, List.set_cons_zero, List.set_cons_succ]
      refine uTake (i := 6) (some 85) (v := ?_) rfl rfl (by kernel_rfl) (by kernel_rfl) (by kernel_rfl) (by kernel_rfl) (fun _ _ _ h => h) (by rfl) (by assumption) ?_ ?_
      rotate_left
      · (intro wS hSw; (try dsimp only at hSw); go_simp; try with_reducible rfl)
      try simp only [Act.put, List.setIfInBounds_toArray, List.set_cons_zero, List.set_cons_succ]
      refine uTake (i := 7) (some 86) (v := ?_) rfl rfl (by kernel_rfl) (by kernel_rfl) (by kernel_rfl) (by kernel_rfl) (fun _ _ _ h => h) (by rfl) (by assumption) ?_ ?_
      rotate_left
      · (intro wS hSw; (try dsimp only at hSw); go_simp; try with_reducible rfl)
      try simp only [Act.put, List.setIfInBounds_toArray, List.set_cons_zero, List.set_cons_succ]
      refine uTake (i := 8) (some 87) (v := ?_) rfl rfl (by kernel_rfl) (by kernel_rfl) (by kernel_rfl) (by kernel_rfl) (fun _ _ _ h => h) (by rfl) (by assumption) ?_ ?_
      rotate_left
      · (intro wS hSw; (try dsimp only at hSw); go_simp; try with_reducible rfl)
      try simp only [Act.put, List.setIfInBounds_toArray, List.set_cons_zero, List.set_cons_succ]
      refine uReady (rs := [9]) (by kernel_rfl) (by simp) ?_
      refine ReadyU.cons rfl (fun KK hKK => ?_) ReadyU.nil
      go_simp
      refine (MulV o[i] b[i] q _ hoq hbq HT.out rfl).mono ?_
      rintro e w6 ⟨rfl, hb⟩
      have E8 : Hid (Env D w [] [.ce yab (yao + i) (.int .i64 (b[i] : Nat)), .ce sab (sao + i) (.int .i64 (o[i] : Nat)), .rw (.slice (some ⟨sab, sao, none⟩) o.length sk) o.length 1 (ncl o), .rw (.slice ra u.length rk) u.length 1 (ncl u), .rw (.slice (some ⟨yab, yao, none⟩) b.length yk) b.length 1 (ncl b), .rw (.slice xa a.length xk) a.length 1 (ncl a)] w6) := Lib.hid (E7.out.below hb)
      clear E7 hb
      (try dsimp only)
      clear hHeld
      refine hKK.out _ _ (⟨(E8.out.fc 1 rfl).2, (E8.out.fc 0 rfl).2⟩) (fun hHeld => ?_)
      clear hKK KK
      try simp only [Act.put, List.setIfInBounds_toArray, List.set_cons_zero, List.set_cons_succ]
      refine uTake (i := 10) (some 78) (v := ?_) rfl rfl (by kernel_rfl) (by kernel_rfl) (by kernel_rfl) (by kernel_rfl) (fun _ _ _ h => h) (by rfl) (by assumption) ?_ ?_
      rotate_left
      · (intro wS hSw; (try dsimp only at hSw); go_simp; try with_reducible rfl)
      try simp only [Act.put, List.setIfInBounds_toArray, List.set_cons_zero, List.set_cons_succ]
      refine uTake (i := 11) (some 89) (v := ?_) rfl rfl (by kernel_rfl) (by kernel_rfl) (by kernel_rfl) (by kernel_rfl) (fun _ _ _ h => h) (by rfl) (by assumption) ?_ ?_
      rotate_left
      · (intro wS hSw; (try dsimp only at hSw); go_simp; try with_reducible rfl)
      try simp only [Act.put, List.setIfInBounds_toArray, List.set_cons_zero, List.set_cons_succ]
      refine uTake (i := 12) (some 90) (v := ?_) rfl rfl (by kernel_rfl) (by kernel_rfl) (by kernel_rfl) (by kernel_rfl) (fun _ _ _ h => h) (by rfl) (by assumption) ?_ ?_
      rotate_left
      · (intro wS hSw; (try dsimp only at hSw); go_simp; try with_reducible rfl)
      try simp only [Act.put, List.setIfInBounds_toArray, List.set_cons_zero, List.set_cons_succ]
      refine uTake (i := 13) (some 17) (v := ?_) rfl rfl (by kernel_rfl) (by kernel_rfl) (by kernel_rfl) (by kernel_rfl) (fun _ _ _ h => h) (by rfl) (by assumption) ?_ ?_
      rotate_left
      · (intro wS hSw; (try dsimp only at hSw); go_simp; try with_reducible rfl)
      try simp only [Act.put, List.setIfInBounds_toArray, List.set_cons_zero, List.set_cons_succ]
      refine uTake (i := 14) (some 18) (v := ?_) rfl rfl (by kernel_rfl) (by kernel_rfl) (by kernel_rfl) (by kernel_rfl) (fun _ _ _ h => h) (by rfl) (by assumption) ?_ ?_
      rotate_left
      · (intro wS hSw; (try dsimp only at hSw); go_simp; try with_reducible rfl)
      try simp only [Act.put, List.setIfInBounds_toArray, List.set_cons_zero, List.set_cons_succ]
      refine uDone (by kernel_rfl) ?_ _
      obtain ⟨t2, ht2⟩ : ∃ t2, t2 = (s + o[i] * b[i] % q) % q := ⟨_, rfl⟩
      have HT2 := Lib.hid ht2
      clear ht2
      have hpq : ((o[i] * b[i] % q : Nat) : Int) < (q : Int) := Int.ofNat_lt.2 (Nat.mod_lt _ HQ.out)
      go_wp2_with fail
      refine (AddV s (o[i] * b[i] % q) q _ hsq hpq HT.out HT2.out).mono ?_
      rintro e w7 ⟨rfl, hb⟩
      have E9 : Hid (Env D w [] [.ce yab (yao + i) (.int .i64 (b[i] : Nat)), .ce sab (sao + i) (.int .i64 (o[i] : Nat)), .rw (.slice (some ⟨sab, sao, none⟩) o.length sk) o.length 1 (ncl o), .rw (.slice ra u.length rk) u.length 1 (ncl u), .rw (.slice (some ⟨yab, yao, none⟩) b.length yk) b.length 1 (ncl b), .rw (.slice xa a.length xk) a.length 1 (ncl a)] w7) := Lib.hid (E8.out.below hb)
      clear E8 hb
      have HS2 : Hid (t2 = lagS q o b (i + 1)) := Lib.hid (by rw [HT2.out, HS.out]; show _ = (lagS q o b i + o.getD i 0 * b.getD i 0 % q) % q; rw [getD_elem hi, getD_elem hib])
      obtain ⟨xab, xao, rfl⟩ := Rw.addr (E9.out.fc 5 rfl) (by omega)
      have E10 : Hid (Env D w [] [.ce xab (xao + i) (.int .i64 (a[i] : Nat)), .ce yab (yao + i) (.int .i64 (b[i] : Nat)), .ce sab (sao + i) (.int .i64 (o[i] : Nat)), .rw (.slice (some ⟨sab, sao, none⟩) o.length sk) o.length 1 (ncl o), .rw (.slice ra u.length rk) u.length 1 (ncl u), .rw (.slice (some ⟨yab, yao, none⟩) b.length yk) b.length 1 (ncl b), .rw (.slice (some ⟨xab, xao, none⟩) a.length xk) a.length 1 (ncl a)] _) := Lib.hid (E9.out.elN 5 rfl rfl (i) hia)
      clear E9
      have y20 := (E10.out.fc 0 rfl).2
      by_cases he : a[i] = x
      · have n1 : (((a[i] : Nat) : Int) == (x : Int)) = true := beq_iff_eq.2 (by exact_mod_cast he)
        have n2 : (a[i] == x) = true := beq_iff_eq.2 he
        have HCO : Hid (a.contains x = true) := Lib.hid (List.contains_iff_mem.2 (he ▸ List.getElem_mem hia))
        have HWN : Hid (o[i] = 1) := Lib.hid (by have h := WR_node (v := o[i]) hp.out hr.out hd.out hia hia (by rw [getD_elem hia, he]; exact HWI.out); rwa [if_pos rfl] at h)
        have HE := Lib.hid he
        clear he
        have cc := containsN_c (t := true) (E10.out.fc 6 rfl) (by omega) HCO.out
        have CC := Lib.hid cc
        clear cc
        have w1 : (((o[i] : Nat) : Int) != 1) = false := by rw [HWN.out]; simp
        have w2 : (o[i] != 1) = false := by rw [HWN.out]; simp
        go_wp2_with fail
        refine (CC.out).mono ?_
        rintro e w8 ⟨rfl, hb⟩
        have E11 : Hid (Env D w [] [.ce xab (xao + i) (.int .i64 (a[i] : Nat)), .ce yab (yao + i) (.int .i64 (b[i] : Nat)), .ce sab (sao + i) (.int .i64 (o[i] : Nat)), .rw (.slice (some ⟨sab, sao, none⟩) o.length sk) o.length 1 (ncl o), .rw (.slice ra u.length rk) u.length 1 (ncl u), .rw (.slice (some ⟨yab, yao, none⟩) b.length yk) b.length 1 (ncl b), .rw (.slice (some ⟨xab, xao, none⟩) a.length xk) a.length 1 (ncl a)] w8) := Lib.hid (E10.out.below hb)
        clear y20 E10 hb
        have z1 := (E11.out.fc 2 rfl).2
        have EZ := Lib.hid (((E11.out.forget).forget).forget)
        go_wp2
        go_roundg (o.length - (i + 1))
        case rel => exact ⟨t2, i + 1, rfl, rfl, EZ, Lib.hid ⟨⟨by omega, rfl⟩, HS2.out⟩⟩
        case measure => exact by omega
      · have n1 : (((a[i] : Nat) : Int) == (x : Int)) = false := beq_eq_false_iff_ne.2 (fun e => he (by exact_mod_cast e))
        have n2 : (a[i] == x) = false := beq_eq_false_iff_ne.2 he
        have HE := Lib.hid he
        clear he
        rcases Bool.eq_false_or_eq_true (a.contains x) with hco | hco
        · have HCO := Lib.hid hco
          clear hco
          have HWN : Hid (o[i] = 0) := Lib.hid (by
            obtain ⟨m, hm, e⟩ := mem_ix (List.contains_iff_mem.1 HCO.out)
            have h := WR_node (v := o[i]) hp.out hr.out hd.out hia hm (by rw [e]; exact HWI.out)
            rwa [if_neg (fun e2 => HE.out (by subst e2; rw [← getD_elem hia]; exact e))] at h)
          have cc := containsN_c (t := true) (E10.out.fc 6 rfl) (by omega) HCO.out
          have CC := Lib.hid cc
          clear cc
          have w1 : (((o[i] : Nat) : Int) != 0) = false := by rw [HWN.out]; simp
          have w2 : (o[i] != 0) = false := by rw [HWN.out]; simp
          go_wp2_with fail
          refine (CC.out).mono ?_
          rintro e w8 ⟨rfl, hb⟩
          have E11 : Hid (Env D w [] [.ce xab (xao + i) (.int .i64 (a[i] : Nat)), .ce yab (yao + i) (.int .i64 (b[i] : Nat)), .ce sab (sao + i) (.int .i64 (o[i] : Nat)), .rw (.slice (some ⟨sab, sao, none⟩) o.length sk) o.length 1 (ncl o), .rw (.slice ra u.length rk) u.length 1 (ncl u), .rw (.slice (some ⟨yab, yao, none⟩) b.length yk) b.length 1 (ncl b), .rw (.slice (some ⟨xab, xao, none⟩) a.length xk) a.length 1 (ncl a)] w8) := Lib.hid (E10.out.below hb)
          clear y20 E10 hb
          have z1 := (E11.out.fc 2 rfl).2
          have EZ := Lib.hid (((E11.out.forget).forget).forget)
          go_wp2
          go_roundg (o.length - (i + 1))
          case rel => exact ⟨t2, i + 1, rfl, rfl, EZ, Lib.hid ⟨⟨by omega, rfl⟩, HS2.out⟩⟩
          case measure => exact by omega
        · have HCO := Lib.hid hco
          clear hco
          have cc := containsN_c (t := false) (E10.out.fc 6 rfl) (by omega) HCO.out
          have CC := Lib.hid cc
          clear cc
          go_wp2_with fail
          refine (CC.out).mono ?_
          rintro e w8 ⟨rfl, hb⟩
          have E11 : Hid (Env D w [] [.ce xab (xao + i) (.int .i64 (a[i] : Nat)), .ce yab (yao + i) (.int .i64 (b[i] : Nat)), .ce sab (sao + i) (.int .i64 (o[i] : Nat)), .rw (.slice (some ⟨sab, sao, none⟩) o.length sk) o.length 1 (ncl o), .rw (.slice ra u.length rk) u.length 1 (ncl u), .rw (.slice (some ⟨yab, yao, none⟩) b.length yk) b.length 1 (ncl b), .rw (.slice (some ⟨xab, xao, none⟩) a.length xk) a.length 1 (ncl a)] w8) := Lib.hid (E10.out.below hb)
          clear y20 E10 hb
          have EZ := Lib.hid (((E11.out.forget).forget).forget)
          go_wp2
          go_roundg (o.length - (i + 1))
          case rel => exact ⟨t2, i + 1, rfl, rfl, EZ, Lib.hid ⟨⟨by omega, rfl⟩, HS2.out⟩⟩
          case measure => exact by omega

    have t6 : decide ((i : Int) < (o.length : Int)) = false := decide_eq_false (by omega)
    have t7 : decide (i < o.length) = false := decide_eq_false (by omega)
    obtain rfl : s = ev := by rw [HS.out, hy, HLG.out]
    clear hy
    have hfin := Lib.hid EL.out.bel
    go_wp2
    go_ret
    exact ⟨rfl, hfin.out⟩
theorem PolyLagrange_walk {D : Nat → Prop} (q : Int) (a b : List Int) (x : Int) {xa ya : Option Addr} {xk yk : Nat} {w : World} (hx : Fct.at w D (.rw (.slice xa a.length xk) a.length 1 (icl a))) (hy : Fct.at w D (.rw (.slice ya b.length yk) b.length 1 (icl b))) (hl : Laid w) (hn : -9223372036854775808 ≤ q ∧ q ≤ 9223372036854775807) :
    Calls Tryd.prog 5 #[.int .i64 q, .slice xa a.length xk, .slice ya b.length yk, .int .i64 x] w fun e w' => e = .returned (.bool true) ∧ Below w.heap.size w w' := by
  rcases Nat.lt_or_ge 12 a.length with h1 | h1
  · exact pl_a q a b x hx hy hl hn h1
  rcases Nat.lt_or_ge 12 b.length with h2 | h2
  · exact pl_b q a b x hx hy hl hn h1 h2
  by_cases hab : a.length = b.length
  rotate_left
  · exact pl_e q a b x hx hy hl hn h1 h2 1 (by decide) ⟨by decide, Or.inl ⟨hab, rfl⟩⟩
  obtain ⟨c, hc⟩ := ChkR.ex q a b
  by_cases h0 : c = 0
  rotate_left
  · exact pl_e q a b x hx hy hl hn h1 h2 c h0 ⟨h0, Or.inr ⟨hab, hc⟩⟩
  subst h0
  obtain ⟨c, hw⟩ := ChkR.ex q a [x]
  by_cases h0 : c = 0
  rotate_left
  · exact pl_f q a b x hx hy hl hn h1 h2 c h0 hab hc hw
  subst h0
  obtain ⟨n, a', b', rfl, rfl, rfl, hp, hT, hf, hlen, ha, hb, hd⟩ := ChkR0 hc
  have hxr : [x].all (resB (n : Int)) = true := by
    rcases hw with ⟨_, h⟩ | ⟨_, _, h⟩ | ⟨_, _, _, h⟩ | ⟨_, _, _, _, h⟩ | ⟨_, _, _, _, _, h⟩ | ⟨h1, h2, h3, h4, h5, _⟩
    · exact absurd h (by decide)
    · exact absurd h (by decide)
    · exact absurd h (by decide)
    · exact absurd h (by decide)
    · exact absurd h (by decide)
    · exact h4
  obtain ⟨y, rfl, hyn⟩ : ∃ y : Nat, x = y ∧ y < n := by
    simp [resB] at hxr
    exact ⟨x.toNat, by omega, by omega⟩
  have hx' := Rw.tr hx
  have hy' := Rw.tr hy
  rw [nl_len] at hx' h1 hab ⊢
  rw [nl_len] at hy' h2 hab ⊢
  exact pl_ok (D := fun _ => True) n a' b' y hx' hy' (fun _ => trivial) hl hp hT h1 h2 hab hf ha hb hyn hd
end Go.Proofs.YteipbcpnnojclaaDoor

/- poly: the law PolyInterpolates. -/
import Derived.Test.YteipbcpnnojclaaDoorPolCc
import Derived.Test.YteipbcpnnojclaaDoorPolLg
namespace Go.Proofs.YteipbcpnnojclaaDoor
open Go.RowKit DivMath WordMath
set_option linter.unusedVariables false
set_option linter.unusedSimpArgs false
open QuadMath (Prime)
def IpR (q : Int) (a b : List Int) (L : List Nat) : Prop := ∃ (n : Nat) (a' b' v : List Nat), q = n ∧ a = nl a' ∧ b = nl b' ∧ Prime n ∧ (n : Int) < Top ∧ (∀ c ∈ a', c < n) ∧ (∀ c ∈ b', c < n) ∧ a'.Nodup ∧ ItR n a' b' a'.length L v
def WtR (q : Int) (a : List Int) (x : Int) (O : List Nat) : Prop := ∃ (n : Nat) (a' : List Nat) (y : Nat), q = n ∧ a = nl a' ∧ x = y ∧ y < n ∧ Prime n ∧ (n : Int) < Top ∧ (∀ c ∈ a', c < n) ∧ a'.Nodup ∧ O.length = a'.length ∧ ∀ i, i < a'.length → WR n y a' i (O.getD i 0)
theorem Interp_R {D : Nat → Prop} (q : Int) (a b : List Int) {xa ya : Option Addr} {xk yk : Nat} {w : World} (hx : Fct.at w D (.rw (.slice xa a.length xk) a.length 1 (icl a))) (hy : Fct.at w D (.rw (.slice ya b.length yk) b.length 1 (icl b))) (hl : Laid w) (hab : a.length = b.length) (h : ChkR q a b 0) :
    Calls Tryd.prog 14 #[.int .i64 q, .slice xa a.length xk, .slice ya b.length yk] w fun e w' => (∃ L : List Nat, Hid (IpR q a b L) ∧ RetIE (fun _ => True) L 0 e w') ∧ Below w.heap.size w w' := by
  obtain ⟨n, a', b', rfl, rfl, rfl, hp, hT, hf, hlen, ha, hb, hd⟩ := ChkR0 h
  rw [nl_len] at hx hab ⊢
  rw [nl_len] at hy hab ⊢
  exact (Interpolate_ok n a' b' hx hy hl hT hp.1 hf hab hlen ha hb hd (fun k u v hk h => ItR_gcd hp ha hb hd k u v hk h)).mono fun e w' ⟨⟨u, v, g1, g2⟩, g3⟩ => ⟨⟨u, Lib.hid ⟨n, a', b', v, rfl, rfl, rfl, hp, hT, ha, hb, hd, g1.out⟩, g2⟩, g3⟩
theorem rInterp_R {D : Nat → Prop} (q : Int) (a b : List Int) {xa ya : Option Addr} {xk yk : Nat} {w : World} (hx : Fct.at w D (.rw (.slice xa a.length xk) a.length 1 (icl a))) (hy : Fct.at w D (.rw (.slice ya b.length yk) b.length 1 (icl b))) (hab : a.length = b.length) (hlen : a.length ≤ 100) {L : List Nat} (h : IpR q a b L) :
    Calls Tryd.prog 20 #[.int .i64 q, .slice xa a.length xk, .slice ya b.length yk] w fun e w' => RetI (fun _ => True) L e w' ∧ Below w.heap.size w w' := by
  obtain ⟨n, a', b', v, rfl, rfl, rfl, hp, hT, ha, hb, hd, hI⟩ := h
  rw [nl_len] at hx hab hlen ⊢
  rw [nl_len] at hy hab ⊢
  exact (rInterp_c n a' b' hx hy hT hp.1 hab hlen ha hb (wM_gcd hp ha hd)).mono fun e w' ⟨⟨u, g1, g2⟩, g3⟩ => ⟨by rw [RIt_eq hp ha hb hd hI g1.out]; exact g2, g3⟩
theorem Weights_R {D : Nat → Prop} (q : Int) (a : List Int) (x : Int) {xa : Option Addr} {xk : Nat} {w : World} (hx : Fct.at w D (.rw (.slice xa a.length xk) a.length 1 (icl a))) (hl : Laid w) (h : ChkR q a [x] 0) :
    Calls Tryd.prog 15 #[.int .i64 q, .slice xa a.length xk, .int .i64 x] w fun e w' => (∃ O : List Nat, Hid (WtR q a x O) ∧ RetIE (fun _ => True) O 0 e w') ∧ Below w.heap.size w w' := by
  obtain ⟨n, a', b', rfl, rfl, hb1, hp, hT, hf, hlen, ha, hb, hd⟩ := ChkR0 h
  obtain ⟨y, rfl, hy⟩ : ∃ y : Nat, b' = [y] ∧ x = y := by
    rcases b' with _ | ⟨y, _ | ⟨z, t⟩⟩
    · cases hb1
    · simp [nl] at hb1; exact ⟨y, rfl, hb1⟩
    · cases hb1
  subst hy
  rw [nl_len] at hx ⊢
  exact (Weights_ok n a' y hx hl hT hp.1 hf hlen ha (Int.ofNat_lt.2 (hb y (by simp))) hd (wM_gcd hp ha hd)).mono fun e w' ⟨⟨o, g1, s, k, g2, g4⟩, g3⟩ => ⟨⟨o, Lib.hid ⟨n, a', y, rfl, rfl, rfl, hb y (by simp), hp, hT, ha, hd, g1.out.1, g1.out.2⟩, s, k, g2, Lib.hid (Rw.tr g4.out)⟩, g3⟩
theorem rWeights_R {D : Nat → Prop} (q : Int) (a : List Int) (x : Int) {xa : Option Addr} {xk : Nat} {w : World} (hx : Fct.at w D (.rw (.slice xa a.length xk) a.length 1 (icl a))) (hlen : a.length ≤ 100) {O : List Nat} (h : WtR q a x O) :
    Calls Tryd.prog 21 #[.int .i64 q, .slice xa a.length xk, .int .i64 x] w fun e w' => RetI (fun _ => True) O e w' ∧ Below w.heap.size w w' := by
  obtain ⟨n, a', y, rfl, rfl, rfl, hyn, hp, hT, ha, hd, h1, h2⟩ := h
  rw [nl_len] at hx hlen ⊢
  exact (rWeights_c n a' y hx hT hp.1 hlen ha (Int.ofNat_lt.2 hyn) (wM_gcd hp ha hd)).mono fun e w' ⟨⟨o, g1, s, k, g2, g4⟩, g3⟩ => by
    rw [WR_list ⟨h1, h2⟩ g1.out]
    exact ⟨⟨s, k, g2, Lib.hid (Rw.tr g4.out)⟩, g3⟩
theorem rTwice_R {D : Nat → Prop} (q : Int) (a : List Int) {xa : Option Addr} {xk : Nat} {w : World} (hx : Fct.at w D (.rw (.slice xa a.length xk) a.length 1 (icl a))) (hlen : a.length ≤ 1000) (hr : a.all (resB q) = true) {t : Bool} (ht : t = true ↔ ¬ a.Nodup) :
    Calls Tryd.prog 18 #[.slice xa a.length xk] w fun e w' => e = .returned (.bool t) ∧ Below w.heap.size w w' := by
  obtain ⟨a', rfl, ha⟩ := all_nl hr
  rw [nl_len] at hx hlen ⊢
  exact rTwice_c a' t hx hlen (by rw [ht, nl_nodup])
set_option maxRecDepth 100000 in
set_option maxHeartbeats 2000000 in
theorem pi_a {D : Nat → Prop} (q : Int) (a b : List Int) (x : Int) {xa ya : Option Addr} {xk yk : Nat} {w : World} (hx : Fct.at w D (.rw (.slice xa a.length xk) a.length 1 (icl a))) (hy : Fct.at w D (.rw (.slice ya b.length yk) b.length 1 (icl b))) (hDD0 : ∀ b, D b) (hl0 : Laid w) (hn : -9223372036854775808 ≤ q ∧ q ≤ 9223372036854775807) (h1 : 12 < a.length) (h2 : a.length ≤ 100) :
    Calls Tryd.prog 3 #[.int .i64 q, .slice xa a.length xk, .slice ya b.length yk, .int .i64 x] w fun e w' => e = .returned (.bool true) ∧ Below w.heap.size w w' := by
  have E0 : Hid (Env D w [] [.rw (.slice ya b.length yk) b.length 1 (icl b), .rw (.slice xa a.length xk) a.length 1 (icl a)] w) := Lib.hid (((Env.start D w).arg (.rw (.slice xa a.length xk) a.length 1 (icl a)) hx).arg (.rw (.slice ya b.length yk) b.length 1 (icl b)) hy)
  clear hx hy
  go_enter Tryd.func3, Tryd.ntmps3
  have HN := Lib.hid hn
  have hDD := Lib.hid hDD0
  have hl := Lib.hid hl0
  clear hDD0 hl0
  go_wp2_with fail
  refine (awake13_c (hl.out.below E0.out.bel)).mono ?_
  rintro e w1 ⟨rfl, hb⟩
  have E1 : Hid (Env D w [] [.rw (.slice ya b.length yk) b.length 1 (icl b), .rw (.slice xa a.length xk) a.length 1 (icl a)] w1) := Lib.hid (E0.out.below hb)
  clear E0 hb
  have d1 : decide ((12 : Int) < (a.length : Int)) = true := decide_eq_true (by omega)
  have d1n : decide (12 < a.length) = true := decide_eq_true (by omega)
  have d2 : decide ((a.length : Int) ≤ (100 : Int)) = true := decide_eq_true (by omega)
  have d2n : decide (a.length ≤ 100) = true := decide_eq_true (by omega)
  have hfin := Lib.hid E1.out.bel
  go_wp2
  go_ret
  exact ⟨rfl, hfin.out⟩
set_option maxRecDepth 100000 in
set_option maxHeartbeats 2000000 in
theorem pi_b {D : Nat → Prop} (q : Int) (a b : List Int) (x : Int) {xa ya : Option Addr} {xk yk : Nat} {w : World} (hx : Fct.at w D (.rw (.slice xa a.length xk) a.length 1 (icl a))) (hy : Fct.at w D (.rw (.slice ya b.length yk) b.length 1 (icl b))) (hDD0 : ∀ b, D b) (hl0 : Laid w) (hn : -9223372036854775808 ≤ q ∧ q ≤ 9223372036854775807) (h1 : 200 < a.length) :
    Calls Tryd.prog 3 #[.int .i64 q, .slice xa a.length xk, .slice ya b.length yk, .int .i64 x] w fun e w' => e = .returned (.bool true) ∧ Below w.heap.size w w' := by
  have E0 : Hid (Env D w [] [.rw (.slice ya b.length yk) b.length 1 (icl b), .rw (.slice xa a.length xk) a.length 1 (icl a)] w) := Lib.hid (((Env.start D w).arg (.rw (.slice xa a.length xk) a.length 1 (icl a)) hx).arg (.rw (.slice ya b.length yk) b.length 1 (icl b)) hy)
  clear hx hy
  go_enter Tryd.func3, Tryd.ntmps3
  have HN := Lib.hid hn
  have hDD := Lib.hid hDD0
  have hl := Lib.hid hl0
  clear hDD0 hl0
  go_wp2_with fail
  refine (awake13_c (hl.out.below E0.out.bel)).mono ?_
  rintro e w1 ⟨rfl, hb⟩
  have E1 : Hid (Env D w [] [.rw (.slice ya b.length yk) b.length 1 (icl b), .rw (.slice xa a.length xk) a.length 1 (icl a)] w1) := Lib.hid (E0.out.below hb)
  clear E0 hb
  have d1 : decide ((12 : Int) < (a.length : Int)) = true := decide_eq_true (by omega)
  have d1n : decide (12 < a.length) = true := decide_eq_true (by omega)
  have d2 : decide ((a.length : Int) ≤ (100 : Int)) = false := decide_eq_false (by omega)
  have d2n : decide (a.length ≤ 100) = false := decide_eq_false (by omega)
  have d3 : decide ((200 : Int) < (a.length : Int)) = true := decide_eq_true (by omega)
  have d3n : decide (200 < a.length) = true := decide_eq_true (by omega)
  have hfin := Lib.hid E1.out.bel
  go_wp2
  go_ret
  exact ⟨rfl, hfin.out⟩
set_option maxRecDepth 100000 in
set_option maxHeartbeats 2000000 in
theorem pi_c {D : Nat → Prop} (q : Int) (a b : List Int) (x : Int) {xa ya : Option Addr} {xk yk : Nat} {w : World} (hx : Fct.at w D (.rw (.slice xa a.length xk) a.length 1 (icl a))) (hy : Fct.at w D (.rw (.slice ya b.length yk) b.length 1 (icl b))) (hDD0 : ∀ b, D b) (hl0 : Laid w) (hn : -9223372036854775808 ≤ q ∧ q ≤ 9223372036854775807) (h1 : a.length ≤ 12) (h2 : 200 < b.length) :
    Calls Tryd.prog 3 #[.int .i64 q, .slice xa a.length xk, .slice ya b.length yk, .int .i64 x] w fun e w' => e = .returned (.bool true) ∧ Below w.heap.size w w' := by
  have E0 : Hid (Env D w [] [.rw (.slice ya b.length yk) b.length 1 (icl b), .rw (.slice xa a.length xk) a.length 1 (icl a)] w) := Lib.hid (((Env.start D w).arg (.rw (.slice xa a.length xk) a.length 1 (icl a)) hx).arg (.rw (.slice ya b.length yk) b.length 1 (icl b)) hy)
  clear hx hy
  go_enter Tryd.func3, Tryd.ntmps3
  have HN := Lib.hid hn
  have hDD := Lib.hid hDD0
  have hl := Lib.hid hl0
  clear hDD0 hl0
  go_wp2_with fail
  refine (awake13_c (hl.out.below E0.out.bel)).mono ?_
  rintro e w1 ⟨rfl, hb⟩
  have E1 : Hid (Env D w [] [.rw (.slice ya b.length yk) b.length 1 (icl b), .rw (.slice xa a.length xk) a.length 1 (icl a)] w1) := Lib.hid (E0.out.below hb)
  clear E0 hb
  have d1 : decide ((12 : Int) < (a.length : Int)) = false := decide_eq_false (by omega)
  have d1n : decide (12 < a.length) = false := decide_eq_false (by omega)
  have d3 : decide ((200 : Int) < (a.length : Int)) = false := decide_eq_false (by omega)
  have d3n : decide (200 < a.length) = false := decide_eq_false (by omega)
  have d4 : decide ((200 : Int) < (b.length : Int)) = true := decide_eq_true (by omega)
  have d4n : decide (200 < b.length) = true := decide_eq_true (by omega)
  have hfin := Lib.hid E1.out.bel
  go_wp2
  go_ret
  exact ⟨rfl, hfin.out⟩
set_option maxRecDepth 100000 in
set_option maxHeartbeats 2000000 in
theorem pi_d {D : Nat → Prop} (q : Int) (a b : List Int) (x : Int) {xa ya : Option Addr} {xk yk : Nat} {w : World} (hx : Fct.at w D (.rw (.slice xa a.length xk) a.length 1 (icl a))) (hy : Fct.at w D (.rw (.slice ya b.length yk) b.length 1 (icl b))) (hDD0 : ∀ b, D b) (hl0 : Laid w) (hn : -9223372036854775808 ≤ q ∧ q ≤ 9223372036854775807) (h0 : 100 < a.length) (h1 : a.length ≤ 200) (h2 : 200 < b.length) :
    Calls Tryd.prog 3 #[.int .i64 q, .slice xa a.length xk, .slice ya b.length yk, .int .i64 x] w fun e w' => e = .returned (.bool true) ∧ Below w.heap.size w w' := by
  have E0 : Hid (Env D w [] [.rw (.slice ya b.length yk) b.length 1 (icl b), .rw (.slice xa a.length xk) a.length 1 (icl a)] w) := Lib.hid (((Env.start D w).arg (.rw (.slice xa a.length xk) a.length 1 (icl a)) hx).arg (.rw (.slice ya b.length yk) b.length 1 (icl b)) hy)
  clear hx hy
  go_enter Tryd.func3, Tryd.ntmps3
  have HN := Lib.hid hn
  have hDD := Lib.hid hDD0
  have hl := Lib.hid hl0
  clear hDD0 hl0
  go_wp2_with fail
  refine (awake13_c (hl.out.below E0.out.bel)).mono ?_
  rintro e w1 ⟨rfl, hb⟩
  have E1 : Hid (Env D w [] [.rw (.slice ya b.length yk) b.length 1 (icl b), .rw (.slice xa a.length xk) a.length 1 (icl a)] w1) := Lib.hid (E0.out.below hb)
  clear E0 hb
  have d1 : decide ((12 : Int) < (a.length : Int)) = true := decide_eq_true (by omega)
  have d1n : decide (12 < a.length) = true := decide_eq_true (by omega)
  have d2 : decide ((a.length : Int) ≤ (100 : Int)) = false := decide_eq_false (by omega)
  have d2n : decide (a.length ≤ 100) = false := decide_eq_false (by omega)
  have d3 : decide ((200 : Int) < (a.length : Int)) = false := decide_eq_false (by omega)
  have d3n : decide (200 < a.length) = false := decide_eq_false (by omega)
  have d4 : decide ((200 : Int) < (b.length : Int)) = true := decide_eq_true (by omega)
  have d4n : decide (200 < b.length) = true := decide_eq_true (by omega)
  have hfin := Lib.hid E1.out.bel
  go_wp2
  go_ret
  exact ⟨rfl, hfin.out⟩
theorem IpR_len {q : Int} {a b : List Int} {L : List Nat} (h : IpR q a b L) (hl : a.length ≤ 200) : L.length ≤ 1000000 := by
  obtain ⟨n, a', b', v, rfl, rfl, rfl, hp, hT, ha, hb, hd, hI⟩ := h
  rw [nl_len] at hl
  have := (ItR_len hp.1 hI).1.1
  omega
theorem WtR_len {q : Int} {a : List Int} {x : Int} {O : List Nat} (h : WtR q a x O) (hl : a.length ≤ 200) : O.length ≤ 1000000 := by
  obtain ⟨n, a', y, rfl, rfl, rfl, hyn, hp, hT, ha, hd, h1, h2⟩ := h
  rw [nl_len] at hl
  omega
set_option maxRecDepth 100000 in
set_option maxHeartbeats 2000000 in
theorem pi_FE {D : Nat → Prop} (q : Int) (a b : List Int) (x : Int) {xa ya : Option Addr} {xk yk : Nat} {w : World} (hx : Fct.at w D (.rw (.slice xa a.length xk) a.length 1 (icl a))) (hy : Fct.at w D (.rw (.slice ya b.length yk) b.length 1 (icl b))) (hDD0 : ∀ b, D b) (hl0 : Laid w) (hn : -9223372036854775808 ≤ q ∧ q ≤ 9223372036854775807) (h1 : a.length ≤ 12) (h2 : b.length ≤ 200) (hf0 : fieldB q = false) (he0 : IErr q a b 1) (hw0 : ChkR q a [x] 1)  :
    Calls Tryd.prog 3 #[.int .i64 q, .slice xa a.length xk, .slice ya b.length yk, .int .i64 x] w fun e w' => e = .returned (.bool true) ∧ Below w.heap.size w w' := by
  have E0 : Hid (Env D w [] [.rw (.slice ya b.length yk) b.length 1 (icl b), .rw (.slice xa a.length xk) a.length 1 (icl a)] w) := Lib.hid (((Env.start D w).arg (.rw (.slice xa a.length xk) a.length 1 (icl a)) hx).arg (.rw (.slice ya b.length yk) b.length 1 (icl b)) hy)
  clear hx hy
  go_enter Tryd.func3, Tryd.ntmps3
  have HN := Lib.hid hn
  have hDD := Lib.hid hDD0
  have hl := Lib.hid hl0
  have hf := Lib.hid hf0
  have he := Lib.hid he0
  have hw := Lib.hid hw0
  clear hDD0 hl0 hf0 he0 hw0
  go_wp2_with fail
  refine (awake13_c (hl.out.below E0.out.bel)).mono ?_
  rintro e w1 ⟨rfl, hb⟩
  have E1 : Hid (Env D w [] [.rw (.slice ya b.length yk) b.length 1 (icl b), .rw (.slice xa a.length xk) a.length 1 (icl a)] w1) := Lib.hid (E0.out.below hb)
  clear E0 hb
  have d1 : decide ((12 : Int) < (a.length : Int)) = false := decide_eq_false (by omega)
  have d1n : decide (12 < a.length) = false := decide_eq_false (by omega)
  have d3 : decide ((200 : Int) < (a.length : Int)) = false := decide_eq_false (by omega)
  have d3n : decide (200 < a.length) = false := decide_eq_false (by omega)
  have d4 : decide ((200 : Int) < (b.length : Int)) = false := decide_eq_false (by omega)
  have d4n : decide (200 < b.length) = false := decide_eq_false (by omega)
  go_wp2_with fail
  refine (Interp_E q a b (E1.out.fc 1 rfl) (E1.out.fc 0 rfl) (hl.out.below E1.out.bel) HN.out (by omega) he.out).mono ?_
  rintro e w2 ⟨rfl, hb⟩
  have E2 : Hid (Env D w [] [.rw (.slice ya b.length yk) b.length 1 (icl b), .rw (.slice xa a.length xk) a.length 1 (icl a)] w2) := Lib.hid (E1.out.below hb)
  clear E1 hb
  go_wp2_with fail
  refine (Weights_err q a x (E2.out.fc 1 rfl) (hl.out.below E2.out.bel) HN.out (by decide) hw.out).mono ?_
  rintro e w3 ⟨rfl, hb⟩
  have E3 : Hid (Env D w [] [.rw (.slice ya b.length yk) b.length 1 (icl b), .rw (.slice xa a.length xk) a.length 1 (icl a)] w3) := Lib.hid (E2.out.below hb)
  clear E2 hb
  go_wp2_with fail
  refine (rField_c q _ HN.out.1 hf.out).mono ?_
  rintro e w4 ⟨rfl, hb⟩
  have E4 : Hid (Env D w [] [.rw (.slice ya b.length yk) b.length 1 (icl b), .rw (.slice xa a.length xk) a.length 1 (icl a)] w4) := Lib.hid (E3.out.below hb)
  clear E3 hb
  have hfin := Lib.hid E4.out.bel
  go_wp2
  go_ret
  exact ⟨rfl, hfin.out⟩
set_option maxRecDepth 100000 in
set_option maxHeartbeats 2000000 in
theorem pi_FEb {D : Nat → Prop} (q : Int) (a b : List Int) (x : Int) {xa ya : Option Addr} {xk yk : Nat} {w : World} (hx : Fct.at w D (.rw (.slice xa a.length xk) a.length 1 (icl a))) (hy : Fct.at w D (.rw (.slice ya b.length yk) b.length 1 (icl b))) (hDD0 : ∀ b, D b) (hl0 : Laid w) (hn : -9223372036854775808 ≤ q ∧ q ≤ 9223372036854775807) (h0 : 100 < a.length) (h1 : a.length ≤ 200) (h2 : b.length ≤ 200) (hf0 : fieldB q = false) (he0 : IErr q a b 1) (hw0 : ChkR q a [x] 1)  :
    Calls Tryd.prog 3 #[.int .i64 q, .slice xa a.length xk, .slice ya b.length yk, .int .i64 x] w fun e w' => e = .returned (.bool true) ∧ Below w.heap.size w w' := by
  have E0 : Hid (Env D w [] [.rw (.slice ya b.length yk) b.length 1 (icl b), .rw (.slice xa a.length xk) a.length 1 (icl a)] w) := Lib.hid (((Env.start D w).arg (.rw (.slice xa a.length xk) a.length 1 (icl a)) hx).arg (.rw (.slice ya b.length yk) b.length 1 (icl b)) hy)
  clear hx hy
  go_enter Tryd.func3, Tryd.ntmps3
  have HN := Lib.hid hn
  have hDD := Lib.hid hDD0
  have hl := Lib.hid hl0
  have hf := Lib.hid hf0
  have he := Lib.hid he0
  have hw := Lib.hid hw0
  clear hDD0 hl0 hf0 he0 hw0
  go_wp2_with fail
  refine (awake13_c (hl.out.below E0.out.bel)).mono ?_
  rintro e w1 ⟨rfl, hb⟩
  have E1 : Hid (Env D w [] [.rw (.slice ya b.length yk) b.length 1 (icl b), .rw (.slice xa a.length xk) a.length 1 (icl a)] w1) := Lib.hid (E0.out.below hb)
  clear E0 hb
  have d1 : decide ((12 : Int) < (a.length : Int)) = true := decide_eq_true (by omega)
  have d1n : decide (12 < a.length) = true := decide_eq_true (by omega)
  have d2 : decide ((a.length : Int) ≤ (100 : Int)) = false := decide_eq_false (by omega)
  have d2n : decide (a.length ≤ 100) = false := decide_eq_false (by omega)
  have d3 : decide ((200 : Int) < (a.length : Int)) = false := decide_eq_false (by omega)
  have d3n : decide (200 < a.length) = false := decide_eq_false (by omega)
  have d4 : decide ((200 : Int) < (b.length : Int)) = false := decide_eq_false (by omega)
  have d4n : decide (200 < b.length) = false := decide_eq_false (by omega)
  go_wp2_with fail
  refine (Interp_E q a b (E1.out.fc 1 rfl) (E1.out.fc 0 rfl) (hl.out.below E1.out.bel) HN.out (by omega) he.out).mono ?_
  rintro e w2 ⟨rfl, hb⟩
  have E2 : Hid (Env D w [] [.rw (.slice ya b.length yk) b.length 1 (icl b), .rw (.slice xa a.length xk) a.length 1 (icl a)] w2) := Lib.hid (E1.out.below hb)
  clear E1 hb
  go_wp2_with fail
  refine (Weights_err q a x (E2.out.fc 1 rfl) (hl.out.below E2.out.bel) HN.out (by decide) hw.out).mono ?_
  rintro e w3 ⟨rfl, hb⟩
  have E3 : Hid (Env D w [] [.rw (.slice ya b.length yk) b.length 1 (icl b), .rw (.slice xa a.length xk) a.length 1 (icl a)] w3) := Lib.hid (E2.out.below hb)
  clear E2 hb
  go_wp2_with fail
  refine (rField_c q _ HN.out.1 hf.out).mono ?_
  rintro e w4 ⟨rfl, hb⟩
  have E4 : Hid (Env D w [] [.rw (.slice ya b.length yk) b.length 1 (icl b), .rw (.slice xa a.length xk) a.length 1 (icl a)] w4) := Lib.hid (E3.out.below hb)
  clear E3 hb
  have hfin := Lib.hid E4.out.bel
  go_wp2
  go_ret
  exact ⟨rfl, hfin.out⟩
set_option maxRecDepth 100000 in
set_option maxHeartbeats 2000000 in
theorem pi_LEb {D : Nat → Prop} (q : Int) (a b : List Int) (x : Int) {xa ya : Option Addr} {xk yk : Nat} {w : World} (hx : Fct.at w D (.rw (.slice xa a.length xk) a.length 1 (icl a))) (hy : Fct.at w D (.rw (.slice ya b.length yk) b.length 1 (icl b))) (hDD0 : ∀ b, D b) (hl0 : Laid w) (hn : -9223372036854775808 ≤ q ∧ q ≤ 9223372036854775807) (h0 : 100 < a.length) (h1 : a.length ≤ 200) (h2 : b.length ≤ 200) (hf0 : fieldB q = true) (he0 : IErr q a b 1) (hw0 : ChkR q a [x] 1)  :
    Calls Tryd.prog 3 #[.int .i64 q, .slice xa a.length xk, .slice ya b.length yk, .int .i64 x] w fun e w' => e = .returned (.bool true) ∧ Below w.heap.size w w' := by
  have E0 : Hid (Env D w [] [.rw (.slice ya b.length yk) b.length 1 (icl b), .rw (.slice xa a.length xk) a.length 1 (icl a)] w) := Lib.hid (((Env.start D w).arg (.rw (.slice xa a.length xk) a.length 1 (icl a)) hx).arg (.rw (.slice ya b.length yk) b.length 1 (icl b)) hy)
  clear hx hy
  go_enter Tryd.func3, Tryd.ntmps3
  have HN := Lib.hid hn
  have hDD := Lib.hid hDD0
  have hl := Lib.hid hl0
  have hf := Lib.hid hf0
  have he := Lib.hid he0
  have hw := Lib.hid hw0
  clear hDD0 hl0 hf0 he0 hw0
  go_wp2_with fail
  refine (awake13_c (hl.out.below E0.out.bel)).mono ?_
  rintro e w1 ⟨rfl, hb⟩
  have E1 : Hid (Env D w [] [.rw (.slice ya b.length yk) b.length 1 (icl b), .rw (.slice xa a.length xk) a.length 1 (icl a)] w1) := Lib.hid (E0.out.below hb)
  clear E0 hb
  have d1 : decide ((12 : Int) < (a.length : Int)) = true := decide_eq_true (by omega)
  have d1n : decide (12 < a.length) = true := decide_eq_true (by omega)
  have d2 : decide ((a.length : Int) ≤ (100 : Int)) = false := decide_eq_false (by omega)
  have d2n : decide (a.length ≤ 100) = false := decide_eq_false (by omega)
  have d3 : decide ((200 : Int) < (a.length : Int)) = false := decide_eq_false (by omega)
  have d3n : decide (200 < a.length) = false := decide_eq_false (by omega)
  have d4 : decide ((200 : Int) < (b.length : Int)) = false := decide_eq_false (by omega)
  have d4n : decide (200 < b.length) = false := decide_eq_false (by omega)
  go_wp2_with fail
  refine (Interp_E q a b (E1.out.fc 1 rfl) (E1.out.fc 0 rfl) (hl.out.below E1.out.bel) HN.out (by omega) he.out).mono ?_
  rintro e w2 ⟨rfl, hb⟩
  have E2 : Hid (Env D w [] [.rw (.slice ya b.length yk) b.length 1 (icl b), .rw (.slice xa a.length xk) a.length 1 (icl a)] w2) := Lib.hid (E1.out.below hb)
  clear E1 hb
  go_wp2_with fail
  refine (Weights_err q a x (E2.out.fc 1 rfl) (hl.out.below E2.out.bel) HN.out (by decide) hw.out).mono ?_
  rintro e w3 ⟨rfl, hb⟩
  have E3 : Hid (Env D w [] [.rw (.slice ya b.length yk) b.length 1 (icl b), .rw (.slice xa a.length xk) a.length 1 (icl a)] w3) := Lib.hid (E2.out.below hb)
  clear E2 hb
  have d5 : decide ((100 : Int) < (a.length : Int)) = true := decide_eq_true (by omega)
  have d5n : decide (100 < a.length) = true := decide_eq_true (by omega)
  go_wp2_with fail
  refine (rField_c q _ HN.out.1 hf.out).mono ?_
  rintro e w4 ⟨rfl, hb⟩
  have E4 : Hid (Env D w [] [.rw (.slice ya b.length yk) b.length 1 (icl b), .rw (.slice xa a.length xk) a.length 1 (icl a)] w4) := Lib.hid (E3.out.below hb)
  clear E3 hb
  have hfin := Lib.hid E4.out.bel
  go_wp2
  go_ret
  exact ⟨rfl, hfin.out⟩
set_option maxRecDepth 100000 in
set_option maxHeartbeats 2000000 in
theorem pi_RN {D : Nat → Prop} (q : Int) (a b : List Int) (x : Int) {xa ya : Option Addr} {xk yk : Nat} {w : World} (hx : Fct.at w D (.rw (.slice xa a.length xk) a.length 1 (icl a))) (hy : Fct.at w D (.rw (.slice ya b.length yk) b.length 1 (icl b))) (hDD0 : ∀ b, D b) (hl0 : Laid w) (hn : -9223372036854775808 ≤ q ∧ q ≤ 9223372036854775807) (h1 : a.length ≤ 12) (h2 : b.length ≤ 200) (hf0 : fieldB q = true) (hr0 : a.all (resB q) = false) (hab0 : a.length ≠ b.length) (he0 : IErr q a b 1) (hw0 : ChkR q a [x] 2)  :
    Calls Tryd.prog 3 #[.int .i64 q, .slice xa a.length xk, .slice ya b.length yk, .int .i64 x] w fun e w' => e = .returned (.bool true) ∧ Below w.heap.size w w' := by
  have E0 : Hid (Env D w [] [.rw (.slice ya b.length yk) b.length 1 (icl b), .rw (.slice xa a.length xk) a.length 1 (icl a)] w) := Lib.hid (((Env.start D w).arg (.rw (.slice xa a.length xk) a.length 1 (icl a)) hx).arg (.rw (.slice ya b.length yk) b.length 1 (icl b)) hy)
  clear hx hy
  go_enter Tryd.func3, Tryd.ntmps3
  have HN := Lib.hid hn
  have hDD := Lib.hid hDD0
  have hl := Lib.hid hl0
  have hf := Lib.hid hf0
  have hr := Lib.hid hr0
  have hab := Lib.hid hab0
  have he := Lib.hid he0
  have hw := Lib.hid hw0
  clear hDD0 hl0 hf0 hr0 hab0 he0 hw0
  go_wp2_with fail
  refine (awake13_c (hl.out.below E0.out.bel)).mono ?_
  rintro e w1 ⟨rfl, hb⟩
  have E1 : Hid (Env D w [] [.rw (.slice ya b.length yk) b.length 1 (icl b), .rw (.slice xa a.length xk) a.length 1 (icl a)] w1) := Lib.hid (E0.out.below hb)
  clear E0 hb
  have d1 : decide ((12 : Int) < (a.length : Int)) = false := decide_eq_false (by omega)
  have d1n : decide (12 < a.length) = false := decide_eq_false (by omega)
  have d3 : decide ((200 : Int) < (a.length : Int)) = false := decide_eq_false (by omega)
  have d3n : decide (200 < a.length) = false := decide_eq_false (by omega)
  have d4 : decide ((200 : Int) < (b.length : Int)) = false := decide_eq_false (by omega)
  have d4n : decide (200 < b.length) = false := decide_eq_false (by omega)
  go_wp2_with fail
  refine (Interp_E q a b (E1.out.fc 1 rfl) (E1.out.fc 0 rfl) (hl.out.below E1.out.bel) HN.out (by omega) he.out).mono ?_
  rintro e w2 ⟨rfl, hb⟩
  have E2 : Hid (Env D w [] [.rw (.slice ya b.length yk) b.length 1 (icl b), .rw (.slice xa a.length xk) a.length 1 (icl a)] w2) := Lib.hid (E1.out.below hb)
  clear E1 hb
  go_wp2_with fail
  refine (Weights_err q a x (E2.out.fc 1 rfl) (hl.out.below E2.out.bel) HN.out (by decide) hw.out).mono ?_
  rintro e w3 ⟨rfl, hb⟩
  have E3 : Hid (Env D w [] [.rw (.slice ya b.length yk) b.length 1 (icl b), .rw (.slice xa a.length xk) a.length 1 (icl a)] w3) := Lib.hid (E2.out.below hb)
  clear E2 hb
  have d5 : decide ((100 : Int) < (a.length : Int)) = false := decide_eq_false (by omega)
  have d5n : decide (100 < a.length) = false := decide_eq_false (by omega)
  go_wp2_with fail
  refine (rField_c q _ HN.out.1 hf.out).mono ?_
  rintro e w4 ⟨rfl, hb⟩
  have E4 : Hid (Env D w [] [.rw (.slice ya b.length yk) b.length 1 (icl b), .rw (.slice xa a.length xk) a.length 1 (icl a)] w4) := Lib.hid (E3.out.below hb)
  clear E3 hb
  go_wp2_with fail
  refine (rResidues_c q a (E4.out.fc 1 rfl) hr.out (by omega)).mono ?_
  rintro e w5 ⟨rfl, hb⟩
  have E5 : Hid (Env D w [] [.rw (.slice ya b.length yk) b.length 1 (icl b), .rw (.slice xa a.length xk) a.length 1 (icl a)] w5) := Lib.hid (E4.out.below hb)
  clear E4 hb
  have m1 : ((a.length : Int) != (b.length : Int)) = true := by have := hab.out; rw [bne_iff_ne]; omega
  have m2 : (a.length != b.length) = true := by have := hab.out; rw [bne_iff_ne]; exact this
  have hfin := Lib.hid E5.out.bel
  go_wp2
  go_ret
  exact ⟨rfl, hfin.out⟩
set_option maxRecDepth 100000 in
set_option maxHeartbeats 2000000 in
theorem pi_RRx {D : Nat → Prop} (q : Int) (a b : List Int) (x : Int) {xa ya : Option Addr} {xk yk : Nat} {w : World} (hx : Fct.at w D (.rw (.slice xa a.length xk) a.length 1 (icl a))) (hy : Fct.at w D (.rw (.slice ya b.length yk) b.length 1 (icl b))) (hDD0 : ∀ b, D b) (hl0 : Laid w) (hn : -9223372036854775808 ≤ q ∧ q ≤ 9223372036854775807) (h1 : a.length ≤ 12) (h2 : b.length ≤ 200) (hf0 : fieldB q = true) (hr0 : a.all (resB q) = false) (hab0 : a.length = b.length) (he0 : IErr q a b 2) (hw0 : ChkR q a [x] 2)  :
    Calls Tryd.prog 3 #[.int .i64 q, .slice xa a.length xk, .slice ya b.length yk, .int .i64 x] w fun e w' => e = .returned (.bool true) ∧ Below w.heap.size w w' := by
  have E0 : Hid (Env D w [] [.rw (.slice ya b.length yk) b.length 1 (icl b), .rw (.slice xa a.length xk) a.length 1 (icl a)] w) := Lib.hid (((Env.start D w).arg (.rw (.slice xa a.length xk) a.length 1 (icl a)) hx).arg (.rw (.slice ya b.length yk) b.length 1 (icl b)) hy)
  clear hx hy
  go_enter Tryd.func3, Tryd.ntmps3
  have HN := Lib.hid hn
  have hDD := Lib.hid hDD0
  have hl := Lib.hid hl0
  have hf := Lib.hid hf0
  have hr := Lib.hid hr0
  have hab := Lib.hid hab0
  have he := Lib.hid he0
  have hw := Lib.hid hw0
  clear hDD0 hl0 hf0 hr0 hab0 he0 hw0
  go_wp2_with fail
  refine (awake13_c (hl.out.below E0.out.bel)).mono ?_
  rintro e w1 ⟨rfl, hb⟩
  have E1 : Hid (Env D w [] [.rw (.slice ya b.length yk) b.length 1 (icl b), .rw (.slice xa a.length xk) a.length 1 (icl a)] w1) := Lib.hid (E0.out.below hb)
  clear E0 hb
  have d1 : decide ((12 : Int) < (a.length : Int)) = false := decide_eq_false (by omega)
  have d1n : decide (12 < a.length) = false := decide_eq_false (by omega)
  have d3 : decide ((200 : Int) < (a.length : Int)) = false := decide_eq_false (by omega)
  have d3n : decide (200 < a.length) = false := decide_eq_false (by omega)
  have d4 : decide ((200 : Int) < (b.length : Int)) = false := decide_eq_false (by omega)
  have d4n : decide (200 < b.length) = false := decide_eq_false (by omega)
  go_wp2_with fail
  refine (Interp_E q a b (E1.out.fc 1 rfl) (E1.out.fc 0 rfl) (hl.out.below E1.out.bel) HN.out (by omega) he.out).mono ?_
  rintro e w2 ⟨rfl, hb⟩
  have E2 : Hid (Env D w [] [.rw (.slice ya b.length yk) b.length 1 (icl b), .rw (.slice xa a.length xk) a.length 1 (icl a)] w2) := Lib.hid (E1.out.below hb)
  clear E1 hb
  go_wp2_with fail
  refine (Weights_err q a x (E2.out.fc 1 rfl) (hl.out.below E2.out.bel) HN.out (by decide) hw.out).mono ?_
  rintro e w3 ⟨rfl, hb⟩
  have E3 : Hid (Env D w [] [.rw (.slice ya b.length yk) b.length 1 (icl b), .rw (.slice xa a.length xk) a.length 1 (icl a)] w3) := Lib.hid (E2.out.below hb)
  clear E2 hb
  have d5 : decide ((100 : Int) < (a.length : Int)) = false := decide_eq_false (by omega)
  have d5n : decide (100 < a.length) = false := decide_eq_false (by omega)
  go_wp2_with fail
  refine (rField_c q _ HN.out.1 hf.out).mono ?_
  rintro e w4 ⟨rfl, hb⟩
  have E4 : Hid (Env D w [] [.rw (.slice ya b.length yk) b.length 1 (icl b), .rw (.slice xa a.length xk) a.length 1 (icl a)] w4) := Lib.hid (E3.out.below hb)
  clear E3 hb
  go_wp2_with fail
  refine (rResidues_c q a (E4.out.fc 1 rfl) hr.out (by omega)).mono ?_
  rintro e w5 ⟨rfl, hb⟩
  have E5 : Hid (Env D w [] [.rw (.slice ya b.length yk) b.length 1 (icl b), .rw (.slice xa a.length xk) a.length 1 (icl a)] w5) := Lib.hid (E4.out.below hb)
  clear E4 hb
  have m1 : ((a.length : Int) != (b.length : Int)) = false := by rw [hab.out]; simp
  have m2 : (a.length != b.length) = false := by rw [hab.out]; simp
  go_wp2_with fail
  refine (rResidues_c q a (E5.out.fc 1 rfl) hr.out (by omega)).mono ?_
  rintro e w6 ⟨rfl, hb⟩
  have E6 : Hid (Env D w [] [.rw (.slice ya b.length yk) b.length 1 (icl b), .rw (.slice xa a.length xk) a.length 1 (icl a)] w6) := Lib.hid (E5.out.below hb)
  clear E5 hb
  have hfin := Lib.hid E6.out.bel
  go_wp2
  go_ret
  exact ⟨rfl, hfin.out⟩
set_option maxRecDepth 100000 in
set_option maxHeartbeats 2000000 in
theorem pi_xnN {D : Nat → Prop} (q : Int) (a b : List Int) (x : Int) {xa ya : Option Addr} {xk yk : Nat} {w : World} (hx : Fct.at w D (.rw (.slice xa a.length xk) a.length 1 (icl a))) (hy : Fct.at w D (.rw (.slice ya b.length yk) b.length 1 (icl b))) (hDD0 : ∀ b, D b) (hl0 : Laid w) (hn : -9223372036854775808 ≤ q ∧ q ≤ 9223372036854775807) (h1 : a.length ≤ 12) (h2 : b.length ≤ 200) (hf0 : fieldB q = true) (hr0 : a.all (resB q) = true) (hxn : x < 0) (hab0 : a.length ≠ b.length) (he0 : IErr q a b 1) (hw0 : ChkR q a [x] 2)  :
    Calls Tryd.prog 3 #[.int .i64 q, .slice xa a.length xk, .slice ya b.length yk, .int .i64 x] w fun e w' => e = .returned (.bool true) ∧ Below w.heap.size w w' := by
  have E0 : Hid (Env D w [] [.rw (.slice ya b.length yk) b.length 1 (icl b), .rw (.slice xa a.length xk) a.length 1 (icl a)] w) := Lib.hid (((Env.start D w).arg (.rw (.slice xa a.length xk) a.length 1 (icl a)) hx).arg (.rw (.slice ya b.length yk) b.length 1 (icl b)) hy)
  clear hx hy
  go_enter Tryd.func3, Tryd.ntmps3
  have HN := Lib.hid hn
  have hDD := Lib.hid hDD0
  have hl := Lib.hid hl0
  have hf := Lib.hid hf0
  have hr := Lib.hid hr0
  have hab := Lib.hid hab0
  have he := Lib.hid he0
  have hw := Lib.hid hw0
  clear hDD0 hl0 hf0 hr0 hab0 he0 hw0
  go_wp2_with fail
  refine (awake13_c (hl.out.below E0.out.bel)).mono ?_
  rintro e w1 ⟨rfl, hb⟩
  have E1 : Hid (Env D w [] [.rw (.slice ya b.length yk) b.length 1 (icl b), .rw (.slice xa a.length xk) a.length 1 (icl a)] w1) := Lib.hid (E0.out.below hb)
  clear E0 hb
  have d1 : decide ((12 : Int) < (a.length : Int)) = false := decide_eq_false (by omega)
  have d1n : decide (12 < a.length) = false := decide_eq_false (by omega)
  have d3 : decide ((200 : Int) < (a.length : Int)) = false := decide_eq_false (by omega)
  have d3n : decide (200 < a.length) = false := decide_eq_false (by omega)
  have d4 : decide ((200 : Int) < (b.length : Int)) = false := decide_eq_false (by omega)
  have d4n : decide (200 < b.length) = false := decide_eq_false (by omega)
  go_wp2_with fail
  refine (Interp_E q a b (E1.out.fc 1 rfl) (E1.out.fc 0 rfl) (hl.out.below E1.out.bel) HN.out (by omega) he.out).mono ?_
  rintro e w2 ⟨rfl, hb⟩
  have E2 : Hid (Env D w [] [.rw (.slice ya b.length yk) b.length 1 (icl b), .rw (.slice xa a.length xk) a.length 1 (icl a)] w2) := Lib.hid (E1.out.below hb)
  clear E1 hb
  go_wp2_with fail
  refine (Weights_err q a x (E2.out.fc 1 rfl) (hl.out.below E2.out.bel) HN.out (by decide) hw.out).mono ?_
  rintro e w3 ⟨rfl, hb⟩
  have E3 : Hid (Env D w [] [.rw (.slice ya b.length yk) b.length 1 (icl b), .rw (.slice xa a.length xk) a.length 1 (icl a)] w3) := Lib.hid (E2.out.below hb)
  clear E2 hb
  have d5 : decide ((100 : Int) < (a.length : Int)) = false := decide_eq_false (by omega)
  have d5n : decide (100 < a.length) = false := decide_eq_false (by omega)
  go_wp2_with fail
  refine (rField_c q _ HN.out.1 hf.out).mono ?_
  rintro e w4 ⟨rfl, hb⟩
  have E4 : Hid (Env D w [] [.rw (.slice ya b.length yk) b.length 1 (icl b), .rw (.slice xa a.length xk) a.length 1 (icl a)] w4) := Lib.hid (E3.out.below hb)
  clear E3 hb
  have dx : decide (x < 0) = true := decide_eq_true hxn
  go_wp2_with fail
  refine (rResidues_c q a (E4.out.fc 1 rfl) hr.out (by omega)).mono ?_
  rintro e w5 ⟨rfl, hb⟩
  have E5 : Hid (Env D w [] [.rw (.slice ya b.length yk) b.length 1 (icl b), .rw (.slice xa a.length xk) a.length 1 (icl a)] w5) := Lib.hid (E4.out.below hb)
  clear E4 hb
  have m1 : ((a.length : Int) != (b.length : Int)) = true := by have := hab.out; rw [bne_iff_ne]; omega
  have m2 : (a.length != b.length) = true := by have := hab.out; rw [bne_iff_ne]; exact this
  have hfin := Lib.hid E5.out.bel
  go_wp2
  go_ret
  exact ⟨rfl, hfin.out⟩
set_option maxRecDepth 100000 in
set_option maxHeartbeats 2000000 in
theorem pi_xnRy {D : Nat → Prop} (q : Int) (a b : List Int) (x : Int) {xa ya : Option Addr} {xk yk : Nat} {w : World} (hx : Fct.at w D (.rw (.slice xa a.length xk) a.length 1 (icl a))) (hy : Fct.at w D (.rw (.slice ya b.length yk) b.length 1 (icl b))) (hDD0 : ∀ b, D b) (hl0 : Laid w) (hn : -9223372036854775808 ≤ q ∧ q ≤ 9223372036854775807) (h1 : a.length ≤ 12) (h2 : b.length ≤ 200) (hf0 : fieldB q = true) (hr0 : a.all (resB q) = true) (hxn : x < 0) (hab0 : a.length = b.length) (hs0 : b.all (resB q) = false) (he0 : IErr q a b 2) (hw0 : ChkR q a [x] 2)  :
    Calls Tryd.prog 3 #[.int .i64 q, .slice xa a.length xk, .slice ya b.length yk, .int .i64 x] w fun e w' => e = .returned (.bool true) ∧ Below w.heap.size w w' := by
  have E0 : Hid (Env D w [] [.rw (.slice ya b.length yk) b.length 1 (icl b), .rw (.slice xa a.length xk) a.length 1 (icl a)] w) := Lib.hid (((Env.start D w).arg (.rw (.slice xa a.length xk) a.length 1 (icl a)) hx).arg (.rw (.slice ya b.length yk) b.length 1 (icl b)) hy)
  clear hx hy
  go_enter Tryd.func3, Tryd.ntmps3
  have HN := Lib.hid hn
  have hDD := Lib.hid hDD0
  have hl := Lib.hid hl0
  have hf := Lib.hid hf0
  have hr := Lib.hid hr0
  have hab := Lib.hid hab0
  have hs := Lib.hid hs0
  have he := Lib.hid he0
  have hw := Lib.hid hw0
  clear hDD0 hl0 hf0 hr0 hab0 hs0 he0 hw0
  go_wp2_with fail
  refine (awake13_c (hl.out.below E0.out.bel)).mono ?_
  rintro e w1 ⟨rfl, hb⟩
  have E1 : Hid (Env D w [] [.rw (.slice ya b.length yk) b.length 1 (icl b), .rw (.slice xa a.length xk) a.length 1 (icl a)] w1) := Lib.hid (E0.out.below hb)
  clear E0 hb
  have d1 : decide ((12 : Int) < (a.length : Int)) = false := decide_eq_false (by omega)
  have d1n : decide (12 < a.length) = false := decide_eq_false (by omega)
  have d3 : decide ((200 : Int) < (a.length : Int)) = false := decide_eq_false (by omega)
  have d3n : decide (200 < a.length) = false := decide_eq_false (by omega)
  have d4 : decide ((200 : Int) < (b.length : Int)) = false := decide_eq_false (by omega)
  have d4n : decide (200 < b.length) = false := decide_eq_false (by omega)
  go_wp2_with fail
  refine (Interp_E q a b (E1.out.fc 1 rfl) (E1.out.fc 0 rfl) (hl.out.below E1.out.bel) HN.out (by omega) he.out).mono ?_
  rintro e w2 ⟨rfl, hb⟩
  have E2 : Hid (Env D w [] [.rw (.slice ya b.length yk) b.length 1 (icl b), .rw (.slice xa a.length xk) a.length 1 (icl a)] w2) := Lib.hid (E1.out.below hb)
  clear E1 hb
  go_wp2_with fail
  refine (Weights_err q a x (E2.out.fc 1 rfl) (hl.out.below E2.out.bel) HN.out (by decide) hw.out).mono ?_
  rintro e w3 ⟨rfl, hb⟩
  have E3 : Hid (Env D w [] [.rw (.slice ya b.length yk) b.length 1 (icl b), .rw (.slice xa a.length xk) a.length 1 (icl a)] w3) := Lib.hid (E2.out.below hb)
  clear E2 hb
  have d5 : decide ((100 : Int) < (a.length : Int)) = false := decide_eq_false (by omega)
  have d5n : decide (100 < a.length) = false := decide_eq_false (by omega)
  go_wp2_with fail
  refine (rField_c q _ HN.out.1 hf.out).mono ?_
  rintro e w4 ⟨rfl, hb⟩
  have E4 : Hid (Env D w [] [.rw (.slice ya b.length yk) b.length 1 (icl b), .rw (.slice xa a.length xk) a.length 1 (icl a)] w4) := Lib.hid (E3.out.below hb)
  clear E3 hb
  have dx : decide (x < 0) = true := decide_eq_true hxn
  go_wp2_with fail
  refine (rResidues_c q a (E4.out.fc 1 rfl) hr.out (by omega)).mono ?_
  rintro e w5 ⟨rfl, hb⟩
  have E5 : Hid (Env D w [] [.rw (.slice ya b.length yk) b.length 1 (icl b), .rw (.slice xa a.length xk) a.length 1 (icl a)] w5) := Lib.hid (E4.out.below hb)
  clear E4 hb
  have m1 : ((a.length : Int) != (b.length : Int)) = false := by rw [hab.out]; simp
  have m2 : (a.length != b.length) = false := by rw [hab.out]; simp
  go_wp2_with fail
  refine (rResidues_c q a (E5.out.fc 1 rfl) hr.out (by omega)).mono ?_
  rintro e w6 ⟨rfl, hb⟩
  have E6 : Hid (Env D w [] [.rw (.slice ya b.length yk) b.length 1 (icl b), .rw (.slice xa a.length xk) a.length 1 (icl a)] w6) := Lib.hid (E5.out.below hb)
  clear E5 hb
  go_wp2_with fail
  refine (rResidues_c q b (E6.out.fc 0 rfl) hs.out (by omega)).mono ?_
  rintro e w7 ⟨rfl, hb⟩
  have E7 : Hid (Env D w [] [.rw (.slice ya b.length yk) b.length 1 (icl b), .rw (.slice xa a.length xk) a.length 1 (icl a)] w7) := Lib.hid (E6.out.below hb)
  clear E6 hb
  have hfin := Lib.hid E7.out.bel
  go_wp2
  go_ret
  exact ⟨rfl, hfin.out⟩
set_option maxRecDepth 100000 in
set_option maxHeartbeats 2000000 in
theorem pi_xnT {D : Nat → Prop} (q : Int) (a b : List Int) (x : Int) {xa ya : Option Addr} {xk yk : Nat} {w : World} (hx : Fct.at w D (.rw (.slice xa a.length xk) a.length 1 (icl a))) (hy : Fct.at w D (.rw (.slice ya b.length yk) b.length 1 (icl b))) (hDD0 : ∀ b, D b) (hl0 : Laid w) (hn : -9223372036854775808 ≤ q ∧ q ≤ 9223372036854775807) (h1 : a.length ≤ 12) (h2 : b.length ≤ 200) (hf0 : fieldB q = true) (hr0 : a.all (resB q) = true) (hxn : x < 0) (hd0 : ¬ a.Nodup) (hab0 : a.length = b.length) (hs0 : b.all (resB q) = true) (he0 : IErr q a b 8) (hw0 : ChkR q a [x] 2)  :
    Calls Tryd.prog 3 #[.int .i64 q, .slice xa a.length xk, .slice ya b.length yk, .int .i64 x] w fun e w' => e = .returned (.bool true) ∧ Below w.heap.size w w' := by
  have E0 : Hid (Env D w [] [.rw (.slice ya b.length yk) b.length 1 (icl b), .rw (.slice xa a.length xk) a.length 1 (icl a)] w) := Lib.hid (((Env.start D w).arg (.rw (.slice xa a.length xk) a.length 1 (icl a)) hx).arg (.rw (.slice ya b.length yk) b.length 1 (icl b)) hy)
  clear hx hy
  go_enter Tryd.func3, Tryd.ntmps3
  have HN := Lib.hid hn
  have hDD := Lib.hid hDD0
  have hl := Lib.hid hl0
  have hf := Lib.hid hf0
  have hr := Lib.hid hr0
  have hd := Lib.hid hd0
  have hab := Lib.hid hab0
  have hs := Lib.hid hs0
  have he := Lib.hid he0
  have hw := Lib.hid hw0
  clear hDD0 hl0 hf0 hr0 hd0 hab0 hs0 he0 hw0
  go_wp2_with fail
  refine (awake13_c (hl.out.below E0.out.bel)).mono ?_
  rintro e w1 ⟨rfl, hb⟩
  have E1 : Hid (Env D w [] [.rw (.slice ya b.length yk) b.length 1 (icl b), .rw (.slice xa a.length xk) a.length 1 (icl a)] w1) := Lib.hid (E0.out.below hb)
  clear E0 hb
  have d1 : decide ((12 : Int) < (a.length : Int)) = false := decide_eq_false (by omega)
  have d1n : decide (12 < a.length) = false := decide_eq_false (by omega)
  have d3 : decide ((200 : Int) < (a.length : Int)) = false := decide_eq_false (by omega)
  have d3n : decide (200 < a.length) = false := decide_eq_false (by omega)
  have d4 : decide ((200 : Int) < (b.length : Int)) = false := decide_eq_false (by omega)
  have d4n : decide (200 < b.length) = false := decide_eq_false (by omega)
  go_wp2_with fail
  refine (Interp_E q a b (E1.out.fc 1 rfl) (E1.out.fc 0 rfl) (hl.out.below E1.out.bel) HN.out (by omega) he.out).mono ?_
  rintro e w2 ⟨rfl, hb⟩
  have E2 : Hid (Env D w [] [.rw (.slice ya b.length yk) b.length 1 (icl b), .rw (.slice xa a.length xk) a.length 1 (icl a)] w2) := Lib.hid (E1.out.below hb)
  clear E1 hb
  go_wp2_with fail
  refine (Weights_err q a x (E2.out.fc 1 rfl) (hl.out.below E2.out.bel) HN.out (by decide) hw.out).mono ?_
  rintro e w3 ⟨rfl, hb⟩
  have E3 : Hid (Env D w [] [.rw (.slice ya b.length yk) b.length 1 (icl b), .rw (.slice xa a.length xk) a.length 1 (icl a)] w3) := Lib.hid (E2.out.below hb)
  clear E2 hb
  have d5 : decide ((100 : Int) < (a.length : Int)) = false := decide_eq_false (by omega)
  have d5n : decide (100 < a.length) = false := decide_eq_false (by omega)
  go_wp2_with fail
  refine (rField_c q _ HN.out.1 hf.out).mono ?_
  rintro e w4 ⟨rfl, hb⟩
  have E4 : Hid (Env D w [] [.rw (.slice ya b.length yk) b.length 1 (icl b), .rw (.slice xa a.length xk) a.length 1 (icl a)] w4) := Lib.hid (E3.out.below hb)
  clear E3 hb
  have dx : decide (x < 0) = true := decide_eq_true hxn
  go_wp2_with fail
  refine (rResidues_c q a (E4.out.fc 1 rfl) hr.out (by omega)).mono ?_
  rintro e w5 ⟨rfl, hb⟩
  have E5 : Hid (Env D w [] [.rw (.slice ya b.length yk) b.length 1 (icl b), .rw (.slice xa a.length xk) a.length 1 (icl a)] w5) := Lib.hid (E4.out.below hb)
  clear E4 hb
  have m1 : ((a.length : Int) != (b.length : Int)) = false := by rw [hab.out]; simp
  have m2 : (a.length != b.length) = false := by rw [hab.out]; simp
  go_wp2_with fail
  refine (rResidues_c q a (E5.out.fc 1 rfl) hr.out (by omega)).mono ?_
  rintro e w6 ⟨rfl, hb⟩
  have E6 : Hid (Env D w [] [.rw (.slice ya b.length yk) b.length 1 (icl b), .rw (.slice xa a.length xk) a.length 1 (icl a)] w6) := Lib.hid (E5.out.below hb)
  clear E5 hb
  go_wp2_with fail
  refine (rResidues_c q b (E6.out.fc 0 rfl) hs.out (by omega)).mono ?_
  rintro e w7 ⟨rfl, hb⟩
  have E7 : Hid (Env D w [] [.rw (.slice ya b.length yk) b.length 1 (icl b), .rw (.slice xa a.length xk) a.length 1 (icl a)] w7) := Lib.hid (E6.out.below hb)
  clear E6 hb
  go_wp2_with fail
  refine (rTwice_R q a (E7.out.fc 1 rfl) (by omega) hr.out (t := true) (by simp [hd.out])).mono ?_
  rintro e w8 ⟨rfl, hb⟩
  have E8 : Hid (Env D w [] [.rw (.slice ya b.length yk) b.length 1 (icl b), .rw (.slice xa a.length xk) a.length 1 (icl a)] w8) := Lib.hid (E7.out.below hb)
  clear E7 hb
  have hfin := Lib.hid E8.out.bel
  go_wp2
  go_ret
  exact ⟨rfl, hfin.out⟩
set_option maxRecDepth 100000 in
set_option maxHeartbeats 2000000 in
theorem pi_xnG {D : Nat → Prop} (q : Int) (a b : List Int) (x : Int) {xa ya : Option Addr} {xk yk : Nat} {w : World} (hx : Fct.at w D (.rw (.slice xa a.length xk) a.length 1 (icl a))) (hy : Fct.at w D (.rw (.slice ya b.length yk) b.length 1 (icl b))) (hDD0 : ∀ b, D b) (hl0 : Laid w) (hn : -9223372036854775808 ≤ q ∧ q ≤ 9223372036854775807) (h1 : a.length ≤ 12) (h2 : b.length ≤ 200) (hf0 : fieldB q = true) (hr0 : a.all (resB q) = true) (hxn : x < 0) (hd0 : a.Nodup) (hab0 : a.length = b.length) (hs0 : b.all (resB q) = true) (he0 : ChkR q a b 0) (hw0 : ChkR q a [x] 2)  :
    Calls Tryd.prog 3 #[.int .i64 q, .slice xa a.length xk, .slice ya b.length yk, .int .i64 x] w fun e w' => e = .returned (.bool true) ∧ Below w.heap.size w w' := by
  have E0 : Hid (Env D w [] [.rw (.slice ya b.length yk) b.length 1 (icl b), .rw (.slice xa a.length xk) a.length 1 (icl a)] w) := Lib.hid (((Env.start D w).arg (.rw (.slice xa a.length xk) a.length 1 (icl a)) hx).arg (.rw (.slice ya b.length yk) b.length 1 (icl b)) hy)
  clear hx hy
  go_enter Tryd.func3, Tryd.ntmps3
  have HN := Lib.hid hn
  have hDD := Lib.hid hDD0
  have hl := Lib.hid hl0
  have hf := Lib.hid hf0
  have hr := Lib.hid hr0
  have hd := Lib.hid hd0
  have hab := Lib.hid hab0
  have hs := Lib.hid hs0
  have he := Lib.hid he0
  have hw := Lib.hid hw0
  clear hDD0 hl0 hf0 hr0 hd0 hab0 hs0 he0 hw0
  go_wp2_with fail
  refine (awake13_c (hl.out.below E0.out.bel)).mono ?_
  rintro e w1 ⟨rfl, hb⟩
  have E1 : Hid (Env D w [] [.rw (.slice ya b.length yk) b.length 1 (icl b), .rw (.slice xa a.length xk) a.length 1 (icl a)] w1) := Lib.hid (E0.out.below hb)
  clear E0 hb
  have d1 : decide ((12 : Int) < (a.length : Int)) = false := decide_eq_false (by omega)
  have d1n : decide (12 < a.length) = false := decide_eq_false (by omega)
  have d3 : decide ((200 : Int) < (a.length : Int)) = false := decide_eq_false (by omega)
  have d3n : decide (200 < a.length) = false := decide_eq_false (by omega)
  have d4 : decide ((200 : Int) < (b.length : Int)) = false := decide_eq_false (by omega)
  have d4n : decide (200 < b.length) = false := decide_eq_false (by omega)
  go_wp2_with fail
  refine (Interp_R q a b (E1.out.fc 1 rfl) (E1.out.fc 0 rfl) (hl.out.below E1.out.bel) hab.out he.out).mono ?_
  rintro e w2 ⟨⟨L, HI, ra, rk, rfl, rh⟩, hb⟩
  have HLL : Hid (L.length ≤ 1000000) := Lib.hid (IpR_len HI.out (by omega))
  have E2 : Hid (Env D w [] [.rw (.slice ra L.length rk) L.length 1 (ncl L), .rw (.slice ya b.length yk) b.length 1 (icl b), .rw (.slice xa a.length xk) a.length 1 (icl a)] w2) := Lib.hid (E1.out.got (E1.out.below hb) (.rw (.slice ra L.length rk) L.length 1 (ncl L)) (Lib.hid (Rw.up hDD.out rh.out)).out)
  clear E1 hb
  go_wp2_with fail
  refine (Weights_err q a x (E2.out.fc 2 rfl) (hl.out.below E2.out.bel) HN.out (by decide) hw.out).mono ?_
  rintro e w3 ⟨rfl, hb⟩
  have E3 : Hid (Env D w [] [.rw (.slice ra L.length rk) L.length 1 (ncl L), .rw (.slice ya b.length yk) b.length 1 (icl b), .rw (.slice xa a.length xk) a.length 1 (icl a)] w3) := Lib.hid (E2.out.below hb)
  clear E2 hb
  have d5 : decide ((100 : Int) < (a.length : Int)) = false := decide_eq_false (by omega)
  have d5n : decide (100 < a.length) = false := decide_eq_false (by omega)
  go_wp2_with fail
  refine (rField_c q _ HN.out.1 hf.out).mono ?_
  rintro e w4 ⟨rfl, hb⟩
  have E4 : Hid (Env D w [] [.rw (.slice ra L.length rk) L.length 1 (ncl L), .rw (.slice ya b.length yk) b.length 1 (icl b), .rw (.slice xa a.length xk) a.length 1 (icl a)] w4) := Lib.hid (E3.out.below hb)
  clear E3 hb
  have dx : decide (x < 0) = true := decide_eq_true hxn
  go_wp2_with fail
  refine (rResidues_c q a (E4.out.fc 2 rfl) hr.out (by omega)).mono ?_
  rintro e w5 ⟨rfl, hb⟩
  have E5 : Hid (Env D w [] [.rw (.slice ra L.length rk) L.length 1 (ncl L), .rw (.slice ya b.length yk) b.length 1 (icl b), .rw (.slice xa a.length xk) a.length 1 (icl a)] w5) := Lib.hid (E4.out.below hb)
  clear E4 hb
  have m1 : ((a.length : Int) != (b.length : Int)) = false := by rw [hab.out]; simp
  have m2 : (a.length != b.length) = false := by rw [hab.out]; simp
  go_wp2_with fail
  refine (rResidues_c q a (E5.out.fc 2 rfl) hr.out (by omega)).mono ?_
  rintro e w6 ⟨rfl, hb⟩
  have E6 : Hid (Env D w [] [.rw (.slice ra L.length rk) L.length 1 (ncl L), .rw (.slice ya b.length yk) b.length 1 (icl b), .rw (.slice xa a.length xk) a.length 1 (icl a)] w6) := Lib.hid (E5.out.below hb)
  clear E5 hb
  go_wp2_with fail
  refine (rResidues_c q b (E6.out.fc 1 rfl) hs.out (by omega)).mono ?_
  rintro e w7 ⟨rfl, hb⟩
  have E7 : Hid (Env D w [] [.rw (.slice ra L.length rk) L.length 1 (ncl L), .rw (.slice ya b.length yk) b.length 1 (icl b), .rw (.slice xa a.length xk) a.length 1 (icl a)] w7) := Lib.hid (E6.out.below hb)
  clear E6 hb
  go_wp2_with fail
  refine (rTwice_R q a (E7.out.fc 2 rfl) (by omega) hr.out (t := false) (by simp [hd.out])).mono ?_
  rintro e w8 ⟨rfl, hb⟩
  have E8 : Hid (Env D w [] [.rw (.slice ra L.length rk) L.length 1 (ncl L), .rw (.slice ya b.length yk) b.length 1 (icl b), .rw (.slice xa a.length xk) a.length 1 (icl a)] w8) := Lib.hid (E7.out.below hb)
  clear E7 hb
  go_wp2_with fail
  refine (rInterp_R q a b (E8.out.fc 2 rfl) (E8.out.fc 1 rfl) hab.out (by omega) HI.out).mono ?_
  rintro e w9 ⟨⟨za, zk, rfl, zh⟩, hb⟩
  have E9 : Hid (Env D w [] [.rw (.slice ra L.length rk) L.length 1 (ncl L), .rw (.slice ya b.length yk) b.length 1 (icl b), .rw (.slice xa a.length xk) a.length 1 (icl a)] w9) := Lib.hid (E8.out.below hb)
  clear E8 hb
  go_wp2_with fail
  refine (equalN_c (t := true) (a := L) (b := L) (Rw.tr (E9.out.fc 0 rfl)) (Rw.tr zh.out) HLL.out HLL.out (by simp)).mono ?_
  rintro e w10 ⟨rfl, hb⟩
  have E10 : Hid (Env D w [] [.rw (.slice ra L.length rk) L.length 1 (ncl L), .rw (.slice ya b.length yk) b.length 1 (icl b), .rw (.slice xa a.length xk) a.length 1 (icl a)] w10) := Lib.hid (E9.out.below hb)
  clear E9 hb
  have hfin := Lib.hid E10.out.bel
  go_wp2
  go_ret
  exact ⟨rfl, hfin.out⟩
set_option maxRecDepth 100000 in
set_option maxHeartbeats 2000000 in
theorem pi_xbN {D : Nat → Prop} (q : Int) (a b : List Int) (x : Int) {xa ya : Option Addr} {xk yk : Nat} {w : World} (hx : Fct.at w D (.rw (.slice xa a.length xk) a.length 1 (icl a))) (hy : Fct.at w D (.rw (.slice ya b.length yk) b.length 1 (icl b))) (hDD0 : ∀ b, D b) (hl0 : Laid w) (hn : -9223372036854775808 ≤ q ∧ q ≤ 9223372036854775807) (h1 : a.length ≤ 12) (h2 : b.length ≤ 200) (hf0 : fieldB q = true) (hr0 : a.all (resB q) = true) (hxn : 0 ≤ x) (hxb : q ≤ x) (hab0 : a.length ≠ b.length) (he0 : IErr q a b 1) (hw0 : ChkR q a [x] 2)  :
    Calls Tryd.prog 3 #[.int .i64 q, .slice xa a.length xk, .slice ya b.length yk, .int .i64 x] w fun e w' => e = .returned (.bool true) ∧ Below w.heap.size w w' := by
  have E0 : Hid (Env D w [] [.rw (.slice ya b.length yk) b.length 1 (icl b), .rw (.slice xa a.length xk) a.length 1 (icl a)] w) := Lib.hid (((Env.start D w).arg (.rw (.slice xa a.length xk) a.length 1 (icl a)) hx).arg (.rw (.slice ya b.length yk) b.length 1 (icl b)) hy)
  clear hx hy
  go_enter Tryd.func3, Tryd.ntmps3
  have HN := Lib.hid hn
  have hDD := Lib.hid hDD0
  have hl := Lib.hid hl0
  have hf := Lib.hid hf0
  have hr := Lib.hid hr0
  have hab := Lib.hid hab0
  have he := Lib.hid he0
  have hw := Lib.hid hw0
  clear hDD0 hl0 hf0 hr0 hab0 he0 hw0
  go_wp2_with fail
  refine (awake13_c (hl.out.below E0.out.bel)).mono ?_
  rintro e w1 ⟨rfl, hb⟩
  have E1 : Hid (Env D w [] [.rw (.slice ya b.length yk) b.length 1 (icl b), .rw (.slice xa a.length xk) a.length 1 (icl a)] w1) := Lib.hid (E0.out.below hb)
  clear E0 hb
  have d1 : decide ((12 : Int) < (a.length : Int)) = false := decide_eq_false (by omega)
  have d1n : decide (12 < a.length) = false := decide_eq_false (by omega)
  have d3 : decide ((200 : Int) < (a.length : Int)) = false := decide_eq_false (by omega)
  have d3n : decide (200 < a.length) = false := decide_eq_false (by omega)
  have d4 : decide ((200 : Int) < (b.length : Int)) = false := decide_eq_false (by omega)
  have d4n : decide (200 < b.length) = false := decide_eq_false (by omega)
  go_wp2_with fail
  refine (Interp_E q a b (E1.out.fc 1 rfl) (E1.out.fc 0 rfl) (hl.out.below E1.out.bel) HN.out (by omega) he.out).mono ?_
  rintro e w2 ⟨rfl, hb⟩
  have E2 : Hid (Env D w [] [.rw (.slice ya b.length yk) b.length 1 (icl b), .rw (.slice xa a.length xk) a.length 1 (icl a)] w2) := Lib.hid (E1.out.below hb)
  clear E1 hb
  go_wp2_with fail
  refine (Weights_err q a x (E2.out.fc 1 rfl) (hl.out.below E2.out.bel) HN.out (by decide) hw.out).mono ?_
  rintro e w3 ⟨rfl, hb⟩
  have E3 : Hid (Env D w [] [.rw (.slice ya b.length yk) b.length 1 (icl b), .rw (.slice xa a.length xk) a.length 1 (icl a)] w3) := Lib.hid (E2.out.below hb)
  clear E2 hb
  have d5 : decide ((100 : Int) < (a.length : Int)) = false := decide_eq_false (by omega)
  have d5n : decide (100 < a.length) = false := decide_eq_false (by omega)
  go_wp2_with fail
  refine (rField_c q _ HN.out.1 hf.out).mono ?_
  rintro e w4 ⟨rfl, hb⟩
  have E4 : Hid (Env D w [] [.rw (.slice ya b.length yk) b.length 1 (icl b), .rw (.slice xa a.length xk) a.length 1 (icl a)] w4) := Lib.hid (E3.out.below hb)
  clear E3 hb
  have dx : decide (x < 0) = false := decide_eq_false (by omega)
  have dy : decide (q ≤ x) = true := decide_eq_true (by omega)
  have dz : decide (x ≥ q) = true := decide_eq_true (by omega)
  go_wp2_with fail
  refine (rResidues_c q a (E4.out.fc 1 rfl) hr.out (by omega)).mono ?_
  rintro e w5 ⟨rfl, hb⟩
  have E5 : Hid (Env D w [] [.rw (.slice ya b.length yk) b.length 1 (icl b), .rw (.slice xa a.length xk) a.length 1 (icl a)] w5) := Lib.hid (E4.out.below hb)
  clear E4 hb
  have m1 : ((a.length : Int) != (b.length : Int)) = true := by have := hab.out; rw [bne_iff_ne]; omega
  have m2 : (a.length != b.length) = true := by have := hab.out; rw [bne_iff_ne]; exact this
  have hfin := Lib.hid E5.out.bel
  go_wp2
  go_ret
  exact ⟨rfl, hfin.out⟩
set_option maxRecDepth 100000 in
set_option maxHeartbeats 2000000 in
theorem pi_xbRy {D : Nat → Prop} (q : Int) (a b : List Int) (x : Int) {xa ya : Option Addr} {xk yk : Nat} {w : World} (hx : Fct.at w D (.rw (.slice xa a.length xk) a.length 1 (icl a))) (hy : Fct.at w D (.rw (.slice ya b.length yk) b.length 1 (icl b))) (hDD0 : ∀ b, D b) (hl0 : Laid w) (hn : -9223372036854775808 ≤ q ∧ q ≤ 9223372036854775807) (h1 : a.length ≤ 12) (h2 : b.length ≤ 200) (hf0 : fieldB q = true) (hr0 : a.all (resB q) = true) (hxn : 0 ≤ x) (hxb : q ≤ x) (hab0 : a.length = b.length) (hs0 : b.all (resB q) = false) (he0 : IErr q a b 2) (hw0 : ChkR q a [x] 2)  :
    Calls Tryd.prog 3 #[.int .i64 q, .slice xa a.length xk, .slice ya b.length yk, .int .i64 x] w fun e w' => e = .returned (.bool true) ∧ Below w.heap.size w w' := by
  have E0 : Hid (Env D w [] [.rw (.slice ya b.length yk) b.length 1 (icl b), .rw (.slice xa a.length xk) a.length 1 (icl a)] w) := Lib.hid (((Env.start D w).arg (.rw (.slice xa a.length xk) a.length 1 (icl a)) hx).arg (.rw (.slice ya b.length yk) b.length 1 (icl b)) hy)
  clear hx hy
  go_enter Tryd.func3, Tryd.ntmps3
  have HN := Lib.hid hn
  have hDD := Lib.hid hDD0
  have hl := Lib.hid hl0
  have hf := Lib.hid hf0
  have hr := Lib.hid hr0
  have hab := Lib.hid hab0
  have hs := Lib.hid hs0
  have he := Lib.hid he0
  have hw := Lib.hid hw0
  clear hDD0 hl0 hf0 hr0 hab0 hs0 he0 hw0
  go_wp2_with fail
  refine (awake13_c (hl.out.below E0.out.bel)).mono ?_
  rintro e w1 ⟨rfl, hb⟩
  have E1 : Hid (Env D w [] [.rw (.slice ya b.length yk) b.length 1 (icl b), .rw (.slice xa a.length xk) a.length 1 (icl a)] w1) := Lib.hid (E0.out.below hb)
  clear E0 hb
  have d1 : decide ((12 : Int) < (a.length : Int)) = false := decide_eq_false (by omega)
  have d1n : decide (12 < a.length) = false := decide_eq_false (by omega)
  have d3 : decide ((200 : Int) < (a.length : Int)) = false := decide_eq_false (by omega)
  have d3n : decide (200 < a.length) = false := decide_eq_false (by omega)
  have d4 : decide ((200 : Int) < (b.length : Int)) = false := decide_eq_false (by omega)
  have d4n : decide (200 < b.length) = false := decide_eq_false (by omega)
  go_wp2_with fail
  refine (Interp_E q a b (E1.out.fc 1 rfl) (E1.out.fc 0 rfl) (hl.out.below E1.out.bel) HN.out (by omega) he.out).mono ?_
  rintro e w2 ⟨rfl, hb⟩
  have E2 : Hid (Env D w [] [.rw (.slice ya b.length yk) b.length 1 (icl b), .rw (.slice xa a.length xk) a.length 1 (icl a)] w2) := Lib.hid (E1.out.below hb)
  clear E1 hb
  go_wp2_with fail
  refine (Weights_err q a x (E2.out.fc 1 rfl) (hl.out.below E2.out.bel) HN.out (by decide) hw.out).mono ?_
  rintro e w3 ⟨rfl, hb⟩
  have E3 : Hid (Env D w [] [.rw (.slice ya b.length yk) b.length 1 (icl b), .rw (.slice xa a.length xk) a.length 1 (icl a)] w3) := Lib.hid (E2.out.below hb)
  clear E2 hb
  have d5 : decide ((100 : Int) < (a.length : Int)) = false := decide_eq_false (by omega)
  have d5n : decide (100 < a.length) = false := decide_eq_false (by omega)
  go_wp2_with fail
  refine (rField_c q _ HN.out.1 hf.out).mono ?_
  rintro e w4 ⟨rfl, hb⟩
  have E4 : Hid (Env D w [] [.rw (.slice ya b.length yk) b.length 1 (icl b), .rw (.slice xa a.length xk) a.length 1 (icl a)] w4) := Lib.hid (E3.out.below hb)
  clear E3 hb
  have dx : decide (x < 0) = false := decide_eq_false (by omega)
  have dy : decide (q ≤ x) = true := decide_eq_true (by omega)
  have dz : decide (x ≥ q) = true := decide_eq_true (by omega)
  go_wp2_with fail
  refine (rResidues_c q a (E4.out.fc 1 rfl) hr.out (by omega)).mono ?_
  rintro e w5 ⟨rfl, hb⟩
  have E5 : Hid (Env D w [] [.rw (.slice ya b.length yk) b.length 1 (icl b), .rw (.slice xa a.length xk) a.length 1 (icl a)] w5) := Lib.hid (E4.out.below hb)
  clear E4 hb
  have m1 : ((a.length : Int) != (b.length : Int)) = false := by rw [hab.out]; simp
  have m2 : (a.length != b.length) = false := by rw [hab.out]; simp
  go_wp2_with fail
  refine (rResidues_c q a (E5.out.fc 1 rfl) hr.out (by omega)).mono ?_
  rintro e w6 ⟨rfl, hb⟩
  have E6 : Hid (Env D w [] [.rw (.slice ya b.length yk) b.length 1 (icl b), .rw (.slice xa a.length xk) a.length 1 (icl a)] w6) := Lib.hid (E5.out.below hb)
  clear E5 hb
  go_wp2_with fail
  refine (rResidues_c q b (E6.out.fc 0 rfl) hs.out (by omega)).mono ?_
  rintro e w7 ⟨rfl, hb⟩
  have E7 : Hid (Env D w [] [.rw (.slice ya b.length yk) b.length 1 (icl b), .rw (.slice xa a.length xk) a.length 1 (icl a)] w7) := Lib.hid (E6.out.below hb)
  clear E6 hb
  have hfin := Lib.hid E7.out.bel
  go_wp2
  go_ret
  exact ⟨rfl, hfin.out⟩
set_option maxRecDepth 100000 in
set_option maxHeartbeats 2000000 in
theorem pi_xbT {D : Nat → Prop} (q : Int) (a b : List Int) (x : Int) {xa ya : Option Addr} {xk yk : Nat} {w : World} (hx : Fct.at w D (.rw (.slice xa a.length xk) a.length 1 (icl a))) (hy : Fct.at w D (.rw (.slice ya b.length yk) b.length 1 (icl b))) (hDD0 : ∀ b, D b) (hl0 : Laid w) (hn : -9223372036854775808 ≤ q ∧ q ≤ 9223372036854775807) (h1 : a.length ≤ 12) (h2 : b.length ≤ 200) (hf0 : fieldB q = true) (hr0 : a.all (resB q) = true) (hxn : 0 ≤ x) (hxb : q ≤ x) (hd0 : ¬ a.Nodup) (hab0 : a.length = b.length) (hs0 : b.all (resB q) = true) (he0 : IErr q a b 8) (hw0 : ChkR q a [x] 2)  :
    Calls Tryd.prog 3 #[.int .i64 q, .slice xa a.length xk, .slice ya b.length yk, .int .i64 x] w fun e w' => e = .returned (.bool true) ∧ Below w.heap.size w w' := by
  have E0 : Hid (Env D w [] [.rw (.slice ya b.length yk) b.length 1 (icl b), .rw (.slice xa a.length xk) a.length 1 (icl a)] w) := Lib.hid (((Env.start D w).arg (.rw (.slice xa a.length xk) a.length 1 (icl a)) hx).arg (.rw (.slice ya b.length yk) b.length 1 (icl b)) hy)
  clear hx hy
  go_enter Tryd.func3, Tryd.ntmps3
  have HN := Lib.hid hn
  have hDD := Lib.hid hDD0
  have hl := Lib.hid hl0
  have hf := Lib.hid hf0
  have hr := Lib.hid hr0
  have hd := Lib.hid hd0
  have hab := Lib.hid hab0
  have hs := Lib.hid hs0
  have he := Lib.hid he0
  have hw := Lib.hid hw0
  clear hDD0 hl0 hf0 hr0 hd0 hab0 hs0 he0 hw0
  go_wp2_with fail
  refine (awake13_c (hl.out.below E0.out.bel)).mono ?_
  rintro e w1 ⟨rfl, hb⟩
  have E1 : Hid (Env D w [] [.rw (.slice ya b.length yk) b.length 1 (icl b), .rw (.slice xa a.length xk) a.length 1 (icl a)] w1) := Lib.hid (E0.out.below hb)
  clear E0 hb
  have d1 : decide ((12 : Int) < (a.length : Int)) = false := decide_eq_false (by omega)
  have d1n : decide (12 < a.length) = false := decide_eq_false (by omega)
  have d3 : decide ((200 : Int) < (a.length : Int)) = false := decide_eq_false (by omega)
  have d3n : decide (200 < a.length) = false := decide_eq_false (by omega)
  have d4 : decide ((200 : Int) < (b.length : Int)) = false := decide_eq_false (by omega)
  have d4n : decide (200 < b.length) = false := decide_eq_false (by omega)
  go_wp2_with fail
  refine (Interp_E q a b (E1.out.fc 1 rfl) (E1.out.fc 0 rfl) (hl.out.below E1.out.bel) HN.out (by omega) he.out).mono ?_
  rintro e w2 ⟨rfl, hb⟩
  have E2 : Hid (Env D w [] [.rw (.slice ya b.length yk) b.length 1 (icl b), .rw (.slice xa a.length xk) a.length 1 (icl a)] w2) := Lib.hid (E1.out.below hb)
  clear E1 hb
  go_wp2_with fail
  refine (Weights_err q a x (E2.out.fc 1 rfl) (hl.out.below E2.out.bel) HN.out (by decide) hw.out).mono ?_
  rintro e w3 ⟨rfl, hb⟩
  have E3 : Hid (Env D w [] [.rw (.slice ya b.length yk) b.length 1 (icl b), .rw (.slice xa a.length xk) a.length 1 (icl a)] w3) := Lib.hid (E2.out.below hb)
  clear E2 hb
  have d5 : decide ((100 : Int) < (a.length : Int)) = false := decide_eq_false (by omega)
  have d5n : decide (100 < a.length) = false := decide_eq_false (by omega)
  go_wp2_with fail
  refine (rField_c q _ HN.out.1 hf.out).mono ?_
  rintro e w4 ⟨rfl, hb⟩
  have E4 : Hid (Env D w [] [.rw (.slice ya b.length yk) b.length 1 (icl b), .rw (.slice xa a.length xk) a.length 1 (icl a)] w4) := Lib.hid (E3.out.below hb)
  clear E3 hb
  have dx : decide (x < 0) = false := decide_eq_false (by omega)
  have dy : decide (q ≤ x) = true := decide_eq_true (by omega)
  have dz : decide (x ≥ q) = true := decide_eq_true (by omega)
  go_wp2_with fail
  refine (rResidues_c q a (E4.out.fc 1 rfl) hr.out (by omega)).mono ?_
  rintro e w5 ⟨rfl, hb⟩
  have E5 : Hid (Env D w [] [.rw (.slice ya b.length yk) b.length 1 (icl b), .rw (.slice xa a.length xk) a.length 1 (icl a)] w5) := Lib.hid (E4.out.below hb)
  clear E4 hb
  have m1 : ((a.length : Int) != (b.length : Int)) = false := by rw [hab.out]; simp
  have m2 : (a.length != b.length) = false := by rw [hab.out]; simp
  go_wp2_with fail
  refine (rResidues_c q a (E5.out.fc 1 rfl) hr.out (by omega)).mono ?_
  rintro e w6 ⟨rfl, hb⟩
  have E6 : Hid (Env D w [] [.rw (.slice ya b.length yk) b.length 1 (icl b), .rw (.slice xa a.length xk) a.length 1 (icl a)] w6) := Lib.hid (E5.out.below hb)
  clear E5 hb
  go_wp2_with fail
  refine (rResidues_c q b (E6.out.fc 0 rfl) hs.out (by omega)).mono ?_
  rintro e w7 ⟨rfl, hb⟩
  have E7 : Hid (Env D w [] [.rw (.slice ya b.length yk) b.length 1 (icl b), .rw (.slice xa a.length xk) a.length 1 (icl a)] w7) := Lib.hid (E6.out.below hb)
  clear E6 hb
  go_wp2_with fail
  refine (rTwice_R q a (E7.out.fc 1 rfl) (by omega) hr.out (t := true) (by simp [hd.out])).mono ?_
  rintro e w8 ⟨rfl, hb⟩
  have E8 : Hid (Env D w [] [.rw (.slice ya b.length yk) b.length 1 (icl b), .rw (.slice xa a.length xk) a.length 1 (icl a)] w8) := Lib.hid (E7.out.below hb)
  clear E7 hb
  have hfin := Lib.hid E8.out.bel
  go_wp2
  go_ret
  exact ⟨rfl, hfin.out⟩
set_option maxRecDepth 100000 in
set_option maxHeartbeats 2000000 in
theorem pi_xbG {D : Nat → Prop} (q : Int) (a b : List Int) (x : Int) {xa ya : Option Addr} {xk yk : Nat} {w : World} (hx : Fct.at w D (.rw (.slice xa a.length xk) a.length 1 (icl a))) (hy : Fct.at w D (.rw (.slice ya b.length yk) b.length 1 (icl b))) (hDD0 : ∀ b, D b) (hl0 : Laid w) (hn : -9223372036854775808 ≤ q ∧ q ≤ 9223372036854775807) (h1 : a.length ≤ 12) (h2 : b.length ≤ 200) (hf0 : fieldB q = true) (hr0 : a.all (resB q) = true) (hxn : 0 ≤ x) (hxb : q ≤ x) (hd0 : a.Nodup) (hab0 : a.length = b.length) (hs0 : b.all (resB q) = true) (he0 : ChkR q a b 0) (hw0 : ChkR q a [x] 2)  :
    Calls Tryd.prog 3 #[.int .i64 q, .slice xa a.length xk, .slice ya b.length yk, .int .i64 x] w fun e w' => e = .returned (.bool true) ∧ Below w.heap.size w w' := by
  have E0 : Hid (Env D w [] [.rw (.slice ya b.length yk) b.length 1 (icl b), .rw (.slice xa a.length xk) a.length 1 (icl a)] w) := Lib.hid (((Env.start D w).arg (.rw (.slice xa a.length xk) a.length 1 (icl a)) hx).arg (.rw (.slice ya b.length yk) b.length 1 (icl b)) hy)
  clear hx hy
  go_enter Tryd.func3, Tryd.ntmps3
  have HN := Lib.hid hn
  have hDD := Lib.hid hDD0
  have hl := Lib.hid hl0
  have hf := Lib.hid hf0
  have hr := Lib.hid hr0
  have hd := Lib.hid hd0
  have hab := Lib.hid hab0
  have hs := Lib.hid hs0
  have he := Lib.hid he0
  have hw := Lib.hid hw0
  clear hDD0 hl0 hf0 hr0 hd0 hab0 hs0 he0 hw0
  go_wp2_with fail
  refine (awake13_c (hl.out.below E0.out.bel)).mono ?_
  rintro e w1 ⟨rfl, hb⟩
  have E1 : Hid (Env D w [] [.rw (.slice ya b.length yk) b.length 1 (icl b), .rw (.slice xa a.length xk) a.length 1 (icl a)] w1) := Lib.hid (E0.out.below hb)
  clear E0 hb
  have d1 : decide ((12 : Int) < (a.length : Int)) = false := decide_eq_false (by omega)
  have d1n : decide (12 < a.length) = false := decide_eq_false (by omega)
  have d3 : decide ((200 : Int) < (a.length : Int)) = false := decide_eq_false (by omega)
  have d3n : decide (200 < a.length) = false := decide_eq_false (by omega)
  have d4 : decide ((200 : Int) < (b.length : Int)) = false := decide_eq_false (by omega)
  have d4n : decide (200 < b.length) = false := decide_eq_false (by omega)
  go_wp2_with fail
  refine (Interp_R q a b (E1.out.fc 1 rfl) (E1.out.fc 0 rfl) (hl.out.below E1.out.bel) hab.out he.out).mono ?_
  rintro e w2 ⟨⟨L, HI, ra, rk, rfl, rh⟩, hb⟩
  have HLL : Hid (L.length ≤ 1000000) := Lib.hid (IpR_len HI.out (by omega))
  have E2 : Hid (Env D w [] [.rw (.slice ra L.length rk) L.length 1 (ncl L), .rw (.slice ya b.length yk) b.length 1 (icl b), .rw (.slice xa a.length xk) a.length 1 (icl a)] w2) := Lib.hid (E1.out.got (E1.out.below hb) (.rw (.slice ra L.length rk) L.length 1 (ncl L)) (Lib.hid (Rw.up hDD.out rh.out)).out)
  clear E1 hb
  go_wp2_with fail
  refine (Weights_err q a x (E2.out.fc 2 rfl) (hl.out.below E2.out.bel) HN.out (by decide) hw.out).mono ?_
  rintro e w3 ⟨rfl, hb⟩
  have E3 : Hid (Env D w [] [.rw (.slice ra L.length rk) L.length 1 (ncl L), .rw (.slice ya b.length yk) b.length 1 (icl b), .rw (.slice xa a.length xk) a.length 1 (icl a)] w3) := Lib.hid (E2.out.below hb)
  clear E2 hb
  have d5 : decide ((100 : Int) < (a.length : Int)) = false := decide_eq_false (by omega)
  have d5n : decide (100 < a.length) = false := decide_eq_false (by omega)
  go_wp2_with fail
  refine (rField_c q _ HN.out.1 hf.out).mono ?_
  rintro e w4 ⟨rfl, hb⟩
  have E4 : Hid (Env D w [] [.rw (.slice ra L.length rk) L.length 1 (ncl L), .rw (.slice ya b.length yk) b.length 1 (icl b), .rw (.slice xa a.length xk) a.length 1 (icl a)] w4) := Lib.hid (E3.out.below hb)
  clear E3 hb
  have dx : decide (x < 0) = false := decide_eq_false (by omega)
  have dy : decide (q ≤ x) = true := decide_eq_true (by omega)
  have dz : decide (x ≥ q) = true := decide_eq_true (by omega)
  go_wp2_with fail
  refine (rResidues_c q a (E4.out.fc 2 rfl) hr.out (by omega)).mono ?_
  rintro e w5 ⟨rfl, hb⟩
  have E5 : Hid (Env D w [] [.rw (.slice ra L.length rk) L.length 1 (ncl L), .rw (.slice ya b.length yk) b.length 1 (icl b), .rw (.slice xa a.length xk) a.length 1 (icl a)] w5) := Lib.hid (E4.out.below hb)
  clear E4 hb
  have m1 : ((a.length : Int) != (b.length : Int)) = false := by rw [hab.out]; simp
  have m2 : (a.length != b.length) = false := by rw [hab.out]; simp
  go_wp2_with fail
  refine (rResidues_c q a (E5.out.fc 2 rfl) hr.out (by omega)).mono ?_
  rintro e w6 ⟨rfl, hb⟩
  have E6 : Hid (Env D w [] [.rw (.slice ra L.length rk) L.length 1 (ncl L), .rw (.slice ya b.length yk) b.length 1 (icl b), .rw (.slice xa a.length xk) a.length 1 (icl a)] w6) := Lib.hid (E5.out.below hb)
  clear E5 hb
  go_wp2_with fail
  refine (rResidues_c q b (E6.out.fc 1 rfl) hs.out (by omega)).mono ?_
  rintro e w7 ⟨rfl, hb⟩
  have E7 : Hid (Env D w [] [.rw (.slice ra L.length rk) L.length 1 (ncl L), .rw (.slice ya b.length yk) b.length 1 (icl b), .rw (.slice xa a.length xk) a.length 1 (icl a)] w7) := Lib.hid (E6.out.below hb)
  clear E6 hb
  go_wp2_with fail
  refine (rTwice_R q a (E7.out.fc 2 rfl) (by omega) hr.out (t := false) (by simp [hd.out])).mono ?_
  rintro e w8 ⟨rfl, hb⟩
  have E8 : Hid (Env D w [] [.rw (.slice ra L.length rk) L.length 1 (ncl L), .rw (.slice ya b.length yk) b.length 1 (icl b), .rw (.slice xa a.length xk) a.length 1 (icl a)] w8) := Lib.hid (E7.out.below hb)
  clear E7 hb
  go_wp2_with fail
  refine (rInterp_R q a b (E8.out.fc 2 rfl) (E8.out.fc 1 rfl) hab.out (by omega) HI.out).mono ?_
  rintro e w9 ⟨⟨za, zk, rfl, zh⟩, hb⟩
  have E9 : Hid (Env D w [] [.rw (.slice ra L.length rk) L.length 1 (ncl L), .rw (.slice ya b.length yk) b.length 1 (icl b), .rw (.slice xa a.length xk) a.length 1 (icl a)] w9) := Lib.hid (E8.out.below hb)
  clear E8 hb
  go_wp2_with fail
  refine (equalN_c (t := true) (a := L) (b := L) (Rw.tr (E9.out.fc 0 rfl)) (Rw.tr zh.out) HLL.out HLL.out (by simp)).mono ?_
  rintro e w10 ⟨rfl, hb⟩
  have E10 : Hid (Env D w [] [.rw (.slice ra L.length rk) L.length 1 (ncl L), .rw (.slice ya b.length yk) b.length 1 (icl b), .rw (.slice xa a.length xk) a.length 1 (icl a)] w10) := Lib.hid (E9.out.below hb)
  clear E9 hb
  have hfin := Lib.hid E10.out.bel
  go_wp2
  go_ret
  exact ⟨rfl, hfin.out⟩
set_option maxRecDepth 100000 in
set_option maxHeartbeats 2000000 in
theorem pi_TN {D : Nat → Prop} (q : Int) (a b : List Int) (x : Int) {xa ya : Option Addr} {xk yk : Nat} {w : World} (hx : Fct.at w D (.rw (.slice xa a.length xk) a.length 1 (icl a))) (hy : Fct.at w D (.rw (.slice ya b.length yk) b.length 1 (icl b))) (hDD0 : ∀ b, D b) (hl0 : Laid w) (hn : -9223372036854775808 ≤ q ∧ q ≤ 9223372036854775807) (h1 : a.length ≤ 12) (h2 : b.length ≤ 200) (hf0 : fieldB q = true) (hr0 : a.all (resB q) = true) (hxn : 0 ≤ x) (hxb : x < q) (hd0 : ¬ a.Nodup) (hab0 : a.length ≠ b.length) (he0 : IErr q a b 1) (hw0 : ChkR q a [x] 8)  :
    Calls Tryd.prog 3 #[.int .i64 q, .slice xa a.length xk, .slice ya b.length yk, .int .i64 x] w fun e w' => e = .returned (.bool true) ∧ Below w.heap.size w w' := by
  have E0 : Hid (Env D w [] [.rw (.slice ya b.length yk) b.length 1 (icl b), .rw (.slice xa a.length xk) a.length 1 (icl a)] w) := Lib.hid (((Env.start D w).arg (.rw (.slice xa a.length xk) a.length 1 (icl a)) hx).arg (.rw (.slice ya b.length yk) b.length 1 (icl b)) hy)
  clear hx hy
  go_enter Tryd.func3, Tryd.ntmps3
  have HN := Lib.hid hn
  have hDD := Lib.hid hDD0
  have hl := Lib.hid hl0
  have hf := Lib.hid hf0
  have hr := Lib.hid hr0
  have hd := Lib.hid hd0
  have hab := Lib.hid hab0
  have he := Lib.hid he0
  have hw := Lib.hid hw0
  clear hDD0 hl0 hf0 hr0 hd0 hab0 he0 hw0
  go_wp2_with fail
  refine (awake13_c (hl.out.below E0.out.bel)).mono ?_
  rintro e w1 ⟨rfl, hb⟩
  have E1 : Hid (Env D w [] [.rw (.slice ya b.length yk) b.length 1 (icl b), .rw (.slice xa a.length xk) a.length 1 (icl a)] w1) := Lib.hid (E0.out.below hb)
  clear E0 hb
  have d1 : decide ((12 : Int) < (a.length : Int)) = false := decide_eq_false (by omega)
  have d1n : decide (12 < a.length) = false := decide_eq_false (by omega)
  have d3 : decide ((200 : Int) < (a.length : Int)) = false := decide_eq_false (by omega)
  have d3n : decide (200 < a.length) = false := decide_eq_false (by omega)
  have d4 : decide ((200 : Int) < (b.length : Int)) = false := decide_eq_false (by omega)
  have d4n : decide (200 < b.length) = false := decide_eq_false (by omega)
  go_wp2_with fail
  refine (Interp_E q a b (E1.out.fc 1 rfl) (E1.out.fc 0 rfl) (hl.out.below E1.out.bel) HN.out (by omega) he.out).mono ?_
  rintro e w2 ⟨rfl, hb⟩
  have E2 : Hid (Env D w [] [.rw (.slice ya b.length yk) b.length 1 (icl b), .rw (.slice xa a.length xk) a.length 1 (icl a)] w2) := Lib.hid (E1.out.below hb)
  clear E1 hb
  go_wp2_with fail
  refine (Weights_err q a x (E2.out.fc 1 rfl) (hl.out.below E2.out.bel) HN.out (by decide) hw.out).mono ?_
  rintro e w3 ⟨rfl, hb⟩
  have E3 : Hid (Env D w [] [.rw (.slice ya b.length yk) b.length 1 (icl b), .rw (.slice xa a.length xk) a.length 1 (icl a)] w3) := Lib.hid (E2.out.below hb)
  clear E2 hb
  have d5 : decide ((100 : Int) < (a.length : Int)) = false := decide_eq_false (by omega)
  have d5n : decide (100 < a.length) = false := decide_eq_false (by omega)
  go_wp2_with fail
  refine (rField_c q _ HN.out.1 hf.out).mono ?_
  rintro e w4 ⟨rfl, hb⟩
  have E4 : Hid (Env D w [] [.rw (.slice ya b.length yk) b.length 1 (icl b), .rw (.slice xa a.length xk) a.length 1 (icl a)] w4) := Lib.hid (E3.out.below hb)
  clear E3 hb
  have dx : decide (x < 0) = false := decide_eq_false (by omega)
  have dy : decide (q ≤ x) = false := decide_eq_false (by omega)
  have dz : decide (x ≥ q) = false := decide_eq_false (by omega)
  go_wp2_with fail
  refine (rResidues_c q a (E4.out.fc 1 rfl) hr.out (by omega)).mono ?_
  rintro e w5 ⟨rfl, hb⟩
  have E5 : Hid (Env D w [] [.rw (.slice ya b.length yk) b.length 1 (icl b), .rw (.slice xa a.length xk) a.length 1 (icl a)] w5) := Lib.hid (E4.out.below hb)
  clear E4 hb
  go_wp2_with fail
  refine (rTwice_R q a (E5.out.fc 1 rfl) (by omega) hr.out (t := true) (by simp [hd.out])).mono ?_
  rintro e w6 ⟨rfl, hb⟩
  have E6 : Hid (Env D w [] [.rw (.slice ya b.length yk) b.length 1 (icl b), .rw (.slice xa a.length xk) a.length 1 (icl a)] w6) := Lib.hid (E5.out.below hb)
  clear E5 hb
  have m1 : ((a.length : Int) != (b.length : Int)) = true := by have := hab.out; rw [bne_iff_ne]; omega
  have m2 : (a.length != b.length) = true := by have := hab.out; rw [bne_iff_ne]; exact this
  have hfin := Lib.hid E6.out.bel
  go_wp2
  go_ret
  exact ⟨rfl, hfin.out⟩
set_option maxRecDepth 100000 in
set_option maxHeartbeats 2000000 in
theorem pi_TRy {D : Nat → Prop} (q : Int) (a b : List Int) (x : Int) {xa ya : Option Addr} {xk yk : Nat} {w : World} (hx : Fct.at w D (.rw (.slice xa a.length xk) a.length 1 (icl a))) (hy : Fct.at w D (.rw (.slice ya b.length yk) b.length 1 (icl b))) (hDD0 : ∀ b, D b) (hl0 : Laid w) (hn : -9223372036854775808 ≤ q ∧ q ≤ 9223372036854775807) (h1 : a.length ≤ 12) (h2 : b.length ≤ 200) (hf0 : fieldB q = true) (hr0 : a.all (resB q) = true) (hxn : 0 ≤ x) (hxb : x < q) (hd0 : ¬ a.Nodup) (hab0 : a.length = b.length) (hs0 : b.all (resB q) = false) (he0 : IErr q a b 2) (hw0 : ChkR q a [x] 8)  :
    Calls Tryd.prog 3 #[.int .i64 q, .slice xa a.length xk, .slice ya b.length yk, .int .i64 x] w fun e w' => e = .returned (.bool true) ∧ Below w.heap.size w w' := by
  have E0 : Hid (Env D w [] [.rw (.slice ya b.length yk) b.length 1 (icl b), .rw (.slice xa a.length xk) a.length 1 (icl a)] w) := Lib.hid (((Env.start D w).arg (.rw (.slice xa a.length xk) a.length 1 (icl a)) hx).arg (.rw (.slice ya b.length yk) b.length 1 (icl b)) hy)
  clear hx hy
  go_enter Tryd.func3, Tryd.ntmps3
  have HN := Lib.hid hn
  have hDD := Lib.hid hDD0
  have hl := Lib.hid hl0
  have hf := Lib.hid hf0
  have hr := Lib.hid hr0
  have hd := Lib.hid hd0
  have hab := Lib.hid hab0
  have hs := Lib.hid hs0
  have he := Lib.hid he0
  have hw := Lib.hid hw0
  clear hDD0 hl0 hf0 hr0 hd0 hab0 hs0 he0 hw0
  go_wp2_with fail
  refine (awake13_c (hl.out.below E0.out.bel)).mono ?_
  rintro e w1 ⟨rfl, hb⟩
  have E1 : Hid (Env D w [] [.rw (.slice ya b.length yk) b.length 1 (icl b), .rw (.slice xa a.length xk) a.length 1 (icl a)] w1) := Lib.hid (E0.out.below hb)
  clear E0 hb
  have d1 : decide ((12 : Int) < (a.length : Int)) = false := decide_eq_false (by omega)
  have d1n : decide (12 < a.length) = false := decide_eq_false (by omega)
  have d3 : decide ((200 : Int) < (a.length : Int)) = false := decide_eq_false (by omega)
  have d3n : decide (200 < a.length) = false := decide_eq_false (by omega)
  have d4 : decide ((200 : Int) < (b.length : Int)) = false := decide_eq_false (by omega)
  have d4n : decide (200 < b.length) = false := decide_eq_false (by omega)
  go_wp2_with fail
  refine (Interp_E q a b (E1.out.fc 1 rfl) (E1.out.fc 0 rfl) (hl.out.below E1.out.bel) HN.out (by omega) he.out).mono ?_
  rintro e w2 ⟨rfl, hb⟩
  have E2 : Hid (Env D w [] [.rw (.slice ya b.length yk) b.length 1 (icl b), .rw (.slice xa a.length xk) a.length 1 (icl a)] w2) := Lib.hid (E1.out.below hb)
  clear E1 hb
  go_wp2_with fail
  refine (Weights_err q a x (E2.out.fc 1 rfl) (hl.out.below E2.out.bel) HN.out (by decide) hw.out).mono ?_
  rintro e w3 ⟨rfl, hb⟩
  have E3 : Hid (Env D w [] [.rw (.slice ya b.length yk) b.length 1 (icl b), .rw (.slice xa a.length xk) a.length 1 (icl a)] w3) := Lib.hid (E2.out.below hb)
  clear E2 hb
  have d5 : decide ((100 : Int) < (a.length : Int)) = false := decide_eq_false (by omega)
  have d5n : decide (100 < a.length) = false := decide_eq_false (by omega)
  go_wp2_with fail
  refine (rField_c q _ HN.out.1 hf.out).mono ?_
  rintro e w4 ⟨rfl, hb⟩
  have E4 : Hid (Env D w [] [.rw (.slice ya b.length yk) b.length 1 (icl b), .rw (.slice xa a.length xk) a.length 1 (icl a)] w4) := Lib.hid (E3.out.below hb)
  clear E3 hb
  have dx : decide (x < 0) = false := decide_eq_false (by omega)
  have dy : decide (q ≤ x) = false := decide_eq_false (by omega)
  have dz : decide (x ≥ q) = false := decide_eq_false (by omega)
  go_wp2_with fail
  refine (rResidues_c q a (E4.out.fc 1 rfl) hr.out (by omega)).mono ?_
  rintro e w5 ⟨rfl, hb⟩
  have E5 : Hid (Env D w [] [.rw (.slice ya b.length yk) b.length 1 (icl b), .rw (.slice xa a.length xk) a.length 1 (icl a)] w5) := Lib.hid (E4.out.below hb)
  clear E4 hb
  go_wp2_with fail
  refine (rTwice_R q a (E5.out.fc 1 rfl) (by omega) hr.out (t := true) (by simp [hd.out])).mono ?_
  rintro e w6 ⟨rfl, hb⟩
  have E6 : Hid (Env D w [] [.rw (.slice ya b.length yk) b.length 1 (icl b), .rw (.slice xa a.length xk) a.length 1 (icl a)] w6) := Lib.hid (E5.out.below hb)
  clear E5 hb
  have m1 : ((a.length : Int) != (b.length : Int)) = false := by rw [hab.out]; simp
  have m2 : (a.length != b.length) = false := by rw [hab.out]; simp
  go_wp2_with fail
  refine (rResidues_c q a (E6.out.fc 1 rfl) hr.out (by omega)).mono ?_
  rintro e w7 ⟨rfl, hb⟩
  have E7 : Hid (Env D w [] [.rw (.slice ya b.length yk) b.length 1 (icl b), .rw (.slice xa a.length xk) a.length 1 (icl a)] w7) := Lib.hid (E6.out.below hb)
  clear E6 hb
  go_wp2_with fail
  refine (rResidues_c q b (E7.out.fc 0 rfl) hs.out (by omega)).mono ?_
  rintro e w8 ⟨rfl, hb⟩
  have E8 : Hid (Env D w [] [.rw (.slice ya b.length yk) b.length 1 (icl b), .rw (.slice xa a.length xk) a.length 1 (icl a)] w8) := Lib.hid (E7.out.below hb)
  clear E7 hb
  have hfin := Lib.hid E8.out.bel
  go_wp2
  go_ret
  exact ⟨rfl, hfin.out⟩
set_option maxRecDepth 100000 in
set_option maxHeartbeats 2000000 in
theorem pi_TT {D : Nat → Prop} (q : Int) (a b : List Int) (x : Int) {xa ya : Option Addr} {xk yk : Nat} {w : World} (hx : Fct.at w D (.rw (.slice xa a.length xk) a.length 1 (icl a))) (hy : Fct.at w D (.rw (.slice ya b.length yk) b.length 1 (icl b))) (hDD0 : ∀ b, D b) (hl0 : Laid w) (hn : -9223372036854775808 ≤ q ∧ q ≤ 9223372036854775807) (h1 : a.length ≤ 12) (h2 : b.length ≤ 200) (hf0 : fieldB q = true) (hr0 : a.all (resB q) = true) (hxn : 0 ≤ x) (hxb : x < q) (hd0 : ¬ a.Nodup) (hab0 : a.length = b.length) (hs0 : b.all (resB q) = true) (he0 : IErr q a b 8) (hw0 : ChkR q a [x] 8)  :
    Calls Tryd.prog 3 #[.int .i64 q, .slice xa a.length xk, .slice ya b.length yk, .int .i64 x] w fun e w' => e = .returned (.bool true) ∧ Below w.heap.size w w' := by
  have E0 : Hid (Env D w [] [.rw (.slice ya b.length yk) b.length 1 (icl b), .rw (.slice xa a.length xk) a.length 1 (icl a)] w) := Lib.hid (((Env.start D w).arg (.rw (.slice xa a.length xk) a.length 1 (icl a)) hx).arg (.rw (.slice ya b.length yk) b.length 1 (icl b)) hy)
  clear hx hy
  go_enter Tryd.func3, Tryd.ntmps3
  have HN := Lib.hid hn
  have hDD := Lib.hid hDD0
  have hl := Lib.hid hl0
  have hf := Lib.hid hf0
  have hr := Lib.hid hr0
  have hd := Lib.hid hd0
  have hab := Lib.hid hab0
  have hs := Lib.hid hs0
  have he := Lib.hid he0
  have hw := Lib.hid hw0
  clear hDD0 hl0 hf0 hr0 hd0 hab0 hs0 he0 hw0
  go_wp2_with fail
  refine (awake13_c (hl.out.below E0.out.bel)).mono ?_
  rintro e w1 ⟨rfl, hb⟩
  have E1 : Hid (Env D w [] [.rw (.slice ya b.length yk) b.length 1 (icl b), .rw (.slice xa a.length xk) a.length 1 (icl a)] w1) := Lib.hid (E0.out.below hb)
  clear E0 hb
  have d1 : decide ((12 : Int) < (a.length : Int)) = false := decide_eq_false (by omega)
  have d1n : decide (12 < a.length) = false := decide_eq_false (by omega)
  have d3 : decide ((200 : Int) < (a.length : Int)) = false := decide_eq_false (by omega)
  have d3n : decide (200 < a.length) = false := decide_eq_false (by omega)
  have d4 : decide ((200 : Int) < (b.length : Int)) = false := decide_eq_false (by omega)
  have d4n : decide (200 < b.length) = false := decide_eq_false (by omega)
  go_wp2_with fail
  refine (Interp_E q a b (E1.out.fc 1 rfl) (E1.out.fc 0 rfl) (hl.out.below E1.out.bel) HN.out (by omega) he.out).mono ?_
  rintro e w2 ⟨rfl, hb⟩
  have E2 : Hid (Env D w [] [.rw (.slice ya b.length yk) b.length 1 (icl b), .rw (.slice xa a.length xk) a.length 1 (icl a)] w2) := Lib.hid (E1.out.below hb)
  clear E1 hb
  go_wp2_with fail
  refine (Weights_err q a x (E2.out.fc 1 rfl) (hl.out.below E2.out.bel) HN.out (by decide) hw.out).mono ?_
  rintro e w3 ⟨rfl, hb⟩
  have E3 : Hid (Env D w [] [.rw (.slice ya b.length yk) b.length 1 (icl b), .rw (.slice xa a.length xk) a.length 1 (icl a)] w3) := Lib.hid (E2.out.below hb)
  clear E2 hb
  have d5 : decide ((100 : Int) < (a.length : Int)) = false := decide_eq_false (by omega)
  have d5n : decide (100 < a.length) = false := decide_eq_false (by omega)
  go_wp2_with fail
  refine (rField_c q _ HN.out.1 hf.out).mono ?_
  rintro e w4 ⟨rfl, hb⟩
  have E4 : Hid (Env D w [] [.rw (.slice ya b.length yk) b.length 1 (icl b), .rw (.slice xa a.length xk) a.length 1 (icl a)] w4) := Lib.hid (E3.out.below hb)
  clear E3 hb
  have dx : decide (x < 0) = false := decide_eq_false (by omega)
  have dy : decide (q ≤ x) = false := decide_eq_false (by omega)
  have dz : decide (x ≥ q) = false := decide_eq_false (by omega)
  go_wp2_with fail
  refine (rResidues_c q a (E4.out.fc 1 rfl) hr.out (by omega)).mono ?_
  rintro e w5 ⟨rfl, hb⟩
  have E5 : Hid (Env D w [] [.rw (.slice ya b.length yk) b.length 1 (icl b), .rw (.slice xa a.length xk) a.length 1 (icl a)] w5) := Lib.hid (E4.out.below hb)
  clear E4 hb
  go_wp2_with fail
  refine (rTwice_R q a (E5.out.fc 1 rfl) (by omega) hr.out (t := true) (by simp [hd.out])).mono ?_
  rintro e w6 ⟨rfl, hb⟩
  have E6 : Hid (Env D w [] [.rw (.slice ya b.length yk) b.length 1 (icl b), .rw (.slice xa a.length xk) a.length 1 (icl a)] w6) := Lib.hid (E5.out.below hb)
  clear E5 hb
  have m1 : ((a.length : Int) != (b.length : Int)) = false := by rw [hab.out]; simp
  have m2 : (a.length != b.length) = false := by rw [hab.out]; simp
  go_wp2_with fail
  refine (rResidues_c q a (E6.out.fc 1 rfl) hr.out (by omega)).mono ?_
  rintro e w7 ⟨rfl, hb⟩
  have E7 : Hid (Env D w [] [.rw (.slice ya b.length yk) b.length 1 (icl b), .rw (.slice xa a.length xk) a.length 1 (icl a)] w7) := Lib.hid (E6.out.below hb)
  clear E6 hb
  go_wp2_with fail
  refine (rResidues_c q b (E7.out.fc 0 rfl) hs.out (by omega)).mono ?_
  rintro e w8 ⟨rfl, hb⟩
  have E8 : Hid (Env D w [] [.rw (.slice ya b.length yk) b.length 1 (icl b), .rw (.slice xa a.length xk) a.length 1 (icl a)] w8) := Lib.hid (E7.out.below hb)
  clear E7 hb
  go_wp2_with fail
  refine (rTwice_R q a (E8.out.fc 1 rfl) (by omega) hr.out (t := true) (by simp [hd.out])).mono ?_
  rintro e w9 ⟨rfl, hb⟩
  have E9 : Hid (Env D w [] [.rw (.slice ya b.length yk) b.length 1 (icl b), .rw (.slice xa a.length xk) a.length 1 (icl a)] w9) := Lib.hid (E8.out.below hb)
  clear E8 hb
  have hfin := Lib.hid E9.out.bel
  go_wp2
  go_ret
  exact ⟨rfl, hfin.out⟩
set_option maxRecDepth 100000 in
set_option maxHeartbeats 2000000 in
theorem pi_GN {D : Nat → Prop} (q : Int) (a b : List Int) (x : Int) {xa ya : Option Addr} {xk yk : Nat} {w : World} (hx : Fct.at w D (.rw (.slice xa a.length xk) a.length 1 (icl a))) (hy : Fct.at w D (.rw (.slice ya b.length yk) b.length 1 (icl b))) (hDD0 : ∀ b, D b) (hl0 : Laid w) (hn : -9223372036854775808 ≤ q ∧ q ≤ 9223372036854775807) (h1 : a.length ≤ 12) (h2 : b.length ≤ 200) (hf0 : fieldB q = true) (hr0 : a.all (resB q) = true) (hxn : 0 ≤ x) (hxb : x < q) (hd0 : a.Nodup) (hab0 : a.length ≠ b.length) (he0 : IErr q a b 1) (hw0 : ChkR q a [x] 0)  :
    Calls Tryd.prog 3 #[.int .i64 q, .slice xa a.length xk, .slice ya b.length yk, .int .i64 x] w fun e w' => e = .returned (.bool true) ∧ Below w.heap.size w w' := by
  have E0 : Hid (Env D w [] [.rw (.slice ya b.length yk) b.length 1 (icl b), .rw (.slice xa a.length xk) a.length 1 (icl a)] w) := Lib.hid (((Env.start D w).arg (.rw (.slice xa a.length xk) a.length 1 (icl a)) hx).arg (.rw (.slice ya b.length yk) b.length 1 (icl b)) hy)
  clear hx hy
  go_enter Tryd.func3, Tryd.ntmps3
  have HN := Lib.hid hn
  have hDD := Lib.hid hDD0
  have hl := Lib.hid hl0
  have hf := Lib.hid hf0
  have hr := Lib.hid hr0
  have hd := Lib.hid hd0
  have hab := Lib.hid hab0
  have he := Lib.hid he0
  have hw := Lib.hid hw0
  clear hDD0 hl0 hf0 hr0 hd0 hab0 he0 hw0
  go_wp2_with fail
  refine (awake13_c (hl.out.below E0.out.bel)).mono ?_
  rintro e w1 ⟨rfl, hb⟩
  have E1 : Hid (Env D w [] [.rw (.slice ya b.length yk) b.length 1 (icl b), .rw (.slice xa a.length xk) a.length 1 (icl a)] w1) := Lib.hid (E0.out.below hb)
  clear E0 hb
  have d1 : decide ((12 : Int) < (a.length : Int)) = false := decide_eq_false (by omega)
  have d1n : decide (12 < a.length) = false := decide_eq_false (by omega)
  have d3 : decide ((200 : Int) < (a.length : Int)) = false := decide_eq_false (by omega)
  have d3n : decide (200 < a.length) = false := decide_eq_false (by omega)
  have d4 : decide ((200 : Int) < (b.length : Int)) = false := decide_eq_false (by omega)
  have d4n : decide (200 < b.length) = false := decide_eq_false (by omega)
  go_wp2_with fail
  refine (Interp_E q a b (E1.out.fc 1 rfl) (E1.out.fc 0 rfl) (hl.out.below E1.out.bel) HN.out (by omega) he.out).mono ?_
  rintro e w2 ⟨rfl, hb⟩
  have E2 : Hid (Env D w [] [.rw (.slice ya b.length yk) b.length 1 (icl b), .rw (.slice xa a.length xk) a.length 1 (icl a)] w2) := Lib.hid (E1.out.below hb)
  clear E1 hb
  go_wp2_with fail
  refine (Weights_R q a x (E2.out.fc 1 rfl) (hl.out.below E2.out.bel) hw.out).mono ?_
  rintro e w3 ⟨⟨O, HO, sa, sk, rfl, sh⟩, hb⟩
  have HOL : Hid (O.length ≤ 1000000) := Lib.hid (WtR_len HO.out (by omega))
  have E3 : Hid (Env D w [] [.rw (.slice sa O.length sk) O.length 1 (ncl O), .rw (.slice ya b.length yk) b.length 1 (icl b), .rw (.slice xa a.length xk) a.length 1 (icl a)] w3) := Lib.hid (E2.out.got (E2.out.below hb) (.rw (.slice sa O.length sk) O.length 1 (ncl O)) (Lib.hid (Rw.up hDD.out sh.out)).out)
  clear E2 hb
  have d5 : decide ((100 : Int) < (a.length : Int)) = false := decide_eq_false (by omega)
  have d5n : decide (100 < a.length) = false := decide_eq_false (by omega)
  go_wp2_with fail
  refine (rField_c q _ HN.out.1 hf.out).mono ?_
  rintro e w4 ⟨rfl, hb⟩
  have E4 : Hid (Env D w [] [.rw (.slice sa O.length sk) O.length 1 (ncl O), .rw (.slice ya b.length yk) b.length 1 (icl b), .rw (.slice xa a.length xk) a.length 1 (icl a)] w4) := Lib.hid (E3.out.below hb)
  clear E3 hb
  have dx : decide (x < 0) = false := decide_eq_false (by omega)
  have dy : decide (q ≤ x) = false := decide_eq_false (by omega)
  have dz : decide (x ≥ q) = false := decide_eq_false (by omega)
  go_wp2_with fail
  refine (rResidues_c q a (E4.out.fc 2 rfl) hr.out (by omega)).mono ?_
  rintro e w5 ⟨rfl, hb⟩
  have E5 : Hid (Env D w [] [.rw (.slice sa O.length sk) O.length 1 (ncl O), .rw (.slice ya b.length yk) b.length 1 (icl b), .rw (.slice xa a.length xk) a.length 1 (icl a)] w5) := Lib.hid (E4.out.below hb)
  clear E4 hb
  go_wp2_with fail
  refine (rTwice_R q a (E5.out.fc 2 rfl) (by omega) hr.out (t := false) (by simp [hd.out])).mono ?_
  rintro e w6 ⟨rfl, hb⟩
  have E6 : Hid (Env D w [] [.rw (.slice sa O.length sk) O.length 1 (ncl O), .rw (.slice ya b.length yk) b.length 1 (icl b), .rw (.slice xa a.length xk) a.length 1 (icl a)] w6) := Lib.hid (E5.out.below hb)
  clear E5 hb
  have m1 : ((a.length : Int) != (b.length : Int)) = true := by have := hab.out; rw [bne_iff_ne]; omega
  have m2 : (a.length != b.length) = true := by have := hab.out; rw [bne_iff_ne]; exact this
  go_wp2_with fail
  refine (rWeights_R q a x (E6.out.fc 2 rfl) (by omega) HO.out).mono ?_
  rintro e w7 ⟨⟨ya2, yk2, rfl, yh⟩, hb⟩
  have E7 : Hid (Env D w [] [.rw (.slice sa O.length sk) O.length 1 (ncl O), .rw (.slice ya b.length yk) b.length 1 (icl b), .rw (.slice xa a.length xk) a.length 1 (icl a)] w7) := Lib.hid (E6.out.below hb)
  clear E6 hb
  go_wp2_with fail
  refine (equalN_c (t := true) (a := O) (b := O) (Rw.tr (E7.out.fc 0 rfl)) (Rw.tr yh.out) HOL.out HOL.out (by simp)).mono ?_
  rintro e w8 ⟨rfl, hb⟩
  have E8 : Hid (Env D w [] [.rw (.slice sa O.length sk) O.length 1 (ncl O), .rw (.slice ya b.length yk) b.length 1 (icl b), .rw (.slice xa a.length xk) a.length 1 (icl a)] w8) := Lib.hid (E7.out.below hb)
  clear E7 hb
  have hfin := Lib.hid E8.out.bel
  go_wp2
  go_ret
  exact ⟨rfl, hfin.out⟩
set_option maxRecDepth 100000 in
set_option maxHeartbeats 2000000 in
theorem pi_GRy {D : Nat → Prop} (q : Int) (a b : List Int) (x : Int) {xa ya : Option Addr} {xk yk : Nat} {w : World} (hx : Fct.at w D (.rw (.slice xa a.length xk) a.length 1 (icl a))) (hy : Fct.at w D (.rw (.slice ya b.length yk) b.length 1 (icl b))) (hDD0 : ∀ b, D b) (hl0 : Laid w) (hn : -9223372036854775808 ≤ q ∧ q ≤ 9223372036854775807) (h1 : a.length ≤ 12) (h2 : b.length ≤ 200) (hf0 : fieldB q = true) (hr0 : a.all (resB q) = true) (hxn : 0 ≤ x) (hxb : x < q) (hd0 : a.Nodup) (hab0 : a.length = b.length) (hs0 : b.all (resB q) = false) (he0 : IErr q a b 2) (hw0 : ChkR q a [x] 0)  :
    Calls Tryd.prog 3 #[.int .i64 q, .slice xa a.length xk, .slice ya b.length yk, .int .i64 x] w fun e w' => e = .returned (.bool true) ∧ Below w.heap.size w w' := by
  have E0 : Hid (Env D w [] [.rw (.slice ya b.length yk) b.length 1 (icl b), .rw (.slice xa a.length xk) a.length 1 (icl a)] w) := Lib.hid (((Env.start D w).arg (.rw (.slice xa a.length xk) a.length 1 (icl a)) hx).arg (.rw (.slice ya b.length yk) b.length 1 (icl b)) hy)
  clear hx hy
  go_enter Tryd.func3, Tryd.ntmps3
  have HN := Lib.hid hn
  have hDD := Lib.hid hDD0
  have hl := Lib.hid hl0
  have hf := Lib.hid hf0
  have hr := Lib.hid hr0
  have hd := Lib.hid hd0
  have hab := Lib.hid hab0
  have hs := Lib.hid hs0
  have he := Lib.hid he0
  have hw := Lib.hid hw0
  clear hDD0 hl0 hf0 hr0 hd0 hab0 hs0 he0 hw0
  go_wp2_with fail
  refine (awake13_c (hl.out.below E0.out.bel)).mono ?_
  rintro e w1 ⟨rfl, hb⟩
  have E1 : Hid (Env D w [] [.rw (.slice ya b.length yk) b.length 1 (icl b), .rw (.slice xa a.length xk) a.length 1 (icl a)] w1) := Lib.hid (E0.out.below hb)
  clear E0 hb
  have d1 : decide ((12 : Int) < (a.length : Int)) = false := decide_eq_false (by omega)
  have d1n : decide (12 < a.length) = false := decide_eq_false (by omega)
  have d3 : decide ((200 : Int) < (a.length : Int)) = false := decide_eq_false (by omega)
  have d3n : decide (200 < a.length) = false := decide_eq_false (by omega)
  have d4 : decide ((200 : Int) < (b.length : Int)) = false := decide_eq_false (by omega)
  have d4n : decide (200 < b.length) = false := decide_eq_false (by omega)
  go_wp2_with fail
  refine (Interp_E q a b (E1.out.fc 1 rfl) (E1.out.fc 0 rfl) (hl.out.below E1.out.bel) HN.out (by omega) he.out).mono ?_
  rintro e w2 ⟨rfl, hb⟩
  have E2 : Hid (Env D w [] [.rw (.slice ya b.length yk) b.length 1 (icl b), .rw (.slice xa a.length xk) a.length 1 (icl a)] w2) := Lib.hid (E1.out.below hb)
  clear E1 hb
  go_wp2_with fail
  refine (Weights_R q a x (E2.out.fc 1 rfl) (hl.out.below E2.out.bel) hw.out).mono ?_
  rintro e w3 ⟨⟨O, HO, sa, sk, rfl, sh⟩, hb⟩
  have HOL : Hid (O.length ≤ 1000000) := Lib.hid (WtR_len HO.out (by omega))
  have E3 : Hid (Env D w [] [.rw (.slice sa O.length sk) O.length 1 (ncl O), .rw (.slice ya b.length yk) b.length 1 (icl b), .rw (.slice xa a.length xk) a.length 1 (icl a)] w3) := Lib.hid (E2.out.got (E2.out.below hb) (.rw (.slice sa O.length sk) O.length 1 (ncl O)) (Lib.hid (Rw.up hDD.out sh.out)).out)
  clear E2 hb
  have d5 : decide ((100 : Int) < (a.length : Int)) = false := decide_eq_false (by omega)
  have d5n : decide (100 < a.length) = false := decide_eq_false (by omega)
  go_wp2_with fail
  refine (rField_c q _ HN.out.1 hf.out).mono ?_
  rintro e w4 ⟨rfl, hb⟩
  have E4 : Hid (Env D w [] [.rw (.slice sa O.length sk) O.length 1 (ncl O), .rw (.slice ya b.length yk) b.length 1 (icl b), .rw (.slice xa a.length xk) a.length 1 (icl a)] w4) := Lib.hid (E3.out.below hb)
  clear E3 hb
  have dx : decide (x < 0) = false := decide_eq_false (by omega)
  have dy : decide (q ≤ x) = false := decide_eq_false (by omega)
  have dz : decide (x ≥ q) = false := decide_eq_false (by omega)
  go_wp2_with fail
  refine (rResidues_c q a (E4.out.fc 2 rfl) hr.out (by omega)).mono ?_
  rintro e w5 ⟨rfl, hb⟩
  have E5 : Hid (Env D w [] [.rw (.slice sa O.length sk) O.length 1 (ncl O), .rw (.slice ya b.length yk) b.length 1 (icl b), .rw (.slice xa a.length xk) a.length 1 (icl a)] w5) := Lib.hid (E4.out.below hb)
  clear E4 hb
  go_wp2_with fail
  refine (rTwice_R q a (E5.out.fc 2 rfl) (by omega) hr.out (t := false) (by simp [hd.out])).mono ?_
  rintro e w6 ⟨rfl, hb⟩
  have E6 : Hid (Env D w [] [.rw (.slice sa O.length sk) O.length 1 (ncl O), .rw (.slice ya b.length yk) b.length 1 (icl b), .rw (.slice xa a.length xk) a.length 1 (icl a)] w6) := Lib.hid (E5.out.below hb)
  clear E5 hb
  have m1 : ((a.length : Int) != (b.length : Int)) = false := by rw [hab.out]; simp
  have m2 : (a.length != b.length) = false := by rw [hab.out]; simp
  go_wp2_with fail
  refine (rResidues_c q a (E6.out.fc 2 rfl) hr.out (by omega)).mono ?_
  rintro e w7 ⟨rfl, hb⟩
  have E7 : Hid (Env D w [] [.rw (.slice sa O.length sk) O.length 1 (ncl O), .rw (.slice ya b.length yk) b.length 1 (icl b), .rw (.slice xa a.length xk) a.length 1 (icl a)] w7) := Lib.hid (E6.out.below hb)
  clear E6 hb
  go_wp2_with fail
  refine (rResidues_c q b (E7.out.fc 1 rfl) hs.out (by omega)).mono ?_
  rintro e w8 ⟨rfl, hb⟩
  have E8 : Hid (Env D w [] [.rw (.slice sa O.length sk) O.length 1 (ncl O), .rw (.slice ya b.length yk) b.length 1 (icl b), .rw (.slice xa a.length xk) a.length 1 (icl a)] w8) := Lib.hid (E7.out.below hb)
  clear E7 hb
  go_wp2_with fail
  refine (rWeights_R q a x (E8.out.fc 2 rfl) (by omega) HO.out).mono ?_
  rintro e w9 ⟨⟨ya2, yk2, rfl, yh⟩, hb⟩
  have E9 : Hid (Env D w [] [.rw (.slice sa O.length sk) O.length 1 (ncl O), .rw (.slice ya b.length yk) b.length 1 (icl b), .rw (.slice xa a.length xk) a.length 1 (icl a)] w9) := Lib.hid (E8.out.below hb)
  clear E8 hb
  go_wp2_with fail
  refine (equalN_c (t := true) (a := O) (b := O) (Rw.tr (E9.out.fc 0 rfl)) (Rw.tr yh.out) HOL.out HOL.out (by simp)).mono ?_
  rintro e w10 ⟨rfl, hb⟩
  have E10 : Hid (Env D w [] [.rw (.slice sa O.length sk) O.length 1 (ncl O), .rw (.slice ya b.length yk) b.length 1 (icl b), .rw (.slice xa a.length xk) a.length 1 (icl a)] w10) := Lib.hid (E9.out.below hb)
  clear E9 hb
  have hfin := Lib.hid E10.out.bel
  go_wp2
  go_ret
  exact ⟨rfl, hfin.out⟩
set_option maxRecDepth 100000 in
set_option maxHeartbeats 2000000 in
theorem pi_GG {D : Nat → Prop} (q : Int) (a b : List Int) (x : Int) {xa ya : Option Addr} {xk yk : Nat} {w : World} (hx : Fct.at w D (.rw (.slice xa a.length xk) a.length 1 (icl a))) (hy : Fct.at w D (.rw (.slice ya b.length yk) b.length 1 (icl b))) (hDD0 : ∀ b, D b) (hl0 : Laid w) (hn : -9223372036854775808 ≤ q ∧ q ≤ 9223372036854775807) (h1 : a.length ≤ 12) (h2 : b.length ≤ 200) (hf0 : fieldB q = true) (hr0 : a.all (resB q) = true) (hxn : 0 ≤ x) (hxb : x < q) (hd0 : a.Nodup) (hab0 : a.length = b.length) (hs0 : b.all (resB q) = true) (he0 : ChkR q a b 0) (hw0 : ChkR q a [x] 0)  :
    Calls Tryd.prog 3 #[.int .i64 q, .slice xa a.length xk, .slice ya b.length yk, .int .i64 x] w fun e w' => e = .returned (.bool true) ∧ Below w.heap.size w w' := by
  have E0 : Hid (Env D w [] [.rw (.slice ya b.length yk) b.length 1 (icl b), .rw (.slice xa a.length xk) a.length 1 (icl a)] w) := Lib.hid (((Env.start D w).arg (.rw (.slice xa a.length xk) a.length 1 (icl a)) hx).arg (.rw (.slice ya b.length yk) b.length 1 (icl b)) hy)
  clear hx hy
  go_enter Tryd.func3, Tryd.ntmps3
  have HN := Lib.hid hn
  have hDD := Lib.hid hDD0
  have hl := Lib.hid hl0
  have hf := Lib.hid hf0
  have hr := Lib.hid hr0
  have hd := Lib.hid hd0
  have hab := Lib.hid hab0
  have hs := Lib.hid hs0
  have he := Lib.hid he0
  have hw := Lib.hid hw0
  clear hDD0 hl0 hf0 hr0 hd0 hab0 hs0 he0 hw0
  go_wp2_with fail
  refine (awake13_c (hl.out.below E0.out.bel)).mono ?_
  rintro e w1 ⟨rfl, hb⟩
  have E1 : Hid (Env D w [] [.rw (.slice ya b.length yk) b.length 1 (icl b), .rw (.slice xa a.length xk) a.length 1 (icl a)] w1) := Lib.hid (E0.out.below hb)
  clear E0 hb
  have d1 : decide ((12 : Int) < (a.length : Int)) = false := decide_eq_false (by omega)
  have d1n : decide (12 < a.length) = false := decide_eq_false (by omega)
  have d3 : decide ((200 : Int) < (a.length : Int)) = false := decide_eq_false (by omega)
  have d3n : decide (200 < a.length) = false := decide_eq_false (by omega)
  have d4 : decide ((200 : Int) < (b.length : Int)) = false := decide_eq_false (by omega)
  have d4n : decide (200 < b.length) = false := decide_eq_false (by omega)
  go_wp2_with fail
  refine (Interp_R q a b (E1.out.fc 1 rfl) (E1.out.fc 0 rfl) (hl.out.below E1.out.bel) hab.out he.out).mono ?_
  rintro e w2 ⟨⟨L, HI, ra, rk, rfl, rh⟩, hb⟩
  have HLL : Hid (L.length ≤ 1000000) := Lib.hid (IpR_len HI.out (by omega))
  have E2 : Hid (Env D w [] [.rw (.slice ra L.length rk) L.length 1 (ncl L), .rw (.slice ya b.length yk) b.length 1 (icl b), .rw (.slice xa a.length xk) a.length 1 (icl a)] w2) := Lib.hid (E1.out.got (E1.out.below hb) (.rw (.slice ra L.length rk) L.length 1 (ncl L)) (Lib.hid (Rw.up hDD.out rh.out)).out)
  clear E1 hb
  go_wp2_with fail
  refine (Weights_R q a x (E2.out.fc 2 rfl) (hl.out.below E2.out.bel) hw.out).mono ?_
  rintro e w3 ⟨⟨O, HO, sa, sk, rfl, sh⟩, hb⟩
  have HOL : Hid (O.length ≤ 1000000) := Lib.hid (WtR_len HO.out (by omega))
  have E3 : Hid (Env D w [] [.rw (.slice sa O.length sk) O.length 1 (ncl O), .rw (.slice ra L.length rk) L.length 1 (ncl L), .rw (.slice ya b.length yk) b.length 1 (icl b), .rw (.slice xa a.length xk) a.length 1 (icl a)] w3) := Lib.hid (E2.out.got (E2.out.below hb) (.rw (.slice sa O.length sk) O.length 1 (ncl O)) (Lib.hid (Rw.up hDD.out sh.out)).out)
  clear E2 hb
  have d5 : decide ((100 : Int) < (a.length : Int)) = false := decide_eq_false (by omega)
  have d5n : decide (100 < a.length) = false := decide_eq_false (by omega)
  go_wp2_with fail
  refine (rField_c q _ HN.out.1 hf.out).mono ?_
  rintro e w4 ⟨rfl, hb⟩
  have E4 : Hid (Env D w [] [.rw (.slice sa O.length sk) O.length 1 (ncl O), .rw (.slice ra L.length rk) L.length 1 (ncl L), .rw (.slice ya b.length yk) b.length 1 (icl b), .rw (.slice xa a.length xk) a.length 1 (icl a)] w4) := Lib.hid (E3.out.below hb)
  clear E3 hb
  have dx : decide (x < 0) = false := decide_eq_false (by omega)
  have dy : decide (q ≤ x) = false := decide_eq_false (by omega)
  have dz : decide (x ≥ q) = false := decide_eq_false (by omega)
  go_wp2_with fail
  refine (rResidues_c q a (E4.out.fc 3 rfl) hr.out (by omega)).mono ?_
  rintro e w5 ⟨rfl, hb⟩
  have E5 : Hid (Env D w [] [.rw (.slice sa O.length sk) O.length 1 (ncl O), .rw (.slice ra L.length rk) L.length 1 (ncl L), .rw (.slice ya b.length yk) b.length 1 (icl b), .rw (.slice xa a.length xk) a.length 1 (icl a)] w5) := Lib.hid (E4.out.below hb)
  clear E4 hb
  go_wp2_with fail
  refine (rTwice_R q a (E5.out.fc 3 rfl) (by omega) hr.out (t := false) (by simp [hd.out])).mono ?_
  rintro e w6 ⟨rfl, hb⟩
  have E6 : Hid (Env D w [] [.rw (.slice sa O.length sk) O.length 1 (ncl O), .rw (.slice ra L.length rk) L.length 1 (ncl L), .rw (.slice ya b.length yk) b.length 1 (icl b), .rw (.slice xa a.length xk) a.length 1 (icl a)] w6) := Lib.hid (E5.out.below hb)
  clear E5 hb
  have m1 : ((a.length : Int) != (b.length : Int)) = false := by rw [hab.out]; simp
  have m2 : (a.length != b.length) = false := by rw [hab.out]; simp
  go_wp2_with fail
  refine (rResidues_c q a (E6.out.fc 3 rfl) hr.out (by omega)).mono ?_
  rintro e w7 ⟨rfl, hb⟩
  have E7 : Hid (Env D w [] [.rw (.slice sa O.length sk) O.length 1 (ncl O), .rw (.slice ra L.length rk) L.length 1 (ncl L), .rw (.slice ya b.length yk) b.length 1 (icl b), .rw (.slice xa a.length xk) a.length 1 (icl a)] w7) := Lib.hid (E6.out.below hb)
  clear E6 hb
  go_wp2_with fail
  refine (rResidues_c q b (E7.out.fc 2 rfl) hs.out (by omega)).mono ?_
  rintro e w8 ⟨rfl, hb⟩
  have E8 : Hid (Env D w [] [.rw (.slice sa O.length sk) O.length 1 (ncl O), .rw (.slice ra L.length rk) L.length 1 (ncl L), .rw (.slice ya b.length yk) b.length 1 (icl b), .rw (.slice xa a.length xk) a.length 1 (icl a)] w8) := Lib.hid (E7.out.below hb)
  clear E7 hb
  go_wp2_with fail
  refine (rTwice_R q a (E8.out.fc 3 rfl) (by omega) hr.out (t := false) (by simp [hd.out])).mono ?_
  rintro e w9 ⟨rfl, hb⟩
  have E9 : Hid (Env D w [] [.rw (.slice sa O.length sk) O.length 1 (ncl O), .rw (.slice ra L.length rk) L.length 1 (ncl L), .rw (.slice ya b.length yk) b.length 1 (icl b), .rw (.slice xa a.length xk) a.length 1 (icl a)] w9) := Lib.hid (E8.out.below hb)
  clear E8 hb
  go_wp2_with fail
  refine (rInterp_R q a b (E9.out.fc 3 rfl) (E9.out.fc 2 rfl) hab.out (by omega) HI.out).mono ?_
  rintro e w10 ⟨⟨za, zk, rfl, zh⟩, hb⟩
  have E10 : Hid (Env D w [] [.rw (.slice sa O.length sk) O.length 1 (ncl O), .rw (.slice ra L.length rk) L.length 1 (ncl L), .rw (.slice ya b.length yk) b.length 1 (icl b), .rw (.slice xa a.length xk) a.length 1 (icl a)] w10) := Lib.hid (E9.out.below hb)
  clear E9 hb
  go_wp2_with fail
  refine (equalN_c (t := true) (a := L) (b := L) (Rw.tr (E10.out.fc 1 rfl)) (Rw.tr zh.out) HLL.out HLL.out (by simp)).mono ?_
  rintro e w11 ⟨rfl, hb⟩
  have E11 : Hid (Env D w [] [.rw (.slice sa O.length sk) O.length 1 (ncl O), .rw (.slice ra L.length rk) L.length 1 (ncl L), .rw (.slice ya b.length yk) b.length 1 (icl b), .rw (.slice xa a.length xk) a.length 1 (icl a)] w11) := Lib.hid (E10.out.below hb)
  clear E10 hb
  go_wp2_with fail
  refine (rWeights_R q a x (E11.out.fc 3 rfl) (by omega) HO.out).mono ?_
  rintro e w12 ⟨⟨ya2, yk2, rfl, yh⟩, hb⟩
  have E12 : Hid (Env D w [] [.rw (.slice sa O.length sk) O.length 1 (ncl O), .rw (.slice ra L.length rk) L.length 1 (ncl L), .rw (.slice ya b.length yk) b.length 1 (icl b), .rw (.slice xa a.length xk) a.length 1 (icl a)] w12) := Lib.hid (E11.out.below hb)
  clear E11 hb
  go_wp2_with fail
  refine (equalN_c (t := true) (a := O) (b := O) (Rw.tr (E12.out.fc 0 rfl)) (Rw.tr yh.out) HOL.out HOL.out (by simp)).mono ?_
  rintro e w13 ⟨rfl, hb⟩
  have E13 : Hid (Env D w [] [.rw (.slice sa O.length sk) O.length 1 (ncl O), .rw (.slice ra L.length rk) L.length 1 (ncl L), .rw (.slice ya b.length yk) b.length 1 (icl b), .rw (.slice xa a.length xk) a.length 1 (icl a)] w13) := Lib.hid (E12.out.below hb)
  clear E12 hb
  have hfin := Lib.hid E13.out.bel
  go_wp2
  go_ret
  exact ⟨rfl, hfin.out⟩
theorem PolyInterpolates_walk {D : Nat → Prop} (q : Int) (a b : List Int) (x : Int) {xa ya : Option Addr} {xk yk : Nat} {w : World} (hx0 : Fct.at w D (.rw (.slice xa a.length xk) a.length 1 (icl a))) (hy0 : Fct.at w D (.rw (.slice ya b.length yk) b.length 1 (icl b))) (hl : Laid w) (hn : -9223372036854775808 ≤ q ∧ q ≤ 9223372036854775807) :
    Calls Tryd.prog 3 #[.int .i64 q, .slice xa a.length xk, .slice ya b.length yk, .int .i64 x] w fun e w' => e = .returned (.bool true) ∧ Below w.heap.size w w' := by
  have hx := Rw.tr hx0
  have hy := Rw.tr hy0
  have hD : ∀ b : Nat, (fun _ : Nat => True) b := fun _ => trivial
  by_cases g1 : 12 < a.length ∧ a.length ≤ 100
  · exact pi_a (D := fun _ => True) q a b x hx hy hD hl hn g1.1 g1.2
  by_cases g2 : 200 < a.length
  · exact pi_b (D := fun _ => True) q a b x hx hy hD hl hn g2
  by_cases g3 : 200 < b.length
  · by_cases g4 : a.length ≤ 12
    · exact pi_c (D := fun _ => True) q a b x hx hy hD hl hn g4 g3
    · exact pi_d (D := fun _ => True) q a b x hx hy hD hl hn (by omega) (by omega) g3
  have k1 : ∀ c, c ≠ 0 → (a.length = b.length → ChkR q a b c) → (a.length ≠ b.length → c = 1) → IErr q a b c := fun c h0 h1 h2 => ⟨h0, by
    by_cases e : a.length = b.length
    · exact Or.inr ⟨e, h1 e⟩
    · exact Or.inl ⟨e, h2 e⟩⟩
  cases hf : fieldB q with
  | false =>
    have hw : ChkR q a [x] 1 := Or.inl ⟨hf, rfl⟩
    have he : IErr q a b 1 := k1 1 (by decide) (fun _ => Or.inl ⟨hf, rfl⟩) (fun _ => rfl)
    by_cases g4 : a.length ≤ 12
    · exact pi_FE (D := fun _ => True) q a b x hx hy hD hl hn g4 (by omega) hf he hw
    · exact pi_FEb (D := fun _ => True) q a b x hx hy hD hl hn (by omega) (by omega) (by omega) hf he hw
  | true =>
    by_cases g4 : a.length ≤ 12
    rotate_left
    · have g5 : 100 < a.length := by omega
      exact pi_LEb (D := fun _ => True) q a b x hx hy hD hl hn g5 (by omega) (by omega) hf (k1 1 (by decide) (fun _ => Or.inr (Or.inl ⟨hf, g5, rfl⟩)) (fun _ => rfl)) (Or.inr (Or.inl ⟨hf, g5, rfl⟩))
    have g5 : a.length ≤ 100 := by omega
    have g6 : b.length ≤ 200 := by omega
    have heN : a.length ≠ b.length → IErr q a b 1 := fun h => ⟨by decide, Or.inl ⟨h, rfl⟩⟩
    cases hr : a.all (resB q) with
    | false =>
      have hw : ChkR q a [x] 2 := Or.inr (Or.inr (Or.inl ⟨hf, g5, hr, rfl⟩))
      by_cases hab : a.length = b.length
      · exact pi_RRx (D := fun _ => True) q a b x hx hy hD hl hn g4 g6 hf hr hab ⟨by decide, Or.inr ⟨hab, Or.inr (Or.inr (Or.inl ⟨hf, g5, hr, rfl⟩))⟩⟩ hw
      · exact pi_RN (D := fun _ => True) q a b x hx hy hD hl hn g4 g6 hf hr hab (heN hab) hw
    | true =>
      have heRy : b.all (resB q) = false → a.length = b.length → IErr q a b 2 := fun h h2 => ⟨by decide, Or.inr ⟨h2, Or.inr (Or.inr (Or.inr (Or.inl ⟨hf, g5, hr, h, rfl⟩)))⟩⟩
      have heT : b.all (resB q) = true → ¬ a.Nodup → a.length = b.length → IErr q a b 8 := fun h h3 h2 => ⟨by decide, Or.inr ⟨h2, Or.inr (Or.inr (Or.inr (Or.inr (Or.inl ⟨hf, g5, hr, h, h3, rfl⟩))))⟩⟩
      have heG : b.all (resB q) = true → a.Nodup → ChkR q a b 0 := fun h h3 => Or.inr (Or.inr (Or.inr (Or.inr (Or.inr ⟨hf, g5, hr, h, h3, rfl⟩))))
      have hwx : [x].all (resB q) = false → ChkR q a [x] 2 := fun h => Or.inr (Or.inr (Or.inr (Or.inl ⟨hf, g5, hr, h, rfl⟩)))
      have xr : [x].all (resB q) = (decide (0 ≤ x) && decide (x < q)) := by simp [resB]
      by_cases x0 : x < 0
      · have hw := hwx (by rw [xr, decide_eq_false (by omega), Bool.false_and])
        by_cases hab : a.length = b.length
        rotate_left
        · exact pi_xnN (D := fun _ => True) q a b x hx hy hD hl hn g4 g6 hf hr x0 hab (heN hab) hw
        cases hs : b.all (resB q) with
        | false => exact pi_xnRy (D := fun _ => True) q a b x hx hy hD hl hn g4 g6 hf hr x0 hab hs (heRy hs hab) hw
        | true =>
          by_cases hd : a.Nodup
          · exact pi_xnG (D := fun _ => True) q a b x hx hy hD hl hn g4 g6 hf hr x0 hd hab hs (heG hs hd) hw
          · exact pi_xnT (D := fun _ => True) q a b x hx hy hD hl hn g4 g6 hf hr x0 hd hab hs (heT hs hd hab) hw
      by_cases x1 : q ≤ x
      · have hw := hwx (by rw [xr, decide_eq_false (p := x < q) (by omega), Bool.and_false])
        by_cases hab : a.length = b.length
        rotate_left
        · exact pi_xbN (D := fun _ => True) q a b x hx hy hD hl hn g4 g6 hf hr (by omega) x1 hab (heN hab) hw
        cases hs : b.all (resB q) with
        | false => exact pi_xbRy (D := fun _ => True) q a b x hx hy hD hl hn g4 g6 hf hr (by omega) x1 hab hs (heRy hs hab) hw
        | true =>
          by_cases hd : a.Nodup
          · exact pi_xbG (D := fun _ => True) q a b x hx hy hD hl hn g4 g6 hf hr (by omega) x1 hd hab hs (heG hs hd) hw
          · exact pi_xbT (D := fun _ => True) q a b x hx hy hD hl hn g4 g6 hf hr (by omega) x1 hd hab hs (heT hs hd hab) hw
      have xg : [x].all (resB q) = true := by rw [xr, decide_eq_true (by omega), decide_eq_true (by omega)]; rfl
      by_cases hd : a.Nodup
      · have hw : ChkR q a [x] 0 := Or.inr (Or.inr (Or.inr (Or.inr (Or.inr ⟨hf, g5, hr, xg, hd, rfl⟩))))
        by_cases hab : a.length = b.length
        rotate_left
        · exact pi_GN (D := fun _ => True) q a b x hx hy hD hl hn g4 g6 hf hr (by omega) (by omega) hd hab (heN hab) hw
        cases hs : b.all (resB q) with
        | false => exact pi_GRy (D := fun _ => True) q a b x hx hy hD hl hn g4 g6 hf hr (by omega) (by omega) hd hab hs (heRy hs hab) hw
        | true => exact pi_GG (D := fun _ => True) q a b x hx hy hD hl hn g4 g6 hf hr (by omega) (by omega) hd hab hs (heG hs hd) hw
      · have hw : ChkR q a [x] 8 := Or.inr (Or.inr (Or.inr (Or.inr (Or.inl ⟨hf, g5, hr, xg, hd, rfl⟩))))
        by_cases hab : a.length = b.length
        rotate_left
        · exact pi_TN (D := fun _ => True) q a b x hx hy hD hl hn g4 g6 hf hr (by omega) (by omega) hd hab (heN hab) hw
        cases hs : b.all (resB q) with
        | false => exact pi_TRy (D := fun _ => True) q a b x hx hy hD hl hn g4 g6 hf hr (by omega) (by omega) hd hab hs (heRy hs hab) hw
        | true => exact pi_TT (D := fun _ => True) q a b x hx hy hD hl hn g4 g6 hf hr (by omega) (by omega) hd hab hs (heT hs hd hab) hw
end Go.Proofs.YteipbcpnnojclaaDoor

/- Picked declarations of VsBa, VsBd. -/
import Derived.Test.YtikopkkebdobdaaGreatDoorVxU
import Derived.Test.YtikopkkebdobdaaGreatDoorVxK
import Derived.Test.YtikopkkebdobdaaGreatDoorVxY
import Derived.Test.YtikopkkebdobdaaGreatDoorVxI
namespace Go.Proofs.YtikopkkebdobdaaGreatDoor
set_option linter.unusedVariables false
set_option linter.unusedSimpArgs false
open Go.RowKit
theorem fac_c0 {R N : Nat} (h : ¬ (R = 0 ∨ ¬ R < N)) (hg : Nn.NatMath.invG R N = 1) : facC R N = 0 := by unfold facC; rw [if_neg h, if_pos hg]
open Go.RowKit
theorem unitg_u (K X : Nat) {pa qa xa : Option Addr} {pk qn qk xk : Nat} {w : World} (ha : Nn.Sl w (.slice pa (Nn.NatMath.len K) pk) (Nn.NatMath.digs K)) (hx : Nn.Sl w (.slice xa (Nn.NatMath.len X) xk) (Nn.NatMath.digs X)) {t : Bool} (ht0 : decide (Nat.gcd X K = 1) = t) (hK : 2 ≤ K) (h1 : Nn.NatMath.len X ≤ 64) (h2 : Nn.NatMath.len K ≤ 64) :
  Calls Tryz.prog 27 #[.agg #[.slice pa (Nn.NatMath.len K) pk, .slice qa qn qk], .agg #[.slice xa (Nn.NatMath.len X) xk]] w fun e w' => e = .returned (.bool t) ∧ Below w.heap.size w w' := by
 by_cases h0 : Nn.NatMath.len X = 0
 ·have hX := Nn.NatMath.len_eq_zero.1 h0
  have : t = false := by rw [← ht0, hX]; exact decide_eq_false (by rw [Nat.gcd_zero_left]; omega)
  subst this
  rw [h0]; exact unit_0 K ha
 ·exact unit_c K X ha hx ht0 (Nat.pos_of_ne_zero h0) h1 h2
open Nn.NatMath in
theorem only_r {N X Y r : Nat} (hN : 2 ≤ N) (hY : Nat.gcd Y N = 1) (hXl : X < N) (hrl : r < N) (g1 : invG r N = 1) (g3 : X * invV r N % N = Y) : r = X * invV Y N % N := by
 have h0 : N ≠ 0 := by omega
 rw [invG_eq h0] at g1
 have i1 := invV_mul h0 g1
 have i2 := invV_mul h0 hY
 have one : 1 % N = 1 := Nat.mod_eq_of_lt (by omega)
 rw [one] at i1 i2
 have e1 : r * Y % N = X := by
  rw [← g3, Nat.mul_mod_mod, ← Nat.mul_assoc, Nat.mul_comm r X, Nat.mul_assoc, ← Nat.mul_mod_mod, i1, Nat.mul_one, Nat.mod_eq_of_lt hXl]
 rw [← e1, Nat.mod_mul_mod, Nat.mul_assoc, ← Nat.mul_mod_mod, i2, Nat.mul_one, Nat.mod_eq_of_lt hrl]
open Nn.NatMath in
theorem the_r {N E X Y h B r : Nat} (hN : 2 ≤ N) (hX : Nat.gcd X N = 1) (hY : Nat.gcd Y N = 1) (hXl : X < N) (hYl : Y < N) (hv : h = Y ^ E % N) (hB : X ^ E % N = B) (hr : r = X * invV Y N % N) :
  r ≠ 0 ∧ r < N ∧ invG r N = 1 ∧ h * (r ^ E % N) % N = B ∧ X * invV r N % N = Y := by
 have h0 : N ≠ 0 := by omega
 have i2 := invV_mul h0 hY
 have one : 1 % N = 1 := Nat.mod_eq_of_lt (by omega)
 rw [one] at i2
 have e1 : r * Y % N = X := by
  rw [hr, Nat.mod_mul_mod, Nat.mul_assoc, ← Nat.mul_mod_mod, Nat.mul_comm _ Y, i2, Nat.mul_one, Nat.mod_eq_of_lt hXl]
 have hrl : r < N := by rw [hr]; exact Nat.mod_lt _ (by omega)
 have g1 : Nat.gcd r N = 1 := by
  have d1 : Nat.gcd r N ∣ X := by rw [← e1]; exact (Nat.dvd_mod_iff (Nat.gcd_dvd_right r N)).2 (Nat.dvd_trans (Nat.gcd_dvd_left r N) (Nat.dvd_mul_right r Y))
  have d2 := Nat.dvd_gcd d1 (Nat.gcd_dvd_right r N)
  rw [hX] at d2
  exact Nat.dvd_one.1 d2
 have i1 := invV_mul h0 g1
 rw [one] at i1
 refine ⟨?_, hrl, by rw [invG_eq h0]; exact g1, ?_, ?_⟩
 ·rintro h1
  rw [h1, Nat.zero_mul, Nat.zero_mod] at i1; omega
 ·rw [hv, Nat.mul_mod_mod, Nat.mod_mul_mod, ← Nat.mul_pow, Nat.pow_mod, Nat.mul_comm, e1, hB]
 ·rw [← e1, Nat.mod_mul_mod, Nat.mul_comm r Y, Nat.mul_assoc, ← Nat.mul_mod_mod, i1, Nat.mul_one, Nat.mod_eq_of_lt hYl]
/-- what the reference's Verify answers -/
def VerR (lN lE lS l : List Nat) (t : Bool) : Prop := ∀ (a b x : Value) (ba : Option Addr) (bk : Nat) (w : World), Nn.Sl w a lN → Nn.Sl w b lE → Nn.Sl w x lS → Fct.at w (fun _ => True) (.bs (.slice ba l.length bk) l) →
 Calls Tryz.prog 23 #[.agg #[a, b], .slice ba l.length bk, .agg #[x]] w fun e w' => e = .returned (.bool t) ∧ Below w.heap.size w w'
theorem ver_cases {w0 : World} {a b x : Value} {lN lE lS : List Nat} (l : List Nat) (ha : Nn.Sl w0 a lN) (hb : Nn.Sl w0 b lE) (hx : Nn.Sl w0 x lS) :
  VerR lN lE lS l false ∨ ∃ N E R, lN = Nn.NatMath.digs N ∧ lE = Nn.NatMath.digs E ∧ lS = Nn.NatMath.digs R ∧ Key N E ∧ Nn.NatMath.len R ≤ 64 ∧ l.length ≤ 16384 ∧ R < N ∧ R ^ E % N = hshN l % N ∧ VerR (Nn.NatMath.digs N) (Nn.NatMath.digs E) (Nn.NatMath.digs R) l true := by
 cases hk : kV lN lE with
 | false =>
  refine .inl fun a b x ba bk w h1 h2 h3 hM => ?_
  obtain ⟨_, _, rfl, _⟩ := id h1; obtain ⟨_, _, rfl, _⟩ := id h2; obtain ⟨_, _, rfl, _⟩ := id h3
  exact rVerify_1 lN lE lS l h1 h2 h3 hk
 | true =>
  obtain ⟨N, E, rfl, rfl, HK⟩ := Key.of ha hb hk
  cases v1 : Nn.vld lS with
  | false =>
   refine .inl fun a b x ba bk w h1 h2 h3 hM => ?_
   obtain ⟨_, _, rfl, _⟩ := (h1 : Nn.Nt w a N).open
   obtain ⟨_, _, rfl, _⟩ := (h2 : Nn.Nt w b E).open
   obtain ⟨_, _, rfl, _⟩ := id h3
   exact rVerify_2 N E lS l h1 h2 h3 HK v1
  | true =>
   obtain ⟨R, rfl, lR0, _⟩ := Nn.nt_of hx v1
   have op : ∀ {Q : Prop} {a b x : Value} {w : World}, Nn.Sl w a (Nn.NatMath.digs N) → Nn.Sl w b (Nn.NatMath.digs E) → Nn.Sl w x (Nn.NatMath.digs R) → (∀ (na ea xa : Option Addr) (nk ek xk : Nat), a = .slice na (Nn.NatMath.len N) nk → b = .slice ea (Nn.NatMath.len E) ek → x = .slice xa (Nn.NatMath.len R) xk → Q) → Q := by
    intro Q a b x w h1 h2 h3 K
    obtain ⟨_, _, e1, _⟩ := (h1 : Nn.Nt w a N).open
    obtain ⟨_, _, e2, _⟩ := (h2 : Nn.Nt w b E).open
    obtain ⟨_, _, e3, _⟩ := (h3 : Nn.Nt w x R).open
    exact K _ _ _ _ _ _ e1 e2 e3
   by_cases hm : 16384 < l.length
   ·refine .inl fun a b x ba bk w h1 h2 h3 hM => op h1 h2 h3 fun na ea xa nk ek xk e1 e2 e3 => ?_
    subst e1 e2 e3
    exact rVerify_5 N E R l h1 h2 h3 HK v1 hm
   ·have hm := Nat.le_of_not_lt hm
    cases k1 : decide (R < N) with
    | false =>
     refine .inl fun a b x ba bk w h1 h2 h3 hM => op h1 h2 h3 fun na ea xa nk ek xk e1 e2 e3 => ?_
     subst e1 e2 e3
     exact rVerify_3 N E R l h1 h2 h3 HK v1 hm k1
    | true =>
     cases k2 : decide (R ^ E % N = hshN l % N) with
     | false =>
      refine .inl fun a b x ba bk w h1 h2 h3 hM => op h1 h2 h3 fun na ea xa nk ek xk e1 e2 e3 => ?_
      subst e1 e2 e3
      exact rVerify_ok N E R l h1 h2 h3 hM HK v1 hm k1 rfl rfl k2
     | true =>
      refine .inr ⟨N, E, R, rfl, rfl, rfl, HK, lR0, hm, of_decide_eq_true k1, of_decide_eq_true k2, fun a b x ba bk w h1 h2 h3 hM => op h1 h2 h3 fun na ea xa nk ek xk e1 e2 e3 => ?_⟩
      subst e1 e2 e3
      exact rVerify_ok N E R l h1 h2 h3 hM HK v1 hm k1 rfl rfl k2
set_option maxRecDepth 100000 in
set_option maxHeartbeats 8000000 in
theorem VU_1 (lN lE lG lS lT : List Nat) (l : List Nat) {na ea ga sa ta ma : Option Addr} {nk ek gk sk tk mk : Nat} {w : World} (zn : Nn.Sl w (.slice na lN.length nk) lN) (ze : Nn.Sl w (.slice ea lE.length ek) lE) (zg : Nn.Sl w (.slice ga lG.length gk) lG) (zs : Nn.Sl w (.slice sa lS.length sk) lS) (zt : Nn.Sl w (.slice ta lT.length tk) lT) (zm : Fct.at w (fun _ => True) (.bs (.slice ma l.length mk) l)) (hl0 : Laid w) (hT0 : TabD w) (hg0 : [lN, lE, lG, lS, lT].any big = true)  :
  Calls Tryz.prog 7 #[.agg #[.slice na lN.length nk, .slice ea lE.length ek], .agg #[.slice ga lG.length gk], .agg #[.slice sa lS.length sk], .agg #[.slice ta lT.length tk], .slice ma l.length mk] w fun e w' => e = .returned (.bool true) ∧ Below w.heap.size w w' := by
 have E0 := Zh (((((((Env.start (fun _ => True) w).arg (.bs (.slice ma l.length mk) l) zm).argS zn).argS ze).argS zg).argS zs).argS zt)
 clear zn ze zg zs zt zm
 go_enter Tryz.func7, Tryz.ntmps7
 have hl := Zh hl0
 have hT := Zh hT0
 have hg := Zh hg0
 clear hl0 hT0 hg0
 go_wp2_with fail
 have E1 := Zh (((((E0.out.push 26 [.slice na lN.length nk, .slice ea lE.length ek] (w.heap.size) (by simp)).push 24 [.slice ga lG.length gk] (w.heap.size + 1) (by simp)).push 24 [.slice sa lS.length sk] (w.heap.size + 1 + 1) (by simp)).push 24 [.slice ta lT.length tk] (w.heap.size + 1 + 1 + 1) (by simp)))
 refine (awake24_c (hl.out.below E1.out.bel)).mono ?_
 rintro e w1 ⟨rfl, hb⟩
 have E2 := Zh (E1.out.below hb)
 clear E0 E1 hb
 have b1 := E2.out.bx 3 rfl
 have c1_0 := b1.cell 0 rfl
 clear b1
 have b2 := E2.out.bx 3 rfl
 have c2_1 := b2.cell 1 rfl
 clear b2
 have b3 := E2.out.bx 2 rfl
 have c3_0 := b3.cell 0 rfl
 clear b3
 have b4 := E2.out.bx 1 rfl
 have c4_0 := b4.cell 0 rfl
 clear b4
 have b5 := E2.out.bx 0 rfl
 have c5_0 := b5.cell 0 rfl
 clear b5
 have E3 := Zh ((E2.out.push 24 [.slice na lN.length nk, .slice ea lE.length ek, .slice ga lG.length gk, .slice sa lS.length sk, .slice ta lT.length tk] (w1.heap.size) (by simp)))
 go_wp2_with fail
 refine (great_c [lN, lE, lG, lS, lT] (xb := w1.heap.size) (xo := 0) (xk := 5) (gNs.box (E3.out.bx 0 rfl) ⟨(gS.sl (E3.out.fc 4 rfl)), ⟨(gS.sl (E3.out.fc 3 rfl)), ⟨(gS.sl (E3.out.fc 2 rfl)), ⟨(gS.sl (E3.out.fc 1 rfl)), ⟨(gS.sl (E3.out.fc 0 rfl)), trivial⟩⟩⟩⟩⟩) (t := true) hg.out (by simp)).mono ?_
 rintro e w2 ⟨rfl, hb⟩
 have E4 := Zh (E3.out.below hb)
 clear c1_0 c2_1 c3_0 c4_0 c5_0 E2 E3 hb
 have hfin := Zh E4.out.bel
 go_wp2
 go_ret
 exact ⟨rfl, hfin.out⟩
set_option maxRecDepth 100000 in
set_option maxHeartbeats 8000000 in
theorem VU_2 (lN lE lG lS lT : List Nat) (l : List Nat) {na ea ga sa ta ma : Option Addr} {nk ek gk sk tk mk : Nat} {w : World} (zn : Nn.Sl w (.slice na lN.length nk) lN) (ze : Nn.Sl w (.slice ea lE.length ek) lE) (zg : Nn.Sl w (.slice ga lG.length gk) lG) (zs : Nn.Sl w (.slice sa lS.length sk) lS) (zt : Nn.Sl w (.slice ta lT.length tk) lT) (zm : Fct.at w (fun _ => True) (.bs (.slice ma l.length mk) l)) (hl0 : Laid w) (hT0 : TabD w) (hg0 : [lN, lE, lG, lS, lT].any big = false) (hm0 : 1000 < l.length) :
  Calls Tryz.prog 7 #[.agg #[.slice na lN.length nk, .slice ea lE.length ek], .agg #[.slice ga lG.length gk], .agg #[.slice sa lS.length sk], .agg #[.slice ta lT.length tk], .slice ma l.length mk] w fun e w' => e = .returned (.bool true) ∧ Below w.heap.size w w' := by
 have E0 := Zh (((((((Env.start (fun _ => True) w).arg (.bs (.slice ma l.length mk) l) zm).argS zn).argS ze).argS zg).argS zs).argS zt)
 clear zn ze zg zs zt zm
 go_enter Tryz.func7, Tryz.ntmps7
 have hl := Zh hl0
 have hT := Zh hT0
 have hg := Zh hg0
 have hm := Zh hm0
 clear hl0 hT0 hg0 hm0
 have q1 : decide ((1000 : Int) < (l.length : Int)) = true := decide_eq_true (by have := hm.out; omega)
 have q2 : decide (1000 < l.length) = true := decide_eq_true (by have := hm.out; omega)
 go_wp2_with fail
 have E1 := Zh (((((E0.out.push 26 [.slice na lN.length nk, .slice ea lE.length ek] (w.heap.size) (by simp)).push 24 [.slice ga lG.length gk] (w.heap.size + 1) (by simp)).push 24 [.slice sa lS.length sk] (w.heap.size + 1 + 1) (by simp)).push 24 [.slice ta lT.length tk] (w.heap.size + 1 + 1 + 1) (by simp)))
 refine (awake24_c (hl.out.below E1.out.bel)).mono ?_
 rintro e w1 ⟨rfl, hb⟩
 have E2 := Zh (E1.out.below hb)
 clear E0 E1 hb
 have b1 := E2.out.bx 3 rfl
 have c1_0 := b1.cell 0 rfl
 clear b1
 have b2 := E2.out.bx 3 rfl
 have c2_1 := b2.cell 1 rfl
 clear b2
 have b3 := E2.out.bx 2 rfl
 have c3_0 := b3.cell 0 rfl
 clear b3
 have b4 := E2.out.bx 1 rfl
 have c4_0 := b4.cell 0 rfl
 clear b4
 have b5 := E2.out.bx 0 rfl
 have c5_0 := b5.cell 0 rfl
 clear b5
 have E3 := Zh ((E2.out.push 24 [.slice na lN.length nk, .slice ea lE.length ek, .slice ga lG.length gk, .slice sa lS.length sk, .slice ta lT.length tk] (w1.heap.size) (by simp)))
 go_wp2_with fail
 refine (great_c [lN, lE, lG, lS, lT] (xb := w1.heap.size) (xo := 0) (xk := 5) (gNs.box (E3.out.bx 0 rfl) ⟨(gS.sl (E3.out.fc 4 rfl)), ⟨(gS.sl (E3.out.fc 3 rfl)), ⟨(gS.sl (E3.out.fc 2 rfl)), ⟨(gS.sl (E3.out.fc 1 rfl)), ⟨(gS.sl (E3.out.fc 0 rfl)), trivial⟩⟩⟩⟩⟩) (t := false) hg.out (by simp)).mono ?_
 rintro e w2 ⟨rfl, hb⟩
 have E4 := Zh (E3.out.below hb)
 clear c1_0 c2_1 c3_0 c4_0 c5_0 E2 E3 hb
 have hfin := Zh E4.out.bel
 go_wp2
 go_ret
 exact ⟨rfl, hfin.out⟩
set_option maxRecDepth 100000 in
set_option maxHeartbeats 8000000 in
theorem VU_3 (lN lE lG lS lT : List Nat) (l : List Nat) {na ea ga sa ta ma : Option Addr} {nk ek gk sk tk mk : Nat} {w : World} (zn : Nn.Sl w (.slice na lN.length nk) lN) (ze : Nn.Sl w (.slice ea lE.length ek) lE) (zg : Nn.Sl w (.slice ga lG.length gk) lG) (zs : Nn.Sl w (.slice sa lS.length sk) lS) (zt : Nn.Sl w (.slice ta lT.length tk) lT) (zm : Fct.at w (fun _ => True) (.bs (.slice ma l.length mk) l)) (hl0 : Laid w) (hT0 : TabD w) (hg0 : [lN, lE, lG, lS, lT].any big = false) (hm0 : ¬ 1000 < l.length) (hV0 : VerR lN lE lS l false) :
  Calls Tryz.prog 7 #[.agg #[.slice na lN.length nk, .slice ea lE.length ek], .agg #[.slice ga lG.length gk], .agg #[.slice sa lS.length sk], .agg #[.slice ta lT.length tk], .slice ma l.length mk] w fun e w' => e = .returned (.bool true) ∧ Below w.heap.size w w' := by
 have E0 := Zh (((((((Env.start (fun _ => True) w).arg (.bs (.slice ma l.length mk) l) zm).argS zn).argS ze).argS zg).argS zs).argS zt)
 clear zn ze zg zs zt zm
 go_enter Tryz.func7, Tryz.ntmps7
 have hl := Zh hl0
 have hT := Zh hT0
 have hg := Zh hg0
 have hm := Zh hm0
 have hV := Zh hV0
 clear hl0 hT0 hg0 hm0 hV0
 have q1 : decide ((1000 : Int) < (l.length : Int)) = false := decide_eq_false (by have := hm.out; omega)
 have q2 : decide (1000 < l.length) = false := decide_eq_false (by have := hm.out; omega)
 go_wp2_with fail
 have E1 := Zh (((((E0.out.push 26 [.slice na lN.length nk, .slice ea lE.length ek] (w.heap.size) (by simp)).push 24 [.slice ga lG.length gk] (w.heap.size + 1) (by simp)).push 24 [.slice sa lS.length sk] (w.heap.size + 1 + 1) (by simp)).push 24 [.slice ta lT.length tk] (w.heap.size + 1 + 1 + 1) (by simp)))
 refine (awake24_c (hl.out.below E1.out.bel)).mono ?_
 rintro e w1 ⟨rfl, hb⟩
 have E2 := Zh (E1.out.below hb)
 clear E0 E1 hb
 have b1 := E2.out.bx 3 rfl
 have c1_0 := b1.cell 0 rfl
 clear b1
 have b2 := E2.out.bx 3 rfl
 have c2_1 := b2.cell 1 rfl
 clear b2
 have b3 := E2.out.bx 2 rfl
 have c3_0 := b3.cell 0 rfl
 clear b3
 have b4 := E2.out.bx 1 rfl
 have c4_0 := b4.cell 0 rfl
 clear b4
 have b5 := E2.out.bx 0 rfl
 have c5_0 := b5.cell 0 rfl
 clear b5
 have E3 := Zh ((E2.out.push 24 [.slice na lN.length nk, .slice ea lE.length ek, .slice ga lG.length gk, .slice sa lS.length sk, .slice ta lT.length tk] (w1.heap.size) (by simp)))
 go_wp2_with fail
 refine (great_c [lN, lE, lG, lS, lT] (xb := w1.heap.size) (xo := 0) (xk := 5) (gNs.box (E3.out.bx 0 rfl) ⟨(gS.sl (E3.out.fc 4 rfl)), ⟨(gS.sl (E3.out.fc 3 rfl)), ⟨(gS.sl (E3.out.fc 2 rfl)), ⟨(gS.sl (E3.out.fc 1 rfl)), ⟨(gS.sl (E3.out.fc 0 rfl)), trivial⟩⟩⟩⟩⟩) (t := false) hg.out (by simp)).mono ?_
 rintro e w2 ⟨rfl, hb⟩
 have E4 := Zh (E3.out.below hb)
 clear c1_0 c2_1 c3_0 c4_0 c5_0 E2 E3 hb
 have b6 := E4.out.bx 4 rfl
 have c6_0 := b6.cell 0 rfl
 have c6_1 := b6.cell 1 rfl
 clear b6
 have b7 := E4.out.bx 2 rfl
 have c7_0 := b7.cell 0 rfl
 clear b7
 go_wp2_with fail
 refine (hV.out _ _ _ _ _ _ (gS.sl (E4.out.fc 4 rfl)) (gS.sl (E4.out.fc 3 rfl)) (gS.sl (E4.out.fc 1 rfl)) (Bs.any (E4.out.fc 5 rfl))).mono ?_
 rintro e w3 ⟨rfl, hb⟩
 have E5 := Zh (E4.out.below hb)
 clear c6_0 c6_1 c7_0 E4 hb
 have hfin := Zh E5.out.bel
 go_wp2
 go_ret
 exact ⟨rfl, hfin.out⟩
set_option maxRecDepth 100000 in
set_option maxHeartbeats 8000000 in
theorem VU_4 (lN lE lG lS lT : List Nat) (l : List Nat) {na ea ga sa ta ma : Option Addr} {nk ek gk sk tk mk : Nat} {w : World} (zn : Nn.Sl w (.slice na lN.length nk) lN) (ze : Nn.Sl w (.slice ea lE.length ek) lE) (zg : Nn.Sl w (.slice ga lG.length gk) lG) (zs : Nn.Sl w (.slice sa lS.length sk) lS) (zt : Nn.Sl w (.slice ta lT.length tk) lT) (zm : Fct.at w (fun _ => True) (.bs (.slice ma l.length mk) l)) (hl0 : Laid w) (hT0 : TabD w) (hg0 : [lN, lE, lG, lS, lT].any big = false) (hm0 : ¬ 1000 < l.length) (hV0 : VerR lN lE lS l true) (v10 : Nn.vld lG = false) :
  Calls Tryz.prog 7 #[.agg #[.slice na lN.length nk, .slice ea lE.length ek], .agg #[.slice ga lG.length gk], .agg #[.slice sa lS.length sk], .agg #[.slice ta lT.length tk], .slice ma l.length mk] w fun e w' => e = .returned (.bool true) ∧ Below w.heap.size w w' := by
 have E0 := Zh (((((((Env.start (fun _ => True) w).arg (.bs (.slice ma l.length mk) l) zm).argS zn).argS ze).argS zg).argS zs).argS zt)
 clear zn ze zg zs zt zm
 go_enter Tryz.func7, Tryz.ntmps7
 have hl := Zh hl0
 have hT := Zh hT0
 have hg := Zh hg0
 have hm := Zh hm0
 have hV := Zh hV0
 have v1 := Zh v10
 clear hl0 hT0 hg0 hm0 hV0 v10
 have q1 : decide ((1000 : Int) < (l.length : Int)) = false := decide_eq_false (by have := hm.out; omega)
 have q2 : decide (1000 < l.length) = false := decide_eq_false (by have := hm.out; omega)
 go_wp2_with fail
 have E1 := Zh (((((E0.out.push 26 [.slice na lN.length nk, .slice ea lE.length ek] (w.heap.size) (by simp)).push 24 [.slice ga lG.length gk] (w.heap.size + 1) (by simp)).push 24 [.slice sa lS.length sk] (w.heap.size + 1 + 1) (by simp)).push 24 [.slice ta lT.length tk] (w.heap.size + 1 + 1 + 1) (by simp)))
 refine (awake24_c (hl.out.below E1.out.bel)).mono ?_
 rintro e w1 ⟨rfl, hb⟩
 have E2 := Zh (E1.out.below hb)
 clear E0 E1 hb
 have b1 := E2.out.bx 3 rfl
 have c1_0 := b1.cell 0 rfl
 clear b1
 have b2 := E2.out.bx 3 rfl
 have c2_1 := b2.cell 1 rfl
 clear b2
 have b3 := E2.out.bx 2 rfl
 have c3_0 := b3.cell 0 rfl
 clear b3
 have b4 := E2.out.bx 1 rfl
 have c4_0 := b4.cell 0 rfl
 clear b4
 have b5 := E2.out.bx 0 rfl
 have c5_0 := b5.cell 0 rfl
 clear b5
 have E3 := Zh ((E2.out.push 24 [.slice na lN.length nk, .slice ea lE.length ek, .slice ga lG.length gk, .slice sa lS.length sk, .slice ta lT.length tk] (w1.heap.size) (by simp)))
 go_wp2_with fail
 refine (great_c [lN, lE, lG, lS, lT] (xb := w1.heap.size) (xo := 0) (xk := 5) (gNs.box (E3.out.bx 0 rfl) ⟨(gS.sl (E3.out.fc 4 rfl)), ⟨(gS.sl (E3.out.fc 3 rfl)), ⟨(gS.sl (E3.out.fc 2 rfl)), ⟨(gS.sl (E3.out.fc 1 rfl)), ⟨(gS.sl (E3.out.fc 0 rfl)), trivial⟩⟩⟩⟩⟩) (t := false) hg.out (by simp)).mono ?_
 rintro e w2 ⟨rfl, hb⟩
 have E4 := Zh (E3.out.below hb)
 clear c1_0 c2_1 c3_0 c4_0 c5_0 E2 E3 hb
 have b6 := E4.out.bx 4 rfl
 have c6_0 := b6.cell 0 rfl
 have c6_1 := b6.cell 1 rfl
 clear b6
 have b7 := E4.out.bx 2 rfl
 have c7_0 := b7.cell 0 rfl
 clear b7
 go_wp2_with fail
 refine (hV.out _ _ _ _ _ _ (gS.sl (E4.out.fc 4 rfl)) (gS.sl (E4.out.fc 3 rfl)) (gS.sl (E4.out.fc 1 rfl)) (Bs.any (E4.out.fc 5 rfl))).mono ?_
 rintro e w3 ⟨rfl, hb⟩
 have E5 := Zh (E4.out.below hb)
 clear c6_0 c6_1 c7_0 E4 hb
 have b8 := E5.out.bx 3 rfl
 have c8_0 := b8.cell 0 rfl
 clear b8
 go_wp2_with fail
 refine (rvalidF v1.out (gS.sl (E5.out.fc 2 rfl))).mono ?_
 rintro e w4 ⟨rfl, hb⟩
 have E6 := Zh (E5.out.below hb)
 clear c8_0 E5 hb
 have hfin := Zh E6.out.bel
 go_wp2
 go_ret
 exact ⟨rfl, hfin.out⟩
set_option maxRecDepth 100000 in
set_option maxHeartbeats 8000000 in
theorem VU_5 (lN lE lG lS lT : List Nat) (l : List Nat) {na ea ga sa ta ma : Option Addr} {nk ek gk sk tk mk : Nat} {w : World} (zn : Nn.Sl w (.slice na lN.length nk) lN) (ze : Nn.Sl w (.slice ea lE.length ek) lE) (zg : Nn.Sl w (.slice ga lG.length gk) lG) (zs : Nn.Sl w (.slice sa lS.length sk) lS) (zt : Nn.Sl w (.slice ta lT.length tk) lT) (zm : Fct.at w (fun _ => True) (.bs (.slice ma l.length mk) l)) (hl0 : Laid w) (hT0 : TabD w) (hg0 : [lN, lE, lG, lS, lT].any big = false) (hm0 : ¬ 1000 < l.length) (hV0 : VerR lN lE lS l true) (v10 : Nn.vld lG = true) (v20 : Nn.vld lT = false) :
  Calls Tryz.prog 7 #[.agg #[.slice na lN.length nk, .slice ea lE.length ek], .agg #[.slice ga lG.length gk], .agg #[.slice sa lS.length sk], .agg #[.slice ta lT.length tk], .slice ma l.length mk] w fun e w' => e = .returned (.bool true) ∧ Below w.heap.size w w' := by
 have E0 := Zh (((((((Env.start (fun _ => True) w).arg (.bs (.slice ma l.length mk) l) zm).argS zn).argS ze).argS zg).argS zs).argS zt)
 clear zn ze zg zs zt zm
 go_enter Tryz.func7, Tryz.ntmps7
 have hl := Zh hl0
 have hT := Zh hT0
 have hg := Zh hg0
 have hm := Zh hm0
 have hV := Zh hV0
 have v1 := Zh v10
 have v2 := Zh v20
 clear hl0 hT0 hg0 hm0 hV0 v10 v20
 have q1 : decide ((1000 : Int) < (l.length : Int)) = false := decide_eq_false (by have := hm.out; omega)
 have q2 : decide (1000 < l.length) = false := decide_eq_false (by have := hm.out; omega)
 go_wp2_with fail
 have E1 := Zh (((((E0.out.push 26 [.slice na lN.length nk, .slice ea lE.length ek] (w.heap.size) (by simp)).push 24 [.slice ga lG.length gk] (w.heap.size + 1) (by simp)).push 24 [.slice sa lS.length sk] (w.heap.size + 1 + 1) (by simp)).push 24 [.slice ta lT.length tk] (w.heap.size + 1 + 1 + 1) (by simp)))
 refine (awake24_c (hl.out.below E1.out.bel)).mono ?_
 rintro e w1 ⟨rfl, hb⟩
 have E2 := Zh (E1.out.below hb)
 clear E0 E1 hb
 have b1 := E2.out.bx 3 rfl
 have c1_0 := b1.cell 0 rfl
 clear b1
 have b2 := E2.out.bx 3 rfl
 have c2_1 := b2.cell 1 rfl
 clear b2
 have b3 := E2.out.bx 2 rfl
 have c3_0 := b3.cell 0 rfl
 clear b3
 have b4 := E2.out.bx 1 rfl
 have c4_0 := b4.cell 0 rfl
 clear b4
 have b5 := E2.out.bx 0 rfl
 have c5_0 := b5.cell 0 rfl
 clear b5
 have E3 := Zh ((E2.out.push 24 [.slice na lN.length nk, .slice ea lE.length ek, .slice ga lG.length gk, .slice sa lS.length sk, .slice ta lT.length tk] (w1.heap.size) (by simp)))
 go_wp2_with fail
 refine (great_c [lN, lE, lG, lS, lT] (xb := w1.heap.size) (xo := 0) (xk := 5) (gNs.box (E3.out.bx 0 rfl) ⟨(gS.sl (E3.out.fc 4 rfl)), ⟨(gS.sl (E3.out.fc 3 rfl)), ⟨(gS.sl (E3.out.fc 2 rfl)), ⟨(gS.sl (E3.out.fc 1 rfl)), ⟨(gS.sl (E3.out.fc 0 rfl)), trivial⟩⟩⟩⟩⟩) (t := false) hg.out (by simp)).mono ?_
 rintro e w2 ⟨rfl, hb⟩
 have E4 := Zh (E3.out.below hb)
 clear c1_0 c2_1 c3_0 c4_0 c5_0 E2 E3 hb
 have b6 := E4.out.bx 4 rfl
 have c6_0 := b6.cell 0 rfl
 have c6_1 := b6.cell 1 rfl
 clear b6
 have b7 := E4.out.bx 2 rfl
 have c7_0 := b7.cell 0 rfl
 clear b7
 go_wp2_with fail
 refine (hV.out _ _ _ _ _ _ (gS.sl (E4.out.fc 4 rfl)) (gS.sl (E4.out.fc 3 rfl)) (gS.sl (E4.out.fc 1 rfl)) (Bs.any (E4.out.fc 5 rfl))).mono ?_
 rintro e w3 ⟨rfl, hb⟩
 have E5 := Zh (E4.out.below hb)
 clear c6_0 c6_1 c7_0 E4 hb
 have b8 := E5.out.bx 3 rfl
 have c8_0 := b8.cell 0 rfl
 clear b8
 go_wp2_with fail
 refine (rvalidF v1.out (gS.sl (E5.out.fc 2 rfl))).mono ?_
 rintro e w4 ⟨rfl, hb⟩
 have E6 := Zh (E5.out.below hb)
 clear c8_0 E5 hb
 have b9 := E6.out.bx 1 rfl
 have c9_0 := b9.cell 0 rfl
 clear b9
 go_wp2_with fail
 refine (rvalidF v2.out (gS.sl (E6.out.fc 0 rfl))).mono ?_
 rintro e w5 ⟨rfl, hb⟩
 have E7 := Zh (E6.out.below hb)
 clear c9_0 E6 hb
 have hfin := Zh E7.out.bel
 go_wp2
 go_ret
 exact ⟨rfl, hfin.out⟩
set_option maxRecDepth 100000 in
set_option maxHeartbeats 8000000 in
theorem VU_6 (N E X0 R O0 : Nat) (l : List Nat) {na ea ga sa ta ma : Option Addr} {nk ek gk sk tk mk : Nat} {w : World} (zn : Nn.Sl w (.slice na (Nn.NatMath.len N) nk) (Nn.NatMath.digs N)) (ze : Nn.Sl w (.slice ea (Nn.NatMath.len E) ek) (Nn.NatMath.digs E)) (zg : Nn.Sl w (.slice ga (Nn.NatMath.len X0) gk) (Nn.NatMath.digs X0)) (zs : Nn.Sl w (.slice sa (Nn.NatMath.len R) sk) (Nn.NatMath.digs R)) (zt : Nn.Sl w (.slice ta (Nn.NatMath.len O0) tk) (Nn.NatMath.digs O0)) (zm : Fct.at w (fun _ => True) (.bs (.slice ma l.length mk) l)) (hl0 : Laid w) (hT0 : TabD w) (hg0 : [Nn.NatMath.digs N, Nn.NatMath.digs E, Nn.NatMath.digs X0, Nn.NatMath.digs R, Nn.NatMath.digs O0].any big = false) (hm0 : ¬ 1000 < l.length) (hV0 : VerR (Nn.NatMath.digs N) (Nn.NatMath.digs E) (Nn.NatMath.digs R) l true) (v10 : Nn.vld (Nn.NatMath.digs X0) = true) (v20 : Nn.vld (Nn.NatMath.digs O0) = true) (HK0 : Key N E) (lX00 : Nn.NatMath.len X0 ≤ 64) (lO00 : Nn.NatMath.len O0 ≤ 64) (lR0 : Nn.NatMath.len R ≤ 64) (RN0 : R < N) (hp0 : R ^ E % N = hshN l % N) {X O : Nat} (eX0 : X0 % N = X) (eO0 : O0 % N = O) :
  Calls Tryz.prog 7 #[.agg #[.slice na (Nn.NatMath.len N) nk, .slice ea (Nn.NatMath.len E) ek], .agg #[.slice ga (Nn.NatMath.len X0) gk], .agg #[.slice sa (Nn.NatMath.len R) sk], .agg #[.slice ta (Nn.NatMath.len O0) tk], .slice ma l.length mk] w fun e w' => e = .returned (.bool true) ∧ Below w.heap.size w w' := by
 have E0 := Zh (((((((Env.start (fun _ => True) w).arg (.bs (.slice ma l.length mk) l) zm).argS zn).argS ze).argS zg).argS zs).argS zt)
 clear zn ze zg zs zt zm
 go_enter Tryz.func7, Tryz.ntmps7
 have hl := Zh hl0
 have hT := Zh hT0
 have hg := Zh hg0
 have hm := Zh hm0
 have hV := Zh hV0
 have v1 := Zh v10
 have v2 := Zh v20
 have HK := Zh HK0
 have lX0 := Zh lX00
 have lO0 := Zh lO00
 have lR := Zh lR0
 have RN := Zh RN0
 have hp := Zh hp0
 have eX := Zh eX0
 have eO := Zh eO0
 clear hl0 hT0 hg0 hm0 hV0 v10 v20 HK0 lX00 lO00 lR0 RN0 hp0 eX0 eO0
 have q1 : decide ((1000 : Int) < (l.length : Int)) = false := decide_eq_false (by have := hm.out; omega)
 have q2 : decide (1000 < l.length) = false := decide_eq_false (by have := hm.out; omega)
 have HX : Hid ((X < N ∧ O < N) ∧ (Nn.NatMath.len X ≤ 64 ∧ Nn.NatMath.len O ≤ 64) ∧ Nn.NatMath.len N ≤ 64) := Zh ⟨⟨by rw [← eX.out]; exact Nat.mod_lt _ (by have := HK.out.n15; omega), by rw [← eO.out]; exact Nat.mod_lt _ (by have := HK.out.n15; omega)⟩, ⟨by rw [← eX.out]; exact Nat.le_trans (Nn.NatMath.len_mono (Nat.le_of_lt (Nat.mod_lt _ (by have := HK.out.n15; omega)))) (Nat.le_trans HK.out.lN (by omega)), by rw [← eO.out]; exact Nat.le_trans (Nn.NatMath.len_mono (Nat.le_of_lt (Nat.mod_lt _ (by have := HK.out.n15; omega)))) (Nat.le_trans HK.out.lN (by omega))⟩, Nat.le_trans HK.out.lN (by omega)⟩
 go_wp2_with fail
 have E1 := Zh (((((E0.out.push 26 [.slice na (Nn.NatMath.len N) nk, .slice ea (Nn.NatMath.len E) ek] (w.heap.size) (by simp)).push 24 [.slice ga (Nn.NatMath.len X0) gk] (w.heap.size + 1) (by simp)).push 24 [.slice sa (Nn.NatMath.len R) sk] (w.heap.size + 1 + 1) (by simp)).push 24 [.slice ta (Nn.NatMath.len O0) tk] (w.heap.size + 1 + 1 + 1) (by simp)))
 refine (awake24_c (hl.out.below E1.out.bel)).mono ?_
 rintro e w1 ⟨rfl, hb⟩
 have E2 := Zh (E1.out.below hb)
 clear E0 E1 hb
 have b1 := E2.out.bx 3 rfl
 have c1_0 := b1.cell 0 rfl
 clear b1
 have b2 := E2.out.bx 3 rfl
 have c2_1 := b2.cell 1 rfl
 clear b2
 have b3 := E2.out.bx 2 rfl
 have c3_0 := b3.cell 0 rfl
 clear b3
 have b4 := E2.out.bx 1 rfl
 have c4_0 := b4.cell 0 rfl
 clear b4
 have b5 := E2.out.bx 0 rfl
 have c5_0 := b5.cell 0 rfl
 clear b5
 have E3 := Zh ((E2.out.push 24 [.slice na (Nn.NatMath.len N) nk, .slice ea (Nn.NatMath.len E) ek, .slice ga (Nn.NatMath.len X0) gk, .slice sa (Nn.NatMath.len R) sk, .slice ta (Nn.NatMath.len O0) tk] (w1.heap.size) (by simp)))
 go_wp2_with fail
 refine (great_c [(Nn.NatMath.digs N), (Nn.NatMath.digs E), (Nn.NatMath.digs X0), (Nn.NatMath.digs R), (Nn.NatMath.digs O0)] (xb := w1.heap.size) (xo := 0) (xk := 5) (gNs.box (E3.out.bx 0 rfl) ⟨(gS.sl (E3.out.fc 4 rfl)), ⟨(gS.sl (E3.out.fc 3 rfl)), ⟨(gS.sl (E3.out.fc 2 rfl)), ⟨(gS.sl (E3.out.fc 1 rfl)), ⟨(gS.sl (E3.out.fc 0 rfl)), trivial⟩⟩⟩⟩⟩) (t := false) hg.out (by simp)).mono ?_
 rintro e w2 ⟨rfl, hb⟩
 have E4 := Zh (E3.out.below hb)
 clear c1_0 c2_1 c3_0 c4_0 c5_0 E2 E3 hb
 have b6 := E4.out.bx 4 rfl
 have c6_0 := b6.cell 0 rfl
 have c6_1 := b6.cell 1 rfl
 clear b6
 have b7 := E4.out.bx 2 rfl
 have c7_0 := b7.cell 0 rfl
 clear b7
 go_wp2_with fail
 refine (hV.out _ _ _ _ _ _ (gS.sl (E4.out.fc 4 rfl)) (gS.sl (E4.out.fc 3 rfl)) (gS.sl (E4.out.fc 1 rfl)) (Bs.any (E4.out.fc 5 rfl))).mono ?_
 rintro e w3 ⟨rfl, hb⟩
 have E5 := Zh (E4.out.below hb)
 clear c6_0 c6_1 c7_0 E4 hb
 have b8 := E5.out.bx 3 rfl
 have c8_0 := b8.cell 0 rfl
 clear b8
 go_wp2_with fail
 refine (rvalidF v1.out (gS.sl (E5.out.fc 2 rfl))).mono ?_
 rintro e w4 ⟨rfl, hb⟩
 have E6 := Zh (E5.out.below hb)
 clear c8_0 E5 hb
 have b9 := E6.out.bx 1 rfl
 have c9_0 := b9.cell 0 rfl
 clear b9
 go_wp2_with fail
 refine (rvalidF v2.out (gS.sl (E6.out.fc 0 rfl))).mono ?_
 rintro e w5 ⟨rfl, hb⟩
 have E7 := Zh (E6.out.below hb)
 clear c9_0 E6 hb
 go_wp2_with fail
 refine' wp_region_phase (by kernel_rfl) [0, 1, 2, 3, 4, 5, 6, 7] (by kernel_rfl) #[true, true, true, true, true, true, true, true, false, false] (by kernel_rfl) 2 (by kernel_rfl) [Nn.PEq (.agg #[.slice ga (Nn.NatMath.len X0) gk]), Nn.PEq (.pointer (some ⟨w.heap.size, 0, none⟩)), Nn.PEq (.agg #[.slice na (Nn.NatMath.len N) nk]), Nn.PNum X, Nn.PEq (.agg #[.slice ta (Nn.NatMath.len O0) tk]), Nn.PEq (.pointer (some ⟨w.heap.size, 0, none⟩)), Nn.PEq (.agg #[.slice na (Nn.NatMath.len N) nk]), Nn.PNum O, Fact.none, Fact.none] (List.forall_mem_cons.2 ⟨Nn.PEq.st _, List.forall_mem_cons.2 ⟨Nn.PEq.st _, List.forall_mem_cons.2 ⟨Nn.PEq.st _, List.forall_mem_cons.2 ⟨Nn.PNum.st _, List.forall_mem_cons.2 ⟨Nn.PEq.st _, List.forall_mem_cons.2 ⟨Nn.PEq.st _, List.forall_mem_cons.2 ⟨Nn.PEq.st _, List.forall_mem_cons.2 ⟨Nn.PNum.st _, List.forall_mem_cons.2 ⟨Fact.none_st, List.forall_mem_cons.2 ⟨Fact.none_st, List.forall_mem_nil _⟩⟩⟩⟩⟩⟩⟩⟩⟩⟩) _ ?hFq1 ?stepq1 ?doneq1
 case hFq1 => intro x; simp only [frameL, Act.put, List.setIfInBounds_toArray, List.set_cons_zero, List.set_cons_succ, Nat.zero_add, Nat.reduceAdd]; exact rfl
 case stepq1 =>
  refine List.forall_mem_cons.2 ⟨?_, ?_⟩
  ·intro xv bv ev WW hB hdp
   refine Nn.op_of rfl ?_
   clear hdp
   intro KK hKK
   have z0 := ((E7.out.below hB).bx 3 rfl).cell 0 rfl
   go_simp
   exact Nn.act_eq (hKK.out (.agg #[.slice ga (Nn.NatMath.len X0) gk]) _ (Below.refl _ _) rfl) (by first | rfl | simp [upd])
  refine List.forall_mem_cons.2 ⟨?_, ?_⟩
  ·intro xv bv ev WW hB hdp
   refine Nn.op_of rfl ?_
   clear hdp
   intro KK hKK
   go_simp
   exact Nn.act_eq (hKK.out _ _ (Below.refl _ _) rfl) (by first | rfl | simp [upd])
  refine List.forall_mem_cons.2 ⟨?_, ?_⟩
  ·intro xv bv ev WW hB hdp
   refine Nn.op_of rfl ?_
   have ed1 : xv 1 = .pointer (some ⟨w.heap.size, 0, none⟩) := hdp 1 (by kernel_rfl)
   clear hdp
   intro KK hKK
   have z0 := ((E7.out.below hB).bx 4 rfl).cell 0 rfl
   go_simp
   exact Nn.act_eq (hKK.out (.agg #[.slice na (Nn.NatMath.len N) nk]) _ (Below.refl _ _) rfl) (by first | rfl | simp [upd, ed1])
  refine List.forall_mem_cons.2 ⟨?_, ?_⟩
  ·intro xv bv ev WW hB hdp
   refine Nn.op_of rfl ?_
   have ed0 : xv 0 = .agg #[.slice ga (Nn.NatMath.len X0) gk] := hdp 0 (by kernel_rfl)
   have ed2 : xv 2 = .agg #[.slice na (Nn.NatMath.len N) nk] := hdp 2 (by kernel_rfl)
   clear hdp
   intro KK hKK
   go_simp
   refine (Nn.rMod_n eX.out (Nat.le_trans lX0.out (by omega)) (by have := HK.out.n15; omega) (Nat.le_trans HX.out.2.2 (by omega)) (gS.sl ((E7.out.below hB).fc 2 rfl)) (gS.sl ((E7.out.below hB).fc 4 rfl))).mono ?_
   rintro e WW' ⟨⟨xa, xk, rfl, hx⟩, hb⟩
   (try dsimp only)
   (try simp only [Act.put, pq0, pq1, pq2])
   exact Nn.act_eq (hKK.out _ _ hb ⟨_, _, rfl, hx⟩) (by first | rfl | simp [upd, ed0, ed2])
  refine List.forall_mem_cons.2 ⟨?_, ?_⟩
  ·intro xv bv ev WW hB hdp
   refine Nn.op_of rfl ?_
   clear hdp
   intro KK hKK
   have z0 := ((E7.out.below hB).bx 1 rfl).cell 0 rfl
   go_simp
   exact Nn.act_eq (hKK.out (.agg #[.slice ta (Nn.NatMath.len O0) tk]) _ (Below.refl _ _) rfl) (by first | rfl | simp [upd])
  refine List.forall_mem_cons.2 ⟨?_, ?_⟩
  ·intro xv bv ev WW hB hdp
   refine Nn.op_of rfl ?_
   clear hdp
   intro KK hKK
   go_simp
   exact Nn.act_eq (hKK.out _ _ (Below.refl _ _) rfl) (by first | rfl | simp [upd])
  refine List.forall_mem_cons.2 ⟨?_, ?_⟩
  ·intro xv bv ev WW hB hdp
   refine Nn.op_of rfl ?_
   have ed5 : xv 5 = .pointer (some ⟨w.heap.size, 0, none⟩) := hdp 5 (by kernel_rfl)
   clear hdp
   intro KK hKK
   have z0 := ((E7.out.below hB).bx 4 rfl).cell 0 rfl
   go_simp
   exact Nn.act_eq (hKK.out (.agg #[.slice na (Nn.NatMath.len N) nk]) _ (Below.refl _ _) rfl) (by first | rfl | simp [upd, ed5])
  refine List.forall_mem_cons.2 ⟨?_, ?_⟩
  ·intro xv bv ev WW hB hdp
   refine Nn.op_of rfl ?_
   have ed4 : xv 4 = .agg #[.slice ta (Nn.NatMath.len O0) tk] := hdp 4 (by kernel_rfl)
   have ed6 : xv 6 = .agg #[.slice na (Nn.NatMath.len N) nk] := hdp 6 (by kernel_rfl)
   clear hdp
   intro KK hKK
   go_simp
   refine (Nn.rMod_n eO.out (Nat.le_trans lO0.out (by omega)) (by have := HK.out.n15; omega) (Nat.le_trans HX.out.2.2 (by omega)) (gS.sl ((E7.out.below hB).fc 0 rfl)) (gS.sl ((E7.out.below hB).fc 4 rfl))).mono ?_
   rintro e WW' ⟨⟨oa, ok, rfl, ho⟩, hb⟩
   (try dsimp only)
   (try simp only [Act.put, pq0, pq1, pq2])
   exact Nn.act_eq (hKK.out _ _ hb ⟨_, _, rfl, ho⟩) (by first | rfl | simp [upd, ed4, ed6])
  exact List.forall_mem_nil _
 intro xv bv ev w6 hB hR hO
 have ed0 : xv 0 = .agg #[.slice ga (Nn.NatMath.len X0) gk] := hR 0 (by kernel_rfl)
 have ed1 : xv 1 = .pointer (some ⟨w.heap.size, 0, none⟩) := hR 1 (by kernel_rfl)
 have ed2 : xv 2 = .agg #[.slice na (Nn.NatMath.len N) nk] := hR 2 (by kernel_rfl)
 obtain ⟨xa, xk, ed3, hx⟩ := (show (Nn.PNum X) (xv 3) (bv 3) (ev 3) w6 from hR 3 (by kernel_rfl))
 have ed4 : xv 4 = .agg #[.slice ta (Nn.NatMath.len O0) tk] := hR 4 (by kernel_rfl)
 have ed5 : xv 5 = .pointer (some ⟨w.heap.size, 0, none⟩) := hR 5 (by kernel_rfl)
 have ed6 : xv 6 = .agg #[.slice na (Nn.NatMath.len N) nk] := hR 6 (by kernel_rfl)
 obtain ⟨oa, ok, ed7, ho⟩ := (show (Nn.PNum O) (xv 7) (bv 7) (ev 7) w6 from hR 7 (by kernel_rfl))
 simp only [ed0, ed1, ed2, ed3, ed4, ed5, ed6, ed7]
 have E8 := Zh (((E7.out.below hB).noteS hx.out rfl).noteS ho.out rfl)
 clear hB hR hO ed0 ed1 ed2 ed3 ed4 ed5 ed6 ed7 hx ho E7
 have b10 := E8.out.bx 3 rfl
 have c10_0 := b10.cell 0 rfl
 have f10_0 := b10.frozen 0
 clear b10
 refine wpAny_next (i := 8) (by kernel_rfl) rfl (fun KK hKK => ?_)
 go_simp
 have E9 : Hid (Env (fun _ => True) w [(w1.heap.size, 24, [.slice na (Nn.NatMath.len N) nk, .slice ea (Nn.NatMath.len E) ek, .slice ga (Nn.NatMath.len X0) gk, .slice sa (Nn.NatMath.len R) sk, .slice ta (Nn.NatMath.len O0) tk]), (w.heap.size + 1 + 1 + 1, 24, [.slice ta (Nn.NatMath.len O0) tk]), (w.heap.size + 1 + 1, 24, [.slice sa (Nn.NatMath.len R) sk]), (w.heap.size + 1, 24, [.slice xa (Nn.NatMath.len X) xk]), (w.heap.size, 26, [.slice na (Nn.NatMath.len N) nk, .slice ea (Nn.NatMath.len E) ek])] [.gn (gS (.slice oa (Nn.NatMath.len O) ok) (Nn.NatMath.digs O)), .gn (gS (.slice xa (Nn.NatMath.len X) xk) (Nn.NatMath.digs X)), .gn (gS (.slice ta (Nn.NatMath.len O0) tk) (Nn.NatMath.digs O0)), .gn (gS (.slice sa (Nn.NatMath.len R) sk) (Nn.NatMath.digs R)), .gn (gS (.slice ga (Nn.NatMath.len X0) gk) (Nn.NatMath.digs X0)), .gn (gS (.slice ea (Nn.NatMath.len E) ek) (Nn.NatMath.digs E)), .gn (gS (.slice na (Nn.NatMath.len N) nk) (Nn.NatMath.digs N)), .bs (.slice ma l.length mk) l] _) := Zh ((E8.out.set 3 0 (.slice xa (Nn.NatMath.len X) xk) rfl))
 refine hKK.out _ _ ?_
 clear hKK KK
 have b11 := E9.out.bx 1 rfl
 have c11_0 := b11.cell 0 rfl
 have f11_0 := b11.frozen 0
 clear b11
 refine wpAny_next (i := 9) (by kernel_rfl) rfl (fun KK hKK => ?_)
 go_simp
 have E10 : Hid (Env (fun _ => True) w [(w1.heap.size, 24, [.slice na (Nn.NatMath.len N) nk, .slice ea (Nn.NatMath.len E) ek, .slice ga (Nn.NatMath.len X0) gk, .slice sa (Nn.NatMath.len R) sk, .slice ta (Nn.NatMath.len O0) tk]), (w.heap.size + 1 + 1 + 1, 24, [.slice oa (Nn.NatMath.len O) ok]), (w.heap.size + 1 + 1, 24, [.slice sa (Nn.NatMath.len R) sk]), (w.heap.size + 1, 24, [.slice xa (Nn.NatMath.len X) xk]), (w.heap.size, 26, [.slice na (Nn.NatMath.len N) nk, .slice ea (Nn.NatMath.len E) ek])] [.gn (gS (.slice oa (Nn.NatMath.len O) ok) (Nn.NatMath.digs O)), .gn (gS (.slice xa (Nn.NatMath.len X) xk) (Nn.NatMath.digs X)), .gn (gS (.slice ta (Nn.NatMath.len O0) tk) (Nn.NatMath.digs O0)), .gn (gS (.slice sa (Nn.NatMath.len R) sk) (Nn.NatMath.digs R)), .gn (gS (.slice ga (Nn.NatMath.len X0) gk) (Nn.NatMath.digs X0)), .gn (gS (.slice ea (Nn.NatMath.len E) ek) (Nn.NatMath.digs E)), .gn (gS (.slice na (Nn.NatMath.len N) nk) (Nn.NatMath.digs N)), .bs (.slice ma l.length mk) l] _) := Zh ((E9.out.set 1 0 (.slice oa (Nn.NatMath.len O) ok) rfl))
 refine hKK.out _ _ ?_
 clear hKK KK
 refine wpAny_done (by kernel_rfl) ?_ _
 obtain ⟨thu, hu0⟩ : ∃ t, decide (Nat.gcd R N = 1) = t := ⟨_, rfl⟩
 have hu := Zh hu0
 clear hu0
 cases thu
 ·skip
  have b12 := E10.out.bx 4 rfl
  have c12_0 := b12.cell 0 rfl
  have c12_1 := b12.cell 1 rfl
  clear b12
  have b13 := E10.out.bx 2 rfl
  have c13_0 := b13.cell 0 rfl
  clear b13
  go_wp2_with fail
  refine (unitg_u N R (gS.sl (E10.out.fc 6 rfl)) (gS.sl (E10.out.fc 3 rfl)) hu.out (by have := HK.out.n15; omega) lR.out HX.out.2.2).mono ?_
  rintro e w7 ⟨rfl, hb⟩
  have E11 := Zh (E10.out.below hb)
  clear c10_0 f10_0 c11_0 f11_0 c12_0 c12_1 c13_0 E8 E9 E10 hb
  have hfin := Zh E11.out.bel
  go_wp2
  go_ret
  exact ⟨rfl, hfin.out⟩
 ·skip
  obtain ⟨thw, hw0⟩ : ∃ t, decide (Nat.gcd X N = 1) = t := ⟨_, rfl⟩
  have hw := Zh hw0
  clear hw0
  cases thw
  ·skip
   have b12 := E10.out.bx 4 rfl
   have c12_0 := b12.cell 0 rfl
   have c12_1 := b12.cell 1 rfl
   clear b12
   have b13 := E10.out.bx 2 rfl
   have c13_0 := b13.cell 0 rfl
   clear b13
   go_wp2_with fail
   refine (unitg_u N R (gS.sl (E10.out.fc 6 rfl)) (gS.sl (E10.out.fc 3 rfl)) hu.out (by have := HK.out.n15; omega) lR.out HX.out.2.2).mono ?_
   rintro e w7 ⟨rfl, hb⟩
   have E11 := Zh (E10.out.below hb)
   clear c10_0 f10_0 c11_0 f11_0 c12_0 c12_1 c13_0 E8 E9 E10 hb
   have b14 := E11.out.bx 4 rfl
   have c14_0 := b14.cell 0 rfl
   have c14_1 := b14.cell 1 rfl
   clear b14
   have b15 := E11.out.bx 3 rfl
   have c15_0 := b15.cell 0 rfl
   clear b15
   go_wp2_with fail
   refine (unitg_u N X (gS.sl (E11.out.fc 6 rfl)) (gS.sl (E11.out.fc 1 rfl)) hw.out (by have := HK.out.n15; omega) HX.out.2.1.1 HX.out.2.2).mono ?_
   rintro e w8 ⟨rfl, hb⟩
   have E12 := Zh (E11.out.below hb)
   clear c14_0 c14_1 c15_0 E11 hb
   have hfin := Zh E12.out.bel
   go_wp2
   go_ret
   exact ⟨rfl, hfin.out⟩
  ·skip
   have b12 := E10.out.bx 4 rfl
   have c12_0 := b12.cell 0 rfl
   have c12_1 := b12.cell 1 rfl
   clear b12
   have b13 := E10.out.bx 2 rfl
   have c13_0 := b13.cell 0 rfl
   clear b13
   go_wp2_with fail
   refine (unitg_u N R (gS.sl (E10.out.fc 6 rfl)) (gS.sl (E10.out.fc 3 rfl)) hu.out (by have := HK.out.n15; omega) lR.out HX.out.2.2).mono ?_
   rintro e w7 ⟨rfl, hb⟩
   have E11 := Zh (E10.out.below hb)
   clear c10_0 f10_0 c11_0 f11_0 c12_0 c12_1 c13_0 E8 E9 E10 hb
   have b14 := E11.out.bx 4 rfl
   have c14_0 := b14.cell 0 rfl
   have c14_1 := b14.cell 1 rfl
   clear b14
   have b15 := E11.out.bx 3 rfl
   have c15_0 := b15.cell 0 rfl
   clear b15
   go_wp2_with fail
   refine (unitg_u N X (gS.sl (E11.out.fc 6 rfl)) (gS.sl (E11.out.fc 1 rfl)) hw.out (by have := HK.out.n15; omega) HX.out.2.1.1 HX.out.2.2).mono ?_
   rintro e w8 ⟨rfl, hb⟩
   have E12 := Zh (E11.out.below hb)
   clear c14_0 c14_1 c15_0 E11 hb
   obtain ⟨B, hB0⟩ : ∃ B, X ^ E % N = B := ⟨_, rfl⟩
   obtain ⟨r, hr0⟩ : ∃ r, X * Nn.NatMath.invV R N % N = r := ⟨_, rfl⟩
   obtain ⟨h, hh0⟩ : ∃ h, hshN l % N = h := ⟨_, rfl⟩
   have HB : Hid (X ^ E % N = B ∧ B < N ∧ Nn.NatMath.len B ≤ 64) := Zh ⟨hB0, by rw [← hB0]; exact Nat.mod_lt _ (by have := HK.out.n15; omega), by rw [← hB0]; exact Nat.le_trans (Nn.NatMath.len_mono (Nat.le_of_lt (Nat.mod_lt _ (by have := HK.out.n15; omega)))) (Nat.le_trans HK.out.lN (by omega))⟩
   have Hr : Hid (X * Nn.NatMath.invV R N % N = r ∧ Nn.NatMath.len r ≤ 64) := Zh ⟨hr0, by rw [← hr0]; exact Nat.le_trans (Nn.NatMath.len_mono (Nat.le_of_lt (Nat.mod_lt _ (by have := HK.out.n15; omega)))) (Nat.le_trans HK.out.lN (by omega))⟩
   have HG : Hid (r ≠ 0 ∧ r < N ∧ Nn.NatMath.invG r N = 1 ∧ h * (r ^ E % N) % N = B ∧ X * Nn.NatMath.invV r N % N = R) := Zh (the_r (by have := HK.out.n15; omega) (of_decide_eq_true hw.out) (of_decide_eq_true hu.out) HX.out.1.1 RN.out (by rw [← hh0]; exact hp.out.symm) hB0 hr0.symm)
   have HO : Hid (Nn.NatMath.invG O N = 1 → X * Nn.NatMath.invV O N % N = R → O = r) := Zh (fun g1 g3 => by rw [← hr0]; exact only_r (by have := HK.out.n15; omega) (of_decide_eq_true hu.out) HX.out.1.1 HX.out.1.2 g1 g3)
   have HR : Hid (R ≠ 0) := Zh (fun e => by have h9 := of_decide_eq_true hu.out; rw [e, Nat.gcd_zero_left] at h9; have := HK.out.n15; omega)
   have HI : Hid (decide (Nn.NatMath.invG R N = 1) = true) := Zh (decide_eq_true (by rw [Nn.NatMath.invG_eq (by have := HK.out.n15; omega)]; exact of_decide_eq_true hu.out))
   have hh := Zh hh0
   clear hB0 hr0 hh0 hu hw hp
   have FC : Hid (facC r N = 0) := Zh (fac_c0 (by have := HG.out; omega) HG.out.2.2.1)
   have c00 : Hid (Nn.NatMath.cmp B B = 0 ∧ Nn.NatMath.cmp R R = 0) := Zh ⟨by have h9 := Nn.NatMath.cmp_zero_iff (a := B) (b := B); simpa using h9, by have h9 := Nn.NatMath.cmp_zero_iff (a := R) (b := R); simpa using h9⟩
   have b16 := E12.out.bx 4 rfl
   have c16_0 := b16.cell 0 rfl
   have c16_1 := b16.cell 1 rfl
   clear b16
   have b17 := E12.out.bx 3 rfl
   have c17_0 := b17.cell 0 rfl
   clear b17
   go_wp2_with fail
   refine (Sign_ok N E E X (gS.sl (E12.out.fc 6 rfl)) (gS.sl (E12.out.fc 5 rfl)) (gS.sl (E12.out.fc 5 rfl)) (gS.sl (E12.out.fc 1 rfl)) HK.out (by have h1 := Nat.le_trans HK.out.lE (show 32 ≤ 64 by omega); simp [Nn.vld_digs, HX.out.2.1, h1]) (Nat.le_trans HK.out.lE (by omega)) HX.out.2.1.1 (decide_eq_true HK.out.eN) (decide_eq_true HX.out.1.1) HB.out.1).mono ?_
   rintro e w9 ⟨⟨ba, bk, rfl, bh⟩, hb⟩
   have E13 := Zh ((E12.out.below hb).noteS bh.out rfl)
   clear c16_0 c16_1 c17_0 E12 hb bh
   have E14 := Zh ((E13.out.push 24 [.slice ba (Nn.NatMath.len B) bk] (w9.heap.size) (by simp)))
   have b18 := E14.out.bx 5 rfl
   have c18_0 := b18.cell 0 rfl
   have c18_1 := b18.cell 1 rfl
   clear b18
   have b19 := E14.out.bx 0 rfl
   have c19_0 := b19.cell 0 rfl
   clear b19
   have b20 := E14.out.bx 4 rfl
   have c20_0 := b20.cell 0 rfl
   clear b20
   have b21 := E14.out.bx 3 rfl
   have c21_0 := b21.cell 0 rfl
   clear b21
   go_wp2_with fail
   refine (Factor_7 N E B X R (gS.sl (E14.out.fc 7 rfl)) (gS.sl (E14.out.fc 6 rfl)) (gS.sl (E14.out.fc 0 rfl)) (gS.sl (E14.out.fc 2 rfl)) (gS.sl (E14.out.fc 4 rfl)) HK.out (by simp [Nn.vld_digs, HX.out.2.1, HB.out.2.2, lR.out]) HB.out.2.2 HX.out.2.1.1 lR.out (decide_eq_true HB.out.2.1) (decide_eq_true HX.out.1.1) (decide_eq_true RN.out) HB.out.1 (decide_eq_true rfl) HR.out HI.out rfl Hr.out.1).mono ?_
   rintro e w10 ⟨⟨fa, fk, rfl, fh⟩, hb⟩
   have E15 := Zh ((E14.out.below hb).noteS fh.out rfl)
   clear c18_0 c18_1 c19_0 c20_0 c21_0 E13 E14 hb fh
   have E16 := Zh ((E15.out.push 24 [.slice fa (Nn.NatMath.len r) fk] (w10.heap.size) (by simp)))
   go_wp2_with fail
   refine (rvalidF (t := true) (by rw [Nn.vld_digs, decide_eq_true Hr.out.2]) (gS.sl (E16.out.fc 0 rfl))).mono ?_
   rintro e w11 ⟨rfl, hb⟩
   have E17 := Zh (E16.out.below hb)
   clear E15 E16 hb
   have b22 := E17.out.bx 6 rfl
   have c22_0 := b22.cell 0 rfl
   have c22_1 := b22.cell 1 rfl
   clear b22
   have b23 := E17.out.bx 0 rfl
   have c23_0 := b23.cell 0 rfl
   clear b23
   go_wp2_with fail
   refine (Blind_ok N E r l (gS.sl (E17.out.fc 8 rfl)) (gS.sl (E17.out.fc 7 rfl)) (gS.sl (E17.out.fc 0 rfl)) (Bs.any (E17.out.fc 9 rfl)) HK.out (by simp [Nn.vld_digs, Hr.out.2]) Hr.out.2 (hT.out.below E17.out.bel) (by have := hm.out; omega) hh.out FC.out rfl HG.out.2.2.2.1).mono ?_
   rintro e w12 ⟨⟨da, dk, rfl, dh⟩, hb⟩
   have E18 := Zh ((E17.out.below hb).noteS dh.out rfl)
   clear c22_0 c22_1 c23_0 E17 hb dh
   have E19 := Zh ((E18.out.push 24 [.slice da (Nn.NatMath.len B) dk] (w12.heap.size) (by simp)))
   have b24 := E19.out.bx 7 rfl
   have c24_0 := b24.cell 0 rfl
   have c24_1 := b24.cell 1 rfl
   clear b24
   have b25 := E19.out.bx 6 rfl
   have c25_0 := b25.cell 0 rfl
   clear b25
   have b26 := E19.out.bx 1 rfl
   have c26_0 := b26.cell 0 rfl
   clear b26
   go_wp2_with fail
   refine (Unblind_ok N E X r (gS.sl (E19.out.fc 9 rfl)) (gS.sl (E19.out.fc 8 rfl)) (gS.sl (E19.out.fc 4 rfl)) (gS.sl (E19.out.fc 1 rfl)) HK.out (by simp [Nn.vld_digs, HX.out.2.1, Hr.out.2]) HX.out.2.1.1 Hr.out.2 (decide_eq_true HX.out.1.1) FC.out rfl HG.out.2.2.2.2).mono ?_
   rintro e w13 ⟨⟨ua, uk, rfl, uh⟩, hb⟩
   have E20 := Zh ((E19.out.below hb).noteS uh.out rfl)
   clear c24_0 c24_1 c25_0 c26_0 E18 E19 hb uh
   have E21 := Zh ((E20.out.push 24 [.slice ua (Nn.NatMath.len R) uk] (w13.heap.size) (by simp)))
   have b27 := E21.out.bx 1 rfl
   have c27_0 := b27.cell 0 rfl
   clear b27
   have b28 := E21.out.bx 3 rfl
   have c28_0 := b28.cell 0 rfl
   clear b28
   go_wp2_with fail
   refine (Nn.compareF c00.out.1 (gS.sl (E21.out.fc 1 rfl)) (gS.sl (E21.out.fc 3 rfl)) HB.out.2.2 HB.out.2.2).mono ?_
   rintro e w14 ⟨rfl, hb⟩
   have E22 := Zh (E21.out.below hb)
   clear c27_0 c28_0 E20 E21 hb
   have b29 := E22.out.bx 0 rfl
   have c29_0 := b29.cell 0 rfl
   clear b29
   have b30 := E22.out.bx 6 rfl
   have c30_0 := b30.cell 0 rfl
   clear b30
   go_wp2_with fail
   refine (Nn.compareF c00.out.2 (gS.sl (E22.out.fc 0 rfl)) (gS.sl (E22.out.fc 7 rfl)) lR.out lR.out).mono ?_
   rintro e w15 ⟨rfl, hb⟩
   have E23 := Zh (E22.out.below hb)
   clear c29_0 c30_0 E22 hb
   obtain ⟨ths, hs0⟩ : ∃ t, decide (O = r) = t := ⟨_, rfl⟩
   have hs := Zh hs0
   clear hs0
   cases ths
   ·skip
    have b31 := E23.out.bx 5 rfl
    have c31_0 := b31.cell 0 rfl
    clear b31
    have b32 := E23.out.bx 2 rfl
    have c32_0 := b32.cell 0 rfl
    clear b32
    go_wp2_with fail
    refine (Nn.rSame_c hs.out (gS.sl (E23.out.fc 4 rfl)) (gS.sl (E23.out.fc 2 rfl))).mono ?_
    rintro e w16 ⟨rfl, hb⟩
    have E24 := Zh (E23.out.below hb)
    clear c31_0 c32_0 E23 hb
    obtain ⟨cf, hc0⟩ : ∃ cf, facC O N = cf := ⟨_, rfl⟩
    have hc := Zh hc0
    clear hc0
    by_cases hcz : cf = 0
    ·subst hcz
     obtain ⟨r2, hr20⟩ : ∃ r2, X * Nn.NatMath.invV O N % N = r2 := ⟨_, rfl⟩
     have h2 : Hid (X * Nn.NatMath.invV O N % N = r2 ∧ Nn.NatMath.len r2 ≤ 64) := Zh ⟨hr20, by rw [← hr20]; exact Nat.le_trans (Nn.NatMath.len_mono (Nat.le_of_lt (Nat.mod_lt _ (by have := HK.out.n15; omega)))) (Nat.le_trans HK.out.lN (by omega))⟩
     have hne : r2 ≠ R := fun e => of_decide_eq_false hs.out (HO.out (facC_0 hc.out).2 (by rw [hr20, e]))
     obtain ⟨c2, hc2⟩ : ∃ c, Nn.NatMath.cmp r2 R = c := ⟨_, rfl⟩
     have HC2 := Zh hc2
     have d1 : (c2 != 0) = true := cmp_ne hc2 (decide_eq_false hne)
     have d2 : (c2 == 0) = false := by rw [← Bool.not_eq_true]; intro e; rw [bne, e] at d1; cases d1
     clear hr20 hne hc2
     have b33 := E24.out.bx 8 rfl
     have c33_0 := b33.cell 0 rfl
     have c33_1 := b33.cell 1 rfl
     clear b33
     have b34 := E24.out.bx 7 rfl
     have c34_0 := b34.cell 0 rfl
     clear b34
     have b35 := E24.out.bx 5 rfl
     have c35_0 := b35.cell 0 rfl
     clear b35
     go_wp2_with fail
     refine (Unblind_ok N E X O (gS.sl (E24.out.fc 10 rfl)) (gS.sl (E24.out.fc 9 rfl)) (gS.sl (E24.out.fc 5 rfl)) (gS.sl (E24.out.fc 4 rfl)) HK.out (by simp [Nn.vld_digs, HX.out.2.1]) HX.out.2.1.1 HX.out.2.1.2 (decide_eq_true HX.out.1.1) hc.out rfl h2.out.1).mono ?_
     rintro e w17 ⟨⟨ya, yk, rfl, yh⟩, hb⟩
     have E25 := Zh ((E24.out.below hb).noteS yh.out rfl)
     clear c33_0 c33_1 c34_0 c35_0 E24 hb yh
     have E26 := Zh ((E25.out.push 24 [.slice ya (Nn.NatMath.len r2) yk] (w17.heap.size) (by simp)))
     have b36 := E26.out.bx 7 rfl
     have c36_0 := b36.cell 0 rfl
     clear b36
     go_wp2_with fail
     refine (Nn.compareF HC2.out (gS.sl (E26.out.fc 0 rfl)) (gS.sl (E26.out.fc 8 rfl)) h2.out.2 lR.out).mono ?_
     rintro e w18 ⟨rfl, hb⟩
     have E27 := Zh (E26.out.below hb)
     clear c36_0 E25 E26 hb
     have hfin := Zh E27.out.bel
     go_wp2
     go_ret
     exact ⟨rfl, hfin.out⟩
    ·have hcn := Zh hcz
     clear hcz
     have d1 : (cf != 0) = true := bne_iff_ne.2 hcn.out
     have d2 : (cf == 0) = false := beq_eq_false_iff_ne.2 hcn.out
     have b33 := E24.out.bx 8 rfl
     have c33_0 := b33.cell 0 rfl
     have c33_1 := b33.cell 1 rfl
     clear b33
     have b34 := E24.out.bx 7 rfl
     have c34_0 := b34.cell 0 rfl
     clear b34
     have b35 := E24.out.bx 5 rfl
     have c35_0 := b35.cell 0 rfl
     clear b35
     go_wp2_with fail
     refine (Unblind_e N E X O (gS.sl (E24.out.fc 10 rfl)) (gS.sl (E24.out.fc 9 rfl)) (gS.sl (E24.out.fc 5 rfl)) (gS.sl (E24.out.fc 4 rfl)) HK.out (by simp [Nn.vld_digs, HX.out.2.1]) HX.out.2.1.1 HX.out.2.1.2 (decide_eq_true HX.out.1.1) hc.out hcn.out).mono ?_
     rintro e w17 ⟨rfl, hb⟩
     have E25 := Zh (E24.out.below hb)
     clear c33_0 c33_1 c34_0 c35_0 E24 hb
     have E26 := Zh ((E25.out.push 24 [.slice none 0 0] (w17.heap.size) (by simp)))
     have hfin := Zh E26.out.bel
     go_wp2
     go_ret
     exact ⟨rfl, hfin.out⟩
   ·skip
    have b31 := E23.out.bx 5 rfl
    have c31_0 := b31.cell 0 rfl
    clear b31
    have b32 := E23.out.bx 2 rfl
    have c32_0 := b32.cell 0 rfl
    clear b32
    go_wp2_with fail
    refine (Nn.rSame_c hs.out (gS.sl (E23.out.fc 4 rfl)) (gS.sl (E23.out.fc 2 rfl))).mono ?_
    rintro e w16 ⟨rfl, hb⟩
    have E24 := Zh (E23.out.below hb)
    clear c31_0 c32_0 E23 hb
    have hfin := Zh E24.out.bel
    go_wp2
    go_ret
    exact ⟨rfl, hfin.out⟩
theorem VoucherUnlinkable_walk {w : World} {lN lE lG lS lT l : List Nat} {na ea ga sa ta ma : Option Addr} {nk ek gk sk tk mk : Nat} (hn : Nn.Sl w (.slice na lN.length nk) lN) (he : Nn.Sl w (.slice ea lE.length ek) lE) (hd : Nn.Sl w (.slice ga lG.length gk) lG) (hs : Nn.Sl w (.slice sa lS.length sk) lS) (ht : Nn.Sl w (.slice ta lT.length tk) lT) (hM : Fct.at w (fun _ => True) (.bs (.slice ma l.length mk) l)) (hL : Laid w ∧ TabD w) :
  Calls Tryz.prog 7 #[.agg #[.slice na lN.length nk, .slice ea lE.length ek], .agg #[.slice ga lG.length gk], .agg #[.slice sa lS.length sk], .agg #[.slice ta lT.length tk], .slice ma l.length mk] w fun e w' => e = .returned (.bool true) ∧ Below w.heap.size w w' := by
 cases hg : [lN, lE, lG, lS, lT].any big with
 | true => exact VU_1 lN lE lG lS lT l hn he hd hs ht hM hL.1 hL.2 hg
 | false =>
  by_cases hm : 1000 < l.length
  ·exact VU_2 lN lE lG lS lT l hn he hd hs ht hM hL.1 hL.2 hg hm
  ·rcases ver_cases l hn he hs with hV | ⟨N, E, R, rfl, rfl, rfl, HK, lR, h16, RN, hp, hV⟩
   ·exact VU_3 lN lE lG lS lT l hn he hd hs ht hM hL.1 hL.2 hg hm hV
   ·cases v1 : Nn.vld lG with
    | false => exact VU_4 _ _ lG _ lT l hn he hd hs ht hM hL.1 hL.2 hg hm hV v1
    | true =>
     cases v2 : Nn.vld lT with
     | false => exact VU_5 _ _ lG _ lT l hn he hd hs ht hM hL.1 hL.2 hg hm hV v1 v2
     | true =>
      obtain ⟨X0, rfl, lX, _⟩ := Nn.nt_of hd v1
      obtain ⟨O0, rfl, lO, _⟩ := Nn.nt_of ht v2
      exact VU_6 N E X0 R O0 l hn he hd hs ht hM hL.1 hL.2 hg hm hV v1 v2 HK lX lO lR RN hp rfl rfl
end Go.Proofs.YtikopkkebdobdaaGreatDoor

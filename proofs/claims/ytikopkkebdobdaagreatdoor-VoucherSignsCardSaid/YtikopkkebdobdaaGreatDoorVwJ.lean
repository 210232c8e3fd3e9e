/- Picked declarations of VsBa, VsBc. -/
import Derived.Test.YtikopkkebdobdaaGreatDoorVwU
import Derived.Test.YtikopkkebdobdaaGreatDoorVwK
import Derived.Test.YtikopkkebdobdaaGreatDoorVwY
import Derived.Test.YtikopkkebdobdaaGreatDoorVwI
namespace Go.Proofs.YtikopkkebdobdaaGreatDoor
set_option maxRecDepth 100000
set_option maxHeartbeats 8000000
open Nn.NatMath (len digs)
open Nn (Sl vld ResN ResZ)
set_option linter.unusedVariables false
set_option linter.unusedSimpArgs false
open Go.RowKit
theorem len_mod {N : Nat} (h : len N ≤ 32) (hN : 15 ≤ N) (x : Nat) : len (x % N) ≤ 64 := Nat.le_trans (Nn.NatMath.len_mono (Nat.le_of_lt (Nat.mod_lt _ (by omega)))) (Nat.le_trans h (by omega))
theorem fac_c2 {R N : Nat} (h : R = 0 ∨ ¬ R < N) : facC R N = 2 := by unfold facC; rw [if_pos h]
theorem fac_c0 {R N : Nat} (h : ¬ (R = 0 ∨ ¬ R < N)) (hg : Nn.NatMath.invG R N = 1) : facC R N = 0 := by unfold facC; rw [if_neg h, if_pos hg]
theorem fac_c10 {R N : Nat} (h : ¬ (R = 0 ∨ ¬ R < N)) (hg : ¬ Nn.NatMath.invG R N = 1) : facC R N = 10 := by unfold facC; rw [if_neg h, if_neg hg]
theorem fac_f {R N : Nat} (h : R = 0 ∨ ¬ R < N) : (decide (0 < len R) && decide (R < N)) = false := by
 rcases h with rfl | h
 ·rw [Nn.NatMath.len_zero]; rfl
 ·rw [decide_eq_false h, Bool.and_false]
theorem fac_p {R N : Nat} (h : ¬ (R = 0 ∨ ¬ R < N)) : 0 < len R ∧ R < N := ⟨len_pos'.2 (by omega), by omega⟩
theorem all1 {l : List Nat} {t : Bool} (h : vld l = t) : [l].all vld = t := by rw [← h]; simp
theorem all2' {a b : List Nat} (h1 : vld a = true) (h2 : vld b = true) : [a, b].all vld = true := by simp [h1, h2]
theorem any2a {a : List Nat} (b : List Nat) (h1 : vld a = false) : [a, b].all vld = false := by simp [h1]
theorem any2b (a : List Nat) {b : List Nat} (h1 : vld b = false) : [a, b].all vld = false := by simp [h1]
/-- what both texts of Sign return -/
def SignOk (lN lE lD lM : List Nat) (R : Nat) (c : Int) : Prop := len R ≤ 64 ∧ ∀ (a b x y : Value) (w : World), Sl w a lN → Sl w b lE → Sl w x lD → Sl w y lM →
 (Calls Tryz.prog 18 #[.agg #[a, b], .agg #[x], .agg #[y]] w fun e w' => ResN R c e w' ∧ Below w.heap.size w w') ∧
 Calls Tryz.prog 19 #[.agg #[a, b], .agg #[x], .agg #[y]] w fun e w' => ResN R c e w' ∧ Below w.heap.size w w'
theorem Sign_both {w0 : World} {a b x y : Value} {lN lE lD lM : List Nat} (ha : Sl w0 a lN) (hb : Sl w0 b lE) (hx : Sl w0 x lD) (hy : Sl w0 y lM) : ∃ R c, SignOk lN lE lD lM R c := by
 cases hk : kV lN lE with
 | false =>
  refine ⟨0, 1, len0, fun a b x y w h1 h2 h3 h4 => ?_⟩
  have g1 := h1; have g2 := h2; have g3 := h3; have g4 := h4
  obtain ⟨_, _, rfl, _⟩ := g1; obtain ⟨_, _, rfl, _⟩ := g2; obtain ⟨_, _, rfl, _⟩ := g3; obtain ⟨_, _, rfl, _⟩ := g4
  exact ⟨errN (Sign_1 lN lE lD lM h1 h2 h3 h4 hk), errN (rSign_1 lN lE lD lM h1 h2 h3 h4 hk)⟩
 | true =>
  obtain ⟨N, E, rfl, rfl, HK⟩ := Key.of ha hb hk
  by_cases hv : vld lD = true ∧ vld lM = true
  rotate_left
  ·refine ⟨0, 1, len0, fun a b x y w h1 h2 h3 h4 => ?_⟩
   obtain ⟨_, _, rfl, _⟩ := (h1 : Nn.Nt w a N).open
   obtain ⟨_, _, rfl, _⟩ := (h2 : Nn.Nt w b E).open
   have g3 := h3; have g4 := h4
   obtain ⟨_, _, rfl, _⟩ := g3; obtain ⟨_, _, rfl, _⟩ := g4
   cases v1 : vld lD with
   | false => exact ⟨errN (Sign_2 N E lD lM h1 h2 h3 h4 HK (any2a _ v1)), errN (rSign_2 N E lD lM h1 h2 h3 h4 HK v1)⟩
   | true =>
    have v2 : vld lM = false := Bool.eq_false_iff.2 fun h => hv ⟨v1, h⟩
    exact ⟨errN (Sign_2 N E lD lM h1 h2 h3 h4 HK (any2b _ v2)), errN (rSign_2b N E lD lM h1 h2 h3 h4 HK v1 v2)⟩
  ·obtain ⟨v1, v2⟩ := hv
   obtain ⟨D, rfl, lD0, _⟩ := Nn.nt_of hx v1
   obtain ⟨M, rfl, lM0, _⟩ := Nn.nt_of hy v2
   have hv := all2' v1 v2
   have op : ∀ {Q : Prop} {a b x y : Value} {w : World}, Sl w a (digs N) → Sl w b (digs E) → Sl w x (digs D) → Sl w y (digs M) → (∀ (na ea xa ya : Option Addr) (nk ek xk yk : Nat), a = .slice na (len N) nk → b = .slice ea (len E) ek → x = .slice xa (len D) xk → y = .slice ya (len M) yk → Q) → Q := by
    intro Q a b x y w h1 h2 h3 h4 K
    obtain ⟨_, _, e1, _⟩ := (h1 : Nn.Nt w a N).open
    obtain ⟨_, _, e2, _⟩ := (h2 : Nn.Nt w b E).open
    obtain ⟨_, _, e3, _⟩ := (h3 : Nn.Nt w x D).open
    obtain ⟨_, _, e4, _⟩ := (h4 : Nn.Nt w y M).open
    exact K _ _ _ _ _ _ _ _ e1 e2 e3 e4
   cases k1 : decide (D < N) with
   | false =>
    refine ⟨0, 2, len0, fun a b x y w h1 h2 h3 h4 => op h1 h2 h3 h4 fun na ea xa ya nk ek xk yk e1 e2 e3 e4 => ?_⟩
    subst e1 e2 e3 e4
    exact ⟨errN (Sign_3 N E D M h1 h2 h3 h4 HK hv lD0 lM0 k1), errN (rSign_3 N E D M h1 h2 h3 h4 HK v1 v2 k1)⟩
   | true =>
    cases k2 : decide (M < N) with
    | false =>
     refine ⟨0, 2, len0, fun a b x y w h1 h2 h3 h4 => op h1 h2 h3 h4 fun na ea xa ya nk ek xk yk e1 e2 e3 e4 => ?_⟩
     subst e1 e2 e3 e4
     exact ⟨errN (Sign_3b N E D M h1 h2 h3 h4 HK hv lD0 lM0 k1 k2), errN (rSign_3b N E D M h1 h2 h3 h4 HK v1 v2 k1 k2)⟩
    | true =>
     refine ⟨M ^ D % N, 0, len_mod HK.lN HK.n15 _, fun a b x y w h1 h2 h3 h4 => op h1 h2 h3 h4 fun na ea xa ya nk ek xk yk e1 e2 e3 e4 => ?_⟩
     subst e1 e2 e3 e4
     exact ⟨Sign_ok N E D M h1 h2 h3 h4 HK hv lD0 lM0 k1 k2 rfl, rSign_ok N E D M h1 h2 h3 h4 HK v1 v2 k1 k2 lD0 rfl⟩
/-- what both texts of Unblind return -/
def UnblindOk (lN lE lM lR : List Nat) (R : Nat) (c : Int) : Prop := len R ≤ 64 ∧ ∀ (a b x y : Value) (w : World), Sl w a lN → Sl w b lE → Sl w x lM → Sl w y lR →
 (Calls Tryz.prog 20 #[.agg #[a, b], .agg #[x], .agg #[y]] w fun e w' => ResN R c e w' ∧ Below w.heap.size w w') ∧
 Calls Tryz.prog 21 #[.agg #[a, b], .agg #[x], .agg #[y]] w fun e w' => ResN R c e w' ∧ Below w.heap.size w w'
theorem Unblind_both {w0 : World} {a b x y : Value} {lN lE lM lR : List Nat} (ha : Sl w0 a lN) (hb : Sl w0 b lE) (hx : Sl w0 x lM) (hy : Sl w0 y lR) : ∃ R c, UnblindOk lN lE lM lR R c := by
 cases hk : kV lN lE with
 | false =>
  refine ⟨0, 1, len0, fun a b x y w h1 h2 h3 h4 => ?_⟩
  have g1 := h1; have g2 := h2; have g3 := h3; have g4 := h4
  obtain ⟨_, _, rfl, _⟩ := g1; obtain ⟨_, _, rfl, _⟩ := g2; obtain ⟨_, _, rfl, _⟩ := g3; obtain ⟨_, _, rfl, _⟩ := g4
  exact ⟨errN (Unblind_1 lN lE lM lR h1 h2 h3 h4 hk), errN (rUnblind_1 lN lE lM lR h1 h2 h3 h4 hk)⟩
 | true =>
  obtain ⟨N, E, rfl, rfl, HK⟩ := Key.of ha hb hk
  by_cases hv : vld lM = true ∧ vld lR = true
  rotate_left
  ·refine ⟨0, 1, len0, fun a b x y w h1 h2 h3 h4 => ?_⟩
   obtain ⟨_, _, rfl, _⟩ := (h1 : Nn.Nt w a N).open
   obtain ⟨_, _, rfl, _⟩ := (h2 : Nn.Nt w b E).open
   have g3 := h3; have g4 := h4
   obtain ⟨_, _, rfl, _⟩ := g3; obtain ⟨_, _, rfl, _⟩ := g4
   cases v1 : vld lM with
   | false => exact ⟨errN (Unblind_2 N E lM lR h1 h2 h3 h4 HK (any2a _ v1)), errN (rUnblind_2 N E lM lR h1 h2 h3 h4 HK v1)⟩
   | true =>
    have v2 : vld lR = false := Bool.eq_false_iff.2 fun h => hv ⟨v1, h⟩
    exact ⟨errN (Unblind_2 N E lM lR h1 h2 h3 h4 HK (any2b _ v2)), errN (rUnblind_2b N E lM lR h1 h2 h3 h4 HK v1 v2)⟩
  ·obtain ⟨v1, v2⟩ := hv
   obtain ⟨M, rfl, lM0, _⟩ := Nn.nt_of hx v1
   obtain ⟨R, rfl, lR0, _⟩ := Nn.nt_of hy v2
   have hv := all2' v1 v2
   have op : ∀ {Q : Prop} {a b x y : Value} {w : World}, Sl w a (digs N) → Sl w b (digs E) → Sl w x (digs M) → Sl w y (digs R) → (∀ (na ea xa ya : Option Addr) (nk ek xk yk : Nat), a = .slice na (len N) nk → b = .slice ea (len E) ek → x = .slice xa (len M) xk → y = .slice ya (len R) yk → Q) → Q := by
    intro Q a b x y w h1 h2 h3 h4 K
    obtain ⟨_, _, e1, _⟩ := (h1 : Nn.Nt w a N).open
    obtain ⟨_, _, e2, _⟩ := (h2 : Nn.Nt w b E).open
    obtain ⟨_, _, e3, _⟩ := (h3 : Nn.Nt w x M).open
    obtain ⟨_, _, e4, _⟩ := (h4 : Nn.Nt w y R).open
    exact K _ _ _ _ _ _ _ _ e1 e2 e3 e4
   cases k1 : decide (M < N) with
   | false =>
    refine ⟨0, 2, len0, fun a b x y w h1 h2 h3 h4 => op h1 h2 h3 h4 fun na ea xa ya nk ek xk yk e1 e2 e3 e4 => ?_⟩
    subst e1 e2 e3 e4
    exact ⟨errN (Unblind_3 N E M R h1 h2 h3 h4 HK hv lM0 lR0 k1), errN (rUnblind_3 N E M R h1 h2 h3 h4 HK v1 v2 k1)⟩
   | true =>
    by_cases hz : R = 0 ∨ ¬ R < N
    ·skip
     refine ⟨0, 2, len0, fun a b x y w h1 h2 h3 h4 => op h1 h2 h3 h4 fun na ea xa ya nk ek xk yk e1 e2 e3 e4 => ?_⟩
     subst e1 e2 e3 e4
     exact ⟨errN (Unblind_e N E M R h1 h2 h3 h4 HK hv lM0 lR0 k1 (fac_c2 hz) (by decide)), errN (rUnblind_3b N E M R h1 h2 h3 h4 HK v1 v2 k1 (fac_f hz))⟩
    ·have hf : (decide (0 < len R) && decide (R < N)) = true := by rw [decide_eq_true (fac_p hz).1, decide_eq_true (fac_p hz).2]; rfl
     by_cases hg : Nn.NatMath.invG R N = 1
     ·skip
      refine ⟨M * Nn.NatMath.invV R N % N, 0, len_mod HK.lN HK.n15 _, fun a b x y w h1 h2 h3 h4 => op h1 h2 h3 h4 fun na ea xa ya nk ek xk yk e1 e2 e3 e4 => ?_⟩
      subst e1 e2 e3 e4
      exact ⟨Unblind_ok N E M R h1 h2 h3 h4 HK hv lM0 lR0 k1 (fac_c0 hz hg) rfl rfl, rUnblind_ok N E M R h1 h2 h3 h4 HK v1 v2 k1 hf (decide_eq_true hg) rfl rfl⟩
     ·skip
      refine ⟨0, 10, len0, fun a b x y w h1 h2 h3 h4 => op h1 h2 h3 h4 fun na ea xa ya nk ek xk yk e1 e2 e3 e4 => ?_⟩
      subst e1 e2 e3 e4
      exact ⟨errN (Unblind_e N E M R h1 h2 h3 h4 HK hv lM0 lR0 k1 (fac_c10 hz hg) (by decide)), errN (rUnblind_n N E M R h1 h2 h3 h4 HK v1 v2 k1 hf (decide_eq_false hg))⟩
/-- what both texts of Verify return -/
def VerifyOk (lN lE lR l : List Nat) (t : Bool) : Prop :=  ∀ (a b x : Value) (ba : Option Addr) (bk : Nat) (w : World), Sl w a lN → Sl w b lE → Sl w x lR → Fct.at w (fun _ => True) (.bs (.slice ba l.length bk) l) → TabD w →
 (Calls Tryz.prog 22 #[.agg #[a, b], .slice ba l.length bk, .agg #[x]] w fun e w' => e = .returned (.bool t) ∧ Below w.heap.size w w') ∧
 Calls Tryz.prog 23 #[.agg #[a, b], .slice ba l.length bk, .agg #[x]] w fun e w' => e = .returned (.bool t) ∧ Below w.heap.size w w'
theorem Verify_both {w0 : World} {a b x : Value} {lN lE lR : List Nat} (l : List Nat) (ha : Sl w0 a lN) (hb : Sl w0 b lE) (hx : Sl w0 x lR) : ∃ t, VerifyOk lN lE lR l t := by
 cases hk : kV lN lE with
 | false =>
  refine ⟨false, fun a b x ba bk w h1 h2 h3 hM ht => ?_⟩
  have g1 := h1; have g2 := h2; have g3 := h3
  obtain ⟨_, _, rfl, _⟩ := g1; obtain ⟨_, _, rfl, _⟩ := g2; obtain ⟨_, _, rfl, _⟩ := g3
  exact ⟨(Verify_1 lN lE lR l h1 h2 h3 hk), (rVerify_1 lN lE lR l h1 h2 h3 hk)⟩
 | true =>
  obtain ⟨N, E, rfl, rfl, HK⟩ := Key.of ha hb hk
  cases v1 : vld lR with
  | false =>
   refine ⟨false, fun a b x ba bk w h1 h2 h3 hM ht => ?_⟩
   obtain ⟨_, _, rfl, _⟩ := (h1 : Nn.Nt w a N).open
   obtain ⟨_, _, rfl, _⟩ := (h2 : Nn.Nt w b E).open
   have g3 := h3
   obtain ⟨_, _, rfl, _⟩ := g3
   exact ⟨(Verify_2 N E lR l h1 h2 h3 HK (all1 v1)), (rVerify_2 N E lR l h1 h2 h3 HK v1)⟩
  | true =>
   obtain ⟨R, rfl, lR0, _⟩ := Nn.nt_of hx v1
   have hv := all1 v1
   have op : ∀ {Q : Prop} {a b x : Value} {w : World}, Sl w a (digs N) → Sl w b (digs E) → Sl w x (digs R) → (∀ (na ea xa : Option Addr) (nk ek xk : Nat), a = .slice na (len N) nk → b = .slice ea (len E) ek → x = .slice xa (len R) xk → Q) → Q := by
    intro Q a b x w h1 h2 h3 K
    obtain ⟨_, _, e1, _⟩ := (h1 : Nn.Nt w a N).open
    obtain ⟨_, _, e2, _⟩ := (h2 : Nn.Nt w b E).open
    obtain ⟨_, _, e3, _⟩ := (h3 : Nn.Nt w x R).open
    exact K _ _ _ _ _ _ e1 e2 e3
   by_cases hm : 16384 < l.length
   ·cases k1 : decide (R < N) with
    | false =>
     refine ⟨false, fun a b x ba bk w h1 h2 h3 hM ht => op h1 h2 h3 fun na ea xa nk ek xk e1 e2 e3 => ?_⟩
     subst e1 e2 e3
     exact ⟨Verify_3 N E R l h1 h2 h3 HK hv lR0 k1, rVerify_5 N E R l h1 h2 h3 HK v1 hm⟩
    | true =>
     refine ⟨false, fun a b x ba bk w h1 h2 h3 hM ht => op h1 h2 h3 fun na ea xa nk ek xk e1 e2 e3 => ?_⟩
     subst e1 e2 e3
     exact ⟨Verify_5 N E R l h1 h2 h3 HK hv lR0 k1 rfl hm, rVerify_5 N E R l h1 h2 h3 HK v1 hm⟩
   ·have hm := Nat.le_of_not_lt hm
    cases k1 : decide (R < N) with
    | false =>
     refine ⟨false, fun a b x ba bk w h1 h2 h3 hM ht => op h1 h2 h3 fun na ea xa nk ek xk e1 e2 e3 => ?_⟩
     subst e1 e2 e3
     exact ⟨Verify_3 N E R l h1 h2 h3 HK hv lR0 k1, rVerify_3 N E R l h1 h2 h3 HK v1 hm k1⟩
    | true =>
     refine ⟨decide (hshN l % N = R ^ E % N), fun a b x ba bk w h1 h2 h3 hM ht => op h1 h2 h3 fun na ea xa nk ek xk e1 e2 e3 => ?_⟩
     subst e1 e2 e3
     exact ⟨Verify_ok N E R l h1 h2 h3 hM HK hv lR0 k1 rfl ht hm rfl rfl, rVerify_ok N E R l h1 h2 h3 hM HK v1 hm k1 rfl rfl (decide_eq_decide.2 eq_comm)⟩
open Go.RowKit
theorem VS_1 (lN lE : List Nat) (lD lM lR l : List Nat) {na ea da ma ra ba : Option Addr} {nk ek dk mk rk bk : Nat} {w : World} (hN : Sl w (.slice na lN.length nk) lN) (hE : Sl w (.slice ea lE.length ek) lE) (hD : Sl w (.slice da lD.length dk) lD) (hM : Sl w (.slice ma lM.length mk) lM) (hR : Sl w (.slice ra lR.length rk) lR) (hZ : Fct.at w (fun _ => True) (.bs (.slice ba l.length bk) l)) (hl0 : Laid w) (hT0 : TabD w) (hg0 : [lN, lE, lD, lM, lR].any big = true)  :
  Calls Tryz.prog 5 #[.agg #[.slice na lN.length nk, .slice ea lE.length ek], .agg #[.slice da lD.length dk], .agg #[.slice ma lM.length mk], .agg #[.slice ra lR.length rk], .slice ba l.length bk] w fun e w' => e = .returned (.bool true) ∧ Below w.heap.size w w' := by
 have E0 := Zh (((((((Env.start (fun _ => True) w).arg (.bs (.slice ba l.length bk) l) hZ).argS hN).argS hE).argS hD).argS hM).argS hR)
 clear hN hE hD hM hR hZ
 go_enter Tryz.func5, Tryz.ntmps5
 have hl := Zh hl0
 have hT := Zh hT0
 have hg := Zh hg0
 clear hl0 hT0 hg0
 go_wp2_with fail
 have E1 := Zh (((((E0.out.push 26 [.slice na lN.length nk, .slice ea lE.length ek] (w.heap.size) (by simp)).push 24 [.slice da lD.length dk] (w.heap.size + 1) (by simp)).push 24 [.slice ma lM.length mk] (w.heap.size + 1 + 1) (by simp)).push 24 [.slice ra lR.length rk] (w.heap.size + 1 + 1 + 1) (by simp)))
 refine (awake24_c (hl.out.below E1.out.bel)).mono ?_
 rintro e w1 ⟨rfl, hb⟩
 have E2 := Zh (E1.out.below hb)
 clear E0 E1 hb
 have b1 := E2.out.bx 3 rfl
 have c1_0 := b1.cell 0 rfl
 clear b1
 have b2 := E2.out.bx 3 rfl
 have c2_1 := b2.cell 1 rfl
 clear b2
 have b3 := E2.out.bx 2 rfl
 have c3_0 := b3.cell 0 rfl
 clear b3
 have b4 := E2.out.bx 1 rfl
 have c4_0 := b4.cell 0 rfl
 clear b4
 have b5 := E2.out.bx 0 rfl
 have c5_0 := b5.cell 0 rfl
 clear b5
 have E3 := Zh ((E2.out.push 24 [.slice na lN.length nk, .slice ea lE.length ek, .slice da lD.length dk, .slice ma lM.length mk, .slice ra lR.length rk] (w1.heap.size) (by simp)))
 go_wp2_with fail
 refine (great_c [lN, lE, lD, lM, lR] (xb := w1.heap.size) (xo := 0) (xk := 5) (gNs.box (E3.out.bx 0 rfl) ⟨(gS.sl (E3.out.fc 4 rfl)), ⟨(gS.sl (E3.out.fc 3 rfl)), ⟨(gS.sl (E3.out.fc 2 rfl)), ⟨(gS.sl (E3.out.fc 1 rfl)), ⟨(gS.sl (E3.out.fc 0 rfl)), trivial⟩⟩⟩⟩⟩) (t := true) hg.out (by simp)).mono ?_
 rintro e w2 ⟨rfl, hb⟩
 have E4 := Zh (E3.out.below hb)
 clear c1_0 c2_1 c3_0 c4_0 c5_0 E2 E3 hb
 have hfin := Zh E4.out.bel
 go_wp2
 go_ret
 exact ⟨rfl, hfin.out⟩
theorem VS_2 (lN lE : List Nat) (lD lM lR l : List Nat) {na ea da ma ra ba : Option Addr} {nk ek dk mk rk bk : Nat} {w : World} (hN : Sl w (.slice na lN.length nk) lN) (hE : Sl w (.slice ea lE.length ek) lE) (hD : Sl w (.slice da lD.length dk) lD) (hM : Sl w (.slice ma lM.length mk) lM) (hR : Sl w (.slice ra lR.length rk) lR) (hZ : Fct.at w (fun _ => True) (.bs (.slice ba l.length bk) l)) (hl0 : Laid w) (hT0 : TabD w) (hg0 : [lN, lE, lD, lM, lR].any big = false) (hm0 : 20000 < l.length) :
  Calls Tryz.prog 5 #[.agg #[.slice na lN.length nk, .slice ea lE.length ek], .agg #[.slice da lD.length dk], .agg #[.slice ma lM.length mk], .agg #[.slice ra lR.length rk], .slice ba l.length bk] w fun e w' => e = .returned (.bool true) ∧ Below w.heap.size w w' := by
 have E0 := Zh (((((((Env.start (fun _ => True) w).arg (.bs (.slice ba l.length bk) l) hZ).argS hN).argS hE).argS hD).argS hM).argS hR)
 clear hN hE hD hM hR hZ
 go_enter Tryz.func5, Tryz.ntmps5
 have hl := Zh hl0
 have hT := Zh hT0
 have hg := Zh hg0
 have hm := Zh hm0
 clear hl0 hT0 hg0 hm0
 have q1 : decide ((20000 : Int) < (l.length : Int)) = true := decide_eq_true (by have := hm.out; omega)
 have q2 : decide (20000 < l.length) = true := decide_eq_true (by have := hm.out; omega)
 go_wp2_with fail
 have E1 := Zh (((((E0.out.push 26 [.slice na lN.length nk, .slice ea lE.length ek] (w.heap.size) (by simp)).push 24 [.slice da lD.length dk] (w.heap.size + 1) (by simp)).push 24 [.slice ma lM.length mk] (w.heap.size + 1 + 1) (by simp)).push 24 [.slice ra lR.length rk] (w.heap.size + 1 + 1 + 1) (by simp)))
 refine (awake24_c (hl.out.below E1.out.bel)).mono ?_
 rintro e w1 ⟨rfl, hb⟩
 have E2 := Zh (E1.out.below hb)
 clear E0 E1 hb
 have b1 := E2.out.bx 3 rfl
 have c1_0 := b1.cell 0 rfl
 clear b1
 have b2 := E2.out.bx 3 rfl
 have c2_1 := b2.cell 1 rfl
 clear b2
 have b3 := E2.out.bx 2 rfl
 have c3_0 := b3.cell 0 rfl
 clear b3
 have b4 := E2.out.bx 1 rfl
 have c4_0 := b4.cell 0 rfl
 clear b4
 have b5 := E2.out.bx 0 rfl
 have c5_0 := b5.cell 0 rfl
 clear b5
 have E3 := Zh ((E2.out.push 24 [.slice na lN.length nk, .slice ea lE.length ek, .slice da lD.length dk, .slice ma lM.length mk, .slice ra lR.length rk] (w1.heap.size) (by simp)))
 go_wp2_with fail
 refine (great_c [lN, lE, lD, lM, lR] (xb := w1.heap.size) (xo := 0) (xk := 5) (gNs.box (E3.out.bx 0 rfl) ⟨(gS.sl (E3.out.fc 4 rfl)), ⟨(gS.sl (E3.out.fc 3 rfl)), ⟨(gS.sl (E3.out.fc 2 rfl)), ⟨(gS.sl (E3.out.fc 1 rfl)), ⟨(gS.sl (E3.out.fc 0 rfl)), trivial⟩⟩⟩⟩⟩) (t := false) hg.out (by simp)).mono ?_
 rintro e w2 ⟨rfl, hb⟩
 have E4 := Zh (E3.out.below hb)
 clear c1_0 c2_1 c3_0 c4_0 c5_0 E2 E3 hb
 have hfin := Zh E4.out.bel
 go_wp2
 go_ret
 exact ⟨rfl, hfin.out⟩
theorem VS_3 (lN lE : List Nat) (lD lM lR l : List Nat) {na ea da ma ra ba : Option Addr} {nk ek dk mk rk bk : Nat} {P Q : Nat} {c d : Int} {t : Bool} {w : World} (hN : Sl w (.slice na lN.length nk) lN) (hE : Sl w (.slice ea lE.length ek) lE) (hD : Sl w (.slice da lD.length dk) lD) (hM : Sl w (.slice ma lM.length mk) lM) (hR : Sl w (.slice ra lR.length rk) lR) (hZ : Fct.at w (fun _ => True) (.bs (.slice ba l.length bk) l)) (hl0 : Laid w) (hT0 : TabD w) (hg0 : [lN, lE, lD, lM, lR].any big = false) (hm0 : ¬ 20000 < l.length) (hS0 : SignOk lN lE lD lM P c) (hU0 : UnblindOk lN lE lM lR Q d) (hV0 : VerifyOk lN lE lM l t) :
  Calls Tryz.prog 5 #[.agg #[.slice na lN.length nk, .slice ea lE.length ek], .agg #[.slice da lD.length dk], .agg #[.slice ma lM.length mk], .agg #[.slice ra lR.length rk], .slice ba l.length bk] w fun e w' => e = .returned (.bool true) ∧ Below w.heap.size w w' := by
 have E0 := Zh (((((((Env.start (fun _ => True) w).arg (.bs (.slice ba l.length bk) l) hZ).argS hN).argS hE).argS hD).argS hM).argS hR)
 clear hN hE hD hM hR hZ
 go_enter Tryz.func5, Tryz.ntmps5
 have hl := Zh hl0
 have hT := Zh hT0
 have hg := Zh hg0
 have hm := Zh hm0
 have hS := Zh hS0
 have hU := Zh hU0
 have hV := Zh hV0
 clear hl0 hT0 hg0 hm0 hS0 hU0 hV0
 have q1 : decide ((20000 : Int) < (l.length : Int)) = false := decide_eq_false (by have := hm.out; omega)
 have q2 : decide (20000 < l.length) = false := decide_eq_false (by have := hm.out; omega)
 go_wp2_with fail
 have E1 := Zh (((((E0.out.push 26 [.slice na lN.length nk, .slice ea lE.length ek] (w.heap.size) (by simp)).push 24 [.slice da lD.length dk] (w.heap.size + 1) (by simp)).push 24 [.slice ma lM.length mk] (w.heap.size + 1 + 1) (by simp)).push 24 [.slice ra lR.length rk] (w.heap.size + 1 + 1 + 1) (by simp)))
 refine (awake24_c (hl.out.below E1.out.bel)).mono ?_
 rintro e w1 ⟨rfl, hb⟩
 have E2 := Zh (E1.out.below hb)
 clear E0 E1 hb
 have b1 := E2.out.bx 3 rfl
 have c1_0 := b1.cell 0 rfl
 clear b1
 have b2 := E2.out.bx 3 rfl
 have c2_1 := b2.cell 1 rfl
 clear b2
 have b3 := E2.out.bx 2 rfl
 have c3_0 := b3.cell 0 rfl
 clear b3
 have b4 := E2.out.bx 1 rfl
 have c4_0 := b4.cell 0 rfl
 clear b4
 have b5 := E2.out.bx 0 rfl
 have c5_0 := b5.cell 0 rfl
 clear b5
 have E3 := Zh ((E2.out.push 24 [.slice na lN.length nk, .slice ea lE.length ek, .slice da lD.length dk, .slice ma lM.length mk, .slice ra lR.length rk] (w1.heap.size) (by simp)))
 go_wp2_with fail
 refine (great_c [lN, lE, lD, lM, lR] (xb := w1.heap.size) (xo := 0) (xk := 5) (gNs.box (E3.out.bx 0 rfl) ⟨(gS.sl (E3.out.fc 4 rfl)), ⟨(gS.sl (E3.out.fc 3 rfl)), ⟨(gS.sl (E3.out.fc 2 rfl)), ⟨(gS.sl (E3.out.fc 1 rfl)), ⟨(gS.sl (E3.out.fc 0 rfl)), trivial⟩⟩⟩⟩⟩) (t := false) hg.out (by simp)).mono ?_
 rintro e w2 ⟨rfl, hb⟩
 have E4 := Zh (E3.out.below hb)
 clear c1_0 c2_1 c3_0 c4_0 c5_0 E2 E3 hb
 have tt : (t == t) = true := by simp
 have b6 := E4.out.bx 4 rfl
 have c6_0 := b6.cell 0 rfl
 have c6_1 := b6.cell 1 rfl
 clear b6
 have b7 := E4.out.bx 3 rfl
 have c7_0 := b7.cell 0 rfl
 clear b7
 have b8 := E4.out.bx 2 rfl
 have c8_0 := b8.cell 0 rfl
 clear b8
 go_wp2_with fail
 refine ((hS.out.2 _ _ _ _ _ (gS.sl (E4.out.fc 4 rfl)) (gS.sl (E4.out.fc 3 rfl)) (gS.sl (E4.out.fc 2 rfl)) (gS.sl (E4.out.fc 1 rfl))).1).mono ?_
 rintro e w3 ⟨⟨ua, uk, rfl, uh⟩, hb⟩
 have E5 := Zh ((E4.out.below hb).noteS uh.out rfl)
 clear c6_0 c6_1 c7_0 c8_0 E4 hb uh
 have E6 := Zh ((E5.out.push 24 [.slice ua (len P) uk] (w3.heap.size) (by simp)))
 have b9 := E6.out.bx 5 rfl
 have c9_0 := b9.cell 0 rfl
 have c9_1 := b9.cell 1 rfl
 clear b9
 have b10 := E6.out.bx 4 rfl
 have c10_0 := b10.cell 0 rfl
 clear b10
 have b11 := E6.out.bx 3 rfl
 have c11_0 := b11.cell 0 rfl
 clear b11
 go_wp2_with fail
 refine ((hS.out.2 _ _ _ _ _ (gS.sl (E6.out.fc 5 rfl)) (gS.sl (E6.out.fc 4 rfl)) (gS.sl (E6.out.fc 3 rfl)) (gS.sl (E6.out.fc 2 rfl))).2).mono ?_
 rintro e w4 ⟨⟨va, vk, rfl, vh⟩, hb⟩
 have E7 := Zh ((E6.out.below hb).noteS vh.out rfl)
 clear c9_0 c9_1 c10_0 c11_0 E5 E6 hb vh
 have E8 := Zh ((E7.out.push 24 [.slice va (len P) vk] (w4.heap.size) (by simp)))
 have b12 := E8.out.bx 6 rfl
 have c12_0 := b12.cell 0 rfl
 have c12_1 := b12.cell 1 rfl
 clear b12
 have b13 := E8.out.bx 4 rfl
 have c13_0 := b13.cell 0 rfl
 clear b13
 have b14 := E8.out.bx 3 rfl
 have c14_0 := b14.cell 0 rfl
 clear b14
 go_wp2_with fail
 refine ((hU.out.2 _ _ _ _ _ (gS.sl (E8.out.fc 6 rfl)) (gS.sl (E8.out.fc 5 rfl)) (gS.sl (E8.out.fc 3 rfl)) (gS.sl (E8.out.fc 2 rfl))).1).mono ?_
 rintro e w5 ⟨⟨ya, yk, rfl, yh⟩, hb⟩
 have E9 := Zh ((E8.out.below hb).noteS yh.out rfl)
 clear c12_0 c12_1 c13_0 c14_0 E7 E8 hb yh
 have E10 := Zh ((E9.out.push 24 [.slice ya (len Q) yk] (w5.heap.size) (by simp)))
 have b15 := E10.out.bx 7 rfl
 have c15_0 := b15.cell 0 rfl
 have c15_1 := b15.cell 1 rfl
 clear b15
 have b16 := E10.out.bx 5 rfl
 have c16_0 := b16.cell 0 rfl
 clear b16
 have b17 := E10.out.bx 4 rfl
 have c17_0 := b17.cell 0 rfl
 clear b17
 go_wp2_with fail
 refine ((hU.out.2 _ _ _ _ _ (gS.sl (E10.out.fc 7 rfl)) (gS.sl (E10.out.fc 6 rfl)) (gS.sl (E10.out.fc 4 rfl)) (gS.sl (E10.out.fc 3 rfl))).2).mono ?_
 rintro e w6 ⟨⟨za, zk, rfl, zh⟩, hb⟩
 have E11 := Zh ((E10.out.below hb).noteS zh.out rfl)
 clear c15_0 c15_1 c16_0 c17_0 E9 E10 hb zh
 go_wp2_with fail
 have E12 := Zh ((E11.out.push 24 [.slice za (len Q) zk] (w6.heap.size) (by simp)))
 clear E11
 generalize w6.alloc (.cells #[.slice za (len Q) zk] 24) = w7 at *
 have E13 := Zh E12.out.drew
 clear E12
 refine wp_regionU (S := fun w' => w'.cell? ⟨w3.heap.size, 0, none⟩ = some (.slice ua (len P) uk) ∧ w'.cell? ⟨w4.heap.size, 0, none⟩ = some (.slice va (len P) vk) ∧ w'.cell? ⟨w5.heap.size, 0, none⟩ = some (.slice ya (len Q) yk) ∧ w'.cell? ⟨w6.heap.size, 0, none⟩ = some (.slice za (len Q) zk) ∧ w'.cell? ⟨w.heap.size, 0, none⟩ = some (.slice na lN.length nk) ∧ w'.cell? ⟨w.heap.size, 1, none⟩ = some (.slice ea lE.length ek) ∧ w'.cell? ⟨w.heap.size + 1 + 1, 0, none⟩ = some (.slice ma lM.length mk)) [] (by kernel_rfl) (⟨((E13.out.bx 3 rfl).cell 0 rfl), ((E13.out.bx 2 rfl).cell 0 rfl), ((E13.out.bx 1 rfl).cell 0 rfl), ((E13.out.bx 0 rfl).cell 0 rfl), ((E13.out.bx 8 rfl).cell 0 rfl), ((E13.out.bx 8 rfl).cell 1 rfl), ((E13.out.bx 6 rfl).cell 0 rfl)⟩) (fun hHeld => ?_)
 generalize w7.drew = w8 at *
 refine uPl [0, 1, 2, 3] ?_
 iterate 4 (refine uTl (v := ?_) ?_ ?_; rotate_left; (focus (intro wS hSw; (try dsimp only at hSw); go_simp; try with_reducible rfl)); try simp only [Act.put, pq0, pq1, pq2])
 refine Pl.z ?_
 refine uRd 4 (fun KK hKK => ?_)
 go_simp
 refine (same_c P c (gS.sl (E13.out.fc 3 rfl)) (gS.sl (E13.out.fc 2 rfl)) hS.out.1).mono ?_
 rintro e w9 ⟨rfl, hb⟩
 have E14 := Zh (E13.out.below hb)
 clear E13 hb
 (try dsimp only)
 clear hHeld
 refine hKK.out _ _ (⟨((E14.out.bx 3 rfl).cell 0 rfl), ((E14.out.bx 2 rfl).cell 0 rfl), ((E14.out.bx 1 rfl).cell 0 rfl), ((E14.out.bx 0 rfl).cell 0 rfl), ((E14.out.bx 8 rfl).cell 0 rfl), ((E14.out.bx 8 rfl).cell 1 rfl), ((E14.out.bx 6 rfl).cell 0 rfl)⟩) (fun hHeld => ?_)
 clear hKK KK
 try simp only [Act.put, pq0, pq1, pq2]
 refine uPl [5, 6, 7, 8, 9] ?_
 iterate 5 (refine uTl (v := ?_) ?_ ?_; rotate_left; (focus (intro wS hSw; (try dsimp only at hSw); go_simp; try with_reducible rfl)); try simp only [Act.put, pq0, pq1, pq2])
 refine Pl.z ?_
 refine uRd 10 (fun KK hKK => ?_)
 go_simp
 refine (same_c Q d (gS.sl (E14.out.fc 1 rfl)) (gS.sl (E14.out.fc 0 rfl)) hU.out.1).mono ?_
 rintro e w10 ⟨rfl, hb⟩
 have E15 := Zh (E14.out.below hb)
 clear E14 hb
 (try dsimp only)
 clear hHeld
 refine hKK.out _ _ (⟨((E15.out.bx 3 rfl).cell 0 rfl), ((E15.out.bx 2 rfl).cell 0 rfl), ((E15.out.bx 1 rfl).cell 0 rfl), ((E15.out.bx 0 rfl).cell 0 rfl), ((E15.out.bx 8 rfl).cell 0 rfl), ((E15.out.bx 8 rfl).cell 1 rfl), ((E15.out.bx 6 rfl).cell 0 rfl)⟩) (fun hHeld => ?_)
 clear hKK KK
 try simp only [Act.put, pq0, pq1, pq2]
 refine uPl [11, 12, 13, 14, 15, 17, 18, 19] ?_
 iterate 8 (refine uTl (v := ?_) ?_ ?_; rotate_left; (focus (intro wS hSw; (try dsimp only at hSw); go_simp; try with_reducible rfl)); try simp only [Act.put, pq0, pq1, pq2])
 refine Pl.z ?_
 refine uRd 16 (fun KK hKK => ?_)
 go_simp
 refine ((hV.out _ _ _ _ _ _ (gS.sl (E15.out.fc 8 rfl)) (gS.sl (E15.out.fc 7 rfl)) (gS.sl (E15.out.fc 5 rfl)) (Bs.any (E15.out.fc 9 rfl)) (hT.out.below E15.out.bel)).1).mono ?_
 rintro e w11 ⟨rfl, hb⟩
 have E16 := Zh (E15.out.below hb)
 clear E15 hb
 (try dsimp only)
 clear hHeld
 refine hKK.out _ _ (⟨((E16.out.bx 3 rfl).cell 0 rfl), ((E16.out.bx 2 rfl).cell 0 rfl), ((E16.out.bx 1 rfl).cell 0 rfl), ((E16.out.bx 0 rfl).cell 0 rfl), ((E16.out.bx 8 rfl).cell 0 rfl), ((E16.out.bx 8 rfl).cell 1 rfl), ((E16.out.bx 6 rfl).cell 0 rfl)⟩) (fun hHeld => ?_)
 clear hKK KK
 try simp only [Act.put, pq0, pq1, pq2]
 refine uRd 20 (fun KK hKK => ?_)
 go_simp
 refine ((hV.out _ _ _ _ _ _ (gS.sl (E16.out.fc 8 rfl)) (gS.sl (E16.out.fc 7 rfl)) (gS.sl (E16.out.fc 5 rfl)) (Bs.any (E16.out.fc 9 rfl)) (hT.out.below E16.out.bel)).2).mono ?_
 rintro e w12 ⟨rfl, hb⟩
 have E17 := Zh (E16.out.below hb)
 clear E16 hb
 (try dsimp only)
 clear hHeld
 refine hKK.out _ _ (⟨((E17.out.bx 3 rfl).cell 0 rfl), ((E17.out.bx 2 rfl).cell 0 rfl), ((E17.out.bx 1 rfl).cell 0 rfl), ((E17.out.bx 0 rfl).cell 0 rfl), ((E17.out.bx 8 rfl).cell 0 rfl), ((E17.out.bx 8 rfl).cell 1 rfl), ((E17.out.bx 6 rfl).cell 0 rfl)⟩) (fun hHeld => ?_)
 clear hKK KK
 try simp only [Act.put, pq0, pq1, pq2]
 refine uPl [21, 22, 23] ?_
 iterate 3 (refine uTl (v := ?_) ?_ ?_; rotate_left; (focus (intro wS hSw; (try dsimp only at hSw); go_simp; try with_reducible rfl)); try simp only [Act.put, pq0, pq1, pq2])
 refine Pl.z ?_
 refine uDone (by kernel_rfl) ?_ _
 have hfin := Zh E17.out.bel
 go_wp2
 go_ret
 exact ⟨rfl, hfin.out⟩
theorem VoucherSigns_walk {w : World} {lN lE lD lM lR l : List Nat} {na ea da ma ra ba : Option Addr} {nk ek dk mk rk bk : Nat} (hn : Sl w (.slice na lN.length nk) lN) (he : Sl w (.slice ea lE.length ek) lE) (hd : Sl w (.slice da lD.length dk) lD) (hm : Sl w (.slice ma lM.length mk) lM) (hr : Sl w (.slice ra lR.length rk) lR) (hM : Fct.at w (fun _ => True) (.bs (.slice ba l.length bk) l)) (hL : Laid w ∧ TabD w) :
  Calls Tryz.prog 5 #[.agg #[.slice na lN.length nk, .slice ea lE.length ek], .agg #[.slice da lD.length dk], .agg #[.slice ma lM.length mk], .agg #[.slice ra lR.length rk], .slice ba l.length bk] w fun e w' => e = .returned (.bool true) ∧ Below w.heap.size w w' := by
 cases hg : [lN, lE, lD, lM, lR].any big with
 | true => exact VS_1 lN lE lD lM lR l hn he hd hm hr hM hL.1 hL.2 hg
 | false =>
  by_cases ho : 20000 < l.length
  ·exact VS_2 lN lE lD lM lR l hn he hd hm hr hM hL.1 hL.2 hg ho
  ·obtain ⟨P, c, hS⟩ := Sign_both hn he hd hm
   obtain ⟨Q, d, hU⟩ := Unblind_both hn he hm hr
   obtain ⟨t, hV⟩ := Verify_both l hn he hm
   exact VS_3 lN lE lD lM lR l hn he hd hm hr hM hL.1 hL.2 hg ho hS hU hV
end Go.Proofs.YtikopkkebdobdaaGreatDoor

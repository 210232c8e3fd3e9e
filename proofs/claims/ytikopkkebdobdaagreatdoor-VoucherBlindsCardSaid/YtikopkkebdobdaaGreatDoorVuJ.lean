/- Picked declarations of VsBa, VsBb. -/
import Derived.Test.YtikopkkebdobdaaGreatDoorVuU
import Derived.Test.YtikopkkebdobdaaGreatDoorVuK
import Derived.Test.YtikopkkebdobdaaGreatDoorVuY
import Derived.Test.YtikopkkebdobdaaGreatDoorVuI
namespace Go.Proofs.YtikopkkebdobdaaGreatDoor
set_option linter.unusedVariables false
set_option linter.unusedSimpArgs false
open Go.RowKit
theorem len_mod {N : Nat} (h : Nn.NatMath.len N ≤ 32) (hN : 15 ≤ N) (x : Nat) : Nn.NatMath.len (x % N) ≤ 64 := Nat.le_trans (Nn.NatMath.len_mono (Nat.le_of_lt (Nat.mod_lt _ (by omega)))) (Nat.le_trans h (by omega))
theorem fac_c2 {R N : Nat} (h : R = 0 ∨ ¬ R < N) : facC R N = 2 := by unfold facC; rw [if_pos h]
theorem fac_c0 {R N : Nat} (h : ¬ (R = 0 ∨ ¬ R < N)) (hg : Nn.NatMath.invG R N = 1) : facC R N = 0 := by unfold facC; rw [if_neg h, if_pos hg]
theorem fac_c10 {R N : Nat} (h : ¬ (R = 0 ∨ ¬ R < N)) (hg : ¬ Nn.NatMath.invG R N = 1) : facC R N = 10 := by unfold facC; rw [if_neg h, if_neg hg]
theorem fac_f {R N : Nat} (h : R = 0 ∨ ¬ R < N) : (decide (0 < Nn.NatMath.len R) && decide (R < N)) = false := by
  rcases h with rfl | h
  · rw [Nn.NatMath.len_zero]; rfl
  · rw [decide_eq_false h, Bool.and_false]
theorem fac_p {R N : Nat} (h : ¬ (R = 0 ∨ ¬ R < N)) : 0 < Nn.NatMath.len R ∧ R < N := ⟨len_pos'.2 (by omega), by omega⟩
theorem all1 {l : List Nat} {t : Bool} (h : Nn.vld l = t) : [l].all Nn.vld = t := by rw [← h]; simp
/-- what both texts of Blind return -/
def BlindOk (lN lE lR l : List Nat) (R : Nat) (c : Int) : Prop := Nn.NatMath.len R ≤ 64 ∧ ∀ (a b x : Value) (ba : Option Addr) (bk : Nat) (w : World), Nn.Sl w a lN → Nn.Sl w b lE → Nn.Sl w x lR → Fct.at w (fun _ => True) (.bs (.slice ba l.length bk) l) → TabD w →
  (Calls Tryz.prog 14 #[.agg #[a, b], .slice ba l.length bk, .agg #[x]] w fun e w' => Nn.ResN R c e w' ∧ Below w.heap.size w w') ∧
  Calls Tryz.prog 15 #[.agg #[a, b], .slice ba l.length bk, .agg #[x]] w fun e w' => Nn.ResN R c e w' ∧ Below w.heap.size w w'
theorem Blind_both {w0 : World} {a b x : Value} {lN lE lR : List Nat} (l : List Nat) (ha : Nn.Sl w0 a lN) (hb : Nn.Sl w0 b lE) (hx : Nn.Sl w0 x lR) : ∃ R c, BlindOk lN lE lR l R c := by
  cases hk : kV lN lE with
  | false =>
    refine ⟨0, 1, len0, fun a b x ba bk w h1 h2 h3 hM ht => ?_⟩
    have g1 := h1; have g2 := h2; have g3 := h3
    obtain ⟨_, _, rfl, _⟩ := g1; obtain ⟨_, _, rfl, _⟩ := g2; obtain ⟨_, _, rfl, _⟩ := g3
    exact ⟨errN (Blind_1 lN lE lR l h1 h2 h3 hk), errN (rBlind_1 lN lE lR l h1 h2 h3 hk)⟩
  | true =>
    obtain ⟨N, E, rfl, rfl, HK⟩ := Key.of ha hb hk
    cases v1 : Nn.vld lR with
    | false =>
      refine ⟨0, 1, len0, fun a b x ba bk w h1 h2 h3 hM ht => ?_⟩
      obtain ⟨_, _, rfl, _⟩ := (h1 : Nn.Nt w a N).open
      obtain ⟨_, _, rfl, _⟩ := (h2 : Nn.Nt w b E).open
      have g3 := h3
      obtain ⟨_, _, rfl, _⟩ := g3
      exact ⟨errN (Blind_2 N E lR l h1 h2 h3 HK (all1 v1)), errN (rBlind_2 N E lR l h1 h2 h3 HK v1)⟩
    | true =>
      obtain ⟨R, rfl, lR0, _⟩ := Nn.nt_of hx v1
      have hv := all1 v1
      have op : ∀ {Q : Prop} {a b x : Value} {w : World}, Nn.Sl w a (Nn.NatMath.digs N) → Nn.Sl w b (Nn.NatMath.digs E) → Nn.Sl w x (Nn.NatMath.digs R) → (∀ (na ea xa : Option Addr) (nk ek xk : Nat), a = .slice na (Nn.NatMath.len N) nk → b = .slice ea (Nn.NatMath.len E) ek → x = .slice xa (Nn.NatMath.len R) xk → Q) → Q := by
        intro Q a b x w h1 h2 h3 K
        obtain ⟨_, _, e1, _⟩ := (h1 : Nn.Nt w a N).open
        obtain ⟨_, _, e2, _⟩ := (h2 : Nn.Nt w b E).open
        obtain ⟨_, _, e3, _⟩ := (h3 : Nn.Nt w x R).open
        exact K _ _ _ _ _ _ e1 e2 e3
      by_cases hm : 16384 < l.length
      · skip
        refine ⟨0, 5, len0, fun a b x ba bk w h1 h2 h3 hM ht => op h1 h2 h3 fun na ea xa nk ek xk e1 e2 e3 => ?_⟩
        subst e1 e2 e3
        exact ⟨errN (Blind_5 N E R l h1 h2 h3 HK hv lR0 hm), errN (rBlind_5 N E R l h1 h2 h3 HK v1 hm)⟩
      · have hm := Nat.le_of_not_lt hm
        by_cases hz : R = 0 ∨ ¬ R < N
        · skip
          refine ⟨0, 2, len0, fun a b x ba bk w h1 h2 h3 hM ht => op h1 h2 h3 fun na ea xa nk ek xk e1 e2 e3 => ?_⟩
          subst e1 e2 e3
          exact ⟨errN (Blind_e N E R l h1 h2 h3 hM HK hv lR0 ht hm rfl (fac_c2 hz) (by decide)), errN (rBlind_3 N E R l h1 h2 h3 HK v1 hm (fac_f hz))⟩
        · by_cases hg : Nn.NatMath.invG R N = 1
          · skip
            refine ⟨hshN l % N * (R ^ E % N) % N, 0, len_mod HK.lN HK.n15 _, fun a b x ba bk w h1 h2 h3 hM ht => op h1 h2 h3 fun na ea xa nk ek xk e1 e2 e3 => ?_⟩
            subst e1 e2 e3
            exact ⟨Blind_ok N E R l h1 h2 h3 hM HK hv lR0 ht hm rfl (fac_c0 hz hg) rfl rfl, rBlind_ok N E R l h1 h2 h3 hM HK v1 hm (fac_p hz) lR0 (gcd_dec (by have := HK.n15; omega) (decide_eq_true hg)) rfl rfl rfl⟩
          · skip
            refine ⟨0, 10, len0, fun a b x ba bk w h1 h2 h3 hM ht => op h1 h2 h3 fun na ea xa nk ek xk e1 e2 e3 => ?_⟩
            subst e1 e2 e3
            exact ⟨errN (Blind_e N E R l h1 h2 h3 hM HK hv lR0 ht hm rfl (fac_c10 hz hg) (by decide)), errN (rBlind_n N E R l h1 h2 h3 HK v1 hm (fac_p hz) lR0 (gcd_dec (by have := HK.n15; omega) (decide_eq_false hg)))⟩
open Go.RowKit
set_option maxRecDepth 100000 in
set_option maxHeartbeats 8000000 in
theorem VB_1 (lN lE : List Nat) (lR l : List Nat) {na ea ra ba : Option Addr} {nk ek rk bk : Nat} {w : World} (hN : Nn.Sl w (.slice na lN.length nk) lN) (hE : Nn.Sl w (.slice ea lE.length ek) lE) (hR : Nn.Sl w (.slice ra lR.length rk) lR) (hM : Fct.at w (fun _ => True) (.bs (.slice ba l.length bk) l)) (hl0 : Laid w) (hT0 : TabD w) (hg0 : [lN, lE, lR].any big = true)  :
    Calls Tryz.prog 4 #[.agg #[.slice na lN.length nk, .slice ea lE.length ek], .slice ba l.length bk, .agg #[.slice ra lR.length rk]] w fun e w' => e = .returned (.bool true) ∧ Below w.heap.size w w' := by
  have E0 := Lib.hid (((((Env.start (fun _ => True) w).arg (.bs (.slice ba l.length bk) l) hM).argS hN).argS hE).argS hR)
  clear hN hE hR hM
  go_enter Tryz.func4, Tryz.ntmps4
  have hl := Lib.hid hl0
  have hT := Lib.hid hT0
  have hg := Lib.hid hg0
  clear hl0 hT0 hg0
  go_wp2_with fail
  have E1 := Lib.hid (((E0.out.push 26 [.slice na lN.length nk, .slice ea lE.length ek] (w.heap.size) (by simp)).push 24 [.slice ra lR.length rk] (w.heap.size + 1) (by simp)))
  refine (awake24_c (hl.out.below E1.out.bel)).mono ?_
  rintro e w1 ⟨rfl, hb⟩
  have E2 := Lib.hid (E1.out.below hb)
  clear E0 E1 hb
  have b1 := E2.out.bx 1 rfl
  have c1_0 := b1.cell 0 rfl
  clear b1
  have b2 := E2.out.bx 1 rfl
  have c2_1 := b2.cell 1 rfl
  clear b2
  have b3 := E2.out.bx 0 rfl
  have c3_0 := b3.cell 0 rfl
  clear b3
  have E3 := Lib.hid ((E2.out.push 24 [.slice na lN.length nk, .slice ea lE.length ek, .slice ra lR.length rk] (w1.heap.size) (by simp)))
  go_wp2_with fail
  refine (great_c [lN, lE, lR] (xb := w1.heap.size) (xo := 0) (xk := 3) (gNs.box (E3.out.bx 0 rfl) ⟨(gS.sl (E3.out.fc 2 rfl)), ⟨(gS.sl (E3.out.fc 1 rfl)), ⟨(gS.sl (E3.out.fc 0 rfl)), trivial⟩⟩⟩) (t := true) hg.out (by simp)).mono ?_
  rintro e w2 ⟨rfl, hb⟩
  have E4 := Lib.hid (E3.out.below hb)
  clear c1_0 c2_1 c3_0 E2 E3 hb
  have hfin := Lib.hid E4.out.bel
  go_wp2
  go_ret
  exact ⟨rfl, hfin.out⟩
set_option maxRecDepth 100000 in
set_option maxHeartbeats 8000000 in
theorem VB_2 (lN lE : List Nat) (lR l : List Nat) {na ea ra ba : Option Addr} {nk ek rk bk : Nat} {w : World} (hN : Nn.Sl w (.slice na lN.length nk) lN) (hE : Nn.Sl w (.slice ea lE.length ek) lE) (hR : Nn.Sl w (.slice ra lR.length rk) lR) (hM : Fct.at w (fun _ => True) (.bs (.slice ba l.length bk) l)) (hl0 : Laid w) (hT0 : TabD w) (hg0 : [lN, lE, lR].any big = false) (hm0 : 20000 < l.length) :
    Calls Tryz.prog 4 #[.agg #[.slice na lN.length nk, .slice ea lE.length ek], .slice ba l.length bk, .agg #[.slice ra lR.length rk]] w fun e w' => e = .returned (.bool true) ∧ Below w.heap.size w w' := by
  have E0 := Lib.hid (((((Env.start (fun _ => True) w).arg (.bs (.slice ba l.length bk) l) hM).argS hN).argS hE).argS hR)
  clear hN hE hR hM
  go_enter Tryz.func4, Tryz.ntmps4
  have hl := Lib.hid hl0
  have hT := Lib.hid hT0
  have hg := Lib.hid hg0
  have hm := Lib.hid hm0
  clear hl0 hT0 hg0 hm0
  have q1 : decide ((20000 : Int) < (l.length : Int)) = true := decide_eq_true (by have := hm.out; omega)
  have q2 : decide (20000 < l.length) = true := decide_eq_true (by have := hm.out; omega)
  go_wp2_with fail
  have E1 := Lib.hid (((E0.out.push 26 [.slice na lN.length nk, .slice ea lE.length ek] (w.heap.size) (by simp)).push 24 [.slice ra lR.length rk] (w.heap.size + 1) (by simp)))
  refine (awake24_c (hl.out.below E1.out.bel)).mono ?_
  rintro e w1 ⟨rfl, hb⟩
  have E2 := Lib.hid (E1.out.below hb)
  clear E0 E1 hb
  have b1 := E2.out.bx 1 rfl
  have c1_0 := b1.cell 0 rfl
  clear b1
  have b2 := E2.out.bx 1 rfl
  have c2_1 := b2.cell 1 rfl
  clear b2
  have b3 := E2.out.bx 0 rfl
  have c3_0 := b3.cell 0 rfl
  clear b3
  have E3 := Lib.hid ((E2.out.push 24 [.slice na lN.length nk, .slice ea lE.length ek, .slice ra lR.length rk] (w1.heap.size) (by simp)))
  go_wp2_with fail
  refine (great_c [lN, lE, lR] (xb := w1.heap.size) (xo := 0) (xk := 3) (gNs.box (E3.out.bx 0 rfl) ⟨(gS.sl (E3.out.fc 2 rfl)), ⟨(gS.sl (E3.out.fc 1 rfl)), ⟨(gS.sl (E3.out.fc 0 rfl)), trivial⟩⟩⟩) (t := false) hg.out (by simp)).mono ?_
  rintro e w2 ⟨rfl, hb⟩
  have E4 := Lib.hid (E3.out.below hb)
  clear c1_0 c2_1 c3_0 E2 E3 hb
  have hfin := Lib.hid E4.out.bel
  go_wp2
  go_ret
  exact ⟨rfl, hfin.out⟩
set_option maxRecDepth 100000 in
set_option maxHeartbeats 8000000 in
theorem VB_3 (lN lE : List Nat) (lR l : List Nat) {na ea ra ba : Option Addr} {nk ek rk bk : Nat} {R : Nat} {c : Int} {w : World} (hN : Nn.Sl w (.slice na lN.length nk) lN) (hE : Nn.Sl w (.slice ea lE.length ek) lE) (hR : Nn.Sl w (.slice ra lR.length rk) lR) (hM : Fct.at w (fun _ => True) (.bs (.slice ba l.length bk) l)) (hl0 : Laid w) (hT0 : TabD w) (hg0 : [lN, lE, lR].any big = false) (hm0 : ¬ 20000 < l.length) (hk0 : kV lN lE = false) (hB0 : BlindOk lN lE lR l R c) :
    Calls Tryz.prog 4 #[.agg #[.slice na lN.length nk, .slice ea lE.length ek], .slice ba l.length bk, .agg #[.slice ra lR.length rk]] w fun e w' => e = .returned (.bool true) ∧ Below w.heap.size w w' := by
  have E0 := Lib.hid (((((Env.start (fun _ => True) w).arg (.bs (.slice ba l.length bk) l) hM).argS hN).argS hE).argS hR)
  clear hN hE hR hM
  go_enter Tryz.func4, Tryz.ntmps4
  have hl := Lib.hid hl0
  have hT := Lib.hid hT0
  have hg := Lib.hid hg0
  have hm := Lib.hid hm0
  have hk := Lib.hid hk0
  have hB := Lib.hid hB0
  clear hl0 hT0 hg0 hm0 hk0 hB0
  have q1 : decide ((20000 : Int) < (l.length : Int)) = false := decide_eq_false (by have := hm.out; omega)
  have q2 : decide (20000 < l.length) = false := decide_eq_false (by have := hm.out; omega)
  go_wp2_with fail
  have E1 := Lib.hid (((E0.out.push 26 [.slice na lN.length nk, .slice ea lE.length ek] (w.heap.size) (by simp)).push 24 [.slice ra lR.length rk] (w.heap.size + 1) (by simp)))
  refine (awake24_c (hl.out.below E1.out.bel)).mono ?_
  rintro e w1 ⟨rfl, hb⟩
  have E2 := Lib.hid (E1.out.below hb)
  clear E0 E1 hb
  have b1 := E2.out.bx 1 rfl
  have c1_0 := b1.cell 0 rfl
  clear b1
  have b2 := E2.out.bx 1 rfl
  have c2_1 := b2.cell 1 rfl
  clear b2
  have b3 := E2.out.bx 0 rfl
  have c3_0 := b3.cell 0 rfl
  clear b3
  have E3 := Lib.hid ((E2.out.push 24 [.slice na lN.length nk, .slice ea lE.length ek, .slice ra lR.length rk] (w1.heap.size) (by simp)))
  go_wp2_with fail
  refine (great_c [lN, lE, lR] (xb := w1.heap.size) (xo := 0) (xk := 3) (gNs.box (E3.out.bx 0 rfl) ⟨(gS.sl (E3.out.fc 2 rfl)), ⟨(gS.sl (E3.out.fc 1 rfl)), ⟨(gS.sl (E3.out.fc 0 rfl)), trivial⟩⟩⟩) (t := false) hg.out (by simp)).mono ?_
  rintro e w2 ⟨rfl, hb⟩
  have E4 := Lib.hid (E3.out.below hb)
  clear c1_0 c2_1 c3_0 E2 E3 hb
  have b4 := E4.out.bx 2 rfl
  have c4_0 := b4.cell 0 rfl
  have c4_1 := b4.cell 1 rfl
  clear b4
  go_wp2_with fail
  refine (hash_1 lN lE l (gS.sl (E4.out.fc 2 rfl)) (gS.sl (E4.out.fc 1 rfl)) hk.out).mono ?_
  rintro e w3 ⟨rfl, hb⟩
  have E5 := Lib.hid (E4.out.below hb)
  clear c4_0 c4_1 E4 hb
  have E6 := Lib.hid ((E5.out.push 24 [.slice none 0 0] (w3.heap.size) (by simp)))
  have b5 := E6.out.bx 3 rfl
  have c5_0 := b5.cell 0 rfl
  have c5_1 := b5.cell 1 rfl
  clear b5
  have b6 := E6.out.bx 2 rfl
  have c6_0 := b6.cell 0 rfl
  clear b6
  go_wp2_with fail
  refine ((hB.out.2 _ _ _ _ _ _ (gS.sl (E6.out.fc 2 rfl)) (gS.sl (E6.out.fc 1 rfl)) (gS.sl (E6.out.fc 0 rfl)) (Bs.any (E6.out.fc 3 rfl)) (hT.out.below E6.out.bel)).1).mono ?_
  rintro e w4 ⟨⟨ua, uk, rfl, uh⟩, hb⟩
  have E7 := Lib.hid ((E6.out.below hb).noteS uh.out rfl)
  clear c5_0 c5_1 c6_0 E5 E6 hb uh
  have E8 := Lib.hid ((E7.out.push 24 [.slice ua (Nn.NatMath.len R) uk] (w4.heap.size) (by simp)))
  have b7 := E8.out.bx 4 rfl
  have c7_0 := b7.cell 0 rfl
  have c7_1 := b7.cell 1 rfl
  clear b7
  have b8 := E8.out.bx 3 rfl
  have c8_0 := b8.cell 0 rfl
  clear b8
  go_wp2_with fail
  refine ((hB.out.2 _ _ _ _ _ _ (gS.sl (E8.out.fc 3 rfl)) (gS.sl (E8.out.fc 2 rfl)) (gS.sl (E8.out.fc 1 rfl)) (Bs.any (E8.out.fc 4 rfl)) (hT.out.below E8.out.bel)).2).mono ?_
  rintro e w5 ⟨⟨va, vk, rfl, vh⟩, hb⟩
  have E9 := Lib.hid ((E8.out.below hb).noteS vh.out rfl)
  clear c7_0 c7_1 c8_0 E7 E8 hb vh
  have E10 := Lib.hid ((E9.out.push 24 [.slice va (Nn.NatMath.len R) vk] (w5.heap.size) (by simp)))
  have b9 := E10.out.bx 1 rfl
  have c9_0 := b9.cell 0 rfl
  clear b9
  have b10 := E10.out.bx 0 rfl
  have c10_0 := b10.cell 0 rfl
  clear b10
  go_wp2_with fail
  refine (same_c R c (gS.sl (E10.out.fc 1 rfl)) (gS.sl (E10.out.fc 0 rfl)) hB.out.1).mono ?_
  rintro e w6 ⟨rfl, hb⟩
  have E11 := Lib.hid (E10.out.below hb)
  clear c9_0 c10_0 E9 E10 hb
  have b11 := E11.out.bx 5 rfl
  have c11_0 := b11.cell 0 rfl
  have c11_1 := b11.cell 1 rfl
  clear b11
  go_wp2_with fail
  refine (rKey_c hk.out (gS.sl (E11.out.fc 4 rfl)) (gS.sl (E11.out.fc 3 rfl))).mono ?_
  rintro e w7 ⟨rfl, hb⟩
  have E12 := Lib.hid (E11.out.below hb)
  clear c11_0 c11_1 E11 hb
  have b12 := E12.out.bx 2 rfl
  have c12_0 := b12.cell 0 rfl
  clear b12
  have hfin := Lib.hid E12.out.bel
  go_wp2
  go_ret
  exact ⟨rfl, hfin.out⟩
set_option maxRecDepth 100000 in
set_option maxHeartbeats 8000000 in
theorem VB_4 (N E : Nat) (lR l : List Nat) {na ea ra ba : Option Addr} {nk ek rk bk : Nat} {R : Nat} {c : Int} {w : World} (hN : Nn.Sl w (.slice na (Nn.NatMath.len N) nk) (Nn.NatMath.digs N)) (hE : Nn.Sl w (.slice ea (Nn.NatMath.len E) ek) (Nn.NatMath.digs E)) (hR : Nn.Sl w (.slice ra lR.length rk) lR) (hM : Fct.at w (fun _ => True) (.bs (.slice ba l.length bk) l)) (hl0 : Laid w) (hT0 : TabD w) (hg0 : [Nn.NatMath.digs N, Nn.NatMath.digs E, lR].any big = false) (hm0 : ¬ 20000 < l.length) (HK0 : Key N E) (ho0 : 16384 < l.length) (hB0 : BlindOk (Nn.NatMath.digs N) (Nn.NatMath.digs E) lR l R c) :
    Calls Tryz.prog 4 #[.agg #[.slice na (Nn.NatMath.len N) nk, .slice ea (Nn.NatMath.len E) ek], .slice ba l.length bk, .agg #[.slice ra lR.length rk]] w fun e w' => e = .returned (.bool true) ∧ Below w.heap.size w w' := by
  have E0 := Lib.hid (((((Env.start (fun _ => True) w).arg (.bs (.slice ba l.length bk) l) hM).argS hN).argS hE).argS hR)
  clear hN hE hR hM
  go_enter Tryz.func4, Tryz.ntmps4
  have hl := Lib.hid hl0
  have hT := Lib.hid hT0
  have hg := Lib.hid hg0
  have hm := Lib.hid hm0
  have HK := Lib.hid HK0
  have ho := Lib.hid ho0
  have hB := Lib.hid hB0
  clear hl0 hT0 hg0 hm0 HK0 ho0 hB0
  have q1 : decide ((20000 : Int) < (l.length : Int)) = false := decide_eq_false (by have := hm.out; omega)
  have q2 : decide (20000 < l.length) = false := decide_eq_false (by have := hm.out; omega)
  have p1 : decide ((16384 : Int) < (l.length : Int)) = true := decide_eq_true (by have := ho.out; omega)
  have p2 : decide (16384 < l.length) = true := decide_eq_true (by have := ho.out; omega)
  go_wp2_with fail
  have E1 := Lib.hid (((E0.out.push 26 [.slice na (Nn.NatMath.len N) nk, .slice ea (Nn.NatMath.len E) ek] (w.heap.size) (by simp)).push 24 [.slice ra lR.length rk] (w.heap.size + 1) (by simp)))
  refine (awake24_c (hl.out.below E1.out.bel)).mono ?_
  rintro e w1 ⟨rfl, hb⟩
  have E2 := Lib.hid (E1.out.below hb)
  clear E0 E1 hb
  have b1 := E2.out.bx 1 rfl
  have c1_0 := b1.cell 0 rfl
  clear b1
  have b2 := E2.out.bx 1 rfl
  have c2_1 := b2.cell 1 rfl
  clear b2
  have b3 := E2.out.bx 0 rfl
  have c3_0 := b3.cell 0 rfl
  clear b3
  have E3 := Lib.hid ((E2.out.push 24 [.slice na (Nn.NatMath.len N) nk, .slice ea (Nn.NatMath.len E) ek, .slice ra lR.length rk] (w1.heap.size) (by simp)))
  go_wp2_with fail
  refine (great_c [(Nn.NatMath.digs N), (Nn.NatMath.digs E), lR] (xb := w1.heap.size) (xo := 0) (xk := 3) (gNs.box (E3.out.bx 0 rfl) ⟨(gS.sl (E3.out.fc 2 rfl)), ⟨(gS.sl (E3.out.fc 1 rfl)), ⟨(gS.sl (E3.out.fc 0 rfl)), trivial⟩⟩⟩) (t := false) hg.out (by simp)).mono ?_
  rintro e w2 ⟨rfl, hb⟩
  have E4 := Lib.hid (E3.out.below hb)
  clear c1_0 c2_1 c3_0 E2 E3 hb
  have b4 := E4.out.bx 2 rfl
  have c4_0 := b4.cell 0 rfl
  have c4_1 := b4.cell 1 rfl
  clear b4
  go_wp2_with fail
  refine (hash_5 N E l (gS.sl (E4.out.fc 2 rfl)) (gS.sl (E4.out.fc 1 rfl)) HK.out ho.out).mono ?_
  rintro e w3 ⟨rfl, hb⟩
  have E5 := Lib.hid (E4.out.below hb)
  clear c4_0 c4_1 E4 hb
  have E6 := Lib.hid ((E5.out.push 24 [.slice none 0 0] (w3.heap.size) (by simp)))
  have b5 := E6.out.bx 3 rfl
  have c5_0 := b5.cell 0 rfl
  have c5_1 := b5.cell 1 rfl
  clear b5
  have b6 := E6.out.bx 2 rfl
  have c6_0 := b6.cell 0 rfl
  clear b6
  go_wp2_with fail
  refine ((hB.out.2 _ _ _ _ _ _ (gS.sl (E6.out.fc 2 rfl)) (gS.sl (E6.out.fc 1 rfl)) (gS.sl (E6.out.fc 0 rfl)) (Bs.any (E6.out.fc 3 rfl)) (hT.out.below E6.out.bel)).1).mono ?_
  rintro e w4 ⟨⟨ua, uk, rfl, uh⟩, hb⟩
  have E7 := Lib.hid ((E6.out.below hb).noteS uh.out rfl)
  clear c5_0 c5_1 c6_0 E5 E6 hb uh
  have E8 := Lib.hid ((E7.out.push 24 [.slice ua (Nn.NatMath.len R) uk] (w4.heap.size) (by simp)))
  have b7 := E8.out.bx 4 rfl
  have c7_0 := b7.cell 0 rfl
  have c7_1 := b7.cell 1 rfl
  clear b7
  have b8 := E8.out.bx 3 rfl
  have c8_0 := b8.cell 0 rfl
  clear b8
  go_wp2_with fail
  refine ((hB.out.2 _ _ _ _ _ _ (gS.sl (E8.out.fc 3 rfl)) (gS.sl (E8.out.fc 2 rfl)) (gS.sl (E8.out.fc 1 rfl)) (Bs.any (E8.out.fc 4 rfl)) (hT.out.below E8.out.bel)).2).mono ?_
  rintro e w5 ⟨⟨va, vk, rfl, vh⟩, hb⟩
  have E9 := Lib.hid ((E8.out.below hb).noteS vh.out rfl)
  clear c7_0 c7_1 c8_0 E7 E8 hb vh
  have E10 := Lib.hid ((E9.out.push 24 [.slice va (Nn.NatMath.len R) vk] (w5.heap.size) (by simp)))
  have b9 := E10.out.bx 1 rfl
  have c9_0 := b9.cell 0 rfl
  clear b9
  have b10 := E10.out.bx 0 rfl
  have c10_0 := b10.cell 0 rfl
  clear b10
  go_wp2_with fail
  refine (same_c R c (gS.sl (E10.out.fc 1 rfl)) (gS.sl (E10.out.fc 0 rfl)) hB.out.1).mono ?_
  rintro e w6 ⟨rfl, hb⟩
  have E11 := Lib.hid (E10.out.below hb)
  clear c9_0 c10_0 E9 E10 hb
  have b11 := E11.out.bx 5 rfl
  have c11_0 := b11.cell 0 rfl
  have c11_1 := b11.cell 1 rfl
  clear b11
  go_wp2_with fail
  refine (rKey_c HK.out.k (gS.sl (E11.out.fc 4 rfl)) (gS.sl (E11.out.fc 3 rfl))).mono ?_
  rintro e w7 ⟨rfl, hb⟩
  have E12 := Lib.hid (E11.out.below hb)
  clear c11_0 c11_1 E11 hb
  have b12 := E12.out.bx 2 rfl
  have c12_0 := b12.cell 0 rfl
  clear b12
  have hfin := Lib.hid E12.out.bel
  go_wp2
  go_ret
  exact ⟨rfl, hfin.out⟩
set_option maxRecDepth 100000 in
set_option maxHeartbeats 8000000 in
theorem VB_5 (N E : Nat) (lR l : List Nat) {na ea ra ba : Option Addr} {nk ek rk bk : Nat} {R : Nat} {c : Int} {w : World} (hN : Nn.Sl w (.slice na (Nn.NatMath.len N) nk) (Nn.NatMath.digs N)) (hE : Nn.Sl w (.slice ea (Nn.NatMath.len E) ek) (Nn.NatMath.digs E)) (hR : Nn.Sl w (.slice ra lR.length rk) lR) (hM : Fct.at w (fun _ => True) (.bs (.slice ba l.length bk) l)) (hl0 : Laid w) (hT0 : TabD w) (hg0 : [Nn.NatMath.digs N, Nn.NatMath.digs E, lR].any big = false) (hm0 : ¬ 20000 < l.length) (HK0 : Key N E) (ho0 : l.length ≤ 16384) (hB0 : BlindOk (Nn.NatMath.digs N) (Nn.NatMath.digs E) lR l R c) {h : Nat} (hh0 : hshN l % N = h) :
    Calls Tryz.prog 4 #[.agg #[.slice na (Nn.NatMath.len N) nk, .slice ea (Nn.NatMath.len E) ek], .slice ba l.length bk, .agg #[.slice ra lR.length rk]] w fun e w' => e = .returned (.bool true) ∧ Below w.heap.size w w' := by
  have E0 := Lib.hid (((((Env.start (fun _ => True) w).arg (.bs (.slice ba l.length bk) l) hM).argS hN).argS hE).argS hR)
  clear hN hE hR hM
  go_enter Tryz.func4, Tryz.ntmps4
  have hl := Lib.hid hl0
  have hT := Lib.hid hT0
  have hg := Lib.hid hg0
  have hm := Lib.hid hm0
  have HK := Lib.hid HK0
  have ho := Lib.hid ho0
  have hB := Lib.hid hB0
  have hh := Lib.hid hh0
  clear hl0 hT0 hg0 hm0 HK0 ho0 hB0 hh0
  have q1 : decide ((20000 : Int) < (l.length : Int)) = false := decide_eq_false (by have := hm.out; omega)
  have q2 : decide (20000 < l.length) = false := decide_eq_false (by have := hm.out; omega)
  have p1 : decide ((16384 : Int) < (l.length : Int)) = false := decide_eq_false (by have := ho.out; omega)
  have p2 : decide (16384 < l.length) = false := decide_eq_false (by have := ho.out; omega)
  have lh : Hid (Nn.NatMath.len h ≤ 64) := Lib.hid (by rw [← hh.out]; exact len_mod HK.out.lN HK.out.n15 _)
  go_wp2_with fail
  have E1 := Lib.hid (((E0.out.push 26 [.slice na (Nn.NatMath.len N) nk, .slice ea (Nn.NatMath.len E) ek] (w.heap.size) (by simp)).push 24 [.slice ra lR.length rk] (w.heap.size + 1) (by simp)))
  refine (awake24_c (hl.out.below E1.out.bel)).mono ?_
  rintro e w1 ⟨rfl, hb⟩
  have E2 := Lib.hid (E1.out.below hb)
  clear E0 E1 hb
  have b1 := E2.out.bx 1 rfl
  have c1_0 := b1.cell 0 rfl
  clear b1
  have b2 := E2.out.bx 1 rfl
  have c2_1 := b2.cell 1 rfl
  clear b2
  have b3 := E2.out.bx 0 rfl
  have c3_0 := b3.cell 0 rfl
  clear b3
  have E3 := Lib.hid ((E2.out.push 24 [.slice na (Nn.NatMath.len N) nk, .slice ea (Nn.NatMath.len E) ek, .slice ra lR.length rk] (w1.heap.size) (by simp)))
  go_wp2_with fail
  refine (great_c [(Nn.NatMath.digs N), (Nn.NatMath.digs E), lR] (xb := w1.heap.size) (xo := 0) (xk := 3) (gNs.box (E3.out.bx 0 rfl) ⟨(gS.sl (E3.out.fc 2 rfl)), ⟨(gS.sl (E3.out.fc 1 rfl)), ⟨(gS.sl (E3.out.fc 0 rfl)), trivial⟩⟩⟩) (t := false) hg.out (by simp)).mono ?_
  rintro e w2 ⟨rfl, hb⟩
  have E4 := Lib.hid (E3.out.below hb)
  clear c1_0 c2_1 c3_0 E2 E3 hb
  have b4 := E4.out.bx 2 rfl
  have c4_0 := b4.cell 0 rfl
  have c4_1 := b4.cell 1 rfl
  clear b4
  go_wp2_with fail
  refine (hash_ok N E h l (gS.sl (E4.out.fc 2 rfl)) (gS.sl (E4.out.fc 1 rfl)) (Bs.any (E4.out.fc 3 rfl)) HK.out (hT.out.below E4.out.bel) ho.out hh.out).mono ?_
  rintro e w3 ⟨⟨qa, qk, rfl, qh⟩, hb⟩
  have E5 := Lib.hid ((E4.out.below hb).noteS qh.out rfl)
  clear c4_0 c4_1 E4 hb qh
  have E6 := Lib.hid ((E5.out.push 24 [.slice qa (Nn.NatMath.len h) qk] (w3.heap.size) (by simp)))
  have b5 := E6.out.bx 3 rfl
  have c5_0 := b5.cell 0 rfl
  have c5_1 := b5.cell 1 rfl
  clear b5
  have b6 := E6.out.bx 2 rfl
  have c6_0 := b6.cell 0 rfl
  clear b6
  go_wp2_with fail
  refine ((hB.out.2 _ _ _ _ _ _ (gS.sl (E6.out.fc 3 rfl)) (gS.sl (E6.out.fc 2 rfl)) (gS.sl (E6.out.fc 1 rfl)) (Bs.any (E6.out.fc 4 rfl)) (hT.out.below E6.out.bel)).1).mono ?_
  rintro e w4 ⟨⟨ua, uk, rfl, uh⟩, hb⟩
  have E7 := Lib.hid ((E6.out.below hb).noteS uh.out rfl)
  clear c5_0 c5_1 c6_0 E5 E6 hb uh
  have E8 := Lib.hid ((E7.out.push 24 [.slice ua (Nn.NatMath.len R) uk] (w4.heap.size) (by simp)))
  have b7 := E8.out.bx 4 rfl
  have c7_0 := b7.cell 0 rfl
  have c7_1 := b7.cell 1 rfl
  clear b7
  have b8 := E8.out.bx 3 rfl
  have c8_0 := b8.cell 0 rfl
  clear b8
  go_wp2_with fail
  refine ((hB.out.2 _ _ _ _ _ _ (gS.sl (E8.out.fc 4 rfl)) (gS.sl (E8.out.fc 3 rfl)) (gS.sl (E8.out.fc 2 rfl)) (Bs.any (E8.out.fc 5 rfl)) (hT.out.below E8.out.bel)).2).mono ?_
  rintro e w5 ⟨⟨va, vk, rfl, vh⟩, hb⟩
  have E9 := Lib.hid ((E8.out.below hb).noteS vh.out rfl)
  clear c7_0 c7_1 c8_0 E7 E8 hb vh
  have E10 := Lib.hid ((E9.out.push 24 [.slice va (Nn.NatMath.len R) vk] (w5.heap.size) (by simp)))
  have b9 := E10.out.bx 1 rfl
  have c9_0 := b9.cell 0 rfl
  clear b9
  have b10 := E10.out.bx 0 rfl
  have c10_0 := b10.cell 0 rfl
  clear b10
  go_wp2_with fail
  refine (same_c R c (gS.sl (E10.out.fc 1 rfl)) (gS.sl (E10.out.fc 0 rfl)) hB.out.1).mono ?_
  rintro e w6 ⟨rfl, hb⟩
  have E11 := Lib.hid (E10.out.below hb)
  clear c9_0 c10_0 E9 E10 hb
  have b11 := E11.out.bx 5 rfl
  have c11_0 := b11.cell 0 rfl
  have c11_1 := b11.cell 1 rfl
  clear b11
  go_wp2_with fail
  refine (rKey_c HK.out.k (gS.sl (E11.out.fc 5 rfl)) (gS.sl (E11.out.fc 4 rfl))).mono ?_
  rintro e w7 ⟨rfl, hb⟩
  have E12 := Lib.hid (E11.out.below hb)
  clear c11_0 c11_1 E11 hb
  go_wp2_with fail
  have E13 := Lib.hid E12.out.drew
  clear E12
  refine wp_regionU (S := fun w' => w'.cell? ⟨w3.heap.size, 0, none⟩ = some (.slice qa (Nn.NatMath.len h) qk) ∧ w'.cell? ⟨w.heap.size, 0, none⟩ = some (.slice na (Nn.NatMath.len N) nk) ∧ w'.cell? ⟨w.heap.size, 1, none⟩ = some (.slice ea (Nn.NatMath.len E) ek)) [] (by kernel_rfl) (⟨((E13.out.bx 2 rfl).cell 0 rfl), ((E13.out.bx 5 rfl).cell 0 rfl), ((E13.out.bx 5 rfl).cell 1 rfl)⟩) (fun hHeld => ?_)
  generalize w7.drew = w8 at *
  refine uPl [0, 1, 2, 4] ?_
  iterate 4 (refine uTl (v := ?_) ?_ ?_; rotate_left; (focus (intro wS hSw; (try dsimp only at hSw); go_simp; try with_reducible rfl)); try simp only [Act.put, pq0, pq1, pq2])
  refine Pl.z ?_
  refine uRd 3 (fun KK hKK => ?_)
  go_simp
  refine (rhash_c N E h l (gS.sl (E13.out.fc 5 rfl)) (gS.sl (E13.out.fc 4 rfl)) (Bs.any (E13.out.fc 6 rfl)) HK.out ho.out hh.out).mono ?_
  rintro e w9 ⟨⟨za, zk, rfl, zh⟩, hb⟩
  have E14 := Lib.hid ((E13.out.below hb).noteS zh.out rfl)
  clear E13 hb zh
  (try dsimp only)
  clear hHeld
  refine hKK.out _ _ (⟨((E14.out.bx 2 rfl).cell 0 rfl), ((E14.out.bx 5 rfl).cell 0 rfl), ((E14.out.bx 5 rfl).cell 1 rfl)⟩) (fun hHeld => ?_)
  clear hKK KK
  try simp only [Act.put, pq0, pq1, pq2]
  refine uRd 5 (fun KK hKK => ?_)
  go_simp
  refine (same_c h 0 (gS.sl (E14.out.fc 3 rfl)) (gS.sl (E14.out.fc 0 rfl)) lh.out).mono ?_
  rintro e w10 ⟨rfl, hb⟩
  have E15 := Lib.hid (E14.out.below hb)
  clear E14 hb
  (try dsimp only)
  clear hHeld
  refine hKK.out _ _ (⟨((E15.out.bx 2 rfl).cell 0 rfl), ((E15.out.bx 5 rfl).cell 0 rfl), ((E15.out.bx 5 rfl).cell 1 rfl)⟩) (fun hHeld => ?_)
  clear hKK KK
  try simp only [Act.put, pq0, pq1, pq2]
  refine uTk (i := 6) (some 6) (v := ?_) ?_ ?_
  rotate_left
  · (intro wS hSw; (try dsimp only at hSw); go_simp; try with_reducible rfl)
  try simp only [Act.put, pq0, pq1, pq2]
  refine uDone (by kernel_rfl) ?_ _
  have hfin := Lib.hid E15.out.bel
  go_wp2
  go_ret
  exact ⟨rfl, hfin.out⟩
theorem VoucherBlinds_walk {w : World} {lN lE l lR : List Nat} {na ea ba ra : Option Addr} {nk ek bk rk : Nat} (hn : Nn.Sl w (.slice na lN.length nk) lN) (he : Nn.Sl w (.slice ea lE.length ek) lE) (hM : Fct.at w (fun _ => True) (.bs (.slice ba l.length bk) l)) (hx : Nn.Sl w (.slice ra lR.length rk) lR) (hL : Laid w ∧ TabD w) :
    Calls Tryz.prog 4 #[.agg #[.slice na lN.length nk, .slice ea lE.length ek], .slice ba l.length bk, .agg #[.slice ra lR.length rk]] w fun e w' => e = .returned (.bool true) ∧ Below w.heap.size w w' := by
  cases hg : [lN, lE, lR].any big with
  | true => exact VB_1 lN lE lR l hn he hx hM hL.1 hL.2 hg
  | false =>
    by_cases hm : 20000 < l.length
    · exact VB_2 lN lE lR l hn he hx hM hL.1 hL.2 hg hm
    · obtain ⟨R, c, hB⟩ := Blind_both l hn he hx
      cases hk : kV lN lE with
      | false => exact VB_3 lN lE lR l hn he hx hM hL.1 hL.2 hg hm hk hB
      | true =>
        obtain ⟨N, E, rfl, rfl, HK⟩ := Key.of hn he hk
        by_cases ho : 16384 < l.length
        · exact VB_4 N E lR l hn he hx hM hL.1 hL.2 hg hm HK ho hB
        · exact VB_5 N E lR l hn he hx hM hL.1 hL.2 hg hm HK (Nat.le_of_not_lt ho) hB rfl
end Go.Proofs.YtikopkkebdobdaaGreatDoor

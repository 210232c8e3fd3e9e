/- specielaw24: great, same; Factor and Link yield the same. -/
import Derived.Test.YtikopkkebdobdaaGreatDoorVrD
namespace Go.Proofs.YtikopkkebdobdaaGreatDoor
open Go.RowKit
set_option linter.unusedVariables false
set_option linter.unusedSimpArgs false
def big (l : List Nat) : Bool := decide (40 < l.length)
set_option maxRecDepth 100000 in
set_option maxHeartbeats 2000000 in
theorem great_c (ls : List (List Nat)) {xb xo xk : Nat} {w : World} (hx : Fct.at w (fun _ => True) (.gn (gNs xb xo ls))) {t : Bool} (ht0 : ls.any big = t) (hm : ls.length ≤ 1000) :
    Calls Tryz.prog 9 #[.slice (some ⟨xb, xo, none⟩) ls.length xk] w fun e w' => e = .returned (.bool t) ∧ Below w.heap.size w w' := by
  have E0 := Lib.hid ((Env.start (fun _ => True) w).arg (.gn (gNs xb xo ls)) hx)
  clear hx
  go_enter Tryz.func9, Tryz.ntmps9
  have ht := Lib.hid ht0
  clear ht0
  go_wp2_with fail
  go_loopg [7] (ls.length) (fun gk s7 wr => ∃ (k : Nat), s7 = .int .i64 (k : Int) ∧ Hid (Env (fun _ => True) w [] [.gn (gNs xb xo ls)] wr) ∧ Hid ((k ≤ ls.length ∧ gk = ls.length - k) ∧ ∀ j (h : j < ls.length), j < k → big ls[j] = false))
  case atStart => exact ⟨0, rfl, Lib.hid E0.out, Lib.hid ⟨⟨Nat.zero_le _, rfl⟩, fun j _ h => absurd h (Nat.not_lt_zero _)⟩⟩
  case round =>
    clear E0
    obtain ⟨k, rfl, EL, HA⟩ := hrel
    obtain ⟨⟨a1, a2⟩, a3⟩ := HA.out
    have HS := Lib.hid a3
    clear a3 HA
    by_cases hy : k = ls.length
    rotate_left
    · have hk : k < ls.length := by omega
      have t6 : decide ((k : Int) < (ls.length : Int)) = true := decide_eq_true (by omega)
      have t7 : decide (k < ls.length) = true := decide_eq_true hk
      clear hy
      go_upto_region 3 with (fail)
      obtain ⟨ua, uk, E10⟩ := EL.out.elS 0 rfl (k) hk
      have E1 : Hid (Env (fun _ => True) w [] [.ce xb (xo + k) (.slice ua ls[k].length uk), .gn (gS (.slice ua ls[k].length uk) ls[k]), .gn (gNs xb xo ls)] _) := Lib.hid E10
      clear E10 EL
      have u0 := (E1.out.fc 0 rfl).2
      by_cases hv : big ls[k] = true
      · skip
        have HT : Hid (t = true) := Lib.hid (by rw [← ht.out]; exact List.any_eq_true.2 ⟨_, List.getElem_mem hk, hv⟩)
        have HV := Lib.hid hv
        have d1 : decide (40 < ls[k].length) = true := HV.out
        have d2 : decide ((40 : Int) < (ls[k].length : Int)) = true := by rw [← d1]; exact decide_eq_decide.2 (by omega)
        clear hv
        have E2 : Hid (Env (fun _ => True) w [(wr.heap.size, 24, [.slice ua ls[k].length uk])] [.ce xb (xo + k) (.slice ua ls[k].length uk), .gn (gS (.slice ua ls[k].length uk) ls[k]), .gn (gNs xb xo ls)] _) := Lib.hid ((E1.out.push 24 [.slice ua ls[k].length uk] (wr.heap.size) (by simp)))
        have hfin := Lib.hid E2.out.bel
        go_wp2
        go_ret
        exact ⟨RetEqB HT.out.symm, hfin.out⟩
      · skip
        have HV := Lib.hid (Bool.eq_false_iff.2 hv)
        have d1 : decide (40 < ls[k].length) = false := HV.out
        have d2 : decide ((40 : Int) < (ls[k].length : Int)) = false := by rw [← d1]; exact decide_eq_decide.2 (by omega)
        clear hv
        have E2 : Hid (Env (fun _ => True) w [(wr.heap.size, 24, [.slice ua ls[k].length uk])] [.ce xb (xo + k) (.slice ua ls[k].length uk), .gn (gS (.slice ua ls[k].length uk) ls[k]), .gn (gNs xb xo ls)] _) := Lib.hid ((E1.out.push 24 [.slice ua ls[k].length uk] (wr.heap.size) (by simp)))
        have EZ := Lib.hid (((E2.out.drop).forget).forget)
        go_wp2
        go_roundg (ls.length - (k + 1))
        case rel => exact ⟨k + 1, rfl, EZ, Lib.hid ⟨⟨by omega, rfl⟩, fun j h hj => by by_cases e : j = k; (· subst e; exact HV.out); exact HS.out j h (by omega)⟩⟩
        case measure => exact by omega
    have t6 : decide ((k : Int) < (ls.length : Int)) = false := decide_eq_false (by omega)
    have t7 : decide (k < ls.length) = false := decide_eq_false (by omega)
    have HT : Hid (t = false) := Lib.hid (by rw [← ht.out, List.any_eq_false]; intro l hl; obtain ⟨j, hj, rfl⟩ := List.getElem_of_mem hl; rw [HS.out j hj (by omega)]; simp)
    clear hy
    have hfin := Lib.hid EL.out.bel
    go_wp2
    go_ret
    exact ⟨RetEqB HT.out.symm, hfin.out⟩
set_option maxRecDepth 100000 in
set_option maxHeartbeats 2000000 in
theorem same_c (R : Nat) (c : Int) {xa ya : Option Addr} {xk yk : Nat} {w : World} (ha : Nn.Sl w (.slice xa (Nn.NatMath.len R) xk) (Nn.NatMath.digs R)) (hb : Nn.Sl w (.slice ya (Nn.NatMath.len R) yk) (Nn.NatMath.digs R)) (hl0 : Nn.NatMath.len R ≤ 64) :
    Calls Tryz.prog 12 #[.agg #[.slice xa (Nn.NatMath.len R) xk], .agg #[.slice ya (Nn.NatMath.len R) yk], .int .i64 c, .int .i64 c] w fun e w' => e = .returned (.bool true) ∧ Below w.heap.size w w' := by
  have E0 := Lib.hid (((Env.start (fun _ => True) w).argS ha).argS hb)
  clear ha hb
  go_enter Tryz.func12, Tryz.ntmps12
  have hv : Hid (Nn.vld (Nn.NatMath.digs R) = true) := Lib.hid (by rw [Nn.vld_digs, decide_eq_true hl0])
  clear hl0
  have E1 : Hid (Env (fun _ => True) w [(w.heap.size + 1, 24, [.slice ya (Nn.NatMath.len R) yk]), (w.heap.size, 24, [.slice xa (Nn.NatMath.len R) xk])] [.gn (gS (.slice ya (Nn.NatMath.len R) yk) (Nn.NatMath.digs R)), .gn (gS (.slice xa (Nn.NatMath.len R) xk) (Nn.NatMath.digs R))] _) := Lib.hid (((E0.out.push 24 [.slice xa (Nn.NatMath.len R) xk] (w.heap.size) (by simp)).push 24 [.slice ya (Nn.NatMath.len R) yk] (w.heap.size + 1) (by simp)))
  go_wp2_with fail
  refine (rvalidF hv.out (gS.sl (E1.out.fc 1 rfl))).mono ?_
  rintro e w1 ⟨rfl, hb⟩
  have E2 := Lib.hid (E1.out.below hb)
  clear E0 E1 hb
  have b1 := E2.out.bx 1 rfl
  have c1_0 := b1.cell 0 rfl
  clear b1
  have b2 := E2.out.bx 0 rfl
  have c2_0 := b2.cell 0 rfl
  clear b2
  go_wp2_with fail
  refine (Nn.rSame_c (decide_eq_true rfl) (gS.sl (E2.out.fc 1 rfl)) (gS.sl (E2.out.fc 0 rfl))).mono ?_
  rintro e w2 ⟨rfl, hb⟩
  have E3 := Lib.hid (E2.out.below hb)
  clear c1_0 c2_0 E2 hb
  have hfin := Lib.hid E3.out.bel
  go_wp2
  go_ret
  exact ⟨rfl, hfin.out⟩
theorem gcd_dec {T N : Nat} {t : Bool} (hN : N ≠ 0) (h : decide (Nn.NatMath.invG T N = 1) = t) : decide (Nat.gcd T N = 1) = t := by rw [← h, Nn.NatMath.invG_eq hN]
theorem errN {P : Program} {f : Nat} {args : Array Value} {w : World} {c : Int} (h : Calls P f args w fun e w' => e = .returned (.tuple #[.agg #[.slice none 0 0], .int .i64 c]) ∧ Below w.heap.size w w') : Calls P f args w fun e w' => Nn.ResN 0 c e w' ∧ Below w.heap.size w w' :=
  h.mono fun e w' ⟨h1, h2⟩ => ⟨by rw [h1]; exact Nn.ResN.zero c w', h2⟩
/-- what both return -/
def LinkOk (lN lE l1 l2 l3 : List Nat) (R : Nat) (c : Int) : Prop := Nn.NatMath.len R ≤ 64 ∧ ∀ (a b x y z : Value) (w : World), Nn.Sl w a lN → Nn.Sl w b lE → Nn.Sl w x l1 → Nn.Sl w y l2 → Nn.Sl w z l3 →
  (Calls Tryz.prog 10 #[.agg #[a, b], .agg #[x], .agg #[y], .agg #[z]] w fun e w' => Nn.ResN R c e w' ∧ Below w.heap.size w w') ∧
  Calls Tryz.prog 11 #[.agg #[a, b], .agg #[x], .agg #[y], .agg #[z]] w fun e w' => Nn.ResN R c e w' ∧ Below w.heap.size w w'
theorem len0 : Nn.NatMath.len 0 ≤ 64 := by rw [Nn.NatMath.len_zero]; omega
theorem link_both {w0 : World} {a b x y z : Value} {lN lE l1 l2 l3 : List Nat} (ha : Nn.Sl w0 a lN) (hb : Nn.Sl w0 b lE) (hx : Nn.Sl w0 x l1) (hy : Nn.Sl w0 y l2) (hz : Nn.Sl w0 z l3) : ∃ R c, LinkOk lN lE l1 l2 l3 R c := by
  cases hk : kV lN lE with
  | false =>
    refine ⟨0, 1, len0, fun a b x y z w h1 h2 h3 h4 h5 => ?_⟩
    have g1 := h1; have g2 := h2; have g3 := h3; have g4 := h4; have g5 := h5
    obtain ⟨_, _, rfl, _⟩ := g1; obtain ⟨_, _, rfl, _⟩ := g2; obtain ⟨_, _, rfl, _⟩ := g3; obtain ⟨_, _, rfl, _⟩ := g4; obtain ⟨_, _, rfl, _⟩ := g5
    exact ⟨errN (Factor_1 lN lE l1 l2 l3 h1 h2 h3 h4 h5 hk), errN (Link_1 lN lE l1 l2 l3 h1 h2 h3 h4 h5 hk)⟩
  | true =>
    obtain ⟨N, E, rfl, rfl, HK⟩ := Key.of ha hb hk
    cases hv : [l1, l2, l3].all Nn.vld with
    | false =>
      refine ⟨0, 1, len0, fun a b x y z w h1 h2 h3 h4 h5 => ?_⟩
      obtain ⟨_, _, rfl, _⟩ := (h1 : Nn.Nt w a N).open
      obtain ⟨_, _, rfl, _⟩ := (h2 : Nn.Nt w b E).open
      have g3 := h3; have g4 := h4; have g5 := h5
      obtain ⟨_, _, rfl, _⟩ := g3; obtain ⟨_, _, rfl, _⟩ := g4; obtain ⟨_, _, rfl, _⟩ := g5
      refine ⟨errN (Factor_2 N E l1 l2 l3 h1 h2 h3 h4 h5 HK hv), errN ?_⟩
      cases v1 : Nn.vld l1 with
      | false => exact Link_2 N E l1 l2 l3 h1 h2 h3 h4 h5 HK v1
      | true =>
        cases v2 : Nn.vld l2 with
        | false => exact Link_2b N E l1 l2 l3 h1 h2 h3 h4 h5 HK v1 v2
        | true =>
          cases v3 : Nn.vld l3 with
          | false => exact Link_2c N E l1 l2 l3 h1 h2 h3 h4 h5 HK v1 v2 v3
          | true => simp [v1, v2, v3] at hv
    | true =>
      have hv2 := hv
      simp only [List.all_cons, List.all_nil, Bool.and_true, Bool.and_eq_true] at hv2
      obtain ⟨v1, v2, v3⟩ := hv2
      obtain ⟨B, rfl, lB, _⟩ := Nn.nt_of hx v1
      obtain ⟨X, rfl, lX, _⟩ := Nn.nt_of hy v2
      obtain ⟨T, rfl, lT, _⟩ := Nn.nt_of hz v3
      have op : ∀ {Q : Prop} {a b x y z : Value} {w : World}, Nn.Sl w a (Nn.NatMath.digs N) → Nn.Sl w b (Nn.NatMath.digs E) → Nn.Sl w x (Nn.NatMath.digs B) → Nn.Sl w y (Nn.NatMath.digs X) → Nn.Sl w z (Nn.NatMath.digs T) → (∀ (na ea ba sa ta : Option Addr) (nk ek bk sk tk : Nat), a = .slice na (Nn.NatMath.len N) nk → b = .slice ea (Nn.NatMath.len E) ek → x = .slice ba (Nn.NatMath.len B) bk → y = .slice sa (Nn.NatMath.len X) sk → z = .slice ta (Nn.NatMath.len T) tk → Q) → Q := by
        intro Q a b x y z w h1 h2 h3 h4 h5 K
        obtain ⟨na, nk, e1, _⟩ := (h1 : Nn.Nt w a N).open
        obtain ⟨ea, ek, e2, _⟩ := (h2 : Nn.Nt w b E).open
        obtain ⟨ba, bk, e3, _⟩ := (h3 : Nn.Nt w x B).open
        obtain ⟨sa, sk, e4, _⟩ := (h4 : Nn.Nt w y X).open
        obtain ⟨ta, tk, e5, _⟩ := (h5 : Nn.Nt w z T).open
        exact K na ea ba sa ta nk ek bk sk tk e1 e2 e3 e4 e5
      have hN0 : N ≠ 0 := by have := HK.n15; omega
      cases q1 : decide (B < N) with
      | false =>
        refine ⟨0, 2, len0, fun a b x y z w h1 h2 h3 h4 h5 => op h1 h2 h3 h4 h5 ?_⟩
        rintro na ea ba sa ta nk ek bk sk tk rfl rfl rfl rfl rfl
        exact ⟨errN (Factor_3 N E B X T h1 h2 h3 h4 h5 HK hv lB lX lT q1), errN (Link_3 N E B X T h1 h2 h3 h4 h5 HK v1 v2 v3 lT q1)⟩
      | true =>
        cases q2 : decide (X < N) with
        | false =>
          refine ⟨0, 2, len0, fun a b x y z w h1 h2 h3 h4 h5 => op h1 h2 h3 h4 h5 ?_⟩
          rintro na ea ba sa ta nk ek bk sk tk rfl rfl rfl rfl rfl
          exact ⟨errN (Factor_3b N E B X T h1 h2 h3 h4 h5 HK hv lB lX lT q1 q2), errN (Link_3b N E B X T h1 h2 h3 h4 h5 HK v1 v2 v3 lT q1 q2)⟩
        | true =>
          cases q3 : decide (T < N) with
          | false =>
            refine ⟨0, 2, len0, fun a b x y z w h1 h2 h3 h4 h5 => op h1 h2 h3 h4 h5 ?_⟩
            rintro na ea ba sa ta nk ek bk sk tk rfl rfl rfl rfl rfl
            exact ⟨errN (Factor_3c N E B X T h1 h2 h3 h4 h5 HK hv lB lX lT q1 q2 q3), errN (Link_3c N E B X T h1 h2 h3 h4 h5 HK v1 v2 v3 lT q1 q2 q3)⟩
          | true =>
            obtain ⟨r1, hp⟩ : ∃ r1, X ^ E % N = r1 := ⟨_, rfl⟩
            cases q4 : decide (r1 = B) with
            | false =>
              refine ⟨0, 11, len0, fun a b x y z w h1 h2 h3 h4 h5 => op h1 h2 h3 h4 h5 ?_⟩
              rintro na ea ba sa ta nk ek bk sk tk rfl rfl rfl rfl rfl
              exact ⟨errN (Factor_4 N E B X T h1 h2 h3 h4 h5 HK hv lB lX lT q1 q2 q3 hp q4), errN (Link_4 N E B X T h1 h2 h3 h4 h5 HK v1 v2 v3 lT q1 q2 q3 hp q4)⟩
            | true =>
              by_cases hT : T = 0
              · refine ⟨0, 10, len0, fun a b x y z w h1 h2 h3 h4 h5 => op h1 h2 h3 h4 h5 ?_⟩
                rintro na ea ba sa ta nk ek bk sk tk rfl rfl rfl rfl rfl
                exact ⟨errN (Factor_5 N E B X T h1 h2 h3 h4 h5 HK hv lB lX lT q1 q2 q3 hp q4 hT), errN (Link_5 N E B X T h1 h2 h3 h4 h5 HK v1 v2 v3 lT q1 q2 q3 hp q4 hT)⟩
              · have hT0 : 0 < Nn.NatMath.len T := Nat.pos_of_ne_zero fun e => hT (Nn.NatMath.len_eq_zero.1 e)
                cases q5 : decide (Nn.NatMath.invG T N = 1) with
                | false =>
                  refine ⟨0, 10, len0, fun a b x y z w h1 h2 h3 h4 h5 => op h1 h2 h3 h4 h5 ?_⟩
                  rintro na ea ba sa ta nk ek bk sk tk rfl rfl rfl rfl rfl
                  exact ⟨errN (Factor_6 N E B X T h1 h2 h3 h4 h5 HK hv lB lX lT q1 q2 q3 hp q4 hT q5), errN (Link_6 N E B X T h1 h2 h3 h4 h5 HK v1 v2 v3 lT q1 q2 q3 hp q4 hT0 (gcd_dec hN0 q5))⟩
                | true =>
                  refine ⟨X * Nn.NatMath.invV T N % N, 0, Nat.le_trans (Nn.NatMath.len_mono (Nat.le_of_lt (Nat.mod_lt _ (Nat.pos_of_ne_zero hN0)))) (Nat.le_trans HK.lN (by omega)), fun a b x y z w h1 h2 h3 h4 h5 => op h1 h2 h3 h4 h5 ?_⟩
                  rintro na ea ba sa ta nk ek bk sk tk rfl rfl rfl rfl rfl
                  exact ⟨Factor_7 N E B X T h1 h2 h3 h4 h5 HK hv lB lX lT q1 q2 q3 hp q4 hT q5 rfl rfl, Link_7 N E B X T h1 h2 h3 h4 h5 HK v1 v2 v3 lT q1 q2 q3 hp q4 hT0 (gcd_dec hN0 q5) q5 rfl rfl⟩
end Go.Proofs.YtikopkkebdobdaaGreatDoor

/- is there a long spend. -/
import Derived.Test.YtfnnfmefihiefaaSpEa
namespace Go.Proofs.Ytfnnfmefihiefaa
open Go.RowKit
set_option linter.unusedVariables false
set_option linter.unusedSimpArgs false
set_option maxRecDepth 100000 in
set_option maxHeartbeats 2000000 in
theorem lsI {D : Nat → Prop} (X : List Sv) {xa : Option Addr} {xk : Nat} {w : World} (hx : Fct.at w D (.gn (gSl (.slice xa X.length xk) X))) {r : Int} (hr0 : (r = -1 ∧ ∀ k (h : k < (X.map Sv.s).length), longS ((X.map Sv.s)[k]) = false) ∨ ∃ k : Nat, r = (k : Int) ∧ ∃ h : k < (X.map Sv.s).length, longS ((X.map Sv.s)[k]) = true ∧ ∀ j (h : j < (X.map Sv.s).length), j < k → longS ((X.map Sv.s)[j]) = false) (hm0 : X.length ≤ 1000000) :
    Calls Try.prog 46 #[.slice xa X.length xk, .func (.func 13) #[] #[]] w fun e w' => e = .returned (.int .i64 r) ∧ Below w.heap.size w w' := by
  have E0 : Hid (Env D w [] [.gn (gSl (.slice xa X.length xk) X)] w) := Lib.hid ((Env.start D w).arg (.gn (gSl (.slice xa X.length xk) X)) hx)
  clear hx
  go_enter Try.func46, Try.ntmps46
  have hr := Lib.hid hr0
  have hm := Lib.hid hm0
  clear hr0 hm0
  have HL : Hid ((X.map Sv.s).length = X.length) := Lib.hid (List.length_map ..)
  have hm9 := hm.out
  go_wp2_with fail
  go_loopg [8] (X.length) (fun gk s8 wr => ∃ (k : Nat), s8 = .int .i64 (k : Int) ∧ Hid (Env D w [] [.gn (gSl (.slice xa X.length xk) X)] wr) ∧ Hid ((k ≤ X.length ∧ gk = X.length - k) ∧ ∀ j (h : j < (X.map Sv.s).length), j < k → longS ((X.map Sv.s)[j]) = false))
  case atStart => exact ⟨0, rfl, Lib.hid E0.out, Lib.hid ⟨⟨Nat.zero_le _, rfl⟩, fun j _ h => absurd h (Nat.not_lt_zero _)⟩⟩
  case round =>
    clear E0
    obtain ⟨k, rfl, EL, HA⟩ := hrel
    obtain ⟨⟨a1, a2⟩, a3⟩ := HA.out
    have HS := Lib.hid a3
    clear a3 HA
    by_cases hy : k = X.length
    rotate_left
    · have hk : k < X.length := by omega
      have t6 : decide ((k : Int) < (X.length : Int)) = true := decide_eq_true (by omega)
      have t7 : decide (k < X.length) = true := decide_eq_true hk
      have hkI : (k : Int) < (X.length : Int) := by omega
      clear hy
      go_upto_region 4 with (fail)
      obtain ⟨xab, xao, rfl⟩ := gSl.addr (EL.out.fc 0 rfl) (List.ne_nil_of_length_pos (Nat.lt_of_le_of_lt (Nat.zero_le _) hk))
      obtain ⟨⟨xu, xp, xq⟩, xe⟩ : ∃ x, X[k] = x := ⟨_, rfl⟩
      have xE := Lib.hid xe
      clear xe
      have E1 : Hid (Env D w [] [.gn (gRg xab (xao + k * 80) (spc xu xp xq)), .gn (gSp xu xp xq), .gn (gSl (.slice (some ⟨xab, xao, none⟩) X.length xk) X)] _) := Lib.hid (EL.out.elV 0 rfl hk xE.out)
      clear EL
      have xS := Lib.hid (E1.out.spOk 1 rfl)
      have xN : Hid (∀ v ∈ spc xu xp xq, v.oneCell' = true) := Lib.hid (gSp.one (E1.out.fc 1 rfl))
      have HKL : Hid (∃ h : k < (X.map Sv.s).length, (X.map Sv.s)[k] = xu) := Lib.hid ⟨by rw [HL.out]; exact hk, by rw [List.getElem_map, xE.out]⟩
      obtain ⟨t, ht⟩ : ∃ t, longS (xu) = t := ⟨_, rfl⟩
      have HB := Lib.hid ht
      clear ht
      cases t with
      | true =>
        have HR : Hid (r = (k : Int)) := Lib.hid (by obtain ⟨hkl, ek⟩ := HKL.out; have hb2 := HB.out; rw [← ek] at hb2; rcases hr.out with ⟨_, h9⟩ | ⟨j, rfl, hj, h8, h7⟩; (· have := h9 k hkl; rw [hb2] at this; cases this); rcases Nat.lt_trichotomy j k with e | e | e; (· have := HS.out j hj e; rw [h8] at this; cases this); (· rw [e]); (· have := h7 k hkl e; rw [hb2] at this; cases this))
        have r1 := Lib.hid (E1.out.fc 0 rfl).2
        go_wp2_with (first | (with_reducible refine wpl_load_b bSpend xab (xao + k * 80) ?_ ?_ (spc xu xp xq) (spc_len xS.out _ _) r1.out ?_; (· exact ⟨_, rfl, rfl⟩); (· kernel_rfl)))
        refine (longw_c xu (E1.out.fc 1 rfl) (t := true) HB.out).mono ?_
        rintro e w1 ⟨rfl, hb⟩
        have E2 : Hid (Env D w [] [.gn (gRg xab (xao + k * 80) (spc xu xp xq)), .gn (gSp xu xp xq), .gn (gSl (.slice (some ⟨xab, xao, none⟩) X.length xk) X)] w1) := Lib.hid (E1.out.below hb)
        clear r1 E1 hb
        have hfin := Lib.hid E2.out.bel
        go_wp2
        go_ret
        exact ⟨RetEq HR.out.symm, hfin.out⟩
      | false =>
        have r1 := Lib.hid (E1.out.fc 0 rfl).2
        go_wp2_with (first | (with_reducible refine wpl_load_b bSpend xab (xao + k * 80) ?_ ?_ (spc xu xp xq) (spc_len xS.out _ _) r1.out ?_; (· exact ⟨_, rfl, rfl⟩); (· kernel_rfl)))
        refine (longw_c xu (E1.out.fc 1 rfl) (t := false) HB.out).mono ?_
        rintro e w1 ⟨rfl, hb⟩
        have E2 : Hid (Env D w [] [.gn (gRg xab (xao + k * 80) (spc xu xp xq)), .gn (gSp xu xp xq), .gn (gSl (.slice (some ⟨xab, xao, none⟩) X.length xk) X)] w1) := Lib.hid (E1.out.below hb)
        clear r1 E1 hb
        have EZ := Lib.hid ((E2.out.forget).forget)
        go_wp2
        go_roundg (X.length - (k + 1))
        case rel => exact ⟨k + 1, rfl, EZ, Lib.hid ⟨⟨by omega, rfl⟩, fun j h hj => by by_cases e : j = k; (· subst e; obtain ⟨hkl, ek⟩ := HKL.out; rw [ek]; exact HB.out); exact HS.out j h (by omega)⟩⟩
        case measure => exact by omega
    have t6 : decide ((k : Int) < (X.length : Int)) = false := decide_eq_false (by omega)
    have t7 : decide (k < X.length) = false := decide_eq_false (by omega)
    have HR : Hid (r = -1) := Lib.hid (by rcases hr.out with ⟨h9, _⟩ | ⟨j, rfl, hj, h8, h7⟩; (· exact h9); have := HS.out j hj (by rw [HL.out] at hj; omega); rw [h8] at this; cases this)
    have HY := Lib.hid hy
    clear hy
    have hfin := Lib.hid EL.out.bel
    go_wp2
    go_ret
    exact ⟨RetEq HR.out.symm, hfin.out⟩
set_option maxRecDepth 100000 in
set_option maxHeartbeats 2000000 in
theorem lsC {D : Nat → Prop} (X : List Sv) {xa : Option Addr} {xk : Nat} {w : World} (hx : Fct.at w D (.gn (gSl (.slice xa X.length xk) X))) {t : Bool} (ht0 : (X.map Sv.s).any (fun x => longS (x)) = t) (hm : X.length ≤ 1000000) :
    Calls Try.prog 22 #[.slice xa X.length xk, .func (.func 13) #[] #[]] w fun e w' => e = .returned (.bool t) ∧ Below w.heap.size w w' := by
  have E0 : Hid (Env D w [] [.gn (gSl (.slice xa X.length xk) X)] w) := Lib.hid ((Env.start D w).arg (.gn (gSl (.slice xa X.length xk) X)) hx)
  clear hx
  go_enter Try.func22, Try.ntmps22
  have ht := Lib.hid ht0
  clear ht0
  obtain ⟨r, hr⟩ : ∃ r : Int, ((r = -1 ∧ ∀ k (h : k < (X.map Sv.s).length), longS ((X.map Sv.s)[k]) = false) ∨ ∃ k : Nat, r = (k : Int) ∧ ∃ h : k < (X.map Sv.s).length, longS ((X.map Sv.s)[k]) = true ∧ ∀ j (h : j < (X.map Sv.s).length), j < k → longS ((X.map Sv.s)[j]) = false) := first_any (X.map Sv.s) (fun x => longS (x))
  have hd : Hid (decide (0 ≤ r) = t) := Lib.hid (by rw [← ht.out]; exact first_dec hr)
  have HR := Lib.hid hr
  clear hr ht
  go_wp2_with fail
  refine (lsI X (E0.out.fc 0 rfl) (hr0 := HR.out) (hm0 := hm)).mono ?_
  rintro e w1 ⟨rfl, hb⟩
  have E1 : Hid (Env D w [] [.gn (gSl (.slice xa X.length xk) X)] w1) := Lib.hid (E0.out.below hb)
  clear E0 hb
  have HD := hd.out
  have hfin := Lib.hid E1.out.bel
  go_wp2
  go_ret
  exact ⟨rfl, hfin.out⟩
end Go.Proofs.Ytfnnfmefihiefaa

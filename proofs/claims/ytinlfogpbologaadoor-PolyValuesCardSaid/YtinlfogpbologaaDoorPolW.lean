/- slices.Equal; poly: sub, inverse, check. -/
import Derived.Test.YtinlfogpbologaaDoorPolV
namespace Go.Proofs.YtinlfogpbologaaDoor
open Go.RowKit DivMath WordMath
set_option linter.unusedVariables false
set_option linter.unusedSimpArgs false
theorem nl_inj {a b : List Nat} (h : nl a = nl b) : a = b := by
  unfold nl at h
  exact List.map_inj_right (fun _ _ e => by exact_mod_cast e) |>.1 h
/-- slices.Equal of two rows of residues -/
theorem equalN_c {D : Nat → Prop} {a b : List Nat} {xa ya : Option Addr} {xk yk : Nat} {w : World} (hx : Fct.at w D (.rw (.slice xa a.length xk) a.length 1 (ncl a))) (hy : Fct.at w D (.rw (.slice ya b.length yk) b.length 1 (ncl b))) (hla : a.length ≤ 1000000) (hlb : b.length ≤ 1000000) {t : Bool} (ht : (a == b) = t) :
    Calls Tryd.prog 20 #[.slice xa a.length xk, .slice ya b.length yk] w fun e w' => e = .returned (.bool t) ∧ Below w.heap.size w w' := by
  subst ht
  by_cases hne : a.length = b.length
  · by_cases h0 : a.length = 0
    · have hb0 : b.length = 0 := by omega
      have e : (a == b) = true := by rw [List.length_eq_zero_iff.1 h0, List.length_eq_zero_iff.1 hb0]; rfl
      rw [e, h0, hb0]
      exact (Tryd.slices_Equal_int_empty xa ya xk 0 yk w (by omega)).mono fun e w' ⟨h1, h2⟩ => ⟨h1, by rw [h2]; exact Below.refl _ _⟩
    · obtain ⟨b1, o1, rfl⟩ := Rw.addr hx h0
      obtain ⟨b2, o2, rfl⟩ := Rw.addr hy (by omega)
      refine (Tryd.slices_Equal_int b1 o1 a.length xk b2 o2 b.length yk (nl a) (nl b) w (by rw [nl_len]; omega) (by rw [nl_len]; omega) (by omega) (by omega) (fun j hj => ?_) (fun j hj => ?_)).mono fun e w' ⟨h1, q, h2⟩ => ⟨?_, by rw [h2]; exact below_drewN (Below.refl _ _) q⟩
      · rw [nl_len] at hj; rw [(Rw.el hx h0 (ncl_get a j hj)).2]; simp [nl, List.getElem?_eq_getElem hj]
      · rw [nl_len] at hj; rw [(Rw.el hy (by omega) (ncl_get b j hj)).2]; simp [nl, List.getElem?_eq_getElem hj]
      · have e1 : (nl a).take a.length = nl a := List.take_of_length_le (by rw [nl_len]; omega)
        have e2 : (nl b).take b.length = nl b := List.take_of_length_le (by rw [nl_len]; omega)
        rw [e1, e2] at h1
        rw [h1]
        congr 2
        rw [Bool.eq_iff_iff, beq_iff_eq, beq_iff_eq]
        exact ⟨nl_inj, fun h => by rw [h]⟩
  · have e : (a == b) = false := by rw [beq_eq_false_iff_ne]; intro h; exact hne (by rw [h])
    rw [e]
    exact (Tryd.slices_Equal_int_lens xa ya _ xk _ yk w hne).mono fun e w' ⟨h1, h2⟩ => ⟨h1, by rw [h2]; exact Below.refl _ _⟩
set_option maxHeartbeats 400000 in
theorem polsub_c (q a b : Nat) (w : World) (ha : (a : Int) < (q : Int)) (hb : (b : Int) < (q : Int)) (hm : (q : Int) < Top) :
    Calls Tryd.prog 101 #[.int .i64 q, .int .i64 a, .int .i64 b] w fun e w' => RetN (fun r => r = (a + (q - b)) % q) e ∧ Below w.heap.size w w' := by
  have hq9 : (q : Int) ≤ 2305843009213693951 := by unfold Top at hm; omega
  have e1 : wrap64 ((a : Int) - (b : Int)) = (a : Int) - (b : Int) := IntWalk.wrap64_in _ (by omega)
  have e2 : wrap64 ((a : Int) - (b : Int) + (q : Int)) = ((a + (q - b) : Nat) : Int) := by rw [IntWalk.wrap64_in _ (by omega)]; omega
  have hq0 : ¬ (q = 0) := by omega
  have hqz : ((q : Int) == 0) = false := beq_eq_false_iff_ne.2 (by omega)
  obtain ⟨s, hs⟩ : ∃ s, s = a + (q - b) := ⟨_, rfl⟩
  rw [← hs] at e2
  have e3 : (a : Int) - (b : Int) + (q : Int) = (s : Int) := by omega
  have HS := Lib.hid hs
  clear hs hm
  go_enter Tryd.func101, Tryd.ntmps101
  go_wp2
  go_ret
  exact ⟨⟨s % q, Lib.hid (by rw [HS.out]), by rfl⟩, Below.refl _ _⟩
set_option maxHeartbeats 400000 in
theorem polinv_c (q a : Nat) (w : World) (ha : (a : Int) < (q : Int)) (hm : (q : Int) < Top) (hg : Nat.gcd a q = 1) :
    Calls Tryd.prog 102 #[.int .i64 q, .int .i64 a] w fun e w' => RetN (fun r => r < q ∧ a * r % q = 1 % q) e ∧ Below w.heap.size w w' := by
  go_enter Tryd.func102, Tryd.ntmps102
  go_wp2_with (first | (go_at_call 137; refine (Inverse_ok _ _ _ ha hm hg).mono ?_; rintro e w' ⟨⟨r, hr, rfl⟩, n, rfl⟩))
  go_ret
  exact ⟨⟨r, Lib.hid hr.out, rfl⟩, below_drewN (Below.refl _ _) _⟩
end Go.Proofs.YtinlfogpbologaaDoor

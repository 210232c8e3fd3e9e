/- short; Div but for the long division. -/
import Derived.Test.YthphmgdmhlimjaaNatI
namespace Go.Proofs.Ythphmgdmhlimjaa
open Go.RowKit NatMath
set_option linter.unusedVariables false

theorem div32_dig (N d k : Nat) (hd : 0 < d) (hd2 : d < 4294967296) (w : World) :
    Calls Try.prog 86 #[.int .u32 (drem N d (k + 1) : Nat), .int .u32 (dig N k : Nat), .int .u32 d] w fun e w' => e = .returned (.tuple #[.int .u32 (dig (N / d) k : Nat), .int .u32 (drem N d k : Nat)]) ∧ Qw w w' := by
  have h1 := drem_step N hd k
  rw [← h1.1, ← h1.2]
  have h2 := drem_lt N hd (k + 1)
  have h3 := dig_lt N k
  exact div32_c _ _ _ w (by omega) (by omega) (by omega) h2

set_option maxHeartbeats 1000000 in
theorem short_c (a : Value) (N d : Nat) (w : World) (ha : Nt w a N) (h1 : len N ≤ 64) (hd : 0 < d) (hd2 : d < 4294967296) :
    Calls Try.prog 68 #[a, .int .u32 d] w fun e w' => ∃ g, e = .returned (.tuple #[.slice (some ⟨g, 0, none⟩) (len N) (len N), .int .u32 (N % d : Nat)]) ∧ Hid (Own w' g (fill (dig (N / d)) (len N) (len N))) ∧ w.heap.size ≤ g ∧ Below w.heap.size w w' := by
  have HA := Lib.hid ha
  obtain ⟨ao, ca, rfl, a1, a2, _⟩ := ha.open
  have CC := Lib.hid (fun k w => div32_dig N d k hd hd2 w)
  have hR := drem_zero N d
  rw [← hR]
  have R0 : (0 : Int) = (drem N d (len N) : Nat) := by rw [drem_top]; rfl
  have HR := Lib.hid R0
  clear ha hR R0
  obtain ⟨g, hg⟩ : ∃ g, w.heap.size = g := ⟨_, rfl⟩
  go_enter Try.func68, Try.ntmps68
  go_wp2_with (at_make; go_loud (refine wpList_make_words _ rfl _ _ rfl (len N) _ _ rfl rfl rfl rfl (by omega) g hg ?_; intro w3 hO hB))
  have hO0 : Hid (Own w3 g (fillD (dig (N / d)) (len N) (len N))) := Lib.hid (by rw [fillD_none]; exact hO)
  have BW : Hid (Below g w w3) := Lib.hid hB
  clear hO hB
  have hn : (len N : Int) ≤ 64 := by omega
  go_loopw [8, 7] (fun s8 s7 wr => ∃ k : Nat, s8 = .int .i64 ((k : Int) - 1) ∧ s7 = .int .u32 (drem N d k : Nat) ∧ k ≤ len N ∧ Hid (Own wr g (fillD (dig (N / d)) k (len N))) ∧ Hid (Below g w wr)) (fun s8 _ _ => (RowKit.intOf s8 + 1).toNat)
  case atStart => exact ⟨len N, rfl, by rw [← HR.out], Nat.le_refl _, hO0, BW⟩
  case round =>
    obtain ⟨k, rfl, rfl, hk, hO, hB⟩ := hrel
    have hgr : g < wr.heap.size := hO.out.lt
    have hBW : Hid (Below w.heap.size w wr) := Lib.hid (by rw [hg]; exact hB.out)
    by_cases h0 : k = 0
    · have hge : decide (1 ≤ (k : Int)) = false := decide_eq_false (by omega)
      subst h0
      have hO1 := hO.out
      rw [fillD_all] at hO1
      have HO1 := Lib.hid hO1
      clear hO1
      go_wp2
      go_ret2
      exact ⟨g, rfl, HO1, by omega, hBW.out⟩
    · obtain ⟨j, rfl⟩ : ∃ j, k = j + 1 := ⟨k - 1, by omega⟩
      have ej : (((j + 1 : Nat) : Int) - 1) = (j : Int) := by omega
      rw [ej]
      have hjn : (j : Int) < (len N : Int) := by omega
      have hjn2 : j < len N := by omega
      have hj1 : decide (0 ≤ (j : Int)) = true := decide_eq_true (by omega)
      have hx0 : N ≠ 0 := fun e => by rw [e, len_zero] at hk; omega
      obtain ⟨ao', cx', ex, _, _, hx⟩ := (HA.out.below' hBW.out).open
      obtain ⟨rfl, rfl⟩ : ao' = ao ∧ cx' = ca := by simp at ex; exact ⟨ex.1.symm, ex.2.symm⟩
      obtain ⟨bx, offx, rfl, hbx, hcx⟩ := hx hx0
      have hcx1 := hcx j hjn2
      clear hcx ex hx ej
      go_wp2_with fail
      refine (CC.out j _).mono ?_; rintro e w1 ⟨rfl, hq⟩
      have hO1 := hO.out.qw hq
      have hB1 : Below g w w1 := hB.out.trans (hq.below _)
      have hgr1 : g < w1.heap.size := hO1.lt
      have hfr := hO1.frozen j
      have hcell := hO1.cell (i := j) (by rw [fillD_length]; omega)
      have HO2 := hO1.set j (dig (N / d) j)
      rw [fillD_set _ hjn2] at HO2
      have HO3 := Lib.hid HO2
      have HB1 := Lib.hid hB1
      clear HO2 hO1 hB1 hq hcx1
      go_wp2
      go_roundw
      case rel => exact ⟨j, rfl, rfl, by omega, HO3, Lib.hid (HB1.out.setCell (Nat.le_refl _) _)⟩
      case measure => simp [RowKit.intOf]
end Go.Proofs.Ythphmgdmhlimjaa

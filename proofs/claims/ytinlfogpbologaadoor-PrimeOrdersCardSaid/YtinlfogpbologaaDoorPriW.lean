/- the laws PrimeDivides and PrimeOrders. -/
import Derived.Test.YtinlfogpbologaaDoorPriU
import Derived.Test.YtinlfogpbologaaDoorPriY
namespace Go.Proofs.YtinlfogpbologaaDoor
open Go.RowKit DivMath WordMath
set_option linter.unusedVariables false
set_option linter.unusedSimpArgs false
theorem dec_flip {a b : Prop} [Decidable a] [Decidable b] {t : Bool} (h : a ↔ b) (k : decide a = t) : decide b = t := by rw [← k]; exact (decide_eq_decide.2 h).symm
/-- what the loop over divisors keeps -/
def DivI (k d : Nat) (b : Bool) : Prop := 2 ≤ d ∧ (d = 2 ∨ (d - 1) * (d - 1) ≤ k) ∧ (b = false → 2 ≤ k → 3 ≤ d) ∧ Pri.tri k d b
theorem DivI.start (k : Nat) : DivI k 2 (decide (2 ≤ k)) := ⟨Nat.le_refl 2, .inl rfl, (fun h h2 => by rw [decide_eq_true h2] at h; cases h), Pri.tri_start k⟩
theorem DivI.lt {k d : Nat} {b : Bool} (h : DivI k d b) (hk : k < 1048576) : d ≤ 1024 := by
  rcases h.2.1 with h | h
  · omega
  · apply Classical.byContradiction
    intro hc
    have : 1024 * 1024 ≤ (d - 1) * (d - 1) := Nat.mul_le_mul (by omega) (by omega)
    omega
theorem DivI.step {k d : Nat} (h : DivI k d true) (hd : d * d ≤ k) : DivI k (d + 1) (!decide (k % d = 0)) := ⟨by have := h.1; omega, .inr (by rw [Nat.add_sub_cancel]; exact hd), fun _ _ => by have := h.1; omega, Pri.tri_step h.1 h.2.2.2⟩
theorem DivI.done {k d : Nat} {b : Bool} (h : DivI k d b) (hk : k < 1048576) (hc : b = true → k < d * d) : b = Pri.isP k :=
  Pri.tri_done hk hc (fun e h1 h2 => by
    rcases h.2.1 with h3 | h3
    · omega
    · exact Nat.le_trans (Nat.mul_le_mul (by omega) (by omega)) h3) (fun h1 h2 => by
    have h3 := h.2.2.1 h1 h2
    refine ⟨h3, ?_⟩
    rcases h.2.1 with h4 | h4
    · omega
    · exact h4) h.2.2.2
theorem neg_isP (k : Nat) : Pri.isP ((-(k : Int)).toNat) = false := by
  rw [show (-(k : Int)).toNat = 0 by omega]; rfl
set_option maxRecDepth 100000 in
set_option maxHeartbeats 4000000 in
theorem pdv {D : Nat → Prop} (n k p : Nat) {w : World}  (hl0 : Laid w) (hn : (n : Int) ≤ 4294967295) (hk0 : k = n % 1048576) (hx0 : Pri.Nx k p) :
    Calls Tryd.prog 13 #[.int .u32 (n : Nat)] w fun e w' => e = .returned (.bool true) ∧ Below w.heap.size w w' := by
  have E0 : Hid (Env D w [] [] w) := Lib.hid (Env.start D w)
  go_enter Tryd.func13, Tryd.ntmps13
  have hl := Lib.hid hl0
  have hk := Lib.hid hk0
  have hx := Lib.hid hx0
  clear hl0 hk0 hx0
  have hk9 : k < 1048576 := by have := hk.out; omega
  have e1 : (n : Int) % 1048576 = (k : Int) := by rw [hk.out]; rfl
  have e1n : n % 1048576 = k := hk.out.symm
  go_wp2_with fail
  refine (awake05_c (hl.out.below E0.out.bel)).mono ?_
  rintro e w1 ⟨rfl, hb⟩
  have E1 : Hid (Env D w [] [] w1) := Lib.hid (E0.out.below hb)
  clear E0 hb
  obtain ⟨b0, hb0⟩ : ∃ b0, b0 = decide (2 ≤ k) := ⟨_, rfl⟩
  have e2 : decide ((2 : Int) ≤ (k : Int)) = b0 := by rw [hb0]; exact decide_eq_decide.2 (by omega)
  have e2n : decide (2 ≤ k) = b0 := hb0.symm
  have HK9 := Lib.hid hk9
  have HB0 : Hid (DivI k 2 b0) := Lib.hid (by rw [hb0]; exact DivI.start k)
  clear hb0
  go_wp2_with fail
  simp only [e1]
  go_loopg [4, 5] (1023) (fun gk s4 s5 wr => ∃ (d : Nat) (b : Bool), s4 = .bool b ∧ s5 = .int .i64 (d : Int) ∧ Hid (Env D w [] [] wr) ∧ Hid ((2 ≤ d ∧ d ≤ 1024 ∧ gk = 1025 - d) ∧ DivI k d b))
  case atStart => exact ⟨2, b0, rfl, rfl, Lib.hid E1.out, Lib.hid ⟨⟨by omega, by omega, by omega⟩, HB0.out⟩⟩
  case round =>
    clear E1
    obtain ⟨d, b, rfl, rfl, EL, HA⟩ := hrel
    obtain ⟨⟨a1, a2, a3⟩, a4⟩ := HA.out
    have HD := Lib.hid a4
    clear a4 HA e1 e1n e2 e2n HB0
    obtain ⟨dd, hdd⟩ : ∃ dd, dd = d * d := ⟨_, rfl⟩
    have e3 : (d : Int) * (d : Int) = (dd : Int) := by rw [hdd]; rfl
    have HDD := Lib.hid hdd
    have hdd9 : dd ≤ 1048576 := by rw [hdd]; exact Nat.mul_le_mul a2 a2
    clear hdd
    by_cases hc : dd ≤ k
    rotate_left
    · have hb : Hid (b = Pri.isP k) := Lib.hid (HD.out.done HK9.out (fun _ => by rw [← HDD.out]; omega))
      have t0 : decide ((dd : Int) ≤ (k : Int)) = false := decide_eq_false (by omega)
      have t0n : decide (dd ≤ k) = false := decide_eq_false (by omega)
      clear hc
      have HI : Hid (Pri.isP ((k : Int).toNat) = b) := Lib.hid (by rw [Int.toNat_natCast]; exact hb.out.symm)
      clear hb HD
      have hkp := hx.out.1
      have hp9 : p ≤ 2 * k + 2 := Pri.Nx_near HK9.out hx.out
      go_wp2_with fail
      refine (IsB (k : Int) _ (hl.out.below EL.out.bel) (by omega) HI.out).mono ?_
      rintro e w2 ⟨rfl, hb⟩
      have E2 : Hid (Env D w [] [] w2) := Lib.hid (EL.out.below hb)
      clear EL hb
      go_wp2_with fail
      refine (IsB (-(k : Int)) _ (hl.out.below E2.out.bel) (by omega) (neg_isP k)).mono ?_
      rintro e w3 ⟨rfl, hb⟩
      have E3 : Hid (Env D w [] [] w3) := Lib.hid (E2.out.below hb)
      clear E2 hb
      have hnx : (k : Int) ≤ 2305843009213693950 ∧ (p : Int) ≤ 2305843009213693951 := by omega
      go_wp2_with fail
      refine (Next_c (D := D) k p (hl.out.below E3.out.bel) hnx.1 hx.out hnx.2).mono ?_
      rintro e w4 ⟨rfl, hb⟩
      have E4 : Hid (Env D w [] [] w4) := Lib.hid (E3.out.below hb)
      clear E3 hb
      have t1 : decide ((p : Int) ≤ (k : Int)) = false := decide_eq_false (by omega)
      have t1n : decide (p ≤ k) = false := decide_eq_false (by omega)
      have t2 : decide ((2 : Int) * (k : Int) + 2 < (p : Int)) = false := decide_eq_false (by omega)
      have t2n : decide (2 * k + 2 < p) = false := decide_eq_false (by omega)
      have HI2 : Hid (Pri.isP ((p : Int).toNat) = true) := Lib.hid (by rw [Int.toNat_natCast]; exact hx.out.2.1)
      have HP9 := Lib.hid hp9
      clear t0 t0n e3
      go_wp2_with fail
      refine (IsB (p : Int) _ (hl.out.below E4.out.bel) (by omega) HI2.out).mono ?_
      rintro e w5 ⟨rfl, hb⟩
      have E5 : Hid (Env D w [] [] w5) := Lib.hid (E4.out.below hb)
      clear E4 hb
      go_wp2_with fail
      go_loopg [8] (p - (k + 1)) (fun gk s8 wr => ∃ (m : Nat), s8 = .int .i64 (m : Int) ∧ Hid (Env D w [] [] wr) ∧ Hid (k < m ∧ m ≤ p ∧ gk = p - m))
      case atStart => exact ⟨k + 1, rfl, Lib.hid E5.out, Lib.hid ⟨by omega, by omega, rfl⟩⟩
      case round =>
        clear E5 t1 t1n t2 t2n HI HI2
        obtain ⟨m, rfl, EL, HA⟩ := hrel
        obtain ⟨b1, b2, b3⟩ := HA.out
        clear HA
        by_cases hy : m < p
        · have HI : Hid (Pri.isP ((m : Int).toNat) = false) := Lib.hid (by rw [Int.toNat_natCast]; exact hx.out.2.2 m b1 hy)
          have t1 : decide ((m : Int) < (p : Int)) = true := decide_eq_true (by omega)
          have t1n : decide (m < p) = true := decide_eq_true (by omega)
          go_wp2_with fail
          refine (IsB (m : Int) _ (hl.out.below EL.out.bel) (by omega) HI.out).mono ?_
          rintro e w6 ⟨rfl, hb⟩
          have E6 : Hid (Env D w [] [] w6) := Lib.hid (EL.out.below hb)
          clear EL hb
          have EZ := Lib.hid E6.out
          go_wp2
          go_roundg (p - (m + 1))
          case rel => exact ⟨m + 1, rfl, EZ, Lib.hid ⟨by omega, by omega, rfl⟩⟩
          case measure => exact by omega
        · have hy2 : m = p := by omega
          have t1 : decide ((m : Int) < (p : Int)) = false := decide_eq_false (by omega)
          have t1n : decide (m < p) = false := decide_eq_false (by omega)
          clear hy2 hy
          have hfin := Lib.hid EL.out.bel
          go_wp2
          go_ret
          exact ⟨rfl, hfin.out⟩
    cases b with
    | false =>
      have hb : Hid (false = Pri.isP k) := Lib.hid (HD.out.done HK9.out (fun h => by cases h))
      have t0 : decide ((dd : Int) ≤ (k : Int)) = true := decide_eq_true (by omega)
      have t0n : decide (dd ≤ k) = true := decide_eq_true (by omega)
      clear hc
      have HI : Hid (Pri.isP ((k : Int).toNat) = false) := Lib.hid (by rw [Int.toNat_natCast]; exact hb.out.symm)
      clear hb HD
      have hkp := hx.out.1
      have hp9 : p ≤ 2 * k + 2 := Pri.Nx_near HK9.out hx.out
      go_wp2_with fail
      refine (IsB (k : Int) _ (hl.out.below EL.out.bel) (by omega) HI.out).mono ?_
      rintro e w2 ⟨rfl, hb⟩
      have E2 : Hid (Env D w [] [] w2) := Lib.hid (EL.out.below hb)
      clear EL hb
      go_wp2_with fail
      refine (IsB (-(k : Int)) _ (hl.out.below E2.out.bel) (by omega) (neg_isP k)).mono ?_
      rintro e w3 ⟨rfl, hb⟩
      have E3 : Hid (Env D w [] [] w3) := Lib.hid (E2.out.below hb)
      clear E2 hb
      have hnx : (k : Int) ≤ 2305843009213693950 ∧ (p : Int) ≤ 2305843009213693951 := by omega
      go_wp2_with fail
      refine (Next_c (D := D) k p (hl.out.below E3.out.bel) hnx.1 hx.out hnx.2).mono ?_
      rintro e w4 ⟨rfl, hb⟩
      have E4 : Hid (Env D w [] [] w4) := Lib.hid (E3.out.below hb)
      clear E3 hb
      have t1 : decide ((p : Int) ≤ (k : Int)) = false := decide_eq_false (by omega)
      have t1n : decide (p ≤ k) = false := decide_eq_false (by omega)
      have t2 : decide ((2 : Int) * (k : Int) + 2 < (p : Int)) = false := decide_eq_false (by omega)
      have t2n : decide (2 * k + 2 < p) = false := decide_eq_false (by omega)
      have HI2 : Hid (Pri.isP ((p : Int).toNat) = true) := Lib.hid (by rw [Int.toNat_natCast]; exact hx.out.2.1)
      have HP9 := Lib.hid hp9
      clear t0 t0n e3
      go_wp2_with fail
      refine (IsB (p : Int) _ (hl.out.below E4.out.bel) (by omega) HI2.out).mono ?_
      rintro e w5 ⟨rfl, hb⟩
      have E5 : Hid (Env D w [] [] w5) := Lib.hid (E4.out.below hb)
      clear E4 hb
      go_wp2_with fail
      go_loopg [8] (p - (k + 1)) (fun gk s8 wr => ∃ (m : Nat), s8 = .int .i64 (m : Int) ∧ Hid (Env D w [] [] wr) ∧ Hid (k < m ∧ m ≤ p ∧ gk = p - m))
      case atStart => exact ⟨k + 1, rfl, Lib.hid E5.out, Lib.hid ⟨by omega, by omega, rfl⟩⟩
      case round =>
        clear E5 t1 t1n t2 t2n HI HI2
        obtain ⟨m, rfl, EL, HA⟩ := hrel
        obtain ⟨b1, b2, b3⟩ := HA.out
        clear HA
        by_cases hy : m < p
        · have HI : Hid (Pri.isP ((m : Int).toNat) = false) := Lib.hid (by rw [Int.toNat_natCast]; exact hx.out.2.2 m b1 hy)
          have t1 : decide ((m : Int) < (p : Int)) = true := decide_eq_true (by omega)
          have t1n : decide (m < p) = true := decide_eq_true (by omega)
          go_wp2_with fail
          refine (IsB (m : Int) _ (hl.out.below EL.out.bel) (by omega) HI.out).mono ?_
          rintro e w6 ⟨rfl, hb⟩
          have E6 : Hid (Env D w [] [] w6) := Lib.hid (EL.out.below hb)
          clear EL hb
          have EZ := Lib.hid E6.out
          go_wp2
          go_roundg (p - (m + 1))
          case rel => exact ⟨m + 1, rfl, EZ, Lib.hid ⟨by omega, by omega, rfl⟩⟩
          case measure => exact by omega
        · have hy2 : m = p := by omega
          have t1 : decide ((m : Int) < (p : Int)) = false := decide_eq_false (by omega)
          have t1n : decide (m < p) = false := decide_eq_false (by omega)
          clear hy2 hy
          have hfin := Lib.hid EL.out.bel
          go_wp2
          go_ret
          exact ⟨rfl, hfin.out⟩
    | true =>
      have t0 : decide ((dd : Int) ≤ (k : Int)) = true := decide_eq_true (by omega)
      have t0n : decide (dd ≤ k) = true := decide_eq_true (by omega)
      have HS := Lib.hid (HD.out.step (by rw [← HDD.out]; exact hc))
      have hdlt := HS.out.lt HK9.out
      by_cases hm : k % d = 0
      · have t3 : ((k : Int) % (d : Int) == 0) = true := by rw [beq_iff_eq, ← Int.natCast_emod, hm]; rfl
        have t3b : ((k : Int) % (d : Int) != 0) = false := by rw [bne, t3]; rfl
        have HS2 : Hid (DivI k (d + 1) false) := Lib.hid (by have := HS.out; rw [decide_eq_true hm] at this; exact this)
        have hd0 : ¬ d = 0 := by omega
        have HM := Lib.hid hm
        clear HS hm hc HDD HD
        have EZ := Lib.hid EL.out
        go_wp2
        go_roundg (1025 - (d + 1))
        case rel => exact ⟨d + 1, false, rfl, rfl, EZ, Lib.hid ⟨⟨by omega, by omega, rfl⟩, HS2.out⟩⟩
        case measure => exact by omega
      · have t3 : ((k : Int) % (d : Int) == 0) = false := by rw [beq_eq_false_iff_ne, ← Int.natCast_emod]; exact fun h => hm (by omega)
        have t3b : ((k : Int) % (d : Int) != 0) = true := by rw [bne, t3]; rfl
        have HS2 : Hid (DivI k (d + 1) true) := Lib.hid (by have := HS.out; rw [decide_eq_false hm] at this; exact this)
        have hd0 : ¬ d = 0 := by omega
        have HM := Lib.hid hm
        clear HS hm hc HDD HD
        have EZ := Lib.hid EL.out
        go_wp2
        go_roundg (1025 - (d + 1))
        case rel => exact ⟨d + 1, true, rfl, rfl, EZ, Lib.hid ⟨⟨by omega, by omega, rfl⟩, HS2.out⟩⟩
        case measure => exact by omega
theorem MulN (a b p : Nat) (w : World) {r : Nat} (ha : a < p) (hb : b < p) (hp : (p : Int) < Top) (hr : a * b % p = r) :
    Calls Tryd.prog 29 #[.int .i64 (a : Nat), .int .i64 (b : Nat), .int .i64 (p : Nat)] w fun e w' => e = .returned (.tuple #[.int .i64 (r : Nat), .int .i64 0]) ∧ Below w.heap.size w w' := by
  refine (Mul_ok a b p w (by omega) (by omega) hp).mono ?_
  rintro e w' ⟨⟨y, hy, rfl⟩, hq⟩
  exact ⟨by rw [← hr, ← hy.out], hq.below⟩
set_option maxRecDepth 100000 in
set_option maxHeartbeats 4000000 in
theorem pords {D : Nat → Prop} (n k p r : Nat) (l : List Nat) {w : World}  (hl0 : Laid w) (hn : (n : Int) ≤ 65535) (hk0 : k = n % 2000) (hx0 : Pri.Nx k p) (hf0 : Pri.facN (p - 1) = some l) (hr0 : Pri.RootR p l r) :
    Calls Tryd.prog 14 #[.int .u16 (n : Nat)] w fun e w' => e = .returned (.bool true) ∧ Below w.heap.size w w' := by
  have E0 : Hid (Env D w [] [] w) := Lib.hid (Env.start D w)
  go_enter Tryd.func14, Tryd.ntmps14
  have hl := Lib.hid hl0
  have hk := Lib.hid hk0
  have hx := Lib.hid hx0
  have hf := Lib.hid hf0
  have hr := Lib.hid hr0
  clear hl0 hk0 hx0 hf0 hr0
  have hk9 : k < 2000 := by have := hk.out; omega
  have e1 : (n : Int) % 2000 = (k : Int) := by rw [hk.out]; rfl
  have e1n : n % 2000 = k := hk.out.symm
  have hp9 : p ≤ 2 * k + 2 := Pri.Nx_near (by omega) hx.out
  have HP9 : Hid (p ≤ 4100) := Lib.hid (by omega)
  have HP := Lib.hid hx.out.2.1
  have hp2 : 2 ≤ p := ((Pri.isP_iff (by omega)).1 hx.out.2.1).1
  have hp4 : p ≤ 4002 := by omega
  have HRT := Lib.hid (Pri.roots HP.out HP9.out hf.out hr.out)
  have hrp : r < p := HRT.out.1
  have hr1 : 1 ≤ r := hr.out.1
  have HT : Hid ((p : Int) < Top) := Lib.hid (by unfold Top; omega)
  have hnx : (k : Int) ≤ 2305843009213693950 ∧ (p : Int) ≤ 2305843009213693951 := by omega
  clear hp9
  go_wp2_with fail
  refine (awake05_c (hl.out.below E0.out.bel)).mono ?_
  rintro e w1 ⟨rfl, hb⟩
  have E1 : Hid (Env D w [] [] w1) := Lib.hid (E0.out.below hb)
  clear E0 hb
  go_wp2_with fail
  refine (Next_c (D := D) k p (hl.out.below E1.out.bel) hnx.1 hx.out hnx.2).mono ?_
  rintro e w2 ⟨rfl, hb⟩
  have E2 : Hid (Env D w [] [] w2) := Lib.hid (E1.out.below hb)
  clear E1 hb
  go_wp2_with fail
  refine (Root_some (D := D) p l r (hl.out.below E2.out.bel) HT.out HP.out hf.out hr.out).mono ?_
  rintro e w3 ⟨rfl, hb⟩
  have E3 : Hid (Env D w [] [] w3) := Lib.hid (E2.out.below hb)
  clear E2 hb
  have t1 : decide ((p : Int) < (2 : Int)) = false := decide_eq_false (by omega)
  have t1n : decide (p < 2) = false := decide_eq_false (by omega)
  have t2 : decide ((4100 : Int) < (p : Int)) = false := decide_eq_false (by omega)
  have t2n : decide (4100 < p) = false := decide_eq_false (by omega)
  have t3 : decide ((r : Int) < (1 : Int)) = false := decide_eq_false (by omega)
  have t3n : decide (r < 1) = false := decide_eq_false (by omega)
  have t4 : decide ((p : Int) ≤ (r : Int)) = false := decide_eq_false (by omega)
  have t4n : decide (p ≤ r) = false := decide_eq_false (by omega)
  go_wp2_with fail
  go_loopg [7] (r) (fun gk s7 wr => ∃ (s : Nat), s7 = .int .i64 (s : Int) ∧ Hid (Env D w [] [] wr) ∧ Hid (1 ≤ s ∧ s ≤ r + 1 ∧ gk = r + 1 - s))
  case atStart => exact ⟨1, rfl, Lib.hid E3.out, Lib.hid ⟨by omega, by omega, by omega⟩⟩
  case round =>
    clear E3 e1 e1n t1 t1n t2 t2n t3 t3n t4 t4n
    obtain ⟨s, rfl, EL, HA⟩ := hrel
    obtain ⟨a1, a2, a3⟩ := HA.out
    clear HA
    by_cases hy : s ≤ r
    rotate_left
    · have hy2 : r < s := by omega
      have t1 : decide ((s : Int) ≤ (r : Int)) = false := decide_eq_false (by omega)
      have t1n : decide (s ≤ r) = false := decide_eq_false (by omega)
      clear hy hy2
      have hfin := Lib.hid EL.out.bel
      go_wp2
      go_ret
      exact ⟨rfl, hfin.out⟩
    have t1 : decide ((s : Int) ≤ (r : Int)) = true := decide_eq_true (by omega)
    have t1n : decide (s ≤ r) = true := decide_eq_true (by omega)
    obtain ⟨t, ht, htp, hts⟩ := HRT.out.2 s a1 hy
    have HO := Lib.hid ht
    have HTS := Lib.hid hts
    have ht1 := ht.1
    clear ht hts
    have hsp : s < p := by omega
    have hs9 := Lib.hid (Nat.mod_eq_of_lt hsp)
    go_wp2_with fail
    go_loopg [8, 9] (t - 1) (fun gk s8 s9 wr => ∃ (o x : Nat), s8 = .int .i64 (o : Int) ∧ s9 = .int .i64 (x : Int) ∧ Hid (Env D w [] [] wr) ∧ Hid ((1 ≤ o ∧ o ≤ t ∧ x < p ∧ gk = t - o) ∧ x = s ^ o % p))
    case atStart => exact ⟨1, s, rfl, rfl, Lib.hid EL.out, Lib.hid ⟨⟨by omega, by omega, by omega, by omega⟩, by rw [Nat.pow_one, hs9.out]⟩⟩
    case round =>
      clear EL t1 t1n
      obtain ⟨o, x, rfl, rfl, EL, HA⟩ := hrel
      obtain ⟨⟨b1, b2, b3, b4⟩, b5⟩ := HA.out
      have HX := Lib.hid b5
      clear b5 HA
      by_cases hq : x = 1
      · have hot : o = t := Decidable.byContradiction (fun hc => HO.out.2.2 o b1 (by omega) (by rw [← HX.out]; exact hq))
        clear HX
        subst hq
        have u1 : (((1 : Nat) : Int) == 1) = true := rfl
        have e4 : (p : Int) - 1 = ((p - 1 : Nat) : Int) := by omega
        have e5 : ((o : Int) == ((p - 1 : Nat) : Int)) = ((s : Int) == (r : Int)) := by rw [Bool.eq_iff_iff, beq_iff_eq, beq_iff_eq]; have := HTS.out; omega
        obtain ⟨bb, hbb⟩ : ∃ bb, bb = ((s : Int) == (r : Int)) := ⟨_, rfl⟩
        rw [← hbb] at e5
        have e6 := hbb.symm
        have e5n : ((o : Int) == (p : Int) - 1) = bb := by rw [e4]; exact e5
        have e6n : (s == r) = bb := by rw [← e6, Bool.eq_iff_iff, beq_iff_eq, beq_iff_eq]; omega
        have HOT := Lib.hid hot
        clear hbb hot
        have EZ := Lib.hid EL.out
        go_wp2
        go_roundg (r + 1 - (s + 1))
        case rel => exact ⟨s + 1, rfl, EZ, Lib.hid ⟨by omega, by omega, rfl⟩⟩
        case measure => exact by omega
      have hot : o < t := Decidable.byContradiction (fun hc => hq (by rw [HX.out, show o = t by omega]; exact HO.out.2.1))
      have u1 : ((x : Int) == 1) = false := beq_eq_false_iff_ne.2 (by omega)
      have u1n : (x == 1) = false := beq_eq_false_iff_ne.2 hq
      have u1b : ((x : Int) != 1) = true := by rw [bne, u1]; rfl
      have u1c : (x != 1) = true := by rw [bne, u1n]; rfl
      have HQ := Lib.hid hq
      clear hq
      have u2 : decide ((o : Int) < (p : Int)) = true := decide_eq_true (by omega)
      have u2n : decide (o < p) = true := decide_eq_true (by omega)
      obtain ⟨y, hy2⟩ : ∃ y, y = x * s % p := ⟨_, rfl⟩
      have hyp : y < p := by rw [hy2]; exact Nat.mod_lt _ (by omega)
      have HX2 : Hid (y = s ^ (o + 1) % p) := Lib.hid (by rw [hy2, HX.out, Nat.pow_succ, Nat.mod_mul_mod])
      have HY := Lib.hid hy2
      clear hy2
      go_wp2_with fail
      refine (MulN x s p _ (by omega) (by omega) HT.out HY.out.symm).mono ?_
      rintro e w4 ⟨rfl, hb⟩
      have E4 : Hid (Env D w [] [] w4) := Lib.hid (EL.out.below hb)
      clear EL hb
      have EZ := Lib.hid E4.out
      go_wp2
      go_roundg (t - (o + 1))
      case rel => exact ⟨o + 1, y, rfl, rfl, EZ, Lib.hid ⟨⟨by omega, by omega, by omega, rfl⟩, HX2.out⟩⟩
      case measure => exact by omega
theorem PrimeDivides_walk (n : Int) {w : World} (hl : Laid w) (hn : 0 ≤ n ∧ n ≤ 4294967295) :
    Calls Tryd.prog 13 #[.int .u32 n] w fun e w' => e = .returned (.bool true) ∧ Below w.heap.size w w' := by
  obtain ⟨m, rfl⟩ : ∃ m : Nat, n = (m : Int) := ⟨n.toNat, by omega⟩
  obtain ⟨p, hp, -⟩ := Pri.Nx_ex (n := m % 1048576) (by omega)
  exact pdv (D := fun _ => True) m _ p hl hn.2 rfl hp
theorem PrimeOrders_walk (n : Int) {w : World} (hl : Laid w) (hn : 0 ≤ n ∧ n ≤ 65535) :
    Calls Tryd.prog 14 #[.int .u16 n] w fun e w' => e = .returned (.bool true) ∧ Below w.heap.size w w' := by
  obtain ⟨m, rfl⟩ : ∃ m : Nat, n = (m : Int) := ⟨n.toNat, by omega⟩
  obtain ⟨p, hp, -⟩ := Pri.Nx_ex (n := m % 2000) (by omega)
  have h9 := Pri.Nx_near (by omega) hp
  have h2 : 2 ≤ p := ((Pri.isP_iff (by omega)).1 hp.2.1).1
  obtain ⟨l, hl2, -⟩ := Pri.facN_full (n := p - 1) (by omega) (by omega)
  obtain ⟨r, hr⟩ := Pri.RootR_ex (p := p) (l := l) h2 (fac_good h2 (by unfold Top; omega) hl2).2
  exact pords (D := fun _ => True) m _ p r l hl hn.2 rfl hp hl2 hr
end Go.Proofs.YtinlfogpbologaaDoor

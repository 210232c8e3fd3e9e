/- The contract of prime.Is. -/
import Derived.Test.YteipbcpnnojclaaDoorPriB
namespace Go.Proofs.YteipbcpnnojclaaDoor
open Go.RowKit DivMath WordMath
set_option linter.unusedVariables false
namespace Pri
theorem isP_some {m : Nat} {b : Bool} (h2 : 2 ≤ m) (h : sieve m bases = some b) : isP m = b := by unfold isP; rw [if_neg (by omega), h]
theorem isP_none {m : Nat} (h2 : 2 ≤ m) (h : sieve m bases = none) : isP m = bases.all (strong m) := by unfold isP; rw [if_neg (by omega), h]
theorem ctz_tz {n : Nat} (h0 : 0 < n) (h : n < 2 ^ 64) : Lib.ctz 64 n = tz n ∧ tz n < 64 := by
  obtain ⟨m, e, hl⟩ := Lib.ctzFrom_spec 64 n h0 h
  obtain ⟨h1, h2⟩ := tz_unique (d := 2 * m + 1) (s := Lib.ctzFrom 64 n) h0 h (by rw [Nat.mul_comm]; exact e) (by omega)
  unfold Lib.ctz
  rw [if_neg (by omega), ← h2]
  exact ⟨rfl, hl⟩
end Pri

set_option maxRecDepth 100000 in
set_option maxHeartbeats 4000000 in
theorem Is_big (m : Nat) (r : Bool) (w : World) (hl0 : Laid w) (h2 : 2 ≤ (m : Int)) (hm : (m : Int) ≤ 9223372036854775807) (hr0 : Pri.isP m = r) :
    Calls Tryd.prog 55 #[.int .i64 m] w fun e w' => e = .returned (.bool r) ∧ Qw w w' := by
  have hl := hl0
  have v0 : w.cell? ⟨0, 0, none⟩ = some (.int .u64 2) := hl.1 0 (by decide)
  have v1 : w.cell? ⟨0, 1, none⟩ = some (.int .u64 3) := hl.1 1 (by decide)
  have v2 : w.cell? ⟨0, 2, none⟩ = some (.int .u64 5) := hl.1 2 (by decide)
  have v3 : w.cell? ⟨0, 3, none⟩ = some (.int .u64 7) := hl.1 3 (by decide)
  have v4 : w.cell? ⟨0, 4, none⟩ = some (.int .u64 11) := hl.1 4 (by decide)
  have v5 : w.cell? ⟨0, 5, none⟩ = some (.int .u64 13) := hl.1 5 (by decide)
  have v6 : w.cell? ⟨0, 6, none⟩ = some (.int .u64 17) := hl.1 6 (by decide)
  have v7 : w.cell? ⟨0, 7, none⟩ = some (.int .u64 19) := hl.1 7 (by decide)
  have v8 : w.cell? ⟨0, 8, none⟩ = some (.int .u64 23) := hl.1 8 (by decide)
  have v9 : w.cell? ⟨0, 9, none⟩ = some (.int .u64 29) := hl.1 9 (by decide)
  have v10 : w.cell? ⟨0, 10, none⟩ = some (.int .u64 31) := hl.1 10 (by decide)
  have v11 : w.cell? ⟨0, 11, none⟩ = some (.int .u64 37) := hl.1 11 (by decide)
  have HLD := Lib.hid hl0
  clear hl hl0
  have hr := Lib.hid hr0
  have h2' : 2 ≤ m := by omega
  have H2 := Lib.hid h2'
  have ec : IntKind.u64.wrap (m : Int) = (m : Int) := by rw [IntKind.wrap_u64]; omega
  have hn2 : decide ((m : Int) < 2) = false := decide_eq_false (by omega)
  have hst : Hid (Pri.sieve m (Pri.bases.drop 0) = Pri.sieve m Pri.bases) := Lib.hid rfl
  clear hr0 h2'
  go_enter Tryd.func55, Tryd.ntmps55
  go_wp2
  go_loopw [14] (fun s0 wr => ∃ i : Int, s0 = .int .i64 i ∧ (0 ≤ i ∧ i ≤ 12) ∧ Hid (Pri.sieve m (Pri.bases.drop i.toNat) = Pri.sieve m Pri.bases) ∧ Qw w wr) (fun s0 _ => 12 - (RowKit.intOf s0).toNat)
  case atStart => exact ⟨0, rfl, by omega, hst, Qw.refl _⟩
  case round =>
    obtain ⟨i, rfl, hi, HI, n2, rfl⟩ := hrel
    clear hst
    have hi' : i = 0 ∨ i = 1 ∨ i = 2 ∨ i = 3 ∨ i = 4 ∨ i = 5 ∨ i = 6 ∨ i = 7 ∨ i = 8 ∨ i = 9 ∨ i = 10 ∨ i = 11 ∨ i = 12 := by omega
    clear hi
    rcases hi' with rfl | rfl | rfl | rfl | rfl | rfl | rfl | rfl | rfl | rfl | rfl | rfl | rfl
    · by_cases hp : m % 2 = 0
      · have HR : Hid (r = (m == 2)) := Lib.hid (by
          have h := HI.out
          rw [show Pri.bases.drop (Int.toNat 0) = 2 :: Pri.bases.drop (Int.toNat 1) from rfl] at h
          unfold Pri.sieve at h
          rw [if_pos hp] at h
          rw [← hr.out]; exact Pri.isP_some H2.out h.symm)
        have t1 : ((m : Int) % 2 == 0) = true := by simp; omega
        have tm : ((m : Int) == 2) = r := by rw [HR.out, Bool.eq_iff_iff]; simp; omega
        clear HI hp HR
        have ix : ∀ w, (Instr.index 106 (.agg #[.int .u64 2, .int .u64 3, .int .u64 5, .int .u64 7, .int .u64 11, .int .u64 13, .int .u64 17, .int .u64 19, .int .u64 23, .int .u64 29, .int .u64 31, .int .u64 37]) (.int .i64 0)).run Tryd.prog w = .ok (.int .u64 2) w := fun _ => by kernel_rfl
        go_wp2
        go_ret
        exact ⟨rfl, _, rfl⟩
      · have HR : Hid (Pri.sieve m (Pri.bases.drop (Int.toNat 1)) = Pri.sieve m Pri.bases) := Lib.hid (by
          have h := HI.out
          rw [show Pri.bases.drop (Int.toNat 0) = 2 :: Pri.bases.drop (Int.toNat 1) from rfl] at h
          unfold Pri.sieve at h
          rw [if_neg hp] at h
          exact h)
        have t1 : ((m : Int) % 2 == 0) = false := by simp; omega
        clear HI hp
        have ix : ∀ w, (Instr.index 106 (.agg #[.int .u64 2, .int .u64 3, .int .u64 5, .int .u64 7, .int .u64 11, .int .u64 13, .int .u64 17, .int .u64 19, .int .u64 23, .int .u64 29, .int .u64 31, .int .u64 37]) (.int .i64 0)).run Tryd.prog w = .ok (.int .u64 2) w := fun _ => by kernel_rfl
        go_wp2
        go_roundw
        case rel => exact ⟨1, rfl, by omega, HR, _, rfl⟩
        case measure => simp [RowKit.intOf]
    · by_cases hp : m % 3 = 0
      · have HR : Hid (r = (m == 3)) := Lib.hid (by
          have h := HI.out
          rw [show Pri.bases.drop (Int.toNat 1) = 3 :: Pri.bases.drop (Int.toNat 2) from rfl] at h
          unfold Pri.sieve at h
          rw [if_pos hp] at h
          rw [← hr.out]; exact Pri.isP_some H2.out h.symm)
        have t1 : ((m : Int) % 3 == 0) = true := by simp; omega
        have tm : ((m : Int) == 3) = r := by rw [HR.out, Bool.eq_iff_iff]; simp; omega
        clear HI hp HR
        have ix : ∀ w, (Instr.index 106 (.agg #[.int .u64 2, .int .u64 3, .int .u64 5, .int .u64 7, .int .u64 11, .int .u64 13, .int .u64 17, .int .u64 19, .int .u64 23, .int .u64 29, .int .u64 31, .int .u64 37]) (.int .i64 1)).run Tryd.prog w = .ok (.int .u64 3) w := fun _ => by kernel_rfl
        go_wp2
        go_ret
        exact ⟨rfl, _, rfl⟩
      · have HR : Hid (Pri.sieve m (Pri.bases.drop (Int.toNat 2)) = Pri.sieve m Pri.bases) := Lib.hid (by
          have h := HI.out
          rw [show Pri.bases.drop (Int.toNat 1) = 3 :: Pri.bases.drop (Int.toNat 2) from rfl] at h
          unfold Pri.sieve at h
          rw [if_neg hp] at h
          exact h)
        have t1 : ((m : Int) % 3 == 0) = false := by simp; omega
        clear HI hp
        have ix : ∀ w, (Instr.index 106 (.agg #[.int .u64 2, .int .u64 3, .int .u64 5, .int .u64 7, .int .u64 11, .int .u64 13, .int .u64 17, .int .u64 19, .int .u64 23, .int .u64 29, .int .u64 31, .int .u64 37]) (.int .i64 1)).run Tryd.prog w = .ok (.int .u64 3) w := fun _ => by kernel_rfl
        go_wp2
        go_roundw
        case rel => exact ⟨2, rfl, by omega, HR, _, rfl⟩
        case measure => simp [RowKit.intOf]
    · by_cases hp : m % 5 = 0
      · have HR : Hid (r = (m == 5)) := Lib.hid (by
          have h := HI.out
          rw [show Pri.bases.drop (Int.toNat 2) = 5 :: Pri.bases.drop (Int.toNat 3) from rfl] at h
          unfold Pri.sieve at h
          rw [if_pos hp] at h
          rw [← hr.out]; exact Pri.isP_some H2.out h.symm)
        have t1 : ((m : Int) % 5 == 0) = true := by simp; omega
        have tm : ((m : Int) == 5) = r := by rw [HR.out, Bool.eq_iff_iff]; simp; omega
        clear HI hp HR
        have ix : ∀ w, (Instr.index 106 (.agg #[.int .u64 2, .int .u64 3, .int .u64 5, .int .u64 7, .int .u64 11, .int .u64 13, .int .u64 17, .int .u64 19, .int .u64 23, .int .u64 29, .int .u64 31, .int .u64 37]) (.int .i64 2)).run Tryd.prog w = .ok (.int .u64 5) w := fun _ => by kernel_rfl
        go_wp2
        go_ret
        exact ⟨rfl, _, rfl⟩
      · have HR : Hid (Pri.sieve m (Pri.bases.drop (Int.toNat 3)) = Pri.sieve m Pri.bases) := Lib.hid (by
          have h := HI.out
          rw [show Pri.bases.drop (Int.toNat 2) = 5 :: Pri.bases.drop (Int.toNat 3) from rfl] at h
          unfold Pri.sieve at h
          rw [if_neg hp] at h
          exact h)
        have t1 : ((m : Int) % 5 == 0) = false := by simp; omega
        clear HI hp
        have ix : ∀ w, (Instr.index 106 (.agg #[.int .u64 2, .int .u64 3, .int .u64 5, .int .u64 7, .int .u64 11, .int .u64 13, .int .u64 17, .int .u64 19, .int .u64 23, .int .u64 29, .int .u64 31, .int .u64 37]) (.int .i64 2)).run Tryd.prog w = .ok (.int .u64 5) w := fun _ => by kernel_rfl
        go_wp2
        go_roundw
        case rel => exact ⟨3, rfl, by omega, HR, _, rfl⟩
        case measure => simp [RowKit.intOf]
    · by_cases hp : m % 7 = 0
      · have HR : Hid (r = (m == 7)) := Lib.hid (by
          have h := HI.out
          rw [show Pri.bases.drop (Int.toNat 3) = 7 :: Pri.bases.drop (Int.toNat 4) from rfl] at h
          unfold Pri.sieve at h
          rw [if_pos hp] at h
          rw [← hr.out]; exact Pri.isP_some H2.out h.symm)
        have t1 : ((m : Int) % 7 == 0) = true := by simp; omega
        have tm : ((m : Int) == 7) = r := by rw [HR.out, Bool.eq_iff_iff]; simp; omega
        clear HI hp HR
        have ix : ∀ w, (Instr.index 106 (.agg #[.int .u64 2, .int .u64 3, .int .u64 5, .int .u64 7, .int .u64 11, .int .u64 13, .int .u64 17, .int .u64 19, .int .u64 23, .int .u64 29, .int .u64 31, .int .u64 37]) (.int .i64 3)).run Tryd.prog w = .ok (.int .u64 7) w := fun _ => by kernel_rfl
        go_wp2
        go_ret
        exact ⟨rfl, _, rfl⟩
      · have HR : Hid (Pri.sieve m (Pri.bases.drop (Int.toNat 4)) = Pri.sieve m Pri.bases) := Lib.hid (by
          have h := HI.out
          rw [show Pri.bases.drop (Int.toNat 3) = 7 :: Pri.bases.drop (Int.toNat 4) from rfl] at h
          unfold Pri.sieve at h
          rw [if_neg hp] at h
          exact h)
        have t1 : ((m : Int) % 7 == 0) = false := by simp; omega
        clear HI hp
        have ix : ∀ w, (Instr.index 106 (.agg #[.int .u64 2, .int .u64 3, .int .u64 5, .int .u64 7, .int .u64 11, .int .u64 13, .int .u64 17, .int .u64 19, .int .u64 23, .int .u64 29, .int .u64 31, .int .u64 37]) (.int .i64 3)).run Tryd.prog w = .ok (.int .u64 7) w := fun _ => by kernel_rfl
        go_wp2
        go_roundw
        case rel => exact ⟨4, rfl, by omega, HR, _, rfl⟩
        case measure => simp [RowKit.intOf]
    · by_cases hp : m % 11 = 0
      · have HR : Hid (r = (m == 11)) := Lib.hid (by
          have h := HI.out
          rw [show Pri.bases.drop (Int.toNat 4) = 11 :: Pri.bases.drop (Int.toNat 5) from rfl] at h
          unfold Pri.sieve at h
          rw [if_pos hp] at h
          rw [← hr.out]; exact Pri.isP_some H2.out h.symm)
        have t1 : ((m : Int) % 11 == 0) = true := by simp; omega
        have tm : ((m : Int) == 11) = r := by rw [HR.out, Bool.eq_iff_iff]; simp; omega
        clear HI hp HR
        have ix : ∀ w, (Instr.index 106 (.agg #[.int .u64 2, .int .u64 3, .int .u64 5, .int .u64 7, .int .u64 11, .int .u64 13, .int .u64 17, .int .u64 19, .int .u64 23, .int .u64 29, .int .u64 31, .int .u64 37]) (.int .i64 4)).run Tryd.prog w = .ok (.int .u64 11) w := fun _ => by kernel_rfl
        go_wp2
        go_ret
        exact ⟨rfl, _, rfl⟩
      · have HR : Hid (Pri.sieve m (Pri.bases.drop (Int.toNat 5)) = Pri.sieve m Pri.bases) := Lib.hid (by
          have h := HI.out
          rw [show Pri.bases.drop (Int.toNat 4) = 11 :: Pri.bases.drop (Int.toNat 5) from rfl] at h
          unfold Pri.sieve at h
          rw [if_neg hp] at h
          exact h)
        have t1 : ((m : Int) % 11 == 0) = false := by simp; omega
        clear HI hp
        have ix : ∀ w, (Instr.index 106 (.agg #[.int .u64 2, .int .u64 3, .int .u64 5, .int .u64 7, .int .u64 11, .int .u64 13, .int .u64 17, .int .u64 19, .int .u64 23, .int .u64 29, .int .u64 31, .int .u64 37]) (.int .i64 4)).run Tryd.prog w = .ok (.int .u64 11) w := fun _ => by kernel_rfl
        go_wp2
        go_roundw
        case rel => exact ⟨5, rfl, by omega, HR, _, rfl⟩
        case measure => simp [RowKit.intOf]
    · by_cases hp : m % 13 = 0
      · have HR : Hid (r = (m == 13)) := Lib.hid (by
          have h := HI.out
          rw [show Pri.bases.drop (Int.toNat 5) = 13 :: Pri.bases.drop (Int.toNat 6) from rfl] at h
          unfold Pri.sieve at h
          rw [if_pos hp] at h
          rw [← hr.out]; exact Pri.isP_some H2.out h.symm)
        have t1 : ((m : Int) % 13 == 0) = true := by simp; omega
        have tm : ((m : Int) == 13) = r := by rw [HR.out, Bool.eq_iff_iff]; simp; omega
        clear HI hp HR
        have ix : ∀ w, (Instr.index 106 (.agg #[.int .u64 2, .int .u64 3, .int .u64 5, .int .u64 7, .int .u64 11, .int .u64 13, .int .u64 17, .int .u64 19, .int .u64 23, .int .u64 29, .int .u64 31, .int .u64 37]) (.int .i64 5)).run Tryd.prog w = .ok (.int .u64 13) w := fun _ => by kernel_rfl
        go_wp2
        go_ret
        exact ⟨rfl, _, rfl⟩
      · have HR : Hid (Pri.sieve m (Pri.bases.drop (Int.toNat 6)) = Pri.sieve m Pri.bases) := Lib.hid (by
          have h := HI.out
          rw [show Pri.bases.drop (Int.toNat 5) = 13 :: Pri.bases.drop (Int.toNat 6) from rfl] at h
          unfold Pri.sieve at h
          rw [if_neg hp] at h
          exact h)
        have t1 : ((m : Int) % 13 == 0) = false := by simp; omega
        clear HI hp
        have ix : ∀ w, (Instr.index 106 (.agg #[.int .u64 2, .int .u64 3, .int .u64 5, .int .u64 7, .int .u64 11, .int .u64 13, .int .u64 17, .int .u64 19, .int .u64 23, .int .u64 29, .int .u64 31, .int .u64 37]) (.int .i64 5)).run Tryd.prog w = .ok (.int .u64 13) w := fun _ => by kernel_rfl
        go_wp2
        go_roundw
        case rel => exact ⟨6, rfl, by omega, HR, _, rfl⟩
        case measure => simp [RowKit.intOf]
    · by_cases hp : m % 17 = 0
      · have HR : Hid (r = (m == 17)) := Lib.hid (by
          have h := HI.out
          rw [show Pri.bases.drop (Int.toNat 6) = 17 :: Pri.bases.drop (Int.toNat 7) from rfl] at h
          unfold Pri.sieve at h
          rw [if_pos hp] at h
          rw [← hr.out]; exact Pri.isP_some H2.out h.symm)
        have t1 : ((m : Int) % 17 == 0) = true := by simp; omega
        have tm : ((m : Int) == 17) = r := by rw [HR.out, Bool.eq_iff_iff]; simp; omega
        clear HI hp HR
        have ix : ∀ w, (Instr.index 106 (.agg #[.int .u64 2, .int .u64 3, .int .u64 5, .int .u64 7, .int .u64 11, .int .u64 13, .int .u64 17, .int .u64 19, .int .u64 23, .int .u64 29, .int .u64 31, .int .u64 37]) (.int .i64 6)).run Tryd.prog w = .ok (.int .u64 17) w := fun _ => by kernel_rfl
        go_wp2
        go_ret
        exact ⟨rfl, _, rfl⟩
      · have HR : Hid (Pri.sieve m (Pri.bases.drop (Int.toNat 7)) = Pri.sieve m Pri.bases) := Lib.hid (by
          have h := HI.out
          rw [show Pri.bases.drop (Int.toNat 6) = 17 :: Pri.bases.drop (Int.toNat 7) from rfl] at h
          unfold Pri.sieve at h
          rw [if_neg hp] at h
          exact h)
        have t1 : ((m : Int) % 17 == 0) = false := by simp; omega
        clear HI hp
        have ix : ∀ w, (Instr.index 106 (.agg #[.int .u64 2, .int .u64 3, .int .u64 5, .int .u64 7, .int .u64 11, .int .u64 13, .int .u64 17, .int .u64 19, .int .u64 23, .int .u64 29, .int .u64 31, .int .u64 37]) (.int .i64 6)).run Tryd.prog w = .ok (.int .u64 17) w := fun _ => by kernel_rfl
        go_wp2
        go_roundw
        case rel => exact ⟨7, rfl, by omega, HR, _, rfl⟩
        case measure => simp [RowKit.intOf]
    · by_cases hp : m % 19 = 0
      · have HR : Hid (r = (m == 19)) := Lib.hid (by
          have h := HI.out
          rw [show Pri.bases.drop (Int.toNat 7) = 19 :: Pri.bases.drop (Int.toNat 8) from rfl] at h
          unfold Pri.sieve at h
          rw [if_pos hp] at h
          rw [← hr.out]; exact Pri.isP_some H2.out h.symm)
        have t1 : ((m : Int) % 19 == 0) = true := by simp; omega
        have tm : ((m : Int) == 19) = r := by rw [HR.out, Bool.eq_iff_iff]; simp; omega
        clear HI hp HR
        have ix : ∀ w, (Instr.index 106 (.agg #[.int .u64 2, .int .u64 3, .int .u64 5, .int .u64 7, .int .u64 11, .int .u64 13, .int .u64 17, .int .u64 19, .int .u64 23, .int .u64 29, .int .u64 31, .int .u64 37]) (.int .i64 7)).run Tryd.prog w = .ok (.int .u64 19) w := fun _ => by kernel_rfl
        go_wp2
        go_ret
        exact ⟨rfl, _, rfl⟩
      · have HR : Hid (Pri.sieve m (Pri.bases.drop (Int.toNat 8)) = Pri.sieve m Pri.bases) := Lib.hid (by
          have h := HI.out
          rw [show Pri.bases.drop (Int.toNat 7) = 19 :: Pri.bases.drop (Int.toNat 8) from rfl] at h
          unfold Pri.sieve at h
          rw [if_neg hp] at h
          exact h)
        have t1 : ((m : Int) % 19 == 0) = false := by simp; omega
        clear HI hp
        have ix : ∀ w, (Instr.index 106 (.agg #[.int .u64 2, .int .u64 3, .int .u64 5, .int .u64 7, .int .u64 11, .int .u64 13, .int .u64 17, .int .u64 19, .int .u64 23, .int .u64 29, .int .u64 31, .int .u64 37]) (.int .i64 7)).run Tryd.prog w = .ok (.int .u64 19) w := fun _ => by kernel_rfl
        go_wp2
        go_roundw
        case rel => exact ⟨8, rfl, by omega, HR, _, rfl⟩
        case measure => simp [RowKit.intOf]
    · by_cases hp : m % 23 = 0
      · have HR : Hid (r = (m == 23)) := Lib.hid (by
          have h := HI.out
          rw [show Pri.bases.drop (Int.toNat 8) = 23 :: Pri.bases.drop (Int.toNat 9) from rfl] at h
          unfold Pri.sieve at h
          rw [if_pos hp] at h
          rw [← hr.out]; exact Pri.isP_some H2.out h.symm)
        have t1 : ((m : Int) % 23 == 0) = true := by simp; omega
        have tm : ((m : Int) == 23) = r := by rw [HR.out, Bool.eq_iff_iff]; simp; omega
        clear HI hp HR
        have ix : ∀ w, (Instr.index 106 (.agg #[.int .u64 2, .int .u64 3, .int .u64 5, .int .u64 7, .int .u64 11, .int .u64 13, .int .u64 17, .int .u64 19, .int .u64 23, .int .u64 29, .int .u64 31, .int .u64 37]) (.int .i64 8)).run Tryd.prog w = .ok (.int .u64 23) w := fun _ => by kernel_rfl
        go_wp2
        go_ret
        exact ⟨rfl, _, rfl⟩
      · have HR : Hid (Pri.sieve m (Pri.bases.drop (Int.toNat 9)) = Pri.sieve m Pri.bases) := Lib.hid (by
          have h := HI.out
          rw [show Pri.bases.drop (Int.toNat 8) = 23 :: Pri.bases.drop (Int.toNat 9) from rfl] at h
          unfold Pri.sieve at h
          rw [if_neg hp] at h
          exact h)
        have t1 : ((m : Int) % 23 == 0) = false := by simp; omega
        clear HI hp
        have ix : ∀ w, (Instr.index 106 (.agg #[.int .u64 2, .int .u64 3, .int .u64 5, .int .u64 7, .int .u64 11, .int .u64 13, .int .u64 17, .int .u64 19, .int .u64 23, .int .u64 29, .int .u64 31, .int .u64 37]) (.int .i64 8)).run Tryd.prog w = .ok (.int .u64 23) w := fun _ => by kernel_rfl
        go_wp2
        go_roundw
        case rel => exact ⟨9, rfl, by omega, HR, _, rfl⟩
        case measure => simp [RowKit.intOf]
    · by_cases hp : m % 29 = 0
      · have HR : Hid (r = (m == 29)) := Lib.hid (by
          have h := HI.out
          rw [show Pri.bases.drop (Int.toNat 9) = 29 :: Pri.bases.drop (Int.toNat 10) from rfl] at h
          unfold Pri.sieve at h
          rw [if_pos hp] at h
          rw [← hr.out]; exact Pri.isP_some H2.out h.symm)
        have t1 : ((m : Int) % 29 == 0) = true := by simp; omega
        have tm : ((m : Int) == 29) = r := by rw [HR.out, Bool.eq_iff_iff]; simp; omega
        clear HI hp HR
        have ix : ∀ w, (Instr.index 106 (.agg #[.int .u64 2, .int .u64 3, .int .u64 5, .int .u64 7, .int .u64 11, .int .u64 13, .int .u64 17, .int .u64 19, .int .u64 23, .int .u64 29, .int .u64 31, .int .u64 37]) (.int .i64 9)).run Tryd.prog w = .ok (.int .u64 29) w := fun _ => by kernel_rfl
        go_wp2
        go_ret
        exact ⟨rfl, _, rfl⟩
      · have HR : Hid (Pri.sieve m (Pri.bases.drop (Int.toNat 10)) = Pri.sieve m Pri.bases) := Lib.hid (by
          have h := HI.out
          rw [show Pri.bases.drop (Int.toNat 9) = 29 :: Pri.bases.drop (Int.toNat 10) from rfl] at h
          unfold Pri.sieve at h
          rw [if_neg hp] at h
          exact h)
        have t1 : ((m : Int) % 29 == 0) = false := by simp; omega
        clear HI hp
        have ix : ∀ w, (Instr.index 106 (.agg #[.int .u64 2, .int .u64 3, .int .u64 5, .int .u64 7, .int .u64 11, .int .u64 13, .int .u64 17, .int .u64 19, .int .u64 23, .int .u64 29, .int .u64 31, .int .u64 37]) (.int .i64 9)).run Tryd.prog w = .ok (.int .u64 29) w := fun _ => by kernel_rfl
        go_wp2
        go_roundw
        case rel => exact ⟨10, rfl, by omega, HR, _, rfl⟩
        case measure => simp [RowKit.intOf]
    · by_cases hp : m % 31 = 0
      · have HR : Hid (r = (m == 31)) := Lib.hid (by
          have h := HI.out
          rw [show Pri.bases.drop (Int.toNat 10) = 31 :: Pri.bases.drop (Int.toNat 11) from rfl] at h
          unfold Pri.sieve at h
          rw [if_pos hp] at h
          rw [← hr.out]; exact Pri.isP_some H2.out h.symm)
        have t1 : ((m : Int) % 31 == 0) = true := by simp; omega
        have tm : ((m : Int) == 31) = r := by rw [HR.out, Bool.eq_iff_iff]; simp; omega
        clear HI hp HR
        have ix : ∀ w, (Instr.index 106 (.agg #[.int .u64 2, .int .u64 3, .int .u64 5, .int .u64 7, .int .u64 11, .int .u64 13, .int .u64 17, .int .u64 19, .int .u64 23, .int .u64 29, .int .u64 31, .int .u64 37]) (.int .i64 10)).run Tryd.prog w = .ok (.int .u64 31) w := fun _ => by kernel_rfl
        go_wp2
        go_ret
        exact ⟨rfl, _, rfl⟩
      · have HR : Hid (Pri.sieve m (Pri.bases.drop (Int.toNat 11)) = Pri.sieve m Pri.bases) := Lib.hid (by
          have h := HI.out
          rw [show Pri.bases.drop (Int.toNat 10) = 31 :: Pri.bases.drop (Int.toNat 11) from rfl] at h
          unfold Pri.sieve at h
          rw [if_neg hp] at h
          exact h)
        have t1 : ((m : Int) % 31 == 0) = false := by simp; omega
        clear HI hp
        have ix : ∀ w, (Instr.index 106 (.agg #[.int .u64 2, .int .u64 3, .int .u64 5, .int .u64 7, .int .u64 11, .int .u64 13, .int .u64 17, .int .u64 19, .int .u64 23, .int .u64 29, .int .u64 31, .int .u64 37]) (.int .i64 10)).run Tryd.prog w = .ok (.int .u64 31) w := fun _ => by kernel_rfl
        go_wp2
        go_roundw
        case rel => exact ⟨11, rfl, by omega, HR, _, rfl⟩
        case measure => simp [RowKit.intOf]
    · by_cases hp : m % 37 = 0
      · have HR : Hid (r = (m == 37)) := Lib.hid (by
          have h := HI.out
          rw [show Pri.bases.drop (Int.toNat 11) = 37 :: Pri.bases.drop (Int.toNat 12) from rfl] at h
          unfold Pri.sieve at h
          rw [if_pos hp] at h
          rw [← hr.out]; exact Pri.isP_some H2.out h.symm)
        have t1 : ((m : Int) % 37 == 0) = true := by simp; omega
        have tm : ((m : Int) == 37) = r := by rw [HR.out, Bool.eq_iff_iff]; simp; omega
        clear HI hp HR
        have ix : ∀ w, (Instr.index 106 (.agg #[.int .u64 2, .int .u64 3, .int .u64 5, .int .u64 7, .int .u64 11, .int .u64 13, .int .u64 17, .int .u64 19, .int .u64 23, .int .u64 29, .int .u64 31, .int .u64 37]) (.int .i64 11)).run Tryd.prog w = .ok (.int .u64 37) w := fun _ => by kernel_rfl
        go_wp2
        go_ret
        exact ⟨rfl, _, rfl⟩
      · have HR : Hid (Pri.sieve m (Pri.bases.drop (Int.toNat 12)) = Pri.sieve m Pri.bases) := Lib.hid (by
          have h := HI.out
          rw [show Pri.bases.drop (Int.toNat 11) = 37 :: Pri.bases.drop (Int.toNat 12) from rfl] at h
          unfold Pri.sieve at h
          rw [if_neg hp] at h
          exact h)
        have t1 : ((m : Int) % 37 == 0) = false := by simp; omega
        clear HI hp
        have ix : ∀ w, (Instr.index 106 (.agg #[.int .u64 2, .int .u64 3, .int .u64 5, .int .u64 7, .int .u64 11, .int .u64 13, .int .u64 17, .int .u64 19, .int .u64 23, .int .u64 29, .int .u64 31, .int .u64 37]) (.int .i64 11)).run Tryd.prog w = .ok (.int .u64 37) w := fun _ => by kernel_rfl
        go_wp2
        go_roundw
        case rel => exact ⟨12, rfl, by omega, HR, _, rfl⟩
        case measure => simp [RowKit.intOf]
    · have hno : Pri.sieve m Pri.bases = none := HI.out.symm
      obtain ⟨hbig, hodd⟩ := Pri.sieve_big H2.out hno
      have hall := Pri.isP_none H2.out hno
      obtain ⟨hz, hz64⟩ := Pri.ctz_tz (n := m - 1) (by omega) (by omega)
      have hz1 := Pri.tz_pos (n := m - 1) (by omega) (by omega) (by omega)
      obtain ⟨s, hs⟩ : ∃ s, s = Pri.tz (m - 1) := ⟨_, rfl⟩
      obtain ⟨d, hd⟩ : ∃ d, d = Pri.od (m - 1) := ⟨_, rfl⟩
      have hdd : d = (m - 1) / 2 ^ s := by rw [hd, hs]; rfl
      have hdm : d ≤ m - 1 := by rw [hdd]; exact Nat.div_le_self _ _
      have tz := fun w hl => tz64_c (m - 1) (by omega) (by omega) w hl
      rw [hz, ← hs] at tz
      rw [← hs] at hz64 hz1
      have TZ := Lib.hid tz
      have el : IntKind.u64.wrap ((m : Int) - 1) = ((m - 1 : Nat) : Int) := by rw [IntKind.wrap_u64]; omega
      have HS := Lib.hid hs
      have HD := Lib.hid hd
      have HDD := Lib.hid hdd
      have HDM := Lib.hid hdm
      have hst : Hid ((Pri.bases.drop 0).all (Pri.strong m) = r) := Lib.hid (by rw [← hr.out, hall]; rfl)
      have HB := Lib.hid hbig
      have HZ := Lib.hid (show 1 ≤ s ∧ (s : Int) ≤ 64 by omega)
      have esh : ((m - 1 : Nat) : Int) / 2 ^ s = (d : Int) := by rw [hdd]; simp [Int.natCast_pow]
      clear hno hall hz hz1 hs hd hdd hdm tz HI hbig hodd
      go_wp2_with fail
      refine (TZ.out _ (HLD.out.drewN _)).mono ?_; rintro e1 w1 ⟨rfl, rfl⟩
      go_wp2
      go_loopw [29] (fun s0 wr => ∃ i : Int, s0 = .int .i64 i ∧ (0 ≤ i ∧ i ≤ 12) ∧ Hid ((Pri.bases.drop i.toNat).all (Pri.strong m) = r) ∧ Qw w wr) (fun s0 _ => 12 - (RowKit.intOf s0).toNat)
      case atStart => exact ⟨0, rfl, by omega, hst, _, rfl⟩
      case round =>
        obtain ⟨i, rfl, hi, HI, n3, rfl⟩ := hrel
        clear hst
        have hi' : i = 0 ∨ i = 1 ∨ i = 2 ∨ i = 3 ∨ i = 4 ∨ i = 5 ∨ i = 6 ∨ i = 7 ∨ i = 8 ∨ i = 9 ∨ i = 10 ∨ i = 11 ∨ i = 12 := by omega
        clear hi
        rcases hi' with rfl | rfl | rfl | rfl | rfl | rfl | rfl | rfl | rfl | rfl | rfl | rfl | rfl
        · obtain ⟨b, hb⟩ : ∃ b, b = Pri.strong m 2 := ⟨_, rfl⟩
          have HR : Hid ((b && (Pri.bases.drop (Int.toNat 1)).all (Pri.strong m)) = r) := Lib.hid (by
            have h := HI.out
            rw [show Pri.bases.drop (Int.toNat 0) = 2 :: Pri.bases.drop (Int.toNat 1) from rfl, List.all_cons, ← hb] at h
            exact h)
          have cc := fun w => composite_c 2 m d s (2 ^ d % m) (m - 1) b w (by have := HB.out; omega) (by have := HDM.out; omega) (by omega) (by omega) HZ.out.1 HZ.out.2 rfl rfl (Lib.hid (by rw [hb, HD.out, HS.out]; rfl))
          have CC := Lib.hid cc
          clear HI hb cc
          have ix : ∀ w, (Instr.index 106 (.agg #[.int .u64 2, .int .u64 3, .int .u64 5, .int .u64 7, .int .u64 11, .int .u64 13, .int .u64 17, .int .u64 19, .int .u64 23, .int .u64 29, .int .u64 31, .int .u64 37]) (.int .i64 0)).run Tryd.prog w = .ok (.int .u64 2) w := fun _ => by kernel_rfl
          go_wp2_with fail
          refine (CC.out _).mono ?_; rintro e1 w1 ⟨rfl, n4, rfl⟩
          clear CC
          cases b
          · have hrr : r = false := by rw [← HR.out]; rfl
            subst hrr
            go_wp2
            go_ret
            exact ⟨rfl, _, rfl⟩
          · have HR2 : Hid ((Pri.bases.drop (Int.toNat 1)).all (Pri.strong m) = r) := Lib.hid (by have h := HR.out; rw [Bool.true_and] at h; exact h)
            clear HR
            go_wp2
            go_roundw
            case rel => exact ⟨1, rfl, by omega, HR2, _, rfl⟩
            case measure => simp [RowKit.intOf]
        · obtain ⟨b, hb⟩ : ∃ b, b = Pri.strong m 3 := ⟨_, rfl⟩
          have HR : Hid ((b && (Pri.bases.drop (Int.toNat 2)).all (Pri.strong m)) = r) := Lib.hid (by
            have h := HI.out
            rw [show Pri.bases.drop (Int.toNat 1) = 3 :: Pri.bases.drop (Int.toNat 2) from rfl, List.all_cons, ← hb] at h
            exact h)
          have cc := fun w => composite_c 3 m d s (3 ^ d % m) (m - 1) b w (by have := HB.out; omega) (by have := HDM.out; omega) (by omega) (by omega) HZ.out.1 HZ.out.2 rfl rfl (Lib.hid (by rw [hb, HD.out, HS.out]; rfl))
          have CC := Lib.hid cc
          clear HI hb cc
          have ix : ∀ w, (Instr.index 106 (.agg #[.int .u64 2, .int .u64 3, .int .u64 5, .int .u64 7, .int .u64 11, .int .u64 13, .int .u64 17, .int .u64 19, .int .u64 23, .int .u64 29, .int .u64 31, .int .u64 37]) (.int .i64 1)).run Tryd.prog w = .ok (.int .u64 3) w := fun _ => by kernel_rfl
          go_wp2_with fail
          refine (CC.out _).mono ?_; rintro e1 w1 ⟨rfl, n4, rfl⟩
          clear CC
          cases b
          · have hrr : r = false := by rw [← HR.out]; rfl
            subst hrr
            go_wp2
            go_ret
            exact ⟨rfl, _, rfl⟩
          · have HR2 : Hid ((Pri.bases.drop (Int.toNat 2)).all (Pri.strong m) = r) := Lib.hid (by have h := HR.out; rw [Bool.true_and] at h; exact h)
            clear HR
            go_wp2
            go_roundw
            case rel => exact ⟨2, rfl, by omega, HR2, _, rfl⟩
            case measure => simp [RowKit.intOf]
        · obtain ⟨b, hb⟩ : ∃ b, b = Pri.strong m 5 := ⟨_, rfl⟩
          have HR : Hid ((b && (Pri.bases.drop (Int.toNat 3)).all (Pri.strong m)) = r) := Lib.hid (by
            have h := HI.out
            rw [show Pri.bases.drop (Int.toNat 2) = 5 :: Pri.bases.drop (Int.toNat 3) from rfl, List.all_cons, ← hb] at h
            exact h)
          have cc := fun w => composite_c 5 m d s (5 ^ d % m) (m - 1) b w (by have := HB.out; omega) (by have := HDM.out; omega) (by omega) (by omega) HZ.out.1 HZ.out.2 rfl rfl (Lib.hid (by rw [hb, HD.out, HS.out]; rfl))
          have CC := Lib.hid cc
          clear HI hb cc
          have ix : ∀ w, (Instr.index 106 (.agg #[.int .u64 2, .int .u64 3, .int .u64 5, .int .u64 7, .int .u64 11, .int .u64 13, .int .u64 17, .int .u64 19, .int .u64 23, .int .u64 29, .int .u64 31, .int .u64 37]) (.int .i64 2)).run Tryd.prog w = .ok (.int .u64 5) w := fun _ => by kernel_rfl
          go_wp2_with fail
          refine (CC.out _).mono ?_; rintro e1 w1 ⟨rfl, n4, rfl⟩
          clear CC
          cases b
          · have hrr : r = false := by rw [← HR.out]; rfl
            subst hrr
            go_wp2
            go_ret
            exact ⟨rfl, _, rfl⟩
          · have HR2 : Hid ((Pri.bases.drop (Int.toNat 3)).all (Pri.strong m) = r) := Lib.hid (by have h := HR.out; rw [Bool.true_and] at h; exact h)
            clear HR
            go_wp2
            go_roundw
            case rel => exact ⟨3, rfl, by omega, HR2, _, rfl⟩
            case measure => simp [RowKit.intOf]
        · obtain ⟨b, hb⟩ : ∃ b, b = Pri.strong m 7 := ⟨_, rfl⟩
          have HR : Hid ((b && (Pri.bases.drop (Int.toNat 4)).all (Pri.strong m)) = r) := Lib.hid (by
            have h := HI.out
            rw [show Pri.bases.drop (Int.toNat 3) = 7 :: Pri.bases.drop (Int.toNat 4) from rfl, List.all_cons, ← hb] at h
            exact h)
          have cc := fun w => composite_c 7 m d s (7 ^ d % m) (m - 1) b w (by have := HB.out; omega) (by have := HDM.out; omega) (by omega) (by omega) HZ.out.1 HZ.out.2 rfl rfl (Lib.hid (by rw [hb, HD.out, HS.out]; rfl))
          have CC := Lib.hid cc
          clear HI hb cc
          have ix : ∀ w, (Instr.index 106 (.agg #[.int .u64 2, .int .u64 3, .int .u64 5, .int .u64 7, .int .u64 11, .int .u64 13, .int .u64 17, .int .u64 19, .int .u64 23, .int .u64 29, .int .u64 31, .int .u64 37]) (.int .i64 3)).run Tryd.prog w = .ok (.int .u64 7) w := fun _ => by kernel_rfl
          go_wp2_with fail
          refine (CC.out _).mono ?_; rintro e1 w1 ⟨rfl, n4, rfl⟩
          clear CC
          cases b
          · have hrr : r = false := by rw [← HR.out]; rfl
            subst hrr
            go_wp2
            go_ret
            exact ⟨rfl, _, rfl⟩
          · have HR2 : Hid ((Pri.bases.drop (Int.toNat 4)).all (Pri.strong m) = r) := Lib.hid (by have h := HR.out; rw [Bool.true_and] at h; exact h)
            clear HR
            go_wp2
            go_roundw
            case rel => exact ⟨4, rfl, by omega, HR2, _, rfl⟩
            case measure => simp [RowKit.intOf]
        · obtain ⟨b, hb⟩ : ∃ b, b = Pri.strong m 11 := ⟨_, rfl⟩
          have HR : Hid ((b && (Pri.bases.drop (Int.toNat 5)).all (Pri.strong m)) = r) := Lib.hid (by
            have h := HI.out
            rw [show Pri.bases.drop (Int.toNat 4) = 11 :: Pri.bases.drop (Int.toNat 5) from rfl, List.all_cons, ← hb] at h
            exact h)
          have cc := fun w => composite_c 11 m d s (11 ^ d % m) (m - 1) b w (by have := HB.out; omega) (by have := HDM.out; omega) (by omega) (by omega) HZ.out.1 HZ.out.2 rfl rfl (Lib.hid (by rw [hb, HD.out, HS.out]; rfl))
          have CC := Lib.hid cc
          clear HI hb cc
          have ix : ∀ w, (Instr.index 106 (.agg #[.int .u64 2, .int .u64 3, .int .u64 5, .int .u64 7, .int .u64 11, .int .u64 13, .int .u64 17, .int .u64 19, .int .u64 23, .int .u64 29, .int .u64 31, .int .u64 37]) (.int .i64 4)).run Tryd.prog w = .ok (.int .u64 11) w := fun _ => by kernel_rfl
          go_wp2_with fail
          refine (CC.out _).mono ?_; rintro e1 w1 ⟨rfl, n4, rfl⟩
          clear CC
          cases b
          · have hrr : r = false := by rw [← HR.out]; rfl
            subst hrr
            go_wp2
            go_ret
            exact ⟨rfl, _, rfl⟩
          · have HR2 : Hid ((Pri.bases.drop (Int.toNat 5)).all (Pri.strong m) = r) := Lib.hid (by have h := HR.out; rw [Bool.true_and] at h; exact h)
            clear HR
            go_wp2
            go_roundw
            case rel => exact ⟨5, rfl, by omega, HR2, _, rfl⟩
            case measure => simp [RowKit.intOf]
        · obtain ⟨b, hb⟩ : ∃ b, b = Pri.strong m 13 := ⟨_, rfl⟩
          have HR : Hid ((b && (Pri.bases.drop (Int.toNat 6)).all (Pri.strong m)) = r) := Lib.hid (by
            have h := HI.out
            rw [show Pri.bases.drop (Int.toNat 5) = 13 :: Pri.bases.drop (Int.toNat 6) from rfl, List.all_cons, ← hb] at h
            exact h)
          have cc := fun w => composite_c 13 m d s (13 ^ d % m) (m - 1) b w (by have := HB.out; omega) (by have := HDM.out; omega) (by omega) (by omega) HZ.out.1 HZ.out.2 rfl rfl (Lib.hid (by rw [hb, HD.out, HS.out]; rfl))
          have CC := Lib.hid cc
          clear HI hb cc
          have ix : ∀ w, (Instr.index 106 (.agg #[.int .u64 2, .int .u64 3, .int .u64 5, .int .u64 7, .int .u64 11, .int .u64 13, .int .u64 17, .int .u64 19, .int .u64 23, .int .u64 29, .int .u64 31, .int .u64 37]) (.int .i64 5)).run Tryd.prog w = .ok (.int .u64 13) w := fun _ => by kernel_rfl
          go_wp2_with fail
          refine (CC.out _).mono ?_; rintro e1 w1 ⟨rfl, n4, rfl⟩
          clear CC
          cases b
          · have hrr : r = false := by rw [← HR.out]; rfl
            subst hrr
            go_wp2
            go_ret
            exact ⟨rfl, _, rfl⟩
          · have HR2 : Hid ((Pri.bases.drop (Int.toNat 6)).all (Pri.strong m) = r) := Lib.hid (by have h := HR.out; rw [Bool.true_and] at h; exact h)
            clear HR
            go_wp2
            go_roundw
            case rel => exact ⟨6, rfl, by omega, HR2, _, rfl⟩
            case measure => simp [RowKit.intOf]
        · obtain ⟨b, hb⟩ : ∃ b, b = Pri.strong m 17 := ⟨_, rfl⟩
          have HR : Hid ((b && (Pri.bases.drop (Int.toNat 7)).all (Pri.strong m)) = r) := Lib.hid (by
            have h := HI.out
            rw [show Pri.bases.drop (Int.toNat 6) = 17 :: Pri.bases.drop (Int.toNat 7) from rfl, List.all_cons, ← hb] at h
            exact h)
          have cc := fun w => composite_c 17 m d s (17 ^ d % m) (m - 1) b w (by have := HB.out; omega) (by have := HDM.out; omega) (by omega) (by omega) HZ.out.1 HZ.out.2 rfl rfl (Lib.hid (by rw [hb, HD.out, HS.out]; rfl))
          have CC := Lib.hid cc
          clear HI hb cc
          have ix : ∀ w, (Instr.index 106 (.agg #[.int .u64 2, .int .u64 3, .int .u64 5, .int .u64 7, .int .u64 11, .int .u64 13, .int .u64 17, .int .u64 19, .int .u64 23, .int .u64 29, .int .u64 31, .int .u64 37]) (.int .i64 6)).run Tryd.prog w = .ok (.int .u64 17) w := fun _ => by kernel_rfl
          go_wp2_with fail
          refine (CC.out _).mono ?_; rintro e1 w1 ⟨rfl, n4, rfl⟩
          clear CC
          cases b
          · have hrr : r = false := by rw [← HR.out]; rfl
            subst hrr
            go_wp2
            go_ret
            exact ⟨rfl, _, rfl⟩
          · have HR2 : Hid ((Pri.bases.drop (Int.toNat 7)).all (Pri.strong m) = r) := Lib.hid (by have h := HR.out; rw [Bool.true_and] at h; exact h)
            clear HR
            go_wp2
            go_roundw
            case rel => exact ⟨7, rfl, by omega, HR2, _, rfl⟩
            case measure => simp [RowKit.intOf]
        · obtain ⟨b, hb⟩ : ∃ b, b = Pri.strong m 19 := ⟨_, rfl⟩
          have HR : Hid ((b && (Pri.bases.drop (Int.toNat 8)).all (Pri.strong m)) = r) := Lib.hid (by
            have h := HI.out
            rw [show Pri.bases.drop (Int.toNat 7) = 19 :: Pri.bases.drop (Int.toNat 8) from rfl, List.all_cons, ← hb] at h
            exact h)
          have cc := fun w => composite_c 19 m d s (19 ^ d % m) (m - 1) b w (by have := HB.out; omega) (by have := HDM.out; omega) (by omega) (by omega) HZ.out.1 HZ.out.2 rfl rfl (Lib.hid (by rw [hb, HD.out, HS.out]; rfl))
          have CC := Lib.hid cc
          clear HI hb cc
          have ix : ∀ w, (Instr.index 106 (.agg #[.int .u64 2, .int .u64 3, .int .u64 5, .int .u64 7, .int .u64 11, .int .u64 13, .int .u64 17, .int .u64 19, .int .u64 23, .int .u64 29, .int .u64 31, .int .u64 37]) (.int .i64 7)).run Tryd.prog w = .ok (.int .u64 19) w := fun _ => by kernel_rfl
          go_wp2_with fail
          refine (CC.out _).mono ?_; rintro e1 w1 ⟨rfl, n4, rfl⟩
          clear CC
          cases b
          · have hrr : r = false := by rw [← HR.out]; rfl
            subst hrr
            go_wp2
            go_ret
            exact ⟨rfl, _, rfl⟩
          · have HR2 : Hid ((Pri.bases.drop (Int.toNat 8)).all (Pri.strong m) = r) := Lib.hid (by have h := HR.out; rw [Bool.true_and] at h; exact h)
            clear HR
            go_wp2
            go_roundw
            case rel => exact ⟨8, rfl, by omega, HR2, _, rfl⟩
            case measure => simp [RowKit.intOf]
        · obtain ⟨b, hb⟩ : ∃ b, b = Pri.strong m 23 := ⟨_, rfl⟩
          have HR : Hid ((b && (Pri.bases.drop (Int.toNat 9)).all (Pri.strong m)) = r) := Lib.hid (by
            have h := HI.out
            rw [show Pri.bases.drop (Int.toNat 8) = 23 :: Pri.bases.drop (Int.toNat 9) from rfl, List.all_cons, ← hb] at h
            exact h)
          have cc := fun w => composite_c 23 m d s (23 ^ d % m) (m - 1) b w (by have := HB.out; omega) (by have := HDM.out; omega) (by omega) (by omega) HZ.out.1 HZ.out.2 rfl rfl (Lib.hid (by rw [hb, HD.out, HS.out]; rfl))
          have CC := Lib.hid cc
          clear HI hb cc
          have ix : ∀ w, (Instr.index 106 (.agg #[.int .u64 2, .int .u64 3, .int .u64 5, .int .u64 7, .int .u64 11, .int .u64 13, .int .u64 17, .int .u64 19, .int .u64 23, .int .u64 29, .int .u64 31, .int .u64 37]) (.int .i64 8)).run Tryd.prog w = .ok (.int .u64 23) w := fun _ => by kernel_rfl
          go_wp2_with fail
          refine (CC.out _).mono ?_; rintro e1 w1 ⟨rfl, n4, rfl⟩
          clear CC
          cases b
          · have hrr : r = false := by rw [← HR.out]; rfl
            subst hrr
            go_wp2
            go_ret
            exact ⟨rfl, _, rfl⟩
          · have HR2 : Hid ((Pri.bases.drop (Int.toNat 9)).all (Pri.strong m) = r) := Lib.hid (by have h := HR.out; rw [Bool.true_and] at h; exact h)
            clear HR
            go_wp2
            go_roundw
            case rel => exact ⟨9, rfl, by omega, HR2, _, rfl⟩
            case measure => simp [RowKit.intOf]
        · obtain ⟨b, hb⟩ : ∃ b, b = Pri.strong m 29 := ⟨_, rfl⟩
          have HR : Hid ((b && (Pri.bases.drop (Int.toNat 10)).all (Pri.strong m)) = r) := Lib.hid (by
            have h := HI.out
            rw [show Pri.bases.drop (Int.toNat 9) = 29 :: Pri.bases.drop (Int.toNat 10) from rfl, List.all_cons, ← hb] at h
            exact h)
          have cc := fun w => composite_c 29 m d s (29 ^ d % m) (m - 1) b w (by have := HB.out; omega) (by have := HDM.out; omega) (by omega) (by omega) HZ.out.1 HZ.out.2 rfl rfl (Lib.hid (by rw [hb, HD.out, HS.out]; rfl))
          have CC := Lib.hid cc
          clear HI hb cc
          have ix : ∀ w, (Instr.index 106 (.agg #[.int .u64 2, .int .u64 3, .int .u64 5, .int .u64 7, .int .u64 11, .int .u64 13, .int .u64 17, .int .u64 19, .int .u64 23, .int .u64 29, .int .u64 31, .int .u64 37]) (.int .i64 9)).run Tryd.prog w = .ok (.int .u64 29) w := fun _ => by kernel_rfl
          go_wp2_with fail
          refine (CC.out _).mono ?_; rintro e1 w1 ⟨rfl, n4, rfl⟩
          clear CC
          cases b
          · have hrr : r = false := by rw [← HR.out]; rfl
            subst hrr
            go_wp2
            go_ret
            exact ⟨rfl, _, rfl⟩
          · have HR2 : Hid ((Pri.bases.drop (Int.toNat 10)).all (Pri.strong m) = r) := Lib.hid (by have h := HR.out; rw [Bool.true_and] at h; exact h)
            clear HR
            go_wp2
            go_roundw
            case rel => exact ⟨10, rfl, by omega, HR2, _, rfl⟩
            case measure => simp [RowKit.intOf]
        · obtain ⟨b, hb⟩ : ∃ b, b = Pri.strong m 31 := ⟨_, rfl⟩
          have HR : Hid ((b && (Pri.bases.drop (Int.toNat 11)).all (Pri.strong m)) = r) := Lib.hid (by
            have h := HI.out
            rw [show Pri.bases.drop (Int.toNat 10) = 31 :: Pri.bases.drop (Int.toNat 11) from rfl, List.all_cons, ← hb] at h
            exact h)
          have cc := fun w => composite_c 31 m d s (31 ^ d % m) (m - 1) b w (by have := HB.out; omega) (by have := HDM.out; omega) (by omega) (by omega) HZ.out.1 HZ.out.2 rfl rfl (Lib.hid (by rw [hb, HD.out, HS.out]; rfl))
          have CC := Lib.hid cc
          clear HI hb cc
          have ix : ∀ w, (Instr.index 106 (.agg #[.int .u64 2, .int .u64 3, .int .u64 5, .int .u64 7, .int .u64 11, .int .u64 13, .int .u64 17, .int .u64 19, .int .u64 23, .int .u64 29, .int .u64 31, .int .u64 37]) (.int .i64 10)).run Tryd.prog w = .ok (.int .u64 31) w := fun _ => by kernel_rfl
          go_wp2_with fail
          refine (CC.out _).mono ?_; rintro e1 w1 ⟨rfl, n4, rfl⟩
          clear CC
          cases b
          · have hrr : r = false := by rw [← HR.out]; rfl
            subst hrr
            go_wp2
            go_ret
            exact ⟨rfl, _, rfl⟩
          · have HR2 : Hid ((Pri.bases.drop (Int.toNat 11)).all (Pri.strong m) = r) := Lib.hid (by have h := HR.out; rw [Bool.true_and] at h; exact h)
            clear HR
            go_wp2
            go_roundw
            case rel => exact ⟨11, rfl, by omega, HR2, _, rfl⟩
            case measure => simp [RowKit.intOf]
        · obtain ⟨b, hb⟩ : ∃ b, b = Pri.strong m 37 := ⟨_, rfl⟩
          have HR : Hid ((b && (Pri.bases.drop (Int.toNat 12)).all (Pri.strong m)) = r) := Lib.hid (by
            have h := HI.out
            rw [show Pri.bases.drop (Int.toNat 11) = 37 :: Pri.bases.drop (Int.toNat 12) from rfl, List.all_cons, ← hb] at h
            exact h)
          have cc := fun w => composite_c 37 m d s (37 ^ d % m) (m - 1) b w (by have := HB.out; omega) (by have := HDM.out; omega) (by omega) (by omega) HZ.out.1 HZ.out.2 rfl rfl (Lib.hid (by rw [hb, HD.out, HS.out]; rfl))
          have CC := Lib.hid cc
          clear HI hb cc
          have ix : ∀ w, (Instr.index 106 (.agg #[.int .u64 2, .int .u64 3, .int .u64 5, .int .u64 7, .int .u64 11, .int .u64 13, .int .u64 17, .int .u64 19, .int .u64 23, .int .u64 29, .int .u64 31, .int .u64 37]) (.int .i64 11)).run Tryd.prog w = .ok (.int .u64 37) w := fun _ => by kernel_rfl
          go_wp2_with fail
          refine (CC.out _).mono ?_; rintro e1 w1 ⟨rfl, n4, rfl⟩
          clear CC
          cases b
          · have hrr : r = false := by rw [← HR.out]; rfl
            subst hrr
            go_wp2
            go_ret
            exact ⟨rfl, _, rfl⟩
          · have HR2 : Hid ((Pri.bases.drop (Int.toNat 12)).all (Pri.strong m) = r) := Lib.hid (by have h := HR.out; rw [Bool.true_and] at h; exact h)
            clear HR
            go_wp2
            go_roundw
            case rel => exact ⟨12, rfl, by omega, HR2, _, rfl⟩
            case measure => simp [RowKit.intOf]
        · have hrr : r = true := HI.out.symm
          subst hrr
          go_wp2
          go_ret
          exact ⟨rfl, _, rfl⟩
theorem Is_c (n : Int) (w : World) (hl : Laid w) (hn : -9223372036854775808 ≤ n ∧ n ≤ 9223372036854775807) :
    Calls Tryd.prog 55 #[.int .i64 n] w fun e w' => e = .returned (.bool (Pri.isP n.toNat)) ∧ Qw w w' := by
  by_cases h : n < 2
  · have hr : Pri.isP n.toNat = false := by unfold Pri.isP; rw [if_pos (by omega)]
    rw [hr]
    have hn2 : decide (n < 2) = true := decide_eq_true h
    clear hl hr
    go_enter Tryd.func55, Tryd.ntmps55
    go_wp2
    go_ret
    exact ⟨rfl, Qw.refl _⟩
  · obtain ⟨m, rfl⟩ : ∃ m : Nat, n = (m : Int) := ⟨n.toNat, by omega⟩
    exact Is_big m _ w hl (by omega) hn.2 rfl
end Go.Proofs.YteipbcpnnojclaaDoor

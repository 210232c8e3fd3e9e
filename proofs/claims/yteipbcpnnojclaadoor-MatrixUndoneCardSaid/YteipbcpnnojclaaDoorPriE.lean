/- The contract of the reference's Is, below 2^61. -/
import Derived.Test.YteipbcpnnojclaaDoorPriD
namespace Go.Proofs.YteipbcpnnojclaaDoor
open Go.RowKit DivMath WordMath
set_option linter.unusedVariables false
theorem new_cell (w : World) (cs : Array Value) (T : TypeId) (i : Nat) {v : Value} (h : cs[i]? = some v) : (w.alloc (.cells cs T)).cell? ⟨w.heap.size, i, none⟩ = some v := by
  rw [cell_of_row _ _ _ cs T (0, 0) (heap_alloc_new _ _)]; simpa using h
set_option maxRecDepth 100000 in
set_option maxHeartbeats 4000000 in
theorem rIs_big (m : Nat) (r : Bool) (w : World) (h2 : 2 ≤ (m : Int)) (hm : (m : Int) ≤ 2305843009213693951) (hr0 : Pri.isP m = r) :
    Calls Tryd.prog 49 #[.int .i64 m] w fun e w' => e = .returned (.bool r) ∧ Below w.heap.size w w' := by
  have hr := Lib.hid hr0
  have h2' : 2 ≤ m := by omega
  have H2 := Lib.hid h2'
  have hn2 : decide ((m : Int) < 2) = false := decide_eq_false (by omega)
  have hst : Hid (Pri.sieve m (Pri.bases.drop 0) = Pri.sieve m Pri.bases) := Lib.hid rfl
  clear hr0 h2'
  go_enter Tryd.func49, Tryd.ntmps49
  go_wp2
  have hB : Below w.heap.size w (w.alloc (.cells #[.int .i64 2, .int .i64 3, .int .i64 5, .int .i64 7, .int .i64 11, .int .i64 13, .int .i64 17, .int .i64 19, .int .i64 23, .int .i64 29, .int .i64 31, .int .i64 37] 3)) := (Below.refl _ _).alloc (Nat.le_refl _) _

  have c0 : (w.alloc (.cells #[.int .i64 2, .int .i64 3, .int .i64 5, .int .i64 7, .int .i64 11, .int .i64 13, .int .i64 17, .int .i64 19, .int .i64 23, .int .i64 29, .int .i64 31, .int .i64 37] 3)).cell? ⟨w.heap.size, 0, none⟩ = some (.int .i64 2) := new_cell w _ _ 0 rfl
  have c1 : (w.alloc (.cells #[.int .i64 2, .int .i64 3, .int .i64 5, .int .i64 7, .int .i64 11, .int .i64 13, .int .i64 17, .int .i64 19, .int .i64 23, .int .i64 29, .int .i64 31, .int .i64 37] 3)).cell? ⟨w.heap.size, 1, none⟩ = some (.int .i64 3) := new_cell w _ _ 1 rfl
  have c2 : (w.alloc (.cells #[.int .i64 2, .int .i64 3, .int .i64 5, .int .i64 7, .int .i64 11, .int .i64 13, .int .i64 17, .int .i64 19, .int .i64 23, .int .i64 29, .int .i64 31, .int .i64 37] 3)).cell? ⟨w.heap.size, 2, none⟩ = some (.int .i64 5) := new_cell w _ _ 2 rfl
  have c3 : (w.alloc (.cells #[.int .i64 2, .int .i64 3, .int .i64 5, .int .i64 7, .int .i64 11, .int .i64 13, .int .i64 17, .int .i64 19, .int .i64 23, .int .i64 29, .int .i64 31, .int .i64 37] 3)).cell? ⟨w.heap.size, 3, none⟩ = some (.int .i64 7) := new_cell w _ _ 3 rfl
  have c4 : (w.alloc (.cells #[.int .i64 2, .int .i64 3, .int .i64 5, .int .i64 7, .int .i64 11, .int .i64 13, .int .i64 17, .int .i64 19, .int .i64 23, .int .i64 29, .int .i64 31, .int .i64 37] 3)).cell? ⟨w.heap.size, 4, none⟩ = some (.int .i64 11) := new_cell w _ _ 4 rfl
  have c5 : (w.alloc (.cells #[.int .i64 2, .int .i64 3, .int .i64 5, .int .i64 7, .int .i64 11, .int .i64 13, .int .i64 17, .int .i64 19, .int .i64 23, .int .i64 29, .int .i64 31, .int .i64 37] 3)).cell? ⟨w.heap.size, 5, none⟩ = some (.int .i64 13) := new_cell w _ _ 5 rfl
  have c6 : (w.alloc (.cells #[.int .i64 2, .int .i64 3, .int .i64 5, .int .i64 7, .int .i64 11, .int .i64 13, .int .i64 17, .int .i64 19, .int .i64 23, .int .i64 29, .int .i64 31, .int .i64 37] 3)).cell? ⟨w.heap.size, 6, none⟩ = some (.int .i64 17) := new_cell w _ _ 6 rfl
  have c7 : (w.alloc (.cells #[.int .i64 2, .int .i64 3, .int .i64 5, .int .i64 7, .int .i64 11, .int .i64 13, .int .i64 17, .int .i64 19, .int .i64 23, .int .i64 29, .int .i64 31, .int .i64 37] 3)).cell? ⟨w.heap.size, 7, none⟩ = some (.int .i64 19) := new_cell w _ _ 7 rfl
  have c8 : (w.alloc (.cells #[.int .i64 2, .int .i64 3, .int .i64 5, .int .i64 7, .int .i64 11, .int .i64 13, .int .i64 17, .int .i64 19, .int .i64 23, .int .i64 29, .int .i64 31, .int .i64 37] 3)).cell? ⟨w.heap.size, 8, none⟩ = some (.int .i64 23) := new_cell w _ _ 8 rfl
  have c9 : (w.alloc (.cells #[.int .i64 2, .int .i64 3, .int .i64 5, .int .i64 7, .int .i64 11, .int .i64 13, .int .i64 17, .int .i64 19, .int .i64 23, .int .i64 29, .int .i64 31, .int .i64 37] 3)).cell? ⟨w.heap.size, 9, none⟩ = some (.int .i64 29) := new_cell w _ _ 9 rfl
  have c10 : (w.alloc (.cells #[.int .i64 2, .int .i64 3, .int .i64 5, .int .i64 7, .int .i64 11, .int .i64 13, .int .i64 17, .int .i64 19, .int .i64 23, .int .i64 29, .int .i64 31, .int .i64 37] 3)).cell? ⟨w.heap.size, 10, none⟩ = some (.int .i64 31) := new_cell w _ _ 10 rfl
  have c11 : (w.alloc (.cells #[.int .i64 2, .int .i64 3, .int .i64 5, .int .i64 7, .int .i64 11, .int .i64 13, .int .i64 17, .int .i64 19, .int .i64 23, .int .i64 29, .int .i64 31, .int .i64 37] 3)).cell? ⟨w.heap.size, 11, none⟩ = some (.int .i64 37) := new_cell w _ _ 11 rfl
  generalize (w.alloc (.cells #[.int .i64 2, .int .i64 3, .int .i64 5, .int .i64 7, .int .i64 11, .int .i64 13, .int .i64 17, .int .i64 19, .int .i64 23, .int .i64 29, .int .i64 31, .int .i64 37] 3)) = w1 at *
  have HBw := Lib.hid hB
  clear hB
  generalize w.heap.size = g at c0 c1 c2 c3 c4 c5 c6 c7 c8 c9 c10 c11 ⊢
  go_loopw [4] (fun s0 wr => ∃ i : Int, s0 = .int .i64 i ∧ (0 ≤ i ∧ i ≤ 12) ∧ Hid (Pri.sieve m (Pri.bases.drop i.toNat) = Pri.sieve m Pri.bases) ∧ Qw w1 wr) (fun s0 _ => 12 - (RowKit.intOf s0).toNat)
  case atStart => exact ⟨0, rfl, by omega, hst, Qw.refl _⟩
  case round =>
    obtain ⟨i, rfl, hi, HI, n2, rfl⟩ := hrel
    clear hst
    have hi' : i = 0 ∨ i = 1 ∨ i = 2 ∨ i = 3 ∨ i = 4 ∨ i = 5 ∨ i = 6 ∨ i = 7 ∨ i = 8 ∨ i = 9 ∨ i = 10 ∨ i = 11 ∨ i = 12 := by omega
    clear hi
    rcases hi' with rfl | rfl | rfl | rfl | rfl | rfl | rfl | rfl | rfl | rfl | rfl | rfl | rfl
    · by_cases hp : m % 2 = 0
      · have HR : Hid (r = (m == 2)) := Lib.hid (by
          have h := HI.out
          rw [show Pri.bases.drop (Int.toNat 0) = 2 :: Pri.bases.drop (Int.toNat 1) from rfl] at h
          unfold Pri.sieve at h
          rw [if_pos hp] at h
          rw [← hr.out]; exact Pri.isP_some H2.out h.symm)
        have t1 : ((m : Int) % 2 == 0) = true := by simp; omega
        have tm : ((m : Int) == 2) = r := by rw [HR.out, Bool.eq_iff_iff]; simp; omega
        clear HI hp HR
        go_wp2
        go_ret
        exact ⟨rfl, below_drewN HBw.out _⟩
      · have HR : Hid (Pri.sieve m (Pri.bases.drop (Int.toNat 1)) = Pri.sieve m Pri.bases) := Lib.hid (by
          have h := HI.out
          rw [show Pri.bases.drop (Int.toNat 0) = 2 :: Pri.bases.drop (Int.toNat 1) from rfl] at h
          unfold Pri.sieve at h
          rw [if_neg hp] at h
          exact h)
        have t1 : ((m : Int) % 2 == 0) = false := by simp; omega
        clear HI hp
        go_wp2
        go_roundw
        case rel => exact ⟨1, rfl, by omega, HR, _, rfl⟩
        case measure => simp [RowKit.intOf]
    · by_cases hp : m % 3 = 0
      · have HR : Hid (r = (m == 3)) := Lib.hid (by
          have h := HI.out
          rw [show Pri.bases.drop (Int.toNat 1) = 3 :: Pri.bases.drop (Int.toNat 2) from rfl] at h
          unfold Pri.sieve at h
          rw [if_pos hp] at h
          rw [← hr.out]; exact Pri.isP_some H2.out h.symm)
        have t1 : ((m : Int) % 3 == 0) = true := by simp; omega
        have tm : ((m : Int) == 3) = r := by rw [HR.out, Bool.eq_iff_iff]; simp; omega
        clear HI hp HR
        go_wp2
        go_ret
        exact ⟨rfl, below_drewN HBw.out _⟩
      · have HR : Hid (Pri.sieve m (Pri.bases.drop (Int.toNat 2)) = Pri.sieve m Pri.bases) := Lib.hid (by
          have h := HI.out
          rw [show Pri.bases.drop (Int.toNat 1) = 3 :: Pri.bases.drop (Int.toNat 2) from rfl] at h
          unfold Pri.sieve at h
          rw [if_neg hp] at h
          exact h)
        have t1 : ((m : Int) % 3 == 0) = false := by simp; omega
        clear HI hp
        go_wp2
        go_roundw
        case rel => exact ⟨2, rfl, by omega, HR, _, rfl⟩
        case measure => simp [RowKit.intOf]
    · by_cases hp : m % 5 = 0
      · have HR : Hid (r = (m == 5)) := Lib.hid (by
          have h := HI.out
          rw [show Pri.bases.drop (Int.toNat 2) = 5 :: Pri.bases.drop (Int.toNat 3) from rfl] at h
          unfold Pri.sieve at h
          rw [if_pos hp] at h
          rw [← hr.out]; exact Pri.isP_some H2.out h.symm)
        have t1 : ((m : Int) % 5 == 0) = true := by simp; omega
        have tm : ((m : Int) == 5) = r := by rw [HR.out, Bool.eq_iff_iff]; simp; omega
        clear HI hp HR
        go_wp2
        go_ret
        exact ⟨rfl, below_drewN HBw.out _⟩
      · have HR : Hid (Pri.sieve m (Pri.bases.drop (Int.toNat 3)) = Pri.sieve m Pri.bases) := Lib.hid (by
          have h := HI.out
          rw [show Pri.bases.drop (Int.toNat 2) = 5 :: Pri.bases.drop (Int.toNat 3) from rfl] at h
          unfold Pri.sieve at h
          rw [if_neg hp] at h
          exact h)
        have t1 : ((m : Int) % 5 == 0) = false := by simp; omega
        clear HI hp
        go_wp2
        go_roundw
        case rel => exact ⟨3, rfl, by omega, HR, _, rfl⟩
        case measure => simp [RowKit.intOf]
    · by_cases hp : m % 7 = 0
      · have HR : Hid (r = (m == 7)) := Lib.hid (by
          have h := HI.out
          rw [show Pri.bases.drop (Int.toNat 3) = 7 :: Pri.bases.drop (Int.toNat 4) from rfl] at h
          unfold Pri.sieve at h
          rw [if_pos hp] at h
          rw [← hr.out]; exact Pri.isP_some H2.out h.symm)
        have t1 : ((m : Int) % 7 == 0) = true := by simp; omega
        have tm : ((m : Int) == 7) = r := by rw [HR.out, Bool.eq_iff_iff]; simp; omega
        clear HI hp HR
        go_wp2
        go_ret
        exact ⟨rfl, below_drewN HBw.out _⟩
      · have HR : Hid (Pri.sieve m (Pri.bases.drop (Int.toNat 4)) = Pri.sieve m Pri.bases) := Lib.hid (by
          have h := HI.out
          rw [show Pri.bases.drop (Int.toNat 3) = 7 :: Pri.bases.drop (Int.toNat 4) from rfl] at h
          unfold Pri.sieve at h
          rw [if_neg hp] at h
          exact h)
        have t1 : ((m : Int) % 7 == 0) = false := by simp; omega
        clear HI hp
        go_wp2
        go_roundw
        case rel => exact ⟨4, rfl, by omega, HR, _, rfl⟩
        case measure => simp [RowKit.intOf]
    · by_cases hp : m % 11 = 0
      · have HR : Hid (r = (m == 11)) := Lib.hid (by
          have h := HI.out
          rw [show Pri.bases.drop (Int.toNat 4) = 11 :: Pri.bases.drop (Int.toNat 5) from rfl] at h
          unfold Pri.sieve at h
          rw [if_pos hp] at h
          rw [← hr.out]; exact Pri.isP_some H2.out h.symm)
        have t1 : ((m : Int) % 11 == 0) = true := by simp; omega
        have tm : ((m : Int) == 11) = r := by rw [HR.out, Bool.eq_iff_iff]; simp; omega
        clear HI hp HR
        go_wp2
        go_ret
        exact ⟨rfl, below_drewN HBw.out _⟩
      · have HR : Hid (Pri.sieve m (Pri.bases.drop (Int.toNat 5)) = Pri.sieve m Pri.bases) := Lib.hid (by
          have h := HI.out
          rw [show Pri.bases.drop (Int.toNat 4) = 11 :: Pri.bases.drop (Int.toNat 5) from rfl] at h
          unfold Pri.sieve at h
          rw [if_neg hp] at h
          exact h)
        have t1 : ((m : Int) % 11 == 0) = false := by simp; omega
        clear HI hp
        go_wp2
        go_roundw
        case rel => exact ⟨5, rfl, by omega, HR, _, rfl⟩
        case measure => simp [RowKit.intOf]
    · by_cases hp : m % 13 = 0
      · have HR : Hid (r = (m == 13)) := Lib.hid (by
          have h := HI.out
          rw [show Pri.bases.drop (Int.toNat 5) = 13 :: Pri.bases.drop (Int.toNat 6) from rfl] at h
          unfold Pri.sieve at h
          rw [if_pos hp] at h
          rw [← hr.out]; exact Pri.isP_some H2.out h.symm)
        have t1 : ((m : Int) % 13 == 0) = true := by simp; omega
        have tm : ((m : Int) == 13) = r := by rw [HR.out, Bool.eq_iff_iff]; simp; omega
        clear HI hp HR
        go_wp2
        go_ret
        exact ⟨rfl, below_drewN HBw.out _⟩
      · have HR : Hid (Pri.sieve m (Pri.bases.drop (Int.toNat 6)) = Pri.sieve m Pri.bases) := Lib.hid (by
          have h := HI.out
          rw [show Pri.bases.drop (Int.toNat 5) = 13 :: Pri.bases.drop (Int.toNat 6) from rfl] at h
          unfold Pri.sieve at h
          rw [if_neg hp] at h
          exact h)
        have t1 : ((m : Int) % 13 == 0) = false := by simp; omega
        clear HI hp
        go_wp2
        go_roundw
        case rel => exact ⟨6, rfl, by omega, HR, _, rfl⟩
        case measure => simp [RowKit.intOf]
    · by_cases hp : m % 17 = 0
      · have HR : Hid (r = (m == 17)) := Lib.hid (by
          have h := HI.out
          rw [show Pri.bases.drop (Int.toNat 6) = 17 :: Pri.bases.drop (Int.toNat 7) from rfl] at h
          unfold Pri.sieve at h
          rw [if_pos hp] at h
          rw [← hr.out]; exact Pri.isP_some H2.out h.symm)
        have t1 : ((m : Int) % 17 == 0) = true := by simp; omega
        have tm : ((m : Int) == 17) = r := by rw [HR.out, Bool.eq_iff_iff]; simp; omega
        clear HI hp HR
        go_wp2
        go_ret
        exact ⟨rfl, below_drewN HBw.out _⟩
      · have HR : Hid (Pri.sieve m (Pri.bases.drop (Int.toNat 7)) = Pri.sieve m Pri.bases) := Lib.hid (by
          have h := HI.out
          rw [show Pri.bases.drop (Int.toNat 6) = 17 :: Pri.bases.drop (Int.toNat 7) from rfl] at h
          unfold Pri.sieve at h
          rw [if_neg hp] at h
          exact h)
        have t1 : ((m : Int) % 17 == 0) = false := by simp; omega
        clear HI hp
        go_wp2
        go_roundw
        case rel => exact ⟨7, rfl, by omega, HR, _, rfl⟩
        case measure => simp [RowKit.intOf]
    · by_cases hp : m % 19 = 0
      · have HR : Hid (r = (m == 19)) := Lib.hid (by
          have h := HI.out
          rw [show Pri.bases.drop (Int.toNat 7) = 19 :: Pri.bases.drop (Int.toNat 8) from rfl] at h
          unfold Pri.sieve at h
          rw [if_pos hp] at h
          rw [← hr.out]; exact Pri.isP_some H2.out h.symm)
        have t1 : ((m : Int) % 19 == 0) = true := by simp; omega
        have tm : ((m : Int) == 19) = r := by rw [HR.out, Bool.eq_iff_iff]; simp; omega
        clear HI hp HR
        go_wp2
        go_ret
        exact ⟨rfl, below_drewN HBw.out _⟩
      · have HR : Hid (Pri.sieve m (Pri.bases.drop (Int.toNat 8)) = Pri.sieve m Pri.bases) := Lib.hid (by
          have h := HI.out
          rw [show Pri.bases.drop (Int.toNat 7) = 19 :: Pri.bases.drop (Int.toNat 8) from rfl] at h
          unfold Pri.sieve at h
          rw [if_neg hp] at h
          exact h)
        have t1 : ((m : Int) % 19 == 0) = false := by simp; omega
        clear HI hp
        go_wp2
        go_roundw
        case rel => exact ⟨8, rfl, by omega, HR, _, rfl⟩
        case measure => simp [RowKit.intOf]
    · by_cases hp : m % 23 = 0
      · have HR : Hid (r = (m == 23)) := Lib.hid (by
          have h := HI.out
          rw [show Pri.bases.drop (Int.toNat 8) = 23 :: Pri.bases.drop (Int.toNat 9) from rfl] at h
          unfold Pri.sieve at h
          rw [if_pos hp] at h
          rw [← hr.out]; exact Pri.isP_some H2.out h.symm)
        have t1 : ((m : Int) % 23 == 0) = true := by simp; omega
        have tm : ((m : Int) == 23) = r := by rw [HR.out, Bool.eq_iff_iff]; simp; omega
        clear HI hp HR
        go_wp2
        go_ret
        exact ⟨rfl, below_drewN HBw.out _⟩
      · have HR : Hid (Pri.sieve m (Pri.bases.drop (Int.toNat 9)) = Pri.sieve m Pri.bases) := Lib.hid (by
          have h := HI.out
          rw [show Pri.bases.drop (Int.toNat 8) = 23 :: Pri.bases.drop (Int.toNat 9) from rfl] at h
          unfold Pri.sieve at h
          rw [if_neg hp] at h
          exact h)
        have t1 : ((m : Int) % 23 == 0) = false := by simp; omega
        clear HI hp
        go_wp2
        go_roundw
        case rel => exact ⟨9, rfl, by omega, HR, _, rfl⟩
        case measure => simp [RowKit.intOf]
    · by_cases hp : m % 29 = 0
      · have HR : Hid (r = (m == 29)) := Lib.hid (by
          have h := HI.out
          rw [show Pri.bases.drop (Int.toNat 9) = 29 :: Pri.bases.drop (Int.toNat 10) from rfl] at h
          unfold Pri.sieve at h
          rw [if_pos hp] at h
          rw [← hr.out]; exact Pri.isP_some H2.out h.symm)
        have t1 : ((m : Int) % 29 == 0) = true := by simp; omega
        have tm : ((m : Int) == 29) = r := by rw [HR.out, Bool.eq_iff_iff]; simp; omega
        clear HI hp HR
        go_wp2
        go_ret
        exact ⟨rfl, below_drewN HBw.out _⟩
      · have HR : Hid (Pri.sieve m (Pri.bases.drop (Int.toNat 10)) = Pri.sieve m Pri.bases) := Lib.hid (by
          have h := HI.out
          rw [show Pri.bases.drop (Int.toNat 9) = 29 :: Pri.bases.drop (Int.toNat 10) from rfl] at h
          unfold Pri.sieve at h
          rw [if_neg hp] at h
          exact h)
        have t1 : ((m : Int) % 29 == 0) = false := by simp; omega
        clear HI hp
        go_wp2
        go_roundw
        case rel => exact ⟨10, rfl, by omega, HR, _, rfl⟩
        case measure => simp [RowKit.intOf]
    · by_cases hp : m % 31 = 0
      · have HR : Hid (r = (m == 31)) := Lib.hid (by
          have h := HI.out
          rw [show Pri.bases.drop (Int.toNat 10) = 31 :: Pri.bases.drop (Int.toNat 11) from rfl] at h
          unfold Pri.sieve at h
          rw [if_pos hp] at h
          rw [← hr.out]; exact Pri.isP_some H2.out h.symm)
        have t1 : ((m : Int) % 31 == 0) = true := by simp; omega
        have tm : ((m : Int) == 31) = r := by rw [HR.out, Bool.eq_iff_iff]; simp; omega
        clear HI hp HR
        go_wp2
        go_ret
        exact ⟨rfl, below_drewN HBw.out _⟩
      · have HR : Hid (Pri.sieve m (Pri.bases.drop (Int.toNat 11)) = Pri.sieve m Pri.bases) := Lib.hid (by
          have h := HI.out
          rw [show Pri.bases.drop (Int.toNat 10) = 31 :: Pri.bases.drop (Int.toNat 11) from rfl] at h
          unfold Pri.sieve at h
          rw [if_neg hp] at h
          exact h)
        have t1 : ((m : Int) % 31 == 0) = false := by simp; omega
        clear HI hp
        go_wp2
        go_roundw
        case rel => exact ⟨11, rfl, by omega, HR, _, rfl⟩
        case measure => simp [RowKit.intOf]
    · by_cases hp : m % 37 = 0
      · have HR : Hid (r = (m == 37)) := Lib.hid (by
          have h := HI.out
          rw [show Pri.bases.drop (Int.toNat 11) = 37 :: Pri.bases.drop (Int.toNat 12) from rfl] at h
          unfold Pri.sieve at h
          rw [if_pos hp] at h
          rw [← hr.out]; exact Pri.isP_some H2.out h.symm)
        have t1 : ((m : Int) % 37 == 0) = true := by simp; omega
        have tm : ((m : Int) == 37) = r := by rw [HR.out, Bool.eq_iff_iff]; simp; omega
        clear HI hp HR
        go_wp2
        go_ret
        exact ⟨rfl, below_drewN HBw.out _⟩
      · have HR : Hid (Pri.sieve m (Pri.bases.drop (Int.toNat 12)) = Pri.sieve m Pri.bases) := Lib.hid (by
          have h := HI.out
          rw [show Pri.bases.drop (Int.toNat 11) = 37 :: Pri.bases.drop (Int.toNat 12) from rfl] at h
          unfold Pri.sieve at h
          rw [if_neg hp] at h
          exact h)
        have t1 : ((m : Int) % 37 == 0) = false := by simp; omega
        clear HI hp
        go_wp2
        go_roundw
        case rel => exact ⟨12, rfl, by omega, HR, _, rfl⟩
        case measure => simp [RowKit.intOf]
    · have hno : Pri.sieve m Pri.bases = none := HI.out.symm
      obtain ⟨hbig, hodd⟩ := Pri.sieve_big H2.out hno
      have hall := Pri.isP_none H2.out hno
      have hst : Hid ((Pri.bases.drop 0).all (Pri.strong m) = r) := Lib.hid (by rw [← hr.out, hall]; rfl)
      have HB := Lib.hid hbig
      clear hno hall HI hbig hodd
      have hng : decide ((2305843009213693952 : Int) ≤ (m : Int)) = false := decide_eq_false (by omega)
      go_wp2
      go_loopw [5] (fun s0 wr => ∃ i : Int, s0 = .int .i64 i ∧ (0 ≤ i ∧ i ≤ 12) ∧ Hid ((Pri.bases.drop i.toNat).all (Pri.strong m) = r) ∧ Qw w1 wr) (fun s0 _ => 12 - (RowKit.intOf s0).toNat)
      case atStart => exact ⟨0, rfl, by omega, hst, _, rfl⟩
      case round =>
        obtain ⟨i, rfl, hi, HI, n3, rfl⟩ := hrel
        clear hst
        have hi' : i = 0 ∨ i = 1 ∨ i = 2 ∨ i = 3 ∨ i = 4 ∨ i = 5 ∨ i = 6 ∨ i = 7 ∨ i = 8 ∨ i = 9 ∨ i = 10 ∨ i = 11 ∨ i = 12 := by omega
        clear hi
        rcases hi' with rfl | rfl | rfl | rfl | rfl | rfl | rfl | rfl | rfl | rfl | rfl | rfl | rfl
        · obtain ⟨b, hb⟩ : ∃ b, b = Pri.strong m 2 := ⟨_, rfl⟩
          have HR : Hid ((b && (Pri.bases.drop (Int.toNat 1)).all (Pri.strong m)) = r) := Lib.hid (by
            have h := HI.out
            rw [show Pri.bases.drop (Int.toNat 0) = 2 :: Pri.bases.drop (Int.toNat 1) from rfl, List.all_cons, ← hb] at h
            exact h)
          have cc := fun w => strong_c m 2 b w (by have := HB.out; omega) (by have := HB.out; omega) (by unfold Top; omega) (Lib.hid hb.symm)
          have CC := Lib.hid cc
          clear HI hb cc
          go_wp2_with fail
          refine (CC.out _).mono ?_; rintro e1 w1 ⟨rfl, n4, rfl⟩
          clear CC
          cases b
          · have hrr : r = false := by rw [← HR.out]; rfl
            subst hrr
            go_wp2
            go_ret
            exact ⟨rfl, below_drewN HBw.out _⟩
          · have HR2 : Hid ((Pri.bases.drop (Int.toNat 1)).all (Pri.strong m) = r) := Lib.hid (by have h := HR.out; rw [Bool.true_and] at h; exact h)
            clear HR
            go_wp2
            go_roundw
            case rel => exact ⟨1, rfl, by omega, HR2, _, rfl⟩
            case measure => simp [RowKit.intOf]
        · obtain ⟨b, hb⟩ : ∃ b, b = Pri.strong m 3 := ⟨_, rfl⟩
          have HR : Hid ((b && (Pri.bases.drop (Int.toNat 2)).all (Pri.strong m)) = r) := Lib.hid (by
            have h := HI.out
            rw [show Pri.bases.drop (Int.toNat 1) = 3 :: Pri.bases.drop (Int.toNat 2) from rfl, List.all_cons, ← hb] at h
            exact h)
          have cc := fun w => strong_c m 3 b w (by have := HB.out; omega) (by have := HB.out; omega) (by unfold Top; omega) (Lib.hid hb.symm)
          have CC := Lib.hid cc
          clear HI hb cc
          go_wp2_with fail
          refine (CC.out _).mono ?_; rintro e1 w1 ⟨rfl, n4, rfl⟩
          clear CC
          cases b
          · have hrr : r = false := by rw [← HR.out]; rfl
            subst hrr
            go_wp2
            go_ret
            exact ⟨rfl, below_drewN HBw.out _⟩
          · have HR2 : Hid ((Pri.bases.drop (Int.toNat 2)).all (Pri.strong m) = r) := Lib.hid (by have h := HR.out; rw [Bool.true_and] at h; exact h)
            clear HR
            go_wp2
            go_roundw
            case rel => exact ⟨2, rfl, by omega, HR2, _, rfl⟩
            case measure => simp [RowKit.intOf]
        · obtain ⟨b, hb⟩ : ∃ b, b = Pri.strong m 5 := ⟨_, rfl⟩
          have HR : Hid ((b && (Pri.bases.drop (Int.toNat 3)).all (Pri.strong m)) = r) := Lib.hid (by
            have h := HI.out
            rw [show Pri.bases.drop (Int.toNat 2) = 5 :: Pri.bases.drop (Int.toNat 3) from rfl, List.all_cons, ← hb] at h
            exact h)
          have cc := fun w => strong_c m 5 b w (by have := HB.out; omega) (by have := HB.out; omega) (by unfold Top; omega) (Lib.hid hb.symm)
          have CC := Lib.hid cc
          clear HI hb cc
          go_wp2_with fail
          refine (CC.out _).mono ?_; rintro e1 w1 ⟨rfl, n4, rfl⟩
          clear CC
          cases b
          · have hrr : r = false := by rw [← HR.out]; rfl
            subst hrr
            go_wp2
            go_ret
            exact ⟨rfl, below_drewN HBw.out _⟩
          · have HR2 : Hid ((Pri.bases.drop (Int.toNat 3)).all (Pri.strong m) = r) := Lib.hid (by have h := HR.out; rw [Bool.true_and] at h; exact h)
            clear HR
            go_wp2
            go_roundw
            case rel => exact ⟨3, rfl, by omega, HR2, _, rfl⟩
            case measure => simp [RowKit.intOf]
        · obtain ⟨b, hb⟩ : ∃ b, b = Pri.strong m 7 := ⟨_, rfl⟩
          have HR : Hid ((b && (Pri.bases.drop (Int.toNat 4)).all (Pri.strong m)) = r) := Lib.hid (by
            have h := HI.out
            rw [show Pri.bases.drop (Int.toNat 3) = 7 :: Pri.bases.drop (Int.toNat 4) from rfl, List.all_cons, ← hb] at h
            exact h)
          have cc := fun w => strong_c m 7 b w (by have := HB.out; omega) (by have := HB.out; omega) (by unfold Top; omega) (Lib.hid hb.symm)
          have CC := Lib.hid cc
          clear HI hb cc
          go_wp2_with fail
          refine (CC.out _).mono ?_; rintro e1 w1 ⟨rfl, n4, rfl⟩
          clear CC
          cases b
          · have hrr : r = false := by rw [← HR.out]; rfl
            subst hrr
            go_wp2
            go_ret
            exact ⟨rfl, below_drewN HBw.out _⟩
          · have HR2 : Hid ((Pri.bases.drop (Int.toNat 4)).all (Pri.strong m) = r) := Lib.hid (by have h := HR.out; rw [Bool.true_and] at h; exact h)
            clear HR
            go_wp2
            go_roundw
            case rel => exact ⟨4, rfl, by omega, HR2, _, rfl⟩
            case measure => simp [RowKit.intOf]
        · obtain ⟨b, hb⟩ : ∃ b, b = Pri.strong m 11 := ⟨_, rfl⟩
          have HR : Hid ((b && (Pri.bases.drop (Int.toNat 5)).all (Pri.strong m)) = r) := Lib.hid (by
            have h := HI.out
            rw [show Pri.bases.drop (Int.toNat 4) = 11 :: Pri.bases.drop (Int.toNat 5) from rfl, List.all_cons, ← hb] at h
            exact h)
          have cc := fun w => strong_c m 11 b w (by have := HB.out; omega) (by have := HB.out; omega) (by unfold Top; omega) (Lib.hid hb.symm)
          have CC := Lib.hid cc
          clear HI hb cc
          go_wp2_with fail
          refine (CC.out _).mono ?_; rintro e1 w1 ⟨rfl, n4, rfl⟩
          clear CC
          cases b
          · have hrr : r = false := by rw [← HR.out]; rfl
            subst hrr
            go_wp2
            go_ret
            exact ⟨rfl, below_drewN HBw.out _⟩
          · have HR2 : Hid ((Pri.bases.drop (Int.toNat 5)).all (Pri.strong m) = r) := Lib.hid (by have h := HR.out; rw [Bool.true_and] at h; exact h)
            clear HR
            go_wp2
            go_roundw
            case rel => exact ⟨5, rfl, by omega, HR2, _, rfl⟩
            case measure => simp [RowKit.intOf]
        · obtain ⟨b, hb⟩ : ∃ b, b = Pri.strong m 13 := ⟨_, rfl⟩
          have HR : Hid ((b && (Pri.bases.drop (Int.toNat 6)).all (Pri.strong m)) = r) := Lib.hid (by
            have h := HI.out
            rw [show Pri.bases.drop (Int.toNat 5) = 13 :: Pri.bases.drop (Int.toNat 6) from rfl, List.all_cons, ← hb] at h
            exact h)
          have cc := fun w => strong_c m 13 b w (by have := HB.out; omega) (by have := HB.out; omega) (by unfold Top; omega) (Lib.hid hb.symm)
          have CC := Lib.hid cc
          clear HI hb cc
          go_wp2_with fail
          refine (CC.out _).mono ?_; rintro e1 w1 ⟨rfl, n4, rfl⟩
          clear CC
          cases b
          · have hrr : r = false := by rw [← HR.out]; rfl
            subst hrr
            go_wp2
            go_ret
            exact ⟨rfl, below_drewN HBw.out _⟩
          · have HR2 : Hid ((Pri.bases.drop (Int.toNat 6)).all (Pri.strong m) = r) := Lib.hid (by have h := HR.out; rw [Bool.true_and] at h; exact h)
            clear HR
            go_wp2
            go_roundw
            case rel => exact ⟨6, rfl, by omega, HR2, _, rfl⟩
            case measure => simp [RowKit.intOf]
        · obtain ⟨b, hb⟩ : ∃ b, b = Pri.strong m 17 := ⟨_, rfl⟩
          have HR : Hid ((b && (Pri.bases.drop (Int.toNat 7)).all (Pri.strong m)) = r) := Lib.hid (by
            have h := HI.out
            rw [show Pri.bases.drop (Int.toNat 6) = 17 :: Pri.bases.drop (Int.toNat 7) from rfl, List.all_cons, ← hb] at h
            exact h)
          have cc := fun w => strong_c m 17 b w (by have := HB.out; omega) (by have := HB.out; omega) (by unfold Top; omega) (Lib.hid hb.symm)
          have CC := Lib.hid cc
          clear HI hb cc
          go_wp2_with fail
          refine (CC.out _).mono ?_; rintro e1 w1 ⟨rfl, n4, rfl⟩
          clear CC
          cases b
          · have hrr : r = false := by rw [← HR.out]; rfl
            subst hrr
            go_wp2
            go_ret
            exact ⟨rfl, below_drewN HBw.out _⟩
          · have HR2 : Hid ((Pri.bases.drop (Int.toNat 7)).all (Pri.strong m) = r) := Lib.hid (by have h := HR.out; rw [Bool.true_and] at h; exact h)
            clear HR
            go_wp2
            go_roundw
            case rel => exact ⟨7, rfl, by omega, HR2, _, rfl⟩
            case measure => simp [RowKit.intOf]
        · obtain ⟨b, hb⟩ : ∃ b, b = Pri.strong m 19 := ⟨_, rfl⟩
          have HR : Hid ((b && (Pri.bases.drop (Int.toNat 8)).all (Pri.strong m)) = r) := Lib.hid (by
            have h := HI.out
            rw [show Pri.bases.drop (Int.toNat 7) = 19 :: Pri.bases.drop (Int.toNat 8) from rfl, List.all_cons, ← hb] at h
            exact h)
          have cc := fun w => strong_c m 19 b w (by have := HB.out; omega) (by have := HB.out; omega) (by unfold Top; omega) (Lib.hid hb.symm)
          have CC := Lib.hid cc
          clear HI hb cc
          go_wp2_with fail
          refine (CC.out _).mono ?_; rintro e1 w1 ⟨rfl, n4, rfl⟩
          clear CC
          cases b
          · have hrr : r = false := by rw [← HR.out]; rfl
            subst hrr
            go_wp2
            go_ret
            exact ⟨rfl, below_drewN HBw.out _⟩
          · have HR2 : Hid ((Pri.bases.drop (Int.toNat 8)).all (Pri.strong m) = r) := Lib.hid (by have h := HR.out; rw [Bool.true_and] at h; exact h)
            clear HR
            go_wp2
            go_roundw
            case rel => exact ⟨8, rfl, by omega, HR2, _, rfl⟩
            case measure => simp [RowKit.intOf]
        · obtain ⟨b, hb⟩ : ∃ b, b = Pri.strong m 23 := ⟨_, rfl⟩
          have HR : Hid ((b && (Pri.bases.drop (Int.toNat 9)).all (Pri.strong m)) = r) := Lib.hid (by
            have h := HI.out
            rw [show Pri.bases.drop (Int.toNat 8) = 23 :: Pri.bases.drop (Int.toNat 9) from rfl, List.all_cons, ← hb] at h
            exact h)
          have cc := fun w => strong_c m 23 b w (by have := HB.out; omega) (by have := HB.out; omega) (by unfold Top; omega) (Lib.hid hb.symm)
          have CC := Lib.hid cc
          clear HI hb cc
          go_wp2_with fail
          refine (CC.out _).mono ?_; rintro e1 w1 ⟨rfl, n4, rfl⟩
          clear CC
          cases b
          · have hrr : r = false := by rw [← HR.out]; rfl
            subst hrr
            go_wp2
            go_ret
            exact ⟨rfl, below_drewN HBw.out _⟩
          · have HR2 : Hid ((Pri.bases.drop (Int.toNat 9)).all (Pri.strong m) = r) := Lib.hid (by have h := HR.out; rw [Bool.true_and] at h; exact h)
            clear HR
            go_wp2
            go_roundw
            case rel => exact ⟨9, rfl, by omega, HR2, _, rfl⟩
            case measure => simp [RowKit.intOf]
        · obtain ⟨b, hb⟩ : ∃ b, b = Pri.strong m 29 := ⟨_, rfl⟩
          have HR : Hid ((b && (Pri.bases.drop (Int.toNat 10)).all (Pri.strong m)) = r) := Lib.hid (by
            have h := HI.out
            rw [show Pri.bases.drop (Int.toNat 9) = 29 :: Pri.bases.drop (Int.toNat 10) from rfl, List.all_cons, ← hb] at h
            exact h)
          have cc := fun w => strong_c m 29 b w (by have := HB.out; omega) (by have := HB.out; omega) (by unfold Top; omega) (Lib.hid hb.symm)
          have CC := Lib.hid cc
          clear HI hb cc
          go_wp2_with fail
          refine (CC.out _).mono ?_; rintro e1 w1 ⟨rfl, n4, rfl⟩
          clear CC
          cases b
          · have hrr : r = false := by rw [← HR.out]; rfl
            subst hrr
            go_wp2
            go_ret
            exact ⟨rfl, below_drewN HBw.out _⟩
          · have HR2 : Hid ((Pri.bases.drop (Int.toNat 10)).all (Pri.strong m) = r) := Lib.hid (by have h := HR.out; rw [Bool.true_and] at h; exact h)
            clear HR
            go_wp2
            go_roundw
            case rel => exact ⟨10, rfl, by omega, HR2, _, rfl⟩
            case measure => simp [RowKit.intOf]
        · obtain ⟨b, hb⟩ : ∃ b, b = Pri.strong m 31 := ⟨_, rfl⟩
          have HR : Hid ((b && (Pri.bases.drop (Int.toNat 11)).all (Pri.strong m)) = r) := Lib.hid (by
            have h := HI.out
            rw [show Pri.bases.drop (Int.toNat 10) = 31 :: Pri.bases.drop (Int.toNat 11) from rfl, List.all_cons, ← hb] at h
            exact h)
          have cc := fun w => strong_c m 31 b w (by have := HB.out; omega) (by have := HB.out; omega) (by unfold Top; omega) (Lib.hid hb.symm)
          have CC := Lib.hid cc
          clear HI hb cc
          go_wp2_with fail
          refine (CC.out _).mono ?_; rintro e1 w1 ⟨rfl, n4, rfl⟩
          clear CC
          cases b
          · have hrr : r = false := by rw [← HR.out]; rfl
            subst hrr
            go_wp2
            go_ret
            exact ⟨rfl, below_drewN HBw.out _⟩
          · have HR2 : Hid ((Pri.bases.drop (Int.toNat 11)).all (Pri.strong m) = r) := Lib.hid (by have h := HR.out; rw [Bool.true_and] at h; exact h)
            clear HR
            go_wp2
            go_roundw
            case rel => exact ⟨11, rfl, by omega, HR2, _, rfl⟩
            case measure => simp [RowKit.intOf]
        · obtain ⟨b, hb⟩ : ∃ b, b = Pri.strong m 37 := ⟨_, rfl⟩
          have HR : Hid ((b && (Pri.bases.drop (Int.toNat 12)).all (Pri.strong m)) = r) := Lib.hid (by
            have h := HI.out
            rw [show Pri.bases.drop (Int.toNat 11) = 37 :: Pri.bases.drop (Int.toNat 12) from rfl, List.all_cons, ← hb] at h
            exact h)
          have cc := fun w => strong_c m 37 b w (by have := HB.out; omega) (by have := HB.out; omega) (by unfold Top; omega) (Lib.hid hb.symm)
          have CC := Lib.hid cc
          clear HI hb cc
          go_wp2_with fail
          refine (CC.out _).mono ?_; rintro e1 w1 ⟨rfl, n4, rfl⟩
          clear CC
          cases b
          · have hrr : r = false := by rw [← HR.out]; rfl
            subst hrr
            go_wp2
            go_ret
            exact ⟨rfl, below_drewN HBw.out _⟩
          · have HR2 : Hid ((Pri.bases.drop (Int.toNat 12)).all (Pri.strong m) = r) := Lib.hid (by have h := HR.out; rw [Bool.true_and] at h; exact h)
            clear HR
            go_wp2
            go_roundw
            case rel => exact ⟨12, rfl, by omega, HR2, _, rfl⟩
            case measure => simp [RowKit.intOf]
        · have hrr : r = true := HI.out.symm
          subst hrr
          go_wp2
          go_ret
          exact ⟨rfl, below_drewN HBw.out _⟩
theorem rIs_c (n : Int) (w : World) (hn : -9223372036854775808 ≤ n ∧ n ≤ 2305843009213693951) :
    Calls Tryd.prog 49 #[.int .i64 n] w fun e w' => e = .returned (.bool (Pri.isP n.toNat)) ∧ Below w.heap.size w w' := by
  by_cases h : n < 2
  · have hr : Pri.isP n.toNat = false := by unfold Pri.isP; rw [if_pos (by omega)]
    rw [hr]
    have hn2 : decide (n < 2) = true := decide_eq_true h
    clear hr
    go_enter Tryd.func49, Tryd.ntmps49
    go_wp2
    go_ret
    exact ⟨rfl, Below.refl _ _⟩
  · obtain ⟨m, rfl⟩ : ∃ m : Nat, n = (m : Int) := ⟨n.toNat, by omega⟩
    exact rIs_big m _ w (by omega) hn.2 rfl
end Go.Proofs.YteipbcpnnojclaaDoor

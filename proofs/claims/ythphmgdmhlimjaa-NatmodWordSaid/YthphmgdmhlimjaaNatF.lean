/- Add and Sub of invalid numbers; bits.Sub32; minus; Sub. -/
import Derived.Test.YthphmgdmhlimjaaNatE
namespace Go.Proofs.Ythphmgdmhlimjaa
open Go.RowKit NatMath
set_option linter.unusedVariables false

set_option maxRecDepth 100000 in
set_option maxHeartbeats 1000000 in
theorem Add_bad (a b : Value) (la lb : List Nat) (w : World) (ha : Sl w a la) (hb : Sl w b lb) (h : vld la = false ∨ vld lb = false) :
    Calls Try.prog 56 #[.agg #[a], .agg #[b]] w fun e w' => e = errN 1 ∧ Below w.heap.size w w' := by
  have c1 := fun w h => Valid_c a la w h
  have c2 := fun w h => Valid_c b lb w h
  have HA := Lib.hid ha
  have HB := Lib.hid hb
  by_cases k : vld la = false
  · rw [k] at c1
    have C1 := Lib.hid c1
    clear c1 c2 ha hb h k
    go_enter Try.func56, Try.ntmps56
    go_wp2_with fail
    refine (C1.out _ (HA.out.below' (below_three _ _ _ _))).mono ?_; rintro e w1 ⟨rfl, hb1⟩
    have z1 : w.heap.size + 1 + 1 < w1.heap.size := by have := hb1.size; simp at this; omega
    have B1 : Hid (Below w.heap.size w w1) := Lib.hid ((below_three _ _ _ _).trans (hb1.mono (by simp; omega)))
    obtain ⟨x1, x2, x3, x4⟩ := box3 w a b (.slice none 0 0) 24 24 24
    have f3 := (hb1.cell (p := ⟨w.heap.size + 1 + 1, 0, none⟩) (by simp)).trans x3
    have f4 := (hb1.frozen (p := ⟨w.heap.size + 1 + 1, 0, none⟩) (by simp)).trans x4
    clear x1 x2 x3 x4 hb1
    go_wp2
    exact bodyPost_ret (v := .tuple #[.agg #[.slice none 0 0], .int .i64 1]) (by simp [results, Try.results56, go_sem, f3]) rfl ⟨rfl, B1.out.setCell (by dsimp only; omega) _⟩
  · have k2 : vld lb = false := by simpa [k] using h
    have k1 : vld la = true := by simpa using k
    rw [k1] at c1
    rw [k2] at c2
    have C1 := Lib.hid c1
    have C2 := Lib.hid c2
    clear c1 c2 ha hb h k k1 k2
    go_enter Try.func56, Try.ntmps56
    go_wp2_with fail
    refine (C1.out _ (HA.out.below' (below_three _ _ _ _))).mono ?_; rintro e w1 ⟨rfl, hb1⟩
    have z1 : w.heap.size + 1 + 1 < w1.heap.size := by have := hb1.size; simp at this; omega
    have B1 : Hid (Below w.heap.size w w1) := Lib.hid ((below_three _ _ _ _).trans (hb1.mono (by simp; omega)))
    obtain ⟨x1, x2, x3, x4⟩ := box3 w a b (.slice none 0 0) 24 24 24
    have f2 := (hb1.cell (p := ⟨w.heap.size + 1, 0, none⟩) (by simp)).trans x2
    have f3 := (hb1.cell (p := ⟨w.heap.size + 1 + 1, 0, none⟩) (by simp)).trans x3
    have f4 := (hb1.frozen (p := ⟨w.heap.size + 1 + 1, 0, none⟩) (by simp)).trans x4
    clear x1 x2 x3 x4 hb1
    go_wp2_with fail
    refine (C2.out _ (HB.out.below' B1.out)).mono ?_; rintro e w2 ⟨rfl, hb2⟩
    have z2 : w.heap.size + 1 + 1 < w2.heap.size := by have := hb2.size; omega
    have B2 : Hid (Below w.heap.size w w2) := Lib.hid (B1.out.trans (hb2.mono (by omega)))
    have g3 := (hb2.cell (p := ⟨w.heap.size + 1 + 1, 0, none⟩) (by dsimp only; omega)).trans f3
    have g4 := (hb2.frozen (p := ⟨w.heap.size + 1 + 1, 0, none⟩) (by dsimp only; omega)).trans f4
    clear hb2 f2 f3 f4
    go_wp2
    exact bodyPost_ret (v := .tuple #[.agg #[.slice none 0 0], .int .i64 1]) (by simp [results, Try.results56, go_sem, g3]) rfl ⟨rfl, B2.out.setCell (by dsimp only; omega) _⟩
/-! ### bits.Sub32 -/

theorem bits_u32 (a b : Nat) (ha : a < 4294967296) (hb : b < 4294967296) :
    bits .and .u32 (a : Int) (b : Int) = ((a &&& b : Nat) : Int) ∧ bits .or .u32 (a : Int) (b : Int) = ((a ||| b : Nat) : Int) ∧ bits .xor .u32 (a : Int) (b : Int) = ((a ^^^ b : Nat) : Int) := by
  have h1 : (BitVec.ofInt 32 (a : Int)).toNat = a := by
    rw [BitVec.ofInt_natCast, BitVec.toNat_ofNat]; exact Nat.mod_eq_of_lt (by omega)
  have h2 : (BitVec.ofInt 32 (b : Int)).toNat = b := by
    rw [BitVec.ofInt_natCast, BitVec.toNat_ofNat]; exact Nat.mod_eq_of_lt (by omega)
  have hx1 : a &&& b < 2 ^ 32 := Nat.and_lt_two_pow _ (by omega)
  have hx2 : a ||| b < 2 ^ 32 := Nat.or_lt_two_pow (by omega) (by omega)
  have hx3 : a ^^^ b < 2 ^ 32 := Nat.xor_lt_two_pow (by omega) (by omega)
  refine ⟨?_, ?_, ?_⟩
  · show IntKind.u32.wrap ((BitVec.ofInt 32 (a : Int) &&& BitVec.ofInt 32 (b : Int)).toNat : Int) = _
    rw [BitVec.toNat_and, h1, h2, IntKind.wrap_u32]; omega
  · show IntKind.u32.wrap ((BitVec.ofInt 32 (a : Int) ||| BitVec.ofInt 32 (b : Int)).toNat : Int) = _
    rw [BitVec.toNat_or, h1, h2, IntKind.wrap_u32]; omega
  · show IntKind.u32.wrap ((BitVec.ofInt 32 (a : Int) ^^^ BitVec.ofInt 32 (b : Int)).toNat : Int) = _
    rw [BitVec.toNat_xor, h1, h2, IntKind.wrap_u32]; omega

theorem top_bit (x y d c : Nat) (hx : x < 4294967296) (hy : y < 4294967296) (hc : c ≤ 1) (hd : d = (x + 8589934592 - y - c) % 4294967296) :
    (((4294967295 ^^^ x) &&& y) ||| ((4294967295 ^^^ (x ^^^ y)) &&& d)) / 2147483648 = if x < y + c then 1 else 0 := by
  have hd2 : d < 4294967296 := by omega
  have e : (((4294967295 ^^^ x) &&& y) ||| ((4294967295 ^^^ (x ^^^ y)) &&& d)) / 2147483648 = ((1 ^^^ x / 2147483648) &&& y / 2147483648) ||| ((1 ^^^ (x / 2147483648 ^^^ y / 2147483648)) &&& d / 2147483648) := by
    have p : ∀ n : Nat, n / 2147483648 = n >>> 31 := fun n => by rw [Nat.shiftRight_eq_div_pow]
    simp only [p, Nat.shiftRight_or_distrib, Nat.shiftRight_and_distrib, Nat.shiftRight_xor_distrib]
    rfl
  rw [e]
  have h1 : x / 2147483648 = 0 ∨ x / 2147483648 = 1 := by omega
  have h2 : y / 2147483648 = 0 ∨ y / 2147483648 = 1 := by omega
  have h3 : d / 2147483648 = 0 ∨ d / 2147483648 = 1 := by omega
  rcases h1 with h1 | h1 <;> rcases h2 with h2 | h2 <;> rcases h3 with h3 | h3 <;> rw [h1, h2, h3] <;> simp <;> omega

set_option maxHeartbeats 400000 in
theorem sub32_c (x y c : Nat) (w : World) (hx : (x : Int) < 4294967296) (hy : (y : Int) < 4294967296) (hc : (c : Int) ≤ 1) :
    Calls Try.prog 89 #[.int .u32 x, .int .u32 y, .int .u32 c] w fun e w' => e = .returned (.tuple #[.int .u32 (((x + 8589934592 - y - c) % 4294967296 : Nat) : Int), .int .u32 ((if x < y + c then 1 else 0 : Nat) : Int)]) ∧ w = w' := by
  have hx' : x < 4294967296 := by omega
  have hy' : y < 4294967296 := by omega
  obtain ⟨d, hd⟩ : ∃ d, d = (x + 8589934592 - y - c) % 4294967296 := ⟨_, rfl⟩
  have hd' : d < 4294967296 := by omega
  have e0 : IntKind.u32.wrap ((x : Int) - (y : Int)) = (((x + 4294967296 - y) % 4294967296 : Nat) : Int) := by rw [IntKind.wrap_u32]; omega
  obtain ⟨d0, hd0⟩ : ∃ d0, d0 = (x + 4294967296 - y) % 4294967296 := ⟨_, rfl⟩
  have e1 : IntKind.u32.wrap ((d0 : Int) - (c : Int)) = (d : Int) := by rw [IntKind.wrap_u32]; omega
  rw [← hd0] at e0
  have ht := top_bit x y d c hx' hy' (by omega) hd
  have p1 : 4294967295 ^^^ x < 4294967296 := Nat.xor_lt_two_pow (n := 32) (by omega) (by omega)
  have p2 : x ^^^ y < 4294967296 := Nat.xor_lt_two_pow (n := 32) (by omega) (by omega)
  have p3 : 4294967295 ^^^ (x ^^^ y) < 4294967296 := Nat.xor_lt_two_pow (n := 32) (by omega) (by omega)
  have p4 : (4294967295 ^^^ x) &&& y < 4294967296 := Nat.and_lt_two_pow (n := 32) _ (by omega)
  have p5 : (4294967295 ^^^ (x ^^^ y)) &&& d < 4294967296 := Nat.and_lt_two_pow (n := 32) _ (by omega)
  have q1 := (bits_u32 4294967295 x (by omega) hx').2.2
  have q2 := (bits_u32 _ y p1 hy').1
  have q3 := (bits_u32 x y hx' hy').2.2
  have q4 := (bits_u32 4294967295 _ (by omega) p2).2.2
  have q5 := (bits_u32 _ d p3 hd').1
  have q6 := (bits_u32 _ _ p4 p5).2.1
  rw [← hd, ← ht]
  generalize (4294967295 ^^^ x) &&& y = n4 at *
  generalize (4294967295 ^^^ (x ^^^ y)) &&& d = n5 at *
  generalize n4 ||| n5 = n6 at *
  generalize (4294967295 ^^^ x) = n1 at *
  generalize (4294967295 ^^^ (x ^^^ y)) = n3 at *
  generalize (x ^^^ y) = n2 at *
  obtain ⟨b, hb⟩ : ∃ b, b = n6 / 2147483648 := ⟨_, rfl⟩
  have hb2 : (n6 : Int) / 2147483648 = (b : Int) := by omega
  have q1' : bits .xor .u32 (if IntKind.u32.signed = true then -1 else IntKind.u32.max) (x : Int) = (n1 : Int) := q1
  have q4' : bits .xor .u32 (if IntKind.u32.signed = true then -1 else IntKind.u32.max) (n2 : Int) = (n3 : Int) := q4
  rw [← hb]
  clear hd0 hd ht p1 p2 p3 p4 p5 hd' hx' hy' hb q1 q4
  go_enter Try.func89, Try.ntmps89
  go_wp2
  go_ret2
  exact ⟨rfl, rfl⟩

end Go.Proofs.Ythphmgdmhlimjaa

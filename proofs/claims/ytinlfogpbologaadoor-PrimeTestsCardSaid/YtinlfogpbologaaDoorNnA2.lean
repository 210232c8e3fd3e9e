/- Merged: NnNatE, NnNatF, NnNatG, NnNatH, NnNatI, NnNatJ, NnNatK. -/
import Derived.Test.YtinlfogpbologaaDoorNnA1
import Derived.Test.YtinlfogpbologaaDoorShelf
import Derived.Deep.RegionWith
/- The contract of Add. -/
namespace Go.Proofs.YtinlfogpbologaaDoor
namespace Nn
open Go.RowKit NatMath
set_option linter.unusedVariables false

/-- the number S, or the error that it is too big -/
def BigPost (S : Nat) (n : Nat) (e : Ending) (w' : World) : Prop := (len S ≤ 64 ∧ RetN (fun w' v' => Nt w' v' S ∧ Fr n v') e w') ∨ (¬ len S ≤ 64 ∧ e = errN 9)

/-- the number S, in a block that may be written to, or the error that it is too big -/
def BigPostU (S : Nat) (n : Nat) (e : Ending) (w' : World) : Prop := (len S ≤ 64 ∧ RetN (fun w' v' => NtU w' v' S ∧ Fr n v') e w') ∨ (¬ len S ≤ 64 ∧ e = errN 9)
theorem RetN.old {S n : Nat} {e : Ending} {w' : World} (h : RetN (fun w' v' => NtU w' v' S ∧ Fr n v') e w') : RetN (fun w' v' => Nt w' v' S ∧ Fr n v') e w' := by
  obtain ⟨v, hv, he⟩ := h
  exact ⟨v, Lib.hid ⟨hv.out.1.1, hv.out.2⟩, he⟩
theorem BigPostU.old {S n : Nat} {e : Ending} {w' : World} (h : BigPostU S n e w') : BigPost S n e w' := h.imp (fun h => ⟨h.1, h.2.old⟩) id

theorem Fr.block {n g k c : Nat} (h : n ≤ g) : Fr n (.slice (some ⟨g, 0, none⟩) k c) := by
  intro a k' c' e
  simp at e
  rw [← e.1]; exact h
theorem Fr.same {n : Nat} {v v' : Value} (h : Fr n v) (e : v'.ownBlock = v.ownBlock) : Fr n v' := by
  intro a k c hv
  subst hv
  cases v with
  | slice ao k' c' =>
    cases ao with
    | none => simp [Value.ownBlock] at e
    | some a' => simp [Value.ownBlock] at e; rw [e]; exact h a' _ _ rfl
  | _ => simp [Value.ownBlock] at e

/-- checked, of a block of the call's own -/
theorem checked_ownU (g : Nat) (l : List Nat) (w : World) (h : Own w g l) (hw : words l) (m : Nat) (hm : l.length = m) (hl : m ≤ 9223372036854775807) (n : Nat) (hn : n ≤ g) :
    Calls Tryd.prog 166 #[.slice (some ⟨g, 0, none⟩) m m] w fun e w' =>
      ((len (val l) ≤ 64 ∧ ∃ v : Value, Hid ((∀ W, Own W g l → NtU W v (val l)) ∧ Fr n v) ∧ e = .returned (.tuple #[.agg #[v], .int .i64 0])) ∨ (¬ len (val l) ≤ 64 ∧ e = errN 9)) ∧ Below w.heap.size w w' := by
  subst hm
  have hS := h.sl hw hl
  by_cases hc : len (val l) ≤ 64
  · refine (checked_ok _ l w hS hc).mono ?_
    rintro e w' ⟨⟨v, hv, he⟩, hb⟩
    exact ⟨Or.inl ⟨hc, v, Lib.hid ⟨fun W hW => ⟨hv.out.1 W (hW.sl hw hl), hW.uf hv.out.2⟩, (Fr.block hn).same hv.out.2⟩, he⟩, hb⟩
  · refine (checked_big _ l w hS hc).mono ?_
    rintro e w' ⟨he, hb⟩
    exact ⟨Or.inr ⟨hc, he⟩, hb⟩

theorem add32_dig (X Y k : Nat) (w : World) :
    Calls Tryd.prog 186 #[.int .u32 (dig X k : Nat), .int .u32 (dig Y k : Nat), .int .u32 (car X Y k : Nat)] w fun e w' => e = .returned (.tuple #[.int .u32 (dig (X + Y) k : Nat), .int .u32 (car X Y (k + 1) : Nat)]) ∧ w = w' := by
  rw [dig_add, car_step]
  have h1 := dig_lt X k
  have h2 := dig_lt Y k
  have h3 := car_le X Y k
  exact add32_c _ _ _ w (by omega) (by omega) (by omega)

theorem sum_lt {X Y : Nat} (h : len Y ≤ len X) : X + Y < Bp (len X + 1) := by
  have h1 := lt_Bp_len X
  have h2 := len_le_iff.1 h
  rw [Bp_succ]; omega

end Nn
end Go.Proofs.YtinlfogpbologaaDoor


/- Add and Sub of invalid numbers; bits.Sub32; minus; Sub. -/
namespace Go.Proofs.YtinlfogpbologaaDoor
namespace Nn
open Go.RowKit NatMath
set_option linter.unusedVariables false

/-! ### bits.Sub32 -/

theorem bits_u32 (a b : Nat) (ha : a < 4294967296) (hb : b < 4294967296) :
    bits .and .u32 (a : Int) (b : Int) = ((a &&& b : Nat) : Int) ∧ bits .or .u32 (a : Int) (b : Int) = ((a ||| b : Nat) : Int) ∧ bits .xor .u32 (a : Int) (b : Int) = ((a ^^^ b : Nat) : Int) := by
  have h1 : (BitVec.ofInt 32 (a : Int)).toNat = a := by
    rw [BitVec.ofInt_natCast, BitVec.toNat_ofNat]; exact Nat.mod_eq_of_lt (by omega)
  have h2 : (BitVec.ofInt 32 (b : Int)).toNat = b := by
    rw [BitVec.ofInt_natCast, BitVec.toNat_ofNat]; exact Nat.mod_eq_of_lt (by omega)
  have hx1 : a &&& b < 2 ^ 32 := Nat.and_lt_two_pow _ (by omega)
  have hx2 : a ||| b < 2 ^ 32 := Nat.or_lt_two_pow (by omega) (by omega)
  have hx3 : a ^^^ b < 2 ^ 32 := Nat.xor_lt_two_pow (by omega) (by omega)
  refine ⟨?_, ?_, ?_⟩
  · show IntKind.u32.wrap ((BitVec.ofInt 32 (a : Int) &&& BitVec.ofInt 32 (b : Int)).toNat : Int) = _
    rw [BitVec.toNat_and, h1, h2, IntKind.wrap_u32]; omega
  · show IntKind.u32.wrap ((BitVec.ofInt 32 (a : Int) ||| BitVec.ofInt 32 (b : Int)).toNat : Int) = _
    rw [BitVec.toNat_or, h1, h2, IntKind.wrap_u32]; omega
  · show IntKind.u32.wrap ((BitVec.ofInt 32 (a : Int) ^^^ BitVec.ofInt 32 (b : Int)).toNat : Int) = _
    rw [BitVec.toNat_xor, h1, h2, IntKind.wrap_u32]; omega

theorem top_bit (x y d c : Nat) (hx : x < 4294967296) (hy : y < 4294967296) (hc : c ≤ 1) (hd : d = (x + 8589934592 - y - c) % 4294967296) :
    (((4294967295 ^^^ x) &&& y) ||| ((4294967295 ^^^ (x ^^^ y)) &&& d)) / 2147483648 = if x < y + c then 1 else 0 := by
  have hd2 : d < 4294967296 := by omega
  have e : (((4294967295 ^^^ x) &&& y) ||| ((4294967295 ^^^ (x ^^^ y)) &&& d)) / 2147483648 = ((1 ^^^ x / 2147483648) &&& y / 2147483648) ||| ((1 ^^^ (x / 2147483648 ^^^ y / 2147483648)) &&& d / 2147483648) := by
    have p : ∀ n : Nat, n / 2147483648 = n >>> 31 := fun n => by rw [Nat.shiftRight_eq_div_pow]
    simp only [p, Nat.shiftRight_or_distrib, Nat.shiftRight_and_distrib, Nat.shiftRight_xor_distrib]
    rfl
  rw [e]
  have h1 : x / 2147483648 = 0 ∨ x / 2147483648 = 1 := by omega
  have h2 : y / 2147483648 = 0 ∨ y / 2147483648 = 1 := by omega
  have h3 : d / 2147483648 = 0 ∨ d / 2147483648 = 1 := by omega
  rcases h1 with h1 | h1 <;> rcases h2 with h2 | h2 <;> rcases h3 with h3 | h3 <;> rw [h1, h2, h3] <;> simp <;> omega

set_option maxHeartbeats 400000 in
theorem sub32_c (x y c : Nat) (w : World) (hx : (x : Int) < 4294967296) (hy : (y : Int) < 4294967296) (hc : (c : Int) ≤ 1) :
    Calls Tryd.prog 177 #[.int .u32 x, .int .u32 y, .int .u32 c] w fun e w' => e = .returned (.tuple #[.int .u32 (((x + 8589934592 - y - c) % 4294967296 : Nat) : Int), .int .u32 ((if x < y + c then 1 else 0 : Nat) : Int)]) ∧ w = w' := by
  have hx' : x < 4294967296 := by omega
  have hy' : y < 4294967296 := by omega
  obtain ⟨d, hd⟩ : ∃ d, d = (x + 8589934592 - y - c) % 4294967296 := ⟨_, rfl⟩
  have hd' : d < 4294967296 := by omega
  have e0 : IntKind.u32.wrap ((x : Int) - (y : Int)) = (((x + 4294967296 - y) % 4294967296 : Nat) : Int) := by rw [IntKind.wrap_u32]; omega
  obtain ⟨d0, hd0⟩ : ∃ d0, d0 = (x + 4294967296 - y) % 4294967296 := ⟨_, rfl⟩
  have e1 : IntKind.u32.wrap ((d0 : Int) - (c : Int)) = (d : Int) := by rw [IntKind.wrap_u32]; omega
  rw [← hd0] at e0
  have ht := top_bit x y d c hx' hy' (by omega) hd
  have p1 : 4294967295 ^^^ x < 4294967296 := Nat.xor_lt_two_pow (n := 32) (by omega) (by omega)
  have p2 : x ^^^ y < 4294967296 := Nat.xor_lt_two_pow (n := 32) (by omega) (by omega)
  have p3 : 4294967295 ^^^ (x ^^^ y) < 4294967296 := Nat.xor_lt_two_pow (n := 32) (by omega) (by omega)
  have p4 : (4294967295 ^^^ x) &&& y < 4294967296 := Nat.and_lt_two_pow (n := 32) _ (by omega)
  have p5 : (4294967295 ^^^ (x ^^^ y)) &&& d < 4294967296 := Nat.and_lt_two_pow (n := 32) _ (by omega)
  have q1 := (bits_u32 4294967295 x (by omega) hx').2.2
  have q2 := (bits_u32 _ y p1 hy').1
  have q3 := (bits_u32 x y hx' hy').2.2
  have q4 := (bits_u32 4294967295 _ (by omega) p2).2.2
  have q5 := (bits_u32 _ d p3 hd').1
  have q6 := (bits_u32 _ _ p4 p5).2.1
  rw [← hd, ← ht]
  generalize (4294967295 ^^^ x) &&& y = n4 at *
  generalize (4294967295 ^^^ (x ^^^ y)) &&& d = n5 at *
  generalize n4 ||| n5 = n6 at *
  generalize (4294967295 ^^^ x) = n1 at *
  generalize (4294967295 ^^^ (x ^^^ y)) = n3 at *
  generalize (x ^^^ y) = n2 at *
  obtain ⟨b, hb⟩ : ∃ b, b = n6 / 2147483648 := ⟨_, rfl⟩
  have hb2 : (n6 : Int) / 2147483648 = (b : Int) := by omega
  have q1' : bits .xor .u32 (if IntKind.u32.signed = true then -1 else IntKind.u32.max) (x : Int) = (n1 : Int) := q1
  have q4' : bits .xor .u32 (if IntKind.u32.signed = true then -1 else IntKind.u32.max) (n2 : Int) = (n3 : Int) := q4
  rw [← hb]
  clear hd0 hd ht p1 p2 p3 p4 p5 hd' hx' hy' hb q1 q4
  go_enter Tryd.func177, Tryd.ntmps177
  go_wp2
  go_ret2
  exact ⟨rfl, rfl⟩

end Nn
end Go.Proofs.YtinlfogpbologaaDoor


/- minus and Sub. -/
namespace Go.Proofs.YtinlfogpbologaaDoor
namespace Nn
open Go.RowKit NatMath
set_option linter.unusedVariables false

theorem len_mono {N M : Nat} (h : M ≤ N) : len M ≤ len N := len_le_iff.2 (Nat.lt_of_le_of_lt h (lt_Bp_len N))

theorem sub32_dig (X Y k : Nat) (h : Y ≤ X) (w : World) :
    Calls Tryd.prog 177 #[.int .u32 (dig X k : Nat), .int .u32 (dig Y k : Nat), .int .u32 (bor X Y k : Nat)] w fun e w' => e = .returned (.tuple #[.int .u32 (dig (X - Y) k : Nat), .int .u32 (bor X Y (k + 1) : Nat)]) ∧ w = w' := by
  rw [dig_sub X Y k h, bor_step]
  have h1 := dig_lt X k
  have h2 := dig_lt Y k
  have h3 := bor_le X Y k
  exact sub32_c _ _ _ w (by omega) (by omega) (by omega)

set_option maxHeartbeats 1000000 in
theorem minus_c (a b : Value) (N M : Nat) (w : World) (ha : Nt w a N) (hb : Nt w b M) (h1 : len N ≤ 64) (hl : M ≤ N) :
    Calls Tryd.prog 165 #[a, b] w fun e w' => ∃ g, e = .returned (.slice (some ⟨g, 0, none⟩) (len N) (len N)) ∧ Hid (Own w' g (fill (dig (N - M)) (len N) (len N))) ∧ w.heap.size ≤ g ∧ Below w.heap.size w w' := by
  have HA := Lib.hid ha
  have HB := Lib.hid hb
  obtain ⟨ao, ca, rfl, a1, a2, _⟩ := ha.open
  obtain ⟨bo, cb, rfl, b1, b2, _⟩ := hb.open
  have hlm := len_mono hl
  have HL := Lib.hid hl
  clear ha hb hl
  obtain ⟨g, hg⟩ : ∃ g, w.heap.size = g := ⟨_, rfl⟩
  go_enter Tryd.func165, Tryd.ntmps165
  go_wp2_with (at_make; go_loud (refine wpList_make_words _ rfl _ _ rfl (len N) _ _ rfl rfl rfl rfl (by omega) g hg ?_; intro w3 hO hB))
  have hO0 : Hid (Own w3 g (fill (dig (N - M)) 0 (len N))) := Lib.hid (by rw [fill_zero]; exact hO)
  have BW : Hid (Below g w w3) := Lib.hid hB
  clear hO hB
  go_loopw [15, 6] (fun s15 s6 wr => ∃ k : Nat, s15 = .int .i64 (k : Int) ∧ s6 = .int .u32 (bor N M k : Nat) ∧ k ≤ len N ∧ Hid (Own wr g (fill (dig (N - M)) k (len N))) ∧ Hid (Below g w wr)) (fun s15 _ _ => (len N - RowKit.intOf s15).toNat)
  case atStart => exact ⟨0, rfl, by rw [bor_zero]; rfl, Nat.zero_le _, hO0, BW⟩
  case round =>
    obtain ⟨k, rfl, rfl, hk, hO, hB⟩ := hrel
    have hgr : g < wr.heap.size := hO.out.lt
    have hBW : Hid (Below w.heap.size w wr) := Lib.hid (by rw [hg]; exact hB.out)
    by_cases h0 : k = len N
    · have ht : decide (k < len N) = false := decide_eq_false (by omega)
      subst h0
      go_wp2
      go_ret
      exact ⟨g, rfl, hO, by omega, hBW.out⟩
    · have ht : decide (k < len N) = true := decide_eq_true (by omega)
      have hkx : k < len N := by omega
      have hx0 : N ≠ 0 := fun e => by rw [e, len_zero] at hkx; omega
      obtain ⟨ao', cx', ex, _, _, hx⟩ := (HA.out.below' hBW.out).open
      obtain ⟨rfl, rfl⟩ : ao' = ao ∧ cx' = ca := by simp at ex; exact ⟨ex.1.symm, ex.2.symm⟩
      obtain ⟨bx, offx, rfl, hbx, hcx⟩ := hx hx0
      have hcx1 := hcx k hkx
      have hfr := hO.out.frozen k
      have hcell := hO.out.cell (i := k) (by rw [fill_length]; omega)
      have HO2 := hO.out.set k (dig (N - M) k)
      rw [fill_set _ (by omega)] at HO2
      have HO3 := Lib.hid HO2
      have cc := sub32_dig N M k HL.out
      clear hcx ex HO2
      by_cases hy : k < len M
      · have hty : decide (k < len M) = true := decide_eq_true hy
        have hy0 : M ≠ 0 := fun e => by rw [e, len_zero] at hy; omega
        obtain ⟨bo', cy', ey, _, _, hyy⟩ := (HB.out.below' hBW.out).open
        obtain ⟨rfl, rfl⟩ : bo' = bo ∧ cy' = cb := by simp at ey; exact ⟨ey.1.symm, ey.2.symm⟩
        obtain ⟨by0, offy, rfl, hby, hcy⟩ := hyy hy0
        have hcy1 := hcy k hy
        have CC := Lib.hid cc
        clear hcy ey cc
        go_wp2_with fail
        refine (CC.out _).mono ?_; rintro e w' ⟨rfl, rfl⟩
        go_wp2
        go_roundw
        case rel => exact ⟨k + 1, rfl, rfl, by omega, HO3, Lib.hid (hB.out.setCell (Nat.le_refl _) _)⟩
        case measure => simp [RowKit.intOf]; omega
      · have hty : decide (k < len M) = false := decide_eq_false hy
        rw [dig_above (show len M ≤ k by omega)] at cc
        have CC := Lib.hid cc
        clear cc
        go_wp2_with fail
        refine (CC.out _).mono ?_; rintro e w' ⟨rfl, rfl⟩
        go_wp2
        go_roundw
        case rel => exact ⟨k + 1, rfl, rfl, by omega, HO3, Lib.hid (hB.out.setCell (Nat.le_refl _) _)⟩
        case measure => simp [RowKit.intOf]; omega

/-- trimmed, of a block of the call's own -/
theorem trimmed_own (g : Nat) (l : List Nat) (w : World) (h : Own w g l) (hw : words l) (m : Nat) (hm : l.length = m) (hl : m ≤ 9223372036854775807) (n : Nat) (hn : n ≤ g) :
    Calls Tryd.prog 162 #[.slice (some ⟨g, 0, none⟩) m m] w fun e w' => (∃ v : Value, Hid ((∀ W, Own W g l → Nt W v (val l)) ∧ Fr n v) ∧ e = .returned (.agg #[v])) ∧ Below w.heap.size w w' := by
  subst hm
  refine (trimmed_c _ l w (h.sl hw hl)).mono ?_
  rintro e w' ⟨⟨v, hv, he⟩, hb⟩
  exact ⟨⟨v, Lib.hid ⟨fun W hW => hv.out.1 W (hW.sl hw hl), (Fr.block hn).same hv.out.2⟩, he⟩, hb⟩

/-- trimmed, of a block of the call's own -/
theorem trimmed_ownU (g : Nat) (l : List Nat) (w : World) (h : Own w g l) (hw : words l) (m : Nat) (hm : l.length = m) (hl : m ≤ 9223372036854775807) (n : Nat) (hn : n ≤ g) :
    Calls Tryd.prog 162 #[.slice (some ⟨g, 0, none⟩) m m] w fun e w' => (∃ v : Value, Hid ((∀ W, Own W g l → NtU W v (val l)) ∧ Fr n v) ∧ e = .returned (.agg #[v])) ∧ Below w.heap.size w w' := by
  subst hm
  refine (trimmed_c _ l w (h.sl hw hl)).mono ?_
  rintro e w' ⟨⟨v, hv, he⟩, hb⟩
  exact ⟨⟨v, Lib.hid ⟨fun W hW => ⟨hv.out.1 W (hW.sl hw hl), hW.uf hv.out.2⟩, (Fr.block hn).same hv.out.2⟩, he⟩, hb⟩

set_option maxRecDepth 100000 in
set_option maxHeartbeats 2000000 in
theorem Sub_okU (a b : Value) (N M : Nat) (w : World) (ha : Nt w a N) (hb : Nt w b M) (h1 : len N ≤ 64) (h2 : len M ≤ 64) (hl : M ≤ N) :
    Calls Tryd.prog 147 #[.agg #[a], .agg #[b]] w fun e w' => RetN (fun w' v' => NtU w' v' (N - M) ∧ Fr w.heap.size v') e w' ∧ Below w.heap.size w w' := by
  have c1 := fun w h => Valid_c a (digs N) w h
  have c2 := fun w h => Valid_c b (digs M) w h
  have c3 := fun w h1 h2 => compare_c a b N M w h1 h2
  have c4 := fun w ha hb => minus_c a b N M w ha hb h1 hl
  rw [vld_digs, decide_eq_true h1] at c1
  rw [vld_digs, decide_eq_true h2] at c2
  have C1 := Lib.hid c1
  have C2 := Lib.hid c2
  have C3 := Lib.hid c3
  have C4 := Lib.hid c4
  have HA := Lib.hid ha
  have HB := Lib.hid hb
  have hcmp : decide (cmp N M < 0) = false := decide_eq_false (by unfold cmp; rw [if_neg (by omega)]; split <;> omega)
  have hS : N - M < Bp (len N) := Nat.lt_of_le_of_lt (Nat.sub_le _ _) (lt_Bp_len N)
  have HS := Lib.hid hS
  have HN64 := Lib.hid h1
  clear c1 c2 c3 c4 ha hb h1 h2 hl hS
  generalize cmp N M = R at *
  go_enter Tryd.func147, Tryd.ntmps147
  go_wp2_with fail
  refine (C1.out _ (HA.out.below' (below_three _ _ _ _))).mono ?_; rintro e w1 ⟨rfl, hb1⟩
  have z1 : w.heap.size + 2 < w1.heap.size := by have := hb1.size; simp at this; omega
  have B1 : Hid (Below w.heap.size w w1) := Lib.hid ((below_three _ _ _ _).trans (hb1.mono (by simp; omega)))
  obtain ⟨x1, x2, x3, x4⟩ := box3 w a b (.slice none 0 0) 96 96 96
  have f1 := (hb1.cell (p := ⟨w.heap.size, 0, none⟩) (by simp; omega)).trans x1
  have f2 := (hb1.cell (p := ⟨w.heap.size + 1, 0, none⟩) (by simp)).trans x2
  have f3 := (hb1.cell (p := ⟨w.heap.size + 1 + 1, 0, none⟩) (by simp)).trans x3
  have f4 := (hb1.frozen (p := ⟨w.heap.size + 1 + 1, 0, none⟩) (by simp)).trans x4
  clear x1 x2 x3 x4 hb1
  go_wp2_with fail
  refine (C2.out _ (HB.out.below' B1.out)).mono ?_; rintro e w2 ⟨rfl, hb2⟩
  have z2 : w.heap.size + 2 < w2.heap.size := by have := hb2.size; omega
  have B2 : Hid (Below w.heap.size w w2) := Lib.hid (B1.out.trans (hb2.mono (by omega)))
  have g1 := (hb2.cell (p := ⟨w.heap.size, 0, none⟩) (by dsimp only; omega)).trans f1
  have g2 := (hb2.cell (p := ⟨w.heap.size + 1, 0, none⟩) (by dsimp only; omega)).trans f2
  have g3 := (hb2.cell (p := ⟨w.heap.size + 1 + 1, 0, none⟩) (by dsimp only; omega)).trans f3
  have g4 := (hb2.frozen (p := ⟨w.heap.size + 1 + 1, 0, none⟩) (by dsimp only; omega)).trans f4
  clear hb2 f1 f2 f3 f4 z1 B1 C1 C2
  go_wp2_with fail
  refine (C3.out _ (HA.out.below' B2.out) (HB.out.below' B2.out)).mono ?_; rintro e w3 ⟨rfl, hq⟩
  have hb3 := hq.below w2.heap.size
  have z3 : w.heap.size + 2 < w3.heap.size := by have := hb3.size; omega
  have B3 : Hid (Below w.heap.size w w3) := Lib.hid (B2.out.trans (hb3.mono (by omega)))
  have f1 := (hb3.cell (p := ⟨w.heap.size, 0, none⟩) (by dsimp only; omega)).trans g1
  have f2 := (hb3.cell (p := ⟨w.heap.size + 1, 0, none⟩) (by dsimp only; omega)).trans g2
  have f3 := (hb3.cell (p := ⟨w.heap.size + 1 + 1, 0, none⟩) (by dsimp only; omega)).trans g3
  have f4 := (hb3.frozen (p := ⟨w.heap.size + 1 + 1, 0, none⟩) (by dsimp only; omega)).trans g4
  clear hb3 hq g1 g2 g3 g4 z2 B2 C3
  go_wp2_with fail
  refine (C4.out _ (HA.out.below' B3.out) (HB.out.below' B3.out)).mono ?_; rintro e w4 ⟨g, rfl, hO, hg, hb4⟩
  have z4 : w.heap.size + 2 < w4.heap.size := by have := hb4.size; omega
  have B4 : Hid (Below w.heap.size w w4) := Lib.hid (B3.out.trans (hb4.mono (by omega)))
  have q3 := (hb4.cell (p := ⟨w.heap.size + 1 + 1, 0, none⟩) (by dsimp only; omega)).trans f3
  have q4 := (hb4.frozen (p := ⟨w.heap.size + 1 + 1, 0, none⟩) (by dsimp only; omega)).trans f4
  clear hb4 f1 f2 f3 f4 C4
  go_wp2_with fail
  have ct := trimmed_ownU g _ w4 hO.out (fill_words (dig_lt _)) _ (fill_length _ _ _) (by have := HN64.out; omega) w.heap.size (by omega)
  rw [fill_val HS.out] at ct
  refine ct.mono ?_; rintro e w5 ⟨⟨v5, hv5, rfl⟩, hb5⟩
  have z5 : w.heap.size + 1 + 1 < w5.heap.size := by have := hb5.size; omega
  have B5 : Hid (Below w.heap.size w w5) := Lib.hid (B4.out.trans (hb5.mono (by omega)))
  have r3 := (hb5.cell (p := ⟨w.heap.size + 1 + 1, 0, none⟩) (by dsimp only; omega)).trans q3
  have r4 := (hb5.frozen (p := ⟨w.heap.size + 1 + 1, 0, none⟩) (by dsimp only; omega)).trans q4
  have hne : w.heap.size + 1 + 1 ≠ g := by omega
  have hN : ∀ Y : Value, NtU (w5.setCell ⟨w.heap.size + 1 + 1, 0, none⟩ Y) v5 (N - M) := fun Y => hv5.out.1 _ ((hO.out.below' hb5).setOther hne Y)
  obtain ⟨a5, c5, rfl, _⟩ := (hN (.slice none 0 0)).open
  have HN := Lib.hid hN
  have HF := Lib.hid hv5.out.2
  clear hv5 hN hb5 q3 q4 ct
  go_wp2
  exact bodyPost_ret (v := .tuple #[.agg #[.slice a5 (len (N - M)) c5], .int .i64 0]) (by simp [results, Tryd.results147, go_sem, r3]) rfl ⟨⟨_, Lib.hid ⟨HN.out _, HF.out⟩, rfl⟩, B5.out.setCell (by dsimp only; omega) _⟩

theorem Sub_ok (a b : Value) (N M : Nat) (w : World) (ha : Nt w a N) (hb : Nt w b M) (h1 : len N ≤ 64) (h2 : len M ≤ 64) (hl : M ≤ N) :
    Calls Tryd.prog 147 #[.agg #[a], .agg #[b]] w fun e w' => RetN (fun w' v' => Nt w' v' (N - M) ∧ Fr w.heap.size v') e w' ∧ Below w.heap.size w w' :=
  (Sub_okU a b N M w ha hb h1 h2 hl).mono fun _ _ h => ⟨h.1.old, h.2⟩

set_option maxRecDepth 100000 in
set_option maxHeartbeats 2000000 in
theorem Sub_range (a b : Value) (N M : Nat) (w : World) (ha : Nt w a N) (hb : Nt w b M) (h1 : len N ≤ 64) (h2 : len M ≤ 64) (hl : N < M) :
    Calls Tryd.prog 147 #[.agg #[a], .agg #[b]] w fun e w' => e = errN 2 ∧ Below w.heap.size w w' := by
  have c1 := fun w h => Valid_c a (digs N) w h
  have c2 := fun w h => Valid_c b (digs M) w h
  have c3 := fun w h1 h2 => compare_c a b N M w h1 h2
  rw [vld_digs, decide_eq_true h1] at c1
  rw [vld_digs, decide_eq_true h2] at c2
  have C1 := Lib.hid c1
  have C2 := Lib.hid c2
  have C3 := Lib.hid c3
  have HA := Lib.hid ha
  have HB := Lib.hid hb
  have hcmp : decide (cmp N M < 0) = true := decide_eq_true (by unfold cmp; rw [if_pos hl]; omega)
  clear c1 c2 c3 ha hb h1 h2 hl
  generalize cmp N M = R at *
  go_enter Tryd.func147, Tryd.ntmps147
  go_wp2_with fail
  refine (C1.out _ (HA.out.below' (below_three _ _ _ _))).mono ?_; rintro e w1 ⟨rfl, hb1⟩
  have z1 : w.heap.size + 2 < w1.heap.size := by have := hb1.size; simp at this; omega
  have B1 : Hid (Below w.heap.size w w1) := Lib.hid ((below_three _ _ _ _).trans (hb1.mono (by simp; omega)))
  obtain ⟨x1, x2, x3, x4⟩ := box3 w a b (.slice none 0 0) 96 96 96
  have f1 := (hb1.cell (p := ⟨w.heap.size, 0, none⟩) (by simp; omega)).trans x1
  have f2 := (hb1.cell (p := ⟨w.heap.size + 1, 0, none⟩) (by simp)).trans x2
  have f3 := (hb1.cell (p := ⟨w.heap.size + 1 + 1, 0, none⟩) (by simp)).trans x3
  have f4 := (hb1.frozen (p := ⟨w.heap.size + 1 + 1, 0, none⟩) (by simp)).trans x4
  clear x1 x2 x3 x4 hb1
  go_wp2_with fail
  refine (C2.out _ (HB.out.below' B1.out)).mono ?_; rintro e w2 ⟨rfl, hb2⟩
  have z2 : w.heap.size + 2 < w2.heap.size := by have := hb2.size; omega
  have B2 : Hid (Below w.heap.size w w2) := Lib.hid (B1.out.trans (hb2.mono (by omega)))
  have g1 := (hb2.cell (p := ⟨w.heap.size, 0, none⟩) (by dsimp only; omega)).trans f1
  have g2 := (hb2.cell (p := ⟨w.heap.size + 1, 0, none⟩) (by dsimp only; omega)).trans f2
  have g3 := (hb2.cell (p := ⟨w.heap.size + 1 + 1, 0, none⟩) (by dsimp only; omega)).trans f3
  have g4 := (hb2.frozen (p := ⟨w.heap.size + 1 + 1, 0, none⟩) (by dsimp only; omega)).trans f4
  clear hb2 f1 f2 f3 f4 z1 B1 C1 C2
  go_wp2_with fail
  refine (C3.out _ (HA.out.below' B2.out) (HB.out.below' B2.out)).mono ?_; rintro e w3 ⟨rfl, hq⟩
  have hb3 := hq.below w2.heap.size
  have z3 : w.heap.size + 2 < w3.heap.size := by have := hb3.size; omega
  have B3 : Hid (Below w.heap.size w w3) := Lib.hid (B2.out.trans (hb3.mono (by omega)))
  have f1 := (hb3.cell (p := ⟨w.heap.size, 0, none⟩) (by dsimp only; omega)).trans g1
  have f2 := (hb3.cell (p := ⟨w.heap.size + 1, 0, none⟩) (by dsimp only; omega)).trans g2
  have f3 := (hb3.cell (p := ⟨w.heap.size + 1 + 1, 0, none⟩) (by dsimp only; omega)).trans g3
  have f4 := (hb3.frozen (p := ⟨w.heap.size + 1 + 1, 0, none⟩) (by dsimp only; omega)).trans g4
  clear hb3 hq g1 g2 g3 g4 z2 B2 C3
  go_wp2
  exact bodyPost_ret (v := .tuple #[.agg #[.slice none 0 0], .int .i64 2]) (by simp [results, Tryd.results147, go_sem, f3]) rfl ⟨rfl, B3.out.setCell (by dsimp only; omega) _⟩

set_option maxRecDepth 100000 in
set_option maxHeartbeats 1000000 in
theorem Sub_bad (a b : Value) (la lb : List Nat) (w : World) (ha : Sl w a la) (hb : Sl w b lb) (h : vld la = false ∨ vld lb = false) :
    Calls Tryd.prog 147 #[.agg #[a], .agg #[b]] w fun e w' => e = errN 1 ∧ Below w.heap.size w w' := by
  have c1 := fun w h => Valid_c a la w h
  have c2 := fun w h => Valid_c b lb w h
  have HA := Lib.hid ha
  have HB := Lib.hid hb
  by_cases k : vld la = false
  · rw [k] at c1
    have C1 := Lib.hid c1
    clear c1 c2 ha hb h k
    go_enter Tryd.func147, Tryd.ntmps147
    go_wp2_with fail
    refine (C1.out _ (HA.out.below' (below_three _ _ _ _))).mono ?_; rintro e w1 ⟨rfl, hb1⟩
    have z1 : w.heap.size + 1 + 1 < w1.heap.size := by have := hb1.size; simp at this; omega
    have B1 : Hid (Below w.heap.size w w1) := Lib.hid ((below_three _ _ _ _).trans (hb1.mono (by simp; omega)))
    obtain ⟨x1, x2, x3, x4⟩ := box3 w a b (.slice none 0 0) 96 96 96
    have f3 := (hb1.cell (p := ⟨w.heap.size + 1 + 1, 0, none⟩) (by simp)).trans x3
    have f4 := (hb1.frozen (p := ⟨w.heap.size + 1 + 1, 0, none⟩) (by simp)).trans x4
    clear x1 x2 x3 x4 hb1
    go_wp2
    exact bodyPost_ret (v := .tuple #[.agg #[.slice none 0 0], .int .i64 1]) (by simp [results, Tryd.results147, go_sem, f3]) rfl ⟨rfl, B1.out.setCell (by dsimp only; omega) _⟩
  · have k2 : vld lb = false := by simpa [k] using h
    have k1 : vld la = true := by simpa using k
    rw [k1] at c1
    rw [k2] at c2
    have C1 := Lib.hid c1
    have C2 := Lib.hid c2
    clear c1 c2 ha hb h k k1 k2
    go_enter Tryd.func147, Tryd.ntmps147
    go_wp2_with fail
    refine (C1.out _ (HA.out.below' (below_three _ _ _ _))).mono ?_; rintro e w1 ⟨rfl, hb1⟩
    have z1 : w.heap.size + 1 + 1 < w1.heap.size := by have := hb1.size; simp at this; omega
    have B1 : Hid (Below w.heap.size w w1) := Lib.hid ((below_three _ _ _ _).trans (hb1.mono (by simp; omega)))
    obtain ⟨x1, x2, x3, x4⟩ := box3 w a b (.slice none 0 0) 96 96 96
    have f2 := (hb1.cell (p := ⟨w.heap.size + 1, 0, none⟩) (by simp)).trans x2
    have f3 := (hb1.cell (p := ⟨w.heap.size + 1 + 1, 0, none⟩) (by simp)).trans x3
    have f4 := (hb1.frozen (p := ⟨w.heap.size + 1 + 1, 0, none⟩) (by simp)).trans x4
    clear x1 x2 x3 x4 hb1
    go_wp2_with fail
    refine (C2.out _ (HB.out.below' B1.out)).mono ?_; rintro e w2 ⟨rfl, hb2⟩
    have z2 : w.heap.size + 1 + 1 < w2.heap.size := by have := hb2.size; omega
    have B2 : Hid (Below w.heap.size w w2) := Lib.hid (B1.out.trans (hb2.mono (by omega)))
    have g3 := (hb2.cell (p := ⟨w.heap.size + 1 + 1, 0, none⟩) (by dsimp only; omega)).trans f3
    have g4 := (hb2.frozen (p := ⟨w.heap.size + 1 + 1, 0, none⟩) (by dsimp only; omega)).trans f4
    clear hb2 f2 f3 f4
    go_wp2
    exact bodyPost_ret (v := .tuple #[.agg #[.slice none 0 0], .int .i64 1]) (by simp [results, Tryd.results147, go_sem, g3]) rfl ⟨rfl, B2.out.setCell (by dsimp only; omega) _⟩
end Nn
end Go.Proofs.YtinlfogpbologaaDoor


/- Mul. -/
namespace Go.Proofs.YtinlfogpbologaaDoor
namespace Nn
open Go.RowKit NatMath
set_option linter.unusedVariables false

set_option maxRecDepth 100000 in
set_option maxHeartbeats 2000000 in
theorem Mul_okU (a b : Value) (N M : Nat) (w : World) (ha : Nt w a N) (hb : Nt w b M) (h1 : len N ≤ 64) (h2 : len M ≤ 64) :
    Calls Tryd.prog 148 #[.agg #[a], .agg #[b]] w fun e w' => BigPostU (N * M) w.heap.size e w' ∧ Below w.heap.size w w' := by
  have c1 := fun w h => Valid_c a (digs N) w h
  have c2 := fun w h => Valid_c b (digs M) w h
  rw [vld_digs, decide_eq_true h1] at c1
  rw [vld_digs, decide_eq_true h2] at c2
  have C1 := Lib.hid c1
  have C2 := Lib.hid c2
  have HA := Lib.hid ha
  have HB := Lib.hid hb
  have HN64 := Lib.hid h1
  have HM64 := Lib.hid h2
  clear c1 c2 ha hb h1 h2
  go_enter Tryd.func148, Tryd.ntmps148
  go_wp2_with fail
  refine (C1.out _ (HA.out.below' (below_three _ _ _ _))).mono ?_; rintro e w1 ⟨rfl, hb1⟩
  have z1 : w.heap.size + 2 < w1.heap.size := by have := hb1.size; simp at this; omega
  have B1 : Hid (Below w.heap.size w w1) := Lib.hid ((below_three _ _ _ _).trans (hb1.mono (by simp; omega)))
  obtain ⟨x1, x2, x3, x4⟩ := box3 w a b (.slice none 0 0) 96 96 96
  have f1 := (hb1.cell (p := ⟨w.heap.size, 0, none⟩) (by simp; omega)).trans x1
  have f2 := (hb1.cell (p := ⟨w.heap.size + 1, 0, none⟩) (by simp)).trans x2
  have f3 := (hb1.cell (p := ⟨w.heap.size + 1 + 1, 0, none⟩) (by simp)).trans x3
  have f4 := (hb1.frozen (p := ⟨w.heap.size + 1 + 1, 0, none⟩) (by simp)).trans x4
  clear x1 x2 x3 x4 hb1
  go_wp2_with fail
  refine (C2.out _ (HB.out.below' B1.out)).mono ?_; rintro e w2 ⟨rfl, hb2⟩
  have z2 : w.heap.size + 2 < w2.heap.size := by have := hb2.size; omega
  have B2 : Hid (Below w.heap.size w w2) := Lib.hid (B1.out.trans (hb2.mono (by omega)))
  have g1 := (hb2.cell (p := ⟨w.heap.size, 0, none⟩) (by dsimp only; omega)).trans f1
  have g2 := (hb2.cell (p := ⟨w.heap.size + 1, 0, none⟩) (by dsimp only; omega)).trans f2
  have g3 := (hb2.cell (p := ⟨w.heap.size + 1 + 1, 0, none⟩) (by dsimp only; omega)).trans f3
  have g4 := (hb2.frozen (p := ⟨w.heap.size + 1 + 1, 0, none⟩) (by dsimp only; omega)).trans f4
  clear hb2 f1 f2 f3 f4 z1 B1 C1 C2
  have z3 : w.heap.size + 2 < w2.heap.size := z2
  have q1 := Lib.hid g1
  have q2 := Lib.hid g2
  have q3 := Lib.hid g3
  have q4 := Lib.hid g4
  obtain ⟨ao, ca, rfl, a1, a2, _⟩ := HA.out.open
  obtain ⟨bo, cb, rfl, b1, b2, _⟩ := HB.out.open
  have l1 : (len N : Int) ≤ 64 := by have := HN64.out; omega
  have l2 : (len M : Int) ≤ 64 := by have := HM64.out; omega
  obtain ⟨g, hg⟩ : ∃ g, w2.heap.size = g := ⟨_, rfl⟩
  go_wp2_with (at_make; go_loud (refine wpList_make_words _ rfl _ _ rfl (len N + len M) _ _ rfl rfl rfl rfl (by omega) g hg ?_; intro w3 hO hB; have k1 := (hB.cell (p := ⟨w.heap.size, 0, none⟩) (by dsimp only; omega)).trans q1.out))
  have BW : Hid (Below g w2 w3) := Lib.hid hB
  have HO : Hid (Own w3 g (List.replicate (len N + len M) 0)) := Lib.hid hO
  clear hO hB g1 g2 g3 g4
  go_loopw [33] (fun s33 wr => ∃ i : Nat, s33 = .int .i64 (i : Int) ∧ i ≤ len N ∧ (∃ l, Hid (Own wr g l) ∧ Hid (MulO N M i l)) ∧ Hid (Below g w2 wr)) (fun s33 _ => (len N - RowKit.intOf s33).toNat)
  case atStart => exact ⟨0, rfl, Nat.zero_le _, ⟨_, HO, Lib.hid (MulO.zero N M)⟩, BW⟩
  case round =>
    obtain ⟨i, rfl, hi, ⟨l, hO, hP⟩, hB⟩ := hrel
    have hgr : g < wr.heap.size := hO.out.lt
    have hBW : Hid (Below w.heap.size w wr) := Lib.hid (B2.out.trans (hB.out.mono (by omega)))
    by_cases h0 : i = len N
    · have ht : decide (i < len N) = false := decide_eq_false (by omega)
      subst h0
      go_wp2_with fail
      obtain ⟨p1, p2, p3⟩ := hP.out.done
      have ck := checked_ownU g l _ hO.out p2 _ p1 (by omega) w.heap.size (by omega)
      rw [p3] at ck
      refine ck.mono ?_; rintro e w5 ⟨h5, hb5⟩
      have z5 : w.heap.size + 1 + 1 < w5.heap.size := by have := hb5.size; omega
      have B5 : Hid (Below w.heap.size w w5) := Lib.hid (hBW.out.trans (hb5.mono (by omega)))
      have hBg : Below g w2 w5 := hB.out.trans (hb5.mono (by omega))
      have r3 := (hBg.cell (p := ⟨w.heap.size + 1 + 1, 0, none⟩) (by dsimp only; omega)).trans q3.out
      have r4 := (hBg.frozen (p := ⟨w.heap.size + 1 + 1, 0, none⟩) (by dsimp only; omega)).trans q4.out
      have hne : w.heap.size + 1 + 1 ≠ g := by omega
      have HO5 := Lib.hid (hO.out.below' hb5)
      clear ck p1 p2 p3 hb5 hBg
      rcases h5 with ⟨hl5, v5, hv5, rfl⟩ | ⟨hl5, rfl⟩
      · have hN : ∀ Y : Value, NtU (w5.setCell ⟨w.heap.size + 1 + 1, 0, none⟩ Y) v5 (N * M) := fun Y => hv5.out.1 _ (HO5.out.setOther hne Y)
        obtain ⟨a5, c5, rfl, _⟩ := (hN (.slice none 0 0)).open
        have HN := Lib.hid hN
        have HF := Lib.hid hv5.out.2
        clear hv5 hN
        go_wp2
        exact bodyPost_ret (v := .tuple #[.agg #[.slice a5 (len (N * M)) c5], .int .i64 0]) (by simp [results, Tryd.results148, go_sem, r3]) rfl ⟨Or.inl ⟨hl5, _, Lib.hid ⟨HN.out _, HF.out⟩, rfl⟩, B5.out.setCell (by dsimp only; omega) _⟩
      · unfold errN
        go_wp2
        exact bodyPost_ret (v := .tuple #[.agg #[.slice none 0 0], .int .i64 9]) (by simp [results, Tryd.results148, go_sem, r3]) rfl ⟨Or.inr ⟨hl5, rfl⟩, B5.out.setCell (by dsimp only; omega) _⟩
    · have ht : decide (i < len N) = true := decide_eq_true (by omega)
      have hix : i < len N := by omega
      have hx0 : N ≠ 0 := fun e => by rw [e, len_zero] at hix; omega
      obtain ⟨ao', cx', ex, _, _, hx⟩ := (HA.out.below' hBW.out).open
      obtain ⟨rfl, rfl⟩ : ao' = ao ∧ cx' = ca := by simp at ex; exact ⟨ex.1.symm, ex.2.symm⟩
      obtain ⟨bx, offx, rfl, hbx, hcx⟩ := hx hx0
      have hcx1 := hcx i hix
      have k2 := (hB.out.cell (p := ⟨w.heap.size + 1, 0, none⟩) (by dsimp only; omega)).trans q2.out
      have hP0 := Lib.hid hP.out.row
      have xb := dig_lt N i
      obtain ⟨x, hx'⟩ : ∃ x, x = dig N i := ⟨_, rfl⟩
      rw [← hx'] at hcx1 xb
      have hX := Lib.hid hx'
      clear hcx ex hx' hx
      go_wp2
      go_loopw [41, 9] (fun s41 s9 wr => ∃ k c : Nat, s41 = .int .i64 (k : Int) ∧ s9 = .int .u64 (c : Int) ∧ k ≤ len M ∧ (∃ l, Hid (Own wr g l) ∧ Hid (MulI N M i k c l)) ∧ Hid (Below g w2 wr)) (fun s41 _ _ => (len M - RowKit.intOf s41).toNat)
      case atStart => exact ⟨0, 0, rfl, rfl, Nat.zero_le _, ⟨_, hO, hP0⟩, hB⟩
      case round =>
        obtain ⟨k, c, rfl, rfl, hk, ⟨l2, hO2, hP2⟩, hB2⟩ := hrel
        have hgr2 : g < wr.heap.size := hO2.out.lt
        have hBW2 : Hid (Below w.heap.size w wr) := Lib.hid (B2.out.trans (hB2.out.mono (by omega)))
        have hlen := hP2.out.1
        have hc32 := hP2.out.2.2.1
        by_cases k0 : k = len M
        · have ht2 : decide (k < len M) = false := decide_eq_false (by omega)
          subst k0
          have hP3 := hP2.out.done hix
          have hfr := hO2.out.frozen (i + len M)
          have hcell := hO2.out.cell (i := i + len M) (by rw [hlen]; omega)
          have k3 := (hB2.out.cell (p := ⟨w.heap.size + 1, 0, none⟩) (by dsimp only; omega)).trans q2.out
          have hO3 := Lib.hid (hO2.out.set (i + len M) c)
          have HP3 := Lib.hid hP3
          have hidx : i + len M < len N + len M := by omega
          clear hP3 hlen
          go_wp2
          go_roundw
          case rel => exact ⟨i + 1, rfl, by omega, ⟨_, hO3, HP3⟩, Lib.hid (hB2.out.setCell (Nat.le_refl _) _)⟩
          case measure => simp [RowKit.intOf]; omega
        · have ht2 : decide (k < len M) = true := decide_eq_true (by omega)
          have hkx : k < len M := by omega
          have hy0 : M ≠ 0 := fun e => by rw [e, len_zero] at hkx; omega
          obtain ⟨bo', cy', ey, _, _, hyy⟩ := (HB.out.below' hBW2.out).open
          obtain ⟨rfl, rfl⟩ : bo' = bo ∧ cy' = cb := by simp at ey; exact ⟨ey.1.symm, ey.2.symm⟩
          obtain ⟨by0, offy, rfl, hby, hcy⟩ := hyy hy0
          have hcy1 := hcy k hkx
          have hfr := hO2.out.frozen (i + k)
          have hcell := hO2.out.cell (i := i + k) (by rw [hlen]; omega)
          have hob := getD_lt hP2.out.2.1 (i + k)
          have hyb := dig_lt M k
          obtain ⟨t, htt⟩ : ∃ t, t = dig N i * dig M k + l2.getD (i + k) 0 + c := ⟨_, rfl⟩
          obtain ⟨htb, hP3⟩ := hP2.out.step hkx hix htt
          have HP3 := Lib.hid hP3
          have hO3 := Lib.hid (hO2.out.set (i + k) (t % 4294967296))
          rw [← hX.out] at htt
          obtain ⟨y, hy'⟩ : ∃ y, y = dig M k := ⟨_, rfl⟩
          obtain ⟨o, ho'⟩ : ∃ o, o = l2.getD (i + k) 0 := ⟨_, rfl⟩
          rw [← hy'] at htt hyb hcy1
          rw [← ho'] at htt hob hcell
          obtain ⟨p, hp⟩ : ∃ p, p = x * y := ⟨_, rfl⟩
          rw [← hp] at htt
          obtain ⟨sm, hsm⟩ : ∃ sm, sm = p + o := ⟨_, rfl⟩
          obtain ⟨q, hq⟩ : ∃ q, q = t / 4294967296 := ⟨_, rfl⟩
          obtain ⟨r, hr⟩ : ∃ r, r = t % 4294967296 := ⟨_, rfl⟩
          rw [← hq, ← hr] at HP3
          rw [← hr] at hO3
          have e1 : IntKind.u64.wrap ((x : Int) * (y : Int)) = (p : Int) := by rw [IntKind.wrap_u64, hp, ← Int.natCast_mul]; omega
          have e2 : IntKind.u64.wrap ((p : Int) + (o : Int)) = (sm : Int) := by rw [IntKind.wrap_u64]; omega
          have e3 : IntKind.u64.wrap ((sm : Int) + (c : Int)) = (t : Int) := by rw [IntKind.wrap_u64]; omega
          have e4 : IntKind.u32.wrap (t : Int) = (r : Int) := by rw [IntKind.wrap_u32]; omega
          have e5 : (t : Int) / 4294967296 = (q : Int) := by omega
          have hidx : i + k < len N + len M := by omega
          clear hcy ey hP3 hlen hp hsm hq hr hy' ho' htb htt hyy
          go_wp2
          go_roundw
          case rel => exact ⟨k + 1, q, rfl, rfl, by omega, ⟨_, hO3, HP3⟩, Lib.hid (hB2.out.setCell (Nat.le_refl _) _)⟩
          case measure => simp [RowKit.intOf]; omega

theorem Mul_ok (a b : Value) (N M : Nat) (w : World) (ha : Nt w a N) (hb : Nt w b M) (h1 : len N ≤ 64) (h2 : len M ≤ 64) :
    Calls Tryd.prog 148 #[.agg #[a], .agg #[b]] w fun e w' => BigPost (N * M) w.heap.size e w' ∧ Below w.heap.size w w' :=
  (Mul_okU a b N M w ha hb h1 h2).mono fun _ _ h => ⟨h.1.old, h.2⟩

set_option maxRecDepth 100000 in
set_option maxHeartbeats 1000000 in
theorem Mul_bad (a b : Value) (la lb : List Nat) (w : World) (ha : Sl w a la) (hb : Sl w b lb) (h : vld la = false ∨ vld lb = false) :
    Calls Tryd.prog 148 #[.agg #[a], .agg #[b]] w fun e w' => e = errN 1 ∧ Below w.heap.size w w' := by
  have c1 := fun w h => Valid_c a la w h
  have c2 := fun w h => Valid_c b lb w h
  have HA := Lib.hid ha
  have HB := Lib.hid hb
  by_cases k : vld la = false
  · rw [k] at c1
    have C1 := Lib.hid c1
    clear c1 c2 ha hb h k
    go_enter Tryd.func148, Tryd.ntmps148
    go_wp2_with fail
    refine (C1.out _ (HA.out.below' (below_three _ _ _ _))).mono ?_; rintro e w1 ⟨rfl, hb1⟩
    have z1 : w.heap.size + 1 + 1 < w1.heap.size := by have := hb1.size; simp at this; omega
    have B1 : Hid (Below w.heap.size w w1) := Lib.hid ((below_three _ _ _ _).trans (hb1.mono (by simp; omega)))
    obtain ⟨x1, x2, x3, x4⟩ := box3 w a b (.slice none 0 0) 96 96 96
    have f3 := (hb1.cell (p := ⟨w.heap.size + 1 + 1, 0, none⟩) (by simp)).trans x3
    have f4 := (hb1.frozen (p := ⟨w.heap.size + 1 + 1, 0, none⟩) (by simp)).trans x4
    clear x1 x2 x3 x4 hb1
    go_wp2
    exact bodyPost_ret (v := .tuple #[.agg #[.slice none 0 0], .int .i64 1]) (by simp [results, Tryd.results148, go_sem, f3]) rfl ⟨rfl, B1.out.setCell (by dsimp only; omega) _⟩
  · have k2 : vld lb = false := by simpa [k] using h
    have k1 : vld la = true := by simpa using k
    rw [k1] at c1
    rw [k2] at c2
    have C1 := Lib.hid c1
    have C2 := Lib.hid c2
    clear c1 c2 ha hb h k k1 k2
    go_enter Tryd.func148, Tryd.ntmps148
    go_wp2_with fail
    refine (C1.out _ (HA.out.below' (below_three _ _ _ _))).mono ?_; rintro e w1 ⟨rfl, hb1⟩
    have z1 : w.heap.size + 1 + 1 < w1.heap.size := by have := hb1.size; simp at this; omega
    have B1 : Hid (Below w.heap.size w w1) := Lib.hid ((below_three _ _ _ _).trans (hb1.mono (by simp; omega)))
    obtain ⟨x1, x2, x3, x4⟩ := box3 w a b (.slice none 0 0) 96 96 96
    have f2 := (hb1.cell (p := ⟨w.heap.size + 1, 0, none⟩) (by simp)).trans x2
    have f3 := (hb1.cell (p := ⟨w.heap.size + 1 + 1, 0, none⟩) (by simp)).trans x3
    have f4 := (hb1.frozen (p := ⟨w.heap.size + 1 + 1, 0, none⟩) (by simp)).trans x4
    clear x1 x2 x3 x4 hb1
    go_wp2_with fail
    refine (C2.out _ (HB.out.below' B1.out)).mono ?_; rintro e w2 ⟨rfl, hb2⟩
    have z2 : w.heap.size + 1 + 1 < w2.heap.size := by have := hb2.size; omega
    have B2 : Hid (Below w.heap.size w w2) := Lib.hid (B1.out.trans (hb2.mono (by omega)))
    have g3 := (hb2.cell (p := ⟨w.heap.size + 1 + 1, 0, none⟩) (by dsimp only; omega)).trans f3
    have g4 := (hb2.frozen (p := ⟨w.heap.size + 1 + 1, 0, none⟩) (by dsimp only; omega)).trans f4
    clear hb2 f2 f3 f4
    go_wp2
    exact bodyPost_ret (v := .tuple #[.agg #[.slice none 0 0], .int .i64 1]) (by simp [results, Tryd.results148, go_sem, g3]) rfl ⟨rfl, B2.out.setCell (by dsimp only; omega) _⟩
end Nn
end Go.Proofs.YtinlfogpbologaaDoor


/- bits.Div32, short, Clone. -/
namespace Go.Proofs.YtinlfogpbologaaDoor
namespace Nn
open Go.RowKit NatMath
set_option linter.unusedVariables false

theorem or_add (h l : Nat) (hl : l < 4294967296) : h * 4294967296 ||| l = h * 4294967296 + l := by
  have := Nat.shiftLeft_add_eq_or_of_lt (i := 32) (b := l) (by omega) h
  rw [Nat.shiftLeft_eq] at this
  exact this.symm

set_option maxHeartbeats 400000 in
theorem div32_c (h l y : Nat) (w : World) (hh : (h : Int) < 4294967296) (hl : (l : Int) < 4294967296) (hy : (y : Int) < 4294967296) (hr : h < y) :
    Calls Tryd.prog 183 #[.int .u32 h, .int .u32 l, .int .u32 y] w fun e w' => e = .returned (.tuple #[.int .u32 (((h * 4294967296 + l) / y : Nat) : Int), .int .u32 (((h * 4294967296 + l) % y : Nat) : Int)]) ∧ Qw w w' := by
  have g1 : ((y : Int) != 0) = true := by simp; omega
  have g2 : decide (y ≤ h) = false := decide_eq_false (by omega)
  have g3 : ((y : Int) == 0) = false := by simp; omega
  obtain ⟨z, hz⟩ : ∃ z, z = h * 4294967296 + l := ⟨_, rfl⟩
  obtain ⟨h2, hh2⟩ : ∃ h2, h2 = h * 4294967296 := ⟨_, rfl⟩
  have e1 : IntKind.u64.wrap ((h : Int) * 4294967296) = (h2 : Int) := by rw [IntKind.wrap_u64]; omega
  have e2 : bits .or .u64 (h2 : Int) (l : Int) = (z : Int) := by
    rw [bits_or_u64_nat _ _ (by omega) (by omega), hh2, or_add _ _ (by omega), hz]
  have hq : z / y < 4294967296 := by
    rw [Nat.div_lt_iff_lt_mul (by omega)]
    have : (h + 1) * 4294967296 ≤ y * 4294967296 := Nat.mul_le_mul_right _ (by omega)
    rw [Nat.mul_comm 4294967296 y] at *
    omega
  have hm : z % y < 4294967296 := by have := Nat.mod_lt z (show 0 < y by omega); omega
  rw [← hz]
  obtain ⟨q, hq'⟩ : ∃ q, q = z / y := ⟨_, rfl⟩
  obtain ⟨m, hm'⟩ : ∃ m, m = z % y := ⟨_, rfl⟩
  rw [← hq'] at hq ⊢
  rw [← hm'] at hm ⊢
  have e3 : IntKind.u32.wrap (q : Int) = (q : Int) := by rw [IntKind.wrap_u32]; omega
  have e4 : IntKind.u32.wrap (m : Int) = (m : Int) := by rw [IntKind.wrap_u32]; omega
  have e5 : (z : Int) / (y : Int) = (q : Int) := by rw [hq']; exact (Int.natCast_ediv z y).symm
  have e6 : (z : Int) % (y : Int) = (m : Int) := by rw [hm']; exact (Int.natCast_emod z y).symm
  clear hz hh2 hq' hm'
  go_enter Tryd.func183, Tryd.ntmps183
  go_wp2_with fail
  go_quiet (fail)
  go_wp2
  go_ret2
  exact ⟨rfl, Qw.drewN (Qw.refl _) _⟩

theorem Nt.set {w : World} {v : Value} {N n : Nat} (h : Nt w v N) (hf : Fr n v) {a : Addr} (ha : a.block < n) (Y : Value) : Nt (w.setCell a Y) v N := by
  obtain ⟨ao, cap, h1, h2, h3, h4, h5, h6⟩ := h
  refine ⟨ao, cap, h1, h2, h3, h4, fun hl => ?_, h6⟩
  obtain ⟨b, off, k1, k2, k3⟩ := h5 hl
  have hb : n ≤ b := by rw [h1, k1] at hf; exact hf _ _ _ rfl
  refine ⟨b, off, k1, by simpa using k2, fun i hi => ?_⟩
  rw [World.cell?_setCell_other _ _ _ _ (fun e => by rw [e] at ha; simp only at ha; omega)]
  exact k3 i hi

theorem NtU.set {w : World} {v : Value} {N n : Nat} (h : NtU w v N) (hf : Fr n v) {a : Addr} (ha : a.block < n) (Y : Value) : NtU (w.setCell a Y) v N := ⟨h.1.set hf ha Y, h.2.setCell _ _⟩

/-- what a law of the kit says of a row of one's own, of a number's words -/
theorem owned_number {w : World} {base N : Nat} {v : Value} (h : w.ownsRow base 69 1 v (len N) ((digs N).map fun (u : Nat) => Value.int .u32 (u : Int))) : NtU w v N ∧ Fr base v := by
  obtain ⟨_, ⟨rfl, h2⟩ | ⟨g, cap, cur, rfl, h3, h4, h5, h6, h7, h8⟩⟩ := h
  · rw [len_eq_zero.1 h2]
    exact ⟨NtU.zero _, by intro a k c e; simp at e⟩
  · refine ⟨⟨⟨_, cap, rfl, h5, h6, words_digs N, fun _ => ⟨g, 0, rfl, lt_of_block h4, fun i hi => ?_⟩, by rintro a ha; simp only [Option.some.injEq] at ha; rw [← ha]⟩, Uf.own (fun i => by simp [World.frozen?, h4]) rfl⟩, Fr.block h3⟩
    have e : cur[0 + i]? = ((digs N).map fun (u : Nat) => Value.int .u32 (u : Int))[i]? := by
      rw [← h8, Nat.zero_add, ← Array.getElem?_toList, List.getElem?_take, if_pos (by have : (digs N).length = len N := rfl; omega)]
    simp only [World.cell?, h4, Option.isSome_none, Bool.false_eq_true, if_false, e]
    rw [List.getElem?_map, List.getElem?_eq_getElem hi, List.getD_eq_getElem?_getD, List.getElem?_eq_getElem hi]
    rfl

theorem clone_some (b off cap N : Nat) (w : World) (h : Nt w (.slice (some ⟨b, off, none⟩) (len N) cap) N) (hN : len N ≤ 1000000) :
    Calls Tryd.prog 169 #[.slice (some ⟨b, off, none⟩) (len N) cap] w fun e w' => (∃ v', Hid (NtU w' v' N ∧ Fr w.heap.size v') ∧ e = .returned v') ∧ Below w.heap.size w w' := by
  obtain ⟨i0, hi, hz0, hz1, hz2⟩ := info_parts Tryd.info69
  have hl : ((digs N).map fun (u : Nat) => Value.int .u32 (u : Int)).length = len N * 1 := by rw [Nat.mul_one, List.length_map]; rfl
  have hc : ∀ j u, ((digs N).map fun (u : Nat) => Value.int .u32 (u : Int))[j]? = some u → w.cell? ⟨b, off + j, none⟩ = some u := by
    intro j u hu
    rw [List.getElem?_map] at hu
    obtain ⟨x, hx, rfl⟩ := Option.map_eq_some_iff.1 hu
    obtain ⟨ao, cap', e, _, _, h4, h5, _⟩ := h
    obtain ⟨b', off', k1, k2, k3⟩ := h5 (by intro e; rw [e] at hx; simp at hx)
    simp only [Value.slice.injEq, k1, Option.some.injEq, Addr.mk.injEq] at e
    obtain ⟨⟨rfl, rfl, _⟩, _, _⟩ := e
    have hj : j < (digs N).length := by
      apply Nat.lt_of_not_le; intro hh; rw [List.getElem?_eq_none hh] at hx; simp at hx
    rw [k3 j hj, List.getD_eq_getElem?_getD, hx]; rfl
  refine (Tryd.slices_Clone_f169 i0 _ 1 4 hi hz0 hz1 hz2 rfl (by omega) (fun w => ?_) b off (len N) cap _ w hl (by unfold maxLen; omega) (by omega) hc ?_).mono ?_
  · exact Tryd.sizeOf69 ..
  · intro u hu
    obtain ⟨x, _, rfl⟩ := List.mem_map.1 hu
    rfl
  · rintro e w' ⟨v', rfl, h1, h2, h3⟩
    exact ⟨⟨v', Lib.hid (owned_number h1), rfl⟩, h3⟩

/-- slices.Clone, of a number -/
theorem Clone_cU (v : Value) (N : Nat) (w : World) (h : Nt w v N) (hN : len N ≤ 1000000) :
    Calls Tryd.prog 169 #[v] w fun e w' => (∃ v', Hid (NtU w' v' N ∧ Fr w.heap.size v') ∧ e = .returned v') ∧ Below w.heap.size w w' := by
  obtain ⟨ao, cap, rfl, h1, h2, h3⟩ := h.open
  by_cases h0 : N = 0
  · subst h0
    cases ao with
    | none =>
      rw [len_zero]
      refine (Tryd.slices_Clone_nil_f169 0 cap w).mono ?_
      rintro e w' ⟨rfl, rfl⟩
      exact ⟨⟨_, Lib.hid ⟨NtU.zero _, by intro a k c e; simp at e⟩, rfl⟩, Below.refl _ _⟩
    | some a =>
      obtain ⟨b, off, rfl⟩ : ∃ b off, a = ⟨b, off, none⟩ := by
        obtain ⟨b, off, sp⟩ := a
        obtain ⟨ao', cap', e, _, _, _, _, h6⟩ := h
        simp only [Value.slice.injEq] at e
        have := h6 _ e.1.symm
        simp only at this
        exact ⟨b, off, by rw [this]⟩
      exact clone_some b off cap 0 w h (by omega)
  · obtain ⟨b, off, rfl, _⟩ := h3 h0
    exact clone_some b off cap N w h hN
/-- slices.Clone, of a number -/
theorem Clone_c (v : Value) (N : Nat) (w : World) (h : Nt w v N) (hN : len N ≤ 1000000) :
    Calls Tryd.prog 169 #[v] w fun e w' => (∃ v', Hid (Nt w' v' N ∧ Fr w.heap.size v') ∧ e = .returned v') ∧ Below w.heap.size w w' :=
  (Clone_cU v N w h hN).mono fun _ _ h => ⟨by obtain ⟨v, hv, he⟩ := h.1; exact ⟨v, Lib.hid ⟨hv.out.1.1, hv.out.2⟩, he⟩, h.2⟩
end Nn
end Go.Proofs.YtinlfogpbologaaDoor


/- short; Div but for the long division. -/
namespace Go.Proofs.YtinlfogpbologaaDoor
namespace Nn
open Go.RowKit NatMath
set_option linter.unusedVariables false

theorem div32_dig (N d k : Nat) (hd : 0 < d) (hd2 : d < 4294967296) (w : World) :
    Calls Tryd.prog 183 #[.int .u32 (drem N d (k + 1) : Nat), .int .u32 (dig N k : Nat), .int .u32 d] w fun e w' => e = .returned (.tuple #[.int .u32 (dig (N / d) k : Nat), .int .u32 (drem N d k : Nat)]) ∧ Qw w w' := by
  have h1 := drem_step N hd k
  rw [← h1.1, ← h1.2]
  have h2 := drem_lt N hd (k + 1)
  have h3 := dig_lt N k
  exact div32_c _ _ _ w (by omega) (by omega) (by omega) h2

set_option maxHeartbeats 1000000 in
theorem short_c (a : Value) (N d : Nat) (w : World) (ha : Nt w a N) (h1 : len N ≤ 64) (hd : 0 < d) (hd2 : d < 4294967296) :
    Calls Tryd.prog 170 #[a, .int .u32 d] w fun e w' => ∃ g, e = .returned (.tuple #[.slice (some ⟨g, 0, none⟩) (len N) (len N), .int .u32 (N % d : Nat)]) ∧ Hid (Own w' g (fill (dig (N / d)) (len N) (len N))) ∧ w.heap.size ≤ g ∧ Below w.heap.size w w' := by
  have HA := Lib.hid ha
  obtain ⟨ao, ca, rfl, a1, a2, _⟩ := ha.open
  have CC := Lib.hid (fun k w => div32_dig N d k hd hd2 w)
  have hR := drem_zero N d
  rw [← hR]
  have R0 : (0 : Int) = (drem N d (len N) : Nat) := by rw [drem_top]; rfl
  have HR := Lib.hid R0
  clear ha hR R0
  obtain ⟨g, hg⟩ : ∃ g, w.heap.size = g := ⟨_, rfl⟩
  go_enter Tryd.func170, Tryd.ntmps170
  go_wp2_with (at_make; go_loud (refine wpList_make_words _ rfl _ _ rfl (len N) _ _ rfl rfl rfl rfl (by omega) g hg ?_; intro w3 hO hB))
  have hO0 : Hid (Own w3 g (fillD (dig (N / d)) (len N) (len N))) := Lib.hid (by rw [fillD_none]; exact hO)
  have BW : Hid (Below g w w3) := Lib.hid hB
  clear hO hB
  have hn : (len N : Int) ≤ 64 := by omega
  go_loopw [8, 7] (fun s8 s7 wr => ∃ k : Nat, s8 = .int .i64 ((k : Int) - 1) ∧ s7 = .int .u32 (drem N d k : Nat) ∧ k ≤ len N ∧ Hid (Own wr g (fillD (dig (N / d)) k (len N))) ∧ Hid (Below g w wr)) (fun s8 _ _ => (RowKit.intOf s8 + 1).toNat)
  case atStart => exact ⟨len N, rfl, by rw [← HR.out], Nat.le_refl _, hO0, BW⟩
  case round =>
    obtain ⟨k, rfl, rfl, hk, hO, hB⟩ := hrel
    have hgr : g < wr.heap.size := hO.out.lt
    have hBW : Hid (Below w.heap.size w wr) := Lib.hid (by rw [hg]; exact hB.out)
    by_cases h0 : k = 0
    · have hge : decide (1 ≤ (k : Int)) = false := decide_eq_false (by omega)
      subst h0
      have hO1 := hO.out
      rw [fillD_all] at hO1
      have HO1 := Lib.hid hO1
      clear hO1
      go_wp2
      go_ret2
      exact ⟨g, rfl, HO1, by omega, hBW.out⟩
    · obtain ⟨j, rfl⟩ : ∃ j, k = j + 1 := ⟨k - 1, by omega⟩
      have ej : (((j + 1 : Nat) : Int) - 1) = (j : Int) := by omega
      rw [ej]
      have hjn : (j : Int) < (len N : Int) := by omega
      have hjn2 : j < len N := by omega
      have hj1 : decide (0 ≤ (j : Int)) = true := decide_eq_true (by omega)
      have hx0 : N ≠ 0 := fun e => by rw [e, len_zero] at hk; omega
      obtain ⟨ao', cx', ex, _, _, hx⟩ := (HA.out.below' hBW.out).open
      obtain ⟨rfl, rfl⟩ : ao' = ao ∧ cx' = ca := by simp at ex; exact ⟨ex.1.symm, ex.2.symm⟩
      obtain ⟨bx, offx, rfl, hbx, hcx⟩ := hx hx0
      have hcx1 := hcx j hjn2
      clear hcx ex hx ej
      go_wp2_with fail
      refine (CC.out j _).mono ?_; rintro e w1 ⟨rfl, hq⟩
      have hO1 := hO.out.qw hq
      have hB1 : Below g w w1 := hB.out.trans (hq.below _)
      have hgr1 : g < w1.heap.size := hO1.lt
      have hfr := hO1.frozen j
      have hcell := hO1.cell (i := j) (by rw [fillD_length]; omega)
      have HO2 := hO1.set j (dig (N / d) j)
      rw [fillD_set _ hjn2] at HO2
      have HO3 := Lib.hid HO2
      have HB1 := Lib.hid hB1
      clear HO2 hO1 hB1 hq hcx1
      go_wp2
      go_roundw
      case rel => exact ⟨j, rfl, rfl, by omega, HO3, Lib.hid (HB1.out.setCell (Nat.le_refl _) _)⟩
      case measure => simp [RowKit.intOf]
end Nn
end Go.Proofs.YtinlfogpbologaaDoor


/- Div but for the long division. -/
namespace Go.Proofs.YtinlfogpbologaaDoor
namespace Nn
open Go.RowKit NatMath
set_option linter.unusedVariables false

theorem below_four (w : World) (o p q r : Obj) : Below w.heap.size w ((((w.alloc o).alloc p).alloc q).alloc r) := (below_three w o p q).alloc (by simp; omega) _
theorem box4 (w : World) (a b c d : Value) (T U V X : TypeId) :
    ((((w.alloc (.cells #[a] T)).alloc (.cells #[b] U)).alloc (.cells #[c] V)).alloc (.cells #[d] X)).cell? ⟨w.heap.size, 0, none⟩ = some a ∧
    ((((w.alloc (.cells #[a] T)).alloc (.cells #[b] U)).alloc (.cells #[c] V)).alloc (.cells #[d] X)).cell? ⟨w.heap.size + 1, 0, none⟩ = some b ∧
    ((((w.alloc (.cells #[a] T)).alloc (.cells #[b] U)).alloc (.cells #[c] V)).alloc (.cells #[d] X)).cell? ⟨w.heap.size + 1 + 1, 0, none⟩ = some c ∧
    ((((w.alloc (.cells #[a] T)).alloc (.cells #[b] U)).alloc (.cells #[c] V)).alloc (.cells #[d] X)).frozen? ⟨w.heap.size + 1 + 1, 0, none⟩ = false ∧
    ((((w.alloc (.cells #[a] T)).alloc (.cells #[b] U)).alloc (.cells #[c] V)).alloc (.cells #[d] X)).cell? ⟨w.heap.size + 1 + 1 + 1, 0, none⟩ = some d ∧
    ((((w.alloc (.cells #[a] T)).alloc (.cells #[b] U)).alloc (.cells #[c] V)).alloc (.cells #[d] X)).frozen? ⟨w.heap.size + 1 + 1 + 1, 0, none⟩ = false := by
  have e3 : (((w.alloc (.cells #[a] T)).alloc (.cells #[b] U)).alloc (.cells #[c] V)).heap.size = w.heap.size + 1 + 1 + 1 := by simp
  obtain ⟨h1, h2, h3, h4⟩ := box3 w a b c T U V
  refine ⟨?_, ?_, ?_, ?_, ?_, ?_⟩
  · exact (World.cell?_alloc_old _ _ _ (by simp; omega)).trans h1
  · exact (World.cell?_alloc_old _ _ _ (by simp)).trans h2
  · exact (World.cell?_alloc_old _ _ _ (by simp)).trans h3
  · exact (World.frozen?_alloc_old _ _ _ (by simp)).trans h4
  · rw [← e3]; exact box1a _ d X
  · rw [← e3]; exact box1f _ d X

/-- two numbers and no error -/
def RetNN (P : World → Value → Value → Prop) (e : Ending) (w' : World) : Prop := ∃ u v : Value, Hid (P w' u v) ∧ e = .returned (.tuple #[.agg #[u], .agg #[v], .int .i64 0])
def errNN (c : Int) : Ending := .returned (.tuple #[.agg #[.slice none 0 0], .agg #[.slice none 0 0], .int .i64 c])

theorem RetNN.old {S T n : Nat} {e : Ending} {w' : World} (h : RetNN (fun w' u v => NtU w' u S ∧ Fr n u ∧ NtU w' v T ∧ Fr n v) e w') : RetNN (fun w' u v => Nt w' u S ∧ Fr n u ∧ Nt w' v T ∧ Fr n v) e w' := by
  obtain ⟨u, v, hv, he⟩ := h
  exact ⟨u, v, Lib.hid ⟨hv.out.1.1, hv.out.2.1, hv.out.2.2.1.1, hv.out.2.2.2⟩, he⟩

theorem Fr.nil (n : Nat) : Fr n (.slice none 0 0) := by intro a k c e; simp at e
theorem Fr.mono {n m : Nat} {v : Value} (h : Fr n v) (hm : m ≤ n) : Fr m v := fun a k c e => Nat.le_trans hm (h a k c e)

/-- the two results' cells, in a world behind w -/
def Boxes (w W : World) : Prop := Below w.heap.size w W ∧ w.heap.size + 3 < W.heap.size ∧
  W.cell? ⟨w.heap.size + 1 + 1, 0, none⟩ = some (.slice none 0 0) ∧ W.frozen? ⟨w.heap.size + 1 + 1, 0, none⟩ = false ∧
  W.cell? ⟨w.heap.size + 1 + 1 + 1, 0, none⟩ = some (.slice none 0 0) ∧ W.frozen? ⟨w.heap.size + 1 + 1 + 1, 0, none⟩ = false
theorem Boxes.on {w W V : World} (h : Boxes w W) (hb : Below W.heap.size W V) : Boxes w V := by
  obtain ⟨h1, h2, h3, h4, h5, h6⟩ := h
  refine ⟨h1.trans (hb.mono h1.size), Nat.lt_of_lt_of_le h2 hb.size, ?_, ?_, ?_, ?_⟩
  · exact (hb.cell (by dsimp only; omega)).trans h3
  · exact (hb.frozen (by dsimp only; omega)).trans h4
  · exact (hb.cell (by dsimp only; omega)).trans h5
  · exact (hb.frozen (by dsimp only; omega)).trans h6
theorem Boxes.drew {w W : World} (h : Boxes w W) : Boxes w W.drew := h.on ⟨rfl, rfl, rfl, Nat.le_refl _, fun _ _ => rfl⟩
theorem Boxes.again {w W : World} (h : Boxes w W) : Boxes w (W.setCell ⟨w.heap.size + 1 + 1, 0, none⟩ (.slice none 0 0)) := by
  obtain ⟨h1, h2, h3, h4, h5, h6⟩ := h
  refine ⟨h1.setCell (by dsimp only; omega) _, by simpa using h2, World.cell?_setCell_same' _ _ _ (by rw [h3]; rfl), (World.frozen?_setCell _ _ _ _).trans h4, ?_, (World.frozen?_setCell _ _ _ _).trans h6⟩
  rw [World.cell?_setCell_other _ _ _ _ (by simp)]; exact h5

theorem Clone_boxes (a : Value) (N : Nat) (w W : World) (ha : Nt w a N) (hN : len N ≤ 1000000) (hB : Boxes w W) :
    Calls Tryd.prog 169 #[a] W fun e w' => ∃ ao c, e = .returned (.slice ao (len N) c) ∧ Hid (NtU w' (.slice ao (len N) c) N) ∧ Hid (Fr (w.heap.size + 4) (.slice ao (len N) c)) ∧ Hid (Boxes w w') := by
  refine (Clone_cU a N W (ha.below' hB.1) hN).mono ?_
  rintro e w' ⟨⟨v, hv, rfl⟩, hb⟩
  have h1 := hv.out.1
  obtain ⟨ao, c, rfl, _⟩ := h1.open
  exact ⟨ao, c, rfl, Lib.hid h1, Lib.hid (fun a k c e => Nat.le_trans hB.2.1 (hv.out.2 a k c e)), Lib.hid (hB.on hb)⟩

set_option maxRecDepth 100000 in
set_option maxHeartbeats 1000000 in
theorem Div_smallU (a b : Value) (N M : Nat) (w : World) (ha : Nt w a N) (hb : Nt w b M) (h1 : len N ≤ 64) (h2 : len M ≤ 64) (hl : N < M) (h0 : M ≠ 0) :
    Calls Tryd.prog 152 #[.agg #[a], .agg #[b]] w fun e w' => RetNN (fun w' u v => NtU w' u 0 ∧ Fr w.heap.size u ∧ NtU w' v N ∧ Fr w.heap.size v) e w' ∧ Below w.heap.size w w' := by
  have c1 := fun w h => Valid_c a (digs N) w h
  have c2 := fun w h => Valid_c b (digs M) w h
  have c3 := fun w h1 h2 => compare_c a b N M w h1 h2
  have c4 := fun W h => Clone_boxes a N w W ha (by omega) h
  rw [vld_digs, decide_eq_true h1] at c1
  rw [vld_digs, decide_eq_true h2] at c2
  have C1 := Lib.hid c1
  have C2 := Lib.hid c2
  have C3 := Lib.hid c3
  have C4 := Lib.hid c4
  have HA := Lib.hid ha
  have HB := Lib.hid hb
  have hcmp : decide (cmp N M < 0) = true := decide_eq_true (by unfold cmp; rw [if_pos hl]; omega)
  have hm0 : len M ≠ 0 := fun e => h0 (len_eq_zero.1 e)
  have hmz : ((len M : Int) == 0) = false := by simp; omega
  obtain ⟨bo, cb, rfl, b1, b2, _⟩ := hb.open
  clear c1 c2 c3 c4 ha hb h1 h2 hl h0
  generalize cmp N M = R at *
  go_enter Tryd.func152, Tryd.ntmps152
  go_wp2_with fail
  refine (C1.out _ (HA.out.below' (below_four _ _ _ _ _))).mono ?_; rintro e w1 ⟨rfl, hb1⟩
  have z1 : w.heap.size + 3 < w1.heap.size := by have := hb1.size; simp at this; omega
  have B1 : Hid (Below w.heap.size w w1) := Lib.hid ((below_four _ _ _ _ _).trans (hb1.mono (by simp; omega)))
  obtain ⟨x1, x2, x3, x4, x5, x6⟩ := box4 w a (.slice bo (len M) cb) (.slice none 0 0) (.slice none 0 0) 96 96 96 96
  have f1 := (hb1.cell (p := ⟨w.heap.size, 0, none⟩) (by simp; omega)).trans x1
  have f2 := (hb1.cell (p := ⟨w.heap.size + 1, 0, none⟩) (by simp)).trans x2
  have f3 := (hb1.cell (p := ⟨w.heap.size + 1 + 1, 0, none⟩) (by simp)).trans x3
  have f4 := (hb1.frozen (p := ⟨w.heap.size + 1 + 1, 0, none⟩) (by simp)).trans x4
  have f5 := (hb1.cell (p := ⟨w.heap.size + 1 + 1 + 1, 0, none⟩) (by simp)).trans x5
  have f6 := (hb1.frozen (p := ⟨w.heap.size + 1 + 1 + 1, 0, none⟩) (by simp)).trans x6
  clear x1 x2 x3 x4 x5 x6 hb1
  go_wp2_with fail
  refine (C2.out _ (HB.out.below' B1.out)).mono ?_; rintro e w2 ⟨rfl, hb2⟩
  have z2 : w.heap.size + 3 < w2.heap.size := by have := hb2.size; omega
  have B2 : Hid (Below w.heap.size w w2) := Lib.hid (B1.out.trans (hb2.mono (by omega)))
  have g1 := (hb2.cell (p := ⟨w.heap.size, 0, none⟩) (by dsimp only; omega)).trans f1
  have g2 := (hb2.cell (p := ⟨w.heap.size + 1, 0, none⟩) (by dsimp only; omega)).trans f2
  have g3 := (hb2.cell (p := ⟨w.heap.size + 1 + 1, 0, none⟩) (by dsimp only; omega)).trans f3
  have g4 := (hb2.frozen (p := ⟨w.heap.size + 1 + 1, 0, none⟩) (by dsimp only; omega)).trans f4
  have g5 := (hb2.cell (p := ⟨w.heap.size + 1 + 1 + 1, 0, none⟩) (by dsimp only; omega)).trans f5
  have g6 := (hb2.frozen (p := ⟨w.heap.size + 1 + 1 + 1, 0, none⟩) (by dsimp only; omega)).trans f6
  clear hb2 f1 f2 f3 f4 f5 f6 z1 B1 C1 C2
  go_wp2_with fail
  refine (C3.out _ (HA.out.below' B2.out) (HB.out.below' B2.out)).mono ?_; rintro e w3 ⟨rfl, hq⟩
  have hb3 := hq.below w2.heap.size
  have z3 : w.heap.size + 3 < w3.heap.size := by have := hb3.size; omega
  have B3 : Hid (Below w.heap.size w w3) := Lib.hid (B2.out.trans (hb3.mono (by omega)))
  have f1 := (hb3.cell (p := ⟨w.heap.size, 0, none⟩) (by dsimp only; omega)).trans g1
  have f2 := (hb3.cell (p := ⟨w.heap.size + 1, 0, none⟩) (by dsimp only; omega)).trans g2
  have f3 := (hb3.cell (p := ⟨w.heap.size + 1 + 1, 0, none⟩) (by dsimp only; omega)).trans g3
  have f4 := (hb3.frozen (p := ⟨w.heap.size + 1 + 1, 0, none⟩) (by dsimp only; omega)).trans g4
  have f5 := (hb3.cell (p := ⟨w.heap.size + 1 + 1 + 1, 0, none⟩) (by dsimp only; omega)).trans g5
  have f6 := (hb3.frozen (p := ⟨w.heap.size + 1 + 1 + 1, 0, none⟩) (by dsimp only; omega)).trans g6
  clear hb3 hq g1 g2 g3 g4 g5 g6 z2 B2 C3
  go_wp2_with fail
  have FD : Boxes w w3 := ⟨B3.out, z3, f3, f4, f5, f6⟩
  have FH := Lib.hid FD
  clear FD
  go_region_with (go_at_call 169; refine (C4.out _ (by first | exact FH.out.drew | exact FH.out.drew.again)).mono ?_; rintro e w4 ⟨ao, c4, rfl, hv4, hf4, u⟩; obtain ⟨u1, u2, u3, u4, u5, u6⟩ := u.out)
  all_goals
    clear f1 f2 f3 f4 f5 f6
    go_wp2
    refine bodyPost_ret (v := .tuple #[.agg #[.slice none 0 0], .agg #[.slice ao (len N) c4], .int .i64 0]) (by simp [results, Tryd.results152, go_sem, u3, u5]) rfl ⟨⟨_, _, Lib.hid ⟨NtU.zero _, Fr.nil _, ?_, (Fr.mono hf4.out (by omega))⟩, rfl⟩, ?_⟩
    · first
      | exact (hv4.out.set hf4.out (by dsimp only; omega) _).set hf4.out (by dsimp only; omega) _
      | exact hv4.out.set hf4.out (by dsimp only; omega) _
    · first
      | exact (u1.setCell (by dsimp only; omega) _).setCell (by dsimp only; omega) _
      | exact u1.setCell (by dsimp only; omega) _

theorem Div_small (a b : Value) (N M : Nat) (w : World) (ha : Nt w a N) (hb : Nt w b M) (h1 : len N ≤ 64) (h2 : len M ≤ 64) (hl : N < M) (h0 : M ≠ 0) :
    Calls Tryd.prog 152 #[.agg #[a], .agg #[b]] w fun e w' => RetNN (fun w' u v => Nt w' u 0 ∧ Fr w.heap.size u ∧ Nt w' v N ∧ Fr w.heap.size v) e w' ∧ Below w.heap.size w w' :=
  (Div_smallU a b N M w ha hb h1 h2 hl h0).mono fun _ _ h => ⟨h.1.old, h.2⟩

set_option maxRecDepth 100000 in
set_option maxHeartbeats 2000000 in
theorem Div_zero (a b : Value) (N M : Nat) (w : World) (ha : Nt w a N) (hb : Nt w b M) (h1 : len N ≤ 64) (h2 : len M ≤ 64) (h0 : M = 0) :
    Calls Tryd.prog 152 #[.agg #[a], .agg #[b]] w fun e w' => e = errNN 10 ∧ Below w.heap.size w w' := by
  have c1 := fun w h => Valid_c a (digs N) w h
  have c2 := fun w h => Valid_c b (digs M) w h
  rw [vld_digs, decide_eq_true h1] at c1
  rw [vld_digs, decide_eq_true h2] at c2
  have C1 := Lib.hid c1
  have C2 := Lib.hid c2
  have HA := Lib.hid ha
  have HB := Lib.hid hb
  obtain ⟨bo, cb, rfl, b1, b2, _⟩ := hb.open
  have hmz : ((len M : Int) == 0) = true := by rw [h0, len_zero]; rfl
  clear c1 c2 ha hb h1 h2 h0
  go_enter Tryd.func152, Tryd.ntmps152
  go_wp2_with fail
  refine (C1.out _ (HA.out.below' (below_four _ _ _ _ _))).mono ?_; rintro e w1 ⟨rfl, hb1⟩
  have z1 : w.heap.size + 3 < w1.heap.size := by have := hb1.size; simp at this; omega
  have B1 : Hid (Below w.heap.size w w1) := Lib.hid ((below_four _ _ _ _ _).trans (hb1.mono (by simp; omega)))
  obtain ⟨x1, x2, x3, x4, x5, x6⟩ := box4 w a (.slice bo (len M) cb) (.slice none 0 0) (.slice none 0 0) 96 96 96 96
  have f1 := (hb1.cell (p := ⟨w.heap.size, 0, none⟩) (by simp; omega)).trans x1
  have f2 := (hb1.cell (p := ⟨w.heap.size + 1, 0, none⟩) (by simp)).trans x2
  have f3 := (hb1.cell (p := ⟨w.heap.size + 1 + 1, 0, none⟩) (by simp)).trans x3
  have f4 := (hb1.frozen (p := ⟨w.heap.size + 1 + 1, 0, none⟩) (by simp)).trans x4
  have f5 := (hb1.cell (p := ⟨w.heap.size + 1 + 1 + 1, 0, none⟩) (by simp)).trans x5
  have f6 := (hb1.frozen (p := ⟨w.heap.size + 1 + 1 + 1, 0, none⟩) (by simp)).trans x6
  clear x1 x2 x3 x4 x5 x6 hb1
  go_wp2_with fail
  refine (C2.out _ (HB.out.below' B1.out)).mono ?_; rintro e w2 ⟨rfl, hb2⟩
  have z2 : w.heap.size + 3 < w2.heap.size := by have := hb2.size; omega
  have B2 : Hid (Below w.heap.size w w2) := Lib.hid (B1.out.trans (hb2.mono (by omega)))
  have g1 := (hb2.cell (p := ⟨w.heap.size, 0, none⟩) (by dsimp only; omega)).trans f1
  have g2 := (hb2.cell (p := ⟨w.heap.size + 1, 0, none⟩) (by dsimp only; omega)).trans f2
  have g3 := (hb2.cell (p := ⟨w.heap.size + 1 + 1, 0, none⟩) (by dsimp only; omega)).trans f3
  have g4 := (hb2.frozen (p := ⟨w.heap.size + 1 + 1, 0, none⟩) (by dsimp only; omega)).trans f4
  have g5 := (hb2.cell (p := ⟨w.heap.size + 1 + 1 + 1, 0, none⟩) (by dsimp only; omega)).trans f5
  have g6 := (hb2.frozen (p := ⟨w.heap.size + 1 + 1 + 1, 0, none⟩) (by dsimp only; omega)).trans f6
  clear hb2 f1 f2 f3 f4 f5 f6 z1 B1 C1 C2
  go_wp2_with fail
  go_region
  have B4 : Below w.heap.size w ((w2.setCell ⟨w.heap.size + 1 + 1, 0, none⟩ (.slice none 0 0)).setCell ⟨w.heap.size + 1 + 1 + 1, 0, none⟩ (.slice none 0 0)).drew := below_drewN ((B2.out.setCell (by dsimp only; omega) _).setCell (by dsimp only; omega) _) 1
  go_wp2
  exact bodyPost_ret (v := .tuple #[.agg #[.slice none 0 0], .agg #[.slice none 0 0], .int .i64 10]) (by simp [results, Tryd.results152, go_sem, g3, g5]) rfl ⟨rfl, B4⟩

theorem trimmed_boxes (g : Nat) (l : List Nat) (w W : World) (h : Own W g l) (hw : words l) (m : Nat) (hm : l.length = m) (hl : m ≤ 9223372036854775807) (hn : w.heap.size + 3 < g) (hB : Boxes w W) :
    Calls Tryd.prog 162 #[.slice (some ⟨g, 0, none⟩) m m] W fun e w' => ∃ ao c, e = .returned (.agg #[.slice ao (len (val l)) c]) ∧ Hid (NtU w' (.slice ao (len (val l)) c) (val l)) ∧ Hid (Fr (w.heap.size + 4) (.slice ao (len (val l)) c)) ∧ Hid (Boxes w w') ∧ Hid (Below W.heap.size W w') := by
  refine (trimmed_ownU g l W h hw m hm hl (w.heap.size + 4) hn).mono ?_
  rintro e w' ⟨⟨v, hv, rfl⟩, hb⟩
  have h1 := hv.out.1 _ (h.below' hb)
  obtain ⟨ao, c, rfl, _⟩ := h1.open
  exact ⟨ao, c, rfl, Lib.hid h1, Lib.hid hv.out.2, Lib.hid (hB.on hb), Lib.hid hb⟩

theorem Own.one (w : World) (a : Nat) : Own (w.alloc (.cells #[.int .u32 (a : Int)] 69)) w.heap.size [a] := by
  unfold Own
  show (w.heap.push _)[w.heap.size]? = _
  rw [Array.getElem?_push, if_pos rfl]
  rfl

theorem short_boxes (a : Value) (N d : Nat) (w W : World) (ha : Nt w a N) (h1 : len N ≤ 64) (hd : 0 < d) (hd2 : d < 4294967296) (hB : Boxes w W) :
    Calls Tryd.prog 170 #[a, .int .u32 d] W fun e w' => ∃ g, e = .returned (.tuple #[.slice (some ⟨g, 0, none⟩) (len N) (len N), .int .u32 (N % d : Nat)]) ∧ Hid (Own w' g (fill (dig (N / d)) (len N) (len N))) ∧ w.heap.size + 3 < g ∧ Hid (Boxes w w') := by
  refine (short_c a N d W (ha.below' hB.1) h1 hd hd2).mono ?_
  rintro e w' ⟨g, rfl, hO, hg, hb⟩
  exact ⟨g, rfl, hO, Nat.lt_of_lt_of_le hB.2.1 hg, Lib.hid (hB.on hb)⟩

set_option maxRecDepth 100000 in
set_option maxHeartbeats 2000000 in
theorem Div_shortU (a b : Value) (N M : Nat) (w : World) (ha : Nt w a N) (hb : Nt w b M) (h1 : len N ≤ 64) (h2 : len M ≤ 64) (h0 : len M = 1) (hl : M ≤ N) :
    Calls Tryd.prog 152 #[.agg #[a], .agg #[b]] w fun e w' => RetNN (fun w' u v => NtU w' u (N / M) ∧ Fr w.heap.size u ∧ NtU w' v (N % M) ∧ Fr w.heap.size v) e w' ∧ Below w.heap.size w w' := by
  have c1 := fun w h => Valid_c a (digs N) w h
  have c2 := fun w h => Valid_c b (digs M) w h
  have c3 := fun w h1 h2 => compare_c a b N M w h1 h2
  rw [vld_digs, decide_eq_true h1] at c1
  rw [vld_digs, decide_eq_true h2] at c2
  have C1 := Lib.hid c1
  have C2 := Lib.hid c2
  have C3 := Lib.hid c3
  have HA := Lib.hid ha
  have HB := Lib.hid hb
  have hM0 : M ≠ 0 := fun e => by rw [e, len_zero] at h0; omega
  have hM32 : M < 4294967296 := by have := lt_Bp_len M; rw [h0, Bp_one] at this; exact this
  obtain ⟨r, hr⟩ : ∃ r, r = N % M := ⟨_, rfl⟩
  have c4 := fun W h => short_boxes a N M w W ha h1 (by omega) hM32 h
  rw [← hr] at c4 ⊢
  have C4 := Lib.hid c4
  have hcmp : decide (cmp N M < 0) = false := decide_eq_false (by unfold cmp; rw [if_neg (by omega)]; split <;> omega)
  obtain ⟨bo, cb, rfl, b1, b2, hbc⟩ := hb.open
  obtain ⟨bb, boff, rfl, hbb, hbc2⟩ := hbc hM0
  have hbc3 := hbc2 0 (by omega)
  rw [Nat.add_zero] at hbc3
  have hd0 : dig M 0 = M := by rw [dig_zero]; omega
  rw [hd0] at hbc3
  rw [h0] at *
  have hQ : N / M < Bp (len N) := Nat.lt_of_le_of_lt (Nat.div_le_self _ _) (lt_Bp_len N)
  have hrm : r < 4294967296 := by have := Nat.mod_lt N (show 0 < M by omega); omega
  have HQ := Lib.hid hQ
  have HN64 := Lib.hid h1
  have HBC := Lib.hid hbc3
  clear c4 hr hM0 h1 h2 h0 hl hbc2 hd0 hQ hbc hbc3
  clear c1 c2 c3 ha hb
  generalize cmp N M = R at *
  go_enter Tryd.func152, Tryd.ntmps152
  go_wp2_with fail
  refine (C1.out _ (HA.out.below' (below_four _ _ _ _ _))).mono ?_; rintro e w1 ⟨rfl, hb1⟩
  have z1 : w.heap.size + 3 < w1.heap.size := by have := hb1.size; simp at this; omega
  have B1 : Hid (Below w.heap.size w w1) := Lib.hid ((below_four _ _ _ _ _).trans (hb1.mono (by simp; omega)))
  obtain ⟨x1, x2, x3, x4, x5, x6⟩ := box4 w a (.slice (some ⟨bb, boff, none⟩) 1 cb) (.slice none 0 0) (.slice none 0 0) 96 96 96 96
  have f1 := (hb1.cell (p := ⟨w.heap.size, 0, none⟩) (by simp; omega)).trans x1
  have f2 := (hb1.cell (p := ⟨w.heap.size + 1, 0, none⟩) (by simp)).trans x2
  have f3 := (hb1.cell (p := ⟨w.heap.size + 1 + 1, 0, none⟩) (by simp)).trans x3
  have f4 := (hb1.frozen (p := ⟨w.heap.size + 1 + 1, 0, none⟩) (by simp)).trans x4
  have f5 := (hb1.cell (p := ⟨w.heap.size + 1 + 1 + 1, 0, none⟩) (by simp)).trans x5
  have f6 := (hb1.frozen (p := ⟨w.heap.size + 1 + 1 + 1, 0, none⟩) (by simp)).trans x6
  clear x1 x2 x3 x4 x5 x6 hb1
  go_wp2_with fail
  refine (C2.out _ (HB.out.below' B1.out)).mono ?_; rintro e w2 ⟨rfl, hb2⟩
  have z2 : w.heap.size + 3 < w2.heap.size := by have := hb2.size; omega
  have B2 : Hid (Below w.heap.size w w2) := Lib.hid (B1.out.trans (hb2.mono (by omega)))
  have g1 := (hb2.cell (p := ⟨w.heap.size, 0, none⟩) (by dsimp only; omega)).trans f1
  have g2 := (hb2.cell (p := ⟨w.heap.size + 1, 0, none⟩) (by dsimp only; omega)).trans f2
  have g3 := (hb2.cell (p := ⟨w.heap.size + 1 + 1, 0, none⟩) (by dsimp only; omega)).trans f3
  have g4 := (hb2.frozen (p := ⟨w.heap.size + 1 + 1, 0, none⟩) (by dsimp only; omega)).trans f4
  have g5 := (hb2.cell (p := ⟨w.heap.size + 1 + 1 + 1, 0, none⟩) (by dsimp only; omega)).trans f5
  have g6 := (hb2.frozen (p := ⟨w.heap.size + 1 + 1 + 1, 0, none⟩) (by dsimp only; omega)).trans f6
  clear hb2 f1 f2 f3 f4 f5 f6 z1 B1 C1 C2
  go_wp2_with fail
  refine (C3.out _ (HA.out.below' B2.out) (HB.out.below' B2.out)).mono ?_; rintro e w3 ⟨rfl, hq⟩
  have hb3 := hq.below w2.heap.size
  have z3 : w.heap.size + 3 < w3.heap.size := by have := hb3.size; omega
  have B3 : Hid (Below w.heap.size w w3) := Lib.hid (B2.out.trans (hb3.mono (by omega)))
  have f1 := (hb3.cell (p := ⟨w.heap.size, 0, none⟩) (by dsimp only; omega)).trans g1
  have f2 := (hb3.cell (p := ⟨w.heap.size + 1, 0, none⟩) (by dsimp only; omega)).trans g2
  have f3 := (hb3.cell (p := ⟨w.heap.size + 1 + 1, 0, none⟩) (by dsimp only; omega)).trans g3
  have f4 := (hb3.frozen (p := ⟨w.heap.size + 1 + 1, 0, none⟩) (by dsimp only; omega)).trans g4
  have f5 := (hb3.cell (p := ⟨w.heap.size + 1 + 1 + 1, 0, none⟩) (by dsimp only; omega)).trans g5
  have f6 := (hb3.frozen (p := ⟨w.heap.size + 1 + 1 + 1, 0, none⟩) (by dsimp only; omega)).trans g6
  clear hb3 hq g1 g2 g3 g4 g5 g6 z2 B2 C3
  have FD : Boxes w w3 := ⟨B3.out, z3, f3, f4, f5, f6⟩
  have FH := Lib.hid FD
  have hbd := (B3.out.cell (p := ⟨bb, boff, none⟩) hbb).trans HBC.out
  have hbs : bb < w3.heap.size := by omega
  go_wp2_with fail
  clear FD
  go_region_with (go_at_call 170; refine (C4.out _ FH.out.drew).mono ?_; rintro e w4 ⟨g, rfl, hO, hg, u⟩)
  all_goals
    have hO' := Lib.hid hO.out
    clear f1 f2 f3 f4 f5 f6 hbd hbs C4
    obtain ⟨u1, u2, u3, u4, u5, u6⟩ := u.out
    clear u3 u4 u5 u6
    go_wp2_with fail
    refine (trimmed_boxes g _ w w4 hO.out (fill_words (dig_lt _)) _ (fill_length _ _ _) (by have := HN64.out; omega) (by omega) u.out).mono ?_
    rw [fill_val HQ.out]
    rintro e w5 ⟨a5, c5, rfl, hv5, hf5, ub5, _⟩
    have hs5 : w.heap.size + 3 < w5.heap.size := ub5.out.2.1
    go_wp2_with fail
    refine (trimmed_boxes w5.heap.size [r] w _ (Own.one _ _) (by intro u hu; simp at hu; omega) _ rfl (by simp) hs5 (ub5.out.on (below_one _ _))).mono ?_
    rw [show val [r] = r from by simp [val]]
    rintro e w6 ⟨a6, c6, rfl, hv6, hf6, ub6, hb6⟩
    have hv56 : Hid (NtU w6 (.slice a5 (len (N / M)) c5) (N / M)) := Lib.hid (hv5.out.below' ((below_one _ _).trans (hb6.out.mono (by simp))))
    obtain ⟨u1, u2, u3, u4, u5, u6⟩ := ub6.out
    clear hv5 hb6 hs5
    go_wp2
    refine bodyPost_ret (v := .tuple #[.agg #[.slice a5 (len (N / M)) c5], .agg #[.slice a6 (len r) c6], .int .i64 0]) (by simp [results, Tryd.results152, go_sem, u3, u5]) rfl ⟨⟨_, _, Lib.hid ⟨?_, (Fr.mono hf5.out (by omega)), ?_, (Fr.mono hf6.out (by omega))⟩, rfl⟩, ?_⟩
    · exact (hv56.out.set hf5.out (by dsimp only; omega) _).set hf5.out (by dsimp only; omega) _
    · exact (hv6.out.set hf6.out (by dsimp only; omega) _).set hf6.out (by dsimp only; omega) _
    · exact (u1.setCell (by dsimp only; omega) _).setCell (by dsimp only; omega) _
theorem Div_short (a b : Value) (N M : Nat) (w : World) (ha : Nt w a N) (hb : Nt w b M) (h1 : len N ≤ 64) (h2 : len M ≤ 64) (h0 : len M = 1) (hl : M ≤ N) :
    Calls Tryd.prog 152 #[.agg #[a], .agg #[b]] w fun e w' => RetNN (fun w' u v => Nt w' u (N / M) ∧ Fr w.heap.size u ∧ Nt w' v (N % M) ∧ Fr w.heap.size v) e w' ∧ Below w.heap.size w w' :=
  (Div_shortU a b N M w ha hb h1 h2 h0 hl).mono fun _ _ h => ⟨h.1.old, h.2⟩

end Nn
end Go.Proofs.YtinlfogpbologaaDoor

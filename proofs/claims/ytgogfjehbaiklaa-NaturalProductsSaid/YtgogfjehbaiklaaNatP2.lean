/- The reference's twice, longer. -/
import Derived.Test.YtgogfjehbaiklaaNatP1
namespace Go.Proofs.Ytgogfjehbaiklaa
open Go.RowKit NatMath
set_option linter.unusedVariables false

namespace NatMath
def tw (N c k : Nat) : Nat := (2 * (N % Bp k) + c) / Bp k
theorem tw_zero (N c : Nat) : tw N c 0 = c := by unfold tw; rw [Bp_zero, Nat.mod_one, Nat.div_one]; omega
theorem tw_le {N c : Nat} (k : Nat) (hc : c ≤ 1) : tw N c k ≤ 1 := by
  unfold tw
  have h := Nat.mod_lt N (Bp_pos k)
  have : (2 * (N % Bp k) + c) / Bp k < 2 := by rw [Nat.div_lt_iff_lt_mul (Bp_pos k)]; omega
  omega
theorem tw_low (N c k : Nat) : 2 * (N % Bp (k + 1)) + c = Bp k * (2 * dig N k + tw N c k) + (2 * (N % Bp k) + c) % Bp k := by
  have h := mod_step N k
  have e := Nat.div_add_mod (2 * (N % Bp k) + c) (Bp k)
  unfold tw
  rw [h, Nat.mul_add, Nat.mul_add]
  generalize (2 * (N % Bp k) + c) / Bp k = q at *
  generalize (2 * (N % Bp k) + c) % Bp k = r at *
  generalize dig N k = x at *
  generalize N % Bp k = m at *
  rw [Nat.mul_left_comm (Bp k) 2 x]
  omega
theorem tw_step {N c : Nat} (k : Nat) (hc : c ≤ 1) : tw N c (k + 1) = dig N k / 2147483648 := by
  have h1 := tw_le (N := N) k hc
  have h2 : tw N c (k + 1) = (2 * (N % Bp (k + 1)) + c) / Bp (k + 1) := rfl
  rw [h2, tw_low N c k, Bp_succ, ← Nat.div_div_eq_div_mul, Nat.mul_add_div (Bp_pos k), Nat.div_eq_of_lt (Nat.mod_lt _ (Bp_pos k))]
  omega
theorem tw_dig (N c k : Nat) : dig (2 * N + c) k = (2 * dig N k + tw N c k) % 4294967296 := by
  have e : 2 * N + c = Bp (k + 1) * (2 * (N / Bp (k + 1))) + (2 * (N % Bp (k + 1)) + c) := by
    have := Nat.div_add_mod N (Bp (k + 1))
    rw [Nat.mul_left_comm (Bp (k + 1)) 2]; omega
  unfold dig
  rw [e, tw_low N c k, Bp_succ]
  have : (Bp k * 4294967296 * (2 * (N / (Bp k * 4294967296))) + (Bp k * (2 * dig N k + tw N c k) + (2 * (N % Bp k) + c) % Bp k)) / Bp k = 4294967296 * (2 * (N / (Bp k * 4294967296))) + (2 * dig N k + tw N c k) := by
    rw [Nat.mul_assoc, ← Nat.add_assoc, ← Nat.mul_add, Nat.mul_add_div (Bp_pos k), Nat.div_eq_of_lt (Nat.mod_lt _ (Bp_pos k)), Nat.add_zero]
  rw [this, Nat.mul_add_mod]
  rfl
theorem tw_last {N c n : Nat} (hN : N < Bp n) (hc : c ≤ 1) : dig (2 * N + c) n = tw N c n ∧ 2 * N + c < Bp (n + 1) := by
  have h := Bp_pos n
  have h2 : 2 * N + c < Bp (n + 1) := by rw [Bp_succ]; omega
  refine ⟨?_, h2⟩
  unfold dig tw
  rw [Nat.mod_eq_of_lt hN, Nat.mod_eq_of_lt]
  rw [Nat.div_lt_iff_lt_mul h]; rw [Bp_succ] at h2; omega
end NatMath

def b2n (t : Bool) : Nat := if t then 1 else 0

set_option maxRecDepth 100000 in
set_option maxHeartbeats 2000000 in
theorem twice_c (a : Value) (N : Nat) (t : Bool) (w : World) (ha : Nt w a N) (h1 : len N ≤ 100) :
    Calls Try.prog 52 #[.agg #[a], .bool t] w fun e w' => (∃ ao c, e = .returned (.agg #[.slice ao (len (2 * N + b2n t)) c]) ∧ Hid (Nt w' (.slice ao (len (2 * N + b2n t)) c) (2 * N + b2n t) ∧ Fr w.heap.size (.slice ao (len (2 * N + b2n t)) c))) ∧ Below w.heap.size w w' := by
  have HA := Lib.hid ha
  obtain ⟨ao, ca, rfl, a1, a2, -⟩ := ha.open
  have l1 : (len N : Int) ≤ 100 := by omega
  have hc0 : b2n t ≤ 1 := by unfold b2n; split <;> omega
  generalize hcd : b2n t = c at *
  obtain ⟨hL1, hL2⟩ := tw_last (lt_Bp_len N) hc0
  have HT := Lib.hid (fun k => tw_step (N := N) k hc0)
  have HD := Lib.hid (fun k => tw_dig N c k)
  have HL := Lib.hid (fun k => tw_le (N := N) k hc0)
  have HZ := Lib.hid (tw_zero N c)
  have HX := Lib.hid (show N ≠ 0 ∨ len N = 0 from by by_cases h : N = 0; right; rw [h, len_zero]; left; exact h)
  generalize hS : 2 * N + c = S at *
  have HL1 := Lib.hid hL1
  have HL2 := Lib.hid hL2
  clear ha h1 hS hL1 hL2
  have B0 := Lib.hid (show BX w (.slice ao (len N) ca) ((w.alloc (.cells #[.slice ao (len N) ca] 24)).alloc (.cells #[.slice none 0 0] 24)) from BX.start w _ _ (Below.refl _ _))
  cases t
  · obtain rfl : c = 0 := hcd.symm
    clear hcd hc0
    go_enter Try.func52, Try.ntmps52
    go_wp2_with fail
    have hW0 : ((w.alloc (.cells #[.slice ao (len N) ca] 24)).alloc (.cells #[.slice none 0 0] 24)).heap.size = w.heap.size + 2 := size_two _ _ _
    generalize (w.alloc (.cells #[.slice ao (len N) ca] 24)).alloc (.cells #[.slice none 0 0] 24) = W0 at *
    have HW0 := Lib.hid hW0
    clear hW0
    go_loopw [7, 5, 6] (fun s7 s5 s6 wr => ∃ k : Nat, s7 = .int .i64 (k : Int) ∧ s6 = .int .u32 (tw N 0 k : Nat) ∧ k ≤ len N ∧ Hid (OwnV wr (w.heap.size + 2) s5 (lst (dig S) k)) ∧ Hid (BX w (.slice ao (len N) ca) wr)) (fun s7 _ _ _ => (len N - RowKit.intOf s7).toNat)
    case atStart => exact ⟨0, rfl, by rw [HZ.out]; rfl, Nat.zero_le _, Lib.hid (OwnV.nil _ _), B0⟩
    case round =>
      obtain ⟨k, rfl, rfl, hk, hO, hB⟩ := hrel
      obtain ⟨hbel, z0, p0, p1, p2⟩ := hB.out
      by_cases c0 : k < len N
      · have t1 : decide (k < len N) = true := decide_eq_true c0
        have hx0 : N ≠ 0 := by rcases HX.out with h | h; exact h; omega
        obtain ⟨ao', cx', ex, _, _, hx⟩ := HA.out.open
        obtain ⟨rfl, rfl⟩ : ao' = ao ∧ cx' = ca := by simp at ex; exact ⟨ex.1.symm, ex.2.symm⟩
        obtain ⟨bx, offx, rfl, hbx, hcx⟩ := hx hx0
        have hcx1 := (hbel.cell (p := ⟨bx, offx + k, none⟩) hbx).trans (hcx k c0)
        have hbxr : bx < wr.heap.size := by omega
        have hcb := HL.out k
        have hdk := HD.out k
        have htk := HT.out k
        have hxb := dig_lt N k
        generalize dig N k = x at *
        generalize tw N 0 k = cc at *
        have q1 : IntKind.u32.wrap ((x : Int) * 2) = ((2 * x % 4294967296 : Nat) : Int) := by rw [IntKind.wrap_u32]; omega
        have hy : 2 * x % 4294967296 % 2 = 0 := by omega
        have hyb : 2 * x % 4294967296 < 4294967296 := Nat.mod_lt _ (by omega)
        have hu : (2 * x + cc) % 4294967296 = 2 * x % 4294967296 + cc := by omega
        rw [hu] at hdk
        generalize 2 * x % 4294967296 = y at *
        have q2 : IntKind.u32.wrap ((y : Int) + (cc : Int)) = ((y + cc : Nat) : Int) := by rw [IntKind.wrap_u32]; omega
        have hub : y + cc < 4294967296 := by omega
        have q3 : (x : Int) / 2147483648 = ((x / 2147483648 : Nat) : Int) := by omega
        have hcn : x / 2147483648 ≤ 1 := by omega
        generalize x / 2147483648 = cn at *
        generalize y + cc = u at *
        have HDK := Lib.hid hdk
        have HTK := Lib.hid htk
        have hO1 := Lib.hid (hO.out.below (below_one wr (.cells #[.int .u32 (u : Int)] 62)))
        have hll : (lst (dig S) k).length ≤ 1000000 := by rw [lst_length]; omega
        have hB1 := Lib.hid (hB.out.on (below_one wr (.cells #[.int .u32 (u : Int)] 62)))
        clear hcx ex hx hdk htk hu hy hbel
        go_wp2_with (at_builtin; go_loud (refine wpList_push _ rfl _ _ rfl (w.heap.size + 2) _ (lst (dig S) k) u rfl hO1.out ⟨wr.heap.size, 0, none⟩ _ rfl (box1a _ _ _) (by omega) hll (by simp; omega) ?_; intro v2 w2 hv2 hb2; have hB2 := Lib.hid (hB1.out.on2 hb2); have hcx2 := (hb2.cell (p := ⟨bx, offx + k, none⟩) (by dsimp only; omega)).trans ((World.cell?_alloc_old wr (.cells #[.int .u32 (u : Int)] 62) ⟨bx, offx + k, none⟩ (by dsimp only; omega)).trans hcx1); have p0 := hB2.out.2.2.1; have z0 := hB2.out.2.1))
        rw [← HDK.out, ← lst_succ] at hv2
        have HV := Lib.hid hv2
        clear hv2 hb2
        go_roundw
        case rel => exact ⟨k + 1, by go_num, by rw [HTK.out], by omega, HV, hB2⟩
        case measure => simp [RowKit.intOf]; omega
      · obtain rfl : k = len N := by omega
        have t1 : decide (len N < len N) = false := decide_eq_false (Nat.lt_irrefl _)
        have hcb := HL.out (len N)
        have hl1 := HL1.out
        generalize tw N 0 (len N) = cc at *
        have HLL := Lib.hid hl1
        have hO1 := Lib.hid (hO.out.below (below_one wr (.cells #[.int .u32 (cc : Int)] 62)))
        have hll : (lst (dig S) (len N)).length ≤ 1000000 := by rw [lst_length]; omega
        have hB1 := Lib.hid (hB.out.on (below_one wr (.cells #[.int .u32 (cc : Int)] 62)))
        clear hl1 hbel
        go_wp2_with (at_builtin; go_loud (refine wpList_push _ rfl _ _ rfl (w.heap.size + 2) _ (lst (dig S) (len N)) cc rfl hO1.out ⟨wr.heap.size, 0, none⟩ _ rfl (box1a _ _ _) (by omega) hll (by simp; omega) ?_; intro v2 w2 hv2 hb2))
        rw [← HLL.out, ← lst_succ] at hv2
        have hB2 := Lib.hid (hB1.out.on2 hb2)
        refine (trim_c v2 _ w2 hv2.sl (by rw [lst_length]; omega)).mono ?_
        rw [lst_fill, fill_val HL2.out]
        rintro e w3 ⟨⟨a3, c3, rfl, hv3⟩, hb3⟩
        have B3 := Lib.hid (hB2.out.on hb3)
        have HN := Lib.hid (show Nt w3 (.slice a3 (len S) c3) S ∧ Fr (w.heap.size + 2) (.slice a3 (len S) c3) from ⟨hv3.out.1, Fr.mono hv3.out.2 (by have := hB2.out.2.1; omega)⟩)
        clear hv2 hb2 hb3 hv3 z0 p0 p1 p2
        obtain ⟨_, z0, p0, p1, p2⟩ := B3.out
        go_wp2
        exact bodyPost_ret (v := .agg #[.slice a3 (len S) c3]) (by simp [results, Try.results52, go_sem, p1]) rfl ⟨⟨a3, c3, rfl, Lib.hid ⟨HN.out.1.set (a := ⟨w.heap.size + 1, 0, none⟩) HN.out.2 (by dsimp only; omega) _, Fr.mono HN.out.2 (by omega)⟩⟩, B3.out.1.setCell (by dsimp only; omega) _⟩
  · obtain rfl : c = 1 := hcd.symm
    clear hcd hc0
    go_enter Try.func52, Try.ntmps52
    go_wp2_with fail
    have hW0 : ((w.alloc (.cells #[.slice ao (len N) ca] 24)).alloc (.cells #[.slice none 0 0] 24)).heap.size = w.heap.size + 2 := size_two _ _ _
    generalize (w.alloc (.cells #[.slice ao (len N) ca] 24)).alloc (.cells #[.slice none 0 0] 24) = W0 at *
    have HW0 := Lib.hid hW0
    clear hW0
    go_loopw [7, 5, 6] (fun s7 s5 s6 wr => ∃ k : Nat, s7 = .int .i64 (k : Int) ∧ s6 = .int .u32 (tw N 1 k : Nat) ∧ k ≤ len N ∧ Hid (OwnV wr (w.heap.size + 2) s5 (lst (dig S) k)) ∧ Hid (BX w (.slice ao (len N) ca) wr)) (fun s7 _ _ _ => (len N - RowKit.intOf s7).toNat)
    case atStart => exact ⟨0, rfl, by rw [HZ.out]; rfl, Nat.zero_le _, Lib.hid (OwnV.nil _ _), B0⟩
    case round =>
      obtain ⟨k, rfl, rfl, hk, hO, hB⟩ := hrel
      obtain ⟨hbel, z0, p0, p1, p2⟩ := hB.out
      by_cases c0 : k < len N
      · have t1 : decide (k < len N) = true := decide_eq_true c0
        have hx0 : N ≠ 0 := by rcases HX.out with h | h; exact h; omega
        obtain ⟨ao', cx', ex, _, _, hx⟩ := HA.out.open
        obtain ⟨rfl, rfl⟩ : ao' = ao ∧ cx' = ca := by simp at ex; exact ⟨ex.1.symm, ex.2.symm⟩
        obtain ⟨bx, offx, rfl, hbx, hcx⟩ := hx hx0
        have hcx1 := (hbel.cell (p := ⟨bx, offx + k, none⟩) hbx).trans (hcx k c0)
        have hbxr : bx < wr.heap.size := by omega
        have hcb := HL.out k
        have hdk := HD.out k
        have htk := HT.out k
        have hxb := dig_lt N k
        generalize dig N k = x at *
        generalize tw N 1 k = cc at *
        have q1 : IntKind.u32.wrap ((x : Int) * 2) = ((2 * x % 4294967296 : Nat) : Int) := by rw [IntKind.wrap_u32]; omega
        have hy : 2 * x % 4294967296 % 2 = 0 := by omega
        have hyb : 2 * x % 4294967296 < 4294967296 := Nat.mod_lt _ (by omega)
        have hu : (2 * x + cc) % 4294967296 = 2 * x % 4294967296 + cc := by omega
        rw [hu] at hdk
        generalize 2 * x % 4294967296 = y at *
        have q2 : IntKind.u32.wrap ((y : Int) + (cc : Int)) = ((y + cc : Nat) : Int) := by rw [IntKind.wrap_u32]; omega
        have hub : y + cc < 4294967296 := by omega
        have q3 : (x : Int) / 2147483648 = ((x / 2147483648 : Nat) : Int) := by omega
        have hcn : x / 2147483648 ≤ 1 := by omega
        generalize x / 2147483648 = cn at *
        generalize y + cc = u at *
        have HDK := Lib.hid hdk
        have HTK := Lib.hid htk
        have hO1 := Lib.hid (hO.out.below (below_one wr (.cells #[.int .u32 (u : Int)] 62)))
        have hll : (lst (dig S) k).length ≤ 1000000 := by rw [lst_length]; omega
        have hB1 := Lib.hid (hB.out.on (below_one wr (.cells #[.int .u32 (u : Int)] 62)))
        clear hcx ex hx hdk htk hu hy hbel
        go_wp2_with (at_builtin; go_loud (refine wpList_push _ rfl _ _ rfl (w.heap.size + 2) _ (lst (dig S) k) u rfl hO1.out ⟨wr.heap.size, 0, none⟩ _ rfl (box1a _ _ _) (by omega) hll (by simp; omega) ?_; intro v2 w2 hv2 hb2; have hB2 := Lib.hid (hB1.out.on2 hb2); have hcx2 := (hb2.cell (p := ⟨bx, offx + k, none⟩) (by dsimp only; omega)).trans ((World.cell?_alloc_old wr (.cells #[.int .u32 (u : Int)] 62) ⟨bx, offx + k, none⟩ (by dsimp only; omega)).trans hcx1); have p0 := hB2.out.2.2.1; have z0 := hB2.out.2.1))
        rw [← HDK.out, ← lst_succ] at hv2
        have HV := Lib.hid hv2
        clear hv2 hb2
        go_roundw
        case rel => exact ⟨k + 1, by go_num, by rw [HTK.out], by omega, HV, hB2⟩
        case measure => simp [RowKit.intOf]; omega
      · obtain rfl : k = len N := by omega
        have t1 : decide (len N < len N) = false := decide_eq_false (Nat.lt_irrefl _)
        have hcb := HL.out (len N)
        have hl1 := HL1.out
        generalize tw N 1 (len N) = cc at *
        have HLL := Lib.hid hl1
        have hO1 := Lib.hid (hO.out.below (below_one wr (.cells #[.int .u32 (cc : Int)] 62)))
        have hll : (lst (dig S) (len N)).length ≤ 1000000 := by rw [lst_length]; omega
        have hB1 := Lib.hid (hB.out.on (below_one wr (.cells #[.int .u32 (cc : Int)] 62)))
        clear hl1 hbel
        go_wp2_with (at_builtin; go_loud (refine wpList_push _ rfl _ _ rfl (w.heap.size + 2) _ (lst (dig S) (len N)) cc rfl hO1.out ⟨wr.heap.size, 0, none⟩ _ rfl (box1a _ _ _) (by omega) hll (by simp; omega) ?_; intro v2 w2 hv2 hb2))
        rw [← HLL.out, ← lst_succ] at hv2
        have hB2 := Lib.hid (hB1.out.on2 hb2)
        refine (trim_c v2 _ w2 hv2.sl (by rw [lst_length]; omega)).mono ?_
        rw [lst_fill, fill_val HL2.out]
        rintro e w3 ⟨⟨a3, c3, rfl, hv3⟩, hb3⟩
        have B3 := Lib.hid (hB2.out.on hb3)
        have HN := Lib.hid (show Nt w3 (.slice a3 (len S) c3) S ∧ Fr (w.heap.size + 2) (.slice a3 (len S) c3) from ⟨hv3.out.1, Fr.mono hv3.out.2 (by have := hB2.out.2.1; omega)⟩)
        clear hv2 hb2 hb3 hv3 z0 p0 p1 p2
        obtain ⟨_, z0, p0, p1, p2⟩ := B3.out
        go_wp2
        exact bodyPost_ret (v := .agg #[.slice a3 (len S) c3]) (by simp [results, Try.results52, go_sem, p1]) rfl ⟨⟨a3, c3, rfl, Lib.hid ⟨HN.out.1.set (a := ⟨w.heap.size + 1, 0, none⟩) HN.out.2 (by dsimp only; omega) _, Fr.mono HN.out.2 (by omega)⟩⟩, B3.out.1.setCell (by dsimp only; omega) _⟩

set_option maxHeartbeats 400000 in
theorem longer_c (a b : Value) (N M : Nat) (w : World) (ha : Nt w a N) (hb : Nt w b M) (h1 : len N ≤ 1000) (h2 : len M ≤ 64) :
    Calls Try.prog 53 #[.agg #[a], .agg #[b]] w fun e w' => e = .returned (.bool (decide (M ≤ N))) ∧ Below w.heap.size w w' := by
  have HA := Lib.hid ha
  have HB := Lib.hid hb
  obtain ⟨ao, ca, rfl, a1, a2, -⟩ := ha.open
  obtain ⟨bo, cb, rfl, b1, b2, -⟩ := hb.open
  by_cases hl : len N = len M
  · have cC := Lib.hid (fun W ha hb => refCompare_c (.slice ao (len N) ca) (.slice bo (len M) cb) N M W ha hb (by omega) h2)
    have ht : ((len N : Int) != (len M : Int)) = false := by simp; omega
    have hr : decide (0 ≤ cmp N M) = decide (M ≤ N) := by
      unfold cmp
      by_cases h : N < M
      · rw [if_pos h]; simp; omega
      · rw [if_neg h]; split <;> simp <;> omega
    have HR := Lib.hid hr
    clear ha hb h1 h2 hl hr
    generalize cmp N M = c at *
    generalize len N = n at *
    generalize len M = m at *
    go_enter Try.func53, Try.ntmps53
    go_wp2_with fail
    refine (cC.out _ (HA.out.below' (below_two _ _ _)) (HB.out.below' (below_two _ _ _))).mono ?_
    rintro e w1 ⟨rfl, hb1⟩
    have B1 := Lib.hid ((below_two w (.cells #[.slice ao n ca] 24) (.cells #[.slice bo m cb] 24)).trans (hb1.mono (by simp; omega)))
    clear hb1
    go_wp2
    go_ret
    exact ⟨retb HR.out, B1.out⟩
  · have ht : ((len N : Int) != (len M : Int)) = true := by simp; omega
    have hr : decide (len M < len N) = decide (M ≤ N) := by
      by_cases h : len M < len N
      · rw [decide_eq_true h, decide_eq_true (Nat.le_of_lt (cmp_len h))]
      · have : N < M := cmp_len (by omega)
        rw [decide_eq_false h, decide_eq_false (by omega)]
    have HR := Lib.hid hr
    clear ha hb h1 h2 hl hr
    generalize len N = n at *
    generalize len M = m at *
    go_enter Try.func53, Try.ntmps53
    go_wp2
    go_ret
    exact ⟨retb HR.out, below_two _ _ _⟩
end Go.Proofs.Ytgogfjehbaiklaa

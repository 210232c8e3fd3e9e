/- The contract of equal, at equal numbers. -/
import Derived.Test.YtgogfjehbaiklaaNatEnv4
namespace Go.Proofs.Ytgogfjehbaiklaa
open Go.RowKit NatMath
set_option linter.unusedVariables false

theorem Own.four (w : World) (o : Obj) (a b c d : Nat) : Own ((w.alloc o).alloc (.cells #[.int .u32 (a : Int), .int .u32 (b : Int), .int .u32 (c : Int), .int .u32 (d : Int)] 62)) (w.heap.size + 1) [a, b, c, d] := by
  unfold Own
  show ((w.heap.push o).push _)[w.heap.size + 1]? = _
  rw [Array.getElem?_push, if_pos (by simp)]
  rfl
theorem four_words {S lo hi : Nat} (hS : S = lo + hi * 18446744073709551616) (h1 : lo < 18446744073709551616) (h2 : hi < 18446744073709551616) :
    lo % 4294967296 = dig S 0 ∧ lo / 4294967296 % 4294967296 = dig S 1 ∧ hi % 4294967296 = dig S 2 ∧ hi / 4294967296 % 4294967296 = dig S 3 ∧ len S ≤ 4 := by
  refine ⟨?_, ?_, ?_, ?_, ?_⟩
  · unfold dig; rw [Bp_zero, Nat.div_one]; omega
  · unfold dig; rw [Bp_one]; omega
  · unfold dig; rw [show Bp 2 = 18446744073709551616 from rfl]; omega
  · unfold dig; rw [show Bp 3 = 79228162514264337593543950336 from rfl]; omega
  · rw [len_le_iff, show Bp 4 = 340282366920938463463374607431768211456 from rfl]; omega

set_option maxHeartbeats 1000000 in
theorem equal_c (v : Value) (S lo hi : Nat) (w : World) (hS : S = lo + hi * 18446744073709551616) (h1 : lo < 18446744073709551616) (h2 : hi < 18446744073709551616) (h : Nt w v S) :
    Calls Try.prog 38 #[.agg #[v], .int .u64 (lo : Int), .int .u64 (hi : Int)] w fun e w' => e = .returned (.bool true) ∧ Below w.heap.size w w' := by
  obtain ⟨d0, d1, d2, d3, hl⟩ := four_words hS h1 h2
  obtain ⟨ao, ca, rfl, a1, a2, hc⟩ := h.open
  have k1 : IntKind.u32.wrap (lo : Int) = ((lo % 4294967296 : Nat) : Int) := by rw [IntKind.wrap_u32]; omega
  have k2 : (lo : Int) / 4294967296 = ((lo / 4294967296 : Nat) : Int) := by omega
  have k3 : IntKind.u32.wrap ((lo / 4294967296 : Nat) : Int) = ((lo / 4294967296 % 4294967296 : Nat) : Int) := by rw [IntKind.wrap_u32]; omega
  have k4 : IntKind.u32.wrap (hi : Int) = ((hi % 4294967296 : Nat) : Int) := by rw [IntKind.wrap_u32]; omega
  have k5 : (hi : Int) / 4294967296 = ((hi / 4294967296 : Nat) : Int) := by omega
  have k6 : IntKind.u32.wrap ((hi / 4294967296 : Nat) : Int) = ((hi / 4294967296 % 4294967296 : Nat) : Int) := by rw [IntKind.wrap_u32]; omega
  rw [d0] at k1
  rw [d1] at k3
  rw [d2] at k4
  rw [d3] at k6
  have b1 : lo / 4294967296 < 4294967296 := by omega
  have b2 : hi / 4294967296 < 4294967296 := by omega
  have c0 := dig_lt S 0
  have c1 := dig_lt S 1
  have c2 := dig_lt S 2
  have c3 := dig_lt S 3
  have HD : Hid (∀ k, k < 4 → [dig S 0, dig S 1, dig S 2, dig S 3].getD k 0 = dig S k) := Lib.hid (fun k hk => by
    rcases k with _ | _ | _ | _ | k
    · rfl
    · rfl
    · rfl
    · rfl
    · omega)
  have HC := Lib.hid hc
  have HO := Lib.hid (Own.four w (.cells #[.slice ao (len S) ca] 24) (dig S 0) (dig S 1) (dig S 2) (dig S 3))
  have HB := Lib.hid (below_two w (.cells #[.slice ao (len S) ca] 24) (.cells #[.int .u32 (dig S 0 : Nat), .int .u32 (dig S 1 : Nat), .int .u32 (dig S 2 : Nat), .int .u32 (dig S 3 : Nat)] 62))
  have p0 := box2a w (.slice ao (len S) ca) 24 (.cells #[.int .u32 (dig S 0 : Nat), .int .u32 (dig S 1 : Nat), .int .u32 (dig S 2 : Nat), .int .u32 (dig S 3 : Nat)] 62)
  generalize lo / 4294967296 = l1 at *
  generalize hi / 4294967296 = h1' at *
  generalize hx0 : dig S 0 = x0 at *
  generalize hx1 : dig S 1 = x1 at *
  generalize hx2 : dig S 2 = x2 at *
  generalize hx3 : dig S 3 = x3 at *
  have hln : (len S : Int) ≤ 4 := by omega
  have g1 : decide (4 < (len S : Int)) = false := decide_eq_false (by omega)
  have H0 : Hid (S ≠ 0 ↔ len S ≠ 0) := Lib.hid (not_congr len_eq_zero.symm)
  clear d0 d1 d2 d3 hx0 hx1 hx2 hx3 hc h hS
  go_enter Try.func38, Try.ntmps38
  go_wp2_with fail
  generalize hW : (w.alloc (.cells #[.slice ao (len S) ca] 24)).alloc (.cells #[.int .u32 (x0 : Nat), .int .u32 (x1 : Nat), .int .u32 (x2 : Nat), .int .u32 (x3 : Nat)] 62) = W at *
  clear hW
  go_loop [28] (fun s28 => ∃ k : Nat, s28 = .int .i64 (k : Int) ∧ k ≤ 4) (fun s28 => 4 - (RowKit.intOf s28).toNat)
  case atStart => exact ⟨0, rfl, by omega⟩
  case round =>
    obtain ⟨k, rfl, hk⟩ := hrel
    by_cases hk4 : k < 4
    · have t1 : decide ((k : Int) < 4) = true := decide_eq_true (by omega)
      have cw := HO.out.cell (i := k) (by simp; omega)
      rw [HD.out k hk4] at cw
      have hdk := dig_lt S k
      by_cases hks : k < len S
      · have t2 : decide (k < len S) = true := decide_eq_true hks
        obtain ⟨b, off, rfl, hb, hcc⟩ := HC.out (H0.out.2 (by omega))
        have cv := (HB.out.cell (p := ⟨b, off + k, none⟩) hb).trans (hcc k hks)
        clear hcc
        generalize dig S k = u at *
        go_wp2
        go_round
        case rel => exact ⟨k + 1, by go_num, by omega⟩
        case measure => simp [RowKit.intOf]; omega
      · have t2 : decide (k < len S) = false := decide_eq_false hks
        rw [dig_above (by omega)] at cw
        go_wp2
        go_round
        case rel => exact ⟨k + 1, by go_num, by omega⟩
        case measure => simp [RowKit.intOf]; omega
    · obtain rfl : k = 4 := by omega
      have t1 : decide (((4 : Nat) : Int) < 4) = false := rfl
      by_cases h0 : S = 0
      · have e0 : len S = 0 := by rw [h0, len_zero]
        clear HD HO HC h0
        go_wp2
        go_ret
        exact ⟨rfl, HB.out⟩
      · obtain ⟨b, off, rfl, hb, hcc⟩ := HC.out h0
        have hln0 : len S ≠ 0 := H0.out.1 h0
        have cv := (HB.out.cell (p := ⟨b, off + (len S - 1), none⟩) hb).trans (hcc (len S - 1) (by omega))
        have hd := dig_top h0
        have hdu := dig_lt S (len S - 1)
        have t2 : ((len S : Int) == 0) = false := by simp; omega
        have e3 : (len S : Int) - 1 = ((len S - 1 : Nat) : Int) := by omega
        have e4 : len S - 1 < len S := by omega
        generalize dig S (len S - 1) = u at *
        generalize hm : len S - 1 = m at *
        have t3 : ((u : Int) != 0) = true := by simp; omega
        have t4 : ((u : Int) == 0) = false := by simp; omega
        clear hcc HD HO HC h0 hm
        go_wp2
        go_ret
        exact ⟨rfl, HB.out⟩
end Go.Proofs.Ytgogfjehbaiklaa

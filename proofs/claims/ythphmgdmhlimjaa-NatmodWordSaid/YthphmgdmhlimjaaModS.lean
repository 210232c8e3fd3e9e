/- slices.Equal; great; is. -/
import Derived.Test.YthphmgdmhlimjaaModRb
namespace Go.Proofs.Ythphmgdmhlimjaa
open Go.RowKit NatMath
set_option linter.unusedVariables false

set_option maxHeartbeats 1000000 in
theorem Equal_c (a b : Value) (la lb : List Nat) (w : World) (ha : Sl w a la) (hb : Sl w b lb) :
    Calls Try.prog 33 #[a, b] w fun e w' => e = .returned (.bool (decide (la = lb))) ∧ Below w.heap.size w w' := by
  obtain ⟨ao, ca, rfl, a1, a2, a3⟩ := ha.open
  obtain ⟨bo, cb, rfl, b1, b2, b3⟩ := hb.open
  by_cases hl : la.length = lb.length
  · rw [← hl] at b1 b3
    have hne : Hid ((∀ i, i < la.length → la.getD i 0 = lb.getD i 0) → la = lb) := Lib.hid (fun h => list_ext_getD hl h)
    have hN0 : Hid (0 < la.length → la ≠ [] ∧ lb ≠ []) := Lib.hid (fun h => ⟨fun e => by rw [e] at h; simp at h, fun e => by rw [hl, e] at h; simp at h⟩)
    have hd : Hid (∀ k, la.getD k 0 ≠ lb.getD k 0 → decide (la = lb) = false) := Lib.hid (fun k h => decide_eq_false (fun e => h (by rw [e])))
    have ht : Hid (la = lb → decide (la = lb) = true) := Lib.hid (fun h => decide_eq_true h)
    have A3 := Lib.hid a3
    have B3 := Lib.hid b3
    have hn' : (la.length : Int) ≤ 9223372036854775807 := by omega
    have hlt1 : Hid (∀ i, la.getD i 0 < 4294967296) := Lib.hid (fun i => getD_lt ha.choose_spec.choose_spec.2.2.2.1 i)
    have hlt2 : Hid (∀ i, lb.getD i 0 < 4294967296) := Lib.hid (fun i => getD_lt hb.choose_spec.choose_spec.2.2.2.1 i)
    rw [← hl]
    clear ha hb a3 b3 hl
    generalize la.length = n at *
    generalize decide (la = lb) = R at *
    go_enter Try.func33, Try.ntmps33
    go_wp2
    go_loopw [13] (fun s13 wr => ∃ k : Nat, s13 = .int .i64 (k : Int) ∧ k ≤ n ∧ Hid (∀ i, i < k → la.getD i 0 = lb.getD i 0) ∧ Qw w wr) (fun s13 _ => (n - RowKit.intOf s13).toNat)
    case atStart => exact ⟨0, rfl, Nat.zero_le _, Lib.hid (by omega), Qw.refl _⟩
    case round =>
      obtain ⟨k, rfl, hk, HI, hq⟩ := hrel
      have hb0 := hq.below w.heap.size
      have zr : w.heap.size ≤ wr.heap.size := hb0.size
      have HB0 := Lib.hid hb0
      by_cases h0 : k = n
      · subst h0
        have hR := ht.out (hne.out HI.out)
        have ht1 : decide (k < k) = false := decide_eq_false (by omega)
        subst hR
        clear hb0
        go_wp2
        go_ret
        exact ⟨rfl, HB0.out⟩
      · have hkn : k < n := by omega
        have ht1 : decide (k < n) = true := decide_eq_true hkn
        obtain ⟨n1, n2⟩ := hN0.out (by omega)
        obtain ⟨ba, offa, rfl, s1, ca1⟩ := A3.out n1
        obtain ⟨bb, offb, rfl, s2, cb1⟩ := B3.out n2
        have c1 := (hb0.cell (p := ⟨ba, offa + k, none⟩) s1).trans (ca1 k hkn)
        have c2 := (hb0.cell (p := ⟨bb, offb + k, none⟩) s2).trans (cb1 k hkn)
        have hs1 : ba < wr.heap.size := by omega
        have hs2 : bb < wr.heap.size := by omega
        have hstep : Hid (la.getD k 0 = lb.getD k 0 → ∀ i, i < k + 1 → la.getD i 0 = lb.getD i 0) := Lib.hid (fun h i hi => by
          by_cases e : i = k
          · rw [e]; exact h
          · exact HI.out i (by omega))
        have hdk := Lib.hid (hd.out k)
        have hki : (k : Int) < (n : Int) := by omega
        have u1 := hlt1.out k
        have u2 := hlt2.out k
        generalize la.getD k 0 = x at *
        generalize lb.getD k 0 = y at *
        clear ca1 cb1 hb0
        by_cases hxy : x = y
        · subst hxy
          have hb1 : ((x : Int) != (x : Int)) = false := by simp
          have HS := Lib.hid (hstep.out rfl)
          go_wp2_with fail
          go_quiet (fail)
          go_wp2
          go_roundw
          case rel => exact ⟨k + 1, rfl, by omega, HS, Qw.drewN hq _⟩
          case measure => simp [RowKit.intOf]; omega
        · have hb1 : ((x : Int) != (y : Int)) = true := by simp; omega
          have hR := hdk.out hxy
          subst hR
          go_wp2_with fail
          go_quiet (fail)
          go_wp2
          go_ret
          exact ⟨rfl, below_drewN HB0.out _⟩
  · have hne : decide (la = lb) = false := decide_eq_false (fun e => hl (by rw [e]))
    rw [hne]
    have hb1 : ((la.length : Int) != (lb.length : Int)) = true := by simp; omega
    clear ha hb a3 b3 hne hl
    generalize la.length = n at *
    generalize lb.length = m at *
    go_enter Try.func33, Try.ntmps33
    go_wp2
    go_ret
    exact ⟨rfl, Below.refl _ _⟩

end Go.Proofs.Ythphmgdmhlimjaa

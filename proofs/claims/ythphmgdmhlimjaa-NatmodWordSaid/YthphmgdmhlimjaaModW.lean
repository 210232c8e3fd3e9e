/- The contract of shifted. -/
import Derived.Test.YthphmgdmhlimjaaNatMath4
import Derived.Test.YthphmgdmhlimjaaModV
namespace Go.Proofs.Ythphmgdmhlimjaa
open Go.RowKit NatMath
set_option linter.unusedVariables false

set_option maxHeartbeats 1000000 in
theorem shifted_c (a : Value) (N s : Nat) (w : World) (ha : Nt w a N) (h1 : len N ≤ 1000) (hs : s < 32) :
    Calls Try.prog 88 #[a, .int .i64 s] w fun e w' => ∃ g l, e = .returned (.slice (some ⟨g, 0, none⟩) (len N + 1) (len N + 1)) ∧ Hid (Own w' g l ∧ l.length = len N + 1 ∧ words l ∧ val l = N * 2 ^ s) ∧ w.heap.size ≤ g ∧ g < w'.heap.size ∧ Below w.heap.size w w' := by
  have HA := Lib.hid ha
  obtain ⟨ao, ca, rfl, a1, a2, _⟩ := ha.open
  clear ha
  obtain ⟨g, hg⟩ : ∃ g, w.heap.size = g := ⟨_, rfl⟩
  have hs2 : (s : Int) < 32 := by omega
  go_enter Try.func88, Try.ntmps88
  go_wp2_with (at_make; go_loud (refine wpList_make_words _ rfl _ _ rfl (len N + 1) _ _ rfl rfl (by rw [Int.natCast_add]; rfl) (by rw [Int.natCast_add]; rfl) (by omega) g hg ?_; intro w3 hO hB))
  have hO0 : Hid (Own w3 g (List.replicate (len N + 1) 0)) := Lib.hid hO
  have BW : Hid (Below g w w3) := Lib.hid hB
  clear hO hB
  have hn : (len N : Int) ≤ 1000 := by omega
  go_loopw [15] (fun s15 wr => ∃ k : Nat, s15 = .int .i64 (k : Int) ∧ k ≤ len N ∧ (∃ l, Hid (Own wr g l) ∧ Hid (ShI N s k l)) ∧ Hid (Below g w wr)) (fun s15 _ => len N - (RowKit.intOf s15).toNat)
  case atStart => exact ⟨0, rfl, Nat.zero_le _, ⟨_, hO0, Lib.hid (ShI.zero N s)⟩, BW⟩
  case round =>
    obtain ⟨k, rfl, hk, ⟨l, hO, hI⟩, hB⟩ := hrel
    have hgr : g < wr.heap.size := hO.out.lt
    have hBW : Hid (Below w.heap.size w wr) := Lib.hid (by rw [hg]; exact hB.out)
    by_cases h0 : k < len N
    · have hx0 : N ≠ 0 := fun e => by rw [e, len_zero] at h0; omega
      obtain ⟨ao', cx', ex, _, _, hx⟩ := (HA.out.below' hBW.out).open
      obtain ⟨rfl, rfl⟩ : ao' = ao ∧ cx' = ca := by simp at ex; exact ⟨ex.1.symm, ex.2.symm⟩
      obtain ⟨bx, offx, rfl, hbx, hcx⟩ := hx hx0
      have hcx1 := hcx k h0
      obtain ⟨t, ht⟩ : ∃ t, t = dig N k * 2 ^ s := ⟨_, rfl⟩
      obtain ⟨q1, q2, q3, q4, q5⟩ := hI.out.step h0 hs ht
      have hlen := hI.out.1
      have hw := hI.out.2.1
      have hu := dig_lt N k
      have hfr := hO.out.frozen k
      have hfr1 := hO.out.frozen (k + 1)
      have hcell := hO.out.cell (i := k) (by omega)
      have hcell1 := hO.out.cell (i := k + 1) (by omega)
      have hob := getD_lt hw k
      generalize l.getD (k + 1) 0 = y1 at *
      generalize dig N k = u at *
      generalize l.getD k 0 = y at *
      have HT := Lib.hid ht
      have e1 : IntKind.u64.wrap ((u : Int) * 2 ^ s) = (t : Int) := by
        rw [show (u : Int) * 2 ^ s = (t : Int) from by rw [ht]; push_cast; rfl]
        exact IntWalk.u64_in _ (by omega)
      have e2 : IntKind.u32.wrap (t : Int) = ((t % 4294967296 : Nat) : Int) := by rw [IntKind.wrap_u32]; omega
      have e3 : (t : Int) / 4294967296 = ((t / 4294967296 : Nat) : Int) := by omega
      have hO2 := hO.out.set k (y + t % 4294967296)
      have hO3 := hO2.set (k + 1) (t / 4294967296)
      have hfr2 := hO2.frozen (k + 1)
      have tl : t % 4294967296 < 4294967296 := Nat.mod_lt _ (by omega)
      generalize t % 4294967296 = a at *
      generalize t / 4294967296 = b at *
      have e4 : bits .or .u32 (y : Int) (a : Int) = ((y + a : Nat) : Int) := by rw [u32_or_nat y a hob tl, q2]
      have hz : y + a < 4294967296 := q3
      generalize y + a = z at *
      have HO3 := Lib.hid hO3
      have HI := Lib.hid q5
      have ek : (k : Int) + 1 < (len N + 1 : Nat) := by omega
      have ek1 : k + 1 < len N + 1 := by omega
      have ek2 : k < len N + 1 := by omega
      clear ht q2 q3 q5 hO2 hO3 hx ex hcx hlen hw
      go_wp2
      go_roundw
      case rel => exact ⟨k + 1, by go_num, by omega, ⟨_, HO3, HI⟩, Lib.hid ((hB.out.setCell (Nat.le_refl _) _).setCell (Nat.le_refl _) _)⟩
      case measure => simp [RowKit.intOf]; omega
    · obtain rfl : k = len N := by omega
      have ht : decide (len N < len N) = false := decide_eq_false (Nat.lt_irrefl _)
      have hd := Lib.hid hI.out.done
      go_wp2
      go_ret
      exact ⟨g, l, rfl, Lib.hid ⟨hO.out, hd.out⟩, by omega, hgr, hBW.out⟩
end Go.Proofs.Ythphmgdmhlimjaa

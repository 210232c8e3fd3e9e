/- The contracts of trimmed, checked, Of. -/
import Derived.Test.YthphmgdmhlimjaaNatB
namespace Go.Proofs.Ythphmgdmhlimjaa
open Go.RowKit NatMath
set_option linter.unusedVariables false

/-- the slice value lies in blocks from n on (or nowhere) -/
def Fr (n : Nat) (v : Value) : Prop := ∀ a k c, v = .slice (some a) k c → n ≤ a.block

theorem ownBlock_slice (ao : Option Addr) (n m c d : Nat) : (Value.slice ao n c).ownBlock = (Value.slice ao m d).ownBlock := by cases ao <;> rfl

/-- a struct of one slice came back, of which P is known in the world behind the call -/
def RetW (P : World → Value → Prop) (e : Ending) (w' : World) : Prop := ∃ v : Value, Hid (P w' v) ∧ e = .returned (.agg #[v])

set_option maxHeartbeats 1000000 in
theorem trimmed_c (v : Value) (l : List Nat) (w : World) (h : Sl w v l) :
    Calls Try.prog 69 #[v] w fun e w' => RetW (fun _ v' => (∀ W, Sl W v l → Nt W v' (val l)) ∧ v'.ownBlock = v.ownBlock) e w' ∧ Below w.heap.size w w' := by
  obtain ⟨ao, cap, rfl, h1, h2, h3, h4, _⟩ := h
  have hfin : ∀ k : Nat, k ≤ l.length → val (l.take k) = val l → (k = 0 ∨ l.getD (k - 1) 0 ≠ 0) → ∀ W, Sl W (.slice ao l.length cap) l → Nt W (.slice ao k cap) (val l) := by
    intro k hk hv hn W hb
    have hd := digs_take h3 hk hv hn
    obtain ⟨ao', cap', e0, m1, m2, m3, m4, m5⟩ := hb
    obtain ⟨rfl, _, rfl⟩ := Value.slice.inj e0
    unfold Nt
    rw [hd]
    refine ⟨ao, cap, by rw [List.length_take, Nat.min_eq_left hk], by rw [List.length_take]; omega, h2, words_take h3 k, fun hne => ?_, m5⟩
    obtain ⟨b, off, e1, e2, e3⟩ := m4 (by rintro rfl; simp at hne)
    refine ⟨b, off, e1, e2, fun i hi => ?_⟩
    rw [List.length_take] at hi
    rw [getD_take (by omega)]
    exact e3 i (by omega)
  have hval : ∀ k, k < l.length → l.getD k 0 = 0 → val (l.take k) = val (l.take (k + 1)) := fun k hk hz => val_take_zero hk hz
  have hall : val (l.take l.length) = val l := by rw [List.take_length]
  have HF := Lib.hid hfin
  have HV := Lib.hid hval
  have HA := Lib.hid hall
  have H4 := Lib.hid h4
  have hne : Hid (0 < l.length → l ≠ []) := Lib.hid (by rintro h rfl; simp at h)
  have hnl : (l.length : Int) ≤ 9223372036854775807 := by omega
  have hlt : Hid (∀ i, l.getD i 0 < 4294967296) := Lib.hid (by intro i; rw [dig_val h3]; exact dig_lt _ _)
  clear hfin hval hall h3 h4
  generalize hn : l.length = n at *
  clear hn
  go_enter Try.func69, Try.ntmps69
  go_wp2
  go_loop [0] (fun s0 => ∃ k : Nat, s0 = .slice ao k cap ∧ k ≤ n ∧ Hid (val (l.take k) = val l)) (fun s0 => match s0 with | .slice _ k _ => k | _ => 0)
  case atStart => exact ⟨n, rfl, Nat.le_refl _, HA⟩
  case round =>
    obtain ⟨k, rfl, hk, HI⟩ := hrel
    by_cases h0 : k = 0
    · have hf0 := HF.out 0 (Nat.zero_le _) (by have := HI.out; rw [h0] at this; exact this) (Or.inl rfl)
      have HF0 := Lib.hid hf0
      subst h0
      clear hf0
      go_wp2
      refine bodyPost_ret (v := .agg #[.slice ao 0 cap]) (by simp [results, Try.results69, go_sem]) rfl ⟨⟨_, Lib.hid ⟨HF0.out, ownBlock_slice _ _ _ _ _⟩, rfl⟩, below_one _ _⟩
    · obtain ⟨j, rfl⟩ : ∃ j, k = j + 1 := ⟨k - 1, by omega⟩
      obtain ⟨b, off, rfl, hb, hc⟩ := H4.out (hne.out (by omega))
      have hcell := hc j (by omega)
      have hu := hlt.out j
      have hvj := HV.out j (by omega)
      by_cases hz : l.getD j 0 = 0
      · have HI2 : Hid (val (l.take j) = val l) := Lib.hid (by rw [hvj hz]; exact HI.out)
        rw [hz] at hcell
        clear hvj hz hu hc HI
        go_wp2
        go_round
        case rel => exact ⟨j, rfl, by omega, HI2⟩
        case measure => simp
      · have hfj := HF.out (j + 1) (by omega) HI.out (Or.inr (by rw [Nat.add_sub_cancel]; exact hz))
        have HFJ := Lib.hid hfj
        generalize l.getD j 0 = u at *
        have hb0 : ((u : Int) == 0) = false := by simp; omega
        clear hvj hc HI hfj
        go_wp2
        refine bodyPost_ret (v := .agg #[.slice (some ⟨b, off, none⟩) (j + 1) cap]) (by simp [results, Try.results69, go_sem]) rfl ⟨⟨_, Lib.hid ⟨HFJ.out, rfl⟩, rfl⟩, below_one _ _⟩
end Go.Proofs.Ythphmgdmhlimjaa

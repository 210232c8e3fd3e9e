/- Inverse, Gcd, Pow and Crt by their errors' codes. -/
import Derived.Test.YthphmgdmhlimjaaModL3
namespace Go.Proofs.Ythphmgdmhlimjaa
open Go.RowKit NatMath
set_option linter.unusedVariables false
theorem gvn_fst1 {la lc : List Nat} : gvn la la lc = fstc lc [la] := by
  unfold gvn fstc
  by_cases h1 : mdl lc = true <;> by_cases h2 : vld la = true <;> simp [h1, h2]
theorem mul_z {a b c : Value} {la lb lc : List Nat} {g : Int} {w : World} (hg : fstc lc [la, lb] = g) (h0 : g ≠ 0) (ha : Sl w a la) (hb : Sl w b lb) (hc : Sl w c lc) :
    Calls Try.prog 28 #[.agg #[a], .agg #[b], .agg #[c]] w fun e w' => ResZ g e ∧ Below w.heap.size w w' := calls_z (Mul_e (gvn_fst.trans hg) h0 ha hb hc)
theorem gcd_m {a b : Value} {N M r : Nat} {w : World} (hr : Nat.gcd N M = r) (h1 : len N ≤ 64) (h2 : len M ≤ 64) (ha : Nt w a N) (hb : Nt w b M) :
    Calls Try.prog 29 #[.agg #[a], .agg #[b]] w fun e w' => ResN r 0 e w' ∧ Below w.heap.size w w' := by
  subst hr
  obtain ⟨ao, ca, rfl, _⟩ := ha.open
  obtain ⟨bo, cb, rfl, _⟩ := hb.open
  exact Gcd_w ao ca bo cb N M w ha hb h1 h2
theorem gcd_z {a b : Value} {la lb : List Nat} {w : World} (h : vld la = false ∨ vld lb = false) (ha : Sl w a la) (hb : Sl w b lb) :
    Calls Try.prog 29 #[.agg #[a], .agg #[b]] w fun e w' => ResZ 1 e ∧ Below w.heap.size w w' := by
  obtain ⟨ao, ca, rfl, _⟩ := ha.open
  obtain ⟨bo, cb, rfl, _⟩ := hb.open
  cases hv : vld la
  · exact calls_z (Gcd_b1 ao ca bo cb la lb w ha hb hv)
  · exact calls_z (Gcd_b2 ao ca bo cb la lb w ha hb hv (h.resolve_left (by rw [hv]; simp)))
theorem inv_z {a b : Value} {la lb : List Nat} {g : Int} {w : World} (hg : fstc lb [la] = g) (h0 : g ≠ 0) (ha : Sl w a la) (hb : Sl w b lb) :
    Calls Try.prog 30 #[.agg #[a], .agg #[b]] w fun e w' => ResZ g e ∧ Below w.heap.size w w' := by
  obtain ⟨ao, ca, rfl, _⟩ := ha.open
  obtain ⟨bo, cb, rfl, _⟩ := hb.open
  exact calls_z (Inverse_b ao ca bo cb la lb g w ha hb (gvn_fst1.trans hg) h0)
theorem inv_m {a b : Value} {N M V : Nat} {w : World} (hV : invV N M = V) (ht : decide (invG N M = 1) = true) (hn : N < M) (hk : len M ≤ 32) (ha : Nt w a N) (hb : Nt w b M) :
    Calls Try.prog 30 #[.agg #[a], .agg #[b]] w fun e w' => ResN V 0 e w' ∧ Below w.heap.size w w' := by
  obtain ⟨ao, ca, rfl, _⟩ := ha.open
  obtain ⟨bo, cb, rfl, _⟩ := hb.open
  exact Inverse_t ao ca bo cb N M V w ha hb hV ht hn hk
theorem inv_n {a b : Value} {N M : Nat} {w : World} (ht : decide (invG N M = 1) = false) (hn : N < M) (hk : len M ≤ 32) (ha : Nt w a N) (hb : Nt w b M) :
    Calls Try.prog 30 #[.agg #[a], .agg #[b]] w fun e w' => ResZ 10 e ∧ Below w.heap.size w w' := by
  obtain ⟨ao, ca, rfl, _⟩ := ha.open
  obtain ⟨bo, cb, rfl, _⟩ := hb.open
  exact calls_z (Inverse_f ao ca bo cb N M _ w ha hb rfl ht hn hk)
theorem pow_m {a b c : Value} {N E Q r : Nat} {w : World} (hr : N ^ E % Q = r) (he : len E ≤ 64) (hn : N < Q) (hk : len Q ≤ 32) (ha : Nt w a N) (hb : Nt w b E) (hc : Nt w c Q) :
    Calls Try.prog 36 #[.agg #[a], .agg #[b], .agg #[c]] w fun e w' => ResN r 0 e w' ∧ Below w.heap.size w w' := by
  subst hr
  obtain ⟨ao, ca, rfl, _⟩ := ha.open
  obtain ⟨bo, cb, rfl, _⟩ := hb.open
  obtain ⟨co, cc, rfl, _⟩ := hc.open
  exact Pow_w ao ca bo cb co cc N E Q w ha hb hc he hn hk
theorem pow_z1 {a b c : Value} {la le lm : List Nat} {w : World} (hv : vld le = false) (ha : Sl w a la) (hb : Sl w b le) (hc : Sl w c lm) :
    Calls Try.prog 36 #[.agg #[a], .agg #[b], .agg #[c]] w fun e w' => ResZ 1 e ∧ Below w.heap.size w w' := by
  obtain ⟨ao, ca, rfl, _⟩ := ha.open
  obtain ⟨bo, cb, rfl, _⟩ := hb.open
  obtain ⟨co, cc, rfl, _⟩ := hc.open
  exact calls_z (Pow_b1 ao ca bo cb co cc la le lm w ha hb hc hv)
theorem pow_z2 {a b c : Value} {la le lm : List Nat} {g : Int} {w : World} (hv : vld le = true) (hg : fstc lm [la] = g) (h0 : g ≠ 0) (ha : Sl w a la) (hb : Sl w b le) (hc : Sl w c lm) :
    Calls Try.prog 36 #[.agg #[a], .agg #[b], .agg #[c]] w fun e w' => ResZ g e ∧ Below w.heap.size w w' := by
  obtain ⟨ao, ca, rfl, _⟩ := ha.open
  obtain ⟨bo, cb, rfl, _⟩ := hb.open
  obtain ⟨co, cc, rfl, _⟩ := hc.open
  exact calls_z (Pow_b2 ao ca bo cb co cc la le lm g w ha hb hc hv (gvn_fst1.trans hg) h0)
end Go.Proofs.Ythphmgdmhlimjaa

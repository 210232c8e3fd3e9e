/- Div, for the walks of statements. -/
import Derived.Test.YtgogfjehbaiklaaNatEnv3
import Derived.Test.YtgogfjehbaiklaaNatY
namespace Go.Proofs.Ytgogfjehbaiklaa
open Go.RowKit NatMath
set_option linter.unusedVariables false
/-- quotient and remainder, as slices written out -/
def ResD (q r : Nat) (e : Ending) (w' : World) : Prop := ∃ (qa : Option Addr) (qk : Nat) (ra : Option Addr) (rk : Nat), e = .returned (.tuple #[.agg #[.slice qa (len q) qk], .agg #[.slice ra (len r) rk], .int .i64 0]) ∧ Hid (Nt w' (.slice qa (len q) qk) q) ∧ Hid (Nt w' (.slice ra (len r) rk) r)
section
variable {a b : Value} {N M q r : Nat} {w : World}
theorem divB (hq : Hid (N / M = q)) (hr : Hid (N % M = r)) (ha : Nt w a N) (hb : Nt w b M) (h1 : len N ≤ 64) (h2 : len M ≤ 64) (h0 : M ≠ 0) :
    Calls Try.prog 14 #[.agg #[a], .agg #[b]] w fun e w' => ResD q r e w' ∧ Below w.heap.size w w' := by
  refine (Div_c a b N M w ha hb h1 h2 h0).mono ?_
  rw [hq.out, hr.out]
  rintro e w' ⟨⟨u, v, h, rfl⟩, hb⟩
  obtain ⟨k1, _, k2, _⟩ := h.out
  obtain ⟨qa, qk, rfl, _⟩ := k1.open
  obtain ⟨ra, rk, rfl, _⟩ := k2.open
  exact ⟨⟨qa, qk, ra, rk, rfl, Lib.hid k1, Lib.hid k2⟩, hb⟩
theorem validN (ha : Nt w a N) (h : len N ≤ 64) :
    Calls Try.prog 22 #[.agg #[a]] w fun e w' => e = .returned (.bool true) ∧ Below w.heap.size w w' := by
  have := Valid_c a (digs N) w ha
  rwa [vld_digs, decide_eq_true h] at this
theorem compareB {c : Int} (hc : Hid (cmp N M = c)) (ha : Nt w a N) (hb : Nt w b M) (h1 : len N ≤ 64) (h2 : len M ≤ 64) :
    Calls Try.prog 23 #[.agg #[a], .agg #[b]] w fun e w' => e = .returned (.int .i64 c) ∧ Below w.heap.size w w' := by
  rw [← hc.out]; exact Compare_c a b N M w ha hb h1 h2
end
end Go.Proofs.Ytgogfjehbaiklaa

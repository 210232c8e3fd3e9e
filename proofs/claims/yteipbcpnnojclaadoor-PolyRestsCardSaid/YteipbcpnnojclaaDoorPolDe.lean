/- Polynomials modulo a prime: the leading coefficient has an inverse; Div's contracts by the two results. -/
import Derived.Test.YteipbcpnnojclaaDoorPolBa
import Derived.Test.YteipbcpnnojclaaDoorPolDc
namespace Go.Proofs.YteipbcpnnojclaaDoor
open Go.RowKit DivMath WordMath
open QuadMath (Prime)
set_option linter.unusedVariables false
theorem polyB_lastD {q : Int} {f : List Nat} (h : polyB q (nl f) = true) (h0 : 0 < f.length) : f[f.length - 1] ≠ 0 := by
  intro h1
  unfold polyB at h
  simp only [Bool.and_eq_true, Bool.not_eq_true', beq_eq_false_iff_ne, ne_eq] at h
  refine h.2.2 ?_
  have h2 : 0 < (nl f).length := by rw [nl_len]; exact h0
  rw [List.getLast?_eq_getElem?, List.getElem?_eq_getElem (by omega)]
  simp only [nl_len]
  simp [nl, h1]
theorem lead_ex {q : Nat} (hq : Prime q) {b : List Nat} (hb : ∀ c ∈ b, c < q) (hz : 0 < b.length) (hl : ∀ h : 0 < b.length, b[b.length - 1] ≠ 0) : Nat.gcd (b.getD (b.length - 1) 0) q = 1 ∧ ∃ r, r < q ∧ b.getD (b.length - 1) 0 * r % q = 1 % q := by
  have h1 := hq.1
  rw [getD_elem (show b.length - 1 < b.length by omega)]
  have h2 := hb _ (List.getElem_mem (show b.length - 1 < b.length by omega))
  have h3 := hl hz
  generalize b[b.length - 1] = x at *
  refine ⟨prime_gcd hq h2 h3, x ^ (q - 2) % q, Nat.mod_lt _ (by omega), ?_⟩
  rw [Nat.mul_mod_mod, ← Nat.pow_succ', show (q - 2).succ = q - 1 by omega, Nat.mod_eq_of_lt (show 1 < q by omega)]
  by_cases ho : q % 2 = 1
  · exact Pt.fermat hq ho (by omega) h2
  · have hq2 : q = 2 := by
      rcases hq.2 2 (Nat.dvd_of_mod_eq_zero (by omega)) with h | h
      · omega
      · omega
    obtain rfl : x = 1 := by omega
    rw [Nat.one_pow, Nat.mod_eq_of_lt (by omega)]
theorem PDiv_xy {D : Nat → Prop} (q : Nat) (a b x y : List Nat) {xa ya : Option Addr} {xk yk : Nat} {w : World} (hx : Fct.at w D (.rw (.slice xa a.length xk) a.length 1 (ncl a))) (hy : Fct.at w D (.rw (.slice ya b.length yk) b.length 1 (ncl b))) (hl : Laid w) (hv : validB (q : Int) [nl a, nl b] = true) (hq1 : 1 < q) (hqT : (q : Int) < Top) (ha : ∀ c ∈ a, c < q) (hb : ∀ c ∈ b, c < q) (hla : a.length ≤ 1000) (hlb : b.length ≤ 1000) (hz : 0 < b.length) (hg : Nat.gcd (b.getD (b.length - 1) 0) q = 1) (lead : Nat) (hlq : lead < q) (hle : b.getD (b.length - 1) 0 * lead % q = 1 % q)
    (hX : trimN (divL q b lead (a.length + 1 - b.length) a (List.replicate (a.length + 1 - b.length) 0)).2 = x) (hY : trimN (divL q b lead (a.length + 1 - b.length) a (List.replicate (a.length + 1 - b.length) 0)).1 = y) :
    Calls Tryd.prog 26 #[.int .i64 (q : Nat), .slice xa a.length xk, .slice ya b.length yk] w fun e w' => RetDV x y e w' ∧ Below w.heap.size w w' := by
  subst hX hY
  rcases Nat.lt_or_ge a.length b.length with h | h
  · exact PDiv_a q a b hx hy hl hv hq1 hqT ha hb hla hlb hz hg lead hlq hle h
  · exact PDiv_b q a b hx hy hl hv hq1 hqT ha hb hla hlb hz hg lead hlq hle h
theorem rDiv_xy {D : Nat → Prop} (q : Nat) (a b x y : List Nat) {xa ya : Option Addr} {xk yk : Nat} {w : World} (hx : Fct.at w D (.rw (.slice xa a.length xk) a.length 1 (ncl a))) (hy : Fct.at w D (.rw (.slice ya b.length yk) b.length 1 (ncl b))) (hq1 : 1 < q) (hqT : (q : Int) < Top) (ha : ∀ c ∈ a, c < q) (hb : ∀ c ∈ b, c < q) (hla : a.length ≤ 1000) (hlb : b.length ≤ 1000) (hz : 0 < b.length) (hg : Nat.gcd (b.getD (b.length - 1) 0) q = 1) (lead : Nat) (hlq : lead < q) (hle : b.getD (b.length - 1) 0 * lead % q = 1 % q)
    (hX : trimN (divL q b lead (a.length + 1 - b.length) a (List.replicate (a.length + 1 - b.length) 0)).2 = x) (hY : trimN (divL q b lead (a.length + 1 - b.length) a (List.replicate (a.length + 1 - b.length) 0)).1 = y) :
    Calls Tryd.prog 28 #[.int .i64 (q : Nat), .slice xa a.length xk, .slice ya b.length yk] w fun e w' => RetDW x y e w' ∧ Below w.heap.size w w' := by
  subst hX hY
  exact rDiv_c q a b hx hy hq1 hqT ha hb hla hlb hz hg lead hlq hle
theorem Rw.up {W : World} {D : Nat → Prop} {B C n k : Nat} {v : Value} {cs : List Value} (hD : ∀ b, D b) (h : Rw W (fun _ => True) v n k cs) : Fct.at W (fun b => DF D B [] b ∨ C ≤ b) (.rw v n k cs) :=
  Rw.turn h (Nat.le_refl _) (fun b _ _ => Or.inl ⟨fun p hp => (by cases hp), Or.inl (hD b)⟩) (fun _ _ _ _ => rfl)
end Go.Proofs.YteipbcpnnojclaaDoor

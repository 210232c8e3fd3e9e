/- Matrices modulo a prime: units have inverses; contracts by their results. -/
import Derived.Test.YteipbcpnnojclaaDoorMgE
import Derived.Test.YteipbcpnnojclaaDoorMatRa
import Derived.Test.YteipbcpnnojclaaDoorMatSh
import Derived.Test.YteipbcpnnojclaaDoorPuK
namespace Go.Proofs.YteipbcpnnojclaaDoor
open Go.RowKit DivMath WordMath
open QuadMath (Prime)
set_option linter.unusedVariables false
set_option linter.unusedSimpArgs false
theorem field_primeM {q : Nat} (h : fieldB (q : Int) = true) : Prime q := by
  unfold fieldB at h
  simp only [Bool.and_eq_true, decide_eq_true_eq] at h
  have h2 : Pri.isP q = true := by simpa using h.2
  exact (Pt.isP61 (by omega)).1 h2
theorem unit_prime {q : Nat} (hq : Prime q) : Unit1 q := by
  intro a h0 ha
  have h1 := hq.1
  have key : ∃ r, r < q ∧ a * r % q = 1 % q := by
    refine ⟨a ^ (q - 2) % q, Nat.mod_lt _ (by omega), ?_⟩
    rw [Nat.mul_mod_mod, ← Nat.pow_succ', show (q - 2).succ = q - 1 by omega, Nat.mod_eq_of_lt (show 1 < q by omega)]
    by_cases ho : q % 2 = 1
    · exact Pt.fermat hq ho h0 ha
    · have hq2 : q = 2 := by
        rcases hq.2 2 (Nat.dvd_of_mod_eq_zero (by omega)) with h | h
        · omega
        · omega
      obtain rfl : a = 1 := by omega
      rw [Nat.one_pow, Nat.mod_eq_of_lt (by omega)]
  obtain ⟨r, hr, h2⟩ := key
  rw [invN_eq hr h2]; exact h2
theorem MvI.unit {q n : Nat} {L : List (List Nat)} (h : MvI q n L) : Unit1 q := unit_prime (field_primeM h.fb)
theorem MvI.mul {q m n : Nat} {L K : List (List Nat)} (h : MvI q m L) (h2 : MvI q n K) : MvI q n (mulT q n L K) :=
  ⟨mulT_res (by have := h.q2; omega), h.q2, h.qT, h.fb, by rw [mulL_len]; exact h.m1, by rw [mulL_len]; exact h.m30, h2.n1, h2.n30⟩
section
variable {D : Nat → Prop} {q m n r : Nat} {L K X : List (List Nat)} {x v : List Nat} {xa ya : Option Addr} {xk yk : Nat} {w : World}
theorem Rank_r (hx : Fct.at w D (.mx (.slice xa L.length xk) (L.map nl))) (hl : Laid w) (hv : MvI q n L) (h : rk q n L = r) :
    Calls Tryd.prog 37 #[.int .i64 (q : Nat), .slice xa L.length xk] w fun e w' => e = .returned (.tuple #[.int .i64 (r : Nat), .int .i64 0]) ∧ Below w.heap.size w w' := by
  subst h; exact Rank_ok q n L hx hl hv
theorem Mul_r (hx : Fct.at w D (.mx (.slice xa L.length xk) (L.map nl))) (hy : Fct.at w D (.mx (.slice ya K.length yk) (K.map nl))) (hl : Laid w) (hv : MvI q m L) (hu : MvI q n K) (hne : m = K.length) (h : mulT q n L K = X) :
    Calls Tryd.prog 43 #[.int .i64 (q : Nat), .slice xa L.length xk, .slice ya K.length yk] w fun e w' => RetMfE (fun b => D b ∨ w.heap.size ≤ b) X 0 e w' ∧ Below w.heap.size w w' := by
  subst h; exact mMul_ok q m n L K hx hy hl hv hu hne
theorem Apply_r (hx : Fct.at w D (.mx (.slice xa L.length xk) (L.map nl))) (hy : Fct.at w D (.rw (.slice ya x.length yk) x.length 1 (ncl x))) (hl : Laid w) (hv : MvI q n L) (hne : x.length = n) (hs : ∀ c ∈ x, c < q) (h : appT q L x = v) :
    Calls Tryd.prog 35 #[.int .i64 (q : Nat), .slice xa L.length xk, .slice ya x.length yk] w fun e w' => RetIE (fun b => w.heap.size ≤ b) v 0 e w' ∧ Below w.heap.size w w' := by
  subst h; exact Apply_ok q n L x hx hy hl hv hne hs
theorem Same_r (hx : Fct.at w D (.mx (.slice xa X.length xk) (X.map nl))) (hy : Fct.at w D (.mx (.slice ya X.length yk) (X.map nl))) (hr : ResM q n X) (hm : X.length ≤ 1000000) (hn : n ≤ 1000000) :
    Calls Tryd.prog 44 #[.slice xa X.length xk, .slice ya X.length yk] w fun e w' => e = .returned (.bool true) ∧ Below w.heap.size w w' := by
  have h := rSame_c (X.map nl) (X.map nl) (xa := xa) (xk := xk) (ya := ya) (yk := yk) (D := D) (w := w) (by rw [List.length_map]; exact hx) (by rw [List.length_map]; exact hy) (by rw [List.length_map]; exact hm) (fun r h => by
    obtain ⟨s, hs, rfl⟩ := List.mem_map.1 h
    rw [nl_len, (hr s hs).1]; exact hn) (t := true) (by simp)
  rw [List.length_map] at h
  exact h
theorem gMats.three {W : World} {B g n n2 n3 : Nat} {T : TypeId} {D : Nat → Prop} {a a2 a3 : Option Addr} {c c2 c3 : Nat} {M N O : List (List Int)} (hn : M.length = n) (hn2 : N.length = n2) (hn3 : O.length = n3) (hB : Box B g T [.slice a n c, .slice a2 n2 c2, .slice a3 n3 c3] W) (h : Fct.at W D (.mx (.slice a n c) M)) (h2 : Fct.at W D (.mx (.slice a2 n2 c2) N)) (h3 : Fct.at W D (.mx (.slice a3 n3 c3) O)) : Fct.at W (fun _ => True) (.gn (gMats g 0 [M, N, O])) := by
  subst hn hn2 hn3
  intro i hi
  have : i < 3 := hi
  rcases (by omega : i = 0 ∨ i = 1 ∨ i = 2) with rfl | rfl | rfl
  · exact ⟨⟨hB.lt, trivial⟩, a, c, hB.cell 0 rfl, Mx.tr h⟩
  · exact ⟨⟨hB.lt, trivial⟩, a2, c2, hB.cell 1 rfl, Mx.tr h2⟩
  · exact ⟨⟨hB.lt, trivial⟩, a3, c3, hB.cell 2 rfl, Mx.tr h3⟩
end
end Go.Proofs.YteipbcpnnojclaaDoor

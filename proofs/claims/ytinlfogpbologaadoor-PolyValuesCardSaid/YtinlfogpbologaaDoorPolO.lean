/- Values of sums and products of polynomials: plain laws. -/
import Derived.Test.YtinlfogpbologaaDoorPolI
import Derived.Test.YtinlfogpbologaaDoorPolT
import Derived.Test.YtinlfogpbologaaDoorPolY
import Derived.Test.YtinlfogpbologaaDoorPolZ
namespace Go.Proofs.YtinlfogpbologaaDoor
open Go.RowKit DivMath WordMath
set_option linter.unusedVariables false
namespace Pv
/-- a and b have the same rest -/
def Cg (q a b : Nat) : Prop := a % q = b % q
theorem Cg.refl {q a : Nat} : Cg q a a := rfl
theorem Cg.symm {q a b : Nat} (h : Cg q a b) : Cg q b a := Eq.symm h
theorem Cg.trans {q a b c : Nat} (h : Cg q a b) (h2 : Cg q b c) : Cg q a c := Eq.trans h h2
theorem Cg.add {q a b c d : Nat} (h : Cg q a b) (h2 : Cg q c d) : Cg q (a + c) (b + d) := by unfold Cg at *; rw [Nat.add_mod, h, h2, ← Nat.add_mod]
theorem Cg.mul {q a b c d : Nat} (h : Cg q a b) (h2 : Cg q c d) : Cg q (a * c) (b * d) := by unfold Cg at *; rw [Nat.mul_mod, h, h2, ← Nat.mul_mod]
theorem Cg.mod {q a : Nat} : Cg q (a % q) a := Nat.mod_mod _ _
/-- the value, no rest taken -/
def pv (x : Nat) : List Nat → Nat
  | [] => 0
  | c :: l => c + x * pv x l
theorem evN_pv (q x : Nat) : ∀ l, evN q x l = pv x l % q
  | [] => by simp [evN, pv]
  | c :: l => by
    rw [evN, evN_pv q x l, pv]
    refine (Cg.add (Cg.mod.trans ?_) Cg.refl : Cg q _ (x * pv x l + c)).trans ?_
    · rw [Nat.mul_comm x]; exact Cg.mul Cg.mod Cg.refl
    · rw [Nat.add_comm]; exact Cg.refl
theorem pv_app (x : Nat) : ∀ a b, pv x (a ++ b) = pv x a + x ^ a.length * pv x b
  | [], b => by simp [pv]
  | c :: a, b => by
    rw [List.cons_append, pv, pv_app x a b, pv, List.length_cons, Nat.pow_succ, Nat.mul_add, Nat.mul_comm (x ^ a.length) x, Nat.mul_assoc, Nat.add_assoc]
theorem pv_trim (x : Nat) (l : List Nat) : pv x (trimN l) = pv x l := by
  suffices h : ∀ n, ∀ l : List Nat, l.length = n → pv x (trimN l) = pv x l from h _ l rfl
  intro n
  induction n with
  | zero => intro l h; rw [List.length_eq_zero_iff.1 h]; rfl
  | succ n ih =>
    intro l h
    have e : l = l.take n ++ [l[n]] := by
      have := take_pred (l := l) (n := n + 1) (by omega) (by omega)
      rw [List.take_of_length_le (by omega)] at this
      simpa using this
    rw [e, trimN_snoc]
    split
    · rename_i h0
      rw [ih _ (by simp; omega), pv_app, h0]
      simp [pv]
    · rfl
/-- a list's value by its places -/
def sm (x : Nat) (f : Nat → Nat) : Nat → Nat
  | 0 => 0
  | n + 1 => sm x f n + f n * x ^ n
theorem sm_pv (x : Nat) (l : List Nat) : ∀ n, sm x (fun i => l.getD i 0) n = pv x (l.take n)
  | 0 => by simp [sm, pv]
  | n + 1 => by
    rw [sm, sm_pv x l n, List.take_add_one]
    by_cases h : n < l.length
    · rw [List.getElem?_eq_getElem h, getD_elem h, pv_app]
      have : (l.take n).length = n := by simp; omega
      simp [pv, this, Nat.mul_comm]
    · rw [List.getElem?_eq_none (by omega)]
      have : l.getD n 0 = 0 := by rw [List.getD_eq_getElem?_getD, List.getElem?_eq_none (by omega)]; rfl
      rw [this]; simp
theorem sm_all (x : Nat) (l : List Nat) (n : Nat) (h : l.length ≤ n) : sm x (fun i => l.getD i 0) n = pv x l := by rw [sm_pv, List.take_of_length_le h]
theorem sm_cg {q x : Nat} {f g h : Nat → Nat} : ∀ n, (∀ i, i < n → f i = (g i + h i) % q) → Cg q (sm x f n) (sm x g n + sm x h n)
  | 0, _ => Cg.refl
  | n + 1, H => by
    unfold sm
    have h1 := sm_cg (x := x) n fun i hi => H i (by omega)
    rw [H n (by omega)]
    refine (Cg.add h1 (Cg.mul Cg.mod Cg.refl)).trans ?_
    have : sm x g n + sm x h n + (g n + h n) * x ^ n = sm x g n + g n * x ^ n + (sm x h n + h n * x ^ n) := by rw [Nat.add_mul]; omega
    rw [this]; exact Cg.refl
theorem pv_add (q x : Nat) (a b : List Nat) : Cg q (pv x (addL q a b)) (pv x a + pv x b) := by
  have h := sm_cg (q := q) (x := x) (f := fun i => (addL q a b).getD i 0) (g := fun i => a.getD i 0) (h := fun i => b.getD i 0) (max a.length b.length) (fun i hi => by
    show (addL q a b).getD i 0 = _
    rw [getD_elem (by rw [addL_len]; exact hi)]
    simp [addL])
  rw [sm_all x _ _ (by rw [addL_len]; exact Nat.le_refl _), sm_all x _ _ (by omega), sm_all x _ _ (by omega)] at h
  exact h
theorem pv_set (x : Nat) : ∀ (l : List Nat) (j v : Nat) (h : j < l.length), pv x (l.set j v) + l.getD j 0 * x ^ j = pv x l + v * x ^ j
  | [], j, v, h => absurd h (Nat.not_lt_zero _)
  | c :: l, 0, v, _ => by simp [pv]; omega
  | c :: l, j + 1, v, h => by
    have ih := pv_set x l j v (by simp at h; omega)
    have e1 : (c :: l).getD (j + 1) 0 = l.getD j 0 := by simp
    rw [List.set_cons_succ, pv, pv, e1, Nat.pow_succ]
    have h2 : x * (pv x (l.set j v) + l.getD j 0 * x ^ j) = x * (pv x l + v * x ^ j) := by rw [ih]
    rw [Nat.mul_add, Nat.mul_add] at h2
    have h3 : x * (l.getD j 0 * x ^ j) = l.getD j 0 * (x ^ j * x) := by rw [Nat.mul_left_comm, Nat.mul_comm x]
    have h4 : x * (v * x ^ j) = v * (x ^ j * x) := by rw [Nat.mul_left_comm, Nat.mul_comm x]
    omega
theorem Cg.cancel {q a b c : Nat} (h : Cg q (a + c) (b + c)) : Cg q a b := by
  unfold Cg at *
  have h2 : ((a + c : Nat) : Int) % q = ((b + c : Nat) : Int) % q := by exact_mod_cast h
  have h3 : ((a : Int)) % q = (b : Int) % q := by
    have := Int.emod_emod_of_dvd
    have e : ((a : Int) + c - (b + c)) % q = 0 := by
      rw [← Int.emod_eq_emod_iff_emod_sub_eq_zero]; exact_mod_cast h
    apply Int.emod_eq_emod_iff_emod_sub_eq_zero.2
    rw [← e]; congr 1; omega
  exact_mod_cast h3
theorem pv_put {q x : Nat} {o : List Nat} {j u : Nat} (h : j < o.length) : Cg q (pv x (o.set j ((o.getD j 0 + u % q) % q))) (pv x o + u * x ^ j) := by
  refine Cg.cancel (c := o.getD j 0 * x ^ j) ?_
  rw [pv_set x o j _ h]
  refine (Cg.add Cg.refl (Cg.mul (Cg.mod.trans (Cg.add Cg.refl Cg.mod)) Cg.refl)).trans ?_
  have : pv x o + (o.getD j 0 + u) * x ^ j = pv x o + u * x ^ j + o.getD j 0 * x ^ j := by rw [Nat.add_mul]; omega
  rw [this]; exact Cg.refl
theorem pv_row {q x : Nat} {a b : List Nat} {i : Nat} {o : List Nat} : ∀ k, i + k ≤ o.length → Cg q (pv x (mulRow q a b i k o)) (pv x o + a.getD i 0 * x ^ i * sm x (fun k => b.getD k 0) k)
  | 0, _ => by simp [mulRow, sm]; exact Cg.refl
  | k + 1, h => by
    have ih := pv_row (x := x) (a := a) (b := b) (q := q) (i := i) (o := o) k (by omega)
    unfold mulRow sm
    refine (pv_put (by rw [mulRow_len]; omega)).trans ?_
    refine (Cg.add ih Cg.refl).trans ?_
    have : a.getD i 0 * x ^ i * (sm x (fun k => b.getD k 0) k + b.getD k 0 * x ^ k) = a.getD i 0 * x ^ i * sm x (fun k => b.getD k 0) k + a.getD i 0 * b.getD k 0 * x ^ (i + k) := by
      rw [Nat.mul_add, Nat.pow_add]; congr 1
      rw [Nat.mul_assoc, Nat.mul_assoc, Nat.mul_left_comm (x ^ i)]
    rw [this, Nat.add_assoc]; exact Cg.refl
theorem pv_to {q x : Nat} {a b : List Nat} (hb : 0 < b.length) : ∀ i, i ≤ a.length → Cg q (pv x (mulTo q a b i)) (sm x (fun k => a.getD k 0) i * pv x b)
  | 0, _ => by
    have : ∀ n, pv x (List.replicate n 0) = 0 := fun n => by
      induction n with
      | zero => rfl
      | succ n ih => rw [List.replicate_succ, pv, ih]; simp
    unfold mulTo sm; rw [this]; simp; exact Cg.refl
  | i + 1, h => by
    have ih := pv_to (x := x) (a := a) (b := b) (q := q) hb i (by omega)
    unfold mulTo sm
    have hr := pv_row (x := x) (a := a) (b := b) (q := q) (i := i) (o := mulTo q a b i) b.length (by rw [mulTo_len]; omega)
    rw [sm_all x b _ (Nat.le_refl _)] at hr
    refine hr.trans ?_
    refine (Cg.add ih Cg.refl).trans ?_
    rw [Nat.add_mul]; exact Cg.refl
theorem pv_mul (q x : Nat) (a b : List Nat) : Cg q (pv x (mulL q a b)) (pv x a * pv x b) := by
  unfold mulL
  split
  · rename_i h
    rcases h with h | h
    · rw [List.length_eq_zero_iff.1 h]; simp [pv]; exact Cg.refl
    · rw [List.length_eq_zero_iff.1 h]; simp [pv]; exact Cg.refl
  · rename_i h
    have := pv_to (q := q) (x := x) (a := a) (b := b) (by omega) a.length (Nat.le_refl _)
    rw [sm_all x a _ (Nat.le_refl _)] at this
    exact this
end Pv
open Pv in
theorem ev_sum (q x : Nat) (a b : List Nat) : evN q x (trimN (addL q a b)) = (evN q x a + evN q x b) % q := by
  rw [evN_pv, evN_pv, evN_pv, pv_trim]
  exact (pv_add q x a b).trans (Cg.add Cg.mod.symm Cg.mod.symm)
open Pv in
theorem ev_product (q x : Nat) (a b : List Nat) : evN q x (trimN (mulL q a b)) = evN q x a * evN q x b % q := by
  rw [evN_pv, evN_pv, evN_pv, pv_trim]
  exact (pv_mul q x a b).trans (Cg.mul Cg.mod.symm Cg.mod.symm)
theorem trim_last {l : List Nat} : ∀ (h : 0 < (trimN l).length), (trimN l)[(trimN l).length - 1] ≠ 0 := by
  suffices H : ∀ n, ∀ l : List Nat, l.length = n → (trimN l).getLast? ≠ some 0 from fun h h0 => H _ l rfl (by rw [List.getLast?_eq_getElem?, List.getElem?_eq_getElem (by omega), h0])
  intro n
  induction n with
  | zero => intro l h; rw [List.length_eq_zero_iff.1 h]; simp [trimN]
  | succ n ih =>
    intro l h
    have e : l = l.take n ++ [l[n]] := by
      have := take_pred (l := l) (n := n + 1) (by omega) (by omega)
      rw [List.take_of_length_le (by omega)] at this
      simpa using this
    rw [e, trimN_snoc]
    split
    · exact ih _ (by simp; omega)
    · rename_i h0
      rw [List.getLast?_append]; simpa using h0
theorem poly_trim {q : Nat} {l : List Nat} (hl : l.length ≤ 1000) (h : ∀ c ∈ l, c < q) : polyB (q : Int) (nl (trimN l)) = true := by
  have hlen : (nl (trimN l)).length ≤ 1000 := by rw [nl_len]; exact Nat.le_trans (trimN_len _) hl
  by_cases h0 : (trimN l).length = 0
  · exact polyB_nil (by rw [nl_len]; exact h0)
  · rw [polyB_some (by rw [nl_len]; omega) hlen ?_]
    · exact nl_all (trimN_lt h)
    · have := trim_last (l := l) (by omega)
      simp only [nl_len]
      intro h2
      apply this
      have : ((trimN l)[(trimN l).length - 1] : Int) = 0 := by rw [← h2]; simp [nl]
      exact_mod_cast this
end Go.Proofs.YtinlfogpbologaaDoor

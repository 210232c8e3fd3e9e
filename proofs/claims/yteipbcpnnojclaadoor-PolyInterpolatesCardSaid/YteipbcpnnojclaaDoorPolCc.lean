/- Polynomials modulo a prime: the reference's Interpolate and Weights answer what the program's do. Plain. -/
import Derived.Test.YteipbcpnnojclaaDoorPolCb
import Derived.Test.YteipbcpnnojclaaDoorPolBa
namespace Go.Proofs.YteipbcpnnojclaaDoor
open Go.RowKit DivMath WordMath
open QuadMath (Prime)
set_option linter.unusedVariables false
theorem ev_trimN (q x : Nat) (l : List Nat) : evN q x (trimN l) = evN q x l := by rw [Pv.evN_pv, Pv.evN_pv, Pv.pv_trim]
theorem oneL_ev {q : Nat} (hq : 1 < q) {a : List Nat} (ha : ∀ c ∈ a, c < q) (i x : Nat) : ∀ k, evN q x (oneL q a i k) = wM q x a i k
  | 0 => by
    show evN q x [1] = 1 % q
    rw [evN_one q x 1 hq, Nat.mod_eq_of_lt hq]
  | k + 1 => by
    have ih := oneL_ev hq ha i x k
    have ak := getD_lt (show 0 < q by omega) ha k
    unfold oneL
    show _ = (if k = i then _ else _)
    split
    · exact ih
    · rw [ev_product, ih, ev_trimN]
      have h := evN_lin (x := x) hq (Nat.le_of_lt ak)
      rw [Nat.zero_add] at h
      rw [h]
theorem RIt_val {q : Nat} (hq : Prime q) {a b : List Nat} (ha : ∀ c ∈ a, c < q) (hb : ∀ c ∈ b, c < q) : ∀ k u, k ≤ a.length → RIt q a b k u → ∀ m, m < a.length → evN q (a.getD m 0) u = if m < k then b.getD m 0 else 0
  | 0, u, _, h, m, _ => by
    obtain rfl : u = [] := h
    rw [if_neg (Nat.not_lt_zero _)]; rfl
  | k + 1, u, hk, h, m, hm => by
    obtain ⟨u0, r, h1, hr, h3, rfl⟩ := h
    have ih := RIt_val hq ha hb k u0 (by omega) h1 m hm
    have q1 := hq.1
    have bq := getD_lt (show 0 < q by omega) hb
    rw [ev_sum, ev_product, ev_trimN, evN_one q _ _ (Nat.mod_lt _ (by omega)), oneL_ev (by omega) ha, ih]
    by_cases e : m = k
    · subst e
      rw [if_neg (Nat.lt_irrefl _), if_pos (Nat.lt_succ_self _), Nat.zero_add, Nat.mod_mod]
      have : wM q (a.getD m 0) a m a.length * (b.getD m 0 * r % q) % q = b.getD m 0 * (wM q (a.getD m 0) a m a.length * r % q) % q := by
        rw [Nat.mul_mod_mod, Nat.mul_mod_mod]; congr 1; grind
      rw [this, h3, Nat.mod_eq_of_lt (show 1 < q by omega), Nat.mul_one, Nat.mod_eq_of_lt (bq m)]
    · have hz : wM q (a.getD m 0) a k a.length = 0 := (wM_zero hq ha (getD_lt (by omega) ha m) _ (Nat.le_refl _)).2 ⟨m, hm, e, rfl⟩
      rw [hz, Nat.zero_mul, Nat.zero_mod, Nat.add_zero]
      by_cases h : m < k
      · rw [if_pos h, if_pos (by omega), Nat.mod_eq_of_lt (bq m)]
      · rw [if_neg h, if_neg (by omega), Nat.zero_mod]
theorem RIt_last {q : Nat} {a b : List Nat} : ∀ {k u}, RIt q a b k u → ∀ h : 0 < u.length, u[u.length - 1] ≠ 0
  | 0, u, h => by
    obtain rfl : u = [] := h
    intro h; simp at h
  | k + 1, u, h => by
    obtain ⟨u0, r, h1, hr, h3, rfl⟩ := h
    exact trim_last
/-- both ways lead to the same polynomial -/
theorem RIt_eq {q : Nat} (hq : Prime q) {a b u v u' : List Nat} (ha : ∀ c ∈ a, c < q) (hb : ∀ c ∈ b, c < q) (hd : a.Nodup) (h : ItR q a b a.length u v) (h' : RIt q a b a.length u') : u = u' := by
  have q1 := hq.1
  have N := ItR_at hq ha hb _ _ _ h
  obtain ⟨⟨ul, -⟩, uq, -⟩ := ItR_len (by omega) h
  obtain ⟨ul', uq'⟩ := RIt_len (by omega) (Nat.le_refl _) h'
  refine list_uniq N.last (RIt_last h') (pv_uniq hq ul ul' uq uq' a hd (fun x hx => ⟨ha x hx, ?_⟩) (Nat.le_refl _))
  obtain ⟨i, hi, rfl⟩ := mem_ix hx
  rw [N.val i hi, RIt_val hq ha hb _ _ (Nat.le_refl _) h' i hi, if_pos hi]
theorem WR_uniq {q x : Nat} {l : List Nat} {i v v' : Nat} (h : WR q x l i v) (h' : WR q x l i v') : v = v' := by
  obtain ⟨r, hr, h1, rfl⟩ := h
  obtain ⟨s, hs, h2, rfl⟩ := h'
  have : r * (wM q (l.getD i 0) l i l.length * s) % q = s * (wM q (l.getD i 0) l i l.length * r) % q := by congr 1; grind
  rw [Nat.mul_mod, h2, Nat.mul_mod s, h1, ← Nat.mul_mod, ← Nat.mul_mod, Nat.mul_one, Nat.mul_one, Nat.mod_eq_of_lt hr, Nat.mod_eq_of_lt hs] at this
  rw [this]
theorem WR_list {q x : Nat} {l o o' : List Nat} (h : o.length = l.length ∧ ∀ i, i < l.length → WR q x l i (o.getD i 0)) (h' : o'.length = l.length ∧ ∀ i, i < l.length → WR q x l i (o'.getD i 0)) : o = o' := by
  refine List.ext_getElem (by omega) fun i h1 h2 => ?_
  have := WR_uniq (h.2 i (by omega)) (h'.2 i (by omega))
  rwa [getD_elem h1, getD_elem h2] at this
end Go.Proofs.YteipbcpnnojclaaDoor

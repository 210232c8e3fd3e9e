/- The greatest prime below 2^61 passes the test; next primes and least roots, plain; slices.Compact on a row of the call's own. -/
import Derived.Test.YtinlfogpbologaaDoorPriG
namespace Go.Proofs.YtinlfogpbologaaDoor
open Go.RowKit DivMath WordMath
set_option linter.unusedVariables false
set_option linter.unusedSimpArgs false
namespace Pri
/-- a power modulo n, by squares -/
def pmF : Nat → Nat → Nat → Nat → Nat → Nat
  | 0, _, _, _, acc => acc
  | f + 1, a, e, n, acc => pmF f (a * a % n) (e / 2) n (if e % 2 = 1 then acc * a % n else acc)
theorem pmF_eq (f : Nat) : ∀ a e n acc, e < 2 ^ f → pmF f a e n acc % n = acc * a ^ e % n := by
  induction f with
  | zero => intro a e n acc h; have : e = 0 := by simpa using h
            subst this; simp [pmF]
  | succ f ih =>
    intro a e n acc h
    rw [pmF, ih _ _ _ _ (by rw [Nat.pow_succ] at h; omega)]
    have hp : a ^ e = (a * a) ^ (e / 2) * a ^ (e % 2) := by
      conv => lhs; rw [← Nat.div_add_mod e 2]
      rw [Nat.pow_add, Nat.pow_mul, Nat.pow_two]
    have hs : (a * a % n) ^ (e / 2) % n = (a * a) ^ (e / 2) % n := by rw [← Nat.pow_mod]
    rw [Nat.mul_mod, hs, ← Nat.mul_mod, hp]
    by_cases h1 : e % 2 = 1
    · rw [if_pos h1, h1, Nat.pow_one, Nat.mod_mul_mod]
      congr 1
      rw [Nat.mul_assoc, Nat.mul_comm a]
    · have h0 : e % 2 = 0 := by omega
      rw [if_neg h1, h0, Nat.pow_zero, Nat.mul_one]
theorem strong_of {n a d : Nat} (hd : od (n - 1) = d) (h64 : d < 2 ^ 64) (h : (pmF 64 a d n 1 % n == 1 || pmF 64 a d n 1 % n == n - 1) = true) : strong n a = true := by
  unfold strong
  rw [hd]
  rw [pmF_eq 64 a d n 1 h64, Nat.one_mul] at h
  rcases (Bool.or_eq_true _ _).mp h with h | h
  · rw [h]; rfl
  · rw [h]; simp
theorem isP_top : isP 2305843009213693951 = true := by
  have hs : sieve 2305843009213693951 bases = none := by kernel_rfl
  have hd : od (2305843009213693951 - 1) = 1152921504606846975 := by kernel_rfl
  rw [isP_none (by decide) hs, List.all_eq_true]
  intro a ha
  have key : bases.all (fun a => pmF 64 a 1152921504606846975 2305843009213693951 1 % 2305843009213693951 == 1 || pmF 64 a 1152921504606846975 2305843009213693951 1 % 2305843009213693951 == 2305843009213693951 - 1) = true := by kernel_rfl
  exact strong_of hd (by decide) (List.all_eq_true.1 key a ha)
/-- m is the next number that passes the test -/
def Nx (n m : Nat) : Prop := n < m ∧ isP m = true ∧ ∀ k, n < k → k < m → isP k = false
theorem Nx_some (n : Nat) : ∀ d m, m = n + 1 + d → isP m = true → ∃ r, Nx n r ∧ r ≤ m := by
  intro d
  induction d using Nat.strongRecOn with
  | ind d ih =>
    intro m hm hp
    by_cases h : ∃ k, n < k ∧ k < m ∧ isP k = true
    · obtain ⟨k, h1, h2, h3⟩ := h
      obtain ⟨r, hr, hr2⟩ := ih (k - n - 1) (by omega) k (by omega) h3
      exact ⟨r, hr, by omega⟩
    · refine ⟨m, ⟨by omega, hp, fun k h1 h2 => ?_⟩, Nat.le_refl _⟩
      cases hk : isP k with
      | false => rfl
      | true => exact absurd ⟨k, h1, h2, hk⟩ h
theorem Nx_ex {n : Nat} (h : n ≤ 2305843009213693950) : ∃ r, Nx n r ∧ r ≤ 2305843009213693951 := Nx_some n (2305843009213693951 - n - 1) _ (by omega) isP_top
theorem Nx_uniq {n a b : Nat} (h : Nx n a) (k : Nx n b) : a = b := by
  rcases Nat.lt_trichotomy a b with c | c | c
  · have := k.2.2 a h.1 c; rw [h.2.1] at this; cases this
  · exact c
  · have := h.2.2 b k.1 c; rw [k.2.1] at this; cases this
/-- no power of r by a factor is 1 -/
def rok (p : Nat) (l : List Nat) (r : Nat) : Bool := l.all fun f => !decide (r ^ ((p - 1) / f) % p = 1)
/-- r is the least number from 1 on of which no power by a factor is 1 -/
def RootR (p : Nat) (l : List Nat) (r : Nat) : Prop := 1 ≤ r ∧ r ≤ p ∧ rok p l r = true ∧ ∀ j, 1 ≤ j → j < r → rok p l j = false
theorem rok_top {p : Nat} {l : List Nat} (h2 : 2 ≤ p) (hl : ∀ f ∈ l, 2 ≤ f ∧ f ≤ p - 1) : rok p l p = true := by
  unfold rok
  rw [List.all_eq_true]
  intro f hf
  obtain ⟨h3, h4⟩ := hl f hf
  have he : 0 < (p - 1) / f := Nat.div_pos h4 (by omega)
  obtain ⟨e, he2⟩ : ∃ e, (p - 1) / f = e + 1 := ⟨(p - 1) / f - 1, by omega⟩
  rw [he2, Nat.pow_succ, Nat.mul_mod_left]
  rfl
theorem RootR_some (p : Nat) (l : List Nat) : ∀ d m, m = d + 1 → m ≤ p → rok p l m = true → ∃ r, RootR p l r := by
  intro d
  induction d using Nat.strongRecOn with
  | ind d ih =>
    intro m hm hmp hp
    by_cases h : ∃ k, 1 ≤ k ∧ k < m ∧ rok p l k = true
    · obtain ⟨k, h1, h2, h3⟩ := h
      exact ih (k - 1) (by omega) k (by omega) (by omega) h3
    · refine ⟨m, by omega, hmp, hp, fun k h1 h2 => ?_⟩
      cases hk : rok p l k with
      | false => rfl
      | true => exact absurd ⟨k, h1, h2, hk⟩ h
theorem RootR_ex {p : Nat} {l : List Nat} (h2 : 2 ≤ p) (hl : ∀ f ∈ l, 2 ≤ f ∧ f ≤ p - 1) : ∃ r, RootR p l r := RootR_some p l (p - 1) p (by omega) (Nat.le_refl _) (rok_top h2 hl)
theorem RootR_uniq {p a b : Nat} {l : List Nat} (h : RootR p l a) (k : RootR p l b) : a = b := by
  rcases Nat.lt_trichotomy a b with c | c | c
  · have := k.2.2.2 a h.1 c; rw [h.2.2.1] at this; cases this
  · exact c
  · have := h.2.2.2 b k.1 c; rw [k.2.2.1] at this; cases this
/-- the program's test: some power is 1 -/
def small (p r : Nat) (x : Int) : Bool := decide (r ^ ((p - 1) / x.toNat) % p = 1)
theorem any_small (p r : Nat) (l : List Nat) : (nl l).any (small p r) = !rok p l r := by
  unfold rok nl
  rw [List.not_all_eq_any_not, List.any_map]
  congr 1
  funext f
  simp [small]
theorem mem_compact {zs : List Int} {x : Int} : x ∈ Lib.compact zs ↔ x ∈ zs := by
  unfold Lib.compact Lib.compactUpTo
  rw [List.mem_map]
  constructor
  · rintro ⟨j, hj, rfl⟩
    have := List.mem_range.1 (List.mem_filter.1 hj).1
    simp [this]
  · intro hx
    have key : ∀ k, ∀ h : k < zs.length, zs[k] = x → ∃ a, a ∈ List.filter (Lib.keeps zs.toArray) (List.range zs.length) ∧ zs.toArray[a]! = x := by
      intro k
      induction k with
      | zero => intro h e; exact ⟨0, List.mem_filter.2 ⟨List.mem_range.2 h, by simp [Lib.keeps]⟩, by simp [h, e]⟩
      | succ k ih =>
        intro h e
        by_cases he : zs[k] = x
        · exact ih (by omega) he
        · refine ⟨k + 1, List.mem_filter.2 ⟨List.mem_range.2 h, ?_⟩, by simp [h, e]⟩
          have hk : k < zs.length := by omega
          simp [Lib.keeps, h, hk, e]
          exact fun c => he c.symm
    obtain ⟨k, hk, rfl⟩ := List.getElem_of_mem hx
    exact key k hk rfl
theorem any_compact (zs : List Int) (p : Int → Bool) : (Lib.compact zs).any p = zs.any p := by
  rw [Bool.eq_iff_iff, List.any_eq_true, List.any_eq_true]
  constructor
  · rintro ⟨x, h, e⟩; exact ⟨x, mem_compact.1 h, e⟩
  · rintro ⟨x, h, e⟩; exact ⟨x, mem_compact.2 h, e⟩
end Pri
theorem Box.sets {B b : Nat} {T : TypeId} : ∀ (vs ws rs pre : List Value) (W : World), vs.length = ws.length → Box B b T (pre ++ ws ++ rs) W → Box B b T (pre ++ vs ++ rs) (W.setCells b pre.length vs)
  | [], ws, rs, pre, W, hl, h => by
    have : ws = [] := List.length_eq_zero_iff.1 hl.symm
    subst this; exact h
  | v :: vs, [], rs, pre, W, hl, h => by cases hl
  | v :: vs, u :: ws, rs, pre, W, hl, h => by
    have h1 := h.set pre.length v
    rw [show (pre ++ u :: ws ++ rs).set pre.length v = (pre ++ [v]) ++ ws ++ rs by simp] at h1
    have h2 := Box.sets vs ws rs (pre ++ [v]) _ (by simpa using hl) h1
    rw [show (pre ++ [v]).length = pre.length + 1 by simp] at h2
    rw [World.setCells]
    simpa using h2
theorem compact_len (zs : List Int) : (Lib.compact zs).length ≤ zs.length := by
  unfold Lib.compact Lib.compactUpTo
  rw [List.length_map]
  exact Nat.le_trans (List.length_filter_le _ _) (by simp)
theorem icl_app (a b : List Int) : icl (a ++ b) = icl a ++ icl b := by simp [icl]
/-- slices.Compact, on a row of the call's own -/
theorem compactE {D0 : Nat → Prop} {w W : World} {F : List Bx} {G : List Fct} {g cap : Nat} {zs : List Int} {rs : List Value} {n : Nat} (hn : n = zs.length) (E : Env D0 w ((g, 3, icl zs ++ rs) :: F) G W) (hc : n ≤ cap) (hl : n ≤ 1000000) :
    Calls Tryd.prog 128 #[.slice (some ⟨g, 0, none⟩) n cap] W fun e W' => e = .returned (.slice (some ⟨g, 0, none⟩) (Lib.compact zs).length cap) ∧ ∃ rs', Hid (Env D0 w ((g, 3, icl (Lib.compact zs) ++ rs') :: F) G W') := by
  subst hn
  have hB := E.bx 0 rfl
  refine (Tryd.slices_Compact_int_cells g 0 zs.length cap zs W (Nat.le_refl _) (by omega) hc (fun j hj => ?_) (fun j _ => ?_)).mono ?_
  · rw [Nat.zero_add]
    refine hB.cell j ?_
    rw [List.getElem?_append_left (by rw [icl_len]; omega), icl_get _ _ hj]
    simp [hj]
  · rw [Nat.zero_add]; exact hB.frozen j
  · rintro e W' ⟨rfl, q, rfl⟩
    rw [List.take_length] 
    refine ⟨rfl, icl (List.replicate (zs.length - (Lib.compact zs).length) 0) ++ rs, Lib.hid ?_⟩
    have E1 : Env D0 w ((g, 3, icl zs ++ rs) :: F) G (W.drewN q) := E.below (below_drewN (Below.refl _ _) q)
    have hB1 := E1.bx 0 rfl
    have hv : ((Lib.compact zs ++ List.replicate (zs.length - (Lib.compact zs).length) 0).map (Value.int .i64)).length = (icl zs).length := by
      have := compact_len zs
      simp [icl]; omega
    have h2 := Box.sets _ (icl zs) rs [] _ hv (by simpa using hB1)
    have e3 : [] ++ (Lib.compact zs ++ List.replicate (zs.length - (Lib.compact zs).length) 0).map (Value.int .i64) ++ rs = icl (Lib.compact zs) ++ (icl (List.replicate (zs.length - (Lib.compact zs).length) 0) ++ rs) := by simp [icl]
    rw [e3] at h2
    exact E1.ins 0 rfl (Off.sets _ 0 _ (Off.below (Below.refl _ _))) (.inl rfl) h2.2
end Go.Proofs.YtinlfogpbologaaDoor

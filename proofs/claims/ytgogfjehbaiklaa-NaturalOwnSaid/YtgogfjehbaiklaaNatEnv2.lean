/- great of three numbers and of one; is, of equal numbers. -/
import Derived.Test.YtgogfjehbaiklaaNatEnv
namespace Go.Proofs.Ytgogfjehbaiklaa
open Go.RowKit NatMath
set_option linter.unusedVariables false

theorem great3_c (ao bo co : Option Addr) (n m k ca cb cc : Nat) (W : World) (hn : (n : Int) ≤ 9223372036854775807) (hm : (m : Int) ≤ 9223372036854775807) (hk : (k : Int) ≤ 9223372036854775807) (g : Nat) (hg : W.heap.size = g) :
    Calls Try.prog 12 #[.slice (some ⟨g, 0, none⟩) 3 3] (W.alloc (.cells #[.slice ao n ca, .slice bo m cb, .slice co k cc] 24)) fun e w' =>
      (((100 < n ∨ 100 < m ∨ 100 < k) ∧ e = .returned (.bool true)) ∨ ((n ≤ 100 ∧ m ≤ 100 ∧ k ≤ 100) ∧ e = .returned (.bool false))) ∧ Below W.heap.size W w' := by
  subst hg
  refine (great_c W.heap.size 3 (fun i => if i = 0 then ao else if i = 1 then bo else co) (fun i => if i = 0 then n else if i = 1 then m else k) (fun i => if i = 0 then ca else if i = 1 then cb else cc) _ (by omega) (by simp) (fun i => by split; assumption; split <;> assumption) (fun i hi => ?_)).mono ?_
  · rw [World.cell?_alloc_new]
    rcases i with _ | _ | _ | i
    · rfl
    · rfl
    · rfl
    · omega
  · rintro e w' ⟨⟨⟨i, hi, h⟩, rfl⟩ | ⟨h, rfl⟩, hb⟩
    · refine ⟨Or.inl ⟨?_, rfl⟩, (below_one W _).trans (hb.mono (by simp))⟩
      split at h
      · exact Or.inl h
      · split at h
        · exact Or.inr (Or.inl h)
        · exact Or.inr (Or.inr h)
    · exact ⟨Or.inr ⟨⟨h 0 (by omega), h 1 (by omega), h 2 (by omega)⟩, rfl⟩, (below_one W _).trans (hb.mono (by simp))⟩

theorem great_one_c (ao : Option Addr) (n ca : Nat) (W : World) (hn : (n : Int) ≤ 9223372036854775807) (g : Nat) (hg : W.heap.size = g) :
    Calls Try.prog 12 #[.slice (some ⟨g, 0, none⟩) 1 1] (W.alloc (.cells #[.slice ao n ca] 24)) fun e w' =>
      ((100 < n ∧ e = .returned (.bool true)) ∨ (n ≤ 100 ∧ e = .returned (.bool false))) ∧ Below W.heap.size W w' := by
  subst hg
  refine (great_c W.heap.size 1 (fun _ => ao) (fun _ => n) (fun _ => ca) _ (by omega) (by simp) (fun i => hn) (fun i hi => ?_)).mono ?_
  · rw [World.cell?_alloc_new]
    obtain rfl : i = 0 := by omega
    rfl
  · rintro e w' ⟨⟨⟨i, hi, h⟩, rfl⟩ | ⟨h, rfl⟩, hb⟩
    · exact ⟨Or.inl ⟨h, rfl⟩, (below_one W _).trans (hb.mono (by simp))⟩
    · exact ⟨Or.inr ⟨h 0 (by omega), rfl⟩, (below_one W _).trans (hb.mono (by simp))⟩

theorem mulRes {a b : Value} {N M : Nat} {w : World} (ha : Nt w a N) (hb : Nt w b M) (h1 : len N ≤ 64) (h2 : len M ≤ 64) :
    Calls Try.prog 13 #[.agg #[a], .agg #[b]] w fun e w' => ResN (bigv (N * M)) (bigc (N * M)) e w' ∧ Below w.heap.size w w' :=
  (Mul_ok a b N M w ha hb h1 h2).mono (fun e w' h => And.intro h.1.res h.2)
theorem addRes {a b : Value} {N M : Nat} {w : World} (ha : Nt w a N) (hb : Nt w b M) (h1 : len N ≤ 64) (h2 : len M ≤ 64) :
    Calls Try.prog 24 #[.agg #[a], .agg #[b]] w fun e w' => ResN (bigv (N + M)) (bigc (N + M)) e w' ∧ Below w.heap.size w w' :=
  (Add_ok a b N M w ha hb h1 h2).mono (fun e w' h => And.intro h.1.res h.2)
theorem subRes {a b : Value} {N M : Nat} {w : World} (ha : Nt w a N) (hb : Nt w b M) (h1 : len N ≤ 64) (h2 : len M ≤ 64) (hl : M ≤ N) :
    Calls Try.prog 33 #[.agg #[a], .agg #[b]] w fun e w' => ResN (N - M) 0 e w' ∧ Below w.heap.size w w' :=
  (Sub_ok a b N M w ha hb h1 h2 hl).mono (fun e w' h => And.intro h.1.res h.2)
theorem ofRes (x : Nat) (w : World) (hx : (x : Int) ≤ 9223372036854775807) :
    Calls Try.prog 25 #[.int .i64 x] w fun e w' => ResN x 0 e w' ∧ Below w.heap.size w w' :=
  (Of_ok x w hx).mono (fun e w' h => And.intro h.1.res h.2)
theorem bigv_len (S : Nat) : len (bigv S) ≤ 64 := by
  unfold bigv; split
  · assumption
  · rw [len_zero]; omega
theorem big_ok {S : Nat} (h : len S ≤ 64) : bigv S = S ∧ bigc S = 0 := by unfold bigv bigc; rw [if_pos h, if_pos h]; exact ⟨rfl, rfl⟩
theorem big_no {S : Nat} (h : ¬ len S ≤ 64) : bigv S = 0 ∧ bigc S = 9 := by unfold bigv bigc; rw [if_neg h, if_neg h]; exact ⟨rfl, rfl⟩
end Go.Proofs.Ytgogfjehbaiklaa

/- few, told by its answer; an error's result with a list of no word; a guarded operation. -/
import Derived.Test.YthphmgdmhlimjaaModL2
namespace Go.Proofs.Ythphmgdmhlimjaa
open Go.RowKit NatMath
set_option linter.unusedVariables false
/-- an error came back, with an empty number -/
def ResZ (g : Int) (e : Ending) : Prop := ∃ (ao : Option Addr) (k : Nat), e = .returned (.tuple #[.agg #[.slice ao 0 k], .int .i64 g])
theorem ResN.z {g : Int} {e : Ending} {w : World} (h : ResN 0 g e w) : ResZ g e := by
  obtain ⟨a, k, rfl, _⟩ := h
  exact ⟨a, k, by rw [len_zero]⟩
theorem calls_z {P : Program} {f : Nat} {args : Array Value} {w : World} {g : Int} (h : Calls P f args w fun e w' => ResN 0 g e w' ∧ Below w.heap.size w w') : Calls P f args w fun e w' => ResZ g e ∧ Below w.heap.size w w' :=
  h.mono (fun _ _ h => ⟨h.1.z, h.2⟩)
theorem op_guard {ops : Array Oper} {j d : Nat} {want : Bool} {o : Oper} {a : Act} {A B : Prop} (hg : o.guard = some (j, want)) (hd : (ops[j]?).bind (·.dst) = some d) (hv : a.tmps[d]? = some (.bool want)) (h : A) :
    if Region.wanted o (yielded ops a.tmps) = true then A else B := by
  have : Region.wanted o (yielded ops a.tmps) = true := by
    unfold Region.wanted yielded; rw [hg]; simp [hd, hv]
  rw [if_pos this]; exact h
theorem sl_len {w : World} {ao : Option Addr} {n c : Nat} {l : List Nat} (h : Sl w (.slice ao n c) l) : (n : Int) ≤ 9223372036854775807 := len_of_sl1 h
theorem gvn_fst {la lb lc : List Nat} : gvn la lb lc = fstc lc [la, lb] := by
  unfold gvn fstc
  by_cases h1 : mdl lc = true <;> by_cases h2 : vld la = true <;> by_cases h3 : vld lb = true <;> simp [h1, h2, h3]
theorem fst_cases (lm : List Nat) (ls : List (List Nat)) : fstc lm ls = 0 ∨ fstc lm ls = 1 ∨ fstc lm ls = 2 := by
  unfold fstc; split
  · split
    · exact Or.inl rfl
    · exact Or.inr (Or.inr rfl)
  · exact Or.inr (Or.inl rfl)
theorem fst_zero {lm : List Nat} {ls : List (List Nat)} (h : fstc lm ls = 0) : mdl lm = true ∧ (∀ l ∈ ls, vld l = true) ∧ ∀ l ∈ ls, val l < val lm := by
  unfold fstc at h
  split at h
  · rename_i h1
    split at h
    · rename_i h2; exact ⟨h1.1, h1.2, h2⟩
    · cases h
  · cases h
theorem mdl_vld {l : List Nat} (h : mdl l = true) : vld l = true := by unfold mdl at h; simp only [Bool.and_eq_true] at h; exact h.1
/-- a modulus, opened -/
theorem mdl_nt {w : World} {v : Value} {l : List Nat} (h : Sl w v l) (hm : mdl l = true) : ∃ K, l = digs K ∧ K ≠ 0 ∧ len K ≤ 32 ∧ Nt w v K := by
  obtain ⟨K, rfl, _, hK⟩ := nt_of h (mdl_vld hm)
  obtain ⟨a, b⟩ := mdl_digs.1 hm
  exact ⟨K, rfl, a, b, hK⟩
theorem few1_t (ao : Option Addr) (na ca : Nat) (la : List Nat) (m : Nat) (W : World) (ha : Sl W (.slice ao na ca) la) (h : na ≤ m) (g : Nat) (hg : W.heap.size = g) :
    Calls Try.prog 13 #[.int .i64 (m : Int), .slice (some ⟨g, 0, none⟩) 1 1] (W.alloc (.cells #[.slice ao na ca] 24)) fun e w' => e = .returned (.bool true) ∧ Below W.heap.size W w' := by
  refine (few1_c ao na ca m W (len_of_sl1 ha) g hg).mono ?_
  rintro e w' ⟨⟨h', rfl⟩ | ⟨h', rfl⟩, hb⟩
  · exact ⟨rfl, hb⟩
  · omega
theorem few1_f (ao : Option Addr) (na ca : Nat) (la : List Nat) (m : Nat) (W : World) (ha : Sl W (.slice ao na ca) la) (h : ¬ (na ≤ m)) (g : Nat) (hg : W.heap.size = g) :
    Calls Try.prog 13 #[.int .i64 (m : Int), .slice (some ⟨g, 0, none⟩) 1 1] (W.alloc (.cells #[.slice ao na ca] 24)) fun e w' => e = .returned (.bool false) ∧ Below W.heap.size W w' := by
  refine (few1_c ao na ca m W (len_of_sl1 ha) g hg).mono ?_
  rintro e w' ⟨⟨h', rfl⟩ | ⟨h', rfl⟩, hb⟩
  · exact absurd h' h
  · exact ⟨rfl, hb⟩
theorem few2_t (ao : Option Addr) (na ca : Nat) (la : List Nat) (bo : Option Addr) (nb cb : Nat) (lb : List Nat) (m : Nat) (W : World) (ha : Sl W (.slice ao na ca) la) (hb : Sl W (.slice bo nb cb) lb) (h : na ≤ m ∧ nb ≤ m) (g : Nat) (hg : W.heap.size = g) :
    Calls Try.prog 13 #[.int .i64 (m : Int), .slice (some ⟨g, 0, none⟩) 2 2] (W.alloc (.cells #[.slice ao na ca, .slice bo nb cb] 24)) fun e w' => e = .returned (.bool true) ∧ Below W.heap.size W w' := by
  refine (few2_c ao na ca bo nb cb m W (len_of_sl1 ha) (len_of_sl1 hb) g hg).mono ?_
  rintro e w' ⟨⟨h', rfl⟩ | ⟨h', rfl⟩, hb⟩
  · exact ⟨rfl, hb⟩
  · omega
theorem few2_f (ao : Option Addr) (na ca : Nat) (la : List Nat) (bo : Option Addr) (nb cb : Nat) (lb : List Nat) (m : Nat) (W : World) (ha : Sl W (.slice ao na ca) la) (hb : Sl W (.slice bo nb cb) lb) (h : ¬ (na ≤ m ∧ nb ≤ m)) (g : Nat) (hg : W.heap.size = g) :
    Calls Try.prog 13 #[.int .i64 (m : Int), .slice (some ⟨g, 0, none⟩) 2 2] (W.alloc (.cells #[.slice ao na ca, .slice bo nb cb] 24)) fun e w' => e = .returned (.bool false) ∧ Below W.heap.size W w' := by
  refine (few2_c ao na ca bo nb cb m W (len_of_sl1 ha) (len_of_sl1 hb) g hg).mono ?_
  rintro e w' ⟨⟨h', rfl⟩ | ⟨h', rfl⟩, hb⟩
  · exact absurd h' h
  · exact ⟨rfl, hb⟩
theorem few3_t (ao : Option Addr) (na ca : Nat) (la : List Nat) (bo : Option Addr) (nb cb : Nat) (lb : List Nat) (co : Option Addr) (nc cc : Nat) (lc : List Nat) (m : Nat) (W : World) (ha : Sl W (.slice ao na ca) la) (hb : Sl W (.slice bo nb cb) lb) (hc : Sl W (.slice co nc cc) lc) (h : na ≤ m ∧ nb ≤ m ∧ nc ≤ m) (g : Nat) (hg : W.heap.size = g) :
    Calls Try.prog 13 #[.int .i64 (m : Int), .slice (some ⟨g, 0, none⟩) 3 3] (W.alloc (.cells #[.slice ao na ca, .slice bo nb cb, .slice co nc cc] 24)) fun e w' => e = .returned (.bool true) ∧ Below W.heap.size W w' := by
  refine (few3_c ao na ca bo nb cb co nc cc m W (len_of_sl1 ha) (len_of_sl1 hb) (len_of_sl1 hc) g hg).mono ?_
  rintro e w' ⟨⟨h', rfl⟩ | ⟨h', rfl⟩, hb⟩
  · exact ⟨rfl, hb⟩
  · omega
theorem few3_f (ao : Option Addr) (na ca : Nat) (la : List Nat) (bo : Option Addr) (nb cb : Nat) (lb : List Nat) (co : Option Addr) (nc cc : Nat) (lc : List Nat) (m : Nat) (W : World) (ha : Sl W (.slice ao na ca) la) (hb : Sl W (.slice bo nb cb) lb) (hc : Sl W (.slice co nc cc) lc) (h : ¬ (na ≤ m ∧ nb ≤ m ∧ nc ≤ m)) (g : Nat) (hg : W.heap.size = g) :
    Calls Try.prog 13 #[.int .i64 (m : Int), .slice (some ⟨g, 0, none⟩) 3 3] (W.alloc (.cells #[.slice ao na ca, .slice bo nb cb, .slice co nc cc] 24)) fun e w' => e = .returned (.bool false) ∧ Below W.heap.size W w' := by
  refine (few3_c ao na ca bo nb cb co nc cc m W (len_of_sl1 ha) (len_of_sl1 hb) (len_of_sl1 hc) g hg).mono ?_
  rintro e w' ⟨⟨h', rfl⟩ | ⟨h', rfl⟩, hb⟩
  · exact absurd h' h
  · exact ⟨rfl, hb⟩
theorem few4_t (ao : Option Addr) (na ca : Nat) (la : List Nat) (bo : Option Addr) (nb cb : Nat) (lb : List Nat) (co : Option Addr) (nc cc : Nat) (lc : List Nat) (dq : Option Addr) (nd cd : Nat) (ld : List Nat) (m : Nat) (W : World) (ha : Sl W (.slice ao na ca) la) (hb : Sl W (.slice bo nb cb) lb) (hc : Sl W (.slice co nc cc) lc) (hd : Sl W (.slice dq nd cd) ld) (h : na ≤ m ∧ nb ≤ m ∧ nc ≤ m ∧ nd ≤ m) (g : Nat) (hg : W.heap.size = g) :
    Calls Try.prog 13 #[.int .i64 (m : Int), .slice (some ⟨g, 0, none⟩) 4 4] (W.alloc (.cells #[.slice ao na ca, .slice bo nb cb, .slice co nc cc, .slice dq nd cd] 24)) fun e w' => e = .returned (.bool true) ∧ Below W.heap.size W w' := by
  refine (few4_c ao na ca bo nb cb co nc cc dq nd cd m W (len_of_sl1 ha) (len_of_sl1 hb) (len_of_sl1 hc) (len_of_sl1 hd) g hg).mono ?_
  rintro e w' ⟨⟨h', rfl⟩ | ⟨h', rfl⟩, hb⟩
  · exact ⟨rfl, hb⟩
  · omega
theorem few4_f (ao : Option Addr) (na ca : Nat) (la : List Nat) (bo : Option Addr) (nb cb : Nat) (lb : List Nat) (co : Option Addr) (nc cc : Nat) (lc : List Nat) (dq : Option Addr) (nd cd : Nat) (ld : List Nat) (m : Nat) (W : World) (ha : Sl W (.slice ao na ca) la) (hb : Sl W (.slice bo nb cb) lb) (hc : Sl W (.slice co nc cc) lc) (hd : Sl W (.slice dq nd cd) ld) (h : ¬ (na ≤ m ∧ nb ≤ m ∧ nc ≤ m ∧ nd ≤ m)) (g : Nat) (hg : W.heap.size = g) :
    Calls Try.prog 13 #[.int .i64 (m : Int), .slice (some ⟨g, 0, none⟩) 4 4] (W.alloc (.cells #[.slice ao na ca, .slice bo nb cb, .slice co nc cc, .slice dq nd cd] 24)) fun e w' => e = .returned (.bool false) ∧ Below W.heap.size W w' := by
  refine (few4_c ao na ca bo nb cb co nc cc dq nd cd m W (len_of_sl1 ha) (len_of_sl1 hb) (len_of_sl1 hc) (len_of_sl1 hd) g hg).mono ?_
  rintro e w' ⟨⟨h', rfl⟩ | ⟨h', rfl⟩, hb⟩
  · exact absurd h' h
  · exact ⟨rfl, hb⟩
end Go.Proofs.Ythphmgdmhlimjaa

/- Picked declarations of VnNatMath, VnNatMath2, VnNatMath3, VnNatMath4, VnNatA, VnNatB, VnNatC, VnNatO, VnNatD, VnNatE, VnNatF, VnNatG, VnNatH, VnNatI, VnNatJ, VnNatK. -/
import Derived.Lib.BitFns
import Derived.Test.YtikopkkebdobdaaGreatDoorProg
import Derived.WalkKit
import Derived.WalkLawsBesides
import Derived.Lib.Hide
import Derived.Outline
import Derived.BigQuiet
import Derived.Deep.QuietTactic
import Derived.Laws.Bits64b
import Derived.WalkSmall
import Derived.RowKit3
import Derived.OneCell
import Derived.Laws.OwnMore
import Derived.Laws.NewBlocks
import Derived.OwnWalk
import Derived.Test.YtikopkkebdobdaaGreatDoorShelf
import Derived.Deep.RegionWith
import Derived.Test.YtikopkkebdobdaaGreatDoorVw0
namespace Go.Proofs.YtikopkkebdobdaaGreatDoor
set_option linter.unusedVariables false
set_option linter.unusedSimpArgs false
namespace Nn.NatMath
/-- 2^32 -/
abbrev B : Nat := 4294967296
/-- the powers of 2^32, behind a name -/
def Bp (i : Nat) : Nat := 4294967296 ^ i
theorem Bp_zero : Bp 0 = 1 := by unfold Bp; exact Nat.pow_zero _
theorem Bp_succ (i : Nat) : Bp (i + 1) = Bp i * 4294967296 := by unfold Bp; exact Nat.pow_succ _ _
theorem Bp_pos (i : Nat) : 0 < Bp i := by unfold Bp; exact Nat.pow_pos (by omega)
theorem Bp_add (i j : Nat) : Bp (i + j) = Bp i * Bp j := by unfold Bp; exact Nat.pow_add ..
theorem Bp_le {i j : Nat} (h : i ≤ j) : Bp i ≤ Bp j := by unfold Bp; exact Nat.pow_le_pow_right (by omega) h
theorem Bp_one : Bp 1 = 4294967296 := by unfold Bp; exact Nat.pow_one _
/-- the value of a list of words -/
def val : List Nat → Nat
 | [] => 0
 | u :: l => u + 4294967296 * val l
def words (l : List Nat) : Prop := ∀ u ∈ l, u < 4294967296
/-- the word with an index -/
def dig (n i : Nat) : Nat := n / Bp i % 4294967296
theorem words_cons {u : Nat} {l : List Nat} : words (u :: l) ↔ u < 4294967296 ∧ words l := by
 unfold words; simp
theorem words_nil : words [] := by intro u h; simp at h
theorem val_lt : ∀ {l : List Nat}, words l → val l < Bp l.length
 | [], _ => by simp [val, Bp_zero]
 | u :: l, h => by
  have h' := words_cons.1 h
  have := val_lt h'.2
  simp only [val, List.length_cons, Bp_succ]
  omega
theorem dig_zero (n : Nat) : dig n 0 = n % 4294967296 := by unfold dig; rw [Bp_zero, Nat.div_one]
theorem dig_lt (n i : Nat) : dig n i < 4294967296 := Nat.mod_lt _ (by omega)
theorem dig_succ (n i : Nat) : dig n (i + 1) = dig (n / 4294967296) i := by
 unfold dig; rw [Bp_succ, Nat.mul_comm, Nat.div_div_eq_div_mul]
/-- the part above an index, by its lowest word -/
theorem div_step (n i : Nat) : n / Bp i = n / Bp (i + 1) * 4294967296 + dig n i := by
 unfold dig; rw [Bp_succ, ← Nat.div_div_eq_div_mul]
 have := Nat.div_add_mod (n / Bp i) 4294967296
 omega
theorem dig_val : ∀ {l : List Nat}, words l → ∀ i, l.getD i 0 = dig (val l) i
 | [], _, i => by simp [val, dig]
 | u :: l, h, 0 => by
  have h' := words_cons.1 h
  rw [dig_zero]; simp only [val, List.getD_cons_zero]; omega
 | u :: l, h, i + 1 => by
  have h' := words_cons.1 h
  rw [dig_succ, List.getD_cons_succ, dig_val h'.2 i]
  congr 1
  simp only [val]; omega
/-- the words of a number, without zeros at the end -/
def digs (n : Nat) : List Nat := if h : n = 0 then [] else (n % 4294967296) :: digs (n / 4294967296)
termination_by n
decreasing_by omega
theorem digs_zero : digs 0 = [] := by rw [digs]; simp
theorem digs_pos {n : Nat} (h : n ≠ 0) : digs n = (n % 4294967296) :: digs (n / 4294967296) := by rw [digs]; simp [h]
theorem val_digs (n : Nat) : val (digs n) = n := by
 induction n using Nat.strongRecOn with
 | _ n ih =>
  by_cases h : n = 0
  ·subst h; rw [digs_zero]; rfl
  ·rw [digs_pos h]; simp only [val]; rw [ih _ (by omega)]; omega
theorem words_digs (n : Nat) : words (digs n) := by
 induction n using Nat.strongRecOn with
 | _ n ih =>
  by_cases h : n = 0
  ·subst h; rw [digs_zero]; exact words_nil
  ·rw [digs_pos h]; exact words_cons.2 ⟨by omega, ih _ (by omega)⟩
/-- the number of words -/
def len (n : Nat) : Nat := (digs n).length
theorem len_zero : len 0 = 0 := by unfold len; rw [digs_zero]; rfl
theorem len_pos {n : Nat} (h : n ≠ 0) : len n = len (n / 4294967296) + 1 := by unfold len; rw [digs_pos h]; rfl
theorem len_eq_zero {n : Nat} : len n = 0 ↔ n = 0 := by
 constructor
 ·intro h; by_cases h0 : n = 0; exact h0; rw [len_pos h0] at h; omega
 ·rintro rfl; exact len_zero
theorem lt_Bp_len (n : Nat) : n < Bp (len n) := by have := val_lt (words_digs n); rwa [val_digs] at this
theorem Bp_len_le {n : Nat} (h : n ≠ 0) : Bp (len n - 1) ≤ n := by
 induction n using Nat.strongRecOn with
 | _ n ih =>
  rw [len_pos h, Nat.add_sub_cancel]
  by_cases h2 : n / 4294967296 = 0
  ·rw [h2, len_zero, Bp_zero]; omega
  ·have := ih (n / 4294967296) (by omega) h2
   rw [show len (n / 4294967296) = len (n / 4294967296) - 1 + 1 by have := len_pos h2; omega, Bp_succ]
   omega
theorem len_le_iff {n k : Nat} : len n ≤ k ↔ n < Bp k := by
 constructor
 ·intro h; exact Nat.lt_of_lt_of_le (lt_Bp_len n) (Bp_le h)
 ·intro h
  by_cases h0 : n = 0
  ·subst h0; rw [len_zero]; omega
  ·have h1 := Bp_len_le h0
   apply Nat.le_of_not_lt; intro h2
   have := Bp_le (show k ≤ len n - 1 by omega)
   omega
theorem dig_digs (n i : Nat) : (digs n).getD i 0 = dig n i := by rw [dig_val (words_digs n), val_digs]
theorem dig_top {n : Nat} (h : n ≠ 0) : dig n (len n - 1) ≠ 0 := by
 have h1 := Bp_len_le h
 have h2 := lt_Bp_len n
 have h3 : len n ≠ 0 := fun e => h (len_eq_zero.1 e)
 have h4 := div_step n (len n - 1)
 rw [show len n - 1 + 1 = len n by omega, Nat.div_eq_of_lt h2] at h4
 have h5 : 0 < n / Bp (len n - 1) := Nat.div_pos h1 (Bp_pos _)
 omega
/-- a list without a zero at its end is what digs gives -/
def normal (l : List Nat) : Prop := l = [] ∨ l.getD (l.length - 1) 0 ≠ 0
theorem normal_digs (n : Nat) : normal (digs n) := by
 by_cases h : n = 0
 ·left; rw [h, digs_zero]
 ·right; rw [dig_digs]; exact dig_top h
theorem len_of_normal {l : List Nat} (hw : words l) (hn : normal l) : len (val l) = l.length := by
 have h1 := val_lt hw
 have h2 : len (val l) ≤ l.length := len_le_iff.2 h1
 rcases hn with rfl | hn
 ·simp [val, len_zero]
 ·apply Nat.le_antisymm h2
  apply Nat.le_of_not_lt; intro h3
  rw [dig_val hw] at hn
  apply hn
  unfold dig
  rw [Nat.div_eq_of_lt (len_le_iff.1 (show len (val l) ≤ l.length - 1 by omega))]
theorem list_ext_getD {l m : List Nat} (h : l.length = m.length) (he : ∀ i, i < l.length → l.getD i 0 = m.getD i 0) : l = m := by
 apply List.ext_getElem h
 intro i h1 h2
 have := he i h1
 simpa [List.getD_eq_getElem?_getD, List.getElem?_eq_getElem h1, List.getElem?_eq_getElem h2] using this
theorem digs_val {l : List Nat} (hw : words l) (hn : normal l) : digs (val l) = l := by
 apply list_ext_getD
 ·exact len_of_normal hw hn
 ·intro i _; rw [dig_digs, dig_val hw]
/-- numbers of as many words are equal if all words are -/
theorem eq_of_digs {n m k : Nat} (hn : n < Bp k) (hm : m < Bp k) (h : ∀ i, i < k → dig n i = dig m i) : n = m := by
 induction k generalizing n m with
 | zero => rw [Bp_zero] at *; omega
 | succ k ih =>
  have h0 := h 0 (by omega)
  rw [dig_zero, dig_zero] at h0
  have : n / 4294967296 = m / 4294967296 := by
   apply ih
   ·rw [Bp_succ] at hn; omega
   ·rw [Bp_succ] at hm; omega
   ·intro i hi; rw [← dig_succ, ← dig_succ]; exact h (i + 1) (by omega)
  omega
/-- the order, as an int -/
def cmp (n m : Nat) : Int := if n < m then -1 else if m < n then 1 else 0
/-- comparing from the highest word on -/
theorem cmp_lt {n m i : Nat} (h : n / Bp (i + 1) = m / Bp (i + 1)) (hd : dig n i < dig m i) : n < m := by
 have h1 := div_step n i
 have h2 := div_step m i
 apply Nat.lt_of_not_le; intro h3
 have := Nat.div_le_div_right (c := Bp i) h3
 omega
theorem cmp_eq_step {n m i : Nat} (h : n / Bp (i + 1) = m / Bp (i + 1)) (hd : dig n i = dig m i) : n / Bp i = m / Bp i := by
 rw [div_step n i, div_step m i, h, hd]
theorem cmp_len {n m : Nat} (h : len n < len m) : n < m := by
 have h1 := lt_Bp_len n
 have h2 : m ≠ 0 := fun e => by rw [e, len_zero] at h; omega
 have := Bp_len_le h2
 have := Bp_le (show len n ≤ len m - 1 by omega)
 omega
theorem val_append : ∀ (l m : List Nat), val (l ++ m) = val l + Bp l.length * val m
 | [], m => by simp [val, Bp_zero]
 | u :: l, m => by
  simp only [List.cons_append, val, val_append l m, List.length_cons, Bp_succ]
  rw [Nat.mul_add, ← Nat.mul_assoc, Nat.mul_comm 4294967296 (Bp _)]
  omega
theorem take_snoc {l : List Nat} {k : Nat} (h : k < l.length) : l.take (k + 1) = l.take k ++ [l.getD k 0] := by
 rw [List.take_succ_eq_append_getElem h, List.getD_eq_getElem?_getD, List.getElem?_eq_getElem h]; rfl
/-- a zero word at the end adds nothing -/
theorem val_take_zero {l : List Nat} {k : Nat} (h : k < l.length) (hz : l.getD k 0 = 0) : val (l.take k) = val (l.take (k + 1)) := by
 rw [take_snoc h, val_append, hz]; simp [val]
theorem words_take {l : List Nat} (h : words l) (k : Nat) : words (l.take k) := fun u hu => h u (List.mem_of_mem_take hu)
theorem getD_take {l : List Nat} {k i : Nat} (h : i < k) : (l.take k).getD i 0 = l.getD i 0 := by
 simp [List.getD_eq_getElem?_getD, h]
/-- what is left when no zero is at the end -/
theorem digs_take {l : List Nat} {k : Nat} (hw : words l) (hk : k ≤ l.length) (hv : val (l.take k) = val l) (hn : k = 0 ∨ l.getD (k - 1) 0 ≠ 0) : digs (val l) = l.take k := by
 rw [← hv]
 apply digs_val (words_take hw k)
 have hlen : (l.take k).length = k := by rw [List.length_take]; omega
 rcases hn with rfl | hn
 ·left; simp
 ·by_cases h0 : k = 0
  ·subst h0; left; simp
  ·right; rw [hlen, getD_take (by omega)]; exact hn
/-! ### a list that is filled from the lowest word on -/
def fill (f : Nat → Nat) (k n : Nat) : List Nat := (List.range n).map fun i => if i < k then f i else 0
theorem fill_length (f : Nat → Nat) (k n : Nat) : (fill f k n).length = n := by simp [fill]
theorem fill_zero (f : Nat → Nat) (n : Nat) : fill f 0 n = List.replicate n 0 := by
 apply List.ext_getElem
 ·simp [fill]
 ·intro i h1 h2; simp [fill]
theorem fill_getD {f : Nat → Nat} {k n i : Nat} (h : i < n) : (fill f k n).getD i 0 = if i < k then f i else 0 := by
 simp [fill, h]
theorem fill_set (f : Nat → Nat) {k n : Nat} (h : k < n) : (fill f k n).set k (f k) = fill f (k + 1) n := by
 apply List.ext_getElem
 ·simp [fill]
 ·intro i h1 h2
  simp only [fill, List.getElem_set, List.getElem_map, List.getElem_range]
  by_cases e : k = i
  ·subst e; simp
  ·rw [if_neg e]
   by_cases h3 : i < k
   ·rw [if_pos h3, if_pos (by omega)]
   ·rw [if_neg h3, if_neg (by omega)]
theorem fill_words {f : Nat → Nat} {k n : Nat} (h : ∀ i, f i < 4294967296) : words (fill f k n) := by
 intro u hu
 simp only [fill, List.mem_map, List.mem_range] at hu
 obtain ⟨i, _, rfl⟩ := hu
 split
 ·exact h i
 ·omega
theorem fill_val {S n : Nat} (h : S < Bp n) : val (fill (dig S) n n) = S := by
 have hw : words (fill (dig S) n n) := fill_words (dig_lt S)
 have hl := val_lt hw
 rw [fill_length] at hl
 refine eq_of_digs hl h (fun i hi => ?_)
 rw [← dig_val hw, fill_getD hi, if_pos hi]
/-! ### sums -/
/-- the carry below an index -/
def car (X Y k : Nat) : Nat := (X % Bp k + Y % Bp k) / Bp k
theorem car_zero (X Y : Nat) : car X Y 0 = 0 := by unfold car; rw [Bp_zero]; omega
theorem car_le (X Y k : Nat) : car X Y k ≤ 1 := by
 unfold car
 have h1 := Nat.mod_lt X (Bp_pos k)
 have h2 := Nat.mod_lt Y (Bp_pos k)
 have : (X % Bp k + Y % Bp k) / Bp k < 2 := by rw [Nat.div_lt_iff_lt_mul (Bp_pos k)]; omega
 omega
theorem mod_step (X k : Nat) : X % Bp (k + 1) = Bp k * dig X k + X % Bp k := by
 unfold dig
 rw [Bp_succ, Nat.mod_mul]
 omega
theorem car_step (X Y k : Nat) : car X Y (k + 1) = (dig X k + dig Y k + car X Y k) / 4294967296 := by
 unfold car
 rw [mod_step, mod_step, Bp_succ, ← Nat.div_div_eq_div_mul]
 congr 1
 rw [show Bp k * dig X k + X % Bp k + (Bp k * dig Y k + Y % Bp k) = X % Bp k + Y % Bp k + Bp k * (dig X k + dig Y k) by rw [Nat.mul_add]; omega, Nat.add_mul_div_left _ _ (Bp_pos k)]
 omega
theorem dig_add (X Y k : Nat) : dig (X + Y) k = (dig X k + dig Y k + car X Y k) % 4294967296 := by
 have h1 := Nat.div_add_mod X (Bp k)
 have h2 := Nat.div_add_mod Y (Bp k)
 have e : (X + Y) / Bp k = X / Bp k + Y / Bp k + car X Y k := by
  unfold car
  conv => lhs; rw [← h1, ← h2]
  rw [show Bp k * (X / Bp k) + X % Bp k + (Bp k * (Y / Bp k) + Y % Bp k) = X % Bp k + Y % Bp k + Bp k * (X / Bp k + Y / Bp k) by rw [Nat.mul_add]; omega, Nat.add_mul_div_left _ _ (Bp_pos k)]
  omega
 unfold dig
 rw [e]; omega
/-- the last carry is the highest word of the sum -/
theorem car_last {X Y n : Nat} (hX : X < Bp n) (hY : Y < Bp n) : dig (X + Y) n = car X Y n := by
 rw [dig_add]
 have : dig X n = 0 := by unfold dig; rw [Nat.div_eq_of_lt hX]
 have : dig Y n = 0 := by unfold dig; rw [Nat.div_eq_of_lt hY]
 have := car_le X Y n
 omega
theorem dig_above {Y i : Nat} (h : len Y ≤ i) : dig Y i = 0 := by
 unfold dig; rw [Nat.div_eq_of_lt (len_le_iff.1 h)]
/-! ### differences -/
/-- the borrow below an index -/
def bor (X Y k : Nat) : Nat := if X % Bp k < Y % Bp k then 1 else 0
theorem bor_zero (X Y : Nat) : bor X Y 0 = 0 := by unfold bor; rw [Bp_zero, Nat.mod_one, Nat.mod_one]; rfl
theorem bor_le (X Y k : Nat) : bor X Y k ≤ 1 := by unfold bor; split <;> omega
theorem bor_step (X Y k : Nat) : bor X Y (k + 1) = if dig X k < dig Y k + bor X Y k then 1 else 0 := by
 unfold bor
 rw [mod_step, mod_step]
 have h1 := Nat.mod_lt X (Bp_pos k)
 have h2 := Nat.mod_lt Y (Bp_pos k)
 generalize X % Bp k = x at *
 generalize Y % Bp k = y at *
 generalize dig X k = dx
 generalize dig Y k = dy
 generalize Bp k = P at *
 rcases Nat.lt_trichotomy dx dy with h | h | h
 ·have := Nat.mul_le_mul_left P (show dx + 1 ≤ dy from h)
  rw [Nat.mul_add] at this
  rw [if_pos (by omega), if_pos (by split <;> omega)]
 ·subst h
  by_cases hxy : x < y
  ·rw [if_pos (by omega), if_pos hxy, if_pos (by omega)]
  ·rw [if_neg (by omega), if_neg hxy, if_neg (by omega)]
 ·have := Nat.mul_le_mul_left P (show dy + 1 ≤ dx from h)
  rw [Nat.mul_add] at this
  rw [if_neg (by omega), if_neg (by split <;> omega)]
theorem sub_div (X Y k : Nat) (h : Y ≤ X) : (X - Y) / Bp k + Y / Bp k + bor X Y k = X / Bp k := by
 unfold bor
 have h1 := Nat.mod_lt X (Bp_pos k)
 have h2 := Nat.mod_lt Y (Bp_pos k)
 have e1 := Nat.div_add_mod X (Bp k)
 have e2 := Nat.div_add_mod Y (Bp k)
 have hP := Bp_pos k
 generalize X % Bp k = x at *
 generalize Y % Bp k = y at *
 generalize X / Bp k = qx at *
 generalize Y / Bp k = qy at *
 generalize Bp k = P at *
 by_cases hxy : x < y
 ·rw [if_pos hxy]
  have hq : qy < qx := by
   apply Nat.lt_of_not_le; intro hh
   have := Nat.mul_le_mul_left P hh
   omega
  have hm : P * qx = P * (qx - qy - 1) + P * qy + P := by
   have : qx = (qx - qy - 1) + qy + 1 := by omega
   conv => lhs; rw [this]
   rw [Nat.mul_add, Nat.mul_add, Nat.mul_one]
  have : X - Y = (P + x - y) + P * (qx - qy - 1) := by omega
  rw [this, Nat.add_mul_div_left _ _ hP, Nat.div_eq_of_lt (by omega)]
  omega
 ·rw [if_neg hxy]
  have hq : qy ≤ qx := by
   apply Nat.le_of_not_lt; intro hh
   have := Nat.mul_le_mul_left P (show qx + 1 ≤ qy from hh)
   rw [Nat.mul_add] at this
   omega
  have hm : P * qx = P * (qx - qy) + P * qy := by
   have : qx = (qx - qy) + qy := by omega
   conv => lhs; rw [this]
   rw [Nat.mul_add]
  have : X - Y = (x - y) + P * (qx - qy) := by omega
  rw [this, Nat.add_mul_div_left _ _ hP, Nat.div_eq_of_lt (by omega)]
  omega
theorem dig_sub (X Y k : Nat) (h : Y ≤ X) : dig (X - Y) k = (dig X k + 8589934592 - dig Y k - bor X Y k) % 4294967296 := by
 have := sub_div X Y k h
 have := bor_le X Y k
 unfold dig
 omega
end Nn.NatMath
namespace Nn.NatMath
theorem val_set : ∀ (l : List Nat) (j u : Nat), j < l.length → val (l.set j u) + l.getD j 0 * Bp j = val l + u * Bp j
 | [], _, _, h => by simp at h
 | x :: l, 0, u, _ => by simp only [List.set_cons_zero, val, List.getD_cons_zero, Bp_zero]; omega
 | x :: l, j + 1, u, h => by
  have ih := val_set l j u (by simpa using h)
  simp only [List.set_cons_succ, val, List.getD_cons_succ, Bp_succ]
  have e1 : l.getD j 0 * (Bp j * 4294967296) = 4294967296 * (l.getD j 0 * Bp j) := by rw [← Nat.mul_assoc, Nat.mul_comm]
  have e2 : u * (Bp j * 4294967296) = 4294967296 * (u * Bp j) := by rw [← Nat.mul_assoc, Nat.mul_comm]
  rw [e1, e2]; omega
theorem words_set {l : List Nat} {j u : Nat} (h : words l) (hu : u < 4294967296) : words (l.set j u) := by
 intro x hx
 rcases List.mem_or_eq_of_mem_set hx with h1 | h1
 ·exact h x h1
 ·rw [h1]; exact hu
theorem getD_set_ne {l : List Nat} {i j u : Nat} (h : i ≠ j) : (l.set i u).getD j 0 = l.getD j 0 := by
 simp [List.getD_eq_getElem?_getD, h]
theorem getD_set_eq {l : List Nat} {i u : Nat} (h : i < l.length) : (l.set i u).getD i 0 = u := by
 simp [List.getD_eq_getElem?_getD, h]
theorem words_zeros (n : Nat) : words (List.replicate n 0) := by
 intro u hu; rw [List.eq_of_mem_replicate hu]; omega
theorem val_zeros : ∀ n : Nat, val (List.replicate n 0) = 0
 | 0 => rfl
 | n + 1 => by simp [List.replicate_succ, val, val_zeros n]
theorem getD_lt {l : List Nat} (h : words l) (i : Nat) : l.getD i 0 < 4294967296 := by rw [dig_val h]; exact dig_lt _ _
/-- i rows of the product of N and M are done -/
def MulO (N M i : Nat) (l : List Nat) : Prop := l.length = len N + len M ∧ words l ∧ (∀ j, i + len M ≤ j → l.getD j 0 = 0) ∧ val l = N % Bp i * M
/-- and of one row k columns, c being the carry -/
def MulI (N M i k c : Nat) (l : List Nat) : Prop := l.length = len N + len M ∧ words l ∧ c < 4294967296 ∧ (∀ j, i + len M ≤ j → l.getD j 0 = 0) ∧ val l + c * Bp (i + k) = N % Bp i * M + dig N i * (M % Bp k) * Bp i
theorem MulO.zero (N M : Nat) : MulO N M 0 (List.replicate (len N + len M) 0) := by
 refine ⟨by simp, words_zeros _, fun j _ => by simp [List.getD_eq_getElem?_getD, List.getElem?_replicate]; split <;> rfl, ?_⟩
 rw [val_zeros, Bp_zero, Nat.mod_one, Nat.zero_mul]
theorem MulO.row {N M i : Nat} {l : List Nat} (h : MulO N M i l) : MulI N M i 0 0 l := by
 obtain ⟨h1, h2, h3, h4⟩ := h
 refine ⟨h1, h2, by omega, h3, ?_⟩
 rw [h4, Bp_zero, Nat.mod_one]; omega
theorem MulI.step {N M i k c : Nat} {l : List Nat} (h : MulI N M i k c l) (hk : k < len M) (hi : i < len N) {t : Nat} (ht : t = dig N i * dig M k + l.getD (i + k) 0 + c) :
  t < 18446744073709551616 ∧ MulI N M i (k + 1) (t / 4294967296) (l.set (i + k) (t % 4294967296)) := by
 obtain ⟨h1, h2, h3, h4, h5⟩ := h
 have hx := dig_lt N i
 have hy := dig_lt M k
 have ho := getD_lt h2 (i + k)
 have hxy := Nat.mul_le_mul (show dig N i ≤ 4294967295 by omega) (show dig M k ≤ 4294967295 by omega)
 have hs := val_set l (i + k) (t % 4294967296) (by omega)
 have e0 := Nat.div_add_mod t 4294967296
 refine ⟨by omega, by simpa using h1, words_set h2 (by omega), by omega, fun j hj => ?_, ?_⟩
 ·rw [getD_set_ne (by omega)]; exact h4 j hj
 ·rw [mod_step, ← Nat.add_assoc, Bp_succ]
  rw [Bp_add] at *
  generalize val (l.set (i + k) (t % 4294967296)) = V' at *
  generalize val l = V at *
  generalize l.getD (i + k) 0 = o at *
  generalize t / 4294967296 = q at *
  generalize t % 4294967296 = r at *
  generalize dig N i = x at *
  generalize dig M k = y at *
  generalize M % Bp k = z at *
  generalize N % Bp i * M = A at *
  generalize Bp i = Q at *
  generalize Bp k = R at *
  clear hx hy ho hxy h1 h2 h3 h4
  have e1 : (4294967296 * q + r) * (Q * R) = (x * y + o + c) * (Q * R) := by rw [e0, ht]
  grind
theorem MulI.done {N M i c : Nat} {l : List Nat} (h : MulI N M i (len M) c l) (hi : i < len N) : MulO N M (i + 1) (l.set (i + len M) c) := by
 obtain ⟨h1, h2, h3, h4, h5⟩ := h
 have hs := val_set l (i + len M) c (by omega)
 rw [h4 _ (Nat.le_refl _), Nat.zero_mul, Nat.add_zero, h5, Nat.mod_eq_of_lt (lt_Bp_len M)] at hs
 refine ⟨by simpa using h1, words_set h2 h3, fun j hj => ?_, ?_⟩
 ·rw [getD_set_ne (by omega)]; exact h4 j (by omega)
 ·rw [hs, mod_step]
  generalize N % Bp i = a
  generalize Bp i = P
  generalize dig N i = x
  grind
theorem MulO.done {N M : Nat} {l : List Nat} (h : MulO N M (len N) l) : l.length = len N + len M ∧ words l ∧ val l = N * M := by
 obtain ⟨h1, h2, h3, h4⟩ := h
 exact ⟨h1, h2, by rw [h4, Nat.mod_eq_of_lt (lt_Bp_len N)]⟩
/-! ### a list that is filled from the highest word down; division by one word -/
def fillD (f : Nat → Nat) (k n : Nat) : List Nat := (List.range n).map fun i => if k ≤ i then f i else 0
theorem fillD_length (f : Nat → Nat) (k n : Nat) : (fillD f k n).length = n := by simp [fillD]
theorem fillD_none (f : Nat → Nat) (n : Nat) : fillD f n n = List.replicate n 0 := by
 apply List.ext_getElem
 ·simp [fillD]
 ·intro i h1 h2
  have : ¬ n ≤ i := by simp at h2; omega
  simp [fillD, this]
theorem fillD_all (f : Nat → Nat) (n : Nat) : fillD f 0 n = fill f n n := by
 apply List.ext_getElem
 ·simp [fillD, fill]
 ·intro i h1 h2
  simp only [fillD, List.length_map, List.length_range] at h1
  simp [fillD, fill, h1]
theorem fillD_set (f : Nat → Nat) {k n : Nat} (h : k < n) : (fillD f (k + 1) n).set k (f k) = fillD f k n := by
 apply List.ext_getElem
 ·simp [fillD]
 ·intro i h1 h2
  simp only [fillD, List.getElem_set, List.getElem_map, List.getElem_range]
  by_cases e : k = i
  ·subst e; simp
  ·rw [if_neg e]
   by_cases h3 : k ≤ i
   ·rw [if_pos (by omega), if_pos h3]
   ·rw [if_neg (by omega), if_neg h3]
/-- the remainder of the upper words -/
def drem (N d k : Nat) : Nat := N / Bp k % d
theorem drem_zero (N d : Nat) : drem N d 0 = N % d := by unfold drem; rw [Bp_zero, Nat.div_one]
theorem drem_top (N d : Nat) : drem N d (len N) = 0 := by unfold drem; rw [Nat.div_eq_of_lt (lt_Bp_len N), Nat.zero_mod]
theorem drem_lt (N : Nat) {d : Nat} (h : 0 < d) (k : Nat) : drem N d k < d := Nat.mod_lt _ h
theorem drem_step (N : Nat) {d : Nat} (h : 0 < d) (k : Nat) : (drem N d (k + 1) * 4294967296 + dig N k) % d = drem N d k ∧ (drem N d (k + 1) * 4294967296 + dig N k) / d = dig (N / d) k := by
 unfold drem
 have hr := Nat.mod_lt (N / Bp (k + 1)) h
 have e : N / Bp k = d * (N / Bp (k + 1) / d * 4294967296) + (N / Bp (k + 1) % d * 4294967296 + dig N k) := by
  have e1 := div_step N k
  have e2 := Nat.div_add_mod (N / Bp (k + 1)) d
  conv at e1 => rhs; rw [← e2]
  rw [e1, Nat.add_mul, Nat.mul_assoc]; omega
 have hlt : (N / Bp (k + 1) % d * 4294967296 + dig N k) / d < 4294967296 := by
  rw [Nat.div_lt_iff_lt_mul h]
  have h1 := dig_lt N k
  have h2 := Nat.mul_le_mul_right 4294967296 (show N / Bp (k + 1) % d + 1 ≤ d from hr)
  rw [Nat.mul_comm 4294967296 d]
  omega
 refine ⟨?_, ?_⟩
 ·rw [e, Nat.mul_add_mod]
 ·have e3 : dig (N / d) k = N / Bp k / d % 4294967296 := by
   unfold dig
   rw [Nat.div_div_eq_div_mul, Nat.div_div_eq_div_mul, Nat.mul_comm]
  rw [e3, e, Nat.mul_add_div h]
  generalize (N / Bp (k + 1) % d * 4294967296 + dig N k) / d = y at *
  generalize N / Bp (k + 1) / d = z
  clear e hr e3
  omega
end Nn.NatMath
namespace Nn
namespace NatMath
/-- bit i of n -/
def bt (n i : Nat) : Bool := decide (n / 2 ^ i % 2 = 1)
/-- the number of bits of n -/
def bl (n : Nat) : Nat := if n = 0 then 0 else n.log2 + 1
theorem bl_zero : bl 0 = 0 := rfl
theorem bl_le_iff {n k : Nat} : bl n ≤ k ↔ n < 2 ^ k := by
 unfold bl
 by_cases h : n = 0
 ·subst h; simp [Nat.pow_pos]
 ·rw [if_neg h, ← Nat.log2_lt h]; omega
theorem lt_two_bl (n : Nat) : n < 2 ^ bl n := bl_le_iff.1 (Nat.le_refl _)
theorem bl_eq {n k : Nat} (h1 : n < 2 ^ k) (h2 : k = 0 ∨ 2 ^ (k - 1) ≤ n) : bl n = k := by
 have a := bl_le_iff.2 h1
 rcases h2 with h2 | h2
 ·omega
 ·have : ¬ bl n ≤ k - 1 := fun h => by have := bl_le_iff.1 h; omega
  omega
theorem bl_pos {n : Nat} (h : n ≠ 0) : 0 < bl n := by unfold bl; rw [if_neg h]; omega
theorem two_bl_le {n : Nat} (h : n ≠ 0) : 2 ^ (bl n - 1) ≤ n := by
 have := bl_pos h
 apply Nat.le_of_not_lt; intro hh
 have := bl_le_iff.2 hh; omega
theorem pow_split (a b : Nat) : 2 ^ (a + b) = 2 ^ a * 2 ^ b := Nat.pow_add ..
theorem bl_div {n k : Nat} : bl (n / 2 ^ k) = bl n - k := by
 by_cases h : bl n ≤ k
 ·rw [Nat.div_eq_of_lt (bl_le_iff.1 h), bl_zero]; omega
 ·have h0 : n ≠ 0 := by rintro rfl; simp [bl_zero] at h
  have h1 := lt_two_bl n
  have h2 := two_bl_le h0
  apply bl_eq
  ·rw [Nat.div_lt_iff_lt_mul (Nat.two_pow_pos k), ← pow_split, show bl n - k + k = bl n from by omega]; exact h1
  ·right
   rw [Nat.le_div_iff_mul_le (Nat.two_pow_pos k), ← pow_split, show bl n - k - 1 + k = bl n - 1 from by omega]; exact h2
theorem bl_half {n : Nat} (h : n ≠ 0) : bl n = 1 + bl (n / 2) := by
 have := bl_div (n := n) (k := 1)
 have := bl_pos h
 rw [Nat.pow_one] at *; omega
theorem bitLen_bl : ∀ (k n : Nat), n < 2 ^ k → k ≤ 64 → Lib.bitLen n = bl n
 | k, 0, _, _ => by rfl
 | 0, n + 1, h, _ => by simp at h
 | k + 1, n + 1, h, hk => by
  have h2 : n + 1 < 2 ^ 64 := Nat.lt_of_lt_of_le h (Nat.pow_le_pow_right (by omega) hk)
  rw [Lib.bitLen_half (n + 1) (by omega) h2, bl_half (by omega), bitLen_bl k ((n + 1) / 2) (by rw [Nat.pow_succ] at h; omega) (by omega)]
theorem Bp_two (k : Nat) : Bp k = 2 ^ (32 * k) := by
 unfold Bp; rw [Nat.pow_mul]
theorem len_bl {n k : Nat} : len n ≤ k ↔ bl n ≤ 32 * k := by rw [len_le_iff, bl_le_iff, Bp_two]
theorem bl_top {n : Nat} (h : n ≠ 0) : bl n = 32 * (len n - 1) + bl (dig n (len n - 1)) := by
 have hl : 0 < len n := by
  apply Nat.pos_of_ne_zero; intro e; exact h (len_eq_zero.1 e)
 have h1 : n / Bp (len n - 1) < 4294967296 := by
  rw [Nat.div_lt_iff_lt_mul (Bp_pos _), Nat.mul_comm, ← Bp_succ, show len n - 1 + 1 = len n from by omega]
  exact lt_Bp_len n
 have h2 : dig n (len n - 1) = n / Bp (len n - 1) := by unfold dig; exact Nat.mod_eq_of_lt h1
 rw [h2, Bp_two, bl_div]
 have h3 := Bp_len_le h
 rw [Bp_two] at h3
 have : ¬ bl n ≤ 32 * (len n - 1) := fun hh => by have := bl_le_iff.1 hh; omega
 omega
theorem bt_dig (n i : Nat) : bt n i = decide (dig n (i / 32) / 2 ^ (i % 32) % 2 = 1) := by
 unfold bt dig
 have e : i = 32 * (i / 32) + i % 32 := (Nat.div_add_mod i 32).symm
 have h : n / Bp (i / 32) % 4294967296 / 2 ^ (i % 32) % 2 = n / 2 ^ i % 2 := by
  conv => rhs; rw [e]
  rw [Bp_two, pow_split, ← Nat.div_div_eq_div_mul]
  generalize n / 2 ^ (32 * (i / 32)) = m
  have hr : i % 32 < 32 := Nat.mod_lt _ (by omega)
  generalize i % 32 = r at hr
  have h4 : (4294967296 : Nat) = 2 ^ r * (2 * 2 ^ (31 - r)) := by
   rw [← Nat.pow_succ', ← Nat.pow_add, show r + (31 - r + 1) = 32 from by omega]
  rw [h4, Nat.mod_mul_right_div_self, Nat.mod_mul_right_mod]
 rw [h]
theorem bt_above {n i : Nat} (h : 32 * len n ≤ i) : bt n i = false := by
 unfold bt
 have : n < 2 ^ i := bl_le_iff.1 (Nat.le_trans (len_bl.1 (Nat.le_refl _)) h)
 rw [Nat.div_eq_of_lt this]; rfl
/-- one step down of the search for the highest bit -/
theorem bl_found {n i : Nat} (h : n < 2 ^ (i + 1)) (hb : bt n i = true) : bl n = i + 1 := by
 have h1 : n / 2 ^ i % 2 = 1 := of_decide_eq_true hb
 refine bl_eq h (Or.inr ?_)
 rw [Nat.add_sub_cancel]
 apply Nat.le_of_not_lt; intro hh
 rw [Nat.div_eq_of_lt hh] at h1; omega
theorem bl_down {n i : Nat} (h : n < 2 ^ (i + 1)) (hb : bt n i = false) : n < 2 ^ i := by
 have h1 : ¬ n / 2 ^ i % 2 = 1 := of_decide_eq_false hb
 have h2 : n / 2 ^ i < 2 := by rw [Nat.div_lt_iff_lt_mul (Nat.two_pow_pos i), Nat.mul_comm]; rw [Nat.pow_succ] at h; exact h
 have h3 : n / 2 ^ i = 0 := by clear h; generalize n / 2 ^ i = q at h1 h2; omega
 exact (Nat.div_eq_zero_iff_lt (Nat.two_pow_pos i)).1 h3
/-- words laid beside each other -/
theorem or_shift {a b k : Nat} (h : a < 2 ^ k) : a ||| (b * 2 ^ k) = a + b * 2 ^ k := by
 rw [Nat.or_comm, Nat.mul_comm b, ← Nat.two_pow_add_eq_or_of_lt h, Nat.add_comm]
end NatMath
end Nn
namespace Nn
namespace NatMath
theorem getD_le_val {l : List Nat} {j : Nat} (h : j < l.length) : l.getD j 0 * Bp j ≤ val l := by
 have := val_set l j 0 h
 omega
/-! ### shifted -/
def ShI (N s i : Nat) (l : List Nat) : Prop := l.length = len N + 1 ∧ words l ∧ (∀ j, i < j → l.getD j 0 = 0) ∧ val l = N % Bp i * 2 ^ s
theorem ShI.zero (N s : Nat) : ShI N s 0 (List.replicate (len N + 1) 0) := by
 refine ⟨by simp, words_zeros _, fun j _ => ?_, ?_⟩
 ·by_cases h : j < len N + 1 <;> simp [List.getD_eq_getElem?_getD, h]
 ·rw [val_zeros, Bp_zero, Nat.mod_one, Nat.zero_mul]
theorem ShI.low {N s i : Nat} {l : List Nat} (h : ShI N s i l) (hi : i < len N) : l.getD i 0 < 2 ^ s := by
 obtain ⟨h1, h2, h3, h4⟩ := h
 have := getD_le_val (l := l) (j := i) (by omega)
 rw [h4] at this
 have h5 : N % Bp i < Bp i := Nat.mod_lt _ (Bp_pos i)
 apply Nat.lt_of_mul_lt_mul_right (a := Bp i)
 rw [Nat.mul_comm (2 ^ s)]
 exact Nat.lt_of_le_of_lt this ((Nat.mul_lt_mul_right (Nat.two_pow_pos s)).2 h5)
theorem or_low {a t s : Nat} (ha : a < 2 ^ s) (hs : s ≤ 32) : a ||| (t * 2 ^ s) % 4294967296 = a + (t * 2 ^ s) % 4294967296 := by
 have e : (4294967296 : Nat) = 2 ^ (32 - s) * 2 ^ s := by rw [← Nat.pow_add, Nat.sub_add_cancel hs]
 rw [e, Nat.mul_mod_mul_right, or_shift ha]
theorem low_lt {a t s : Nat} (ha : a < 2 ^ s) (hs : s ≤ 32) : a + (t * 2 ^ s) % 4294967296 < 4294967296 := by
 have e : (4294967296 : Nat) = 2 ^ (32 - s) * 2 ^ s := by rw [← Nat.pow_add, Nat.sub_add_cancel hs]
 have h1 : t % 2 ^ (32 - s) + 1 ≤ 2 ^ (32 - s) := Nat.mod_lt _ (Nat.two_pow_pos _)
 have h2 := Nat.mul_le_mul_right (2 ^ s) h1
 rw [Nat.add_mul, Nat.one_mul] at h2
 rw [e, Nat.mul_mod_mul_right]
 omega
theorem ShI.step {N s i : Nat} {l : List Nat} (h : ShI N s i l) (hi : i < len N) (hs : s < 32) {t : Nat} (ht : t = dig N i * 2 ^ s) :
  t < 18446744073709551616 ∧ l.getD i 0 ||| t % 4294967296 = l.getD i 0 + t % 4294967296 ∧ l.getD i 0 + t % 4294967296 < 4294967296 ∧ t / 4294967296 < 4294967296 ∧
  ShI N s (i + 1) ((l.set i (l.getD i 0 + t % 4294967296)).set (i + 1) (t / 4294967296)) := by
 have hlow := h.low hi
 obtain ⟨h1, h2, h3, h4⟩ := h
 have hd := dig_lt N i
 have hp : 2 ^ s ≤ 2147483648 := by
  have : 2 ^ s ≤ 2 ^ 31 := Nat.pow_le_pow_right (by omega) (by omega)
  simpa using this
 have htb : t < 18446744073709551616 := by
  rw [ht]
  have := Nat.mul_le_mul (Nat.le_of_lt_succ (show dig N i < 4294967295 + 1 from hd)) hp
  omega
 have hor := or_low (t := dig N i) hlow (by omega : s ≤ 32)
 have hlt := low_lt (t := dig N i) hlow (by omega : s ≤ 32)
 rw [← ht] at hor hlt
 refine ⟨htb, hor, hlt, by omega, by simp [h1], words_set (words_set h2 hlt) (by omega), fun j hj => ?_, ?_⟩
 ·rw [getD_set_ne (by omega), getD_set_ne (by omega)]; exact h3 j (by omega)
 ·have e1 := val_set l i (l.getD i 0 + t % 4294967296) (by omega)
  have e2 := val_set (l.set i (l.getD i 0 + t % 4294967296)) (i + 1) (t / 4294967296) (by rw [List.length_set]; omega)
  rw [getD_set_ne (by omega), h3 (i + 1) (by omega), Nat.zero_mul, Nat.add_zero] at e2
  have e3 : N % Bp (i + 1) * 2 ^ s = N % Bp i * 2 ^ s + t * Bp i := by
   rw [mod_step, Nat.add_mul, ht]; rw [Nat.add_comm]; congr 1
   rw [Nat.mul_assoc, Nat.mul_comm (Bp i)]
  rw [e3, ← h4, e2, Bp_succ]
  have e4 : t = t / 4294967296 * 4294967296 + t % 4294967296 := by omega
  have e5 : t * Bp i = t / 4294967296 * (Bp i * 4294967296) + t % 4294967296 * Bp i := by
   conv => lhs; rw [e4]
   rw [Nat.add_mul, Nat.mul_assoc, Nat.mul_comm 4294967296]
  rw [Nat.add_mul] at e1
  omega
theorem ShI.done {N s : Nat} {l : List Nat} (h : ShI N s (len N) l) : l.length = len N + 1 ∧ words l ∧ val l = N * 2 ^ s := by
 obtain ⟨h1, h2, _, h4⟩ := h
 rw [Nat.mod_eq_of_lt (lt_Bp_len N)] at h4
 exact ⟨h1, h2, h4⟩
/-! ### the guess -/
/-- what a round of the long division knows: V has n words, the highest has its highest bit; X is less than V with j+1 zero words behind it -/
def Rd (X V n j : Nat) : Prop := 2 ≤ n ∧ 2147483648 * Bp (n - 1) ≤ V ∧ V < Bp n ∧ X < V * Bp (j + 1)
def qt (X V j : Nat) : Nat := X / Bp j / V
theorem Rd.parts {X V n j : Nat} (h : Rd X V n j) : 0 < V ∧ X / Bp j < V * 4294967296 ∧ Bp (n - 1) = 4294967296 * Bp (n - 2) ∧ Bp n = 4294967296 * (4294967296 * Bp (n - 2)) := by
 obtain ⟨h1, h2, h3, h4⟩ := h
 have hb := Bp_pos (n - 1)
 refine ⟨by omega, ?_, ?_, ?_⟩
 ·rw [Nat.div_lt_iff_lt_mul (Bp_pos j), Nat.mul_assoc, Nat.mul_comm 4294967296, ← Bp_succ]; exact h4
 ·rw [show n - 1 = n - 2 + 1 from by omega, Bp_succ, Nat.mul_comm]
 ·rw [show n = n - 2 + 1 + 1 from by omega, Bp_succ, Bp_succ, Nat.mul_comm, show n - 2 + 1 + 1 - 2 = n - 2 from by omega, Nat.mul_comm (Bp (n - 2))]
theorem Rd.qt_lt {X V n j : Nat} (h : Rd X V n j) : qt X V j ≤ 4294967295 := by
 obtain ⟨h0, h1, _⟩ := h.parts
 unfold qt
 have : X / Bp j / V < 4294967296 := by rw [Nat.div_lt_iff_lt_mul h0, Nat.mul_comm]; exact h1
 omega
/-- the words of V and of X that the guess looks at -/
def v1 (V n : Nat) : Nat := V / Bp (n - 1)
def v2 (V n : Nat) : Nat := dig V (n - 2)
def tp (X n j : Nat) : Nat := X / Bp j / Bp (n - 1)
def u2 (X n j : Nat) : Nat := dig X (j + (n - 2))
theorem Rd.v1 {X V n j : Nat} (h : Rd X V n j) : dig V (n - 1) = v1 V n ∧ 2147483648 ≤ v1 V n ∧ v1 V n < 4294967296 := by
 obtain ⟨h1, h2, h3, h4⟩ := h
 have hlt : V / Bp (n - 1) < 4294967296 := by
  rw [Nat.div_lt_iff_lt_mul (Bp_pos _), Nat.mul_comm, ← Bp_succ, show n - 1 + 1 = n from by omega]; exact h3
 refine ⟨?_, ?_, hlt⟩
 ·unfold dig NatMath.v1; exact Nat.mod_eq_of_lt hlt
 ·unfold NatMath.v1; rw [Nat.le_div_iff_mul_le (Bp_pos _)]; exact h2
theorem Rd.tp {X V n j : Nat} (h : Rd X V n j) : dig X (j + n) * 4294967296 + dig X (j + n - 1) = tp X n j ∧ tp X n j < (NatMath.v1 V n + 1) * 4294967296 := by
 obtain ⟨p0, p1, p2, p3⟩ := h.parts
 obtain ⟨h1, h2, h3, h4⟩ := h
 have e1 : NatMath.tp X n j = X / Bp (j + n - 1) := by
  unfold NatMath.tp; rw [Nat.div_div_eq_div_mul, ← Bp_add, show j + (n - 1) = j + n - 1 from by omega]
 have hst := div_step X (j + n - 1)
 rw [show j + n - 1 + 1 = j + n from by omega] at hst
 have hlt : X / Bp (j + n) < 4294967296 := by
  rw [Nat.div_lt_iff_lt_mul (Bp_pos _), Bp_add, ← Nat.mul_assoc, Nat.mul_comm 4294967296, ← Bp_succ, Nat.mul_comm]
  exact Nat.lt_of_lt_of_le h4 (Nat.mul_le_mul_right _ (Nat.le_of_lt h3))
 have hd : dig X (j + n) = X / Bp (j + n) := by unfold dig; exact Nat.mod_eq_of_lt hlt
 refine ⟨by rw [e1, hd]; omega, ?_⟩
 have hV : V < (NatMath.v1 V n + 1) * Bp (n - 1) := by
  unfold NatMath.v1; rw [Nat.mul_comm]; exact Nat.lt_mul_div_succ V (Bp_pos _)
 unfold NatMath.tp
 rw [Nat.div_lt_iff_lt_mul (Bp_pos _), Nat.mul_assoc, Nat.mul_comm 4294967296, ← Nat.mul_assoc]
 exact Nat.lt_of_lt_of_le p1 (Nat.mul_le_mul_right _ (Nat.le_of_lt hV))
/-- x and V in terms of the words looked at -/
theorem Rd.low {X V n j : Nat} (h : Rd X V n j) : ∃ xl vl, xl < Bp (n - 2) ∧ vl < Bp (n - 2) ∧ X / Bp j = (NatMath.tp X n j * 4294967296 + u2 X n j) * Bp (n - 2) + xl ∧ V = (NatMath.v1 V n * 4294967296 + v2 V n) * Bp (n - 2) + vl := by
 obtain ⟨h1, _⟩ := h
 refine ⟨X / Bp j % Bp (n - 2), V % Bp (n - 2), Nat.mod_lt _ (Bp_pos _), Nat.mod_lt _ (Bp_pos _), ?_, ?_⟩
 ·have e := div_step (X / Bp j) (n - 2)
  rw [show n - 2 + 1 = n - 1 from by omega] at e
  have e2 : dig (X / Bp j) (n - 2) = u2 X n j := by unfold u2 dig; rw [Nat.div_div_eq_div_mul, ← Bp_add]
  rw [e2] at e
  unfold NatMath.tp; rw [← e, Nat.mul_comm]; exact (Nat.div_add_mod _ _).symm
 ·have e := div_step V (n - 2)
  rw [show n - 2 + 1 = n - 1 from by omega] at e
  unfold NatMath.v1 v2; rw [← e, Nat.mul_comm]; exact (Nat.div_add_mod _ _).symm
theorem Rd.first {X V n j : Nat} (h : Rd X V n j) : qt X V j ≤ NatMath.tp X n j / NatMath.v1 V n := by
 obtain ⟨hv, hv2, _⟩ := h.v1
 rw [Nat.le_div_iff_mul_le (by omega)]
 have hq : qt X V j * V ≤ X / Bp j := Nat.div_mul_le_self _ _
 have h1 : NatMath.v1 V n * Bp (n - 1) ≤ V := Nat.div_mul_le_self _ _
 unfold NatMath.tp
 rw [Nat.le_div_iff_mul_le (Bp_pos _), Nat.mul_assoc]
 exact Nat.le_trans (Nat.mul_le_mul_left _ h1) hq
theorem Rd.more {X V n j g r : Nat} (h : Rd X V n j) (hg : g * NatMath.v1 V n + r = NatMath.tp X n j) (ht : r * 4294967296 + u2 X n j < g * v2 V n) : qt X V j < g := by
 obtain ⟨xl, vl, hx, hv, e1, e2⟩ := h.low
 apply Nat.lt_of_not_le; intro hle
 have hq : qt X V j * V ≤ X / Bp j := Nat.div_mul_le_self _ _
 have h1 : g * ((NatMath.v1 V n * 4294967296 + v2 V n) * Bp (n - 2)) ≤ X / Bp j :=
  Nat.le_trans (Nat.mul_le_mul hle (by omega)) hq
 have h2 : X / Bp j < (NatMath.tp X n j * 4294967296 + u2 X n j + 1) * Bp (n - 2) := by rw [e1, Nat.add_mul, Nat.add_mul, Nat.add_mul]; omega
 have h3 : g * (NatMath.v1 V n * 4294967296 + v2 V n) < NatMath.tp X n j * 4294967296 + u2 X n j + 1 := by
  apply Nat.lt_of_mul_lt_mul_right (a := Bp (n - 2))
  rw [Nat.mul_assoc]; exact Nat.lt_of_le_of_lt h1 h2
 rw [← hg, Nat.mul_add, ← Nat.mul_assoc, Nat.add_mul] at h3
 omega
theorem Rd.close {X V n j g r : Nat} (h : Rd X V n j) (hg : g * NatMath.v1 V n + r = NatMath.tp X n j) (hb : g ≤ 4294967295) (ht : g * v2 V n ≤ r * 4294967296 + u2 X n j ∨ 4294967296 ≤ r) : g ≤ qt X V j + 1 := by
 obtain ⟨xl, vl, hx, hv, e1, e2⟩ := h.low
 obtain ⟨p0, p1, p2, p3⟩ := h.parts
 have hV1 : Bp (n - 1) ≤ V := by obtain ⟨_, h2, _⟩ := h; omega
 have h3 : g * (NatMath.v1 V n * 4294967296 + v2 V n) ≤ NatMath.tp X n j * 4294967296 + u2 X n j := by
  rw [← hg, Nat.mul_add, ← Nat.mul_assoc, Nat.add_mul]
  rcases ht with ht | ht
  ·omega
  ·have h4 : g * v2 V n ≤ 4294967295 * 4294967295 := Nat.mul_le_mul hb (by have := dig_lt V (n - 2); unfold v2; omega)
   omega
 have h5 : g * V ≤ X / Bp j + V := by
  conv => lhs; rw [e2]
  rw [Nat.mul_add, ← Nat.mul_assoc, e1]
  have h6 := Nat.mul_le_mul_right (Bp (n - 2)) h3
  have h7 : g * vl ≤ 4294967295 * Bp (n - 2) := Nat.mul_le_mul hb (Nat.le_of_lt hv)
  omega
 have h8 : (g - 1) * V ≤ X / Bp j := by rw [Nat.sub_mul, Nat.one_mul]; omega
 have h9 : g - 1 ≤ qt X V j := by unfold qt; rw [Nat.le_div_iff_mul_le p0]; exact h8
 omega
theorem Rd.over {X V n j g r : Nat} (h : Rd X V n j) (hg : g * NatMath.v1 V n + r = NatMath.tp X n j) (hr : 4294967296 ≤ r) : g ≤ 4294967295 := by
 obtain ⟨_, h2⟩ := h.tp
 apply Nat.le_of_not_lt; intro hh
 have : 4294967296 * NatMath.v1 V n ≤ g * NatMath.v1 V n := Nat.mul_le_mul_right _ (by omega)
 rw [Nat.add_mul] at h2
 omega
/-! ### the subtraction and the addition back -/
def SubI (X V g j n L i c b : Nat) (l : List Nat) : Prop :=
 l.length = L ∧ words l ∧ (∀ k, j + n < k → l.getD k 0 = 0) ∧ c < 4294967296 ∧ b ≤ 1 ∧ val l + g * (V % Bp i) * Bp j = X + (c + b) * Bp (j + i)
theorem SubI.start {X V g j n L : Nat} {l : List Nat} (h1 : l.length = L) (h2 : words l) (h3 : val l = X) (h4 : ∀ k, j + n < k → l.getD k 0 = 0) : SubI X V g j n L 0 0 0 l :=
 ⟨h1, h2, h4, by omega, by omega, by rw [Bp_zero, Nat.mod_one, h3]; omega⟩
theorem sub_word {y t b : Nat} (hy : y < 4294967296) (ht : t < 4294967296) (hb : b ≤ 1) :
  y + (if y < t + b then 1 else 0) * 4294967296 = (y + 8589934592 - t - b) % 4294967296 + t + b ∧ (if y < t + b then 1 else 0) ≤ 1 := by
 split <;> omega
theorem SubI.step {X V g j n L i c b : Nat} {l : List Nat} (h : SubI X V g j n L i c b l) (hi : i < n) (hL : j + n < L) (hg : g ≤ 4294967295) {t y : Nat} (ht : t = g * dig V i + c) (hy : y = l.getD (j + i) 0) :
  t < 18446744073709551616 ∧ SubI X V g j n L (i + 1) (t / 4294967296) (if y < t % 4294967296 + b then 1 else 0) (l.set (j + i) ((y + 8589934592 - t % 4294967296 - b) % 4294967296)) := by
 obtain ⟨h1, h2, h3, h4, h5, h6⟩ := h
 have hm : g * dig V i ≤ 4294967295 * 4294967295 := Nat.mul_le_mul hg (by have := dig_lt V i; omega)
 have htb : t < 18446744073709551616 := by omega
 have hyb : y < 4294967296 := by rw [hy]; exact getD_lt h2 _
 obtain ⟨k1, k2⟩ := sub_word hyb (Nat.mod_lt t (by omega : 0 < 4294967296)) h5
 refine ⟨htb, by simp [h1], words_set h2 (Nat.mod_lt _ (by omega)), fun k hk => ?_, by omega, k2, ?_⟩
 ·rw [getD_set_ne (by omega)]; exact h3 k hk
 ·have e1 := val_set l (j + i) ((y + 8589934592 - t % 4294967296 - b) % 4294967296) (by omega)
  rw [← hy] at e1
  have e2 : g * (V % Bp (i + 1)) * Bp j = g * (V % Bp i) * Bp j + g * dig V i * Bp (j + i) := by
   rw [mod_step, Nat.mul_add, Nat.add_mul, Nat.add_comm]; congr 1
   rw [Bp_add, Nat.mul_comm (Bp i), ← Nat.mul_assoc, Nat.mul_assoc, Nat.mul_comm (Bp i)]
  have e3 : j + (i + 1) = j + i + 1 := by omega
  rw [e2, e3, Bp_succ]
  generalize (if y < t % 4294967296 + b then 1 else 0) = b' at *
  generalize (y + 8589934592 - t % 4294967296 - b) % 4294967296 = z at *
  generalize Bp (j + i) = P at *
  generalize val (l.set (j + i) z) = A at *
  generalize val l = C at *
  generalize g * (V % Bp i) * Bp j = D at *
  generalize g * dig V i = E at *
  have e5 : t = t / 4294967296 * 4294967296 + t % 4294967296 := by omega
  generalize t / 4294967296 = th at *
  generalize t % 4294967296 = tl at *
  clear e2 h1 h2 h3 hy hm htb hyb e3
  have e6 : (y + b' * 4294967296) * P = (z + tl + b) * P := by rw [k1]
  have e7 : (th * 4294967296 + tl) * P = (E + c) * P := by rw [← e5, ht]
  grind
theorem SubI.top {X V g j n L c b : Nat} {l : List Nat} (h : SubI X V g j n L n c b l) (hV : V < Bp n) (hL : j + n < L) {y : Nat} (hy : y = l.getD (j + n) 0) :
  ∃ b', b' = (if y < c + b then 1 else 0) ∧ b' ≤ 1 ∧ (l.set (j + n) ((y + 8589934592 - c - b) % 4294967296)).length = L ∧ words (l.set (j + n) ((y + 8589934592 - c - b) % 4294967296)) ∧
   (∀ k, j + n < k → (l.set (j + n) ((y + 8589934592 - c - b) % 4294967296)).getD k 0 = 0) ∧
   val (l.set (j + n) ((y + 8589934592 - c - b) % 4294967296)) + g * V * Bp j = X + b' * Bp (j + n + 1) := by
 obtain ⟨h1, h2, h3, h4, h5, h6⟩ := h
 rw [Nat.mod_eq_of_lt hV] at h6
 have hyb : y < 4294967296 := by rw [hy]; exact getD_lt h2 _
 obtain ⟨k1, k2⟩ := sub_word hyb h4 h5
 refine ⟨_, rfl, k2, by simp [h1], words_set h2 (Nat.mod_lt _ (by omega)), fun k hk => ?_, ?_⟩
 ·rw [getD_set_ne (by omega)]; exact h3 k hk
 ·have e1 := val_set l (j + n) ((y + 8589934592 - c - b) % 4294967296) (by omega)
  rw [← hy] at e1
  rw [Bp_succ]
  generalize (if y < c + b then 1 else 0) = b' at *
  generalize (y + 8589934592 - c - b) % 4294967296 = z at *
  generalize Bp (j + n) = P at *
  generalize val (l.set (j + n) z) = A at *
  generalize val l = C at *
  generalize g * V * Bp j = D at *
  clear h1 h2 h3 hy hyb
  have e6 : (y + b' * 4294967296) * P = (z + c + b) * P := by rw [k1]
  grind
def AddI (Y V j n L i c : Nat) (l : List Nat) : Prop :=
 l.length = L ∧ words l ∧ (∀ k, j + n < k → l.getD k 0 = 0) ∧ c ≤ 1 ∧ val l + c * Bp (j + i) = Y + V % Bp i * Bp j
theorem AddI.start {Y V j n L : Nat} {l : List Nat} (h1 : l.length = L) (h2 : words l) (h3 : val l = Y) (h4 : ∀ k, j + n < k → l.getD k 0 = 0) : AddI Y V j n L 0 0 l :=
 ⟨h1, h2, h4, by omega, by rw [Bp_zero, Nat.mod_one, h3]; omega⟩
theorem AddI.step {Y V j n L i c : Nat} {l : List Nat} (h : AddI Y V j n L i c l) (hi : i < n) (hL : j + n < L) {y : Nat} (hy : y = l.getD (j + i) 0) :
  AddI Y V j n L (i + 1) ((y + dig V i + c) / 4294967296) (l.set (j + i) ((y + dig V i + c) % 4294967296)) := by
 obtain ⟨h1, h2, h3, h4, h6⟩ := h
 have hyb : y < 4294967296 := by rw [hy]; exact getD_lt h2 _
 have hv := dig_lt V i
 refine ⟨by simp [h1], words_set h2 (Nat.mod_lt _ (by omega)), fun k hk => ?_, by omega, ?_⟩
 ·rw [getD_set_ne (by omega)]; exact h3 k hk
 ·have e1 := val_set l (j + i) ((y + dig V i + c) % 4294967296) (by omega)
  rw [← hy] at e1
  have e2 : V % Bp (i + 1) * Bp j = V % Bp i * Bp j + dig V i * Bp (j + i) := by
   rw [mod_step, Nat.add_mul, Nat.add_comm]; congr 1
   rw [Bp_add, Nat.mul_comm (Bp i), Nat.mul_assoc, Nat.mul_comm (Bp i)]
  have e3 : j + (i + 1) = j + i + 1 := by omega
  rw [e2, e3, Bp_succ]
  have e5 : y + dig V i + c = (y + dig V i + c) / 4294967296 * 4294967296 + (y + dig V i + c) % 4294967296 := by omega
  generalize (y + dig V i + c) / 4294967296 = th at *
  generalize (y + dig V i + c) % 4294967296 = tl at *
  generalize Bp (j + i) = P at *
  generalize val (l.set (j + i) tl) = A at *
  generalize val l = C at *
  generalize V % Bp i * Bp j = D at *
  generalize dig V i = E at *
  clear e2 h1 h2 h3 hy hyb e3 hv
  have e7 : (th * 4294967296 + tl) * P = (y + E + c) * P := by rw [← e5]
  grind
/-! ### what a round leaves -/
theorem val_lt_of_zero {l : List Nat} {k : Nat} (hw : words l) (h : ∀ i, k < i → l.getD i 0 = 0) : val l < Bp (k + 1) := by
 have e : val l = val (l.take (k + 1)) := by
  by_cases hl : l.length ≤ k + 1
  ·rw [List.take_of_length_le hl]
  ·have : ∀ m, k + 1 ≤ m → m ≤ l.length → val (l.take m) = val (l.take (k + 1)) := by
    intro m hm
    induction m with
    | zero => omega
    | succ m ih =>
     intro hml
     by_cases hk : k + 1 = m + 1
     ·rw [hk]
     ·rw [← val_take_zero (by omega) (h m (by omega))]; exact ih (by omega) (by omega)
   have := this l.length (by omega) (Nat.le_refl _)
   rwa [List.take_length] at this
 rw [e]
 exact Nat.lt_of_lt_of_le (val_lt (words_take hw _)) (Bp_le (by rw [List.length_take]; omega))
theorem Rd.mod {X V n j : Nat} (h : Rd X V n j) : X = qt X V j * V * Bp j + X % (V * Bp j) ∧ X % (V * Bp j) < V * Bp j := by
 obtain ⟨p0, _⟩ := h.parts
 refine ⟨?_, Nat.mod_lt _ (Nat.mul_pos p0 (Bp_pos j))⟩
 unfold qt
 rw [Nat.div_div_eq_div_mul, Nat.mul_comm (Bp j), Nat.mul_assoc, Nat.mul_comm (X / _)]
 exact (Nat.div_add_mod _ _).symm
/-- no borrow: the guess was right -/
theorem Rd.right {X V n j g A : Nat} (h : Rd X V n j) (hg : qt X V j ≤ g) (hA : A + g * V * Bp j = X) : g = qt X V j ∧ A = X % (V * Bp j) := by
 obtain ⟨m1, m2⟩ := h.mod
 obtain ⟨p0, _⟩ := h.parts
 have hle : g ≤ qt X V j := by
  apply Nat.le_of_not_lt; intro hh
  have : (qt X V j + 1) * V * Bp j ≤ g * V * Bp j := Nat.mul_le_mul_right _ (Nat.mul_le_mul_right _ hh)
  rw [Nat.add_mul, Nat.add_mul, Nat.one_mul] at this
  omega
 obtain rfl : g = qt X V j := by omega
 exact ⟨rfl, by omega⟩
/-- a borrow: the guess was too much by one -/
theorem Rd.wrong {X V n j g A : Nat} (h : Rd X V n j) (hg : g ≤ qt X V j + 1) (hA : A + g * V * Bp j = X + Bp (j + n + 1)) (hlt : A < Bp (j + n + 1)) : g = qt X V j + 1 ∧ A + V * Bp j = X % (V * Bp j) + Bp (j + n + 1) := by
 obtain ⟨m1, m2⟩ := h.mod
 have hle : qt X V j < g := by
  apply Nat.lt_of_not_le; intro hh
  have : g * V * Bp j ≤ qt X V j * V * Bp j := Nat.mul_le_mul_right _ (Nat.mul_le_mul_right _ hh)
  omega
 obtain rfl : g = qt X V j + 1 := by omega
 refine ⟨rfl, ?_⟩
 rw [Nat.add_mul, Nat.add_mul, Nat.one_mul] at hA
 omega
theorem AddI.top {X V n j L c Y : Nat} {l : List Nat} (hr : Rd X V n j) (h : AddI Y V j n L n c l) (hY : Y + V * Bp j = X % (V * Bp j) + Bp (j + n + 1)) (hL : j + n < L) {y : Nat} (hy : y = l.getD (j + n) 0) :
  (l.set (j + n) ((y + c) % 4294967296)).length = L ∧ words (l.set (j + n) ((y + c) % 4294967296)) ∧ (∀ k, j + n ≤ k → (l.set (j + n) ((y + c) % 4294967296)).getD k 0 = 0) ∧ val (l.set (j + n) ((y + c) % 4294967296)) = X % (V * Bp j) := by
 obtain ⟨h1, h2, h3, h4, h6⟩ := h
 obtain ⟨m1, m2⟩ := hr.mod
 obtain ⟨r1, r2, r3, r4⟩ := hr
 rw [Nat.mod_eq_of_lt r3, hY] at h6
 have hyb : y < 4294967296 := by rw [hy]; exact getD_lt h2 _
 have hX : X % (V * Bp j) < Bp (j + n) := by
  rw [Bp_add, Nat.mul_comm (Bp j)]
  exact Nat.lt_of_lt_of_le m2 (Nat.mul_le_mul_right _ (Nat.le_of_lt r3))
 -- the list without its word j+n
 have e0 := val_set l (j + n) 0 (by omega)
 rw [← hy] at e0
 have hlow : val (l.set (j + n) 0) < Bp (j + n) := by
  have hz : ∀ i, j + n - 1 < i → (l.set (j + n) 0).getD i 0 = 0 := by
   intro i hi
   by_cases e : i = j + n
   ·subst e; exact getD_set_eq (by omega)
   ·rw [getD_set_ne (by omega)]; exact h3 i (by omega)
  have := val_lt_of_zero (words_set h2 (by omega)) hz
  rwa [show j + n - 1 + 1 = j + n from by omega] at this
 rw [Bp_succ] at h6
 have hP := Bp_pos (j + n)
 have key : y + c = 4294967296 := by
  generalize Bp (j + n) = P at *
  generalize val (l.set (j + n) 0) = A at *
  generalize X % (V * Bp j) = R at *
  have k1 : (y + c) * P + A = R + P * 4294967296 := by rw [Nat.add_mul]; omega
  have k2 : ¬ y + c ≤ 4294967295 := fun hh => by
   have := Nat.mul_le_mul_right P hh
   omega
  have k3 : ¬ 4294967297 ≤ y + c := fun hh => by
   have := Nat.mul_le_mul_right P hh
   omega
  omega
 rw [key, Nat.mod_self]
 refine ⟨by simp [h1], words_set h2 (by omega), fun k hk => ?_, ?_⟩
 ·by_cases e : k = j + n
  ·subst e; exact getD_set_eq (by omega)
  ·rw [getD_set_ne (by omega)]; exact h3 k (by omega)
 ·have k1 : (y + c) * Bp (j + n) = 4294967296 * Bp (j + n) := by rw [key]
  rw [Nat.add_mul] at k1
  omega
end NatMath
end Nn
namespace Nn
open Go.RowKit
/-- a word as a value -/
def u32 (u : Nat) : Value := .int .u32 (u : Int)
/-- the slice value v reads as the words l in the world w -/
def Sl (w : World) (v : Value) (l : List Nat) : Prop :=
 ∃ (ao : Option Addr) (cap : Nat), v = .slice ao l.length cap ∧ l.length ≤ cap ∧ cap ≤ 9223372036854775807 ∧ (∀ u ∈ l, u < 4294967296) ∧
  (l ≠ [] → ∃ b off, ao = some ⟨b, off, none⟩ ∧ b < w.heap.size ∧ ∀ i, i < l.length → w.cell? ⟨b, off + i, none⟩ = some (.int .u32 ((l.getD i 0 : Nat) : Int))) ∧
  (∀ a, ao = some a → a.spot = none)
theorem Sl.below {w w' : World} {v : Value} {l : List Nat} {B : Nat} (h : Sl w v l) (hb : Below B w w') (hB : w.heap.size ≤ B) : Sl w' v l := by
 obtain ⟨ao, cap, h1, h2, h3, h4, h5, h6⟩ := h
 refine ⟨ao, cap, h1, h2, h3, h4, fun hl => ?_, h6⟩
 obtain ⟨b, off, k1, k2, k3⟩ := h5 hl
 exact ⟨b, off, k1, Nat.lt_of_lt_of_le k2 hb.size, fun i hi => (hb.cell (p := ⟨b, off + i, none⟩) (Nat.lt_of_lt_of_le k2 hB)).trans (k3 i hi)⟩
theorem Sl.below' {w w' : World} {v : Value} {l : List Nat} (h : Sl w v l) (hb : Below w.heap.size w w') : Sl w' v l := h.below hb (Nat.le_refl _)
theorem Sl.nil (w : World) : Sl w (.slice none 0 0) [] := ⟨none, 0, rfl, Nat.le_refl _, by omega, by simp, fun h => absurd rfl h, by simp⟩
/-- the words are valid: at most 64, the last one not 0 -/
def vld (l : List Nat) : Bool := decide (l.length ≤ 64 ∧ (l = [] ∨ l.getD (l.length - 1) 0 ≠ 0))
set_option maxHeartbeats 400000 in
theorem Valid_c (v : Value) (l : List Nat) (w : World) (h : Sl w v l) :
  Calls Tryz.prog 57 #[.agg #[v]] w fun e w' => e = .returned (.bool (vld l)) ∧ Below w.heap.size w w' := by
 obtain ⟨ao, cap, rfl, h1, h2, h3, h4, _⟩ := h
 by_cases k1 : l.length ≤ 64
 ·by_cases k2 : l = []
  ·subst k2
   have hv : vld [] = true := by decide
   rw [hv]
   clear h3 h4
   go_enter Tryz.func57, Tryz.ntmps57
   go_wp2
   go_ret
   exact ⟨rfl, (Below.refl _ _).alloc (Nat.le_refl _) _⟩
  ·obtain ⟨b, off, rfl, hb, hc⟩ := h4 k2
   have hlen : 1 ≤ l.length := by cases l; exact absurd rfl k2; simp
   have hcell := hc (l.length - 1) (by omega)
   have hv : vld l = decide (l.getD (l.length - 1) 0 ≠ 0) := by
    unfold vld; rw [Bool.eq_iff_iff]; simp [k1, k2]
   rw [hv]
   generalize l.getD (l.length - 1) 0 = u at *
   generalize l.length = n at *
   clear h3 h4 hc hv k2
   have g1 : decide ((n : Int) ≤ 64) = true := decide_eq_true (by omega)
   have g2 : ((n : Int) == 0) = false := by simp; omega
   go_enter Tryz.func57, Tryz.ntmps57
   go_wp2
   go_ret
   exact ⟨by simp; rw [Bool.eq_iff_iff]; simp; try omega, (Below.refl _ _).alloc (Nat.le_refl _) _⟩
 ·have hv : vld l = false := decide_eq_false (fun h => k1 h.1)
  rw [hv]
  generalize l.length = n at *
  clear h3 h4 hv
  have g1 : decide ((n : Int) ≤ 64) = false := decide_eq_false (by omega)
  go_enter Tryz.func57, Tryz.ntmps57
  go_wp2
  go_ret
  exact ⟨rfl, (Below.refl _ _).alloc (Nat.le_refl _) _⟩
end Nn
namespace Nn
open Go.RowKit NatMath
/-- the world has drawn, no more -/
def Qw (w w' : World) : Prop := ∃ n, w' = w.drewN n
theorem Qw.refl (w : World) : Qw w w := ⟨0, rfl⟩
theorem Qw.trans {a b c : World} (h : Qw a b) (k : Qw b c) : Qw a c := by
 obtain ⟨n, rfl⟩ := h; obtain ⟨m, rfl⟩ := k; exact ⟨_, World.drewN_drewN ..⟩
theorem Qw.drewN {a b : World} (h : Qw a b) (n : Nat) : Qw a (b.drewN n) := h.trans ⟨n, rfl⟩
theorem Qw.below {a b : World} (h : Qw a b) (n : Nat) : Below n a b := by
 obtain ⟨n, rfl⟩ := h; exact below_drewN (Below.refl _ _) _
theorem below_one (w : World) (o : Obj) : Below w.heap.size w (w.alloc o) := (Below.refl _ _).alloc (Nat.le_refl _) _
theorem below_two (w : World) (o p : Obj) : Below w.heap.size w ((w.alloc o).alloc p) := (below_one w o).alloc (by simp) _
theorem below_three (w : World) (o p q : Obj) : Below w.heap.size w (((w.alloc o).alloc p).alloc q) := (below_two w o p).alloc (by simp; omega) _
theorem box1a (w : World) (a : Value) (T : TypeId) : (w.alloc (.cells #[a] T)).cell? ⟨w.heap.size, 0, none⟩ = some a := by simp
theorem box2a (w : World) (a : Value) (T : TypeId) (o : Obj) : ((w.alloc (.cells #[a] T)).alloc o).cell? ⟨w.heap.size, 0, none⟩ = some a := by simp
theorem box2b (w : World) (o : Obj) (b : Value) (T : TypeId) : ((w.alloc o).alloc (.cells #[b] T)).cell? ⟨w.heap.size + 1, 0, none⟩ = some b := by simp
theorem box1f (w : World) (a : Value) (T : TypeId) : (w.alloc (.cells #[a] T)).frozen? ⟨w.heap.size, 0, none⟩ = false := by simp
theorem box3 (w : World) (a b c : Value) (T U V : TypeId) :
  (((w.alloc (.cells #[a] T)).alloc (.cells #[b] U)).alloc (.cells #[c] V)).cell? ⟨w.heap.size, 0, none⟩ = some a ∧
  (((w.alloc (.cells #[a] T)).alloc (.cells #[b] U)).alloc (.cells #[c] V)).cell? ⟨w.heap.size + 1, 0, none⟩ = some b ∧
  (((w.alloc (.cells #[a] T)).alloc (.cells #[b] U)).alloc (.cells #[c] V)).cell? ⟨w.heap.size + 1 + 1, 0, none⟩ = some c ∧
  (((w.alloc (.cells #[a] T)).alloc (.cells #[b] U)).alloc (.cells #[c] V)).frozen? ⟨w.heap.size + 1 + 1, 0, none⟩ = false := by
 have e2 : ((w.alloc (.cells #[a] T)).alloc (.cells #[b] U)).heap.size = w.heap.size + 1 + 1 := by simp
 refine ⟨?_, ?_, ?_, ?_⟩
 ·exact (World.cell?_alloc_old _ _ _ (by simp; omega)).trans (box2a ..)
 ·exact (World.cell?_alloc_old _ _ _ (by simp)).trans (box2b ..)
 ·rw [← e2]; exact box1a _ c V
 ·rw [← e2]; exact box1f _ c V
/-- the slice value v reads as the number N, without zero words at its end -/
def Nt (w : World) (v : Value) (N : Nat) : Prop := Sl w v (digs N)
theorem Nt.open {w : World} {v : Value} {N : Nat} (h : Nt w v N) : ∃ (ao : Option Addr) (cap : Nat), v = .slice ao (len N) cap ∧ len N ≤ cap ∧ cap ≤ 9223372036854775807 ∧
  (N ≠ 0 → ∃ b off, ao = some ⟨b, off, none⟩ ∧ b < w.heap.size ∧ ∀ i, i < len N → w.cell? ⟨b, off + i, none⟩ = some (.int .u32 ((dig N i : Nat) : Int))) := by
 obtain ⟨ao, cap, h1, h2, h3, h4, h5, _⟩ := h
 refine ⟨ao, cap, h1, h2, h3, fun h0 => ?_⟩
 obtain ⟨b, off, k1, k2, k3⟩ := h5 (fun e => h0 (len_eq_zero.1 (show len N = 0 by unfold len; rw [e]; rfl)))
 exact ⟨b, off, k1, k2, fun i hi => by rw [← dig_digs]; exact k3 i hi⟩
theorem Nt.below {w w' : World} {v : Value} {N : Nat} {B : Nat} (h : Nt w v N) (hb : Below B w w') (hB : w.heap.size ≤ B) : Nt w' v N := Sl.below h hb hB
theorem Nt.below' {w w' : World} {v : Value} {N : Nat} (h : Nt w v N) (hb : Below w.heap.size w w') : Nt w' v N := Sl.below' h hb
theorem Nt.zero (w : World) : Nt w (.slice none 0 0) 0 := by unfold Nt; rw [digs_zero]; exact Sl.nil w
theorem vld_digs (N : Nat) : vld (digs N) = decide (len N ≤ 64) := by
 unfold vld
 rw [Bool.eq_iff_iff]
 simp only [decide_eq_true_eq]
 exact ⟨fun h => h.1, fun h => ⟨h, normal_digs N⟩⟩
theorem cmp_self_step {N M k : Nat} (h : N / Bp k = M / Bp k) (hk : k = 0) : N = M := by subst hk; rw [Bp_zero, Nat.div_one, Nat.div_one] at h; exact h
set_option maxHeartbeats 1000000 in
theorem compare_c (a b : Value) (N M : Nat) (w : World) (ha : Nt w a N) (hb : Nt w b M) :
  Calls Tryz.prog 58 #[a, b] w fun e w' => e = .returned (.int .i64 (cmp N M)) ∧ Qw w w' := by
 obtain ⟨ao, ca, rfl, a1, a2, a3⟩ := ha.open
 obtain ⟨bo, cb, rfl, b1, b2, b3⟩ := hb.open
 by_cases hl : len N = len M
 ·rw [← hl] at b1 b3 ⊢
  have ht1 : decide (len N < len N) = false := decide_eq_false (Nat.lt_irrefl _)
  have hst : Hid (N / Bp (len N) = M / Bp (len N)) := Zh (by rw [Nat.div_eq_of_lt (lt_Bp_len N), Nat.div_eq_of_lt (by rw [hl]; exact lt_Bp_len M)])
  have hN0 : len N ≠ 0 → N ≠ 0 ∧ M ≠ 0 := fun h => ⟨fun e => h (len_eq_zero.2 e), fun e => h (by rw [hl]; exact len_eq_zero.2 e)⟩
  obtain ⟨R, hR⟩ : ∃ R, R = cmp N M := ⟨_, rfl⟩
  rw [← hR]
  have HR := Zh hR
  have A3 := Zh a3
  have B3 := Zh b3
  have H0 := Zh hN0
  have hn : (len N : Int) ≤ 9223372036854775807 := by omega
  clear ha hb hR a3 b3 hN0 hl
  generalize len N = n at *
  go_enter Tryz.func58, Tryz.ntmps58
  go_wp2
  go_loopw [5] (fun s5 wr => ∃ k : Nat, s5 = .int .i64 ((k : Int) - 1) ∧ (k : Int) ≤ (n : Int) ∧ Hid (N / Bp k = M / Bp k) ∧ Qw w wr) (fun s5 _ => (RowKit.intOf s5 + 1).toNat)
  case atStart => exact ⟨n, rfl, Int.le_refl _, hst, Qw.refl _⟩
  case round =>
   obtain ⟨k, rfl, hk, HI, nw, rfl⟩ := hrel
   by_cases h0 : k = 0
   ·have e0 : N = M := cmp_self_step HI.out h0
    have hr0 : R = 0 := by rw [HR.out, e0]; unfold cmp; rw [if_neg (by omega), if_neg (by omega)]
    have hg : decide (1 ≤ (k : Int)) = false := decide_eq_false (by omega)
    subst h0 hr0
    clear HI HR A3 B3 H0 e0
    go_wp2
    go_ret
    exact ⟨rfl, nw, rfl⟩
   ·obtain ⟨j, rfl⟩ : ∃ j, k = j + 1 := ⟨k - 1, by omega⟩
    obtain ⟨n1, n2⟩ := H0.out (by omega)
    obtain ⟨ba, offa, rfl, s1, ca1⟩ := A3.out n1
    obtain ⟨bb, offb, rfl, s2, cb1⟩ := B3.out n2
    have c1 := ca1 j (by omega)
    have c2 := cb1 j (by omega)
    have d1 := dig_lt N j
    have d2 := dig_lt M j
    have hstep := fun h => cmp_eq_step (n := N) (m := M) (i := j) HI.out h
    have hlt := fun h => cmp_lt (n := N) (m := M) (i := j) HI.out h
    have hgt := fun h => cmp_lt (n := M) (m := N) (i := j) HI.out.symm h
    have hz : j = 0 → N / Bp j = M / Bp j → N = M := fun h0 h => cmp_self_step h h0
    have CA := Zh ca1
    have CB := Zh cb1
    have ej : (((j + 1 : Nat) : Int) - 1) = (j : Int) := by omega
    rw [ej]
    generalize dig N j = x at *
    generalize dig M j = y at *
    have hjn : (j : Int) < (n : Int) := by omega
    have hj1 : decide (0 ≤ (j : Int)) = true := decide_eq_true (by omega)
    rcases Nat.lt_trichotomy x y with hxy | hxy | hxy
    ·have hr : R = -1 := by rw [HR.out]; unfold cmp; rw [if_pos (hlt hxy)]
     have g1 : decide (x < y) = true := decide_eq_true hxy
     clear hstep hlt hgt hz HI HR A3 B3 H0 CA CB ca1 cb1 n1 n2 hk ej
     subst hr
     go_wp2
     go_quiet (fail)
     go_wp2
     go_ret
     exact ⟨rfl, Qw.drewN ⟨nw, rfl⟩ _⟩
    ·have HS := Zh (hstep hxy)
     have g1 : decide (x < y) = false := decide_eq_false (by omega)
     have g2 : decide (y < x) = false := decide_eq_false (by omega)
     clear hstep hlt hgt hz HI CA CB ca1 cb1 n1 n2 ej hxy
     go_wp2
     go_quiet (fail)
     go_wp2
     go_quiet (fail)
     go_wp2
     go_roundw
     case rel => exact ⟨j, rfl, by omega, HS, _, rfl⟩
     case measure => simp [RowKit.intOf]
    ·have hr : R = 1 := by rw [HR.out]; unfold cmp; rw [if_neg (by have := hgt hxy; omega), if_pos (hgt hxy)]
     have g1 : decide (x < y) = false := decide_eq_false (by omega)
     have g2 : decide (y < x) = true := decide_eq_true hxy
     clear hstep hlt hgt hz HI HR A3 B3 H0 CA CB ca1 cb1 n1 n2 hk ej
     subst hr
     go_wp2
     go_quiet (fail)
     go_wp2
     go_quiet (fail)
     go_wp2
     go_ret
     exact ⟨rfl, Qw.drewN (Qw.drewN ⟨nw, rfl⟩ _) _⟩
 ·have ht0 : ((len N : Int) != (len M : Int)) = true := by simp; omega
  by_cases hlt : len N < len M
  ·have ht1 : decide (len N < len M) = true := decide_eq_true hlt
   have hr : cmp N M = -1 := by unfold cmp; rw [if_pos (cmp_len hlt)]
   rw [hr]
   clear ha hb hr a3 b3 hlt hl
   generalize len N = n at *
   generalize len M = m at *
   go_enter Tryz.func58, Tryz.ntmps58
   go_wp2
   go_ret
   exact ⟨rfl, Qw.refl _⟩
  ·have ht1 : decide (len N < len M) = false := decide_eq_false hlt
   have hgt : M < N := cmp_len (by omega)
   have hr : cmp N M = 1 := by unfold cmp; rw [if_neg (by omega), if_pos hgt]
   rw [hr]
   clear ha hb hr a3 b3 hlt hl hgt
   generalize len N = n at *
   generalize len M = m at *
   go_enter Tryz.func58, Tryz.ntmps58
   go_wp2
   go_ret
   exact ⟨rfl, Qw.refl _⟩
set_option maxHeartbeats 400000 in
theorem Compare_c (a b : Value) (N M : Nat) (w : World) (ha : Nt w a N) (hb : Nt w b M) (h1 : len N ≤ 64) (h2 : len M ≤ 64) :
  Calls Tryz.prog 28 #[.agg #[a], .agg #[b]] w fun e w' => e = .returned (.int .i64 (cmp N M)) ∧ Below w.heap.size w w' := by
 have c1 := fun w h => Valid_c a (digs N) w h
 have c2 := fun w h => Valid_c b (digs M) w h
 have c3 := fun w h1 h2 => compare_c a b N M w h1 h2
 rw [vld_digs, decide_eq_true h1] at c1
 rw [vld_digs, decide_eq_true h2] at c2
 have C1 := Zh c1
 have C2 := Zh c2
 have C3 := Zh c3
 have HA := Zh ha
 have HB := Zh hb
 clear c1 c2 c3 ha hb h1 h2
 generalize cmp N M = R at *
 go_enter Tryz.func28, Tryz.ntmps28
 go_wp2_with fail
 refine (C1.out _ (HA.out.below' (below_two _ _ _))).mono ?_; rintro e w1 ⟨rfl, hb1⟩
 have hz : w.heap.size + 2 ≤ w1.heap.size := by have := hb1.size; simp at this; omega
 have B1 : Hid (Below w.heap.size w w1) := Zh ((below_two _ _ _).trans (hb1.mono (by simp; omega)))
 have f1 := (hb1.cell (p := ⟨w.heap.size, 0, none⟩) (by simp; omega)).trans (box2a _ _ _ _)
 have f2 := (hb1.cell (p := ⟨w.heap.size + 1, 0, none⟩) (by simp)).trans (box2b _ _ _ _)
 clear hb1
 go_wp2_with fail
 refine (C2.out _ (HB.out.below' B1.out)).mono ?_; rintro e w2 ⟨rfl, hb2⟩
 have hz2 : w.heap.size + 2 ≤ w2.heap.size := by have := hb2.size; omega
 have B2 : Hid (Below w.heap.size w w2) := Zh (B1.out.trans (hb2.mono (by omega)))
 have f3 := (hb2.cell (p := ⟨w.heap.size, 0, none⟩) (by simp; omega)).trans f1
 have f4 := (hb2.cell (p := ⟨w.heap.size + 1, 0, none⟩) (by simp; omega)).trans f2
 clear hb2 f1 f2
 go_wp2_with fail
 refine (C3.out _ (HA.out.below' B2.out) (HB.out.below' B2.out)).mono ?_; rintro e w3 ⟨rfl, hq⟩
 go_wp2
 go_ret
 exact ⟨rfl, B2.out.trans (hq.below _)⟩
end Nn
namespace Nn
open Go.RowKit NatMath
/-- the slice value lies in blocks from n on (or nowhere) -/
def Fr (n : Nat) (v : Value) : Prop := ∀ a k c, v = .slice (some a) k c → n ≤ a.block
theorem ownBlock_slice (ao : Option Addr) (n m c d : Nat) : (Value.slice ao n c).ownBlock = (Value.slice ao m d).ownBlock := by cases ao <;> rfl
/-- a struct of one slice came back, of which P is known in the world behind the call -/
def RetW (P : World → Value → Prop) (e : Ending) (w' : World) : Prop := ∃ v : Value, Hid (P w' v) ∧ e = .returned (.agg #[v])
set_option maxHeartbeats 1000000 in
theorem trimmed_c (v : Value) (l : List Nat) (w : World) (h : Sl w v l) :
  Calls Tryz.prog 84 #[v] w fun e w' => RetW (fun _ v' => (∀ W, Sl W v l → Nt W v' (val l)) ∧ v'.ownBlock = v.ownBlock) e w' ∧ Below w.heap.size w w' := by
 obtain ⟨ao, cap, rfl, h1, h2, h3, h4, _⟩ := h
 have hfin : ∀ k : Nat, k ≤ l.length → val (l.take k) = val l → (k = 0 ∨ l.getD (k - 1) 0 ≠ 0) → ∀ W, Sl W (.slice ao l.length cap) l → Nt W (.slice ao k cap) (val l) := by
  intro k hk hv hn W hb
  have hd := digs_take h3 hk hv hn
  obtain ⟨ao', cap', e0, m1, m2, m3, m4, m5⟩ := hb
  obtain ⟨rfl, _, rfl⟩ := Value.slice.inj e0
  unfold Nt
  rw [hd]
  refine ⟨ao, cap, by rw [List.length_take, Nat.min_eq_left hk], by rw [List.length_take]; omega, h2, words_take h3 k, fun hne => ?_, m5⟩
  obtain ⟨b, off, e1, e2, e3⟩ := m4 (by rintro rfl; simp at hne)
  refine ⟨b, off, e1, e2, fun i hi => ?_⟩
  rw [List.length_take] at hi
  rw [getD_take (by omega)]
  exact e3 i (by omega)
 have hval : ∀ k, k < l.length → l.getD k 0 = 0 → val (l.take k) = val (l.take (k + 1)) := fun k hk hz => val_take_zero hk hz
 have hall : val (l.take l.length) = val l := by rw [List.take_length]
 have HF := Zh hfin
 have HV := Zh hval
 have HA := Zh hall
 have H4 := Zh h4
 have hne : Hid (0 < l.length → l ≠ []) := Zh (by rintro h rfl; simp at h)
 have hnl : (l.length : Int) ≤ 9223372036854775807 := by omega
 have hlt : Hid (∀ i, l.getD i 0 < 4294967296) := Zh (by intro i; rw [dig_val h3]; exact dig_lt _ _)
 clear hfin hval hall h3 h4
 generalize hn : l.length = n at *
 clear hn
 go_enter Tryz.func84, Tryz.ntmps84
 go_wp2
 go_loop [0] (fun s0 => ∃ k : Nat, s0 = .slice ao k cap ∧ k ≤ n ∧ Hid (val (l.take k) = val l)) (fun s0 => match s0 with | .slice _ k _ => k | _ => 0)
 case atStart => exact ⟨n, rfl, Nat.le_refl _, HA⟩
 case round =>
  obtain ⟨k, rfl, hk, HI⟩ := hrel
  by_cases h0 : k = 0
  ·have hf0 := HF.out 0 (Nat.zero_le _) (by have := HI.out; rw [h0] at this; exact this) (Or.inl rfl)
   have HF0 := Zh hf0
   subst h0
   clear hf0
   go_wp2
   refine bodyPost_ret (v := .agg #[.slice ao 0 cap]) (by simp [results, Tryz.results84, go_sem]) rfl ⟨⟨_, Zh ⟨HF0.out, ownBlock_slice _ _ _ _ _⟩, rfl⟩, below_one _ _⟩
  ·obtain ⟨j, rfl⟩ : ∃ j, k = j + 1 := ⟨k - 1, by omega⟩
   obtain ⟨b, off, rfl, hb, hc⟩ := H4.out (hne.out (by omega))
   have hcell := hc j (by omega)
   have hu := hlt.out j
   have hvj := HV.out j (by omega)
   by_cases hz : l.getD j 0 = 0
   ·have HI2 : Hid (val (l.take j) = val l) := Zh (by rw [hvj hz]; exact HI.out)
    rw [hz] at hcell
    clear hvj hz hu hc HI
    go_wp2
    go_round
    case rel => exact ⟨j, rfl, by omega, HI2⟩
    case measure => simp
   ·have hfj := HF.out (j + 1) (by omega) HI.out (Or.inr (by rw [Nat.add_sub_cancel]; exact hz))
    have HFJ := Zh hfj
    generalize l.getD j 0 = u at *
    have hb0 : ((u : Int) == 0) = false := by simp; omega
    clear hvj hc HI hfj
    go_wp2
    refine bodyPost_ret (v := .agg #[.slice (some ⟨b, off, none⟩) (j + 1) cap]) (by simp [results, Tryz.results84, go_sem]) rfl ⟨⟨_, Zh ⟨HFJ.out, rfl⟩, rfl⟩, below_one _ _⟩
end Nn
namespace Nn
open Go.RowKit NatMath
/-- the block g holds just the words l -/
def Own (w : World) (g : Nat) (l : List Nat) : Prop := w.heap[g]? = some (.cells (l.map fun (u : Nat) => Value.int .u32 (u : Int)).toArray 74 (0, 0))
section
variable {w w' : World} {g : Nat} {l : List Nat}
theorem Own.lt (h : Own w g l) : g < w.heap.size := lt_of_block h
theorem Own.cell (h : Own w g l) {i : Nat} (hi : i < l.length) : w.cell? ⟨g, i, none⟩ = some (.int .u32 ((l.getD i 0 : Nat) : Int)) := by
 unfold Own at h
 simp [World.cell?, h, hi]
theorem Own.frozen (h : Own w g l) (i : Nat) : w.frozen? ⟨g, i, none⟩ = false := by
 unfold Own at h
 simp [World.frozen?, h]
theorem Own.set (h : Own w g l) (i u : Nat) : Own (w.setCell ⟨g, i, none⟩ (.int .u32 (u : Int))) g (l.set i u) := by
 unfold Own at *
 have hlt := lt_of_block h
 have h2 : w.heap[g] = .cells (l.map fun (u : Nat) => Value.int .u32 (u : Int)).toArray 74 (0, 0) := by
  rw [Array.getElem?_eq_getElem hlt] at h; exact Option.some.inj h
 simp only [World.setCell, Array.getElem?_modify, ↓reduceIte, h, Option.map_some, Option.isSome_none, Bool.false_eq_true]
 congr 2
 rw [List.setIfInBounds_toArray, List.map_set]
theorem Own.setOther (h : Own w g l) {a : Addr} (ha : a.block ≠ g) (u : Value) : Own (w.setCell a u) g l := by
 unfold Own at *
 rw [← h]; exact Below.heap_setCell w a u g (fun e => ha e.symm)
theorem Own.alloc (h : Own w g l) (o : Obj) : Own (w.alloc o) g l := by
 have hlt := h.lt
 unfold Own at *
 rw [← h]; exact Below.heap_alloc w o g hlt
theorem Own.below {B : Nat} (h : Own w g l) (hb : Below B w w') (hB : g < B) : Own w' g l := by
 unfold Own at *; rw [hb.block g hB]; exact h
theorem Own.below' (h : Own w g l) (hb : Below w.heap.size w w') : Own w' g l := h.below hb h.lt
theorem Own.qw (h : Own w g l) (hq : Qw w w') : Own w' g l := h.below' (hq.below _)
theorem Own.sl (h : Own w g l) (hw : words l) (hl : l.length ≤ 9223372036854775807) : Sl w (.slice (some ⟨g, 0, none⟩) l.length l.length) l :=
 ⟨_, _, rfl, Nat.le_refl _, hl, hw, fun _ => ⟨g, 0, rfl, h.lt, fun i hi => by rw [Nat.zero_add]; exact h.cell hi⟩, by rintro a ha; simp only [Option.some.injEq] at ha; rw [← ha]⟩
end
/-- the slice's block may be written to -/
def Uf (w : World) (v : Value) : Prop := ∀ a k c, v = .slice (some a) k c → k ≠ 0 → ∀ i, w.frozen? ⟨a.block, i, none⟩ = false
theorem Uf.nil (w : World) : Uf w (.slice none 0 0) := by intro a k c e; simp at e
theorem Uf.setCell {w : World} {v : Value} (h : Uf w v) (p : Addr) (Y : Value) : Uf (w.setCell p Y) v := fun a k c e h0 i => (World.frozen?_setCell _ _ _ _).trans (h a k c e h0 i)
theorem Uf.own {w : World} {g : Nat} {v : Value} (h : ∀ i, w.frozen? ⟨g, i, none⟩ = false) (hv : v.ownBlock = some g) : Uf w v := by
 intro a k' c' e _ i
 subst e
 simp only [Value.ownBlock, Option.some.injEq] at hv
 rw [hv]; exact h i
theorem Own.uf {w : World} {g : Nat} {l : List Nat} {v : Value} (h : Own w g l) (hv : v.ownBlock = some g) : Uf w v := Uf.own h.frozen hv
/-- a number whose block may be written to -/
def NtU (w : World) (v : Value) (N : Nat) : Prop := Nt w v N ∧ Uf w v
theorem NtU.zero (w : World) : NtU w (.slice none 0 0) 0 := ⟨Nt.zero _, Uf.nil _⟩
theorem NtU.open {w : World} {v : Value} {N : Nat} (h : NtU w v N) : ∃ (ao : Option Addr) (cap : Nat), v = .slice ao (len N) cap ∧ len N ≤ cap ∧ cap ≤ 9223372036854775807 ∧
  (N ≠ 0 → ∃ b off, ao = some ⟨b, off, none⟩ ∧ b < w.heap.size ∧ ∀ i, i < len N → w.cell? ⟨b, off + i, none⟩ = some (.int .u32 ((dig N i : Nat) : Int))) := h.1.open
theorem NtU.below' {w w' : World} {v : Value} {N : Nat} (h : NtU w v N) (hb : Below w.heap.size w w') : NtU w' v N := by
 refine ⟨h.1.below' hb, fun a k c e h0 i => ?_⟩
 obtain ⟨ao, cap, rfl, _, _, h5⟩ := h.1.open
 simp only [Value.slice.injEq] at e
 obtain ⟨rfl, rfl, rfl⟩ := e
 obtain ⟨b, off, e1, e2, _⟩ := h5 (fun e => h0 (len_eq_zero.2 e))
 simp only [Option.some.injEq] at e1
 subst e1
 exact (hb.frozen (p := ⟨b, i, none⟩) e2).trans (h.2 _ _ _ rfl h0 i)
theorem Own.two (w : World) (o : Obj) (a b : Nat) : Own ((w.alloc o).alloc (.cells #[.int .u32 (a : Int), .int .u32 (b : Int)] 74)) (w.heap.size + 1) [a, b] := by
 unfold Own
 show ((w.heap.push o).push _)[w.heap.size + 1]? = _
 rw [Array.getElem?_push, if_pos (by simp)]
 rfl
/-- what make gives -/
theorem Own.made {w : World} {base n : Nat} {g : Nat} (h : w.ownsRow base 74 1 (.slice (some ⟨g, 0, none⟩) n n) n (List.replicate n (Value.int .u32 0))) : Own w g (List.replicate n 0) := by
 obtain ⟨h1, ⟨h2, _⟩ | ⟨g', cap, cur, h2, h3, h4, h5, h6, h7, h8⟩⟩ := h
 ·simp at h2
 ·simp only [Value.slice.injEq, Option.some.injEq, Addr.mk.injEq, and_true, true_and] at h2
  obtain ⟨rfl, rfl⟩ := h2
  unfold Own
  rw [h4]
  congr 2
  rw [Nat.mul_one] at h7 h8
  have : cur.toList = List.replicate n (Value.int .u32 0) := by rw [← h8, List.take_of_length_le (by simp [h7])]
  rw [List.map_replicate]
  apply Array.toList_inj.1
  simpa using this
theorem Tryz.info74 : (Tryz.prog.info? 74).map (fun i => (i.zero, i.size, i.bytes)) = some (some (.int .u32 0), 1, 4) := by kernel_rfl
/-- make([]uint32, n), as words -/
theorem wpList_make_words (w : World) {ops : Array Oper} {rest : List Oper} {o : Oper} {a : Act} {Q : Exit → Act → World → Prop}
  (hg : o.guard = none) (l c : Operand) (hop : o.op = Op.makeSlice 22 l c) (n : Nat) (L C : Int) (hl : a.eval l = .int .i64 L) (hc : a.eval c = .int .i64 C) (hL : L = (n : Int)) (hC : C = (n : Int)) (hn : n ≤ 1000000) (g : Nat) (hgs : w.heap.size = g)
  (hK : ∀ w', Own w' g (List.replicate n 0) → Below g w w' → wpList Tryz.prog ops Q rest (a.put o.dst (.slice (some ⟨g, 0, none⟩) n n)) w') :
  wpList Tryz.prog ops Q (o :: rest) a w := by
 subst hgs
 obtain ⟨i0, hi, hz0, hz1, hz2⟩ := info_parts Tryz.info74
 refine wpList_make_full w hg l c _ hop 0 74 i0 _ 1 (by first | exact Tryz.underlying22 | rfl) hi hz0 hz1 .i64 .i64 L C n hl hc hL hC (by rw [hz2]; omega) (by unfold maxLen; omega) (Nat.zero_le _) (fun w' h1 h2 => hK w' ?_ ((Below.refl _ _).grown h2 (Nat.le_refl _) (by simp)))
 refine Own.made (n := n) (base := 0) ?_
 have e : (madeCells (Value.int .u32 0).cells (n * 1)).toList = List.replicate n (Value.int .u32 0) := by
  rw [Nat.mul_one]; exact toList_madeCells_one _ _
 rw [← e]; exact h1
end Nn
namespace Nn
open Go.RowKit NatMath
/-- a number and no error -/
def RetN (P : World → Value → Prop) (e : Ending) (w' : World) : Prop := ∃ v : Value, Hid (P w' v) ∧ e = .returned (.tuple #[.agg #[v], .int .i64 0])
/-- the zero number and an error -/
def errN (c : Int) : Ending := .returned (.tuple #[.agg #[.slice none 0 0], .int .i64 c])
set_option maxHeartbeats 1000000 in
theorem checked_ok (v : Value) (l : List Nat) (w : World) (h : Sl w v l) (hl : len (val l) ≤ 64) :
  Calls Tryz.prog 101 #[v] w fun e w' => RetN (fun _ v' => (∀ W, Sl W v l → Nt W v' (val l)) ∧ v'.ownBlock = v.ownBlock) e w' ∧ Below w.heap.size w w' := by
 have ct := fun w h => trimmed_c v l w h
 have H := Zh h
 have CT := Zh ct
 clear ct
 go_enter Tryz.func101, Tryz.ntmps101
 go_wp2_with fail
 refine (CT.out _ (H.out.below' (below_one _ _))).mono ?_; rintro e w1 ⟨⟨v', hv, rfl⟩, hb⟩
 have hz : w.heap.size < w1.heap.size := by have := hb.size; simp at this; omega
 have B1 : Hid (Below w.heap.size w w1) := Zh ((below_one _ _).trans (hb.mono (by simp)))
 have f1 := (hb.frozen (p := ⟨w.heap.size, 0, none⟩) (by simp)).trans (by simp : _ = false)
 have f2 := (hb.cell (p := ⟨w.heap.size, 0, none⟩) (by simp)).trans (by simp : _ = some (.slice none 0 0))
 obtain ⟨ao, cap, rfl, k1, k2, k3⟩ := (hv.out.1 w h).open
 have g1 : decide (64 < (len (val l) : Int)) = false := decide_eq_false (by omega)
 clear hb k3 h
 go_wp2
 have B2 : ∀ X Y : Value, Below w.heap.size w ((w1.setCell ⟨w.heap.size, 0, none⟩ Y).alloc (.cells #[X] 24)) := fun X Y => (B1.out.setCell (Nat.le_refl _) _).alloc (by simp; omega) _
 exact bodyPost_ret (v := .tuple #[.agg #[.slice ao (len (val l)) cap], .int .i64 0]) (by simp [results, Tryz.results101, go_sem, hz, f2]) rfl ⟨⟨_, hv, rfl⟩, B2 _ _⟩
set_option maxHeartbeats 1000000 in
theorem checked_big (v : Value) (l : List Nat) (w : World) (h : Sl w v l) (hl : ¬ len (val l) ≤ 64) :
  Calls Tryz.prog 101 #[v] w fun e w' => e = errN 9 ∧ Below w.heap.size w w' := by
 have ct := fun w h => trimmed_c v l w h
 have H := Zh h
 have CT := Zh ct
 clear ct
 go_enter Tryz.func101, Tryz.ntmps101
 go_wp2_with fail
 refine (CT.out _ (H.out.below' (below_one _ _))).mono ?_; rintro e w1 ⟨⟨v', hv, rfl⟩, hb⟩
 have hz : w.heap.size < w1.heap.size := by have := hb.size; simp at this; omega
 have B1 : Hid (Below w.heap.size w w1) := Zh ((below_one _ _).trans (hb.mono (by simp)))
 have f1 := (hb.frozen (p := ⟨w.heap.size, 0, none⟩) (by simp)).trans (by simp : _ = false)
 have f2 := (hb.cell (p := ⟨w.heap.size, 0, none⟩) (by simp)).trans (by simp : _ = some (.slice none 0 0))
 obtain ⟨ao, cap, rfl, k1, k2, k3⟩ := (hv.out.1 w h).open
 have g1 : decide (64 < (len (val l) : Int)) = true := decide_eq_true (by omega)
 clear hb k3 h hl
 go_wp2
 have B2 : ∀ X Y : Value, Below w.heap.size w ((w1.setCell ⟨w.heap.size, 0, none⟩ Y).alloc (.cells #[X] 24)) := fun X Y => (B1.out.setCell (Nat.le_refl _) _).alloc (by simp; omega) _
 exact bodyPost_ret (v := .tuple #[.agg #[.slice none 0 0], .int .i64 9]) (by simp [results, Tryz.results101, go_sem, hz, f2]) rfl ⟨rfl, B2 _ _⟩
/-! ### Of -/
theorem of_words (x : Nat) (hx : x < 9223372036854775808) : words [x % 4294967296, x / 4294967296 % 4294967296] ∧ val [x % 4294967296, x / 4294967296 % 4294967296] = x := by
 refine ⟨?_, ?_⟩
 ·intro u hu; simp at hu; omega
 ·simp only [val]; omega
set_option maxHeartbeats 1000000 in
theorem Of_ok (x : Nat) (w : World) (hx : (x : Int) ≤ 9223372036854775807) :
  Calls Tryz.prog 93 #[.int .i64 x] w fun e w' => RetN (fun w' v' => Nt w' v' x ∧ Fr w.heap.size v') e w' ∧ Below w.heap.size w w' := by
 have hg : decide ((x : Int) < 0) = false := decide_eq_false (by omega)
 obtain ⟨hw, hv⟩ := of_words x (by omega)
 obtain ⟨a, ha⟩ : ∃ a, a = x % 4294967296 := ⟨_, rfl⟩
 obtain ⟨b, hb⟩ : ∃ b, b = x / 4294967296 % 4294967296 := ⟨_, rfl⟩
 have ea : IntKind.u32.wrap (x : Int) = (a : Int) := by rw [IntKind.wrap_u32]; omega
 have eb : IntKind.u32.wrap ((x : Int) / 4294967296) = (b : Int) := by rw [IntKind.wrap_u32]; omega
 rw [← ha, ← hb] at hw hv
 have HW := Zh hw
 have HV := Zh hv
 clear ha hb hw hv
 go_enter Tryz.func93, Tryz.ntmps93
 go_wp2_with fail
 refine (trimmed_c _ [a, b] _ ((Own.two w _ a b).sl HW.out (by simp))).mono ?_; rintro e w1 ⟨⟨v', hv, rfl⟩, hb⟩
 have hz : w.heap.size + 1 < w1.heap.size := by have := hb.size; simp at this; omega
 have hz0 : w.heap.size < w1.heap.size := by omega
 have B1 : Hid (Below w.heap.size w w1) := Zh ((below_two _ _ _).trans (hb.mono (by simp; omega)))
 have f1 := (hb.frozen (p := ⟨w.heap.size, 0, none⟩) (by simp; omega)).trans (by simp : _ = false)
 have f2 := (hb.cell (p := ⟨w.heap.size, 0, none⟩) (by simp; omega)).trans (by simp : _ = some (.slice none 0 0))
 have hN : ∀ Y : Value, Nt (w1.setCell ⟨w.heap.size, 0, none⟩ Y) v' x := fun Y => by
  rw [← HV.out]
  refine hv.out.1 _ ((((Own.two w _ a b).below' hb).setOther (by simp) Y).sl HW.out (by simp))
 have hF : Fr w.heap.size v' := by
  intro ad k c e
  have := hv.out.2
  rw [e] at this
  simp [Value.ownBlock] at this
  omega
 obtain ⟨ao, cap, rfl, _⟩ := (hN (.slice none 0 0)).open
 have HN := Zh hN
 have HF := Zh hF
 clear hb hv hN hF
 go_wp2
 exact bodyPost_ret (v := .tuple #[.agg #[.slice ao (len x) cap], .int .i64 0]) (by simp [results, Tryz.results93, go_sem, f2]) rfl ⟨⟨_, Zh ⟨HN.out _, HF.out⟩, rfl⟩, B1.out.setCell (Nat.le_refl _) _⟩
/-! ### Add -/
set_option maxHeartbeats 400000 in
theorem add32_c (x y c : Nat) (w : World) (hx : (x : Int) < 4294967296) (hy : (y : Int) < 4294967296) (hc : (c : Int) ≤ 1) :
  Calls Tryz.prog 114 #[.int .u32 x, .int .u32 y, .int .u32 c] w fun e w' => e = .returned (.tuple #[.int .u32 (((x + y + c) % 4294967296 : Nat) : Int), .int .u32 (((x + y + c) / 4294967296 : Nat) : Int)]) ∧ w = w' := by
 obtain ⟨a, ha⟩ : ∃ a, a = (x + y + c) % 4294967296 := ⟨_, rfl⟩
 obtain ⟨b, hb⟩ : ∃ b, b = (x + y + c) / 4294967296 := ⟨_, rfl⟩
 have ea : IntKind.u32.wrap ((x : Int) + (y : Int) + (c : Int)) = (a : Int) := by rw [IntKind.wrap_u32]; omega
 have eb : ((x : Int) + (y : Int) + (c : Int)) / 4294967296 = (b : Int) := by omega
 have b1 : (b : Int) ≤ 1 := by omega
 rw [← ha, ← hb]
 clear ha hb
 go_enter Tryz.func114, Tryz.ntmps114
 go_wp2
 go_ret2
 exact ⟨rfl, rfl⟩
end Nn
namespace Nn
open Go.RowKit NatMath
/-- the number S, or the error that it is too big -/
def BigPost (S : Nat) (n : Nat) (e : Ending) (w' : World) : Prop := (len S ≤ 64 ∧ RetN (fun w' v' => Nt w' v' S ∧ Fr n v') e w') ∨ (¬ len S ≤ 64 ∧ e = errN 9)
/-- the number S, in a block that may be written to, or the error that it is too big -/
def BigPostU (S : Nat) (n : Nat) (e : Ending) (w' : World) : Prop := (len S ≤ 64 ∧ RetN (fun w' v' => NtU w' v' S ∧ Fr n v') e w') ∨ (¬ len S ≤ 64 ∧ e = errN 9)
theorem RetN.old {S n : Nat} {e : Ending} {w' : World} (h : RetN (fun w' v' => NtU w' v' S ∧ Fr n v') e w') : RetN (fun w' v' => Nt w' v' S ∧ Fr n v') e w' := by
 obtain ⟨v, hv, he⟩ := h
 exact ⟨v, Zh ⟨hv.out.1.1, hv.out.2⟩, he⟩
theorem BigPostU.old {S n : Nat} {e : Ending} {w' : World} (h : BigPostU S n e w') : BigPost S n e w' := h.imp (fun h => ⟨h.1, h.2.old⟩) id
theorem Fr.block {n g k c : Nat} (h : n ≤ g) : Fr n (.slice (some ⟨g, 0, none⟩) k c) := by
 intro a k' c' e
 simp at e
 rw [← e.1]; exact h
theorem Fr.same {n : Nat} {v v' : Value} (h : Fr n v) (e : v'.ownBlock = v.ownBlock) : Fr n v' := by
 intro a k c hv
 subst hv
 cases v with
 | slice ao k' c' =>
  cases ao with
  | none => simp [Value.ownBlock] at e
  | some a' => simp [Value.ownBlock] at e; rw [e]; exact h a' _ _ rfl
 | _ => simp [Value.ownBlock] at e
/-- checked, of a block of the call's own -/
theorem checked_ownU (g : Nat) (l : List Nat) (w : World) (h : Own w g l) (hw : words l) (m : Nat) (hm : l.length = m) (hl : m ≤ 9223372036854775807) (n : Nat) (hn : n ≤ g) :
  Calls Tryz.prog 101 #[.slice (some ⟨g, 0, none⟩) m m] w fun e w' =>
   ((len (val l) ≤ 64 ∧ ∃ v : Value, Hid ((∀ W, Own W g l → NtU W v (val l)) ∧ Fr n v) ∧ e = .returned (.tuple #[.agg #[v], .int .i64 0])) ∨ (¬ len (val l) ≤ 64 ∧ e = errN 9)) ∧ Below w.heap.size w w' := by
 subst hm
 have hS := h.sl hw hl
 by_cases hc : len (val l) ≤ 64
 ·refine (checked_ok _ l w hS hc).mono ?_
  rintro e w' ⟨⟨v, hv, he⟩, hb⟩
  exact ⟨Or.inl ⟨hc, v, Zh ⟨fun W hW => ⟨hv.out.1 W (hW.sl hw hl), hW.uf hv.out.2⟩, (Fr.block hn).same hv.out.2⟩, he⟩, hb⟩
 ·refine (checked_big _ l w hS hc).mono ?_
  rintro e w' ⟨he, hb⟩
  exact ⟨Or.inr ⟨hc, he⟩, hb⟩
theorem add32_dig (X Y k : Nat) (w : World) :
  Calls Tryz.prog 114 #[.int .u32 (dig X k : Nat), .int .u32 (dig Y k : Nat), .int .u32 (car X Y k : Nat)] w fun e w' => e = .returned (.tuple #[.int .u32 (dig (X + Y) k : Nat), .int .u32 (car X Y (k + 1) : Nat)]) ∧ w = w' := by
 rw [dig_add, car_step]
 have h1 := dig_lt X k
 have h2 := dig_lt Y k
 have h3 := car_le X Y k
 exact add32_c _ _ _ w (by omega) (by omega) (by omega)
theorem sum_lt {X Y : Nat} (h : len Y ≤ len X) : X + Y < Bp (len X + 1) := by
 have h1 := lt_Bp_len X
 have h2 := len_le_iff.1 h
 rw [Bp_succ]; omega
set_option maxRecDepth 100000 in
set_option maxHeartbeats 2000000 in
theorem Add_okU (a b : Value) (N M : Nat) (w : World) (ha : Nt w a N) (hb : Nt w b M) (h1 : len N ≤ 64) (h2 : len M ≤ 64) :
  Calls Tryz.prog 128 #[.agg #[a], .agg #[b]] w fun e w' => BigPostU (N + M) w.heap.size e w' ∧ Below w.heap.size w w' := by
 have c1 := fun w h => Valid_c a (digs N) w h
 have c2 := fun w h => Valid_c b (digs M) w h
 rw [vld_digs, decide_eq_true h1] at c1
 rw [vld_digs, decide_eq_true h2] at c2
 have C1 := Zh c1
 have C2 := Zh c2
 have HA := Zh ha
 have HB := Zh hb
 obtain ⟨ao, ca, rfl, a1, a2, _⟩ := ha.open
 obtain ⟨bo, cb, rfl, b1, b2, _⟩ := hb.open
 have hlt : decide (len N < len M) = true ∨ decide (len N < len M) = false := by cases decide (len N < len M) <;> simp
 have l1 : (len N : Int) ≤ 64 := by omega
 have l2 : (len M : Int) ≤ 64 := by omega
 obtain ⟨S, hS⟩ : ∃ S, N + M = S := ⟨_, rfl⟩
 rw [hS]
 have HS := Zh hS
 clear c1 c2 ha hb h1 h2 hS
 go_enter Tryz.func128, Tryz.ntmps128
 go_wp2_with fail
 refine (C1.out _ (HA.out.below' (below_three _ _ _ _))).mono ?_; rintro e w1 ⟨rfl, hb1⟩
 have z1 : w.heap.size + 2 < w1.heap.size := by have := hb1.size; simp at this; omega
 have B1 : Hid (Below w.heap.size w w1) := Zh ((below_three _ _ _ _).trans (hb1.mono (by simp; omega)))
 obtain ⟨x1, x2, x3, x4⟩ := box3 w (.slice ao (len N) ca) (.slice bo (len M) cb) (.slice none 0 0) 24 24 24
 have f1 := (hb1.cell (p := ⟨w.heap.size, 0, none⟩) (by simp; omega)).trans x1
 have f2 := (hb1.cell (p := ⟨w.heap.size + 1, 0, none⟩) (by simp)).trans x2
 have f3 := (hb1.cell (p := ⟨w.heap.size + 1 + 1, 0, none⟩) (by simp)).trans x3
 have f4 := (hb1.frozen (p := ⟨w.heap.size + 1 + 1, 0, none⟩) (by simp)).trans x4
 clear x1 x2 x3 x4
 clear hb1
 go_wp2_with fail
 refine (C2.out _ (HB.out.below' B1.out)).mono ?_; rintro e w2 ⟨rfl, hb2⟩
 have z2 : w.heap.size + 2 < w2.heap.size := by have := hb2.size; omega
 have B2 : Hid (Below w.heap.size w w2) := Zh (B1.out.trans (hb2.mono (by omega)))
 have g1 := (hb2.cell (p := ⟨w.heap.size, 0, none⟩) (by dsimp only; omega)).trans f1
 have g2 := (hb2.cell (p := ⟨w.heap.size + 1, 0, none⟩) (by dsimp only; omega)).trans f2
 have g3 := (hb2.cell (p := ⟨w.heap.size + 1 + 1, 0, none⟩) (by dsimp only; omega)).trans f3
 have g4 := (hb2.frozen (p := ⟨w.heap.size + 1 + 1, 0, none⟩) (by dsimp only; omega)).trans f4
 clear hb2 f1 f2 f3 f4 z1 B1 C1 C2
 go_wp2_with fail
 go_quiet (fail)
 have B3 : Hid (Below w.heap.size w (w2.drewN nq)) := Zh (below_drewN B2.out _)
 have z3 : w.heap.size + 2 < (w2.drewN nq).heap.size := z2
 have q3 : Hid ((w2.drewN nq).cell? ⟨w.heap.size + 1 + 1, 0, none⟩ = some (.slice none 0 0)) := Zh g3
 have q4 : Hid ((w2.drewN nq).frozen? ⟨w.heap.size + 1 + 1, 0, none⟩ = false) := Zh g4
 clear g1 g2 g3 g4 z2 B2
 generalize w2.drewN nq = W at *
 rcases hlt with g5 | g5
 ·have hYX : len N ≤ len M := by have := of_decide_eq_true g5; omega
  have hadd : Hid (M + N = S) := Zh (by have := HS.out; omega)
  obtain ⟨g, hg⟩ : ∃ g, W.heap.size = g := ⟨_, rfl⟩
  go_wp2_with (at_make; go_loud (refine wpList_make_words _ rfl _ _ rfl (len M + 1) _ _ rfl rfl rfl rfl (by omega) g hg ?_; intro w3 hO hB))
  go_wp2
  have B4 : Hid (Below w.heap.size w w3) := Zh (B3.out.trans (hB.mono (by omega)))
  have hO0 : Hid (Own w3 g (fill (dig (M + N)) 0 (len M + 1))) := Zh (by rw [fill_zero]; exact hO)
  have BW : Hid (Below g W w3) := Zh hB
  clear hO hB
  go_loopw [39, 9] (fun s39 s9 wr => ∃ k : Nat, s39 = .int .i64 (k : Int) ∧ s9 = .int .u32 (car M N k : Nat) ∧ k ≤ len M ∧ Hid (Own wr g (fill (dig (M + N)) k (len M + 1))) ∧ Hid (Below g W wr)) (fun s39 _ _ => (len M - RowKit.intOf s39).toNat)
  case atStart => exact ⟨0, rfl, by rw [car_zero]; rfl, Nat.zero_le _, hO0, BW⟩
  case round =>
   obtain ⟨k, rfl, rfl, hk, hO, hB⟩ := hrel
   have hgr : g < wr.heap.size := hO.out.lt
   have hBW : Hid (Below w.heap.size w wr) := Zh (B3.out.trans (hB.out.mono (by omega)))
   by_cases h0 : k = len M
   ·have ht : decide (k < len M) = false := decide_eq_false (by omega)
    subst h0
    have hfr := hO.out.frozen (len M)
    have hcell := hO.out.cell (i := len M) (by rw [fill_length]; omega)
    have hO2 := hO.out.set (len M) (car M N (len M))
    rw [← car_last (lt_Bp_len _) (len_le_iff.1 hYX), fill_set _ (Nat.lt_succ_self _), car_last (lt_Bp_len _) (len_le_iff.1 hYX)] at hO2
    have HO2 := Zh hO2
    have hlen : len M < len M + 1 := by omega
    clear hO2
    go_wp2_with fail
    refine (checked_ownU g _ _ HO2.out (fill_words (dig_lt _)) _ (fill_length _ _ _) (by omega) w.heap.size (by omega)).mono ?_
    rw [fill_val (sum_lt hYX), hadd.out]
    rintro e w5 ⟨h5, hb5⟩
    have z5 : w.heap.size + 1 + 1 < w5.heap.size := by have := hb5.size; simp at this; omega
    have hBg : Below g W w5 := (hB.out.setCell (p := ⟨g, len M, none⟩) (Nat.le_refl _) _).trans (hb5.mono (by simp; omega))
    have r3 := (hBg.cell (p := ⟨w.heap.size + 1 + 1, 0, none⟩) (by dsimp only; omega)).trans q3.out
    have r4 := (hBg.frozen (p := ⟨w.heap.size + 1 + 1, 0, none⟩) (by dsimp only; omega)).trans q4.out
    have hO5 := HO2.out.below' hb5
    rw [hadd.out] at hO5
    have HO5 := Zh hO5
    clear hO5
    have B5 : Hid (Below w.heap.size w w5) := Zh ((hBW.out.setCell (p := ⟨g, len M, none⟩) (by dsimp only; omega) _).trans (hb5.mono (by simp; omega)))
    have hne : w.heap.size + 1 + 1 ≠ g := by omega
    rcases h5 with ⟨hl5, v5, hv5, rfl⟩ | ⟨hl5, rfl⟩
    ·have hN : ∀ Y : Value, NtU (w5.setCell ⟨w.heap.size + 1 + 1, 0, none⟩ Y) v5 S := fun Y => hv5.out.1 _ (HO5.out.setOther hne Y)
     obtain ⟨a5, c5, rfl, _⟩ := (hN (.slice none 0 0)).open
     have HN := Zh hN
     have HF := Zh hv5.out.2
     clear hv5 hN hb5 hfr hcell hBg
     go_wp2
     exact bodyPost_ret (v := .tuple #[.agg #[.slice a5 (len S) c5], .int .i64 0]) (by simp [results, Tryz.results128, go_sem, r3]) rfl ⟨Or.inl ⟨hl5, _, Zh ⟨HN.out _, HF.out⟩, rfl⟩, B5.out.setCell (by dsimp only; omega) _⟩
    ·clear hb5 hfr hcell hBg
     unfold errN
     go_wp2
     exact bodyPost_ret (v := .tuple #[.agg #[.slice none 0 0], .int .i64 9]) (by simp [results, Tryz.results128, go_sem, r3]) rfl ⟨Or.inr ⟨hl5, rfl⟩, B5.out.setCell (by dsimp only; omega) _⟩
   ·have ht : decide (k < len M) = true := decide_eq_true (by omega)
    have hkx : k < len M := by omega
    have hx0 : M ≠ 0 := fun e => by rw [e, len_zero] at hkx; omega
    obtain ⟨ao', cx', ex, _, _, hx⟩ := (HB.out.below' hBW.out).open
    obtain ⟨rfl, rfl⟩ : ao' = bo ∧ cx' = cb := by simp at ex; exact ⟨ex.1.symm, ex.2.symm⟩
    obtain ⟨bx, offx, rfl, hbx, hcx⟩ := hx hx0
    have hcx1 := hcx k hkx
    have hfr := hO.out.frozen k
    have hcell := hO.out.cell (i := k) (by rw [fill_length]; omega)
    have hlen : k < len M + 1 := by omega
    have HO2 := hO.out.set k (dig (M + N) k)
    rw [fill_set _ (by omega)] at HO2
    have HO3 := Zh HO2
    have cc := add32_dig M N k
    clear hcx ex HO2
    by_cases hy : k < len N
    ·have hty : decide (k < len N) = true := decide_eq_true hy
     have hy0 : N ≠ 0 := fun e => by rw [e, len_zero] at hy; omega
     obtain ⟨bo', cy', ey, _, _, hyy⟩ := (HA.out.below' hBW.out).open
     obtain ⟨rfl, rfl⟩ : bo' = ao ∧ cy' = ca := by simp at ey; exact ⟨ey.1.symm, ey.2.symm⟩
     obtain ⟨by0, offy, rfl, hby, hcy⟩ := hyy hy0
     have hcy1 := hcy k hy
     have CC := Zh cc
     clear hcy ey cc
     go_wp2_with fail
     refine (CC.out _).mono ?_; rintro e w' ⟨rfl, rfl⟩
     go_wp2
     go_roundw
     case rel => exact ⟨k + 1, rfl, rfl, by omega, HO3, Zh (hB.out.setCell (Nat.le_refl _) _)⟩
     case measure => simp [RowKit.intOf]; omega
    ·have hty : decide (k < len N) = false := decide_eq_false hy
     rw [dig_above (show len N ≤ k by omega)] at cc
     have CC := Zh cc
     clear cc
     go_wp2_with fail
     refine (CC.out _).mono ?_; rintro e w' ⟨rfl, rfl⟩
     go_wp2
     go_roundw
     case rel => exact ⟨k + 1, rfl, rfl, by omega, HO3, Zh (hB.out.setCell (Nat.le_refl _) _)⟩
     case measure => simp [RowKit.intOf]; omega
 ·have hYX : len M ≤ len N := by have := of_decide_eq_false g5; omega
  have hadd : Hid (N + M = S) := Zh (by have := HS.out; omega)
  obtain ⟨g, hg⟩ : ∃ g, W.heap.size = g := ⟨_, rfl⟩
  go_wp2_with (at_make; go_loud (refine wpList_make_words _ rfl _ _ rfl (len N + 1) _ _ rfl rfl rfl rfl (by omega) g hg ?_; intro w3 hO hB))
  go_wp2
  have B4 : Hid (Below w.heap.size w w3) := Zh (B3.out.trans (hB.mono (by omega)))
  have hO0 : Hid (Own w3 g (fill (dig (N + M)) 0 (len N + 1))) := Zh (by rw [fill_zero]; exact hO)
  have BW : Hid (Below g W w3) := Zh hB
  clear hO hB
  go_loopw [39, 9] (fun s39 s9 wr => ∃ k : Nat, s39 = .int .i64 (k : Int) ∧ s9 = .int .u32 (car N M k : Nat) ∧ k ≤ len N ∧ Hid (Own wr g (fill (dig (N + M)) k (len N + 1))) ∧ Hid (Below g W wr)) (fun s39 _ _ => (len N - RowKit.intOf s39).toNat)
  case atStart => exact ⟨0, rfl, by rw [car_zero]; rfl, Nat.zero_le _, hO0, BW⟩
  case round =>
   obtain ⟨k, rfl, rfl, hk, hO, hB⟩ := hrel
   have hgr : g < wr.heap.size := hO.out.lt
   have hBW : Hid (Below w.heap.size w wr) := Zh (B3.out.trans (hB.out.mono (by omega)))
   by_cases h0 : k = len N
   ·have ht : decide (k < len N) = false := decide_eq_false (by omega)
    subst h0
    have hfr := hO.out.frozen (len N)
    have hcell := hO.out.cell (i := len N) (by rw [fill_length]; omega)
    have hO2 := hO.out.set (len N) (car N M (len N))
    rw [← car_last (lt_Bp_len _) (len_le_iff.1 hYX), fill_set _ (Nat.lt_succ_self _), car_last (lt_Bp_len _) (len_le_iff.1 hYX)] at hO2
    have HO2 := Zh hO2
    have hlen : len N < len N + 1 := by omega
    clear hO2
    go_wp2_with fail
    refine (checked_ownU g _ _ HO2.out (fill_words (dig_lt _)) _ (fill_length _ _ _) (by omega) w.heap.size (by omega)).mono ?_
    rw [fill_val (sum_lt hYX), hadd.out]
    rintro e w5 ⟨h5, hb5⟩
    have z5 : w.heap.size + 1 + 1 < w5.heap.size := by have := hb5.size; simp at this; omega
    have hBg : Below g W w5 := (hB.out.setCell (p := ⟨g, len N, none⟩) (Nat.le_refl _) _).trans (hb5.mono (by simp; omega))
    have r3 := (hBg.cell (p := ⟨w.heap.size + 1 + 1, 0, none⟩) (by dsimp only; omega)).trans q3.out
    have r4 := (hBg.frozen (p := ⟨w.heap.size + 1 + 1, 0, none⟩) (by dsimp only; omega)).trans q4.out
    have hO5 := HO2.out.below' hb5
    rw [hadd.out] at hO5
    have HO5 := Zh hO5
    clear hO5
    have B5 : Hid (Below w.heap.size w w5) := Zh ((hBW.out.setCell (p := ⟨g, len N, none⟩) (by dsimp only; omega) _).trans (hb5.mono (by simp; omega)))
    have hne : w.heap.size + 1 + 1 ≠ g := by omega
    rcases h5 with ⟨hl5, v5, hv5, rfl⟩ | ⟨hl5, rfl⟩
    ·have hN : ∀ Y : Value, NtU (w5.setCell ⟨w.heap.size + 1 + 1, 0, none⟩ Y) v5 S := fun Y => hv5.out.1 _ (HO5.out.setOther hne Y)
     obtain ⟨a5, c5, rfl, _⟩ := (hN (.slice none 0 0)).open
     have HN := Zh hN
     have HF := Zh hv5.out.2
     clear hv5 hN hb5 hfr hcell hBg
     go_wp2
     exact bodyPost_ret (v := .tuple #[.agg #[.slice a5 (len S) c5], .int .i64 0]) (by simp [results, Tryz.results128, go_sem, r3]) rfl ⟨Or.inl ⟨hl5, _, Zh ⟨HN.out _, HF.out⟩, rfl⟩, B5.out.setCell (by dsimp only; omega) _⟩
    ·clear hb5 hfr hcell hBg
     unfold errN
     go_wp2
     exact bodyPost_ret (v := .tuple #[.agg #[.slice none 0 0], .int .i64 9]) (by simp [results, Tryz.results128, go_sem, r3]) rfl ⟨Or.inr ⟨hl5, rfl⟩, B5.out.setCell (by dsimp only; omega) _⟩
   ·have ht : decide (k < len N) = true := decide_eq_true (by omega)
    have hkx : k < len N := by omega
    have hx0 : N ≠ 0 := fun e => by rw [e, len_zero] at hkx; omega
    obtain ⟨ao', cx', ex, _, _, hx⟩ := (HA.out.below' hBW.out).open
    obtain ⟨rfl, rfl⟩ : ao' = ao ∧ cx' = ca := by simp at ex; exact ⟨ex.1.symm, ex.2.symm⟩
    obtain ⟨bx, offx, rfl, hbx, hcx⟩ := hx hx0
    have hcx1 := hcx k hkx
    have hfr := hO.out.frozen k
    have hcell := hO.out.cell (i := k) (by rw [fill_length]; omega)
    have hlen : k < len N + 1 := by omega
    have HO2 := hO.out.set k (dig (N + M) k)
    rw [fill_set _ (by omega)] at HO2
    have HO3 := Zh HO2
    have cc := add32_dig N M k
    clear hcx ex HO2
    by_cases hy : k < len M
    ·have hty : decide (k < len M) = true := decide_eq_true hy
     have hy0 : M ≠ 0 := fun e => by rw [e, len_zero] at hy; omega
     obtain ⟨bo', cy', ey, _, _, hyy⟩ := (HB.out.below' hBW.out).open
     obtain ⟨rfl, rfl⟩ : bo' = bo ∧ cy' = cb := by simp at ey; exact ⟨ey.1.symm, ey.2.symm⟩
     obtain ⟨by0, offy, rfl, hby, hcy⟩ := hyy hy0
     have hcy1 := hcy k hy
     have CC := Zh cc
     clear hcy ey cc
     go_wp2_with fail
     refine (CC.out _).mono ?_; rintro e w' ⟨rfl, rfl⟩
     go_wp2
     go_roundw
     case rel => exact ⟨k + 1, rfl, rfl, by omega, HO3, Zh (hB.out.setCell (Nat.le_refl _) _)⟩
     case measure => simp [RowKit.intOf]; omega
    ·have hty : decide (k < len M) = false := decide_eq_false hy
     rw [dig_above (show len M ≤ k by omega)] at cc
     have CC := Zh cc
     clear cc
     go_wp2_with fail
     refine (CC.out _).mono ?_; rintro e w' ⟨rfl, rfl⟩
     go_wp2
     go_roundw
     case rel => exact ⟨k + 1, rfl, rfl, by omega, HO3, Zh (hB.out.setCell (Nat.le_refl _) _)⟩
     case measure => simp [RowKit.intOf]; omega
theorem Add_ok (a b : Value) (N M : Nat) (w : World) (ha : Nt w a N) (hb : Nt w b M) (h1 : len N ≤ 64) (h2 : len M ≤ 64) :
  Calls Tryz.prog 128 #[.agg #[a], .agg #[b]] w fun e w' => BigPost (N + M) w.heap.size e w' ∧ Below w.heap.size w w' :=
 (Add_okU a b N M w ha hb h1 h2).mono fun _ _ h => ⟨h.1.old, h.2⟩
end Nn
namespace Nn
open Go.RowKit NatMath
/-! ### bits.Sub32 -/
theorem bits_u32 (a b : Nat) (ha : a < 4294967296) (hb : b < 4294967296) :
  bits .and .u32 (a : Int) (b : Int) = ((a &&& b : Nat) : Int) ∧ bits .or .u32 (a : Int) (b : Int) = ((a ||| b : Nat) : Int) ∧ bits .xor .u32 (a : Int) (b : Int) = ((a ^^^ b : Nat) : Int) := by
 have h1 : (BitVec.ofInt 32 (a : Int)).toNat = a := by
  rw [BitVec.ofInt_natCast, BitVec.toNat_ofNat]; exact Nat.mod_eq_of_lt (by omega)
 have h2 : (BitVec.ofInt 32 (b : Int)).toNat = b := by
  rw [BitVec.ofInt_natCast, BitVec.toNat_ofNat]; exact Nat.mod_eq_of_lt (by omega)
 have hx1 : a &&& b < 2 ^ 32 := Nat.and_lt_two_pow _ (by omega)
 have hx2 : a ||| b < 2 ^ 32 := Nat.or_lt_two_pow (by omega) (by omega)
 have hx3 : a ^^^ b < 2 ^ 32 := Nat.xor_lt_two_pow (by omega) (by omega)
 refine ⟨?_, ?_, ?_⟩
 ·show IntKind.u32.wrap ((BitVec.ofInt 32 (a : Int) &&& BitVec.ofInt 32 (b : Int)).toNat : Int) = _
  rw [BitVec.toNat_and, h1, h2, IntKind.wrap_u32]; omega
 ·show IntKind.u32.wrap ((BitVec.ofInt 32 (a : Int) ||| BitVec.ofInt 32 (b : Int)).toNat : Int) = _
  rw [BitVec.toNat_or, h1, h2, IntKind.wrap_u32]; omega
 ·show IntKind.u32.wrap ((BitVec.ofInt 32 (a : Int) ^^^ BitVec.ofInt 32 (b : Int)).toNat : Int) = _
  rw [BitVec.toNat_xor, h1, h2, IntKind.wrap_u32]; omega
theorem top_bit (x y d c : Nat) (hx : x < 4294967296) (hy : y < 4294967296) (hc : c ≤ 1) (hd : d = (x + 8589934592 - y - c) % 4294967296) :
  (((4294967295 ^^^ x) &&& y) ||| ((4294967295 ^^^ (x ^^^ y)) &&& d)) / 2147483648 = if x < y + c then 1 else 0 := by
 have hd2 : d < 4294967296 := by omega
 have e : (((4294967295 ^^^ x) &&& y) ||| ((4294967295 ^^^ (x ^^^ y)) &&& d)) / 2147483648 = ((1 ^^^ x / 2147483648) &&& y / 2147483648) ||| ((1 ^^^ (x / 2147483648 ^^^ y / 2147483648)) &&& d / 2147483648) := by
  have p : ∀ n : Nat, n / 2147483648 = n >>> 31 := fun n => by rw [Nat.shiftRight_eq_div_pow]
  simp only [p, Nat.shiftRight_or_distrib, Nat.shiftRight_and_distrib, Nat.shiftRight_xor_distrib]
  rfl
 rw [e]
 have h1 : x / 2147483648 = 0 ∨ x / 2147483648 = 1 := by omega
 have h2 : y / 2147483648 = 0 ∨ y / 2147483648 = 1 := by omega
 have h3 : d / 2147483648 = 0 ∨ d / 2147483648 = 1 := by omega
 rcases h1 with h1 | h1 <;> rcases h2 with h2 | h2 <;> rcases h3 with h3 | h3 <;> rw [h1, h2, h3] <;> simp <;> omega
set_option maxHeartbeats 400000 in
theorem sub32_c (x y c : Nat) (w : World) (hx : (x : Int) < 4294967296) (hy : (y : Int) < 4294967296) (hc : (c : Int) ≤ 1) :
  Calls Tryz.prog 113 #[.int .u32 x, .int .u32 y, .int .u32 c] w fun e w' => e = .returned (.tuple #[.int .u32 (((x + 8589934592 - y - c) % 4294967296 : Nat) : Int), .int .u32 ((if x < y + c then 1 else 0 : Nat) : Int)]) ∧ w = w' := by
 have hx' : x < 4294967296 := by omega
 have hy' : y < 4294967296 := by omega
 obtain ⟨d, hd⟩ : ∃ d, d = (x + 8589934592 - y - c) % 4294967296 := ⟨_, rfl⟩
 have hd' : d < 4294967296 := by omega
 have e0 : IntKind.u32.wrap ((x : Int) - (y : Int)) = (((x + 4294967296 - y) % 4294967296 : Nat) : Int) := by rw [IntKind.wrap_u32]; omega
 obtain ⟨d0, hd0⟩ : ∃ d0, d0 = (x + 4294967296 - y) % 4294967296 := ⟨_, rfl⟩
 have e1 : IntKind.u32.wrap ((d0 : Int) - (c : Int)) = (d : Int) := by rw [IntKind.wrap_u32]; omega
 rw [← hd0] at e0
 have ht := top_bit x y d c hx' hy' (by omega) hd
 have p1 : 4294967295 ^^^ x < 4294967296 := Nat.xor_lt_two_pow (n := 32) (by omega) (by omega)
 have p2 : x ^^^ y < 4294967296 := Nat.xor_lt_two_pow (n := 32) (by omega) (by omega)
 have p3 : 4294967295 ^^^ (x ^^^ y) < 4294967296 := Nat.xor_lt_two_pow (n := 32) (by omega) (by omega)
 have p4 : (4294967295 ^^^ x) &&& y < 4294967296 := Nat.and_lt_two_pow (n := 32) _ (by omega)
 have p5 : (4294967295 ^^^ (x ^^^ y)) &&& d < 4294967296 := Nat.and_lt_two_pow (n := 32) _ (by omega)
 have q1 := (bits_u32 4294967295 x (by omega) hx').2.2
 have q2 := (bits_u32 _ y p1 hy').1
 have q3 := (bits_u32 x y hx' hy').2.2
 have q4 := (bits_u32 4294967295 _ (by omega) p2).2.2
 have q5 := (bits_u32 _ d p3 hd').1
 have q6 := (bits_u32 _ _ p4 p5).2.1
 rw [← hd, ← ht]
 generalize (4294967295 ^^^ x) &&& y = n4 at *
 generalize (4294967295 ^^^ (x ^^^ y)) &&& d = n5 at *
 generalize n4 ||| n5 = n6 at *
 generalize (4294967295 ^^^ x) = n1 at *
 generalize (4294967295 ^^^ (x ^^^ y)) = n3 at *
 generalize (x ^^^ y) = n2 at *
 obtain ⟨b, hb⟩ : ∃ b, b = n6 / 2147483648 := ⟨_, rfl⟩
 have hb2 : (n6 : Int) / 2147483648 = (b : Int) := by omega
 have q1' : bits .xor .u32 (if IntKind.u32.signed = true then -1 else IntKind.u32.max) (x : Int) = (n1 : Int) := q1
 have q4' : bits .xor .u32 (if IntKind.u32.signed = true then -1 else IntKind.u32.max) (n2 : Int) = (n3 : Int) := q4
 rw [← hb]
 clear hd0 hd ht p1 p2 p3 p4 p5 hd' hx' hy' hb q1 q4
 go_enter Tryz.func113, Tryz.ntmps113
 go_wp2
 go_ret2
 exact ⟨rfl, rfl⟩
end Nn
namespace Nn
open Go.RowKit NatMath
theorem len_mono {N M : Nat} (h : M ≤ N) : len M ≤ len N := len_le_iff.2 (Nat.lt_of_le_of_lt h (lt_Bp_len N))
theorem sub32_dig (X Y k : Nat) (h : Y ≤ X) (w : World) :
  Calls Tryz.prog 113 #[.int .u32 (dig X k : Nat), .int .u32 (dig Y k : Nat), .int .u32 (bor X Y k : Nat)] w fun e w' => e = .returned (.tuple #[.int .u32 (dig (X - Y) k : Nat), .int .u32 (bor X Y (k + 1) : Nat)]) ∧ w = w' := by
 rw [dig_sub X Y k h, bor_step]
 have h1 := dig_lt X k
 have h2 := dig_lt Y k
 have h3 := bor_le X Y k
 exact sub32_c _ _ _ w (by omega) (by omega) (by omega)
set_option maxHeartbeats 1000000 in
theorem minus_c (a b : Value) (N M : Nat) (w : World) (ha : Nt w a N) (hb : Nt w b M) (h1 : len N ≤ 64) (hl : M ≤ N) :
  Calls Tryz.prog 103 #[a, b] w fun e w' => ∃ g, e = .returned (.slice (some ⟨g, 0, none⟩) (len N) (len N)) ∧ Hid (Own w' g (fill (dig (N - M)) (len N) (len N))) ∧ w.heap.size ≤ g ∧ Below w.heap.size w w' := by
 have HA := Zh ha
 have HB := Zh hb
 obtain ⟨ao, ca, rfl, a1, a2, _⟩ := ha.open
 obtain ⟨bo, cb, rfl, b1, b2, _⟩ := hb.open
 have hlm := len_mono hl
 have HL := Zh hl
 clear ha hb hl
 obtain ⟨g, hg⟩ : ∃ g, w.heap.size = g := ⟨_, rfl⟩
 go_enter Tryz.func103, Tryz.ntmps103
 go_wp2_with (at_make; go_loud (refine wpList_make_words _ rfl _ _ rfl (len N) _ _ rfl rfl rfl rfl (by omega) g hg ?_; intro w3 hO hB))
 have hO0 : Hid (Own w3 g (fill (dig (N - M)) 0 (len N))) := Zh (by rw [fill_zero]; exact hO)
 have BW : Hid (Below g w w3) := Zh hB
 clear hO hB
 go_loopw [15, 6] (fun s15 s6 wr => ∃ k : Nat, s15 = .int .i64 (k : Int) ∧ s6 = .int .u32 (bor N M k : Nat) ∧ k ≤ len N ∧ Hid (Own wr g (fill (dig (N - M)) k (len N))) ∧ Hid (Below g w wr)) (fun s15 _ _ => (len N - RowKit.intOf s15).toNat)
 case atStart => exact ⟨0, rfl, by rw [bor_zero]; rfl, Nat.zero_le _, hO0, BW⟩
 case round =>
  obtain ⟨k, rfl, rfl, hk, hO, hB⟩ := hrel
  have hgr : g < wr.heap.size := hO.out.lt
  have hBW : Hid (Below w.heap.size w wr) := Zh (by rw [hg]; exact hB.out)
  by_cases h0 : k = len N
  ·have ht : decide (k < len N) = false := decide_eq_false (by omega)
   subst h0
   go_wp2
   go_ret
   exact ⟨g, rfl, hO, by omega, hBW.out⟩
  ·have ht : decide (k < len N) = true := decide_eq_true (by omega)
   have hkx : k < len N := by omega
   have hx0 : N ≠ 0 := fun e => by rw [e, len_zero] at hkx; omega
   obtain ⟨ao', cx', ex, _, _, hx⟩ := (HA.out.below' hBW.out).open
   obtain ⟨rfl, rfl⟩ : ao' = ao ∧ cx' = ca := by simp at ex; exact ⟨ex.1.symm, ex.2.symm⟩
   obtain ⟨bx, offx, rfl, hbx, hcx⟩ := hx hx0
   have hcx1 := hcx k hkx
   have hfr := hO.out.frozen k
   have hcell := hO.out.cell (i := k) (by rw [fill_length]; omega)
   have HO2 := hO.out.set k (dig (N - M) k)
   rw [fill_set _ (by omega)] at HO2
   have HO3 := Zh HO2
   have cc := sub32_dig N M k HL.out
   clear hcx ex HO2
   by_cases hy : k < len M
   ·have hty : decide (k < len M) = true := decide_eq_true hy
    have hy0 : M ≠ 0 := fun e => by rw [e, len_zero] at hy; omega
    obtain ⟨bo', cy', ey, _, _, hyy⟩ := (HB.out.below' hBW.out).open
    obtain ⟨rfl, rfl⟩ : bo' = bo ∧ cy' = cb := by simp at ey; exact ⟨ey.1.symm, ey.2.symm⟩
    obtain ⟨by0, offy, rfl, hby, hcy⟩ := hyy hy0
    have hcy1 := hcy k hy
    have CC := Zh cc
    clear hcy ey cc
    go_wp2_with fail
    refine (CC.out _).mono ?_; rintro e w' ⟨rfl, rfl⟩
    go_wp2
    go_roundw
    case rel => exact ⟨k + 1, rfl, rfl, by omega, HO3, Zh (hB.out.setCell (Nat.le_refl _) _)⟩
    case measure => simp [RowKit.intOf]; omega
   ·have hty : decide (k < len M) = false := decide_eq_false hy
    rw [dig_above (show len M ≤ k by omega)] at cc
    have CC := Zh cc
    clear cc
    go_wp2_with fail
    refine (CC.out _).mono ?_; rintro e w' ⟨rfl, rfl⟩
    go_wp2
    go_roundw
    case rel => exact ⟨k + 1, rfl, rfl, by omega, HO3, Zh (hB.out.setCell (Nat.le_refl _) _)⟩
    case measure => simp [RowKit.intOf]; omega
/-- trimmed, of a block of the call's own -/
theorem trimmed_ownU (g : Nat) (l : List Nat) (w : World) (h : Own w g l) (hw : words l) (m : Nat) (hm : l.length = m) (hl : m ≤ 9223372036854775807) (n : Nat) (hn : n ≤ g) :
  Calls Tryz.prog 84 #[.slice (some ⟨g, 0, none⟩) m m] w fun e w' => (∃ v : Value, Hid ((∀ W, Own W g l → NtU W v (val l)) ∧ Fr n v) ∧ e = .returned (.agg #[v])) ∧ Below w.heap.size w w' := by
 subst hm
 refine (trimmed_c _ l w (h.sl hw hl)).mono ?_
 rintro e w' ⟨⟨v, hv, he⟩, hb⟩
 exact ⟨⟨v, Zh ⟨fun W hW => ⟨hv.out.1 W (hW.sl hw hl), hW.uf hv.out.2⟩, (Fr.block hn).same hv.out.2⟩, he⟩, hb⟩
set_option maxRecDepth 100000 in
set_option maxHeartbeats 2000000 in
theorem Sub_okU (a b : Value) (N M : Nat) (w : World) (ha : Nt w a N) (hb : Nt w b M) (h1 : len N ≤ 64) (h2 : len M ≤ 64) (hl : M ≤ N) :
  Calls Tryz.prog 68 #[.agg #[a], .agg #[b]] w fun e w' => RetN (fun w' v' => NtU w' v' (N - M) ∧ Fr w.heap.size v') e w' ∧ Below w.heap.size w w' := by
 have c1 := fun w h => Valid_c a (digs N) w h
 have c2 := fun w h => Valid_c b (digs M) w h
 have c3 := fun w h1 h2 => compare_c a b N M w h1 h2
 have c4 := fun w ha hb => minus_c a b N M w ha hb h1 hl
 rw [vld_digs, decide_eq_true h1] at c1
 rw [vld_digs, decide_eq_true h2] at c2
 have C1 := Zh c1
 have C2 := Zh c2
 have C3 := Zh c3
 have C4 := Zh c4
 have HA := Zh ha
 have HB := Zh hb
 have hcmp : decide (cmp N M < 0) = false := decide_eq_false (by unfold cmp; rw [if_neg (by omega)]; split <;> omega)
 have hS : N - M < Bp (len N) := Nat.lt_of_le_of_lt (Nat.sub_le _ _) (lt_Bp_len N)
 have HS := Zh hS
 have HN64 := Zh h1
 clear c1 c2 c3 c4 ha hb h1 h2 hl hS
 generalize cmp N M = R at *
 go_enter Tryz.func68, Tryz.ntmps68
 go_wp2_with fail
 refine (C1.out _ (HA.out.below' (below_three _ _ _ _))).mono ?_; rintro e w1 ⟨rfl, hb1⟩
 have z1 : w.heap.size + 2 < w1.heap.size := by have := hb1.size; simp at this; omega
 have B1 : Hid (Below w.heap.size w w1) := Zh ((below_three _ _ _ _).trans (hb1.mono (by simp; omega)))
 obtain ⟨x1, x2, x3, x4⟩ := box3 w a b (.slice none 0 0) 24 24 24
 have f1 := (hb1.cell (p := ⟨w.heap.size, 0, none⟩) (by simp; omega)).trans x1
 have f2 := (hb1.cell (p := ⟨w.heap.size + 1, 0, none⟩) (by simp)).trans x2
 have f3 := (hb1.cell (p := ⟨w.heap.size + 1 + 1, 0, none⟩) (by simp)).trans x3
 have f4 := (hb1.frozen (p := ⟨w.heap.size + 1 + 1, 0, none⟩) (by simp)).trans x4
 clear x1 x2 x3 x4 hb1
 go_wp2_with fail
 refine (C2.out _ (HB.out.below' B1.out)).mono ?_; rintro e w2 ⟨rfl, hb2⟩
 have z2 : w.heap.size + 2 < w2.heap.size := by have := hb2.size; omega
 have B2 : Hid (Below w.heap.size w w2) := Zh (B1.out.trans (hb2.mono (by omega)))
 have g1 := (hb2.cell (p := ⟨w.heap.size, 0, none⟩) (by dsimp only; omega)).trans f1
 have g2 := (hb2.cell (p := ⟨w.heap.size + 1, 0, none⟩) (by dsimp only; omega)).trans f2
 have g3 := (hb2.cell (p := ⟨w.heap.size + 1 + 1, 0, none⟩) (by dsimp only; omega)).trans f3
 have g4 := (hb2.frozen (p := ⟨w.heap.size + 1 + 1, 0, none⟩) (by dsimp only; omega)).trans f4
 clear hb2 f1 f2 f3 f4 z1 B1 C1 C2
 go_wp2_with fail
 refine (C3.out _ (HA.out.below' B2.out) (HB.out.below' B2.out)).mono ?_; rintro e w3 ⟨rfl, hq⟩
 have hb3 := hq.below w2.heap.size
 have z3 : w.heap.size + 2 < w3.heap.size := by have := hb3.size; omega
 have B3 : Hid (Below w.heap.size w w3) := Zh (B2.out.trans (hb3.mono (by omega)))
 have f1 := (hb3.cell (p := ⟨w.heap.size, 0, none⟩) (by dsimp only; omega)).trans g1
 have f2 := (hb3.cell (p := ⟨w.heap.size + 1, 0, none⟩) (by dsimp only; omega)).trans g2
 have f3 := (hb3.cell (p := ⟨w.heap.size + 1 + 1, 0, none⟩) (by dsimp only; omega)).trans g3
 have f4 := (hb3.frozen (p := ⟨w.heap.size + 1 + 1, 0, none⟩) (by dsimp only; omega)).trans g4
 clear hb3 hq g1 g2 g3 g4 z2 B2 C3
 go_wp2_with fail
 refine (C4.out _ (HA.out.below' B3.out) (HB.out.below' B3.out)).mono ?_; rintro e w4 ⟨g, rfl, hO, hg, hb4⟩
 have z4 : w.heap.size + 2 < w4.heap.size := by have := hb4.size; omega
 have B4 : Hid (Below w.heap.size w w4) := Zh (B3.out.trans (hb4.mono (by omega)))
 have q3 := (hb4.cell (p := ⟨w.heap.size + 1 + 1, 0, none⟩) (by dsimp only; omega)).trans f3
 have q4 := (hb4.frozen (p := ⟨w.heap.size + 1 + 1, 0, none⟩) (by dsimp only; omega)).trans f4
 clear hb4 f1 f2 f3 f4 C4
 go_wp2_with fail
 have ct := trimmed_ownU g _ w4 hO.out (fill_words (dig_lt _)) _ (fill_length _ _ _) (by have := HN64.out; omega) w.heap.size (by omega)
 rw [fill_val HS.out] at ct
 refine ct.mono ?_; rintro e w5 ⟨⟨v5, hv5, rfl⟩, hb5⟩
 have z5 : w.heap.size + 1 + 1 < w5.heap.size := by have := hb5.size; omega
 have B5 : Hid (Below w.heap.size w w5) := Zh (B4.out.trans (hb5.mono (by omega)))
 have r3 := (hb5.cell (p := ⟨w.heap.size + 1 + 1, 0, none⟩) (by dsimp only; omega)).trans q3
 have r4 := (hb5.frozen (p := ⟨w.heap.size + 1 + 1, 0, none⟩) (by dsimp only; omega)).trans q4
 have hne : w.heap.size + 1 + 1 ≠ g := by omega
 have hN : ∀ Y : Value, NtU (w5.setCell ⟨w.heap.size + 1 + 1, 0, none⟩ Y) v5 (N - M) := fun Y => hv5.out.1 _ ((hO.out.below' hb5).setOther hne Y)
 obtain ⟨a5, c5, rfl, _⟩ := (hN (.slice none 0 0)).open
 have HN := Zh hN
 have HF := Zh hv5.out.2
 clear hv5 hN hb5 q3 q4 ct
 go_wp2
 exact bodyPost_ret (v := .tuple #[.agg #[.slice a5 (len (N - M)) c5], .int .i64 0]) (by simp [results, Tryz.results68, go_sem, r3]) rfl ⟨⟨_, Zh ⟨HN.out _, HF.out⟩, rfl⟩, B5.out.setCell (by dsimp only; omega) _⟩
theorem Sub_ok (a b : Value) (N M : Nat) (w : World) (ha : Nt w a N) (hb : Nt w b M) (h1 : len N ≤ 64) (h2 : len M ≤ 64) (hl : M ≤ N) :
  Calls Tryz.prog 68 #[.agg #[a], .agg #[b]] w fun e w' => RetN (fun w' v' => Nt w' v' (N - M) ∧ Fr w.heap.size v') e w' ∧ Below w.heap.size w w' :=
 (Sub_okU a b N M w ha hb h1 h2 hl).mono fun _ _ h => ⟨h.1.old, h.2⟩
end Nn
namespace Nn
open Go.RowKit NatMath
set_option maxRecDepth 100000 in
set_option maxHeartbeats 2000000 in
theorem Mul_okU (a b : Value) (N M : Nat) (w : World) (ha : Nt w a N) (hb : Nt w b M) (h1 : len N ≤ 64) (h2 : len M ≤ 64) :
  Calls Tryz.prog 66 #[.agg #[a], .agg #[b]] w fun e w' => BigPostU (N * M) w.heap.size e w' ∧ Below w.heap.size w w' := by
 have c1 := fun w h => Valid_c a (digs N) w h
 have c2 := fun w h => Valid_c b (digs M) w h
 rw [vld_digs, decide_eq_true h1] at c1
 rw [vld_digs, decide_eq_true h2] at c2
 have C1 := Zh c1
 have C2 := Zh c2
 have HA := Zh ha
 have HB := Zh hb
 have HN64 := Zh h1
 have HM64 := Zh h2
 clear c1 c2 ha hb h1 h2
 go_enter Tryz.func66, Tryz.ntmps66
 go_wp2_with fail
 refine (C1.out _ (HA.out.below' (below_three _ _ _ _))).mono ?_; rintro e w1 ⟨rfl, hb1⟩
 have z1 : w.heap.size + 2 < w1.heap.size := by have := hb1.size; simp at this; omega
 have B1 : Hid (Below w.heap.size w w1) := Zh ((below_three _ _ _ _).trans (hb1.mono (by simp; omega)))
 obtain ⟨x1, x2, x3, x4⟩ := box3 w a b (.slice none 0 0) 24 24 24
 have f1 := (hb1.cell (p := ⟨w.heap.size, 0, none⟩) (by simp; omega)).trans x1
 have f2 := (hb1.cell (p := ⟨w.heap.size + 1, 0, none⟩) (by simp)).trans x2
 have f3 := (hb1.cell (p := ⟨w.heap.size + 1 + 1, 0, none⟩) (by simp)).trans x3
 have f4 := (hb1.frozen (p := ⟨w.heap.size + 1 + 1, 0, none⟩) (by simp)).trans x4
 clear x1 x2 x3 x4 hb1
 go_wp2_with fail
 refine (C2.out _ (HB.out.below' B1.out)).mono ?_; rintro e w2 ⟨rfl, hb2⟩
 have z2 : w.heap.size + 2 < w2.heap.size := by have := hb2.size; omega
 have B2 : Hid (Below w.heap.size w w2) := Zh (B1.out.trans (hb2.mono (by omega)))
 have g1 := (hb2.cell (p := ⟨w.heap.size, 0, none⟩) (by dsimp only; omega)).trans f1
 have g2 := (hb2.cell (p := ⟨w.heap.size + 1, 0, none⟩) (by dsimp only; omega)).trans f2
 have g3 := (hb2.cell (p := ⟨w.heap.size + 1 + 1, 0, none⟩) (by dsimp only; omega)).trans f3
 have g4 := (hb2.frozen (p := ⟨w.heap.size + 1 + 1, 0, none⟩) (by dsimp only; omega)).trans f4
 clear hb2 f1 f2 f3 f4 z1 B1 C1 C2
 have z3 : w.heap.size + 2 < w2.heap.size := z2
 have q1 := Zh g1
 have q2 := Zh g2
 have q3 := Zh g3
 have q4 := Zh g4
 obtain ⟨ao, ca, rfl, a1, a2, _⟩ := HA.out.open
 obtain ⟨bo, cb, rfl, b1, b2, _⟩ := HB.out.open
 have l1 : (len N : Int) ≤ 64 := by have := HN64.out; omega
 have l2 : (len M : Int) ≤ 64 := by have := HM64.out; omega
 obtain ⟨g, hg⟩ : ∃ g, w2.heap.size = g := ⟨_, rfl⟩
 go_wp2_with (at_make; go_loud (refine wpList_make_words _ rfl _ _ rfl (len N + len M) _ _ rfl rfl rfl rfl (by omega) g hg ?_; intro w3 hO hB; have k1 := (hB.cell (p := ⟨w.heap.size, 0, none⟩) (by dsimp only; omega)).trans q1.out))
 have BW : Hid (Below g w2 w3) := Zh hB
 have HO : Hid (Own w3 g (List.replicate (len N + len M) 0)) := Zh hO
 clear hO hB g1 g2 g3 g4
 go_loopw [33] (fun s33 wr => ∃ i : Nat, s33 = .int .i64 (i : Int) ∧ i ≤ len N ∧ (∃ l, Hid (Own wr g l) ∧ Hid (MulO N M i l)) ∧ Hid (Below g w2 wr)) (fun s33 _ => (len N - RowKit.intOf s33).toNat)
 case atStart => exact ⟨0, rfl, Nat.zero_le _, ⟨_, HO, Zh (MulO.zero N M)⟩, BW⟩
 case round =>
  obtain ⟨i, rfl, hi, ⟨l, hO, hP⟩, hB⟩ := hrel
  have hgr : g < wr.heap.size := hO.out.lt
  have hBW : Hid (Below w.heap.size w wr) := Zh (B2.out.trans (hB.out.mono (by omega)))
  by_cases h0 : i = len N
  ·have ht : decide (i < len N) = false := decide_eq_false (by omega)
   subst h0
   go_wp2_with fail
   obtain ⟨p1, p2, p3⟩ := hP.out.done
   have ck := checked_ownU g l _ hO.out p2 _ p1 (by omega) w.heap.size (by omega)
   rw [p3] at ck
   refine ck.mono ?_; rintro e w5 ⟨h5, hb5⟩
   have z5 : w.heap.size + 1 + 1 < w5.heap.size := by have := hb5.size; omega
   have B5 : Hid (Below w.heap.size w w5) := Zh (hBW.out.trans (hb5.mono (by omega)))
   have hBg : Below g w2 w5 := hB.out.trans (hb5.mono (by omega))
   have r3 := (hBg.cell (p := ⟨w.heap.size + 1 + 1, 0, none⟩) (by dsimp only; omega)).trans q3.out
   have r4 := (hBg.frozen (p := ⟨w.heap.size + 1 + 1, 0, none⟩) (by dsimp only; omega)).trans q4.out
   have hne : w.heap.size + 1 + 1 ≠ g := by omega
   have HO5 := Zh (hO.out.below' hb5)
   clear ck p1 p2 p3 hb5 hBg
   rcases h5 with ⟨hl5, v5, hv5, rfl⟩ | ⟨hl5, rfl⟩
   ·have hN : ∀ Y : Value, NtU (w5.setCell ⟨w.heap.size + 1 + 1, 0, none⟩ Y) v5 (N * M) := fun Y => hv5.out.1 _ (HO5.out.setOther hne Y)
    obtain ⟨a5, c5, rfl, _⟩ := (hN (.slice none 0 0)).open
    have HN := Zh hN
    have HF := Zh hv5.out.2
    clear hv5 hN
    go_wp2
    exact bodyPost_ret (v := .tuple #[.agg #[.slice a5 (len (N * M)) c5], .int .i64 0]) (by simp [results, Tryz.results66, go_sem, r3]) rfl ⟨Or.inl ⟨hl5, _, Zh ⟨HN.out _, HF.out⟩, rfl⟩, B5.out.setCell (by dsimp only; omega) _⟩
   ·unfold errN
    go_wp2
    exact bodyPost_ret (v := .tuple #[.agg #[.slice none 0 0], .int .i64 9]) (by simp [results, Tryz.results66, go_sem, r3]) rfl ⟨Or.inr ⟨hl5, rfl⟩, B5.out.setCell (by dsimp only; omega) _⟩
  ·have ht : decide (i < len N) = true := decide_eq_true (by omega)
   have hix : i < len N := by omega
   have hx0 : N ≠ 0 := fun e => by rw [e, len_zero] at hix; omega
   obtain ⟨ao', cx', ex, _, _, hx⟩ := (HA.out.below' hBW.out).open
   obtain ⟨rfl, rfl⟩ : ao' = ao ∧ cx' = ca := by simp at ex; exact ⟨ex.1.symm, ex.2.symm⟩
   obtain ⟨bx, offx, rfl, hbx, hcx⟩ := hx hx0
   have hcx1 := hcx i hix
   have k2 := (hB.out.cell (p := ⟨w.heap.size + 1, 0, none⟩) (by dsimp only; omega)).trans q2.out
   have hP0 := Zh hP.out.row
   have xb := dig_lt N i
   obtain ⟨x, hx'⟩ : ∃ x, x = dig N i := ⟨_, rfl⟩
   rw [← hx'] at hcx1 xb
   have hX := Zh hx'
   clear hcx ex hx' hx
   go_wp2
   go_loopw [41, 9] (fun s41 s9 wr => ∃ k c : Nat, s41 = .int .i64 (k : Int) ∧ s9 = .int .u64 (c : Int) ∧ k ≤ len M ∧ (∃ l, Hid (Own wr g l) ∧ Hid (MulI N M i k c l)) ∧ Hid (Below g w2 wr)) (fun s41 _ _ => (len M - RowKit.intOf s41).toNat)
   case atStart => exact ⟨0, 0, rfl, rfl, Nat.zero_le _, ⟨_, hO, hP0⟩, hB⟩
   case round =>
    obtain ⟨k, c, rfl, rfl, hk, ⟨l2, hO2, hP2⟩, hB2⟩ := hrel
    have hgr2 : g < wr.heap.size := hO2.out.lt
    have hBW2 : Hid (Below w.heap.size w wr) := Zh (B2.out.trans (hB2.out.mono (by omega)))
    have hlen := hP2.out.1
    have hc32 := hP2.out.2.2.1
    by_cases k0 : k = len M
    ·have ht2 : decide (k < len M) = false := decide_eq_false (by omega)
     subst k0
     have hP3 := hP2.out.done hix
     have hfr := hO2.out.frozen (i + len M)
     have hcell := hO2.out.cell (i := i + len M) (by rw [hlen]; omega)
     have k3 := (hB2.out.cell (p := ⟨w.heap.size + 1, 0, none⟩) (by dsimp only; omega)).trans q2.out
     have hO3 := Zh (hO2.out.set (i + len M) c)
     have HP3 := Zh hP3
     have hidx : i + len M < len N + len M := by omega
     clear hP3 hlen
     go_wp2
     go_roundw
     case rel => exact ⟨i + 1, rfl, by omega, ⟨_, hO3, HP3⟩, Zh (hB2.out.setCell (Nat.le_refl _) _)⟩
     case measure => simp [RowKit.intOf]; omega
    ·have ht2 : decide (k < len M) = true := decide_eq_true (by omega)
     have hkx : k < len M := by omega
     have hy0 : M ≠ 0 := fun e => by rw [e, len_zero] at hkx; omega
     obtain ⟨bo', cy', ey, _, _, hyy⟩ := (HB.out.below' hBW2.out).open
     obtain ⟨rfl, rfl⟩ : bo' = bo ∧ cy' = cb := by simp at ey; exact ⟨ey.1.symm, ey.2.symm⟩
     obtain ⟨by0, offy, rfl, hby, hcy⟩ := hyy hy0
     have hcy1 := hcy k hkx
     have hfr := hO2.out.frozen (i + k)
     have hcell := hO2.out.cell (i := i + k) (by rw [hlen]; omega)
     have hob := getD_lt hP2.out.2.1 (i + k)
     have hyb := dig_lt M k
     obtain ⟨t, htt⟩ : ∃ t, t = dig N i * dig M k + l2.getD (i + k) 0 + c := ⟨_, rfl⟩
     obtain ⟨htb, hP3⟩ := hP2.out.step hkx hix htt
     have HP3 := Zh hP3
     have hO3 := Zh (hO2.out.set (i + k) (t % 4294967296))
     rw [← hX.out] at htt
     obtain ⟨y, hy'⟩ : ∃ y, y = dig M k := ⟨_, rfl⟩
     obtain ⟨o, ho'⟩ : ∃ o, o = l2.getD (i + k) 0 := ⟨_, rfl⟩
     rw [← hy'] at htt hyb hcy1
     rw [← ho'] at htt hob hcell
     obtain ⟨p, hp⟩ : ∃ p, p = x * y := ⟨_, rfl⟩
     rw [← hp] at htt
     obtain ⟨sm, hsm⟩ : ∃ sm, sm = p + o := ⟨_, rfl⟩
     obtain ⟨q, hq⟩ : ∃ q, q = t / 4294967296 := ⟨_, rfl⟩
     obtain ⟨r, hr⟩ : ∃ r, r = t % 4294967296 := ⟨_, rfl⟩
     rw [← hq, ← hr] at HP3
     rw [← hr] at hO3
     have e1 : IntKind.u64.wrap ((x : Int) * (y : Int)) = (p : Int) := by rw [IntKind.wrap_u64, hp, ← Int.natCast_mul]; omega
     have e2 : IntKind.u64.wrap ((p : Int) + (o : Int)) = (sm : Int) := by rw [IntKind.wrap_u64]; omega
     have e3 : IntKind.u64.wrap ((sm : Int) + (c : Int)) = (t : Int) := by rw [IntKind.wrap_u64]; omega
     have e4 : IntKind.u32.wrap (t : Int) = (r : Int) := by rw [IntKind.wrap_u32]; omega
     have e5 : (t : Int) / 4294967296 = (q : Int) := by omega
     have hidx : i + k < len N + len M := by omega
     clear hcy ey hP3 hlen hp hsm hq hr hy' ho' htb htt hyy
     go_wp2
     go_roundw
     case rel => exact ⟨k + 1, q, rfl, rfl, by omega, ⟨_, hO3, HP3⟩, Zh (hB2.out.setCell (Nat.le_refl _) _)⟩
     case measure => simp [RowKit.intOf]; omega
theorem Mul_ok (a b : Value) (N M : Nat) (w : World) (ha : Nt w a N) (hb : Nt w b M) (h1 : len N ≤ 64) (h2 : len M ≤ 64) :
  Calls Tryz.prog 66 #[.agg #[a], .agg #[b]] w fun e w' => BigPost (N * M) w.heap.size e w' ∧ Below w.heap.size w w' :=
 (Mul_okU a b N M w ha hb h1 h2).mono fun _ _ h => ⟨h.1.old, h.2⟩
end Nn
namespace Nn
open Go.RowKit NatMath
theorem or_add (h l : Nat) (hl : l < 4294967296) : h * 4294967296 ||| l = h * 4294967296 + l := by
 have := Nat.shiftLeft_add_eq_or_of_lt (i := 32) (b := l) (by omega) h
 rw [Nat.shiftLeft_eq] at this
 exact this.symm
set_option maxHeartbeats 400000 in
theorem div32_c (h l y : Nat) (w : World) (hh : (h : Int) < 4294967296) (hl : (l : Int) < 4294967296) (hy : (y : Int) < 4294967296) (hr : h < y) :
  Calls Tryz.prog 110 #[.int .u32 h, .int .u32 l, .int .u32 y] w fun e w' => e = .returned (.tuple #[.int .u32 (((h * 4294967296 + l) / y : Nat) : Int), .int .u32 (((h * 4294967296 + l) % y : Nat) : Int)]) ∧ Qw w w' := by
 have g1 : ((y : Int) != 0) = true := by simp; omega
 have g2 : decide (y ≤ h) = false := decide_eq_false (by omega)
 have g3 : ((y : Int) == 0) = false := by simp; omega
 obtain ⟨z, hz⟩ : ∃ z, z = h * 4294967296 + l := ⟨_, rfl⟩
 obtain ⟨h2, hh2⟩ : ∃ h2, h2 = h * 4294967296 := ⟨_, rfl⟩
 have e1 : IntKind.u64.wrap ((h : Int) * 4294967296) = (h2 : Int) := by rw [IntKind.wrap_u64]; omega
 have e2 : bits .or .u64 (h2 : Int) (l : Int) = (z : Int) := by
  rw [bits_or_u64_nat _ _ (by omega) (by omega), hh2, or_add _ _ (by omega), hz]
 have hq : z / y < 4294967296 := by
  rw [Nat.div_lt_iff_lt_mul (by omega)]
  have : (h + 1) * 4294967296 ≤ y * 4294967296 := Nat.mul_le_mul_right _ (by omega)
  rw [Nat.mul_comm 4294967296 y] at *
  omega
 have hm : z % y < 4294967296 := by have := Nat.mod_lt z (show 0 < y by omega); omega
 rw [← hz]
 obtain ⟨q, hq'⟩ : ∃ q, q = z / y := ⟨_, rfl⟩
 obtain ⟨m, hm'⟩ : ∃ m, m = z % y := ⟨_, rfl⟩
 rw [← hq'] at hq ⊢
 rw [← hm'] at hm ⊢
 have e3 : IntKind.u32.wrap (q : Int) = (q : Int) := by rw [IntKind.wrap_u32]; omega
 have e4 : IntKind.u32.wrap (m : Int) = (m : Int) := by rw [IntKind.wrap_u32]; omega
 have e5 : (z : Int) / (y : Int) = (q : Int) := by rw [hq']; exact (Int.natCast_ediv z y).symm
 have e6 : (z : Int) % (y : Int) = (m : Int) := by rw [hm']; exact (Int.natCast_emod z y).symm
 clear hz hh2 hq' hm'
 go_enter Tryz.func110, Tryz.ntmps110
 go_wp2_with fail
 go_quiet (fail)
 go_wp2
 go_ret2
 exact ⟨rfl, Qw.drewN (Qw.refl _) _⟩
theorem Nt.set {w : World} {v : Value} {N n : Nat} (h : Nt w v N) (hf : Fr n v) {a : Addr} (ha : a.block < n) (Y : Value) : Nt (w.setCell a Y) v N := by
 obtain ⟨ao, cap, h1, h2, h3, h4, h5, h6⟩ := h
 refine ⟨ao, cap, h1, h2, h3, h4, fun hl => ?_, h6⟩
 obtain ⟨b, off, k1, k2, k3⟩ := h5 hl
 have hb : n ≤ b := by rw [h1, k1] at hf; exact hf _ _ _ rfl
 refine ⟨b, off, k1, by simpa using k2, fun i hi => ?_⟩
 rw [World.cell?_setCell_other _ _ _ _ (fun e => by rw [e] at ha; simp only at ha; omega)]
 exact k3 i hi
theorem NtU.set {w : World} {v : Value} {N n : Nat} (h : NtU w v N) (hf : Fr n v) {a : Addr} (ha : a.block < n) (Y : Value) : NtU (w.setCell a Y) v N := ⟨h.1.set hf ha Y, h.2.setCell _ _⟩
/-- what a law of the kit says of a row of one's own, of a number's words -/
theorem owned_number {w : World} {base N : Nat} {v : Value} (h : w.ownsRow base 74 1 v (len N) ((digs N).map fun (u : Nat) => Value.int .u32 (u : Int))) : NtU w v N ∧ Fr base v := by
 obtain ⟨_, ⟨rfl, h2⟩ | ⟨g, cap, cur, rfl, h3, h4, h5, h6, h7, h8⟩⟩ := h
 ·rw [len_eq_zero.1 h2]
  exact ⟨NtU.zero _, by intro a k c e; simp at e⟩
 ·refine ⟨⟨⟨_, cap, rfl, h5, h6, words_digs N, fun _ => ⟨g, 0, rfl, lt_of_block h4, fun i hi => ?_⟩, by rintro a ha; simp only [Option.some.injEq] at ha; rw [← ha]⟩, Uf.own (fun i => by simp [World.frozen?, h4]) rfl⟩, Fr.block h3⟩
  have e : cur[0 + i]? = ((digs N).map fun (u : Nat) => Value.int .u32 (u : Int))[i]? := by
   rw [← h8, Nat.zero_add, ← Array.getElem?_toList, List.getElem?_take, if_pos (by have : (digs N).length = len N := rfl; omega)]
  simp only [World.cell?, h4, Option.isSome_none, Bool.false_eq_true, if_false, e]
  rw [List.getElem?_map, List.getElem?_eq_getElem hi, List.getD_eq_getElem?_getD, List.getElem?_eq_getElem hi]
  rfl
theorem clone_some (b off cap N : Nat) (w : World) (h : Nt w (.slice (some ⟨b, off, none⟩) (len N) cap) N) (hN : len N ≤ 1000000) :
  Calls Tryz.prog 82 #[.slice (some ⟨b, off, none⟩) (len N) cap] w fun e w' => (∃ v', Hid (NtU w' v' N ∧ Fr w.heap.size v') ∧ e = .returned v') ∧ Below w.heap.size w w' := by
 obtain ⟨i0, hi, hz0, hz1, hz2⟩ := info_parts Tryz.info74
 have hl : ((digs N).map fun (u : Nat) => Value.int .u32 (u : Int)).length = len N * 1 := by rw [Nat.mul_one, List.length_map]; rfl
 have hc : ∀ j u, ((digs N).map fun (u : Nat) => Value.int .u32 (u : Int))[j]? = some u → w.cell? ⟨b, off + j, none⟩ = some u := by
  intro j u hu
  rw [List.getElem?_map] at hu
  obtain ⟨x, hx, rfl⟩ := Option.map_eq_some_iff.1 hu
  obtain ⟨ao, cap', e, _, _, h4, h5, _⟩ := h
  obtain ⟨b', off', k1, k2, k3⟩ := h5 (by intro e; rw [e] at hx; simp at hx)
  simp only [Value.slice.injEq, k1, Option.some.injEq, Addr.mk.injEq] at e
  obtain ⟨⟨rfl, rfl, _⟩, _, _⟩ := e
  have hj : j < (digs N).length := by
   apply Nat.lt_of_not_le; intro hh; rw [List.getElem?_eq_none hh] at hx; simp at hx
  rw [k3 j hj, List.getD_eq_getElem?_getD, hx]; rfl
 refine (Tryz.slices_Clone_f82 i0 _ 1 4 hi hz0 hz1 hz2 rfl (by omega) (fun w => ?_) b off (len N) cap _ w hl (by unfold maxLen; omega) (by omega) hc ?_).mono ?_
 ·exact Tryz.sizeOf74 ..
 ·intro u hu
  obtain ⟨x, _, rfl⟩ := List.mem_map.1 hu
  rfl
 ·rintro e w' ⟨v', rfl, h1, h2, h3⟩
  exact ⟨⟨v', Zh (owned_number h1), rfl⟩, h3⟩
/-- slices.Clone, of a number -/
theorem Clone_cU (v : Value) (N : Nat) (w : World) (h : Nt w v N) (hN : len N ≤ 1000000) :
  Calls Tryz.prog 82 #[v] w fun e w' => (∃ v', Hid (NtU w' v' N ∧ Fr w.heap.size v') ∧ e = .returned v') ∧ Below w.heap.size w w' := by
 obtain ⟨ao, cap, rfl, h1, h2, h3⟩ := h.open
 by_cases h0 : N = 0
 ·subst h0
  cases ao with
  | none =>
   rw [len_zero]
   refine (Tryz.slices_Clone_nil_f82 0 cap w).mono ?_
   rintro e w' ⟨rfl, rfl⟩
   exact ⟨⟨_, Zh ⟨NtU.zero _, by intro a k c e; simp at e⟩, rfl⟩, Below.refl _ _⟩
  | some a =>
   obtain ⟨b, off, rfl⟩ : ∃ b off, a = ⟨b, off, none⟩ := by
    obtain ⟨b, off, sp⟩ := a
    obtain ⟨ao', cap', e, _, _, _, _, h6⟩ := h
    simp only [Value.slice.injEq] at e
    have := h6 _ e.1.symm
    simp only at this
    exact ⟨b, off, by rw [this]⟩
   exact clone_some b off cap 0 w h (by omega)
 ·obtain ⟨b, off, rfl, _⟩ := h3 h0
  exact clone_some b off cap N w h hN
end Nn
namespace Nn
open Go.RowKit NatMath
theorem div32_dig (N d k : Nat) (hd : 0 < d) (hd2 : d < 4294967296) (w : World) :
  Calls Tryz.prog 110 #[.int .u32 (drem N d (k + 1) : Nat), .int .u32 (dig N k : Nat), .int .u32 d] w fun e w' => e = .returned (.tuple #[.int .u32 (dig (N / d) k : Nat), .int .u32 (drem N d k : Nat)]) ∧ Qw w w' := by
 have h1 := drem_step N hd k
 rw [← h1.1, ← h1.2]
 have h2 := drem_lt N hd (k + 1)
 have h3 := dig_lt N k
 exact div32_c _ _ _ w (by omega) (by omega) (by omega) h2
set_option maxHeartbeats 1000000 in
theorem short_c (a : Value) (N d : Nat) (w : World) (ha : Nt w a N) (h1 : len N ≤ 64) (hd : 0 < d) (hd2 : d < 4294967296) :
  Calls Tryz.prog 83 #[a, .int .u32 d] w fun e w' => ∃ g, e = .returned (.tuple #[.slice (some ⟨g, 0, none⟩) (len N) (len N), .int .u32 (N % d : Nat)]) ∧ Hid (Own w' g (fill (dig (N / d)) (len N) (len N))) ∧ w.heap.size ≤ g ∧ Below w.heap.size w w' := by
 have HA := Zh ha
 obtain ⟨ao, ca, rfl, a1, a2, _⟩ := ha.open
 have CC := Zh (fun k w => div32_dig N d k hd hd2 w)
 have hR := drem_zero N d
 rw [← hR]
 have R0 : (0 : Int) = (drem N d (len N) : Nat) := by rw [drem_top]; rfl
 have HR := Zh R0
 clear ha hR R0
 obtain ⟨g, hg⟩ : ∃ g, w.heap.size = g := ⟨_, rfl⟩
 go_enter Tryz.func83, Tryz.ntmps83
 go_wp2_with (at_make; go_loud (refine wpList_make_words _ rfl _ _ rfl (len N) _ _ rfl rfl rfl rfl (by omega) g hg ?_; intro w3 hO hB))
 have hO0 : Hid (Own w3 g (fillD (dig (N / d)) (len N) (len N))) := Zh (by rw [fillD_none]; exact hO)
 have BW : Hid (Below g w w3) := Zh hB
 clear hO hB
 have hn : (len N : Int) ≤ 64 := by omega
 go_loopw [8, 7] (fun s8 s7 wr => ∃ k : Nat, s8 = .int .i64 ((k : Int) - 1) ∧ s7 = .int .u32 (drem N d k : Nat) ∧ k ≤ len N ∧ Hid (Own wr g (fillD (dig (N / d)) k (len N))) ∧ Hid (Below g w wr)) (fun s8 _ _ => (RowKit.intOf s8 + 1).toNat)
 case atStart => exact ⟨len N, rfl, by rw [← HR.out], Nat.le_refl _, hO0, BW⟩
 case round =>
  obtain ⟨k, rfl, rfl, hk, hO, hB⟩ := hrel
  have hgr : g < wr.heap.size := hO.out.lt
  have hBW : Hid (Below w.heap.size w wr) := Zh (by rw [hg]; exact hB.out)
  by_cases h0 : k = 0
  ·have hge : decide (1 ≤ (k : Int)) = false := decide_eq_false (by omega)
   subst h0
   have hO1 := hO.out
   rw [fillD_all] at hO1
   have HO1 := Zh hO1
   clear hO1
   go_wp2
   go_ret2
   exact ⟨g, rfl, HO1, by omega, hBW.out⟩
  ·obtain ⟨j, rfl⟩ : ∃ j, k = j + 1 := ⟨k - 1, by omega⟩
   have ej : (((j + 1 : Nat) : Int) - 1) = (j : Int) := by omega
   rw [ej]
   have hjn : (j : Int) < (len N : Int) := by omega
   have hjn2 : j < len N := by omega
   have hj1 : decide (0 ≤ (j : Int)) = true := decide_eq_true (by omega)
   have hx0 : N ≠ 0 := fun e => by rw [e, len_zero] at hk; omega
   obtain ⟨ao', cx', ex, _, _, hx⟩ := (HA.out.below' hBW.out).open
   obtain ⟨rfl, rfl⟩ : ao' = ao ∧ cx' = ca := by simp at ex; exact ⟨ex.1.symm, ex.2.symm⟩
   obtain ⟨bx, offx, rfl, hbx, hcx⟩ := hx hx0
   have hcx1 := hcx j hjn2
   clear hcx ex hx ej
   go_wp2_with fail
   refine (CC.out j _).mono ?_; rintro e w1 ⟨rfl, hq⟩
   have hO1 := hO.out.qw hq
   have hB1 : Below g w w1 := hB.out.trans (hq.below _)
   have hgr1 : g < w1.heap.size := hO1.lt
   have hfr := hO1.frozen j
   have hcell := hO1.cell (i := j) (by rw [fillD_length]; omega)
   have HO2 := hO1.set j (dig (N / d) j)
   rw [fillD_set _ hjn2] at HO2
   have HO3 := Zh HO2
   have HB1 := Zh hB1
   clear HO2 hO1 hB1 hq hcx1
   go_wp2
   go_roundw
   case rel => exact ⟨j, rfl, rfl, by omega, HO3, Zh (HB1.out.setCell (Nat.le_refl _) _)⟩
   case measure => simp [RowKit.intOf]
end Nn
namespace Nn
open Go.RowKit NatMath
theorem below_four (w : World) (o p q r : Obj) : Below w.heap.size w ((((w.alloc o).alloc p).alloc q).alloc r) := (below_three w o p q).alloc (by simp; omega) _
theorem box4 (w : World) (a b c d : Value) (T U V X : TypeId) :
  ((((w.alloc (.cells #[a] T)).alloc (.cells #[b] U)).alloc (.cells #[c] V)).alloc (.cells #[d] X)).cell? ⟨w.heap.size, 0, none⟩ = some a ∧
  ((((w.alloc (.cells #[a] T)).alloc (.cells #[b] U)).alloc (.cells #[c] V)).alloc (.cells #[d] X)).cell? ⟨w.heap.size + 1, 0, none⟩ = some b ∧
  ((((w.alloc (.cells #[a] T)).alloc (.cells #[b] U)).alloc (.cells #[c] V)).alloc (.cells #[d] X)).cell? ⟨w.heap.size + 1 + 1, 0, none⟩ = some c ∧
  ((((w.alloc (.cells #[a] T)).alloc (.cells #[b] U)).alloc (.cells #[c] V)).alloc (.cells #[d] X)).frozen? ⟨w.heap.size + 1 + 1, 0, none⟩ = false ∧
  ((((w.alloc (.cells #[a] T)).alloc (.cells #[b] U)).alloc (.cells #[c] V)).alloc (.cells #[d] X)).cell? ⟨w.heap.size + 1 + 1 + 1, 0, none⟩ = some d ∧
  ((((w.alloc (.cells #[a] T)).alloc (.cells #[b] U)).alloc (.cells #[c] V)).alloc (.cells #[d] X)).frozen? ⟨w.heap.size + 1 + 1 + 1, 0, none⟩ = false := by
 have e3 : (((w.alloc (.cells #[a] T)).alloc (.cells #[b] U)).alloc (.cells #[c] V)).heap.size = w.heap.size + 1 + 1 + 1 := by simp
 obtain ⟨h1, h2, h3, h4⟩ := box3 w a b c T U V
 refine ⟨?_, ?_, ?_, ?_, ?_, ?_⟩
 ·exact (World.cell?_alloc_old _ _ _ (by simp; omega)).trans h1
 ·exact (World.cell?_alloc_old _ _ _ (by simp)).trans h2
 ·exact (World.cell?_alloc_old _ _ _ (by simp)).trans h3
 ·exact (World.frozen?_alloc_old _ _ _ (by simp)).trans h4
 ·rw [← e3]; exact box1a _ d X
 ·rw [← e3]; exact box1f _ d X
/-- two numbers and no error -/
def RetNN (P : World → Value → Value → Prop) (e : Ending) (w' : World) : Prop := ∃ u v : Value, Hid (P w' u v) ∧ e = .returned (.tuple #[.agg #[u], .agg #[v], .int .i64 0])
theorem RetNN.old {S T n : Nat} {e : Ending} {w' : World} (h : RetNN (fun w' u v => NtU w' u S ∧ Fr n u ∧ NtU w' v T ∧ Fr n v) e w') : RetNN (fun w' u v => Nt w' u S ∧ Fr n u ∧ Nt w' v T ∧ Fr n v) e w' := by
 obtain ⟨u, v, hv, he⟩ := h
 exact ⟨u, v, Zh ⟨hv.out.1.1, hv.out.2.1, hv.out.2.2.1.1, hv.out.2.2.2⟩, he⟩
theorem Fr.nil (n : Nat) : Fr n (.slice none 0 0) := by intro a k c e; simp at e
theorem Fr.mono {n m : Nat} {v : Value} (h : Fr n v) (hm : m ≤ n) : Fr m v := fun a k c e => Nat.le_trans hm (h a k c e)
/-- the two results' cells, in a world behind w -/
def Boxes (w W : World) : Prop := Below w.heap.size w W ∧ w.heap.size + 3 < W.heap.size ∧
 W.cell? ⟨w.heap.size + 1 + 1, 0, none⟩ = some (.slice none 0 0) ∧ W.frozen? ⟨w.heap.size + 1 + 1, 0, none⟩ = false ∧
 W.cell? ⟨w.heap.size + 1 + 1 + 1, 0, none⟩ = some (.slice none 0 0) ∧ W.frozen? ⟨w.heap.size + 1 + 1 + 1, 0, none⟩ = false
theorem Boxes.on {w W V : World} (h : Boxes w W) (hb : Below W.heap.size W V) : Boxes w V := by
 obtain ⟨h1, h2, h3, h4, h5, h6⟩ := h
 refine ⟨h1.trans (hb.mono h1.size), Nat.lt_of_lt_of_le h2 hb.size, ?_, ?_, ?_, ?_⟩
 ·exact (hb.cell (by dsimp only; omega)).trans h3
 ·exact (hb.frozen (by dsimp only; omega)).trans h4
 ·exact (hb.cell (by dsimp only; omega)).trans h5
 ·exact (hb.frozen (by dsimp only; omega)).trans h6
theorem Boxes.drew {w W : World} (h : Boxes w W) : Boxes w W.drew := h.on ⟨rfl, rfl, rfl, Nat.le_refl _, fun _ _ => rfl⟩
theorem Boxes.again {w W : World} (h : Boxes w W) : Boxes w (W.setCell ⟨w.heap.size + 1 + 1, 0, none⟩ (.slice none 0 0)) := by
 obtain ⟨h1, h2, h3, h4, h5, h6⟩ := h
 refine ⟨h1.setCell (by dsimp only; omega) _, by simpa using h2, World.cell?_setCell_same' _ _ _ (by rw [h3]; rfl), (World.frozen?_setCell _ _ _ _).trans h4, ?_, (World.frozen?_setCell _ _ _ _).trans h6⟩
 rw [World.cell?_setCell_other _ _ _ _ (by simp)]; exact h5
theorem Clone_boxes (a : Value) (N : Nat) (w W : World) (ha : Nt w a N) (hN : len N ≤ 1000000) (hB : Boxes w W) :
  Calls Tryz.prog 82 #[a] W fun e w' => ∃ ao c, e = .returned (.slice ao (len N) c) ∧ Hid (NtU w' (.slice ao (len N) c) N) ∧ Hid (Fr (w.heap.size + 4) (.slice ao (len N) c)) ∧ Hid (Boxes w w') := by
 refine (Clone_cU a N W (ha.below' hB.1) hN).mono ?_
 rintro e w' ⟨⟨v, hv, rfl⟩, hb⟩
 have h1 := hv.out.1
 obtain ⟨ao, c, rfl, _⟩ := h1.open
 exact ⟨ao, c, rfl, Zh h1, Zh (fun a k c e => Nat.le_trans hB.2.1 (hv.out.2 a k c e)), Zh (hB.on hb)⟩
set_option maxRecDepth 100000 in
set_option maxHeartbeats 1000000 in
theorem Div_smallU (a b : Value) (N M : Nat) (w : World) (ha : Nt w a N) (hb : Nt w b M) (h1 : len N ≤ 64) (h2 : len M ≤ 64) (hl : N < M) (h0 : M ≠ 0) :
  Calls Tryz.prog 45 #[.agg #[a], .agg #[b]] w fun e w' => RetNN (fun w' u v => NtU w' u 0 ∧ Fr w.heap.size u ∧ NtU w' v N ∧ Fr w.heap.size v) e w' ∧ Below w.heap.size w w' := by
 have c1 := fun w h => Valid_c a (digs N) w h
 have c2 := fun w h => Valid_c b (digs M) w h
 have c3 := fun w h1 h2 => compare_c a b N M w h1 h2
 have c4 := fun W h => Clone_boxes a N w W ha (by omega) h
 rw [vld_digs, decide_eq_true h1] at c1
 rw [vld_digs, decide_eq_true h2] at c2
 have C1 := Zh c1
 have C2 := Zh c2
 have C3 := Zh c3
 have C4 := Zh c4
 have HA := Zh ha
 have HB := Zh hb
 have hcmp : decide (cmp N M < 0) = true := decide_eq_true (by unfold cmp; rw [if_pos hl]; omega)
 have hm0 : len M ≠ 0 := fun e => h0 (len_eq_zero.1 e)
 have hmz : ((len M : Int) == 0) = false := by simp; omega
 obtain ⟨bo, cb, rfl, b1, b2, _⟩ := hb.open
 clear c1 c2 c3 c4 ha hb h1 h2 hl h0
 generalize cmp N M = R at *
 go_enter Tryz.func45, Tryz.ntmps45
 go_wp2_with fail
 refine (C1.out _ (HA.out.below' (below_four _ _ _ _ _))).mono ?_; rintro e w1 ⟨rfl, hb1⟩
 have z1 : w.heap.size + 3 < w1.heap.size := by have := hb1.size; simp at this; omega
 have B1 : Hid (Below w.heap.size w w1) := Zh ((below_four _ _ _ _ _).trans (hb1.mono (by simp; omega)))
 obtain ⟨x1, x2, x3, x4, x5, x6⟩ := box4 w a (.slice bo (len M) cb) (.slice none 0 0) (.slice none 0 0) 24 24 24 24
 have f1 := (hb1.cell (p := ⟨w.heap.size, 0, none⟩) (by simp; omega)).trans x1
 have f2 := (hb1.cell (p := ⟨w.heap.size + 1, 0, none⟩) (by simp)).trans x2
 have f3 := (hb1.cell (p := ⟨w.heap.size + 1 + 1, 0, none⟩) (by simp)).trans x3
 have f4 := (hb1.frozen (p := ⟨w.heap.size + 1 + 1, 0, none⟩) (by simp)).trans x4
 have f5 := (hb1.cell (p := ⟨w.heap.size + 1 + 1 + 1, 0, none⟩) (by simp)).trans x5
 have f6 := (hb1.frozen (p := ⟨w.heap.size + 1 + 1 + 1, 0, none⟩) (by simp)).trans x6
 clear x1 x2 x3 x4 x5 x6 hb1
 go_wp2_with fail
 refine (C2.out _ (HB.out.below' B1.out)).mono ?_; rintro e w2 ⟨rfl, hb2⟩
 have z2 : w.heap.size + 3 < w2.heap.size := by have := hb2.size; omega
 have B2 : Hid (Below w.heap.size w w2) := Zh (B1.out.trans (hb2.mono (by omega)))
 have g1 := (hb2.cell (p := ⟨w.heap.size, 0, none⟩) (by dsimp only; omega)).trans f1
 have g2 := (hb2.cell (p := ⟨w.heap.size + 1, 0, none⟩) (by dsimp only; omega)).trans f2
 have g3 := (hb2.cell (p := ⟨w.heap.size + 1 + 1, 0, none⟩) (by dsimp only; omega)).trans f3
 have g4 := (hb2.frozen (p := ⟨w.heap.size + 1 + 1, 0, none⟩) (by dsimp only; omega)).trans f4
 have g5 := (hb2.cell (p := ⟨w.heap.size + 1 + 1 + 1, 0, none⟩) (by dsimp only; omega)).trans f5
 have g6 := (hb2.frozen (p := ⟨w.heap.size + 1 + 1 + 1, 0, none⟩) (by dsimp only; omega)).trans f6
 clear hb2 f1 f2 f3 f4 f5 f6 z1 B1 C1 C2
 go_wp2_with fail
 refine (C3.out _ (HA.out.below' B2.out) (HB.out.below' B2.out)).mono ?_; rintro e w3 ⟨rfl, hq⟩
 have hb3 := hq.below w2.heap.size
 have z3 : w.heap.size + 3 < w3.heap.size := by have := hb3.size; omega
 have B3 : Hid (Below w.heap.size w w3) := Zh (B2.out.trans (hb3.mono (by omega)))
 have f1 := (hb3.cell (p := ⟨w.heap.size, 0, none⟩) (by dsimp only; omega)).trans g1
 have f2 := (hb3.cell (p := ⟨w.heap.size + 1, 0, none⟩) (by dsimp only; omega)).trans g2
 have f3 := (hb3.cell (p := ⟨w.heap.size + 1 + 1, 0, none⟩) (by dsimp only; omega)).trans g3
 have f4 := (hb3.frozen (p := ⟨w.heap.size + 1 + 1, 0, none⟩) (by dsimp only; omega)).trans g4
 have f5 := (hb3.cell (p := ⟨w.heap.size + 1 + 1 + 1, 0, none⟩) (by dsimp only; omega)).trans g5
 have f6 := (hb3.frozen (p := ⟨w.heap.size + 1 + 1 + 1, 0, none⟩) (by dsimp only; omega)).trans g6
 clear hb3 hq g1 g2 g3 g4 g5 g6 z2 B2 C3
 go_wp2_with fail
 have FD : Boxes w w3 := ⟨B3.out, z3, f3, f4, f5, f6⟩
 have FH := Zh FD
 clear FD
 go_region_with (go_at_call 82; refine (C4.out _ (by first | exact FH.out.drew | exact FH.out.drew.again)).mono ?_; rintro e w4 ⟨ao, c4, rfl, hv4, hf4, u⟩; obtain ⟨u1, u2, u3, u4, u5, u6⟩ := u.out)
 all_goals
  clear f1 f2 f3 f4 f5 f6
  go_wp2
  refine bodyPost_ret (v := .tuple #[.agg #[.slice none 0 0], .agg #[.slice ao (len N) c4], .int .i64 0]) (by simp [results, Tryz.results45, go_sem, u3, u5]) rfl ⟨⟨_, _, Zh ⟨NtU.zero _, Fr.nil _, ?_, (Fr.mono hf4.out (by omega))⟩, rfl⟩, ?_⟩
  ·first
   | exact (hv4.out.set hf4.out (by dsimp only; omega) _).set hf4.out (by dsimp only; omega) _
   | exact hv4.out.set hf4.out (by dsimp only; omega) _
  ·first
   | exact (u1.setCell (by dsimp only; omega) _).setCell (by dsimp only; omega) _
   | exact u1.setCell (by dsimp only; omega) _
theorem trimmed_boxes (g : Nat) (l : List Nat) (w W : World) (h : Own W g l) (hw : words l) (m : Nat) (hm : l.length = m) (hl : m ≤ 9223372036854775807) (hn : w.heap.size + 3 < g) (hB : Boxes w W) :
  Calls Tryz.prog 84 #[.slice (some ⟨g, 0, none⟩) m m] W fun e w' => ∃ ao c, e = .returned (.agg #[.slice ao (len (val l)) c]) ∧ Hid (NtU w' (.slice ao (len (val l)) c) (val l)) ∧ Hid (Fr (w.heap.size + 4) (.slice ao (len (val l)) c)) ∧ Hid (Boxes w w') ∧ Hid (Below W.heap.size W w') := by
 refine (trimmed_ownU g l W h hw m hm hl (w.heap.size + 4) hn).mono ?_
 rintro e w' ⟨⟨v, hv, rfl⟩, hb⟩
 have h1 := hv.out.1 _ (h.below' hb)
 obtain ⟨ao, c, rfl, _⟩ := h1.open
 exact ⟨ao, c, rfl, Zh h1, Zh hv.out.2, Zh (hB.on hb), Zh hb⟩
theorem Own.one (w : World) (a : Nat) : Own (w.alloc (.cells #[.int .u32 (a : Int)] 74)) w.heap.size [a] := by
 unfold Own
 show (w.heap.push _)[w.heap.size]? = _
 rw [Array.getElem?_push, if_pos rfl]
 rfl
theorem short_boxes (a : Value) (N d : Nat) (w W : World) (ha : Nt w a N) (h1 : len N ≤ 64) (hd : 0 < d) (hd2 : d < 4294967296) (hB : Boxes w W) :
  Calls Tryz.prog 83 #[a, .int .u32 d] W fun e w' => ∃ g, e = .returned (.tuple #[.slice (some ⟨g, 0, none⟩) (len N) (len N), .int .u32 (N % d : Nat)]) ∧ Hid (Own w' g (fill (dig (N / d)) (len N) (len N))) ∧ w.heap.size + 3 < g ∧ Hid (Boxes w w') := by
 refine (short_c a N d W (ha.below' hB.1) h1 hd hd2).mono ?_
 rintro e w' ⟨g, rfl, hO, hg, hb⟩
 exact ⟨g, rfl, hO, Nat.lt_of_lt_of_le hB.2.1 hg, Zh (hB.on hb)⟩
set_option maxRecDepth 100000 in
set_option maxHeartbeats 2000000 in
theorem Div_shortU (a b : Value) (N M : Nat) (w : World) (ha : Nt w a N) (hb : Nt w b M) (h1 : len N ≤ 64) (h2 : len M ≤ 64) (h0 : len M = 1) (hl : M ≤ N) :
  Calls Tryz.prog 45 #[.agg #[a], .agg #[b]] w fun e w' => RetNN (fun w' u v => NtU w' u (N / M) ∧ Fr w.heap.size u ∧ NtU w' v (N % M) ∧ Fr w.heap.size v) e w' ∧ Below w.heap.size w w' := by
 have c1 := fun w h => Valid_c a (digs N) w h
 have c2 := fun w h => Valid_c b (digs M) w h
 have c3 := fun w h1 h2 => compare_c a b N M w h1 h2
 rw [vld_digs, decide_eq_true h1] at c1
 rw [vld_digs, decide_eq_true h2] at c2
 have C1 := Zh c1
 have C2 := Zh c2
 have C3 := Zh c3
 have HA := Zh ha
 have HB := Zh hb
 have hM0 : M ≠ 0 := fun e => by rw [e, len_zero] at h0; omega
 have hM32 : M < 4294967296 := by have := lt_Bp_len M; rw [h0, Bp_one] at this; exact this
 obtain ⟨r, hr⟩ : ∃ r, r = N % M := ⟨_, rfl⟩
 have c4 := fun W h => short_boxes a N M w W ha h1 (by omega) hM32 h
 rw [← hr] at c4 ⊢
 have C4 := Zh c4
 have hcmp : decide (cmp N M < 0) = false := decide_eq_false (by unfold cmp; rw [if_neg (by omega)]; split <;> omega)
 obtain ⟨bo, cb, rfl, b1, b2, hbc⟩ := hb.open
 obtain ⟨bb, boff, rfl, hbb, hbc2⟩ := hbc hM0
 have hbc3 := hbc2 0 (by omega)
 rw [Nat.add_zero] at hbc3
 have hd0 : dig M 0 = M := by rw [dig_zero]; omega
 rw [hd0] at hbc3
 rw [h0] at *
 have hQ : N / M < Bp (len N) := Nat.lt_of_le_of_lt (Nat.div_le_self _ _) (lt_Bp_len N)
 have hrm : r < 4294967296 := by have := Nat.mod_lt N (show 0 < M by omega); omega
 have HQ := Zh hQ
 have HN64 := Zh h1
 have HBC := Zh hbc3
 clear c4 hr hM0 h1 h2 h0 hl hbc2 hd0 hQ hbc hbc3
 clear c1 c2 c3 ha hb
 generalize cmp N M = R at *
 go_enter Tryz.func45, Tryz.ntmps45
 go_wp2_with fail
 refine (C1.out _ (HA.out.below' (below_four _ _ _ _ _))).mono ?_; rintro e w1 ⟨rfl, hb1⟩
 have z1 : w.heap.size + 3 < w1.heap.size := by have := hb1.size; simp at this; omega
 have B1 : Hid (Below w.heap.size w w1) := Zh ((below_four _ _ _ _ _).trans (hb1.mono (by simp; omega)))
 obtain ⟨x1, x2, x3, x4, x5, x6⟩ := box4 w a (.slice (some ⟨bb, boff, none⟩) 1 cb) (.slice none 0 0) (.slice none 0 0) 24 24 24 24
 have f1 := (hb1.cell (p := ⟨w.heap.size, 0, none⟩) (by simp; omega)).trans x1
 have f2 := (hb1.cell (p := ⟨w.heap.size + 1, 0, none⟩) (by simp)).trans x2
 have f3 := (hb1.cell (p := ⟨w.heap.size + 1 + 1, 0, none⟩) (by simp)).trans x3
 have f4 := (hb1.frozen (p := ⟨w.heap.size + 1 + 1, 0, none⟩) (by simp)).trans x4
 have f5 := (hb1.cell (p := ⟨w.heap.size + 1 + 1 + 1, 0, none⟩) (by simp)).trans x5
 have f6 := (hb1.frozen (p := ⟨w.heap.size + 1 + 1 + 1, 0, none⟩) (by simp)).trans x6
 clear x1 x2 x3 x4 x5 x6 hb1
 go_wp2_with fail
 refine (C2.out _ (HB.out.below' B1.out)).mono ?_; rintro e w2 ⟨rfl, hb2⟩
 have z2 : w.heap.size + 3 < w2.heap.size := by have := hb2.size; omega
 have B2 : Hid (Below w.heap.size w w2) := Zh (B1.out.trans (hb2.mono (by omega)))
 have g1 := (hb2.cell (p := ⟨w.heap.size, 0, none⟩) (by dsimp only; omega)).trans f1
 have g2 := (hb2.cell (p := ⟨w.heap.size + 1, 0, none⟩) (by dsimp only; omega)).trans f2
 have g3 := (hb2.cell (p := ⟨w.heap.size + 1 + 1, 0, none⟩) (by dsimp only; omega)).trans f3
 have g4 := (hb2.frozen (p := ⟨w.heap.size + 1 + 1, 0, none⟩) (by dsimp only; omega)).trans f4
 have g5 := (hb2.cell (p := ⟨w.heap.size + 1 + 1 + 1, 0, none⟩) (by dsimp only; omega)).trans f5
 have g6 := (hb2.frozen (p := ⟨w.heap.size + 1 + 1 + 1, 0, none⟩) (by dsimp only; omega)).trans f6
 clear hb2 f1 f2 f3 f4 f5 f6 z1 B1 C1 C2
 go_wp2_with fail
 refine (C3.out _ (HA.out.below' B2.out) (HB.out.below' B2.out)).mono ?_; rintro e w3 ⟨rfl, hq⟩
 have hb3 := hq.below w2.heap.size
 have z3 : w.heap.size + 3 < w3.heap.size := by have := hb3.size; omega
 have B3 : Hid (Below w.heap.size w w3) := Zh (B2.out.trans (hb3.mono (by omega)))
 have f1 := (hb3.cell (p := ⟨w.heap.size, 0, none⟩) (by dsimp only; omega)).trans g1
 have f2 := (hb3.cell (p := ⟨w.heap.size + 1, 0, none⟩) (by dsimp only; omega)).trans g2
 have f3 := (hb3.cell (p := ⟨w.heap.size + 1 + 1, 0, none⟩) (by dsimp only; omega)).trans g3
 have f4 := (hb3.frozen (p := ⟨w.heap.size + 1 + 1, 0, none⟩) (by dsimp only; omega)).trans g4
 have f5 := (hb3.cell (p := ⟨w.heap.size + 1 + 1 + 1, 0, none⟩) (by dsimp only; omega)).trans g5
 have f6 := (hb3.frozen (p := ⟨w.heap.size + 1 + 1 + 1, 0, none⟩) (by dsimp only; omega)).trans g6
 clear hb3 hq g1 g2 g3 g4 g5 g6 z2 B2 C3
 have FD : Boxes w w3 := ⟨B3.out, z3, f3, f4, f5, f6⟩
 have FH := Zh FD
 have hbd := (B3.out.cell (p := ⟨bb, boff, none⟩) hbb).trans HBC.out
 have hbs : bb < w3.heap.size := by omega
 go_wp2_with fail
 clear FD
 go_region_with (go_at_call 83; refine (C4.out _ FH.out.drew).mono ?_; rintro e w4 ⟨g, rfl, hO, hg, u⟩)
 all_goals
  have hO' := Zh hO.out
  clear f1 f2 f3 f4 f5 f6 hbd hbs C4
  obtain ⟨u1, u2, u3, u4, u5, u6⟩ := u.out
  clear u3 u4 u5 u6
  go_wp2_with fail
  refine (trimmed_boxes g _ w w4 hO.out (fill_words (dig_lt _)) _ (fill_length _ _ _) (by have := HN64.out; omega) (by omega) u.out).mono ?_
  rw [fill_val HQ.out]
  rintro e w5 ⟨a5, c5, rfl, hv5, hf5, ub5, _⟩
  have hs5 : w.heap.size + 3 < w5.heap.size := ub5.out.2.1
  go_wp2_with fail
  refine (trimmed_boxes w5.heap.size [r] w _ (Own.one _ _) (by intro u hu; simp at hu; omega) _ rfl (by simp) hs5 (ub5.out.on (below_one _ _))).mono ?_
  rw [show val [r] = r from by simp [val]]
  rintro e w6 ⟨a6, c6, rfl, hv6, hf6, ub6, hb6⟩
  have hv56 : Hid (NtU w6 (.slice a5 (len (N / M)) c5) (N / M)) := Zh (hv5.out.below' ((below_one _ _).trans (hb6.out.mono (by simp))))
  obtain ⟨u1, u2, u3, u4, u5, u6⟩ := ub6.out
  clear hv5 hb6 hs5
  go_wp2
  refine bodyPost_ret (v := .tuple #[.agg #[.slice a5 (len (N / M)) c5], .agg #[.slice a6 (len r) c6], .int .i64 0]) (by simp [results, Tryz.results45, go_sem, u3, u5]) rfl ⟨⟨_, _, Zh ⟨?_, (Fr.mono hf5.out (by omega)), ?_, (Fr.mono hf6.out (by omega))⟩, rfl⟩, ?_⟩
  ·exact (hv56.out.set hf5.out (by dsimp only; omega) _).set hf5.out (by dsimp only; omega) _
  ·exact (hv6.out.set hf6.out (by dsimp only; omega) _).set hf6.out (by dsimp only; omega) _
  ·exact (u1.setCell (by dsimp only; omega) _).setCell (by dsimp only; omega) _
end Nn
end Go.Proofs.YtikopkkebdobdaaGreatDoor

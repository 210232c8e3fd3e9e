/- Plain numbers: natural numbers as lists of words of 32 bits, the lowest one first. No program in sight. -/
namespace Go.Proofs.Ythphmgdmhlimjaa.NatMath
set_option linter.unusedVariables false

/-- 2^32 -/
abbrev B : Nat := 4294967296
/-- the powers of 2^32, behind a name -/
def Bp (i : Nat) : Nat := 4294967296 ^ i
theorem Bp_zero : Bp 0 = 1 := by unfold Bp; exact Nat.pow_zero _
theorem Bp_succ (i : Nat) : Bp (i + 1) = Bp i * 4294967296 := by unfold Bp; exact Nat.pow_succ _ _
theorem Bp_pos (i : Nat) : 0 < Bp i := by unfold Bp; exact Nat.pow_pos (by omega)
theorem Bp_add (i j : Nat) : Bp (i + j) = Bp i * Bp j := by unfold Bp; exact Nat.pow_add ..
theorem Bp_le {i j : Nat} (h : i ≤ j) : Bp i ≤ Bp j := by unfold Bp; exact Nat.pow_le_pow_right (by omega) h
theorem Bp_one : Bp 1 = 4294967296 := by unfold Bp; exact Nat.pow_one _

/-- the value of a list of words -/
def val : List Nat → Nat
  | [] => 0
  | u :: l => u + 4294967296 * val l
def words (l : List Nat) : Prop := ∀ u ∈ l, u < 4294967296
/-- the word with an index -/
def dig (n i : Nat) : Nat := n / Bp i % 4294967296

theorem words_cons {u : Nat} {l : List Nat} : words (u :: l) ↔ u < 4294967296 ∧ words l := by
  unfold words; simp
theorem words_nil : words [] := by intro u h; simp at h

theorem val_lt : ∀ {l : List Nat}, words l → val l < Bp l.length
  | [], _ => by simp [val, Bp_zero]
  | u :: l, h => by
    have h' := words_cons.1 h
    have := val_lt h'.2
    simp only [val, List.length_cons, Bp_succ]
    omega

theorem dig_zero (n : Nat) : dig n 0 = n % 4294967296 := by unfold dig; rw [Bp_zero, Nat.div_one]
theorem dig_lt (n i : Nat) : dig n i < 4294967296 := Nat.mod_lt _ (by omega)
theorem dig_succ (n i : Nat) : dig n (i + 1) = dig (n / 4294967296) i := by
  unfold dig; rw [Bp_succ, Nat.mul_comm, Nat.div_div_eq_div_mul]
/-- the part above an index, by its lowest word -/
theorem div_step (n i : Nat) : n / Bp i = n / Bp (i + 1) * 4294967296 + dig n i := by
  unfold dig; rw [Bp_succ, ← Nat.div_div_eq_div_mul]
  have := Nat.div_add_mod (n / Bp i) 4294967296
  omega

theorem dig_val : ∀ {l : List Nat}, words l → ∀ i, l.getD i 0 = dig (val l) i
  | [], _, i => by simp [val, dig]
  | u :: l, h, 0 => by
    have h' := words_cons.1 h
    rw [dig_zero]; simp only [val, List.getD_cons_zero]; omega
  | u :: l, h, i + 1 => by
    have h' := words_cons.1 h
    rw [dig_succ, List.getD_cons_succ, dig_val h'.2 i]
    congr 1
    simp only [val]; omega

/-- the words of a number, without zeros at the end -/
def digs (n : Nat) : List Nat := if h : n = 0 then [] else (n % 4294967296) :: digs (n / 4294967296)
termination_by n
decreasing_by omega

theorem digs_zero : digs 0 = [] := by rw [digs]; simp
theorem digs_pos {n : Nat} (h : n ≠ 0) : digs n = (n % 4294967296) :: digs (n / 4294967296) := by rw [digs]; simp [h]

theorem val_digs (n : Nat) : val (digs n) = n := by
  induction n using Nat.strongRecOn with
  | _ n ih =>
    by_cases h : n = 0
    · subst h; rw [digs_zero]; rfl
    · rw [digs_pos h]; simp only [val]; rw [ih _ (by omega)]; omega

theorem words_digs (n : Nat) : words (digs n) := by
  induction n using Nat.strongRecOn with
  | _ n ih =>
    by_cases h : n = 0
    · subst h; rw [digs_zero]; exact words_nil
    · rw [digs_pos h]; exact words_cons.2 ⟨by omega, ih _ (by omega)⟩

/-- the number of words -/
def len (n : Nat) : Nat := (digs n).length
theorem len_zero : len 0 = 0 := by unfold len; rw [digs_zero]; rfl
theorem len_pos {n : Nat} (h : n ≠ 0) : len n = len (n / 4294967296) + 1 := by unfold len; rw [digs_pos h]; rfl
theorem len_eq_zero {n : Nat} : len n = 0 ↔ n = 0 := by
  constructor
  · intro h; by_cases h0 : n = 0; exact h0; rw [len_pos h0] at h; omega
  · rintro rfl; exact len_zero
theorem lt_Bp_len (n : Nat) : n < Bp (len n) := by have := val_lt (words_digs n); rwa [val_digs] at this
theorem Bp_len_le {n : Nat} (h : n ≠ 0) : Bp (len n - 1) ≤ n := by
  induction n using Nat.strongRecOn with
  | _ n ih =>
    rw [len_pos h, Nat.add_sub_cancel]
    by_cases h2 : n / 4294967296 = 0
    · rw [h2, len_zero, Bp_zero]; omega
    · have := ih (n / 4294967296) (by omega) h2
      rw [show len (n / 4294967296) = len (n / 4294967296) - 1 + 1 by have := len_pos h2; omega, Bp_succ]
      omega
theorem len_le_iff {n k : Nat} : len n ≤ k ↔ n < Bp k := by
  constructor
  · intro h; exact Nat.lt_of_lt_of_le (lt_Bp_len n) (Bp_le h)
  · intro h
    by_cases h0 : n = 0
    · subst h0; rw [len_zero]; omega
    · have h1 := Bp_len_le h0
      apply Nat.le_of_not_lt; intro h2
      have := Bp_le (show k ≤ len n - 1 by omega)
      omega
theorem dig_digs (n i : Nat) : (digs n).getD i 0 = dig n i := by rw [dig_val (words_digs n), val_digs]
theorem dig_top {n : Nat} (h : n ≠ 0) : dig n (len n - 1) ≠ 0 := by
  have h1 := Bp_len_le h
  have h2 := lt_Bp_len n
  have h3 : len n ≠ 0 := fun e => h (len_eq_zero.1 e)
  have h4 := div_step n (len n - 1)
  rw [show len n - 1 + 1 = len n by omega, Nat.div_eq_of_lt h2] at h4
  have h5 : 0 < n / Bp (len n - 1) := Nat.div_pos h1 (Bp_pos _)
  omega

/-- a list without a zero at its end is what digs gives -/
def normal (l : List Nat) : Prop := l = [] ∨ l.getD (l.length - 1) 0 ≠ 0
theorem normal_digs (n : Nat) : normal (digs n) := by
  by_cases h : n = 0
  · left; rw [h, digs_zero]
  · right; rw [dig_digs]; exact dig_top h
theorem len_of_normal {l : List Nat} (hw : words l) (hn : normal l) : len (val l) = l.length := by
  have h1 := val_lt hw
  have h2 : len (val l) ≤ l.length := len_le_iff.2 h1
  rcases hn with rfl | hn
  · simp [val, len_zero]
  · apply Nat.le_antisymm h2
    apply Nat.le_of_not_lt; intro h3
    rw [dig_val hw] at hn
    apply hn
    unfold dig
    rw [Nat.div_eq_of_lt (len_le_iff.1 (show len (val l) ≤ l.length - 1 by omega))]
theorem list_ext_getD {l m : List Nat} (h : l.length = m.length) (he : ∀ i, i < l.length → l.getD i 0 = m.getD i 0) : l = m := by
  apply List.ext_getElem h
  intro i h1 h2
  have := he i h1
  simpa [List.getD_eq_getElem?_getD, List.getElem?_eq_getElem h1, List.getElem?_eq_getElem h2] using this
theorem digs_val {l : List Nat} (hw : words l) (hn : normal l) : digs (val l) = l := by
  apply list_ext_getD
  · exact len_of_normal hw hn
  · intro i _; rw [dig_digs, dig_val hw]

/-- numbers of as many words are equal if all words are -/
theorem eq_of_digs {n m k : Nat} (hn : n < Bp k) (hm : m < Bp k) (h : ∀ i, i < k → dig n i = dig m i) : n = m := by
  induction k generalizing n m with
  | zero => rw [Bp_zero] at *; omega
  | succ k ih =>
    have h0 := h 0 (by omega)
    rw [dig_zero, dig_zero] at h0
    have : n / 4294967296 = m / 4294967296 := by
      apply ih
      · rw [Bp_succ] at hn; omega
      · rw [Bp_succ] at hm; omega
      · intro i hi; rw [← dig_succ, ← dig_succ]; exact h (i + 1) (by omega)
    omega

/-- the order, as an int -/
def cmp (n m : Nat) : Int := if n < m then -1 else if m < n then 1 else 0

/-- comparing from the highest word on -/
theorem cmp_lt {n m i : Nat} (h : n / Bp (i + 1) = m / Bp (i + 1)) (hd : dig n i < dig m i) : n < m := by
  have h1 := div_step n i
  have h2 := div_step m i
  apply Nat.lt_of_not_le; intro h3
  have := Nat.div_le_div_right (c := Bp i) h3
  omega
theorem cmp_eq_step {n m i : Nat} (h : n / Bp (i + 1) = m / Bp (i + 1)) (hd : dig n i = dig m i) : n / Bp i = m / Bp i := by
  rw [div_step n i, div_step m i, h, hd]
theorem cmp_len {n m : Nat} (h : len n < len m) : n < m := by
  have h1 := lt_Bp_len n
  have h2 : m ≠ 0 := fun e => by rw [e, len_zero] at h; omega
  have := Bp_len_le h2
  have := Bp_le (show len n ≤ len m - 1 by omega)
  omega

theorem val_append : ∀ (l m : List Nat), val (l ++ m) = val l + Bp l.length * val m
  | [], m => by simp [val, Bp_zero]
  | u :: l, m => by
    simp only [List.cons_append, val, val_append l m, List.length_cons, Bp_succ]
    rw [Nat.mul_add, ← Nat.mul_assoc, Nat.mul_comm 4294967296 (Bp _)]
    omega
theorem take_snoc {l : List Nat} {k : Nat} (h : k < l.length) : l.take (k + 1) = l.take k ++ [l.getD k 0] := by
  rw [List.take_succ_eq_append_getElem h, List.getD_eq_getElem?_getD, List.getElem?_eq_getElem h]; rfl
/-- a zero word at the end adds nothing -/
theorem val_take_zero {l : List Nat} {k : Nat} (h : k < l.length) (hz : l.getD k 0 = 0) : val (l.take k) = val (l.take (k + 1)) := by
  rw [take_snoc h, val_append, hz]; simp [val]
theorem words_take {l : List Nat} (h : words l) (k : Nat) : words (l.take k) := fun u hu => h u (List.mem_of_mem_take hu)
theorem getD_take {l : List Nat} {k i : Nat} (h : i < k) : (l.take k).getD i 0 = l.getD i 0 := by
  simp [List.getD_eq_getElem?_getD, h]
/-- what is left when no zero is at the end -/
theorem digs_take {l : List Nat} {k : Nat} (hw : words l) (hk : k ≤ l.length) (hv : val (l.take k) = val l) (hn : k = 0 ∨ l.getD (k - 1) 0 ≠ 0) : digs (val l) = l.take k := by
  rw [← hv]
  apply digs_val (words_take hw k)
  have hlen : (l.take k).length = k := by rw [List.length_take]; omega
  rcases hn with rfl | hn
  · left; simp
  · by_cases h0 : k = 0
    · subst h0; left; simp
    · right; rw [hlen, getD_take (by omega)]; exact hn

/-! ### a list that is filled from the lowest word on -/

def fill (f : Nat → Nat) (k n : Nat) : List Nat := (List.range n).map fun i => if i < k then f i else 0
theorem fill_length (f : Nat → Nat) (k n : Nat) : (fill f k n).length = n := by simp [fill]
theorem fill_zero (f : Nat → Nat) (n : Nat) : fill f 0 n = List.replicate n 0 := by
  apply List.ext_getElem
  · simp [fill]
  · intro i h1 h2; simp [fill]
theorem fill_getD {f : Nat → Nat} {k n i : Nat} (h : i < n) : (fill f k n).getD i 0 = if i < k then f i else 0 := by
  simp [fill, h]
theorem fill_set (f : Nat → Nat) {k n : Nat} (h : k < n) : (fill f k n).set k (f k) = fill f (k + 1) n := by
  apply List.ext_getElem
  · simp [fill]
  · intro i h1 h2
    simp only [fill, List.getElem_set, List.getElem_map, List.getElem_range]
    by_cases e : k = i
    · subst e; simp
    · rw [if_neg e]
      by_cases h3 : i < k
      · rw [if_pos h3, if_pos (by omega)]
      · rw [if_neg h3, if_neg (by omega)]
theorem fill_words {f : Nat → Nat} {k n : Nat} (h : ∀ i, f i < 4294967296) : words (fill f k n) := by
  intro u hu
  simp only [fill, List.mem_map, List.mem_range] at hu
  obtain ⟨i, _, rfl⟩ := hu
  split
  · exact h i
  · omega
theorem fill_val {S n : Nat} (h : S < Bp n) : val (fill (dig S) n n) = S := by
  have hw : words (fill (dig S) n n) := fill_words (dig_lt S)
  have hl := val_lt hw
  rw [fill_length] at hl
  refine eq_of_digs hl h (fun i hi => ?_)
  rw [← dig_val hw, fill_getD hi, if_pos hi]

/-! ### sums -/

/-- the carry below an index -/
def car (X Y k : Nat) : Nat := (X % Bp k + Y % Bp k) / Bp k
theorem car_zero (X Y : Nat) : car X Y 0 = 0 := by unfold car; rw [Bp_zero]; omega
theorem car_le (X Y k : Nat) : car X Y k ≤ 1 := by
  unfold car
  have h1 := Nat.mod_lt X (Bp_pos k)
  have h2 := Nat.mod_lt Y (Bp_pos k)
  have : (X % Bp k + Y % Bp k) / Bp k < 2 := by rw [Nat.div_lt_iff_lt_mul (Bp_pos k)]; omega
  omega
theorem mod_step (X k : Nat) : X % Bp (k + 1) = Bp k * dig X k + X % Bp k := by
  unfold dig
  rw [Bp_succ, Nat.mod_mul]
  omega
theorem car_step (X Y k : Nat) : car X Y (k + 1) = (dig X k + dig Y k + car X Y k) / 4294967296 := by
  unfold car
  rw [mod_step, mod_step, Bp_succ, ← Nat.div_div_eq_div_mul]
  congr 1
  rw [show Bp k * dig X k + X % Bp k + (Bp k * dig Y k + Y % Bp k) = X % Bp k + Y % Bp k + Bp k * (dig X k + dig Y k) by rw [Nat.mul_add]; omega, Nat.add_mul_div_left _ _ (Bp_pos k)]
  omega
theorem dig_add (X Y k : Nat) : dig (X + Y) k = (dig X k + dig Y k + car X Y k) % 4294967296 := by
  have h1 := Nat.div_add_mod X (Bp k)
  have h2 := Nat.div_add_mod Y (Bp k)
  have e : (X + Y) / Bp k = X / Bp k + Y / Bp k + car X Y k := by
    unfold car
    conv => lhs; rw [← h1, ← h2]
    rw [show Bp k * (X / Bp k) + X % Bp k + (Bp k * (Y / Bp k) + Y % Bp k) = X % Bp k + Y % Bp k + Bp k * (X / Bp k + Y / Bp k) by rw [Nat.mul_add]; omega, Nat.add_mul_div_left _ _ (Bp_pos k)]
    omega
  unfold dig
  rw [e]; omega
/-- the last carry is the highest word of the sum -/
theorem car_last {X Y n : Nat} (hX : X < Bp n) (hY : Y < Bp n) : dig (X + Y) n = car X Y n := by
  rw [dig_add]
  have : dig X n = 0 := by unfold dig; rw [Nat.div_eq_of_lt hX]
  have : dig Y n = 0 := by unfold dig; rw [Nat.div_eq_of_lt hY]
  have := car_le X Y n
  omega
theorem dig_above {Y i : Nat} (h : len Y ≤ i) : dig Y i = 0 := by
  unfold dig; rw [Nat.div_eq_of_lt (len_le_iff.1 h)]

/-! ### differences -/

/-- the borrow below an index -/
def bor (X Y k : Nat) : Nat := if X % Bp k < Y % Bp k then 1 else 0
theorem bor_zero (X Y : Nat) : bor X Y 0 = 0 := by unfold bor; rw [Bp_zero, Nat.mod_one, Nat.mod_one]; rfl
theorem bor_le (X Y k : Nat) : bor X Y k ≤ 1 := by unfold bor; split <;> omega
theorem bor_step (X Y k : Nat) : bor X Y (k + 1) = if dig X k < dig Y k + bor X Y k then 1 else 0 := by
  unfold bor
  rw [mod_step, mod_step]
  have h1 := Nat.mod_lt X (Bp_pos k)
  have h2 := Nat.mod_lt Y (Bp_pos k)
  generalize X % Bp k = x at *
  generalize Y % Bp k = y at *
  generalize dig X k = dx
  generalize dig Y k = dy
  generalize Bp k = P at *
  rcases Nat.lt_trichotomy dx dy with h | h | h
  · have := Nat.mul_le_mul_left P (show dx + 1 ≤ dy from h)
    rw [Nat.mul_add] at this
    rw [if_pos (by omega), if_pos (by split <;> omega)]
  · subst h
    by_cases hxy : x < y
    · rw [if_pos (by omega), if_pos hxy, if_pos (by omega)]
    · rw [if_neg (by omega), if_neg hxy, if_neg (by omega)]
  · have := Nat.mul_le_mul_left P (show dy + 1 ≤ dx from h)
    rw [Nat.mul_add] at this
    rw [if_neg (by omega), if_neg (by split <;> omega)]
theorem sub_div (X Y k : Nat) (h : Y ≤ X) : (X - Y) / Bp k + Y / Bp k + bor X Y k = X / Bp k := by
  unfold bor
  have h1 := Nat.mod_lt X (Bp_pos k)
  have h2 := Nat.mod_lt Y (Bp_pos k)
  have e1 := Nat.div_add_mod X (Bp k)
  have e2 := Nat.div_add_mod Y (Bp k)
  have hP := Bp_pos k
  generalize X % Bp k = x at *
  generalize Y % Bp k = y at *
  generalize X / Bp k = qx at *
  generalize Y / Bp k = qy at *
  generalize Bp k = P at *
  by_cases hxy : x < y
  · rw [if_pos hxy]
    have hq : qy < qx := by
      apply Nat.lt_of_not_le; intro hh
      have := Nat.mul_le_mul_left P hh
      omega
    have hm : P * qx = P * (qx - qy - 1) + P * qy + P := by
      have : qx = (qx - qy - 1) + qy + 1 := by omega
      conv => lhs; rw [this]
      rw [Nat.mul_add, Nat.mul_add, Nat.mul_one]
    have : X - Y = (P + x - y) + P * (qx - qy - 1) := by omega
    rw [this, Nat.add_mul_div_left _ _ hP, Nat.div_eq_of_lt (by omega)]
    omega
  · rw [if_neg hxy]
    have hq : qy ≤ qx := by
      apply Nat.le_of_not_lt; intro hh
      have := Nat.mul_le_mul_left P (show qx + 1 ≤ qy from hh)
      rw [Nat.mul_add] at this
      omega
    have hm : P * qx = P * (qx - qy) + P * qy := by
      have : qx = (qx - qy) + qy := by omega
      conv => lhs; rw [this]
      rw [Nat.mul_add]
    have : X - Y = (x - y) + P * (qx - qy) := by omega
    rw [this, Nat.add_mul_div_left _ _ hP, Nat.div_eq_of_lt (by omega)]
    omega
theorem dig_sub (X Y k : Nat) (h : Y ≤ X) : dig (X - Y) k = (dig X k + 8589934592 - dig Y k - bor X Y k) % 4294967296 := by
  have := sub_div X Y k h
  have := bor_le X Y k
  unfold dig
  omega

end Go.Proofs.Ythphmgdmhlimjaa.NatMath

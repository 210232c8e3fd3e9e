/- Merged: NnModMath, NnModEnv, NnMod1, NnMod2, NnMod3. -/
import Derived.Test.YtinlfogpbologaaDoorNnA1
import Derived.Test.YtinlfogpbologaaDoorNnA3
import Derived.Test.YtinlfogpbologaaDoorReg2
import Derived.Deep.LoopGhost
/- Plain numbers for package natmod: sizes, and Euclid's algorithm with an inverse. No program in sight. -/
namespace Go.Proofs.YtinlfogpbologaaDoor.Nn.NatMath
set_option linter.unusedVariables false

theorem len_le_of_le {a b : Nat} (h : a ≤ b) : len a ≤ len b := len_le_iff.2 (Nat.lt_of_le_of_lt h (lt_Bp_len b))
theorem len_le_of_lt {a b k : Nat} (h : a < b) (hb : len b ≤ k) : len a ≤ k := Nat.le_trans (len_le_of_le (Nat.le_of_lt h)) hb
theorem len_add_le {a b j k : Nat} (ha : len a ≤ j) (hb : len b ≤ j) (hk : j < k) : len (a + b) ≤ k := by
  have h1 := len_le_iff.1 ha
  have h2 := len_le_iff.1 hb
  have h3 : Bp (j + 1) ≤ Bp k := Bp_le hk
  rw [Bp_succ] at h3
  exact len_le_iff.2 (by omega)
theorem len_mul_le {a b i j k : Nat} (ha : len a ≤ i) (hb : len b ≤ j) (hk : i + j ≤ k) : len (a * b) ≤ k := by
  have h1 := len_le_iff.1 ha
  have h2 := len_le_iff.1 hb
  have h3 : Bp (i + j) ≤ Bp k := Bp_le hk
  rw [Bp_add] at h3
  exact len_le_iff.2 (Nat.lt_of_lt_of_le (Nat.mul_lt_mul'' h1 h2) h3)
theorem len_one : len 1 = 1 := by rw [len_pos (by decide)]; rw [show 1 / 4294967296 = 0 from rfl, len_zero]
theorem len_le_bits {n k : Nat} : bl n ≤ 32 * k ↔ len n ≤ k := len_bl.symm
theorem cmp_lt_iff (a b : Nat) : decide (cmp a b < 0) = decide (a < b) := by
  unfold cmp; split
  · rename_i h; rw [decide_eq_true h]; rfl
  · rename_i h; rw [decide_eq_false h]; split <;> rfl
theorem cmp_zero_iff (a b : Nat) : (cmp a b == 0) = decide (a = b) := by
  unfold cmp; split
  · rename_i h; rw [decide_eq_false (by omega)]; rfl
  · split
    · rename_i h; rw [decide_eq_false (by omega)]; rfl
    · rename_i h1 h2; rw [decide_eq_true (by omega)]; rfl

/-- the difference of residues modulo m -/
def subm (a b m : Nat) : Nat := if a < b then a + m - b else a - b
theorem subm_lt {a b m : Nat} (ha : a < m) (hb : b < m) : subm a b m < m := by unfold subm; split <;> omega
theorem subm_cong {a b m : Nat} (hb : b < m) : (m : Int) ∣ (subm a b m : Int) - (a - b) := by
  unfold subm; split
  · exact ⟨1, by omega⟩
  · exact ⟨0, by omega⟩
theorem subm_mod {a b m : Nat} (ha : a < m) (hb : b < m) : (subm a b m + b) % m = a := by
  unfold subm; split
  · rw [show a + m - b + b = a + m from by omega, Nat.add_mod_right, Nat.mod_eq_of_lt ha]
  · rw [show a - b + b = a from by omega, Nat.mod_eq_of_lt ha]

/-- Euclid's algorithm as both texts run it: the last remainder, and its factor -/
def inv (m : Nat) (r s x y : Nat) : Nat × Nat := if h : s = 0 then (x, r) else inv m s (r % s) y (subm x (r / s % m * y % m) m)
termination_by s
decreasing_by exact Nat.mod_lt _ (Nat.pos_of_ne_zero h)
theorem inv_zero (m r x y : Nat) : inv m r 0 x y = (x, r) := by rw [inv]; simp
theorem inv_pos (m r x y : Nat) {s : Nat} (h : s ≠ 0) : inv m r s x y = inv m s (r % s) y (subm x (r / s % m * y % m) m) := by
  conv => lhs; rw [inv]
  simp [h]
/-- each remainder is congruent to its factor times a -/
def InvI (a m r s x y : Nat) : Prop := x < m ∧ y < m ∧ (m : Int) ∣ (a : Int) * x - r ∧ (m : Int) ∣ (a : Int) * y - s ∧ Nat.gcd r s = Nat.gcd a m
theorem InvI.start {a m : Nat} (hm : m ≠ 0) : InvI a m m a 0 (1 % m) := by
  refine ⟨by omega, Nat.mod_lt _ (by omega), ⟨-1, by simp⟩, ?_, Nat.gcd_comm _ _⟩
  have h := Int.emod_add_mul_ediv 1 (m : Int)
  refine ⟨-(a : Int) * (1 / (m : Int)), ?_⟩
  have h2 : ((1 % m : Nat) : Int) = 1 % (m : Int) := Int.natCast_emod 1 m
  rw [h2]
  have h3 : (1 : Int) % m = 1 - m * (1 / m) := by omega
  rw [h3]; grind
theorem InvI.step {a m r s x y : Nat} (h : InvI a m r s x y) (hs : s ≠ 0) : InvI a m s (r % s) y (subm x (r / s % m * y % m) m) := by
  obtain ⟨h1, h2, h3, h4, h5⟩ := h
  have hm : 0 < m := by omega
  have hz : r / s % m * y % m < m := Nat.mod_lt _ hm
  refine ⟨h2, subm_lt h1 hz, h4, ?_, ?_⟩
  · obtain ⟨c, hc⟩ := @subm_cong x (r / s % m * y % m) m hz
    obtain ⟨d, hd⟩ := h3
    obtain ⟨e, he⟩ := h4
    have e1 : ((r % s : Nat) : Int) = (r : Int) - s * ((r / s : Nat) : Int) := by
      have := Nat.div_add_mod r s
      have h2 : ((s * (r / s) + r % s : Nat) : Int) = (r : Int) := by rw [this]
      simp only [Int.natCast_add, Int.natCast_mul] at h2; omega
    have e2 : ((r / s % m * y % m : Nat) : Int) = ((r / s % m * y : Nat) : Int) - m * ((r / s % m * y / m : Nat) : Int) := by
      have := Nat.div_add_mod (r / s % m * y) m
      have h2 : ((m * (r / s % m * y / m) + r / s % m * y % m : Nat) : Int) = ((r / s % m * y : Nat) : Int) := by rw [this]
      simp only [Int.natCast_add, Int.natCast_mul] at h2 ⊢; omega
    have e3 : ((r / s % m : Nat) : Int) = ((r / s : Nat) : Int) - m * ((r / s / m : Nat) : Int) := by
      have := Nat.div_add_mod (r / s) m
      have h2 : ((m * (r / s / m) + r / s % m : Nat) : Int) = ((r / s : Nat) : Int) := by rw [this]
      simp only [Int.natCast_add, Int.natCast_mul] at h2 ⊢; omega
    rw [e1]
    rw [Int.natCast_mul] at e2
    generalize ((r / s % m * y / m : Nat) : Int) = u at *
    generalize ((r / s / m : Nat) : Int) = v at *
    generalize ((r / s : Nat) : Int) = q at *
    generalize ((r / s % m : Nat) : Int) = t at *
    generalize ((r / s % m * y % m : Nat) : Int) = z at *
    generalize ((subm x (r / s % m * y % m) m : Nat) : Int) = k at *
    subst e3
    subst e2
    refine ⟨a * c + d - e * q + a * u + a * v * y, ?_⟩
    grind
  · rw [← h5, Nat.gcd_comm s (r % s), ← Nat.gcd_rec, Nat.gcd_comm]
theorem inv_spec {a m : Nat} (s : Nat) : ∀ (r x y : Nat), InvI a m r s x y → (inv m r s x y).1 < m ∧ (inv m r s x y).2 = Nat.gcd a m ∧ (m : Int) ∣ (a : Int) * (inv m r s x y).1 - (inv m r s x y).2 := by
  induction s using Nat.strongRecOn with
  | _ s ih =>
    intro r x y h
    by_cases hs : s = 0
    · subst hs
      rw [inv_zero]
      refine ⟨h.1, ?_, h.2.2.1⟩
      have := h.2.2.2.2
      rw [Nat.gcd_zero_right] at this
      exact this
    · rw [inv_pos _ _ _ _ hs]
      exact ih _ (Nat.mod_lt _ (by omega)) _ _ _ (h.step hs)
/-- the inverse as it is computed, and whether there is one -/
def invV (a m : Nat) : Nat := (inv m m a 0 (1 % m)).1
def invG (a m : Nat) : Nat := (inv m m a 0 (1 % m)).2
theorem invG_eq {a m : Nat} (hm : m ≠ 0) : invG a m = Nat.gcd a m := (inv_spec a m 0 (1 % m) (InvI.start hm)).2.1
theorem invV_lt {a m : Nat} (hm : m ≠ 0) : invV a m < m := (inv_spec a m 0 (1 % m) (InvI.start hm)).1
theorem invV_mul {a m : Nat} (hm : m ≠ 0) (hg : Nat.gcd a m = 1) : a * invV a m % m = 1 % m := by
  have h := (inv_spec a m 0 (1 % m) (InvI.start hm)).2.2
  rw [(inv_spec a m 0 (1 % m) (InvI.start hm)).2.1, hg] at h
  have h2 := Int.emod_eq_emod_iff_emod_sub_eq_zero.2 (Int.emod_eq_zero_of_dvd h)
  have h3 : ((a * invV a m : Nat) : Int) % (m : Int) = ((1 : Nat) : Int) % (m : Int) := by
    rw [Int.natCast_mul]; exact h2
  rw [← Int.natCast_emod, ← Int.natCast_emod] at h3
  exact Int.ofNat.inj h3
/-- powers, bit by bit from the highest one -/
theorem powm_step (N E K j : Nat) : ((if bt E j = true then N ^ (E / 2 ^ (j + 1)) % K * (N ^ (E / 2 ^ (j + 1)) % K) % K * N % K else N ^ (E / 2 ^ (j + 1)) % K * (N ^ (E / 2 ^ (j + 1)) % K) % K)) = N ^ (E / 2 ^ j) % K := by
  have e1 : E / 2 ^ (j + 1) = E / 2 ^ j / 2 := by rw [Nat.pow_succ, Nat.div_div_eq_div_mul]
  unfold bt
  rw [e1]
  generalize E / 2 ^ j = h
  have e2 : N ^ (h / 2) % K * (N ^ (h / 2) % K) % K = N ^ (h / 2 + h / 2) % K := by rw [← Nat.mul_mod, ← Nat.pow_add]
  rw [e2]
  by_cases hh : h % 2 = 1
  · rw [if_pos (by simpa using hh), Nat.mul_mod, Nat.mod_mod, ← Nat.mul_mod, ← Nat.pow_succ, show (h / 2 + h / 2).succ = h from by omega]
  · rw [if_neg (by simpa using hh), show h / 2 + h / 2 = h from by omega]
theorem powm_start (N E K : Nat) : N ^ (E / 2 ^ bl E) % K = 1 % K := by rw [Nat.div_eq_of_lt (lt_two_bl E), Nat.pow_zero]
/-- the greatest common divisor as it is computed -/
theorem gcd_step {a b : Nat} : Nat.gcd a b = Nat.gcd b (a % b) := by rw [Nat.gcd_comm b, ← Nat.gcd_rec, Nat.gcd_comm]
end Go.Proofs.YtinlfogpbologaaDoor.Nn.NatMath


/- What a walk holds: its own boxes (with their marks), and the slices that read as known words; boxes may be stored into. -/
namespace Go.Proofs.YtinlfogpbologaaDoor
namespace Nn
open Go.RowKit NatMath
set_option linter.unusedVariables false

def HeldN : List (Value × List Nat) → World → Prop
  | [], _ => True
  | (v, l) :: G, W => Sl W v l ∧ HeldN G W
theorem HeldN.below {G : List (Value × List Nat)} {W W' : World} (h : HeldN G W) (hb : Below W.heap.size W W') : HeldN G W' := by
  induction G with
  | nil => exact trivial
  | cons p G ih => exact ⟨h.1.below' hb, ih h.2⟩
theorem HeldN.get {G : List (Value × List Nat)} {W : World} (h : HeldN G W) : ∀ (i : Nat) {v : Value} {l : List Nat}, G[i]? = some (v, l) → Sl W v l := by
  induction G with
  | nil => intro i v l e; simp at e
  | cons p G ih =>
    intro i v l e
    rcases i with _ | i
    · simp only [List.getElem?_cons_zero, Option.some.injEq] at e
      subst e; exact h.1
    · exact ih h.2 i (by simpa using e)
/-- a slice value -/
def IsSl (v : Value) : Prop := ∃ ao n c, v = .slice ao n c
/-- a box: block g holds the slice value v, and may be written to -/
def BoxAt (B : Nat) (g : Nat) (v : Value) (W : World) : Prop := W.cell? ⟨g, 0, none⟩ = some v ∧ W.frozen? ⟨g, 0, none⟩ = false ∧ g < W.heap.size ∧ B ≤ g ∧ IsSl v
theorem BoxAt.below {B g : Nat} {v : Value} {W W' : World} (h : BoxAt B g v W) (hb : Below W.heap.size W W') : BoxAt B g v W' :=
  ⟨(hb.cell (p := ⟨g, 0, none⟩) h.2.2.1).trans h.1, (hb.frozen (p := ⟨g, 0, none⟩) h.2.2.1).trans h.2.1, Nat.lt_of_lt_of_le h.2.2.1 hb.size, h.2.2.2⟩
def HeldB (B : Nat) : List (Nat × Value) → World → Prop
  | [], _ => True
  | (g, v) :: F, W => BoxAt B g v W ∧ (∀ p ∈ F, p.1 ≠ g) ∧ HeldB B F W
theorem HeldB.below {B : Nat} {F : List (Nat × Value)} {W W' : World} (h : HeldB B F W) (hb : Below W.heap.size W W') : HeldB B F W' := by
  induction F with
  | nil => exact trivial
  | cons p F ih => exact ⟨h.1.below hb, h.2.1, ih h.2.2⟩
theorem HeldB.old {B : Nat} {F : List (Nat × Value)} {W : World} (h : HeldB B F W) : ∀ p ∈ F, p.1 < W.heap.size := by
  induction F with
  | nil => intro p hp; cases hp
  | cons q F ih =>
    intro p hp
    rcases List.mem_cons.1 hp with rfl | hp
    · exact h.1.2.2.1
    · exact ih h.2.2 p hp
theorem HeldB.get {B : Nat} {F : List (Nat × Value)} {W : World} (h : HeldB B F W) : ∀ (i : Nat) {g : Nat} {v : Value}, F[i]? = some (g, v) → BoxAt B g v W := by
  induction F with
  | nil => intro i g v e; simp at e
  | cons p F ih =>
    intro i g v e
    rcases i with _ | i
    · simp only [List.getElem?_cons_zero, Option.some.injEq] at e
      subst e; exact h.1
    · exact ih h.2.2 i (by simpa using e)
theorem BoxAt.setOther {B g k : Nat} {u v : Value} {W : World} (h : BoxAt B k u W) (hne : k ≠ g) : BoxAt B k u (W.setCell ⟨g, 0, none⟩ v) :=
  ⟨(World.cell?_setCell_other _ _ _ _ (fun e => hne (by simp only [Addr.mk.injEq] at e; exact e.1.symm))).trans h.1, (World.frozen?_setCell _ _ _ _).trans h.2.1, by simpa using h.2.2.1, h.2.2.2⟩
theorem BoxAt.setSame {B g : Nat} {u v : Value} {W : World} (h : BoxAt B g u W) (hv : IsSl v) : BoxAt B g v (W.setCell ⟨g, 0, none⟩ v) :=
  ⟨World.cell?_setCell_same' _ _ _ (by rw [h.1]; rfl), (World.frozen?_setCell _ _ _ _).trans h.2.1, by simpa using h.2.2.1, h.2.2.2.1, hv⟩
theorem Sl.setBox {B g : Nat} {u v x : Value} {l : List Nat} {W : World} (h : Sl W x l) (hb : BoxAt B g u W) : Sl (W.setCell ⟨g, 0, none⟩ v) x l := by
  obtain ⟨ao, cap, h1, h2, h3, h4, h5, h6⟩ := h
  refine ⟨ao, cap, h1, h2, h3, h4, fun hl => ?_, h6⟩
  obtain ⟨b, off, k1, k2, k3⟩ := h5 hl
  refine ⟨b, off, k1, by simpa using k2, fun i hi => ?_⟩
  refine (World.cell?_setCell_other _ _ _ _ (fun e => ?_)).trans (k3 i hi)
  have h7 := k3 i hi
  rw [← e, hb.1] at h7
  obtain ⟨_, _, _, hs⟩ := hb.2.2.2.2
  rw [hs] at h7
  cases h7
theorem HeldN.setBox {B g : Nat} {u v : Value} {G : List (Value × List Nat)} {W : World} (h : HeldN G W) (hb : BoxAt B g u W) : HeldN G (W.setCell ⟨g, 0, none⟩ v) := by
  induction G with
  | nil => exact trivial
  | cons p G ih => exact ⟨h.1.setBox hb, ih h.2⟩
theorem HeldB.setAway {B g : Nat} {v : Value} {F : List (Nat × Value)} {W : World} (h : HeldB B F W) (hne : ∀ p ∈ F, p.1 ≠ g) : HeldB B F (W.setCell ⟨g, 0, none⟩ v) := by
  induction F with
  | nil => exact trivial
  | cons p F ih => exact ⟨h.1.setOther (hne p (by simp)), h.2.1, ih h.2.2 (fun q hq => hne q (by simp [hq]))⟩
theorem HeldB.set {B : Nat} {F : List (Nat × Value)} {W : World} (h : HeldB B F W) : ∀ (i : Nat) {g : Nat} {u : Value} (v : Value), F[i]? = some (g, u) → IsSl v → HeldB B (F.set i (g, v)) (W.setCell ⟨g, 0, none⟩ v) := by
  induction F with
  | nil => intro i g u v e; simp at e
  | cons p F ih =>
    intro i g u v e hv
    rcases i with _ | i
    · simp only [List.getElem?_cons_zero, Option.some.injEq] at e
      subst e
      exact ⟨h.1.setSame hv, h.2.1, h.2.2.setAway h.2.1⟩
    · have e' : F[i]? = some (g, u) := by simpa using e
      have hm : (g, u) ∈ F := List.mem_of_getElem? e'
      refine ⟨h.1.setOther (fun e2 => h.2.1 _ hm e2.symm), fun q hq => ?_, ih h.2.2 i v e' hv⟩
      rcases List.mem_or_eq_of_mem_set hq with hq | rfl
      · exact h.2.1 q hq
      · exact h.2.1 (g, u) hm
/-- nothing of what was there has turned; the boxes F hold their values; the slices G read as their words -/
def EnvB (w : World) (F : List (Nat × Value)) (G : List (Value × List Nat)) (W : World) : Prop := Below w.heap.size w W ∧ HeldB w.heap.size F W ∧ HeldN G W
section
variable {w W W' : World} {F : List (Nat × Value)} {G : List (Value × List Nat)}
theorem EnvB.start (w : World) : EnvB w [] [] w := ⟨Below.refl _ _, trivial, trivial⟩
theorem EnvB.below (h : EnvB w F G W) (hb : Below W.heap.size W W') : EnvB w F G W' := ⟨h.1.trans (hb.mono h.1.size), h.2.1.below hb, h.2.2.below hb⟩
theorem EnvB.alloc (h : EnvB w F G W) (o : Obj) : EnvB w F G (W.alloc o) := h.below (below_one W o)
theorem EnvB.drew (h : EnvB w F G W) : EnvB w F G W.drew := h.below (below_drewN (Below.refl _ _) 1)
theorem EnvB.add (h : EnvB w F G W) (g : Nat) (v : Value) (hx : BoxAt w.heap.size g v W) (hd : ∀ p ∈ F, p.1 ≠ g) : EnvB w ((g, v) :: F) G W := ⟨h.1, ⟨hx, hd, h.2.1⟩, h.2.2⟩
theorem EnvB.push (h : EnvB w F G W) (v : Value) (T : TypeId) (hv : IsSl v) (g : Nat) (hg : W.heap.size = g) : EnvB w ((g, v) :: F) G (W.alloc (.cells #[v] T)) := by
  subst hg
  refine (h.alloc _).add _ _ ⟨box1a _ _ _, box1f _ _ _, by simp, h.1.size, hv⟩ (fun p hp => ?_)
  have := h.2.1.old p hp
  omega
theorem EnvB.num (h : EnvB w F G W) {v : Value} {l : List Nat} (hn : Sl W v l) : EnvB w F ((v, l) :: G) W := ⟨h.1, h.2.1, hn, h.2.2⟩
theorem EnvB.numN (h : EnvB w F G W) {v : Value} {N : Nat} (hn : Nt W v N) : EnvB w F ((v, digs N) :: G) W := ⟨h.1, h.2.1, hn, h.2.2⟩
theorem EnvB.sl (h : EnvB w F G W) (i : Nat) {v : Value} {l : List Nat} (e : G[i]? = some (v, l)) : Sl W v l := h.2.2.get i e
theorem EnvB.nt (h : EnvB w F G W) (i : Nat) {v : Value} {N : Nat} (e : G[i]? = some (v, digs N)) : Nt W v N := h.2.2.get i e
theorem EnvB.box (h : EnvB w F G W) (i : Nat) {g : Nat} {v : Value} (e : F[i]? = some (g, v)) : BoxAt w.heap.size g v W := h.2.1.get i e
theorem EnvB.set (h : EnvB w F G W) (i : Nat) {g : Nat} {u : Value} (v : Value) (e : F[i]? = some (g, u)) (hv : IsSl v) : EnvB w (F.set i (g, v)) G (W.setCell ⟨g, 0, none⟩ v) := by
  have hb := h.box i e
  exact ⟨h.1.setCell hb.2.2.2.1 _, h.2.1.set i v e hv, h.2.2.setBox hb⟩
theorem EnvB.old (h : EnvB w F G W) : ∀ p ∈ F, p.1 < W.heap.size := h.2.1.old
theorem EnvB.size (h : EnvB w F G W) : w.heap.size ≤ W.heap.size := h.1.size
end

/-- a number came back -/
def RetV (N : Nat) (e : Ending) (w' : World) : Prop := ∃ (ao : Option Addr) (c : Nat), e = .returned (.agg #[.slice ao (len N) c]) ∧ Hid (Nt w' (.slice ao (len N) c) N)
/-- a number and a code came back -/
def ResN (S : Nat) (c : Int) (e : Ending) (w' : World) : Prop := ∃ (ao : Option Addr) (k : Nat), e = .returned (.tuple #[.agg #[.slice ao (len S) k], .int .i64 c]) ∧ Hid (Nt w' (.slice ao (len S) k) S)
theorem ResN.zero (c : Int) (w' : World) : ResN 0 c (.returned (.tuple #[.agg #[.slice none 0 0], .int .i64 c])) w' := ⟨none, 0, by rw [len_zero], Lib.hid (by rw [len_zero]; exact Nt.zero _)⟩
/-- a number and a truth value came back -/
def ResB (S : Nat) (t : Bool) (e : Ending) (w' : World) : Prop := ∃ (ao : Option Addr) (k : Nat), e = .returned (.tuple #[.agg #[.slice ao (len S) k], .bool t]) ∧ Hid (Nt w' (.slice ao (len S) k) S)
/-- two numbers and a code came back -/
def ResD (q r : Nat) (c : Int) (e : Ending) (w' : World) : Prop := ∃ (qa : Option Addr) (qk : Nat) (ra : Option Addr) (rk : Nat), e = .returned (.tuple #[.agg #[.slice qa (len q) qk], .agg #[.slice ra (len r) rk], .int .i64 c]) ∧ Hid (Nt w' (.slice qa (len q) qk) q) ∧ Hid (Nt w' (.slice ra (len r) rk) r)

def PEq (u : Value) : Fact := fun v _ _ _ => v = u
def PBox (B : Nat) : Fact := fun v b e W => ∃ g, v = .pointer (some ⟨g, 0, none⟩) ∧ B ≤ g ∧ b ≤ g ∧ g < e ∧ W.cell? ⟨g, 0, none⟩ = some (.slice none 0 0) ∧ W.frozen? ⟨g, 0, none⟩ = false ∧ g < W.heap.size
def PNum (N : Nat) : Fact := fun v _ _ W => ∃ (ao : Option Addr) (k : Nat), v = .agg #[.slice ao (len N) k] ∧ Hid (Nt W (.slice ao (len N) k) N)
def PTup (N : Nat) (c : Value) : Fact := fun v _ _ W => ∃ (ao : Option Addr) (k : Nat), v = .tuple #[.agg #[.slice ao (len N) k], c] ∧ Hid (Nt W (.slice ao (len N) k) N)
theorem PEq.st (u : Value) : (PEq u).Stable := fun _ _ _ _ _ h _ => h
theorem PBox.st (B : Nat) : (PBox B).Stable := fun _ _ _ _ _ ⟨g, h1, h2, h3, h4, h5, h6, h7⟩ hb => ⟨g, h1, h2, h3, h4, (hb.cell (p := ⟨g, 0, none⟩) h7).trans h5, (hb.frozen (p := ⟨g, 0, none⟩) h7).trans h6, Nat.lt_of_lt_of_le h7 hb.size⟩
theorem PNum.st (N : Nat) : (PNum N).Stable := fun _ _ _ _ _ ⟨ao, k, h1, h2⟩ hb => ⟨ao, k, h1, Lib.hid (h2.out.below' hb)⟩
theorem PTup.st (N : Nat) (c : Value) : (PTup N c).Stable := fun _ _ _ _ _ ⟨ao, k, h1, h2⟩ hb => ⟨ao, k, h1, Lib.hid (h2.out.below' hb)⟩
theorem PBox.mk {B : Nat} {w W : World} (hB : Below w.heap.size w W) (hw : B = w.heap.size) (T : TypeId) : PBox B (.pointer (some ⟨W.heap.size, 0, none⟩)) W.heap.size (W.alloc (.cells #[.slice none 0 0] T)).heap.size (W.alloc (.cells #[.slice none 0 0] T)) :=
  ⟨W.heap.size, rfl, hw ▸ hB.size, Nat.le_refl _, by simp, box1a _ _ _, box1f _ _ _, by simp⟩
theorem act_eq {K : Act → World → Prop} {a a' : Act} {w : World} (h : K a w) (e : a = a') : K a' w := e ▸ h
theorem op_of {ops : Array Oper} {i : Nat} {o' : Oper} {p : Oper → Prop} (ho : ops[i]? = some o') (h : p o') : ∀ o, ops[i]? = some o → p o := by
  intro o h2; rw [ho] at h2; cases h2; exact h
section
variable {P : Program} {ops : Array Oper} {Q : Exit → Act → World → Prop}
/-- an operation that only computes is taken first -/
theorem takeP {i : Nat} {oi : Oper} (d : Option Tmp) {v : Value} {fuel : Nat} {listed : Array Bool} {a : Act} {w : World} (hi : ops[i]? = some oi) (hd : oi.dst = d)
    (hs : Region.noSelect ops = true) (hf : Region.free .any ops listed i = true) (hr : (Region.ready .any ops listed).contains i = true)
    (hQ : ∀ c a w, Q (.panic c) (a.put d v) w → Q (.panic c) a w) (hg : Region.wanted oi (yielded ops a.tmps) = true)
    (hy : ∀ w, (execOp a.eval oi).run P w = .ok (.value v) w)
    (h : wpAny P .any ops Q fuel (listed.setIfInBounds i true) (a.put d v) w) : wpAny P .any ops Q (fuel + 1) listed a w := by
  subst hd; exact wpAny_take hi hs hf hr hQ (Or.inl ⟨hg, hy⟩) h
end
end Nn
end Go.Proofs.YtinlfogpbologaaDoor


/- Package natmod: small numbers, rest, less, modulus, add, sub, mul. -/
namespace Go.Proofs.YtinlfogpbologaaDoor
namespace Nn
open Go.RowKit NatMath
set_option linter.unusedVariables false

section
variable {a b : Value} {N M q r S : Nat} {w : World}
theorem BigPost.fit {S n : Nat} {e : Ending} {w' : World} (h : BigPost S n e w') (hl : len S ≤ 64) : ResN S 0 e w' := by
  rcases h with ⟨_, v, hv, rfl⟩ | ⟨h, _⟩
  · have hN := hv.out.1
    obtain ⟨ao, c, rfl, _⟩ := hN.open
    exact ⟨ao, c, rfl, Lib.hid hN⟩
  · exact absurd hl h
theorem RetN.res {S n : Nat} {e : Ending} {w' : World} (h : RetN (fun w' v' => Nt w' v' S ∧ Fr n v') e w') : ResN S 0 e w' := by
  obtain ⟨v, hv, rfl⟩ := h
  have hN := hv.out.1
  obtain ⟨ao, c, rfl, _⟩ := hN.open
  exact ⟨ao, c, rfl, Lib.hid hN⟩
theorem mulF (hS : N * M = S) (hl : len S ≤ 64) (ha : Nt w a N) (hb : Nt w b M) (h1 : len N ≤ 64) (h2 : len M ≤ 64) :
    Calls Tryd.prog 148 #[.agg #[a], .agg #[b]] w fun e w' => ResN S 0 e w' ∧ Below w.heap.size w w' := by
  subst hS; exact (Mul_ok a b N M w ha hb h1 h2).mono (fun e w' h => And.intro (h.1.fit hl) h.2)
theorem subF (hS : N - M = S) (hle : M ≤ N) (ha : Nt w a N) (hb : Nt w b M) (h1 : len N ≤ 64) (h2 : len M ≤ 64) :
    Calls Tryd.prog 147 #[.agg #[a], .agg #[b]] w fun e w' => ResN S 0 e w' ∧ Below w.heap.size w w' := by
  subst hS; exact (Sub_ok a b N M w ha hb h1 h2 hle).mono (fun e w' h => And.intro h.1.res h.2)
theorem divF (hq : N / M = q) (hr : N % M = r) (ha : Nt w a N) (hb : Nt w b M) (h1 : len N ≤ 64) (h2 : len M ≤ 64) (h0 : M ≠ 0) :
    Calls Tryd.prog 152 #[.agg #[a], .agg #[b]] w fun e w' => ResD q r 0 e w' ∧ Below w.heap.size w w' := by
  subst hq hr
  refine (Div_c a b N M w ha hb h1 h2 h0).mono ?_
  rintro e w' ⟨⟨u, v, h, rfl⟩, hb⟩
  obtain ⟨k1, _, k2, _⟩ := h.out
  obtain ⟨qa, qk, rfl, _⟩ := k1.open
  obtain ⟨ra, rk, rfl, _⟩ := k2.open
  exact ⟨⟨qa, qk, ra, rk, rfl, Lib.hid k1, Lib.hid k2⟩, hb⟩
theorem ofF (x : Nat) (w : World) (hx : (x : Int) ≤ 9223372036854775807) :
    Calls Tryd.prog 143 #[.int .i64 x] w fun e w' => ResN x 0 e w' ∧ Below w.heap.size w w' :=
  (Of_ok x w hx).mono (fun e w' h => And.intro h.1.res h.2)
theorem compareF {c : Int} (hc : cmp N M = c) (ha : Nt w a N) (hb : Nt w b M) (h1 : len N ≤ 64) (h2 : len M ≤ 64) :
    Calls Tryd.prog 146 #[.agg #[a], .agg #[b]] w fun e w' => e = .returned (.int .i64 c) ∧ Below w.heap.size w w' := by
  subst hc; exact Compare_c a b N M w ha hb h1 h2
theorem validF {l : List Nat} {t : Bool} (ht : vld l = t) (ha : Sl w a l) :
    Calls Tryd.prog 144 #[.agg #[a]] w fun e w' => e = .returned (.bool t) ∧ Below w.heap.size w w' := by
  subst ht; exact Valid_c a l w ha
theorem validN (h : len N ≤ 64) (ha : Nt w a N) :
    Calls Tryd.prog 144 #[.agg #[a]] w fun e w' => e = .returned (.bool true) ∧ Below w.heap.size w w' :=
  validF (by rw [vld_digs, decide_eq_true h]) ha
theorem bitsF {n : Nat} (hn : bl N = n) (h : len N ≤ 64) (ha : Nt w a N) :
    Calls Tryd.prog 145 #[.agg #[a]] w fun e w' => e = .returned (.int .i64 (n : Nat)) ∧ Below w.heap.size w w' := by
  subst hn; exact Bits_c a N w ha h
end

set_option maxHeartbeats 400000 in
theorem number_one (w : World) :
    Calls Tryd.prog 190 #[.int .i64 1] w fun e w' => RetV 1 e w' ∧ Below w.heap.size w w' := by
  go_enter Tryd.func190, Tryd.ntmps190
  go_wp2_with fail
  have E1 : Hid (EnvB w [(w.heap.size, .slice none 0 0)] [] _) := Lib.hid (((EnvB.start w).push (.slice none 0 0) 96 ⟨_, _, _, rfl⟩ (w.heap.size) (by simp)))
  refine (ofF 1 _ (by decide)).mono ?_
  rintro e w1 ⟨⟨ua, uk, rfl, hu⟩, hb⟩
  have E2 : Hid (EnvB w [(w.heap.size, .slice none 0 0)] [(.slice ua (len 1) uk, digs 1)] _) := Lib.hid (((E1.out.below hb).numN (hu.out : Nt _ _ 1)))
  clear E1 hb hu
  have E3 : Hid (EnvB w [(w1.heap.size, .slice ua (len 1) uk), (w.heap.size, .slice none 0 0)] [(.slice ua (len 1) uk, digs 1)] _) := Lib.hid ((E2.out.push (.slice ua (len 1) uk) 96 ⟨_, _, _, rfl⟩ (w1.heap.size) (by simp)))
  obtain ⟨p1, f1, -, -, -⟩ := E3.out.box 1 rfl
  have E4 : Hid (EnvB w [(w1.heap.size, .slice ua (len 1) uk), (w.heap.size, .slice ua (len 1) uk)] [(.slice ua (len 1) uk, digs 1)] _) := Lib.hid ((E3.out.set 1 (.slice ua (len 1) uk) rfl ⟨_, _, _, rfl⟩))
  have hfin := Lib.hid E4.out
  obtain ⟨rc, -, -, -, -⟩ := E4.out.box 1 rfl
  go_wp2
  exact bodyPost_ret (v := .agg #[.slice ua (len 1) uk]) (by simp [results, Tryd.results190, go_sem, rc]) rfl ⟨⟨_, _, rfl, Lib.hid (hfin.out.nt 0 rfl)⟩, hfin.out.1⟩

set_option maxHeartbeats 400000 in
theorem one_c (w : World) :
    Calls Tryd.prog 180 #[] w fun e w' => RetV 1 e w' ∧ Below w.heap.size w w' := by
  go_enter Tryd.func180, Tryd.ntmps180
  go_wp2_with fail
  have E1 : Hid (EnvB w [(w.heap.size, .slice none 0 0)] [] _) := Lib.hid (((EnvB.start w).push (.slice none 0 0) 96 ⟨_, _, _, rfl⟩ (w.heap.size) (by simp)))
  refine (number_one _).mono ?_
  rintro e w1 ⟨⟨ua, uk, rfl, hu⟩, hb⟩
  have E2 : Hid (EnvB w [(w.heap.size, .slice none 0 0)] [(.slice ua (len 1) uk, digs 1)] _) := Lib.hid (((E1.out.below hb).numN (hu.out : Nt _ _ 1)))
  clear E1 hb hu
  obtain ⟨p1, f1, -, -, -⟩ := E2.out.box 0 rfl
  have E3 : Hid (EnvB w [(w.heap.size, .slice ua (len 1) uk)] [(.slice ua (len 1) uk, digs 1)] _) := Lib.hid ((E2.out.set 0 (.slice ua (len 1) uk) rfl ⟨_, _, _, rfl⟩))
  have hfin := Lib.hid E3.out
  obtain ⟨rc, -, -, -, -⟩ := E3.out.box 0 rfl
  go_wp2
  exact bodyPost_ret (v := .agg #[.slice ua (len 1) uk]) (by simp [results, Tryd.results180, go_sem, rc]) rfl ⟨⟨_, _, rfl, Lib.hid (hfin.out.nt 0 rfl)⟩, hfin.out.1⟩

theorem RetV.zero (w' : World) : RetV 0 (.returned (.agg #[.slice none 0 0])) w' := ⟨none, 0, by rw [len_zero], Lib.hid (by rw [len_zero]; exact Nt.zero _)⟩
set_option maxRecDepth 100000 in
set_option maxHeartbeats 1000000 in
theorem rest_w (ao : Option Addr) (ca : Nat) (bo : Option Addr) (cb : Nat) (N M : Nat) (q r : Nat) (w : World) (ha : Nt w (.slice ao (len N) ca) N) (hb : Nt w (.slice bo (len M) cb) M) (hq : N / M = q) (hr : N % M = r) (h1 : len N ≤ 64) (h2 : len M ≤ 64) (h0 : M ≠ 0) :
    Calls Tryd.prog 179 #[.agg #[.slice ao (len N) ca], .agg #[.slice bo (len M) cb]] w fun e w' => RetV r e w' ∧ Below w.heap.size w w' := by
  have CD := Lib.hid (fun W ha hb => @divF (.slice ao (len N) ca) (.slice bo (len M) cb) N M q r W hq hr ha hb h1 h2 h0)
  clear h1 h2 h0 hq hr
  have E0 : Hid (EnvB w [] [(.slice bo (len M) cb, digs M), (.slice ao (len N) ca, digs N)] w) := Lib.hid (((EnvB.start w).numN ha).numN hb)
  clear ha hb
  go_enter Tryd.func179, Tryd.ntmps179
  go_wp2_with fail
  have E1 : Hid (EnvB w [(w.heap.size + 1 + 1, .slice none 0 0), (w.heap.size + 1, .slice bo (len M) cb), (w.heap.size, .slice ao (len N) ca)] [(.slice bo (len M) cb, digs M), (.slice ao (len N) ca, digs N)] _) := Lib.hid ((((E0.out.push (.slice ao (len N) ca) 96 ⟨_, _, _, rfl⟩ (w.heap.size) (by simp)).push (.slice bo (len M) cb) 96 ⟨_, _, _, rfl⟩ (w.heap.size + 1) (by simp)).push (.slice none 0 0) 96 ⟨_, _, _, rfl⟩ (w.heap.size + 1 + 1) (by simp)))
  refine (CD.out _ (E1.out.nt 1 rfl) (E1.out.nt 0 rfl)).mono ?_
  rintro e w1 ⟨⟨qa, qk, ra, rk, rfl, hq, hr⟩, hb⟩
  have E2 : Hid (EnvB w [(w.heap.size + 1 + 1, .slice none 0 0), (w.heap.size + 1, .slice bo (len M) cb), (w.heap.size, .slice ao (len N) ca)] [(.slice ra (len r) rk, digs r), (.slice qa (len q) qk, digs q), (.slice bo (len M) cb, digs M), (.slice ao (len N) ca, digs N)] _) := Lib.hid ((((E1.out.below hb).numN (hq.out : Nt _ _ q)).numN (hr.out : Nt _ _ r)))
  clear E1 E0 hb hq hr
  have E3 : Hid (EnvB w [(w1.heap.size + 1, .slice ra (len r) rk), (w1.heap.size, .slice qa (len q) qk), (w.heap.size + 1 + 1, .slice none 0 0), (w.heap.size + 1, .slice bo (len M) cb), (w.heap.size, .slice ao (len N) ca)] [(.slice ra (len r) rk, digs r), (.slice qa (len q) qk, digs q), (.slice bo (len M) cb, digs M), (.slice ao (len N) ca, digs N)] _) := Lib.hid (((E2.out.push (.slice qa (len q) qk) 96 ⟨_, _, _, rfl⟩ (w1.heap.size) (by simp)).push (.slice ra (len r) rk) 96 ⟨_, _, _, rfl⟩ (w1.heap.size + 1) (by simp)))
  obtain ⟨p1, f1, -, -, -⟩ := E3.out.box 2 rfl
  have E4 : Hid (EnvB w [(w1.heap.size + 1, .slice ra (len r) rk), (w1.heap.size, .slice qa (len q) qk), (w.heap.size + 1 + 1, .slice ra (len r) rk), (w.heap.size + 1, .slice bo (len M) cb), (w.heap.size, .slice ao (len N) ca)] [(.slice ra (len r) rk, digs r), (.slice qa (len q) qk, digs q), (.slice bo (len M) cb, digs M), (.slice ao (len N) ca, digs N)] _) := Lib.hid ((E3.out.set 2 (.slice ra (len r) rk) rfl ⟨_, _, _, rfl⟩))
  have hfin := Lib.hid E4.out
  obtain ⟨rc, -, -, -, -⟩ := E4.out.box 2 rfl
  go_wp2
  exact bodyPost_ret (v := .agg #[.slice ra (len r) rk]) (by simp [results, Tryd.results179, go_sem, rc]) rfl ⟨⟨_, _, rfl, Lib.hid (hfin.out.nt 0 rfl)⟩, hfin.out.1⟩
theorem rest_c {a b : Value} {N M r : Nat} {w : World} (hr : N % M = r) (h1 : len N ≤ 64) (h2 : len M ≤ 64) (h0 : M ≠ 0) (ha : Nt w a N) (hb : Nt w b M) :
    Calls Tryd.prog 179 #[.agg #[a], .agg #[b]] w fun e w' => RetV r e w' ∧ Below w.heap.size w w' := by
  obtain ⟨ao, ca, rfl, _⟩ := ha.open
  obtain ⟨bo, cb, rfl, _⟩ := hb.open
  exact rest_w ao ca bo cb N M _ r w ha hb rfl hr h1 h2 h0

set_option maxRecDepth 100000 in
set_option maxHeartbeats 1000000 in
theorem less_w (ao : Option Addr) (ca : Nat) (bo : Option Addr) (cb : Nat) (N M : Nat) (t : Bool) (w : World) (ha : Nt w (.slice ao (len N) ca) N) (hb : Nt w (.slice bo (len M) cb) M) (ht : decide (N < M) = t) (h1 : len N ≤ 64) (h2 : len M ≤ 64) :
    Calls Tryd.prog 189 #[.agg #[.slice ao (len N) ca], .agg #[.slice bo (len M) cb]] w fun e w' => e = .returned (.bool t) ∧ Below w.heap.size w w' := by
  have hc : decide (cmp N M < 0) = t := by rw [cmp_lt_iff, ht]
  have CC := Lib.hid (fun W ha hb => @compareF (.slice ao (len N) ca) (.slice bo (len M) cb) N M W _ rfl ha hb h1 h2)
  clear ht h1 h2
  generalize cmp N M = c at *
  have E0 : Hid (EnvB w [] [(.slice bo (len M) cb, digs M), (.slice ao (len N) ca, digs N)] w) := Lib.hid (((EnvB.start w).numN ha).numN hb)
  clear ha hb
  go_enter Tryd.func189, Tryd.ntmps189
  go_wp2_with fail
  have E1 : Hid (EnvB w [(w.heap.size + 1, .slice bo (len M) cb), (w.heap.size, .slice ao (len N) ca)] [(.slice bo (len M) cb, digs M), (.slice ao (len N) ca, digs N)] _) := Lib.hid (((E0.out.push (.slice ao (len N) ca) 96 ⟨_, _, _, rfl⟩ (w.heap.size) (by simp)).push (.slice bo (len M) cb) 96 ⟨_, _, _, rfl⟩ (w.heap.size + 1) (by simp)))
  refine (CC.out _ (E1.out.nt 1 rfl) (E1.out.nt 0 rfl)).mono ?_
  rintro e w1 ⟨rfl, hb⟩
  have E2 : Hid (EnvB w [(w.heap.size + 1, .slice bo (len M) cb), (w.heap.size, .slice ao (len N) ca)] [(.slice bo (len M) cb, digs M), (.slice ao (len N) ca, digs N)] _) := Lib.hid ((E1.out.below hb))
  clear E1 E0 hb
  have hfin := Lib.hid E2.out.1
  go_wp2
  go_ret
  exact ⟨rfl, hfin.out⟩
theorem less_c {a b : Value} {N M : Nat} {t : Bool} {w : World} (ht : decide (N < M) = t) (h1 : len N ≤ 64) (h2 : len M ≤ 64) (ha : Nt w a N) (hb : Nt w b M) :
    Calls Tryd.prog 189 #[.agg #[a], .agg #[b]] w fun e w' => e = .returned (.bool t) ∧ Below w.heap.size w w' := by
  obtain ⟨ao, ca, rfl, _⟩ := ha.open
  obtain ⟨bo, cb, rfl, _⟩ := hb.open
  exact less_w ao ca bo cb N M t w ha hb ht h1 h2

set_option maxRecDepth 100000 in
set_option maxHeartbeats 1000000 in
theorem modulus_bad (ao : Option Addr) (ca : Nat) (la : List Nat)  (w : World) (ha : Sl w (.slice ao la.length ca) la) (hv : vld la = false) :
    Calls Tryd.prog 188 #[.agg #[.slice ao la.length ca]] w fun e w' => e = .returned (.bool false) ∧ Below w.heap.size w w' := by
  have CV := Lib.hid (fun W ha => @validF (.slice ao la.length ca) W la false hv ha)
  generalize hl : la.length = n at *
  clear hl hv
  have E0 : Hid (EnvB w [] [(.slice ao n ca, la)] w) := Lib.hid ((EnvB.start w).num ha)
  clear ha
  go_enter Tryd.func188, Tryd.ntmps188
  go_wp2_with fail
  have E1 : Hid (EnvB w [(w.heap.size, .slice ao n ca)] [(.slice ao n ca, la)] _) := Lib.hid ((E0.out.push (.slice ao n ca) 96 ⟨_, _, _, rfl⟩ (w.heap.size) (by simp)))
  refine (CV.out _ (E1.out.sl 0 rfl)).mono ?_
  rintro e w1 ⟨rfl, hb⟩
  have E2 : Hid (EnvB w [(w.heap.size, .slice ao n ca)] [(.slice ao n ca, la)] _) := Lib.hid ((E1.out.below hb))
  clear E1 E0 hb
  have hfin := Lib.hid E2.out.1
  go_wp2
  go_ret
  exact ⟨rfl, hfin.out⟩
set_option maxRecDepth 100000 in
set_option maxHeartbeats 1000000 in
theorem modulus_zero (ao : Option Addr) (ca : Nat) (N : Nat)  (w : World) (ha : Nt w (.slice ao (len N) ca) N) (h1 : len N ≤ 64) (h0 : N = 0) :
    Calls Tryd.prog 188 #[.agg #[.slice ao (len N) ca]] w fun e w' => e = .returned (.bool false) ∧ Below w.heap.size w w' := by
  have hb1 : bl N = 0 := by rw [h0]; rfl
  have CV := Lib.hid (fun W ha => @validN (.slice ao (len N) ca) N W h1 ha)
  have CB := Lib.hid (fun W ha => @bitsF (.slice ao (len N) ca) N W _ rfl h1 ha)
  clear h1
  clear h0
  generalize bl N = n at *
  subst hb1
  have E0 : Hid (EnvB w [] [(.slice ao (len N) ca, digs N)] w) := Lib.hid ((EnvB.start w).numN ha)
  clear ha
  go_enter Tryd.func188, Tryd.ntmps188
  go_wp2_with fail
  have E1 : Hid (EnvB w [(w.heap.size, .slice ao (len N) ca)] [(.slice ao (len N) ca, digs N)] _) := Lib.hid ((E0.out.push (.slice ao (len N) ca) 96 ⟨_, _, _, rfl⟩ (w.heap.size) (by simp)))
  refine (CV.out _ (E1.out.nt 0 rfl)).mono ?_
  rintro e w1 ⟨rfl, hb⟩
  have E2 : Hid (EnvB w [(w.heap.size, .slice ao (len N) ca)] [(.slice ao (len N) ca, digs N)] _) := Lib.hid ((E1.out.below hb))
  clear E1 E0 hb
  obtain ⟨p1, f1, -, -, -⟩ := E2.out.box 0 rfl
  go_wp2_with fail
  refine (CB.out _ (E2.out.nt 0 rfl)).mono ?_
  rintro e w2 ⟨rfl, hb⟩
  have E3 : Hid (EnvB w [(w.heap.size, .slice ao (len N) ca)] [(.slice ao (len N) ca, digs N)] _) := Lib.hid ((E2.out.below hb))
  clear p1 f1 E2 hb
  have hfin := Lib.hid E3.out.1
  go_wp2
  go_ret
  exact ⟨rfl, hfin.out⟩
set_option maxRecDepth 100000 in
set_option maxHeartbeats 1000000 in
theorem modulus_big (ao : Option Addr) (ca : Nat) (N : Nat)  (w : World) (ha : Nt w (.slice ao (len N) ca) N) (h1 : len N ≤ 64) (h0 : N ≠ 0) (hb : ¬ len N ≤ 32) :
    Calls Tryd.prog 188 #[.agg #[.slice ao (len N) ca]] w fun e w' => e = .returned (.bool false) ∧ Below w.heap.size w w' := by
  have hb1 : 1 ≤ bl N := bl_pos h0
  have hb2 : ¬ bl N ≤ 1024 := fun h => hb (len_le_bits.1 h)
  have CV := Lib.hid (fun W ha => @validN (.slice ao (len N) ca) N W h1 ha)
  have CB := Lib.hid (fun W ha => @bitsF (.slice ao (len N) ca) N W _ rfl h1 ha)
  clear h1 hb
  clear h0
  generalize bl N = n at *
  have t1 : decide (1 ≤ (n : Int)) = true := decide_eq_true (by omega)
  have t2 : decide ((n : Int) ≤ 1024) = false := decide_eq_false (by omega)
  have E0 : Hid (EnvB w [] [(.slice ao (len N) ca, digs N)] w) := Lib.hid ((EnvB.start w).numN ha)
  clear ha
  go_enter Tryd.func188, Tryd.ntmps188
  go_wp2_with fail
  have E1 : Hid (EnvB w [(w.heap.size, .slice ao (len N) ca)] [(.slice ao (len N) ca, digs N)] _) := Lib.hid ((E0.out.push (.slice ao (len N) ca) 96 ⟨_, _, _, rfl⟩ (w.heap.size) (by simp)))
  refine (CV.out _ (E1.out.nt 0 rfl)).mono ?_
  rintro e w1 ⟨rfl, hb⟩
  have E2 : Hid (EnvB w [(w.heap.size, .slice ao (len N) ca)] [(.slice ao (len N) ca, digs N)] _) := Lib.hid ((E1.out.below hb))
  clear E1 E0 hb
  obtain ⟨p1, f1, -, -, -⟩ := E2.out.box 0 rfl
  go_wp2_with fail
  refine (CB.out _ (E2.out.nt 0 rfl)).mono ?_
  rintro e w2 ⟨rfl, hb⟩
  have E3 : Hid (EnvB w [(w.heap.size, .slice ao (len N) ca)] [(.slice ao (len N) ca, digs N)] _) := Lib.hid ((E2.out.below hb))
  clear p1 f1 E2 hb
  obtain ⟨p2, f2, -, -, -⟩ := E3.out.box 0 rfl
  go_wp2_with fail
  refine (CB.out _ (E3.out.nt 0 rfl)).mono ?_
  rintro e w3 ⟨rfl, hb⟩
  have E4 : Hid (EnvB w [(w.heap.size, .slice ao (len N) ca)] [(.slice ao (len N) ca, digs N)] _) := Lib.hid ((E3.out.below hb))
  clear p2 f2 E3 hb
  have hfin := Lib.hid E4.out.1
  go_wp2
  go_ret
  exact ⟨rfl, hfin.out⟩
set_option maxRecDepth 100000 in
set_option maxHeartbeats 1000000 in
theorem modulus_yes (ao : Option Addr) (ca : Nat) (N : Nat)  (w : World) (ha : Nt w (.slice ao (len N) ca) N) (h1 : len N ≤ 64) (h0 : N ≠ 0) (hb : len N ≤ 32) :
    Calls Tryd.prog 188 #[.agg #[.slice ao (len N) ca]] w fun e w' => e = .returned (.bool true) ∧ Below w.heap.size w w' := by
  have hb1 : 1 ≤ bl N := bl_pos h0
  have hb2 : bl N ≤ 1024 := len_le_bits.2 hb
  have CV := Lib.hid (fun W ha => @validN (.slice ao (len N) ca) N W h1 ha)
  have CB := Lib.hid (fun W ha => @bitsF (.slice ao (len N) ca) N W _ rfl h1 ha)
  clear h1 hb
  clear h0
  generalize bl N = n at *
  have t1 : decide (1 ≤ (n : Int)) = true := decide_eq_true (by omega)
  have t2 : decide ((n : Int) ≤ 1024) = true := decide_eq_true (by omega)
  have E0 : Hid (EnvB w [] [(.slice ao (len N) ca, digs N)] w) := Lib.hid ((EnvB.start w).numN ha)
  clear ha
  go_enter Tryd.func188, Tryd.ntmps188
  go_wp2_with fail
  have E1 : Hid (EnvB w [(w.heap.size, .slice ao (len N) ca)] [(.slice ao (len N) ca, digs N)] _) := Lib.hid ((E0.out.push (.slice ao (len N) ca) 96 ⟨_, _, _, rfl⟩ (w.heap.size) (by simp)))
  refine (CV.out _ (E1.out.nt 0 rfl)).mono ?_
  rintro e w1 ⟨rfl, hb⟩
  have E2 : Hid (EnvB w [(w.heap.size, .slice ao (len N) ca)] [(.slice ao (len N) ca, digs N)] _) := Lib.hid ((E1.out.below hb))
  clear E1 E0 hb
  obtain ⟨p1, f1, -, -, -⟩ := E2.out.box 0 rfl
  go_wp2_with fail
  refine (CB.out _ (E2.out.nt 0 rfl)).mono ?_
  rintro e w2 ⟨rfl, hb⟩
  have E3 : Hid (EnvB w [(w.heap.size, .slice ao (len N) ca)] [(.slice ao (len N) ca, digs N)] _) := Lib.hid ((E2.out.below hb))
  clear p1 f1 E2 hb
  obtain ⟨p2, f2, -, -, -⟩ := E3.out.box 0 rfl
  go_wp2_with fail
  refine (CB.out _ (E3.out.nt 0 rfl)).mono ?_
  rintro e w3 ⟨rfl, hb⟩
  have E4 : Hid (EnvB w [(w.heap.size, .slice ao (len N) ca)] [(.slice ao (len N) ca, digs N)] _) := Lib.hid ((E3.out.below hb))
  clear p2 f2 E3 hb
  have hfin := Lib.hid E4.out.1
  go_wp2
  go_ret
  exact ⟨rfl, hfin.out⟩
/-- the words are those of a modulus: a number from 1 on, of at most 32 words -/
def mdl (l : List Nat) : Bool := vld l && (decide (1 ≤ l.length) && decide (l.length ≤ 32))
theorem nt_of {w : World} {v : Value} {l : List Nat} (h : Sl w v l) (hv : vld l = true) : ∃ N, l = digs N ∧ len N ≤ 64 ∧ Nt w v N := by
  have h2 : l.length ≤ 64 ∧ (l = [] ∨ l.getD (l.length - 1) 0 ≠ 0) := of_decide_eq_true hv
  have hw : words l := by obtain ⟨_, _, _, _, _, hw, _⟩ := h; exact hw
  have hd := digs_val hw h2.2
  refine ⟨val l, hd.symm, ?_, ?_⟩
  · rw [len_of_normal hw h2.2]; exact h2.1
  · unfold Nt; rw [hd]; exact h
theorem mdl_digs {N : Nat} : mdl (digs N) = true ↔ N ≠ 0 ∧ len N ≤ 32 := by
  unfold mdl
  rw [vld_digs, show (digs N).length = len N from rfl]
  simp only [Bool.and_eq_true, decide_eq_true_eq]
  have : len N = 0 ↔ N = 0 := len_eq_zero
  omega
theorem modulus_c {v : Value} {l : List Nat} {t : Bool} {w : World} (ht : mdl l = t) (h : Sl w v l) :
    Calls Tryd.prog 188 #[.agg #[v]] w fun e w' => e = .returned (.bool t) ∧ Below w.heap.size w w' := by
  subst ht
  by_cases hv : vld l = true
  · obtain ⟨N, rfl, h1, hN⟩ := nt_of h hv
    obtain ⟨ao, ca, rfl, _⟩ := hN.open
    by_cases h0 : N = 0
    · have e : mdl (digs N) = false := by
        cases e : mdl (digs N)
        · rfl
        · exact absurd h0 (mdl_digs.1 e).1
      rw [e]; exact modulus_zero ao ca N w hN h1 h0
    · by_cases hb : len N ≤ 32
      · rw [mdl_digs.2 ⟨h0, hb⟩]; exact modulus_yes ao ca N w hN h1 h0 hb
      · have e : mdl (digs N) = false := by
          cases e : mdl (digs N)
          · rfl
          · exact absurd (mdl_digs.1 e).2 hb
        rw [e]; exact modulus_big ao ca N w hN h1 h0 hb
  · have hf : vld l = false := by simpa using hv
    obtain ⟨ao, ca, rfl, _⟩ := h.open
    have e : mdl l = false := by unfold mdl; rw [hf]; rfl
    rw [e]; exact modulus_bad ao ca l w h hf

set_option maxRecDepth 100000 in
set_option maxHeartbeats 1000000 in
theorem mul_w (ao : Option Addr) (ca : Nat) (bo : Option Addr) (cb : Nat) (co : Option Addr) (cc : Nat) (N M K : Nat) (S r : Nat) (w : World) (ha : Nt w (.slice ao (len N) ca) N) (hb : Nt w (.slice bo (len M) cb) M) (hc : Nt w (.slice co (len K) cc) K) (hS : N * M = S) (hr : S % K = r) (hn : N < K) (hm : M < K) (hk : len K ≤ 32) :
    Calls Tryd.prog 181 #[.agg #[.slice ao (len N) ca], .agg #[.slice bo (len M) cb], .agg #[.slice co (len K) cc]] w fun e w' => RetV r e w' ∧ Below w.heap.size w w' := by
  have k1 := len_le_of_lt hn hk
  have k2 := len_le_of_lt hm hk
  have k3 : len S ≤ 64 := by rw [← hS]; exact len_mul_le k1 k2 (by omega)
  have CA := Lib.hid (fun W ha hb => @mulF (.slice ao (len N) ca) (.slice bo (len M) cb) N M S W hS k3 ha hb (by omega) (by omega))
  have CR := Lib.hid (fun (v : Value) W ha hb => @rest_c v (.slice co (len K) cc) S K r W hr k3 (by omega) (by omega) ha hb)
  clear hS hr hn hm hk k1 k2 k3
  have E0 : Hid (EnvB w [] [(.slice co (len K) cc, digs K), (.slice bo (len M) cb, digs M), (.slice ao (len N) ca, digs N)] w) := Lib.hid ((((EnvB.start w).numN ha).numN hb).numN hc)
  clear ha hb hc
  go_enter Tryd.func181, Tryd.ntmps181
  go_wp2_with fail
  have E1 : Hid (EnvB w [(w.heap.size + 1 + 1 + 1, .slice none 0 0), (w.heap.size + 1 + 1, .slice co (len K) cc), (w.heap.size + 1, .slice bo (len M) cb), (w.heap.size, .slice ao (len N) ca)] [(.slice co (len K) cc, digs K), (.slice bo (len M) cb, digs M), (.slice ao (len N) ca, digs N)] _) := Lib.hid (((((E0.out.push (.slice ao (len N) ca) 96 ⟨_, _, _, rfl⟩ (w.heap.size) (by simp)).push (.slice bo (len M) cb) 96 ⟨_, _, _, rfl⟩ (w.heap.size + 1) (by simp)).push (.slice co (len K) cc) 96 ⟨_, _, _, rfl⟩ (w.heap.size + 1 + 1) (by simp)).push (.slice none 0 0) 96 ⟨_, _, _, rfl⟩ (w.heap.size + 1 + 1 + 1) (by simp)))
  refine (CA.out _ (E1.out.nt 2 rfl) (E1.out.nt 1 rfl)).mono ?_
  rintro e w1 ⟨⟨sa, sk, rfl, hs⟩, hb⟩
  have E2 : Hid (EnvB w [(w.heap.size + 1 + 1 + 1, .slice none 0 0), (w.heap.size + 1 + 1, .slice co (len K) cc), (w.heap.size + 1, .slice bo (len M) cb), (w.heap.size, .slice ao (len N) ca)] [(.slice sa (len S) sk, digs S), (.slice co (len K) cc, digs K), (.slice bo (len M) cb, digs M), (.slice ao (len N) ca, digs N)] _) := Lib.hid (((E1.out.below hb).numN (hs.out : Nt _ _ S)))
  clear E1 E0 hb hs
  have E3 : Hid (EnvB w [(w1.heap.size, .slice sa (len S) sk), (w.heap.size + 1 + 1 + 1, .slice none 0 0), (w.heap.size + 1 + 1, .slice co (len K) cc), (w.heap.size + 1, .slice bo (len M) cb), (w.heap.size, .slice ao (len N) ca)] [(.slice sa (len S) sk, digs S), (.slice co (len K) cc, digs K), (.slice bo (len M) cb, digs M), (.slice ao (len N) ca, digs N)] _) := Lib.hid ((E2.out.push (.slice sa (len S) sk) 96 ⟨_, _, _, rfl⟩ (w1.heap.size) (by simp)))
  obtain ⟨p1, f1, -, -, -⟩ := E3.out.box 2 rfl
  go_wp2_with fail
  refine (CR.out _ _ (E3.out.nt 0 rfl) (E3.out.nt 1 rfl)).mono ?_
  rintro e w2 ⟨⟨ra, rk, rfl, hr⟩, hb⟩
  have E4 : Hid (EnvB w [(w1.heap.size, .slice sa (len S) sk), (w.heap.size + 1 + 1 + 1, .slice none 0 0), (w.heap.size + 1 + 1, .slice co (len K) cc), (w.heap.size + 1, .slice bo (len M) cb), (w.heap.size, .slice ao (len N) ca)] [(.slice ra (len r) rk, digs r), (.slice sa (len S) sk, digs S), (.slice co (len K) cc, digs K), (.slice bo (len M) cb, digs M), (.slice ao (len N) ca, digs N)] _) := Lib.hid (((E3.out.below hb).numN (hr.out : Nt _ _ r)))
  clear p1 f1 E3 E2 hb hr
  obtain ⟨p2, f2, -, -, -⟩ := E4.out.box 1 rfl
  have E5 : Hid (EnvB w [(w1.heap.size, .slice sa (len S) sk), (w.heap.size + 1 + 1 + 1, .slice ra (len r) rk), (w.heap.size + 1 + 1, .slice co (len K) cc), (w.heap.size + 1, .slice bo (len M) cb), (w.heap.size, .slice ao (len N) ca)] [(.slice ra (len r) rk, digs r), (.slice sa (len S) sk, digs S), (.slice co (len K) cc, digs K), (.slice bo (len M) cb, digs M), (.slice ao (len N) ca, digs N)] _) := Lib.hid ((E4.out.set 1 (.slice ra (len r) rk) rfl ⟨_, _, _, rfl⟩))
  have hfin := Lib.hid E5.out
  obtain ⟨rc, -, -, -, -⟩ := E5.out.box 1 rfl
  go_wp2
  exact bodyPost_ret (v := .agg #[.slice ra (len r) rk]) (by simp [results, Tryd.results181, go_sem, rc]) rfl ⟨⟨_, _, rfl, Lib.hid (hfin.out.nt 0 rfl)⟩, hfin.out.1⟩
theorem mul_c {a b c : Value} {N M K r : Nat} {w : World} (hr : N * M % K = r) (hn : N < K) (hm : M < K) (hk : len K ≤ 32) (ha : Nt w a N) (hb : Nt w b M) (hc : Nt w c K) :
    Calls Tryd.prog 181 #[.agg #[a], .agg #[b], .agg #[c]] w fun e w' => RetV r e w' ∧ Below w.heap.size w w' := by
  obtain ⟨ao, ca, rfl, _⟩ := ha.open
  obtain ⟨bo, cb, rfl, _⟩ := hb.open
  obtain ⟨co, cc, rfl, _⟩ := hc.open
  exact mul_w ao ca bo cb co cc N M K _ r w ha hb hc rfl hr hn hm hk
end Nn
end Go.Proofs.YtinlfogpbologaaDoor


/- Package natmod: given, operate, Add, Sub, Mul. -/
namespace Go.Proofs.YtinlfogpbologaaDoor
namespace Nn
open Go.RowKit NatMath
set_option linter.unusedVariables false

set_option maxRecDepth 100000 in
set_option maxHeartbeats 1000000 in
theorem given_w (ao : Option Addr) (ca : Nat) (bo : Option Addr) (cb : Nat) (co : Option Addr) (cc : Nat) (N M K : Nat)  (w : World) (ha : Nt w (.slice ao (len N) ca) N) (hb : Nt w (.slice bo (len M) cb) M) (hc : Nt w (.slice co (len K) cc) K) (hn : N < K) (hm : M < K) (hk : len K ≤ 32) :
    Calls Tryd.prog 178 #[.agg #[.slice ao (len N) ca], .agg #[.slice bo (len M) cb], .agg #[.slice co (len K) cc]] w fun e w' => e = .returned (.int .i64 0) ∧ Below w.heap.size w w' := by
  have k1 := len_le_of_lt hn hk
  have k2 := len_le_of_lt hm hk
  have CV1 := Lib.hid (fun W ha => @validN (.slice ao (len N) ca) N W (by omega) ha)
  have CV2 := Lib.hid (fun W ha => @validN (.slice bo (len M) cb) M W (by omega) ha)
  have CM := Lib.hid (fun W ha => @modulus_c (.slice co (len K) cc) (digs K) true W (mdl_digs.2 ⟨by omega, hk⟩) ha)
  have CL1 := Lib.hid (fun W ha hb => @less_c (.slice ao (len N) ca) (.slice co (len K) cc) N K true W (decide_eq_true hn) (by omega) (by omega) ha hb)
  have CL2 := Lib.hid (fun W ha hb => @less_c (.slice bo (len M) cb) (.slice co (len K) cc) M K true W (decide_eq_true hm) (by omega) (by omega) ha hb)
  clear hn hm hk k1 k2
  have E0 : Hid (EnvB w [] [(.slice co (len K) cc, digs K), (.slice bo (len M) cb, digs M), (.slice ao (len N) ca, digs N)] w) := Lib.hid ((((EnvB.start w).numN ha).numN hb).numN hc)
  clear ha hb hc
  go_enter Tryd.func178, Tryd.ntmps178
  go_wp2_with fail
  have E1 : Hid (EnvB w [(w.heap.size + 1 + 1, .slice co (len K) cc), (w.heap.size + 1, .slice bo (len M) cb), (w.heap.size, .slice ao (len N) ca)] [(.slice co (len K) cc, digs K), (.slice bo (len M) cb, digs M), (.slice ao (len N) ca, digs N)] _) := Lib.hid ((((E0.out.push (.slice ao (len N) ca) 96 ⟨_, _, _, rfl⟩ (w.heap.size) (by simp)).push (.slice bo (len M) cb) 96 ⟨_, _, _, rfl⟩ (w.heap.size + 1) (by simp)).push (.slice co (len K) cc) 96 ⟨_, _, _, rfl⟩ (w.heap.size + 1 + 1) (by simp)))
  refine (CV1.out _ (E1.out.nt 2 rfl)).mono ?_
  rintro e w1 ⟨rfl, hb⟩
  have E2 : Hid (EnvB w [(w.heap.size + 1 + 1, .slice co (len K) cc), (w.heap.size + 1, .slice bo (len M) cb), (w.heap.size, .slice ao (len N) ca)] [(.slice co (len K) cc, digs K), (.slice bo (len M) cb, digs M), (.slice ao (len N) ca, digs N)] _) := Lib.hid ((E1.out.below hb))
  clear E1 E0 hb
  obtain ⟨p1, f1, -, -, -⟩ := E2.out.box 1 rfl
  go_wp2_with fail
  refine (CV2.out _ (E2.out.nt 1 rfl)).mono ?_
  rintro e w2 ⟨rfl, hb⟩
  have E3 : Hid (EnvB w [(w.heap.size + 1 + 1, .slice co (len K) cc), (w.heap.size + 1, .slice bo (len M) cb), (w.heap.size, .slice ao (len N) ca)] [(.slice co (len K) cc, digs K), (.slice bo (len M) cb, digs M), (.slice ao (len N) ca, digs N)] _) := Lib.hid ((E2.out.below hb))
  clear p1 f1 E2 hb
  obtain ⟨p2, f2, -, -, -⟩ := E3.out.box 0 rfl
  go_wp2_with fail
  refine (CM.out _ (E3.out.nt 0 rfl)).mono ?_
  rintro e w3 ⟨rfl, hb⟩
  have E4 : Hid (EnvB w [(w.heap.size + 1 + 1, .slice co (len K) cc), (w.heap.size + 1, .slice bo (len M) cb), (w.heap.size, .slice ao (len N) ca)] [(.slice co (len K) cc, digs K), (.slice bo (len M) cb, digs M), (.slice ao (len N) ca, digs N)] _) := Lib.hid ((E3.out.below hb))
  clear p2 f2 E3 hb
  obtain ⟨p3, f3, -, -, -⟩ := E4.out.box 2 rfl
  obtain ⟨p4, f4, -, -, -⟩ := E4.out.box 0 rfl
  go_wp2_with fail
  refine (CL1.out _ (E4.out.nt 2 rfl) (E4.out.nt 0 rfl)).mono ?_
  rintro e w4 ⟨rfl, hb⟩
  have E5 : Hid (EnvB w [(w.heap.size + 1 + 1, .slice co (len K) cc), (w.heap.size + 1, .slice bo (len M) cb), (w.heap.size, .slice ao (len N) ca)] [(.slice co (len K) cc, digs K), (.slice bo (len M) cb, digs M), (.slice ao (len N) ca, digs N)] _) := Lib.hid ((E4.out.below hb))
  clear p3 f3 p4 f4 E4 hb
  obtain ⟨p5, f5, -, -, -⟩ := E5.out.box 1 rfl
  obtain ⟨p6, f6, -, -, -⟩ := E5.out.box 0 rfl
  go_wp2_with fail
  refine (CL2.out _ (E5.out.nt 1 rfl) (E5.out.nt 0 rfl)).mono ?_
  rintro e w5 ⟨rfl, hb⟩
  have E6 : Hid (EnvB w [(w.heap.size + 1 + 1, .slice co (len K) cc), (w.heap.size + 1, .slice bo (len M) cb), (w.heap.size, .slice ao (len N) ca)] [(.slice co (len K) cc, digs K), (.slice bo (len M) cb, digs M), (.slice ao (len N) ca, digs N)] _) := Lib.hid ((E5.out.below hb))
  clear p5 f5 p6 f6 E5 hb
  have hfin := Lib.hid E6.out.1
  go_wp2
  go_ret
  exact ⟨rfl, hfin.out⟩
set_option maxRecDepth 100000 in
set_option maxHeartbeats 1000000 in
theorem given_r1 (ao : Option Addr) (ca : Nat) (bo : Option Addr) (cb : Nat) (co : Option Addr) (cc : Nat) (N M K : Nat)  (w : World) (ha : Nt w (.slice ao (len N) ca) N) (hb : Nt w (.slice bo (len M) cb) M) (hc : Nt w (.slice co (len K) cc) K) (h1 : len N ≤ 64) (h2 : len M ≤ 64) (h0 : K ≠ 0) (hk : len K ≤ 32) (hn : ¬ N < K) :
    Calls Tryd.prog 178 #[.agg #[.slice ao (len N) ca], .agg #[.slice bo (len M) cb], .agg #[.slice co (len K) cc]] w fun e w' => e = .returned (.int .i64 2) ∧ Below w.heap.size w w' := by
  have CV1 := Lib.hid (fun W ha => @validN (.slice ao (len N) ca) N W (by omega) ha)
  have CV2 := Lib.hid (fun W ha => @validN (.slice bo (len M) cb) M W (by omega) ha)
  have CM := Lib.hid (fun W ha => @modulus_c (.slice co (len K) cc) (digs K) true W (mdl_digs.2 ⟨h0, hk⟩) ha)
  have CL1 := Lib.hid (fun W ha hb => @less_c (.slice ao (len N) ca) (.slice co (len K) cc) N K false W (decide_eq_false hn) (by omega) (by omega) ha hb)
  clear hn hk h0 h1 h2
  have E0 : Hid (EnvB w [] [(.slice co (len K) cc, digs K), (.slice bo (len M) cb, digs M), (.slice ao (len N) ca, digs N)] w) := Lib.hid ((((EnvB.start w).numN ha).numN hb).numN hc)
  clear ha hb hc
  go_enter Tryd.func178, Tryd.ntmps178
  go_wp2_with fail
  have E1 : Hid (EnvB w [(w.heap.size + 1 + 1, .slice co (len K) cc), (w.heap.size + 1, .slice bo (len M) cb), (w.heap.size, .slice ao (len N) ca)] [(.slice co (len K) cc, digs K), (.slice bo (len M) cb, digs M), (.slice ao (len N) ca, digs N)] _) := Lib.hid ((((E0.out.push (.slice ao (len N) ca) 96 ⟨_, _, _, rfl⟩ (w.heap.size) (by simp)).push (.slice bo (len M) cb) 96 ⟨_, _, _, rfl⟩ (w.heap.size + 1) (by simp)).push (.slice co (len K) cc) 96 ⟨_, _, _, rfl⟩ (w.heap.size + 1 + 1) (by simp)))
  refine (CV1.out _ (E1.out.nt 2 rfl)).mono ?_
  rintro e w1 ⟨rfl, hb⟩
  have E2 : Hid (EnvB w [(w.heap.size + 1 + 1, .slice co (len K) cc), (w.heap.size + 1, .slice bo (len M) cb), (w.heap.size, .slice ao (len N) ca)] [(.slice co (len K) cc, digs K), (.slice bo (len M) cb, digs M), (.slice ao (len N) ca, digs N)] _) := Lib.hid ((E1.out.below hb))
  clear E1 E0 hb
  obtain ⟨p1, f1, -, -, -⟩ := E2.out.box 1 rfl
  go_wp2_with fail
  refine (CV2.out _ (E2.out.nt 1 rfl)).mono ?_
  rintro e w2 ⟨rfl, hb⟩
  have E3 : Hid (EnvB w [(w.heap.size + 1 + 1, .slice co (len K) cc), (w.heap.size + 1, .slice bo (len M) cb), (w.heap.size, .slice ao (len N) ca)] [(.slice co (len K) cc, digs K), (.slice bo (len M) cb, digs M), (.slice ao (len N) ca, digs N)] _) := Lib.hid ((E2.out.below hb))
  clear p1 f1 E2 hb
  obtain ⟨p2, f2, -, -, -⟩ := E3.out.box 0 rfl
  go_wp2_with fail
  refine (CM.out _ (E3.out.nt 0 rfl)).mono ?_
  rintro e w3 ⟨rfl, hb⟩
  have E4 : Hid (EnvB w [(w.heap.size + 1 + 1, .slice co (len K) cc), (w.heap.size + 1, .slice bo (len M) cb), (w.heap.size, .slice ao (len N) ca)] [(.slice co (len K) cc, digs K), (.slice bo (len M) cb, digs M), (.slice ao (len N) ca, digs N)] _) := Lib.hid ((E3.out.below hb))
  clear p2 f2 E3 hb
  obtain ⟨p3, f3, -, -, -⟩ := E4.out.box 2 rfl
  obtain ⟨p4, f4, -, -, -⟩ := E4.out.box 0 rfl
  go_wp2_with fail
  refine (CL1.out _ (E4.out.nt 2 rfl) (E4.out.nt 0 rfl)).mono ?_
  rintro e w4 ⟨rfl, hb⟩
  have E5 : Hid (EnvB w [(w.heap.size + 1 + 1, .slice co (len K) cc), (w.heap.size + 1, .slice bo (len M) cb), (w.heap.size, .slice ao (len N) ca)] [(.slice co (len K) cc, digs K), (.slice bo (len M) cb, digs M), (.slice ao (len N) ca, digs N)] _) := Lib.hid ((E4.out.below hb))
  clear p3 f3 p4 f4 E4 hb
  have hfin := Lib.hid E5.out.1
  go_wp2
  go_ret
  exact ⟨rfl, hfin.out⟩
set_option maxRecDepth 100000 in
set_option maxHeartbeats 1000000 in
theorem given_r2 (ao : Option Addr) (ca : Nat) (bo : Option Addr) (cb : Nat) (co : Option Addr) (cc : Nat) (N M K : Nat)  (w : World) (ha : Nt w (.slice ao (len N) ca) N) (hb : Nt w (.slice bo (len M) cb) M) (hc : Nt w (.slice co (len K) cc) K) (h1 : len N ≤ 64) (h2 : len M ≤ 64) (h0 : K ≠ 0) (hk : len K ≤ 32) (hn : N < K) (hm : ¬ M < K) :
    Calls Tryd.prog 178 #[.agg #[.slice ao (len N) ca], .agg #[.slice bo (len M) cb], .agg #[.slice co (len K) cc]] w fun e w' => e = .returned (.int .i64 2) ∧ Below w.heap.size w w' := by
  have CV1 := Lib.hid (fun W ha => @validN (.slice ao (len N) ca) N W (by omega) ha)
  have CV2 := Lib.hid (fun W ha => @validN (.slice bo (len M) cb) M W (by omega) ha)
  have CM := Lib.hid (fun W ha => @modulus_c (.slice co (len K) cc) (digs K) true W (mdl_digs.2 ⟨h0, hk⟩) ha)
  have CL1 := Lib.hid (fun W ha hb => @less_c (.slice ao (len N) ca) (.slice co (len K) cc) N K true W (decide_eq_true hn) (by omega) (by omega) ha hb)
  have CL2 := Lib.hid (fun W ha hb => @less_c (.slice bo (len M) cb) (.slice co (len K) cc) M K false W (decide_eq_false hm) (by omega) (by omega) ha hb)
  clear hn hk h0 h1 h2 hm
  have E0 : Hid (EnvB w [] [(.slice co (len K) cc, digs K), (.slice bo (len M) cb, digs M), (.slice ao (len N) ca, digs N)] w) := Lib.hid ((((EnvB.start w).numN ha).numN hb).numN hc)
  clear ha hb hc
  go_enter Tryd.func178, Tryd.ntmps178
  go_wp2_with fail
  have E1 : Hid (EnvB w [(w.heap.size + 1 + 1, .slice co (len K) cc), (w.heap.size + 1, .slice bo (len M) cb), (w.heap.size, .slice ao (len N) ca)] [(.slice co (len K) cc, digs K), (.slice bo (len M) cb, digs M), (.slice ao (len N) ca, digs N)] _) := Lib.hid ((((E0.out.push (.slice ao (len N) ca) 96 ⟨_, _, _, rfl⟩ (w.heap.size) (by simp)).push (.slice bo (len M) cb) 96 ⟨_, _, _, rfl⟩ (w.heap.size + 1) (by simp)).push (.slice co (len K) cc) 96 ⟨_, _, _, rfl⟩ (w.heap.size + 1 + 1) (by simp)))
  refine (CV1.out _ (E1.out.nt 2 rfl)).mono ?_
  rintro e w1 ⟨rfl, hb⟩
  have E2 : Hid (EnvB w [(w.heap.size + 1 + 1, .slice co (len K) cc), (w.heap.size + 1, .slice bo (len M) cb), (w.heap.size, .slice ao (len N) ca)] [(.slice co (len K) cc, digs K), (.slice bo (len M) cb, digs M), (.slice ao (len N) ca, digs N)] _) := Lib.hid ((E1.out.below hb))
  clear E1 E0 hb
  obtain ⟨p1, f1, -, -, -⟩ := E2.out.box 1 rfl
  go_wp2_with fail
  refine (CV2.out _ (E2.out.nt 1 rfl)).mono ?_
  rintro e w2 ⟨rfl, hb⟩
  have E3 : Hid (EnvB w [(w.heap.size + 1 + 1, .slice co (len K) cc), (w.heap.size + 1, .slice bo (len M) cb), (w.heap.size, .slice ao (len N) ca)] [(.slice co (len K) cc, digs K), (.slice bo (len M) cb, digs M), (.slice ao (len N) ca, digs N)] _) := Lib.hid ((E2.out.below hb))
  clear p1 f1 E2 hb
  obtain ⟨p2, f2, -, -, -⟩ := E3.out.box 0 rfl
  go_wp2_with fail
  refine (CM.out _ (E3.out.nt 0 rfl)).mono ?_
  rintro e w3 ⟨rfl, hb⟩
  have E4 : Hid (EnvB w [(w.heap.size + 1 + 1, .slice co (len K) cc), (w.heap.size + 1, .slice bo (len M) cb), (w.heap.size, .slice ao (len N) ca)] [(.slice co (len K) cc, digs K), (.slice bo (len M) cb, digs M), (.slice ao (len N) ca, digs N)] _) := Lib.hid ((E3.out.below hb))
  clear p2 f2 E3 hb
  obtain ⟨p3, f3, -, -, -⟩ := E4.out.box 2 rfl
  obtain ⟨p4, f4, -, -, -⟩ := E4.out.box 0 rfl
  go_wp2_with fail
  refine (CL1.out _ (E4.out.nt 2 rfl) (E4.out.nt 0 rfl)).mono ?_
  rintro e w4 ⟨rfl, hb⟩
  have E5 : Hid (EnvB w [(w.heap.size + 1 + 1, .slice co (len K) cc), (w.heap.size + 1, .slice bo (len M) cb), (w.heap.size, .slice ao (len N) ca)] [(.slice co (len K) cc, digs K), (.slice bo (len M) cb, digs M), (.slice ao (len N) ca, digs N)] _) := Lib.hid ((E4.out.below hb))
  clear p3 f3 p4 f4 E4 hb
  obtain ⟨p5, f5, -, -, -⟩ := E5.out.box 1 rfl
  obtain ⟨p6, f6, -, -, -⟩ := E5.out.box 0 rfl
  go_wp2_with fail
  refine (CL2.out _ (E5.out.nt 1 rfl) (E5.out.nt 0 rfl)).mono ?_
  rintro e w5 ⟨rfl, hb⟩
  have E6 : Hid (EnvB w [(w.heap.size + 1 + 1, .slice co (len K) cc), (w.heap.size + 1, .slice bo (len M) cb), (w.heap.size, .slice ao (len N) ca)] [(.slice co (len K) cc, digs K), (.slice bo (len M) cb, digs M), (.slice ao (len N) ca, digs N)] _) := Lib.hid ((E5.out.below hb))
  clear p5 f5 p6 f6 E5 hb
  have hfin := Lib.hid E6.out.1
  go_wp2
  go_ret
  exact ⟨rfl, hfin.out⟩
set_option maxRecDepth 100000 in
set_option maxHeartbeats 1000000 in
theorem given_a1 (ao : Option Addr) (ca : Nat) (bo : Option Addr) (cb : Nat) (co : Option Addr) (cc : Nat) (la lb lc : List Nat)  (w : World) (ha : Sl w (.slice ao la.length ca) la) (hb : Sl w (.slice bo lb.length cb) lb) (hc : Sl w (.slice co lc.length cc) lc) (hv : vld la = false) :
    Calls Tryd.prog 178 #[.agg #[.slice ao la.length ca], .agg #[.slice bo lb.length cb], .agg #[.slice co lc.length cc]] w fun e w' => e = .returned (.int .i64 1) ∧ Below w.heap.size w w' := by
  have CV1 := Lib.hid (fun W ha => @validF (.slice ao la.length ca) W la false hv ha)
  clear hv
  have E0 : Hid (EnvB w [] [(.slice co lc.length cc, lc), (.slice bo lb.length cb, lb), (.slice ao la.length ca, la)] w) := Lib.hid ((((EnvB.start w).num ha).num hb).num hc)
  clear ha hb hc
  generalize la.length = na at *
  generalize lb.length = nb at *
  generalize lc.length = nc at *
  go_enter Tryd.func178, Tryd.ntmps178
  go_wp2_with fail
  have E1 : Hid (EnvB w [(w.heap.size + 1 + 1, .slice co nc cc), (w.heap.size + 1, .slice bo nb cb), (w.heap.size, .slice ao na ca)] [(.slice co nc cc, lc), (.slice bo nb cb, lb), (.slice ao na ca, la)] _) := Lib.hid ((((E0.out.push (.slice ao na ca) 96 ⟨_, _, _, rfl⟩ (w.heap.size) (by simp)).push (.slice bo nb cb) 96 ⟨_, _, _, rfl⟩ (w.heap.size + 1) (by simp)).push (.slice co nc cc) 96 ⟨_, _, _, rfl⟩ (w.heap.size + 1 + 1) (by simp)))
  refine (CV1.out _ (E1.out.sl 2 rfl)).mono ?_
  rintro e w1 ⟨rfl, hb⟩
  have E2 : Hid (EnvB w [(w.heap.size + 1 + 1, .slice co nc cc), (w.heap.size + 1, .slice bo nb cb), (w.heap.size, .slice ao na ca)] [(.slice co nc cc, lc), (.slice bo nb cb, lb), (.slice ao na ca, la)] _) := Lib.hid ((E1.out.below hb))
  clear E1 E0 hb
  have hfin := Lib.hid E2.out.1
  go_wp2
  go_ret
  exact ⟨rfl, hfin.out⟩
set_option maxRecDepth 100000 in
set_option maxHeartbeats 1000000 in
theorem given_a2 (ao : Option Addr) (ca : Nat) (bo : Option Addr) (cb : Nat) (co : Option Addr) (cc : Nat) (la lb lc : List Nat)  (w : World) (ha : Sl w (.slice ao la.length ca) la) (hb : Sl w (.slice bo lb.length cb) lb) (hc : Sl w (.slice co lc.length cc) lc) (h1 : vld la = true) (hv : vld lb = false) :
    Calls Tryd.prog 178 #[.agg #[.slice ao la.length ca], .agg #[.slice bo lb.length cb], .agg #[.slice co lc.length cc]] w fun e w' => e = .returned (.int .i64 1) ∧ Below w.heap.size w w' := by
  have CV1 := Lib.hid (fun W ha => @validF (.slice ao la.length ca) W la true h1 ha)
  have CV2 := Lib.hid (fun W ha => @validF (.slice bo lb.length cb) W lb false hv ha)
  clear hv h1
  have E0 : Hid (EnvB w [] [(.slice co lc.length cc, lc), (.slice bo lb.length cb, lb), (.slice ao la.length ca, la)] w) := Lib.hid ((((EnvB.start w).num ha).num hb).num hc)
  clear ha hb hc
  generalize la.length = na at *
  generalize lb.length = nb at *
  generalize lc.length = nc at *
  go_enter Tryd.func178, Tryd.ntmps178
  go_wp2_with fail
  have E1 : Hid (EnvB w [(w.heap.size + 1 + 1, .slice co nc cc), (w.heap.size + 1, .slice bo nb cb), (w.heap.size, .slice ao na ca)] [(.slice co nc cc, lc), (.slice bo nb cb, lb), (.slice ao na ca, la)] _) := Lib.hid ((((E0.out.push (.slice ao na ca) 96 ⟨_, _, _, rfl⟩ (w.heap.size) (by simp)).push (.slice bo nb cb) 96 ⟨_, _, _, rfl⟩ (w.heap.size + 1) (by simp)).push (.slice co nc cc) 96 ⟨_, _, _, rfl⟩ (w.heap.size + 1 + 1) (by simp)))
  refine (CV1.out _ (E1.out.sl 2 rfl)).mono ?_
  rintro e w1 ⟨rfl, hb⟩
  have E2 : Hid (EnvB w [(w.heap.size + 1 + 1, .slice co nc cc), (w.heap.size + 1, .slice bo nb cb), (w.heap.size, .slice ao na ca)] [(.slice co nc cc, lc), (.slice bo nb cb, lb), (.slice ao na ca, la)] _) := Lib.hid ((E1.out.below hb))
  clear E1 E0 hb
  obtain ⟨p1, f1, -, -, -⟩ := E2.out.box 1 rfl
  go_wp2_with fail
  refine (CV2.out _ (E2.out.sl 1 rfl)).mono ?_
  rintro e w2 ⟨rfl, hb⟩
  have E3 : Hid (EnvB w [(w.heap.size + 1 + 1, .slice co nc cc), (w.heap.size + 1, .slice bo nb cb), (w.heap.size, .slice ao na ca)] [(.slice co nc cc, lc), (.slice bo nb cb, lb), (.slice ao na ca, la)] _) := Lib.hid ((E2.out.below hb))
  clear p1 f1 E2 hb
  have hfin := Lib.hid E3.out.1
  go_wp2
  go_ret
  exact ⟨rfl, hfin.out⟩
set_option maxRecDepth 100000 in
set_option maxHeartbeats 1000000 in
theorem given_a3 (ao : Option Addr) (ca : Nat) (bo : Option Addr) (cb : Nat) (co : Option Addr) (cc : Nat) (la lb lc : List Nat)  (w : World) (ha : Sl w (.slice ao la.length ca) la) (hb : Sl w (.slice bo lb.length cb) lb) (hc : Sl w (.slice co lc.length cc) lc) (h1 : vld la = true) (h2 : vld lb = true) (hv : mdl lc = false) :
    Calls Tryd.prog 178 #[.agg #[.slice ao la.length ca], .agg #[.slice bo lb.length cb], .agg #[.slice co lc.length cc]] w fun e w' => e = .returned (.int .i64 1) ∧ Below w.heap.size w w' := by
  have CV1 := Lib.hid (fun W ha => @validF (.slice ao la.length ca) W la true h1 ha)
  have CV2 := Lib.hid (fun W ha => @validF (.slice bo lb.length cb) W lb true h2 ha)
  have CM := Lib.hid (fun W ha => @modulus_c (.slice co lc.length cc) lc false W hv ha)
  clear hv h1 h2
  have E0 : Hid (EnvB w [] [(.slice co lc.length cc, lc), (.slice bo lb.length cb, lb), (.slice ao la.length ca, la)] w) := Lib.hid ((((EnvB.start w).num ha).num hb).num hc)
  clear ha hb hc
  generalize la.length = na at *
  generalize lb.length = nb at *
  generalize lc.length = nc at *
  go_enter Tryd.func178, Tryd.ntmps178
  go_wp2_with fail
  have E1 : Hid (EnvB w [(w.heap.size + 1 + 1, .slice co nc cc), (w.heap.size + 1, .slice bo nb cb), (w.heap.size, .slice ao na ca)] [(.slice co nc cc, lc), (.slice bo nb cb, lb), (.slice ao na ca, la)] _) := Lib.hid ((((E0.out.push (.slice ao na ca) 96 ⟨_, _, _, rfl⟩ (w.heap.size) (by simp)).push (.slice bo nb cb) 96 ⟨_, _, _, rfl⟩ (w.heap.size + 1) (by simp)).push (.slice co nc cc) 96 ⟨_, _, _, rfl⟩ (w.heap.size + 1 + 1) (by simp)))
  refine (CV1.out _ (E1.out.sl 2 rfl)).mono ?_
  rintro e w1 ⟨rfl, hb⟩
  have E2 : Hid (EnvB w [(w.heap.size + 1 + 1, .slice co nc cc), (w.heap.size + 1, .slice bo nb cb), (w.heap.size, .slice ao na ca)] [(.slice co nc cc, lc), (.slice bo nb cb, lb), (.slice ao na ca, la)] _) := Lib.hid ((E1.out.below hb))
  clear E1 E0 hb
  obtain ⟨p1, f1, -, -, -⟩ := E2.out.box 1 rfl
  go_wp2_with fail
  refine (CV2.out _ (E2.out.sl 1 rfl)).mono ?_
  rintro e w2 ⟨rfl, hb⟩
  have E3 : Hid (EnvB w [(w.heap.size + 1 + 1, .slice co nc cc), (w.heap.size + 1, .slice bo nb cb), (w.heap.size, .slice ao na ca)] [(.slice co nc cc, lc), (.slice bo nb cb, lb), (.slice ao na ca, la)] _) := Lib.hid ((E2.out.below hb))
  clear p1 f1 E2 hb
  obtain ⟨p2, f2, -, -, -⟩ := E3.out.box 0 rfl
  go_wp2_with fail
  refine (CM.out _ (E3.out.sl 0 rfl)).mono ?_
  rintro e w3 ⟨rfl, hb⟩
  have E4 : Hid (EnvB w [(w.heap.size + 1 + 1, .slice co nc cc), (w.heap.size + 1, .slice bo nb cb), (w.heap.size, .slice ao na ca)] [(.slice co nc cc, lc), (.slice bo nb cb, lb), (.slice ao na ca, la)] _) := Lib.hid ((E3.out.below hb))
  clear p2 f2 E3 hb
  have hfin := Lib.hid E4.out.1
  go_wp2
  go_ret
  exact ⟨rfl, hfin.out⟩
section
variable {a b c : Value} {N M K r : Nat} {la lb lc : List Nat} {w : World}
theorem given_ok (hn : N < K) (hm : M < K) (hk : len K ≤ 32) (ha : Nt w a N) (hb : Nt w b M) (hc : Nt w c K) :
    Calls Tryd.prog 178 #[.agg #[a], .agg #[b], .agg #[c]] w fun e w' => e = .returned (.int .i64 0) ∧ Below w.heap.size w w' := by
  obtain ⟨ao, ca, rfl, _⟩ := ha.open
  obtain ⟨bo, cb, rfl, _⟩ := hb.open
  obtain ⟨co, cc, rfl, _⟩ := hc.open
  exact given_w ao ca bo cb co cc N M K w ha hb hc hn hm hk
/-- the code of what is given -/
def gvn (la lb lc : List Nat) : Int := if vld la = true ∧ vld lb = true ∧ mdl lc = true then (if val la < val lc ∧ val lb < val lc then 0 else 2) else 1
theorem given_c {g : Int} (hg : gvn la lb lc = g) (ha : Sl w a la) (hb : Sl w b lb) (hc : Sl w c lc) :
    Calls Tryd.prog 178 #[.agg #[a], .agg #[b], .agg #[c]] w fun e w' => e = .returned (.int .i64 g) ∧ Below w.heap.size w w' := by
  subst hg
  by_cases h : vld la = true ∧ vld lb = true ∧ mdl lc = true
  · obtain ⟨h1, h2, h3⟩ := h
    have hg : gvn la lb lc = if val la < val lc ∧ val lb < val lc then 0 else 2 := if_pos ⟨h1, h2, h3⟩
    obtain ⟨N, rfl, l1, hN⟩ := nt_of ha h1
    obtain ⟨M, rfl, l2, hM⟩ := nt_of hb h2
    have h4 : vld lc = true := by unfold mdl at h3; simp only [Bool.and_eq_true] at h3; exact h3.1
    obtain ⟨K, rfl, l3, hK⟩ := nt_of hc h4
    rw [val_digs, val_digs, val_digs] at hg
    obtain ⟨k0, k1⟩ := mdl_digs.1 h3
    rw [hg]
    obtain ⟨ao, ca, rfl, _⟩ := hN.open
    obtain ⟨bo, cb, rfl, _⟩ := hM.open
    obtain ⟨co, cc, rfl, _⟩ := hK.open
    by_cases hn : N < K
    · by_cases hm : M < K
      · rw [if_pos ⟨hn, hm⟩]; exact given_w ao ca bo cb co cc N M K w hN hM hK hn hm k1
      · rw [if_neg (fun h => hm h.2)]; exact given_r2 ao ca bo cb co cc N M K w hN hM hK l1 l2 k0 k1 hn hm
    · rw [if_neg (fun h => hn h.1)]; exact given_r1 ao ca bo cb co cc N M K w hN hM hK l1 l2 k0 k1 hn
  · have hg : gvn la lb lc = 1 := if_neg h
    rw [hg]
    obtain ⟨ao, ca, rfl, _⟩ := ha.open
    obtain ⟨bo, cb, rfl, _⟩ := hb.open
    obtain ⟨co, cc, rfl, _⟩ := hc.open
    cases h1 : vld la
    · exact given_a1 ao ca bo cb co cc la lb lc w ha hb hc h1
    · cases h2 : vld lb
      · exact given_a2 ao ca bo cb co cc la lb lc w ha hb hc h1 h2
      · cases h3 : mdl lc
        · exact given_a3 ao ca bo cb co cc la lb lc w ha hb hc h1 h2 h3
        · exact absurd ⟨h1, h2, h3⟩ h
end

end Nn
end Go.Proofs.YtinlfogpbologaaDoor


/- Package natmod: Gcd, Pow, the inverse. -/
namespace Go.Proofs.YtinlfogpbologaaDoor
namespace Nn
open Go.RowKit NatMath
set_option linter.unusedVariables false

theorem Clone_F {v : Value} {N : Nat} {w : World} (hl : len N ≤ 1000000) (h : Nt w v N) :
    Calls Tryd.prog 169 #[v] w fun e w' => (∃ (ao : Option Addr) (k : Nat), e = .returned (.slice ao (len N) k) ∧ Hid (Nt w' (.slice ao (len N) k) N)) ∧ Below w.heap.size w w' := by
  refine (Clone_c v N w h hl).mono ?_
  rintro e w' ⟨⟨v', hv, rfl⟩, hb⟩
  have hN := hv.out.1
  obtain ⟨ao, c, rfl, _⟩ := hN.open
  exact ⟨⟨ao, c, rfl, Lib.hid hN⟩, hb⟩

def GcdI (N M k X Y : Nat) : Prop := k = Y ∧ Nat.gcd X Y = Nat.gcd N M ∧ len X ≤ 64 ∧ len Y ≤ 64

def PowI (N E K k P : Nat) (g : Nat) : Prop := g = k ∧ k ≤ bl E ∧ P = N ^ (E / 2 ^ k) % K

set_option maxRecDepth 100000 in
set_option maxHeartbeats 1000000 in
theorem Pow_w (ao : Option Addr) (ca : Nat) (bo : Option Addr) (cb : Nat) (co : Option Addr) (cc : Nat) (N E K : Nat)  (w : World) (ha : Nt w (.slice ao (len N) ca) N) (hb : Nt w (.slice bo (len E) cb) E) (hc : Nt w (.slice co (len K) cc) K) (he : len E ≤ 64) (hn : N < K) (hk : len K ≤ 32) :
    Calls Tryd.prog 167 #[.agg #[.slice ao (len N) ca], .agg #[.slice bo (len E) cb], .agg #[.slice co (len K) cc]] w fun e w' => ResN (N ^ E % K) 0 e w' ∧ Below w.heap.size w w' := by
  have hK0 : K ≠ 0 := by omega
  have CV := Lib.hid (fun W ha => @validN (.slice bo (len E) cb) E W he ha)
  have CG := Lib.hid (fun W ha hb hc => @given_ok (.slice ao (len N) ca) (.slice ao (len N) ca) (.slice co (len K) cc) N N K W hn hn hk ha hb hc)
  have CR := Lib.hid (fun (u : Value) W ha hb => @rest_c u (.slice co (len K) cc) 1 K (1 % K) W rfl (by rw [len_one]; omega) (by omega) hK0 ha hb)
  have CB := Lib.hid (fun W ha => @bitsF (.slice bo (len E) cb) E W (bl E) rfl he ha)
  have CT := Lib.hid (fun (j : Nat) W (hj : (j : Int) ≤ 9223372036854775807) ha => Bit_c (.slice bo (len E) cb) E j W ha he hj)
  have CM := Lib.hid (fun (u v : Value) (X Y : Nat) W hx hy ha hb hc => @mul_c u v (.slice co (len K) cc) X Y K (X * Y % K) W rfl hx hy hk ha hb hc)
  have hbe : bl E ≤ 2048 := len_le_bits.2 he
  have HS : Hid (PowI N E K (bl E) (1 % K) (bl E)) := Lib.hid ⟨rfl, Nat.le_refl _, (powm_start N E K).symm⟩
  have HNK : Hid (N < K) := Lib.hid hn
  have HBE : Hid (bl E ≤ 2048) := Lib.hid hbe
  clear he hn hk hK0 hbe
  have E0 : Hid (EnvB w [] [(.slice co (len K) cc, digs K), (.slice bo (len E) cb, digs E), (.slice ao (len N) ca, digs N)] w) := Lib.hid ((((EnvB.start w).numN ha).numN hb).numN hc)
  clear ha hb hc
  go_enter Tryd.func167, Tryd.ntmps167
  go_wp2_with fail
  have E1 : Hid (EnvB w [(w.heap.size + 1 + 1 + 1, .slice none 0 0), (w.heap.size + 1 + 1, .slice co (len K) cc), (w.heap.size + 1, .slice bo (len E) cb), (w.heap.size, .slice ao (len N) ca)] [(.slice co (len K) cc, digs K), (.slice bo (len E) cb, digs E), (.slice ao (len N) ca, digs N)] _) := Lib.hid (((((E0.out.push (.slice ao (len N) ca) 96 ⟨_, _, _, rfl⟩ (w.heap.size) (by simp)).push (.slice bo (len E) cb) 96 ⟨_, _, _, rfl⟩ (w.heap.size + 1) (by simp)).push (.slice co (len K) cc) 96 ⟨_, _, _, rfl⟩ (w.heap.size + 1 + 1) (by simp)).push (.slice none 0 0) 96 ⟨_, _, _, rfl⟩ (w.heap.size + 1 + 1 + 1) (by simp)))
  refine (CV.out _ (E1.out.nt 1 rfl)).mono ?_
  rintro e w1 ⟨rfl, hb⟩
  have E2 : Hid (EnvB w [(w.heap.size + 1 + 1 + 1, .slice none 0 0), (w.heap.size + 1 + 1, .slice co (len K) cc), (w.heap.size + 1, .slice bo (len E) cb), (w.heap.size, .slice ao (len N) ca)] [(.slice co (len K) cc, digs K), (.slice bo (len E) cb, digs E), (.slice ao (len N) ca, digs N)] _) := Lib.hid ((E1.out.below hb))
  clear E1 E0 hb
  obtain ⟨p1, f1, -, -, -⟩ := E2.out.box 3 rfl
  obtain ⟨p2, f2, -, -, -⟩ := E2.out.box 1 rfl
  go_wp2_with fail
  refine (CG.out _ (E2.out.nt 2 rfl) (E2.out.nt 2 rfl) (E2.out.nt 0 rfl)).mono ?_
  rintro e w2 ⟨rfl, hb⟩
  have E3 : Hid (EnvB w [(w.heap.size + 1 + 1 + 1, .slice none 0 0), (w.heap.size + 1 + 1, .slice co (len K) cc), (w.heap.size + 1, .slice bo (len E) cb), (w.heap.size, .slice ao (len N) ca)] [(.slice co (len K) cc, digs K), (.slice bo (len E) cb, digs E), (.slice ao (len N) ca, digs N)] _) := Lib.hid ((E2.out.below hb))
  clear p1 f1 p2 f2 E2 hb
  go_wp2_with fail
  have bx0 := Lib.hid (E3.out.box 1 rfl)
  refine' wp_region_phase (by kernel_rfl) [0, 1, 2, 3] (by kernel_rfl) #[true, true, true, true, false] (by kernel_rfl) 1 (by kernel_rfl) [PNum (1), PEq (.agg #[.slice co (len K) cc]), PNum ((1 % K)), PBox w2.heap.size, Fact.none] (List.forall_mem_cons.2 ⟨PNum.st _, List.forall_mem_cons.2 ⟨PEq.st _, List.forall_mem_cons.2 ⟨PNum.st _, List.forall_mem_cons.2 ⟨PBox.st _, List.forall_mem_cons.2 ⟨Fact.none_st, List.forall_mem_nil _⟩⟩⟩⟩⟩) _ ?hFr2 ?stepr2 ?doner2
  case hFr2 => intro x; simp only [frameL, Act.put, List.setIfInBounds_toArray, List.set_cons_zero, List.set_cons_succ, Nat.zero_add, Nat.reduceAdd]; exact rfl
  case stepr2 =>
    refine List.forall_mem_cons.2 ⟨?_, ?_⟩
    · intro xv bv ev WW hB hd
      refine op_of rfl ?_
      clear hd
      intro KK hKK
      go_simp
      refine (one_c _).mono ?_
      rintro e WW' ⟨⟨ia, ik, rfl, hi⟩, hb⟩
      (try dsimp only)
      (try simp only [Act.put, List.setIfInBounds_toArray, List.set_cons_zero, List.set_cons_succ])
      exact act_eq (hKK.out _ _ hb ⟨_, _, rfl, hi⟩) (by first | rfl | simp [upd])
    refine List.forall_mem_cons.2 ⟨?_, ?_⟩
    · intro xv bv ev WW hB hd
      refine op_of rfl ?_
      clear hd
      intro KK hKK
      obtain ⟨z, -, -, -, -⟩ := bx0.out.below hB
      go_simp
      exact act_eq (hKK.out (.agg #[.slice co (len K) cc]) _ (Below.refl _ _) rfl) (by first | rfl | simp [upd])
    refine List.forall_mem_cons.2 ⟨?_, ?_⟩
    · intro xv bv ev WW hB hd
      refine op_of rfl ?_
      obtain ⟨ia, ik, ed0, hi⟩ := (show (PNum (1)) (xv 0) (bv 0) (ev 0) WW from hd 0 (by kernel_rfl))
      have ed1 : xv 1 = .agg #[.slice co (len K) cc] := hd 1 (by kernel_rfl)
      clear hd
      intro KK hKK
      go_simp
      refine (CR.out _ _ hi.out ((E3.out.below hB).nt 0 rfl)).mono ?_
      rintro e WW' ⟨⟨za, zk, rfl, hz⟩, hb⟩
      (try dsimp only)
      (try simp only [Act.put, List.setIfInBounds_toArray, List.set_cons_zero, List.set_cons_succ])
      exact act_eq (hKK.out _ _ hb ⟨_, _, rfl, hz⟩) (by first | rfl | simp [upd, ed0, ed1])
    refine List.forall_mem_cons.2 ⟨?_, ?_⟩
    · intro xv bv ev WW hB hd
      refine op_of rfl ?_
      clear hd
      intro KK hKK
      go_simp
      exact act_eq (hKK.out (.pointer (some ⟨WW.heap.size, 0, none⟩)) _ (below_one _ _) (PBox.mk hB rfl _)) (by first | rfl | simp [upd])
    exact List.forall_mem_nil _
  intro xv bv ev w3 hB hR hO
  obtain ⟨ia, ik, ed0, hi⟩ := (show (PNum (1)) (xv 0) (bv 0) (ev 0) w3 from hR 0 (by kernel_rfl))
  have ed1 : xv 1 = .agg #[.slice co (len K) cc] := hR 1 (by kernel_rfl)
  obtain ⟨za, zk, ed2, hz⟩ := (show (PNum ((1 % K))) (xv 2) (bv 2) (ev 2) w3 from hR 2 (by kernel_rfl))
  obtain ⟨gr2_3, ed3, hg3, hb3, he3, hc3, hf3, hs3⟩ := (show (PBox w2.heap.size) (xv 3) (bv 3) (ev 3) w3 from hR 3 (by kernel_rfl))
  simp only [ed0, ed1, ed2, ed3]
  have E4 : Hid (EnvB w [(gr2_3, .slice none 0 0), (w.heap.size + 1 + 1 + 1, .slice none 0 0), (w.heap.size + 1 + 1, .slice co (len K) cc), (w.heap.size + 1, .slice bo (len E) cb), (w.heap.size, .slice ao (len N) ca)] [(.slice za (len (1 % K)) zk, digs (1 % K)), (.slice ia (len 1) ik, digs 1), (.slice co (len K) cc, digs K), (.slice bo (len E) cb, digs E), (.slice ao (len N) ca, digs N)] _) := Lib.hid (((((E3.out.below hB).add gr2_3 (.slice none 0 0) ⟨hc3, hf3, hs3, Nat.le_trans E3.out.size hg3, ⟨_, _, _, rfl⟩⟩ (fun p hp => by have := E3.out.old p hp; omega)).numN (hi.out : Nt _ _ (1))).numN (hz.out : Nt _ _ ((1 % K)))))
  clear E3 hB hR hO bx0 ed0 ed1 ed2 ed3 hi hz hg3 hb3 he3 hc3 hf3 hs3
  obtain ⟨p3, f3, -, -, -⟩ := E4.out.box 0 rfl
  refine wpAny_next (i := 4) (by kernel_rfl) rfl (fun KK hKK => ?_)
  go_simp
  have E5 : Hid (EnvB w [(gr2_3, .slice za (len (1 % K)) zk), (w.heap.size + 1 + 1 + 1, .slice none 0 0), (w.heap.size + 1 + 1, .slice co (len K) cc), (w.heap.size + 1, .slice bo (len E) cb), (w.heap.size, .slice ao (len N) ca)] [(.slice za (len (1 % K)) zk, digs (1 % K)), (.slice ia (len 1) ik, digs 1), (.slice co (len K) cc, digs K), (.slice bo (len E) cb, digs E), (.slice ao (len N) ca, digs N)] _) := Lib.hid ((E4.out.set 0 (.slice za (len (1 % K)) zk) rfl ⟨_, _, _, rfl⟩))
  refine hKK.out _ _ ?_
  clear hKK KK
  refine wpAny_done (by kernel_rfl) ?_ _
  generalize hbl : bl E = n at CB
  have HBL := Lib.hid hbl
  clear hbl
  have hn48 : (n : Int) ≤ 2048 := by have h1 := HBE.out; rw [HBL.out] at h1; omega
  have hn0 : 0 ≤ (n : Int) := by omega
  obtain ⟨p4, f4, -, -, -⟩ := E5.out.box 3 rfl
  go_wp2_with fail
  refine (CB.out _ (E5.out.nt 3 rfl)).mono ?_
  rintro e w4 ⟨rfl, hb⟩
  have E6 : Hid (EnvB w [(gr2_3, .slice za (len (1 % K)) zk), (w.heap.size + 1 + 1 + 1, .slice none 0 0), (w.heap.size + 1 + 1, .slice co (len K) cc), (w.heap.size + 1, .slice bo (len E) cb), (w.heap.size, .slice ao (len N) ca)] [(.slice za (len (1 % K)) zk, digs (1 % K)), (.slice ia (len 1) ik, digs 1), (.slice co (len K) cc, digs K), (.slice bo (len E) cb, digs E), (.slice ao (len N) ca, digs N)] _) := Lib.hid ((E5.out.below hb))
  clear p3 f3 p4 f4 E5 E4 hb
  go_wp2_with fail
  go_loopg [10] (n) (fun gk s10 wr => ∃ (k P : Nat) (po : Option Addr) (pc : Nat), s10 = .int .i64 ((k : Int) - 1) ∧ Hid (EnvB w [(gr2_3, .slice po (len P) pc), (w.heap.size + 1 + 1 + 1, .slice none 0 0), (w.heap.size + 1 + 1, .slice co (len K) cc), (w.heap.size + 1, .slice bo (len E) cb), (w.heap.size, .slice ao (len N) ca)] [(.slice po (len P) pc, digs P), (.slice co (len K) cc, digs K), (.slice bo (len E) cb, digs E), (.slice ao (len N) ca, digs N)] wr) ∧ Hid (PowI N E K k P gk))
  case atStart => exact ⟨n, 1 % K, za, zk, rfl, Lib.hid ⟨E6.out.1, E6.out.2.1, ⟨E6.out.sl 0 rfl, ⟨E6.out.sl 2 rfl, ⟨E6.out.sl 3 rfl, ⟨E6.out.sl 4 rfl, trivial⟩⟩⟩⟩⟩, Lib.hid (HBL.out ▸ HS.out)⟩
  case round =>
    clear E6 HS CB CG CV CR
    obtain ⟨k, P, po, pc, rfl, EL, HA⟩ := hrel
    obtain ⟨a1, a2, a3⟩ := HA.out
    clear HA
    by_cases hy : k = 0
    · have t1 : decide (0 ≤ (k : Int) - 1) = false := decide_eq_false (by omega)
      have t2 : decide (1 ≤ (k : Int)) = false := decide_eq_false (by omega)
      have HP : Hid (P = N ^ E % K) := Lib.hid (by rw [a3, hy, Nat.pow_zero, Nat.div_one])
      clear a1 a2 a3 hy HBE HNK CM CT
      obtain ⟨p5, f5, -, -, -⟩ := EL.out.box 0 rfl
      obtain ⟨p6, f6, -, -, -⟩ := EL.out.box 1 rfl
      have E7 : Hid (EnvB w [(gr2_3, .slice po (len P) pc), (w.heap.size + 1 + 1 + 1, .slice po (len P) pc), (w.heap.size + 1 + 1, .slice co (len K) cc), (w.heap.size + 1, .slice bo (len E) cb), (w.heap.size, .slice ao (len N) ca)] [(.slice po (len P) pc, digs P), (.slice co (len K) cc, digs K), (.slice bo (len E) cb, digs E), (.slice ao (len N) ca, digs N)] _) := Lib.hid ((EL.out.set 1 (.slice po (len P) pc) rfl ⟨_, _, _, rfl⟩))
      have hfin := Lib.hid E7.out
      obtain ⟨rc, -, -, -, -⟩ := E7.out.box 1 rfl
      go_wp2
      exact bodyPost_ret (v := .tuple #[.agg #[.slice po (len P) pc], .int .i64 0]) (by simp [results, Tryd.results167, go_sem, rc]) rfl ⟨HP.out ▸ ⟨_, _, rfl, Lib.hid (hfin.out.nt 0 rfl)⟩, hfin.out.1⟩
    · obtain ⟨j, rfl⟩ : ∃ j, k = j + 1 := ⟨k - 1, by omega⟩
      have ej : (((j + 1 : Nat) : Int) - 1) = (j : Int) := by omega
      rw [ej]
      have hj : (j : Int) ≤ 9223372036854775807 := by have := HBE.out; omega
      have t1 : decide (0 ≤ (j : Int)) = true := decide_eq_true (by omega)
      have hPK : P < K := by rw [a3]; exact Nat.mod_lt _ (by have := HNK.out; omega)
      have hQK : P * P % K < K := Nat.mod_lt _ (by omega)
      have hst := powm_step N E K j
      rw [← a3] at hst
      have CM1 := Lib.hid (fun (u : Value) W ha hb hc => CM.out u u P P W hPK hPK ha hb hc)
      have CM2 := Lib.hid (fun (u v : Value) W ha hb hc => CM.out u v (P * P % K) N W hQK HNK.out ha hb hc)
      have HM : Hid (j < gk) := Lib.hid (by omega)
      have HJ : Hid (j ≤ bl E) := Lib.hid (by omega)
      have CTj := Lib.hid (fun W ha => CT.out j W hj ha)
      clear a1 a2 a3 hy ej hPK hQK CM CT HNK HBE
      generalize P * P % K = Q at *
      generalize bt E j = t at *
      cases t
      · have HST := Lib.hid hst
        clear hst
        have HK2 : Hid (PowI N E K j Q j) := Lib.hid ⟨rfl, HJ.out, by have := HST.out; simpa using this⟩
        clear HST HJ
        obtain ⟨p5, f5, -, -, -⟩ := EL.out.box 0 rfl
        obtain ⟨p6, f6, -, -, -⟩ := EL.out.box 2 rfl
        go_wp2_with fail
        refine (CM1.out _ _ (EL.out.nt 0 rfl) (EL.out.nt 0 rfl) (EL.out.nt 1 rfl)).mono ?_
        rintro e w5 ⟨⟨qa, qk, rfl, hq⟩, hb⟩
        have E7 : Hid (EnvB w [(gr2_3, .slice po (len P) pc), (w.heap.size + 1 + 1 + 1, .slice none 0 0), (w.heap.size + 1 + 1, .slice co (len K) cc), (w.heap.size + 1, .slice bo (len E) cb), (w.heap.size, .slice ao (len N) ca)] [(.slice qa (len Q) qk, digs Q), (.slice po (len P) pc, digs P), (.slice co (len K) cc, digs K), (.slice bo (len E) cb, digs E), (.slice ao (len N) ca, digs N)] _) := Lib.hid (((EL.out.below hb).numN (hq.out : Nt _ _ Q)))
        clear p5 f5 p6 f6 EL hb hq
        obtain ⟨p7, f7, -, -, -⟩ := E7.out.box 0 rfl
        have E8 : Hid (EnvB w [(gr2_3, .slice qa (len Q) qk), (w.heap.size + 1 + 1 + 1, .slice none 0 0), (w.heap.size + 1 + 1, .slice co (len K) cc), (w.heap.size + 1, .slice bo (len E) cb), (w.heap.size, .slice ao (len N) ca)] [(.slice qa (len Q) qk, digs Q), (.slice po (len P) pc, digs P), (.slice co (len K) cc, digs K), (.slice bo (len E) cb, digs E), (.slice ao (len N) ca, digs N)] _) := Lib.hid ((E7.out.set 0 (.slice qa (len Q) qk) rfl ⟨_, _, _, rfl⟩))
        obtain ⟨p8, f8, -, -, -⟩ := E8.out.box 3 rfl
        go_wp2_with fail
        refine (CTj.out _ (E8.out.nt 3 rfl)).mono ?_
        rintro e w6 ⟨rfl, hb⟩
        have E9 : Hid (EnvB w [(gr2_3, .slice qa (len Q) qk), (w.heap.size + 1 + 1 + 1, .slice none 0 0), (w.heap.size + 1 + 1, .slice co (len K) cc), (w.heap.size + 1, .slice bo (len E) cb), (w.heap.size, .slice ao (len N) ca)] [(.slice qa (len Q) qk, digs Q), (.slice po (len P) pc, digs P), (.slice co (len K) cc, digs K), (.slice bo (len E) cb, digs E), (.slice ao (len N) ca, digs N)] _) := Lib.hid ((E8.out.below hb))
        clear p7 f7 p8 f8 E8 E7 hb
        have EZ := Lib.hid E9.out
        go_wp2
        go_roundg (j)
        case rel => exact ⟨j, Q, qa, qk, rfl, Lib.hid ⟨EZ.out.1, EZ.out.2.1, ⟨EZ.out.sl 0 rfl, ⟨EZ.out.sl 2 rfl, ⟨EZ.out.sl 3 rfl, ⟨EZ.out.sl 4 rfl, trivial⟩⟩⟩⟩⟩, HK2⟩
        case measure => exact HM.out
      · have HST := Lib.hid hst
        clear hst
        have HK2 : Hid (PowI N E K j (Q * N % K) j) := Lib.hid ⟨rfl, HJ.out, by have := HST.out; simpa using this⟩
        clear HST HJ
        generalize Q * N % K = R at *
        obtain ⟨p5, f5, -, -, -⟩ := EL.out.box 0 rfl
        obtain ⟨p6, f6, -, -, -⟩ := EL.out.box 2 rfl
        go_wp2_with fail
        refine (CM1.out _ _ (EL.out.nt 0 rfl) (EL.out.nt 0 rfl) (EL.out.nt 1 rfl)).mono ?_
        rintro e w5 ⟨⟨qa, qk, rfl, hq⟩, hb⟩
        have E7 : Hid (EnvB w [(gr2_3, .slice po (len P) pc), (w.heap.size + 1 + 1 + 1, .slice none 0 0), (w.heap.size + 1 + 1, .slice co (len K) cc), (w.heap.size + 1, .slice bo (len E) cb), (w.heap.size, .slice ao (len N) ca)] [(.slice qa (len Q) qk, digs Q), (.slice po (len P) pc, digs P), (.slice co (len K) cc, digs K), (.slice bo (len E) cb, digs E), (.slice ao (len N) ca, digs N)] _) := Lib.hid (((EL.out.below hb).numN (hq.out : Nt _ _ Q)))
        clear p5 f5 p6 f6 EL hb hq
        obtain ⟨p7, f7, -, -, -⟩ := E7.out.box 0 rfl
        have E8 : Hid (EnvB w [(gr2_3, .slice qa (len Q) qk), (w.heap.size + 1 + 1 + 1, .slice none 0 0), (w.heap.size + 1 + 1, .slice co (len K) cc), (w.heap.size + 1, .slice bo (len E) cb), (w.heap.size, .slice ao (len N) ca)] [(.slice qa (len Q) qk, digs Q), (.slice po (len P) pc, digs P), (.slice co (len K) cc, digs K), (.slice bo (len E) cb, digs E), (.slice ao (len N) ca, digs N)] _) := Lib.hid ((E7.out.set 0 (.slice qa (len Q) qk) rfl ⟨_, _, _, rfl⟩))
        obtain ⟨p8, f8, -, -, -⟩ := E8.out.box 3 rfl
        go_wp2_with fail
        refine (CTj.out _ (E8.out.nt 3 rfl)).mono ?_
        rintro e w6 ⟨rfl, hb⟩
        have E9 : Hid (EnvB w [(gr2_3, .slice qa (len Q) qk), (w.heap.size + 1 + 1 + 1, .slice none 0 0), (w.heap.size + 1 + 1, .slice co (len K) cc), (w.heap.size + 1, .slice bo (len E) cb), (w.heap.size, .slice ao (len N) ca)] [(.slice qa (len Q) qk, digs Q), (.slice po (len P) pc, digs P), (.slice co (len K) cc, digs K), (.slice bo (len E) cb, digs E), (.slice ao (len N) ca, digs N)] _) := Lib.hid ((E8.out.below hb))
        clear p7 f7 p8 f8 E8 E7 hb
        obtain ⟨p9, f9, -, -, -⟩ := E9.out.box 0 rfl
        obtain ⟨p10, f10, -, -, -⟩ := E9.out.box 4 rfl
        obtain ⟨p11, f11, -, -, -⟩ := E9.out.box 2 rfl
        go_wp2_with fail
        refine (CM2.out _ _ _ (E9.out.nt 0 rfl) (E9.out.nt 4 rfl) (E9.out.nt 2 rfl)).mono ?_
        rintro e w7 ⟨⟨sa, sk, rfl, hs⟩, hb⟩
        have E10 : Hid (EnvB w [(gr2_3, .slice qa (len Q) qk), (w.heap.size + 1 + 1 + 1, .slice none 0 0), (w.heap.size + 1 + 1, .slice co (len K) cc), (w.heap.size + 1, .slice bo (len E) cb), (w.heap.size, .slice ao (len N) ca)] [(.slice sa (len R) sk, digs R), (.slice qa (len Q) qk, digs Q), (.slice po (len P) pc, digs P), (.slice co (len K) cc, digs K), (.slice bo (len E) cb, digs E), (.slice ao (len N) ca, digs N)] _) := Lib.hid (((E9.out.below hb).numN (hs.out : Nt _ _ R)))
        clear p9 f9 p10 f10 p11 f11 E9 hb hs
        obtain ⟨p12, f12, -, -, -⟩ := E10.out.box 0 rfl
        have E11 : Hid (EnvB w [(gr2_3, .slice sa (len R) sk), (w.heap.size + 1 + 1 + 1, .slice none 0 0), (w.heap.size + 1 + 1, .slice co (len K) cc), (w.heap.size + 1, .slice bo (len E) cb), (w.heap.size, .slice ao (len N) ca)] [(.slice sa (len R) sk, digs R), (.slice qa (len Q) qk, digs Q), (.slice po (len P) pc, digs P), (.slice co (len K) cc, digs K), (.slice bo (len E) cb, digs E), (.slice ao (len N) ca, digs N)] _) := Lib.hid ((E10.out.set 0 (.slice sa (len R) sk) rfl ⟨_, _, _, rfl⟩))
        have EZ := Lib.hid E11.out
        go_wp2
        go_roundg (j)
        case rel => exact ⟨j, R, sa, sk, rfl, Lib.hid ⟨EZ.out.1, EZ.out.2.1, ⟨EZ.out.sl 0 rfl, ⟨EZ.out.sl 3 rfl, ⟨EZ.out.sl 4 rfl, ⟨EZ.out.sl 5 rfl, trivial⟩⟩⟩⟩⟩, HK2⟩
        case measure => exact HM.out

def InvS (A K g R Y T F : Nat) : Prop := g = Y ∧ len R ≤ 64 ∧ len Y ≤ 64 ∧ T < K ∧ F < K ∧ inv K R Y T F = inv K K A 0 (1 % K)
theorem InvS.step {A K g R Y T F : Nat} (h : InvS A K g R Y T F) (hy : Y ≠ 0) : InvS A K (R % Y) Y (R % Y) F (subm T (R / Y % K * F % K) K) ∧ R % Y < g := by
  obtain ⟨h1, h2, h3, h4, h5, h6⟩ := h
  have hlt := Nat.mod_lt R (Nat.pos_of_ne_zero hy)
  exact ⟨⟨rfl, h3, len_le_of_lt hlt h3, h5, subm_lt h4 (Nat.mod_lt _ (by omega)), by rw [← inv_pos _ _ _ _ hy]; exact h6⟩, by omega⟩

end Nn
end Go.Proofs.YtinlfogpbologaaDoor

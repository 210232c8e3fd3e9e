/- slices.Insert of one message into a list of the call's own. -/
import Derived.Test.YtbcfcdcomboljaaSesX
import Derived.Lib.AppendZeros
import Derived.Lib.Overlaps
import Derived.Laws.Externs
import Derived.Laws.IdiomCopy
import Derived.Deep.AppendSrc
namespace Go.Proofs.Ytbcfcdcomboljaa
open Go.RowKit
set_option linter.unusedVariables false
/-- append of zeros that wants a new row, whatever the row that it goes on -/
theorem run_append_grow_zeros {P : Program} (w : World) (t tn ty e : TypeId) (i : TypeInfo) (z : Value) (k kn : IntKind) (ht : P.underlying t = some (.slice e)) (htn : P.underlying tn = some (.int kn)) (hi : P.info? e = some i) (hz : i.zero = some z)
    (base : Option Addr) (sLen sCap : Nat) (olds : List Value) (hold : (Builtin.firstCells i.size sLen (.slice base sLen sCap)).run P w.drew = .ok olds.toArray w.drew)
    (n : Nat) (h0 : 0 < n) (hs : 0 < i.size) (hg : sCap < sLen + n) (h63 : ((sLen + n : Nat) : Int) ≤ 9223372036854775807) (h48 : n * i.bytes ≤ 281474976710656) (hfit : Builtin.nextslicecap (sLen + n) sCap * i.bytes ≤ 281474976710656) :
    (Builtin.append_ #[t, tn] ty #[.slice base sLen sCap, .int k n]).run P w =
      .ok (.slice (some ⟨w.heap.size, 0, none⟩) (sLen + n) (grownCap w (sLen + n) sCap e)) (w.drew.alloc (.cells (olds.toArray ++ Builtin.zeroCells z.cells n ++ Builtin.zeroCells z.cells (grownCap w (sLen + n) sCap e - (sLen + n))) e)) := by
  have hn : n ≠ 0 := by omega
  have hw : IntKind.i64.wrap (n : Int) = n := by rw [IntKind.wrap_i64]; omega
  have h63' : ¬ (9223372036854775807 < ((sLen : Int) + (n : Int))) := by omega
  have h48' : ¬ (281474976710656 < Builtin.nextslicecap (sLen + n) sCap * i.bytes) := by omega
  have h48i : ¬ (281474976710656 < (n : Int) * (i.bytes : Int)) := by
    rw [← Int.natCast_mul]
    omega
  have hneg : ¬ ((n : Int) < 0) := by omega
  have hns : ¬ (n * i.size = 0) := Nat.mul_ne_zero hn (by omega)
  have hnc : ¬ (sLen + n ≤ sCap) := by omega
  simp [Builtin.append_, run_underlying ht, run_underlying htn, sizeOf, typeInfo, zeroValue, hi, hz, asInt, asIntOf, hw, hneg, hns, h63', h48', h48i, hnc, Question.forced, hold, newRow, grownCap]
/-- copy, whatever the elements' size -/
theorem run_copy_cellsN {P : Program} (w : World) (dT sT ty elem : TypeId) (size : Nat) (b o dLen dCap : Nat) (a : Addr) (sLen sCap : Nat) (cs : List Value)
    (hu : P.underlying dT = some (.slice elem)) (hs : (P.info? elem).map (·.size) = some size) (hn : cs.length = Nat.min sLen dLen * size)
    (hsrc : ∀ j v, cs[j]? = some v → w.cell? (a.add j) = some v) (hc : ∀ j, j < cs.length → (w.cell? ⟨b, o + j, none⟩).isSome = true) (hf : ∀ j, j < cs.length → w.frozen? ⟨b, o + j, none⟩ = false) (h1 : ∀ v ∈ cs, v.oneCell' = true) :
    (Builtin.copy_ #[dT, sT] ty #[.slice (some ⟨b, o, none⟩) dLen dCap, .slice (some a) sLen sCap]).run P w = .ok (goInt (Nat.min sLen dLen)) (w.setCells b o cs) := by
  have hl := run_loadCells_list (P := P) w a cs hsrc
  have hst := run_storeCells_cells (P := P) b o cs 0 w (by simpa using hc) (by simpa using hf) h1
  cases hq : P.info? elem with
  | none => simp [hq] at hs
  | some i =>
    have hi : i.size = size := by simpa [hq] using hs
    simp [Builtin.copy_, run_underlying hu, Builtin.lenOf, Builtin.firstCells, sizeOf, typeInfo, hq, hi, ← hn, hl, hst]
/-- a row's cells from o on written anew -/
def setL : List Value → Nat → List Value → List Value
  | cs, _, [] => cs
  | cs, o, v :: r => setL (cs.set o v) (o + 1) r
theorem setL_length : ∀ (vs cs : List Value) (o : Nat), (setL cs o vs).length = cs.length
  | [], _, _ => rfl
  | v :: r, cs, o => by rw [setL, setL_length]; simp
theorem setL_get : ∀ (vs cs : List Value) (o j : Nat), o + vs.length ≤ cs.length → (setL cs o vs)[j]? = if o ≤ j ∧ j < o + vs.length then vs[j - o]? else cs[j]?
  | [], cs, o, j, _ => by simp only [setL, List.length_nil]; rw [if_neg (by omega)]
  | v :: r, cs, o, j, h => by
    simp only [List.length_cons] at h
    rw [setL, setL_get r _ _ _ (by simp; omega), List.getElem?_set]
    simp only [List.length_cons]
    by_cases h1 : o = j
    · subst h1
      rw [if_neg (by omega), if_pos rfl, if_pos (by omega), if_pos (by omega)]; simp
    · by_cases h2 : o + 1 ≤ j ∧ j < o + 1 + r.length
      · rw [if_pos h2, if_pos (by omega)]
        rw [show j - o = (j - (o + 1)) + 1 by omega]; simp
      · rw [if_neg h2, if_neg (fun e => h1 e), if_neg (by omega)]
theorem Box.setCells {B b : Nat} {T : TypeId} : ∀ (vs cs : List Value) (o : Nat) {W : World}, Box B b T cs W → Box B b T (setL cs o vs) (W.setCells b o vs)
  | [], _, _, _, h => h
  | v :: r, cs, o, W, h => Box.setCells r (cs.set o v) (o + 1) (h.set o v)
/-- what stands behind the copies of Insert: the part before the place, what is put in, the rest -/
theorem ins_take {cs xs news : List Value} {i n : Nat} (hx : xs.length = n * 5) (hnews : news.length = 5) (hi : i ≤ n) (hc : (n + 1) * 5 ≤ cs.length)
    (h0 : ∀ j, j < i * 5 → cs[j]? = xs[j]?) :
    (setL (setL cs (i * 5 + 5) (xs.drop (i * 5))) (i * 5) news).take ((n + 1) * 5) = xs.take (i * 5) ++ news ++ xs.drop (i * 5) ∧
    (setL (setL cs (i * 5) news) (i * 5 + 5) (xs.drop (i * 5))).take ((n + 1) * 5) = xs.take (i * 5) ++ news ++ xs.drop (i * 5) := by
  have hd : (xs.drop (i * 5)).length = n * 5 - i * 5 := by simp [hx]
  have ht : (xs.take (i * 5)).length = i * 5 := by simp [hx]; omega
  constructor <;>
  · apply List.ext_getElem?
    intro j
    rw [List.getElem?_take]
    by_cases hj : j < (n + 1) * 5
    · rw [if_pos hj, setL_get _ _ _ _ (by rw [setL_length]; simp only [hnews, hd]; omega), setL_get _ _ _ _ (by simp only [hnews, hd]; omega)]
      simp only [hnews, hd]
      by_cases h1 : j < i * 5
      · rw [if_neg (by omega), if_neg (by omega), h0 j h1, List.append_assoc, List.getElem?_append_left (by omega), List.getElem?_take, if_pos h1]
      · by_cases h2 : j < i * 5 + 5
        · first
          | rw [if_pos (by omega), List.append_assoc, List.getElem?_append_right (by omega), List.getElem?_append_left (by omega), ht]
          | rw [if_neg (by omega), if_pos (by omega), List.append_assoc, List.getElem?_append_right (by omega), List.getElem?_append_left (by omega), ht]
        · first
          | rw [if_neg (by omega), if_pos (by omega), List.append_assoc, List.getElem?_append_right (by omega), List.getElem?_append_right (by omega), ht, hnews, show j - (i * 5 + 5) = j - i * 5 - 5 by omega]
          | rw [if_pos (by omega), List.append_assoc, List.getElem?_append_right (by omega), List.getElem?_append_right (by omega), ht, hnews, show j - (i * 5 + 5) = j - i * 5 - 5 by omega]
    · rw [if_neg hj, List.getElem?_eq_none]
      simp only [List.length_append, ht, hnews, hd]; omega
end Go.Proofs.Ytbcfcdcomboljaa

/- Merged: NnModRa, NnModRb, NnModU, NnModV, NnModW, NnModX, NnModY. -/
import Derived.Test.YtinlfogpbologaaDoorNnA2
import Derived.Maps.AppendAt
import Derived.Deep.RegionHeld3
import Derived.IntWalk
import Derived.Test.YtinlfogpbologaaDoorNnA1
import Derived.Laws.BitsAllLaws
import Derived.Test.YtinlfogpbologaaDoorShelf
import Derived.Test.YtinlfogpbologaaDoorNatReg
import Derived.Deep.DeepCutAuto
import Derived.Deep.CutBlock
/- Lists of words that grow by append; the reference's word, trim, sized, Same, Valid. -/
namespace Go.Proofs.YtinlfogpbologaaDoor
namespace Nn
open Go.RowKit NatMath
set_option linter.unusedVariables false

/-- the slice v is the call's own (nil, or the head of a block from base on) and holds the words l -/
def OwnV (w : World) (base : Nat) (v : Value) (l : List Nat) : Prop := w.ownsRow base 69 1 v l.length (l.map fun (u : Nat) => Value.int .u32 (u : Int)) ∧ words l

theorem OwnV.nil (w : World) (base : Nat) : OwnV w base (.slice none 0 0) [] := ⟨World.ownsRow_nil .., words_nil⟩
theorem OwnV.fr {w : World} {base : Nat} {v : Value} {l : List Nat} (h : OwnV w base v l) : Fr base v := by
  obtain ⟨⟨_, ⟨rfl, h2⟩ | ⟨g, cap, cur, rfl, h3, _⟩⟩, _⟩ := h
  · exact Fr.nil _
  · exact Fr.block h3
theorem OwnV.sl {w : World} {base : Nat} {v : Value} {l : List Nat} (h : OwnV w base v l) : Sl w v l := by
  obtain ⟨⟨_, ⟨rfl, h2⟩ | ⟨g, cap, cur, rfl, h3, h4, h5, h6, h7, h8⟩⟩, hw⟩ := h
  · rw [List.length_eq_zero_iff.1 h2]; exact Sl.nil _
  · refine ⟨_, cap, rfl, h5, h6, hw, fun _ => ⟨g, 0, rfl, lt_of_block h4, fun i hi => ?_⟩, by rintro a ha; simp only [Option.some.injEq] at ha; rw [← ha]⟩
    have e : cur[0 + i]? = (l.map fun (u : Nat) => Value.int .u32 (u : Int))[i]? := by
      rw [← h8, Nat.zero_add, ← Array.getElem?_toList, List.getElem?_take, if_pos (by omega)]
    simp only [World.cell?, h4, Option.isSome_none, Bool.false_eq_true, if_false, e]
    rw [List.getElem?_map, List.getElem?_eq_getElem hi, List.getD_eq_getElem?_getD, List.getElem?_eq_getElem hi]
    rfl
theorem OwnV.form {w : World} {base : Nat} {v : Value} {l : List Nat} (h : OwnV w base v l) (k : Nat) (hk : l.length = k) : ∃ a c, v = .slice a k c := by
  subst hk
  obtain ⟨⟨_, ⟨rfl, h2⟩ | ⟨g, cap, cur, rfl, h3, _⟩⟩, _⟩ := h
  · exact ⟨_, _, by rw [h2]⟩
  · exact ⟨_, _, rfl⟩
theorem OwnV.below {w w' : World} {base : Nat} {v : Value} {l : List Nat} (h : OwnV w base v l) (hb : Below w.heap.size w w') : OwnV w' base v l := by
  obtain ⟨⟨h1, ⟨rfl, h2⟩ | ⟨g, cap, cur, rfl, h3, h4, h5⟩⟩, hw⟩ := h
  · exact ⟨⟨h1, Or.inl ⟨rfl, h2⟩⟩, hw⟩
  · exact ⟨⟨h1, Or.inr ⟨g, cap, cur, rfl, h3, (hb.block g (lt_of_block h4)).trans h4, h5⟩⟩, hw⟩
theorem OwnV.set {w : World} {base : Nat} {v : Value} {l : List Nat} (h : OwnV w base v l) {a : Addr} (ha : a.block < base) (Y : Value) : OwnV (w.setCell a Y) base v l := by
  obtain ⟨⟨h1, ⟨rfl, h2⟩ | ⟨g, cap, cur, rfl, h3, h4, h5⟩⟩, hw⟩ := h
  · exact ⟨⟨h1, Or.inl ⟨rfl, h2⟩⟩, hw⟩
  · exact ⟨⟨h1, Or.inr ⟨g, cap, cur, rfl, h3, (Below.heap_setCell w a Y g (by omega)).trans h4, h5⟩⟩, hw⟩

/-- append of words that lie somewhere -/
theorem wpList_pushes {ops : Array Oper} {rest : List Oper} {o : Oper} {a : Act} {Q : Exit → Act → World → Prop} (w : World) (hgd : o.guard = none) (s x : Operand)
    (ho : o.op = .call { callee := .builtin .append, args := #[s, x], argTypes := #[94, 94] })
    (base : Nat) (v : Value) (l m : List Nat) (k : Nat) (hk : m.length = k) (hs : a.eval s = v) (hown : OwnV w base v l) (ad : Addr) (c : Nat) (hx : a.eval x = .slice (some ad) k c)
    (hcell : ∀ j, j < k → w.cell? (ad.add j) = some (.int .u32 ((m.getD j 0 : Nat) : Int)))
    (hu : words m) (hl : l.length ≤ 1000000) (hm : k ≤ 1000000) (hbase : base ≤ w.heap.size)
    (h : ∀ v' w', OwnV w' base v' (l ++ m) → Below base w w' → wpList Tryd.prog ops Q rest (a.put o.dst v') w') :
    wpList Tryd.prog ops Q (o :: rest) a w := by
  subst hk
  obtain ⟨i0, hi, hz0, hz1, hz2⟩ := info_parts Tryd.info69
  refine wpList_append_own_at w hgd s x 94 ho base 69 i0 (.int .u32 0) 1 4 (by first | exact Tryd.underlying94 | rfl) hi hz0 hz1 hz2 rfl (by omega) v l.length _ hs hown.1 ad m.length c (m.map fun (u : Nat) => Value.int .u32 (u : Int)) hx (by simp) ?_ ?_ ?_ ?_ hbase ?_
  · intro j y hy
    rw [List.getElem?_map] at hy
    obtain ⟨z, hz, rfl⟩ := Option.map_eq_some_iff.1 hy
    have hj : j < m.length := by apply Nat.lt_of_not_le; intro hh; rw [List.getElem?_eq_none hh] at hz; simp at hz
    rw [hcell j hj, List.getD_eq_getElem?_getD, hz]; rfl
  · intro y hy
    obtain ⟨z, _, rfl⟩ := List.mem_map.1 hy
    rfl
  · unfold maxLen; omega
  · omega
  · intro v' w' h1 h2 _ h4
    refine h v' w' ⟨by simpa using h1, ?_⟩ ((Below.refl _ _).grown h2 hbase ?_)
    · intro y hy
      rcases List.mem_append.1 hy with hy | hy
      · exact hown.2 y hy
      · exact hu y hy
    · intro k hk
      have := hown.fr
      cases v with
      | slice ao n' c' =>
        cases ao with
        | none => simp [Value.ownBlock] at hk
        | some a' => simp [Value.ownBlock] at hk; rw [← hk]; exact this a' _ _ rfl
      | _ => simp [Value.ownBlock] at hk

/-- append of one word -/
theorem wpList_push {ops : Array Oper} {rest : List Oper} {o : Oper} {a : Act} {Q : Exit → Act → World → Prop} (w : World) (hgd : o.guard = none) (s x : Operand)
    (ho : o.op = .call { callee := .builtin .append, args := #[s, x], argTypes := #[94, 94] })
    (base : Nat) (v : Value) (l : List Nat) (u : Nat) (hs : a.eval s = v) (hown : OwnV w base v l) (ad : Addr) (c : Nat) (hx : a.eval x = .slice (some ad) 1 c) (hcell : w.cell? ad = some (.int .u32 (u : Int)))
    (hu : u < 4294967296) (hl : l.length ≤ 1000000) (hbase : base ≤ w.heap.size)
    (h : ∀ v' w', OwnV w' base v' (l ++ [u]) → Below base w w' → wpList Tryd.prog ops Q rest (a.put o.dst v') w') :
    wpList Tryd.prog ops Q (o :: rest) a w := by
  refine wpList_pushes w hgd s x ho base v l [u] 1 rfl hs hown ad c hx (fun j hj => ?_) (by intro y hy; simp at hy; omega) hl (by omega) hbase h
  obtain rfl : j = 0 := by omega
  simpa [Addr.add] using hcell

/-- an empty block of the call's own -/
theorem OwnV.empty (w : World) (base g : Nat) (hb : base ≤ g) (hg : w.heap.size = g) : OwnV (w.alloc (.cells #[] 69)) base (.slice (some ⟨g, 0, none⟩) 0 0) [] := by
  subst hg
  refine ⟨⟨rfl, Or.inr ⟨w.heap.size, 0, #[], rfl, hb, ?_, Nat.le_refl _, by unfold maxLen; omega, rfl, rfl⟩⟩, words_nil⟩
  show (w.heap.push _)[w.heap.size]? = _
  rw [Array.getElem?_push, if_pos rfl]

theorem Sl.open {w : World} {v : Value} {l : List Nat} (h : Sl w v l) : ∃ (ao : Option Addr) (cap : Nat), v = .slice ao l.length cap ∧ l.length ≤ cap ∧ cap ≤ 9223372036854775807 ∧
    (l ≠ [] → ∃ b off, ao = some ⟨b, off, none⟩ ∧ b < w.heap.size ∧ ∀ i, i < l.length → w.cell? ⟨b, off + i, none⟩ = some (.int .u32 ((l.getD i 0 : Nat) : Int))) := by
  obtain ⟨ao, cap, h1, h2, h3, h4, h5, _⟩ := h
  exact ⟨ao, cap, h1, h2, h3, h5⟩

theorem Nt.empty (w : World) (b c : Nat) (hc : c ≤ 9223372036854775807 := by omega) : Nt w (.slice (some ⟨b, 0, none⟩) 0 c) 0 := by
  unfold Nt
  rw [digs_zero]
  exact ⟨_, c, rfl, Nat.zero_le _, hc, words_nil, fun h => absurd rfl h, by rintro a ha; simp only [Option.some.injEq] at ha; rw [← ha]⟩

theorem box1f' (w : World) (a : Value) (T : TypeId) (o : Obj) : ((w.alloc (.cells #[a] T)).alloc o).frozen? ⟨w.heap.size, 0, none⟩ = false := by simp

end Nn
end Go.Proofs.YtinlfogpbologaaDoor


/- The reference's sum. -/
namespace Go.Proofs.YtinlfogpbologaaDoor
namespace Nn
open Go.RowKit NatMath
set_option linter.unusedVariables false

def lst (f : Nat → Nat) (k : Nat) : List Nat := (List.range k).map f
theorem lst_length (f : Nat → Nat) (k : Nat) : (lst f k).length = k := by simp [lst]
theorem lst_succ (f : Nat → Nat) (k : Nat) : lst f (k + 1) = lst f k ++ [f k] := by simp [lst, List.range_succ]
theorem lst_fill (f : Nat → Nat) (k : Nat) : lst f k = fill f k k := by
  apply List.ext_getElem
  · simp [lst, fill]
  · intro i h1 h2
    simp only [lst, List.length_map, List.length_range] at h1
    simp [lst, fill, h1]
theorem lst_zero (f : Nat → Nat) : lst f 0 = [] := rfl

end Nn
end Go.Proofs.YtinlfogpbologaaDoor


/- The contracts of Bit, Bits (the program's and the reference's). -/
namespace Go.Proofs.YtinlfogpbologaaDoor
namespace Nn
open Go.RowKit NatMath
set_option linter.unusedVariables false

theorem retb {a b : Bool} (h : a = b) : Ending.returned (.bool a) = .returned (.bool b) := by rw [h]
theorem reti {k : IntKind} {a b : Int} (h : a = b) : Ending.returned (.int k a) = .returned (.int k b) := by rw [h]
theorem below_step2 {a b c : World} (h : Below a.heap.size a b) (hb : Below b.heap.size b c) : Below a.heap.size a c := h.trans (hb.mono h.size)

set_option maxHeartbeats 400000 in
theorem Bit_c (v : Value) (N i : Nat) (w : World) (h : Nt w v N) (hl : len N ≤ 64) (hi : (i : Int) ≤ 9223372036854775807) :
    Calls Tryd.prog 182 #[.agg #[v], .int .i64 i] w fun e w' => e = .returned (.bool (bt N i)) ∧ Below w.heap.size w w' := by
  have cv := Lib.hid (fun W h => Valid_c v (digs N) W h)
  rw [vld_digs, decide_eq_true hl] at cv
  have HV := Lib.hid h
  obtain ⟨ao, cap, rfl, h1, h2, h3⟩ := h.open
  have n0 : decide (0 ≤ (i : Int)) = true := decide_eq_true (by omega)
  have r1 : (i : Int) / 32 = ((i / 32 : Nat) : Int) := by omega
  by_cases hb : 32 * len N ≤ i
  · rw [bt_above hb]
    have g1 : decide (i / 32 < len N) = false := decide_eq_false (by omega)
    generalize hk : i / 32 = k at *
    generalize len N = n at *
    clear h h3 hk
    go_enter Tryd.func182, Tryd.ntmps182
    go_wp2_with fail
    refine (cv.out _ (HV.out.below' (below_one _ _))).mono ?_
    rintro e w1 ⟨rfl, hb1⟩
    have p1 := (hb1.cell (p := ⟨w.heap.size, 0, none⟩) (by simp)).trans (box1a _ _ _)
    have B1 := Lib.hid (below_step2 (below_one w _) hb1)
    clear hb1
    go_wp2
    go_ret
    exact ⟨rfl, B1.out⟩
  · have hN : N ≠ 0 := by rintro rfl; rw [len_zero] at hb; omega
    obtain ⟨b, off, rfl, hb, hc⟩ := h3 hN
    have hk : i / 32 < len N := by omega
    have g1 : decide (i / 32 < len N) = true := decide_eq_true (by omega)
    have c1 := hc (i / 32) hk
    rw [bt_dig]
    have hs : i % 32 < 32 := Nat.mod_lt _ (by omega)
    have hu := dig_lt N (i / 32)
    have r2 : (i : Int) % 32 = ((i % 32 : Nat) : Int) := by omega
    generalize dig N (i / 32) = u at *
    generalize i / 32 = k at *
    generalize i % 32 = s at *
    have r3 : (u : Int) / 2 ^ s = ((u / 2 ^ s : Nat) : Int) := by simp
    have hq : u / 2 ^ s < 4294967296 := Nat.lt_of_le_of_lt (Nat.div_le_self _ _) hu
    generalize u / 2 ^ s = q at *
    have r4 : bits .and .u32 (q : Int) 1 = ((q % 2 : Nat) : Int) := by
      have := u32_and_nat q 1 hq (by omega)
      rw [Nat.and_one_is_mod] at this; exact this
    generalize len N = n at *
    clear h h3 hc hN
    go_enter Tryd.func182, Tryd.ntmps182
    go_wp2_with fail
    refine (cv.out _ (HV.out.below' (below_one _ _))).mono ?_
    rintro e w1 ⟨rfl, hb1⟩
    have p1 := (hb1.cell (p := ⟨w.heap.size, 0, none⟩) (by simp)).trans (box1a _ _ _)
    have c2 := (((below_one w (.cells #[.slice (some ⟨b, off, none⟩) n cap] 96)).trans (hb1.mono (by simp))).cell (p := ⟨b, off + k, none⟩) ‹_›).trans c1
    have B1 := Lib.hid (below_step2 (below_one w _) hb1)
    clear hb1 c1
    go_wp2
    go_ret
    exact ⟨retb (by rw [Bool.eq_iff_iff]; simp; omega), B1.out⟩

set_option maxHeartbeats 400000 in
theorem Bit_neg (v : Value) (l : List Nat) (i : Int) (w : World) (h : Sl w v l) (hi : i < 0 ∨ vld l = false) :
    Calls Tryd.prog 182 #[.agg #[v], .int .i64 i] w fun e w' => e = .returned (.bool false) ∧ Below w.heap.size w w' := by
  have cv := Lib.hid (fun W h => Valid_c v l W h)
  have HV := Lib.hid h
  clear h
  cases hv : vld l
  · rw [hv] at cv
    clear hi hv
    go_enter Tryd.func182, Tryd.ntmps182
    go_wp2_with fail
    refine (cv.out _ (HV.out.below' (below_one _ _))).mono ?_
    rintro e w1 ⟨rfl, hb1⟩
    have B1 := Lib.hid (below_step2 (below_one w _) hb1)
    clear hb1
    go_wp2
    go_ret
    exact ⟨rfl, B1.out⟩
  · rw [hv] at cv
    have h0 : i < 0 := by rcases hi with h | h; exact h; rw [hv] at h; cases h
    have n0 : decide (0 ≤ (i : Int)) = false := decide_eq_false (by omega)
    clear hi hv
    go_enter Tryd.func182, Tryd.ntmps182
    go_wp2_with fail
    refine (cv.out _ (HV.out.below' (below_one _ _))).mono ?_
    rintro e w1 ⟨rfl, hb1⟩
    have B1 := Lib.hid (below_step2 (below_one w _) hb1)
    clear hb1
    go_wp2
    go_ret
    exact ⟨rfl, B1.out⟩

end Nn
end Go.Proofs.YtinlfogpbologaaDoor


/- The contracts of Bits, Int and the reference's Int, Of. -/
namespace Go.Proofs.YtinlfogpbologaaDoor
namespace Nn
open Go.RowKit NatMath
set_option linter.unusedVariables false

theorem len32 (x : Nat) (w : World) (hx : x < 4294967296) :
    Calls Tryd.prog 163 #[.int .u32 (x : Int)] w fun e w' => e = .returned (.int .i64 (bl x : Nat)) ∧ w' = w := by
  have h := Tryd.bits_Len32 (x : Int) w (by omega) (by omega)
  rw [Int.toNat_natCast, bitLen_bl 32 x hx (by omega)] at h
  exact h

set_option maxHeartbeats 400000 in
theorem Bits_c (v : Value) (N : Nat) (w : World) (h : Nt w v N) (hl : len N ≤ 64) :
    Calls Tryd.prog 145 #[.agg #[v]] w fun e w' => e = .returned (.int .i64 (bl N : Nat)) ∧ Below w.heap.size w w' := by
  have cv := Lib.hid (fun W h => Valid_c v (digs N) W h)
  rw [vld_digs, decide_eq_true hl] at cv
  have HV := Lib.hid h
  obtain ⟨ao, cap, rfl, h1, h2, h3⟩ := h.open
  by_cases h0 : N = 0
  · subst h0
    rw [bl_zero]
    rw [len_zero] at *
    clear h h3
    go_enter Tryd.func145, Tryd.ntmps145
    go_wp2_with fail
    refine (cv.out _ (HV.out.below' (below_one _ _))).mono ?_
    rintro e w1 ⟨rfl, hb1⟩
    have p1 := (hb1.cell (p := ⟨w.heap.size, 0, none⟩) (by simp)).trans (box1a _ _ _)
    have B1 := Lib.hid (below_step2 (below_one w _) hb1)
    clear hb1
    go_wp2
    go_ret
    exact ⟨rfl, B1.out⟩
  · obtain ⟨b, off, rfl, hb, hc⟩ := h3 h0
    have hn : len N ≠ 0 := fun e => h0 (len_eq_zero.1 e)
    have c1 := hc (len N - 1) (by omega)
    have hB := bl_top h0
    have hu := dig_lt N (len N - 1)
    generalize dig N (len N - 1) = u at *
    have hbu : bl u ≤ 32 := bl_le_iff.2 hu
    have cl := Lib.hid (fun W => len32 u W hu)
    generalize bl u = r at *
    rw [hB]
    generalize hL : len N = n at *
    have e1 : (n : Int) - 1 = ((n - 1 : Nat) : Int) := by omega
    have hj : n - 1 < n := by omega
    have g1 : ((n : Int) == 0) = false := by simp; omega
    have e2 : (32 : Int) * ((n - 1 : Nat) : Int) = ((32 * (n - 1) : Nat) : Int) := by omega
    have hp : 32 * (n - 1) ≤ 2048 := by omega
    generalize 32 * (n - 1) = p at *
    generalize n - 1 = m at *
    clear hB h h3 hc h0 hn hL hl
    go_enter Tryd.func145, Tryd.ntmps145
    go_wp2_with fail
    refine (cv.out _ (HV.out.below' (below_one _ _))).mono ?_
    rintro e w1 ⟨rfl, hb1⟩
    have p1 := (hb1.cell (p := ⟨w.heap.size, 0, none⟩) (by simp)).trans (box1a _ _ _)
    have c2 := (((below_one w (.cells #[.slice (some ⟨b, off, none⟩) n cap] 96)).trans (hb1.mono (by simp))).cell (p := ⟨b, off + m, none⟩) ‹_›).trans c1
    have B1 := Lib.hid (below_step2 (below_one w _) hb1)
    clear hb1 c1
    go_wp2_with fail
    go_quiet ((go_at_call 163; exact Calls.quiet_of_same (cl.out _)))
    go_wp2
    go_ret
    exact ⟨reti (by omega), B1.out.trans (below_drewN (Below.refl _ _) _)⟩

theorem ret_i2 {a b : Int} {c d : Value} (h : a = b) (k : c = d) : Ending.returned (.tuple #[.int .i64 a, c]) = .returned (.tuple #[.int .i64 b, d]) := by rw [h, k]

set_option maxHeartbeats 400000 in
theorem Bits_bad (v : Value) (l : List Nat) (w : World) (h : Sl w v l) (hv : vld l = false) :
    Calls Tryd.prog 145 #[.agg #[v]] w fun e w' => e = .returned (.int .i64 0) ∧ Below w.heap.size w w' := by
  have cv := Lib.hid (fun W h => Valid_c v l W h)
  rw [hv] at cv
  have HV := Lib.hid h
  clear h hv
  go_enter Tryd.func145, Tryd.ntmps145
  go_wp2_with fail
  refine (cv.out _ (HV.out.below' (below_one _ _))).mono ?_
  rintro e w1 ⟨rfl, hb1⟩
  have B1 := Lib.hid (below_step2 (below_one w _) hb1)
  clear hb1
  go_wp2
  go_ret
  exact ⟨rfl, B1.out⟩

/-- what Int gives: the number, or 0 and the code for too big -/
def iv (N : Nat) : Nat := if N < 9223372036854775808 then N else 0
def ic (N : Nat) : Int := if N < 9223372036854775808 then 0 else 9

theorem mod_step' (X k : Nat) : X % Bp (k + 1) = X % Bp k + dig X k * 2 ^ (32 * k) := by rw [mod_step, ← Bp_two, Nat.mul_comm, Nat.add_comm]

theorem two_words {N : Nat} (h : N < 9223372036854775808) : dig N 1 < 2147483648 ∧ dig N 1 * 4294967296 + dig N 0 = N := by
  unfold dig; rw [Bp_one, Bp_zero]; omega
theorem two_words_not {N : Nat} (h : ¬ N < 9223372036854775808) (hl : len N ≤ 2) : ¬ dig N 1 < 2147483648 := by
  have := len_le_iff.1 hl; unfold Bp at this
  unfold dig; rw [Bp_one]; omega

end Nn
end Go.Proofs.YtinlfogpbologaaDoor


/- The contract of shifted. -/
namespace Go.Proofs.YtinlfogpbologaaDoor
namespace Nn
open Go.RowKit NatMath
set_option linter.unusedVariables false

set_option maxHeartbeats 1000000 in
theorem shifted_c (a : Value) (N s : Nat) (w : World) (ha : Nt w a N) (h1 : len N ≤ 1000) (hs : s < 32) :
    Calls Tryd.prog 185 #[a, .int .i64 s] w fun e w' => ∃ g l, e = .returned (.slice (some ⟨g, 0, none⟩) (len N + 1) (len N + 1)) ∧ Hid (Own w' g l ∧ l.length = len N + 1 ∧ words l ∧ val l = N * 2 ^ s) ∧ w.heap.size ≤ g ∧ g < w'.heap.size ∧ Below w.heap.size w w' := by
  have HA := Lib.hid ha
  obtain ⟨ao, ca, rfl, a1, a2, _⟩ := ha.open
  clear ha
  obtain ⟨g, hg⟩ : ∃ g, w.heap.size = g := ⟨_, rfl⟩
  have hs2 : (s : Int) < 32 := by omega
  go_enter Tryd.func185, Tryd.ntmps185
  go_wp2_with (at_make; go_loud (refine wpList_make_words _ rfl _ _ rfl (len N + 1) _ _ rfl rfl (by rw [Int.natCast_add]; rfl) (by rw [Int.natCast_add]; rfl) (by omega) g hg ?_; intro w3 hO hB))
  have hO0 : Hid (Own w3 g (List.replicate (len N + 1) 0)) := Lib.hid hO
  have BW : Hid (Below g w w3) := Lib.hid hB
  clear hO hB
  have hn : (len N : Int) ≤ 1000 := by omega
  go_loopw [15] (fun s15 wr => ∃ k : Nat, s15 = .int .i64 (k : Int) ∧ k ≤ len N ∧ (∃ l, Hid (Own wr g l) ∧ Hid (ShI N s k l)) ∧ Hid (Below g w wr)) (fun s15 _ => len N - (RowKit.intOf s15).toNat)
  case atStart => exact ⟨0, rfl, Nat.zero_le _, ⟨_, hO0, Lib.hid (ShI.zero N s)⟩, BW⟩
  case round =>
    obtain ⟨k, rfl, hk, ⟨l, hO, hI⟩, hB⟩ := hrel
    have hgr : g < wr.heap.size := hO.out.lt
    have hBW : Hid (Below w.heap.size w wr) := Lib.hid (by rw [hg]; exact hB.out)
    by_cases h0 : k < len N
    · have hx0 : N ≠ 0 := fun e => by rw [e, len_zero] at h0; omega
      obtain ⟨ao', cx', ex, _, _, hx⟩ := (HA.out.below' hBW.out).open
      obtain ⟨rfl, rfl⟩ : ao' = ao ∧ cx' = ca := by simp at ex; exact ⟨ex.1.symm, ex.2.symm⟩
      obtain ⟨bx, offx, rfl, hbx, hcx⟩ := hx hx0
      have hcx1 := hcx k h0
      obtain ⟨t, ht⟩ : ∃ t, t = dig N k * 2 ^ s := ⟨_, rfl⟩
      obtain ⟨q1, q2, q3, q4, q5⟩ := hI.out.step h0 hs ht
      have hlen := hI.out.1
      have hw := hI.out.2.1
      have hu := dig_lt N k
      have hfr := hO.out.frozen k
      have hfr1 := hO.out.frozen (k + 1)
      have hcell := hO.out.cell (i := k) (by omega)
      have hcell1 := hO.out.cell (i := k + 1) (by omega)
      have hob := getD_lt hw k
      generalize l.getD (k + 1) 0 = y1 at *
      generalize dig N k = u at *
      generalize l.getD k 0 = y at *
      have HT := Lib.hid ht
      have e1 : IntKind.u64.wrap ((u : Int) * 2 ^ s) = (t : Int) := by
        rw [show (u : Int) * 2 ^ s = (t : Int) from by rw [ht]; push_cast; rfl]
        exact IntWalk.u64_in _ (by omega)
      have e2 : IntKind.u32.wrap (t : Int) = ((t % 4294967296 : Nat) : Int) := by rw [IntKind.wrap_u32]; omega
      have e3 : (t : Int) / 4294967296 = ((t / 4294967296 : Nat) : Int) := by omega
      have hO2 := hO.out.set k (y + t % 4294967296)
      have hO3 := hO2.set (k + 1) (t / 4294967296)
      have hfr2 := hO2.frozen (k + 1)
      have tl : t % 4294967296 < 4294967296 := Nat.mod_lt _ (by omega)
      generalize t % 4294967296 = a at *
      generalize t / 4294967296 = b at *
      have e4 : bits .or .u32 (y : Int) (a : Int) = ((y + a : Nat) : Int) := by rw [u32_or_nat y a hob tl, q2]
      have hz : y + a < 4294967296 := q3
      generalize y + a = z at *
      have HO3 := Lib.hid hO3
      have HI := Lib.hid q5
      have ek : (k : Int) + 1 < (len N + 1 : Nat) := by omega
      have ek1 : k + 1 < len N + 1 := by omega
      have ek2 : k < len N + 1 := by omega
      clear ht q2 q3 q5 hO2 hO3 hx ex hcx hlen hw
      go_wp2
      go_roundw
      case rel => exact ⟨k + 1, by go_num, by omega, ⟨_, HO3, HI⟩, Lib.hid ((hB.out.setCell (Nat.le_refl _) _).setCell (Nat.le_refl _) _)⟩
      case measure => simp [RowKit.intOf]; omega
    · obtain rfl : k = len N := by omega
      have ht : decide (len N < len N) = false := decide_eq_false (Nat.lt_irrefl _)
      have hd := Lib.hid hI.out.done
      go_wp2
      go_ret
      exact ⟨g, l, rfl, Lib.hid ⟨hO.out, hd.out⟩, by omega, hgr, hBW.out⟩
end Nn
end Go.Proofs.YtinlfogpbologaaDoor


/- The contract of long: the long division. -/
namespace Go.Proofs.YtinlfogpbologaaDoor
namespace Nn
open Go.RowKit NatMath
set_option linter.unusedVariables false
set_option linter.unusedSimpArgs false

namespace NatMath
theorem zero_above {l : List Nat} {k : Nat} (hw : words l) (h : val l < Bp k) (i : Nat) (hi : k ≤ i) : l.getD i 0 = 0 := by
  rw [dig_val hw]; unfold dig
  rw [Nat.div_eq_of_lt (Nat.lt_of_lt_of_le h (Bp_le hi))]
/-- the shift that makes the divisor's highest bit the highest of its word -/
theorem norm {M : Nat} (h : M ≠ 0) (h2 : 2 ≤ len M) : 1 ≤ bl (dig M (len M - 1)) ∧ bl (dig M (len M - 1)) ≤ 32 ∧
    2147483648 * Bp (len M - 1) ≤ M * 2 ^ (32 - bl (dig M (len M - 1))) ∧ M * 2 ^ (32 - bl (dig M (len M - 1))) < Bp (len M) := by
  have ht := dig_top h
  have hlt := dig_lt M (len M - 1)
  have h1 := bl_pos ht
  have h3 : bl (dig M (len M - 1)) ≤ 32 := bl_le_iff.2 hlt
  have hb := bl_top h
  generalize bl (dig M (len M - 1)) = b at *
  refine ⟨h1, h3, ?_, ?_⟩
  · have k := two_bl_le h
    rw [hb] at k
    have : 2 ^ (32 * (len M - 1) + b - 1) * 2 ^ (32 - b) ≤ M * 2 ^ (32 - b) := Nat.mul_le_mul_right _ k
    rw [← Nat.pow_add, show 32 * (len M - 1) + b - 1 + (32 - b) = 32 * (len M - 1) + 31 from by omega, Nat.pow_add, ← Bp_two, Nat.mul_comm] at this
    exact this
  · have k := lt_two_bl M
    rw [hb] at k
    have : M * 2 ^ (32 - b) < 2 ^ (32 * (len M - 1) + b) * 2 ^ (32 - b) := (Nat.mul_lt_mul_right (Nat.two_pow_pos _)).2 k
    rw [← Nat.pow_add, show 32 * (len M - 1) + b + (32 - b) = 32 * len M from by omega, ← Bp_two] at this
    exact this
theorem quot_small {N M : Nat} (h : M ≠ 0) (hl : len M ≤ len N) : N < M * Bp (len N - len M + 1) := by
  have h1 := Bp_len_le h
  have h2 := lt_Bp_len N
  have h3 : Bp (len M - 1) * Bp (len N - len M + 1) ≤ M * Bp (len N - len M + 1) := Nat.mul_le_mul_right _ h1
  have hm : len M ≠ 0 := fun e => h (len_eq_zero.1 e)
  rw [← Bp_add, show len M - 1 + (len N - len M + 1) = len N from by omega] at h3
  omega
theorem qt_eq (U V j : Nat) : qt (U % (V * Bp (j + 1))) V j = dig (U / V) j ∧ U % (V * Bp (j + 1)) % (V * Bp j) = U % (V * Bp j) := by
  have e : V * Bp (j + 1) = V * Bp j * 4294967296 := by rw [Bp_succ, Nat.mul_assoc]
  rw [e]
  refine ⟨?_, Nat.mod_mul_right_mod _ _ _⟩
  unfold qt dig
  rw [Nat.div_div_eq_div_mul, Nat.mul_comm (Bp j), Nat.mod_mul_right_div_self, Nat.div_div_eq_div_mul]
theorem shr_word (R s k : Nat) (hs : s < 32) : dig (R * 2 ^ s) k / 2 ^ s < 2 ^ (32 - s) ∧ dig (R * 2 ^ s) k / 2 ^ s ||| (dig (R * 2 ^ s) (k + 1) * 2 ^ (32 - s)) % 4294967296 = dig R k := by
  have hB : (4294967296 : Nat) = 2 ^ s * 2 ^ (32 - s) := by rw [← Nat.pow_add, show s + (32 - s) = 32 from by omega]
  have ha : dig (R * 2 ^ s) k / 2 ^ s < 2 ^ (32 - s) := by
    rw [Nat.div_lt_iff_lt_mul (Nat.two_pow_pos s), Nat.mul_comm (2 ^ (32 - s)) (2 ^ s), ← hB]; exact dig_lt _ _
  refine ⟨ha, ?_⟩
  rw [or_low ha (by omega)]
  have e1 : dig R k = R * 2 ^ s / Bp k / 2 ^ s % 4294967296 := by
    unfold dig; rw [Nat.div_div_eq_div_mul, Nat.mul_comm (Bp k), ← Nat.div_div_eq_div_mul, Nat.mul_div_cancel _ (Nat.two_pow_pos s)]
  have e2 : R * 2 ^ s / Bp k = 4294967296 * (R * 2 ^ s / Bp (k + 1)) + dig (R * 2 ^ s) k := by have := div_step (R * 2 ^ s) k; omega
  have e3 : dig (R * 2 ^ s) (k + 1) = R * 2 ^ s / Bp (k + 1) % 4294967296 := rfl
  rw [e1, e2, e3]
  generalize dig (R * 2 ^ s) k = x at *
  generalize R * 2 ^ s / Bp (k + 1) = Z at *
  have e4 : (4294967296 * Z + x) / 2 ^ s = 2 ^ (32 - s) * Z + x / 2 ^ s := by
    rw [show 4294967296 * Z = 2 ^ s * (2 ^ (32 - s) * Z) from by rw [← Nat.mul_assoc, ← hB], Nat.mul_add_div (Nat.two_pow_pos s)]
  have e5 : Z % 4294967296 * 2 ^ (32 - s) % 4294967296 = Z % 2 ^ s * 2 ^ (32 - s) := by
    rw [Nat.mod_mul_mod]
    conv => lhs; rw [hB]
    rw [Nat.mul_mod_mul_right]
  rw [e4, e5]
  generalize x / 2 ^ s = a at *
  have e6 : 2 ^ (32 - s) * Z + a = 4294967296 * (Z / 2 ^ s) + (Z % 2 ^ s * 2 ^ (32 - s) + a) := by
    conv => lhs; rw [← Nat.div_add_mod Z (2 ^ s)]
    rw [Nat.mul_add, ← Nat.mul_assoc, Nat.mul_comm (2 ^ (32 - s)) (2 ^ s), ← hB, Nat.mul_comm (2 ^ (32 - s)), Nat.add_assoc]
  have e7 : Z % 2 ^ s * 2 ^ (32 - s) + a < 4294967296 := by
    have h1 : Z % 2 ^ s + 1 ≤ 2 ^ s := Nat.mod_lt _ (Nat.two_pow_pos s)
    have h2 := Nat.mul_le_mul_right (2 ^ (32 - s)) h1
    rw [← hB, Nat.add_mul, Nat.one_mul] at h2
    omega
  rw [e6, Nat.mul_add_mod, Nat.mod_eq_of_lt e7, Nat.add_comm]
theorem Rd.zeros {X V n j : Nat} {l : List Nat} (h : Rd X V n j) (hw : words l) (hv : val l = X) : ∀ k, j + n < k → l.getD k 0 = 0 := by
  obtain ⟨h1, h2, h3, h4⟩ := h
  intro k hk
  refine zero_above (k := j + n + 1) hw ?_ k (by omega)
  rw [hv, show j + n + 1 = n + (j + 1) from by omega, Bp_add]
  exact Nat.lt_of_lt_of_le h4 (Nat.mul_le_mul_right _ (Nat.le_of_lt h3))
theorem len_mono {N M : Nat} (h : M ≤ N) : len M ≤ len N := by
  rw [len_le_iff]; exact Nat.lt_of_le_of_lt h (lt_Bp_len N)
end NatMath

theorem lz32 (x : Nat) (w : World) (hx : x < 4294967296) :
    Calls Tryd.prog 184 #[.int .u32 (x : Int)] w fun e w' => e = .returned (.int .i64 ((32 - bl x : Nat) : Int)) ∧ w' = w := by
  have h := Tryd.bits_LeadingZeros32 (x : Int) w (by omega) (by omega)
  rw [Int.toNat_natCast, bitLen_bl 32 x hx (by omega)] at h
  have : bl x ≤ 32 := bl_le_iff.2 hx
  rw [show (32 - (bl x : Int)) = ((32 - bl x : Nat) : Int) from by omega] at h
  exact h

/-- what is held at the head of a round of the long division -/
def LongI (gu gv gq : Nat) (lv : List Nat) (U V Q L kq k : Nat) (w0 wr : World) : Prop :=
  (∃ lu, Own wr gu lu ∧ lu.length = L ∧ words lu ∧ val lu = U % (V * Bp k)) ∧ Own wr gq (fillD (dig Q) k kq) ∧ Own wr gv lv ∧ Below w0.heap.size w0 wr

set_option maxRecDepth 100000 in
set_option maxHeartbeats 4000000 in
theorem long_c (a b : Value) (N M : Nat) (w : World) (ha : Nt w a N) (hb : Nt w b M) (h1 : len N ≤ 64) (h2 : 2 ≤ len M) (hl : M ≤ N) :
    Calls Tryd.prog 171 #[a, b] w fun e w' => ∃ g1 g2 k n, e = .returned (.tuple #[.slice (some ⟨g1, 0, none⟩) k k, .slice (some ⟨g2, 0, none⟩) n n]) ∧ Hid (Own w' g1 (fill (dig (N / M)) k k) ∧ N / M < Bp k ∧ Own w' g2 (fill (dig (N % M)) n n) ∧ N % M < Bp n ∧ k ≤ 64 ∧ n ≤ 64) ∧ w.heap.size ≤ g1 ∧ w.heap.size ≤ g2 ∧ Below w.heap.size w w' := by
  have hM0 : M ≠ 0 := by rintro rfl; rw [len_zero] at h2; omega
  have hN0 : N ≠ 0 := by rintro rfl; omega
  have hlm := len_mono hl
  have HQ := Lib.hid (quot_small hM0 hlm)
  have hnorm := norm hM0 h2
  have HA := Lib.hid ha
  have HB := Lib.hid hb
  obtain ⟨ao, ca, rfl, a1, a2, -⟩ := ha.open
  obtain ⟨bo, cb, rfl, b1, b2, b3⟩ := hb.open
  obtain ⟨bb, offb, rfl, hbb, hcb⟩ := b3 hM0
  have hct := hcb (len M - 1) (by omega)
  have hu := dig_lt M (len M - 1)
  have cZ := Lib.hid (fun W => lz32 (dig M (len M - 1)) W hu)
  have hs1 : 32 - bl (dig M (len M - 1)) < 32 := by omega
  have cV := Lib.hid (fun W hW => shifted_c (.slice (some ⟨bb, offb, none⟩) (len M) cb) M (32 - bl (dig M (len M - 1))) W hW (by omega) hs1)
  have cU := Lib.hid (fun W hW => shifted_c (.slice ao (len N) ca) N (32 - bl (dig M (len M - 1))) W hW (by omega) hs1)
  have HV := Lib.hid hnorm
  have HQ2 : Hid (N * 2 ^ (32 - bl (dig M (len M - 1))) < M * 2 ^ (32 - bl (dig M (len M - 1))) * Bp (len N - len M + 1)) := Lib.hid (by
    rw [Nat.mul_assoc, Nat.mul_comm (2 ^ _), ← Nat.mul_assoc]; exact (Nat.mul_lt_mul_right (Nat.two_pow_pos _)).2 HQ.out)
  have HQd : Hid (N * 2 ^ (32 - bl (dig M (len M - 1))) / (M * 2 ^ (32 - bl (dig M (len M - 1)))) = N / M) := Lib.hid (Nat.mul_div_mul_right _ _ (Nat.two_pow_pos _))
  have HRd : Hid (N * 2 ^ (32 - bl (dig M (len M - 1))) % (M * 2 ^ (32 - bl (dig M (len M - 1)))) = N % M * 2 ^ (32 - bl (dig M (len M - 1)))) := Lib.hid (Nat.mul_mod_mul_right _ _ _)
  have HRl : Hid (N % M < Bp (len M)) := Lib.hid (Nat.lt_trans (Nat.mod_lt _ (by omega)) (lt_Bp_len M))
  have HQl : Hid (N / M < Bp (len N - len M + 1)) := Lib.hid (by rw [Nat.div_lt_iff_lt_mul (by omega), Nat.mul_comm]; exact HQ.out)
  clear hnorm hM0 hN0 ha hb b3 hcb hl HQ
  generalize 32 - bl (dig M (len M - 1)) = s at *
  generalize M * 2 ^ s = V at *
  generalize N * 2 ^ s = U at *
  generalize N / M = Q at *
  generalize N % M = R at *
  generalize dig M (len M - 1) = tw at *
  generalize hn : len M = n at *
  generalize hla : len N = la at *
  have e1 : (la : Int) - (n : Int) = ((la - n : Nat) : Int) := by omega
  have e2 : ((la - n : Nat) : Int) + 1 = ((la - n + 1 : Nat) : Int) := by omega
  have e3 : (n : Int) - 1 = ((n - 1 : Nat) : Int) := by omega
  have hn1 : n - 1 < n := by omega
  generalize hL : la + 1 = L at *
  generalize hLn : n + 1 = Ln at *
  generalize hkq : la - n + 1 = kq at *
  generalize hd : la - n = d at *
  generalize hnn1 : n - 1 = n1 at *
  have hnLn : n ≤ Ln := by omega
  have hL65 : L ≤ 65 := by omega
  have hkq64 : kq ≤ 64 := by omega
  have q1 := Lib.hid hL
  have q2 := Lib.hid hLn
  have q3 := Lib.hid hkq
  have q4 := Lib.hid hd
  have q5 := Lib.hid hnn1
  have q6 := Lib.hid hn
  have q7 := Lib.hid hla
  clear hL hLn hkq hd hnn1 hn hla
  go_enter Tryd.func171, Tryd.ntmps171
  go_wp2_with fail
  refine (cZ.out _).mono ?_
  rintro e wz ⟨rfl, rfl⟩
  go_wp2_with fail
  refine (cV.out _ HB.out).mono ?_
  rintro e wv ⟨gv, lv, rfl, hv, gv1, gv2, hbv⟩
  have BV1 := Lib.hid hbv
  clear hbv
  go_wp2_with fail
  refine (cU.out _ (HA.out.below' BV1.out)).mono ?_
  rintro e wu ⟨gu, lu, rfl, hu2, gu1, gu2, hbu⟩
  have hv2 := Lib.hid (And.intro (hv.out.1.below' hbu) hv.out.2)
  have BU := Lib.hid (below_step2 BV1.out hbu)
  clear hbu hv BV1
  obtain ⟨gq, hgq⟩ : ∃ g, wu.heap.size = g := ⟨_, rfl⟩
  go_wp2_with (at_make; go_loud (refine wpList_make_words _ rfl _ _ rfl kq _ _ rfl rfl rfl rfl (by omega) gq hgq ?_; intro wq hO hB))
  have gu2' : gu < gq := by omega
  have hI0 : Hid (LongI gu gv gq lv U V Q L kq kq wz wq) := Lib.hid ⟨⟨lu, hu2.out.1.below hB gu2', hu2.out.2.1, hu2.out.2.2.1, by rw [hu2.out.2.2.2, Nat.mod_eq_of_lt HQ2.out]⟩, by rw [fillD_none]; exact hO, hv2.out.1.below hB (by omega), BU.out.trans (hB.mono (by have := BU.out.size; omega))⟩
  have hvl := Lib.hid hv2.out.2
  clear hO hB hu2 hv2 BU cZ cV cU lu
  have hgne : gu ≠ gv ∧ gu ≠ gq ∧ gv ≠ gq := by omega
  go_loopw [10] (fun s10 wr => ∃ k : Nat, s10 = .int .i64 ((k : Int) - 1) ∧ k ≤ kq ∧ Hid (LongI gu gv gq lv U V Q L kq k wz wr)) (fun s10 _ => (RowKit.intOf s10 + 1).toNat)
  case atStart => exact ⟨kq, rfl, Nat.le_refl _, hI0⟩
  case round =>
    obtain ⟨k, rfl, hk, hI⟩ := hrel
    by_cases h0 : k = 0
    · as_aux_lemma =>
      subst h0
      have hge : decide (1 ≤ ((0 : Nat) : Int)) = false := rfl
      have hge2 : decide ((0 : Int) ≤ ((0 : Nat) : Int) - 1) = false := rfl
      obtain ⟨⟨lu, hOu, hlu, hwu, hvu⟩, hOq, hOv, hBl⟩ := hI.out
      rw [Bp_zero, Nat.mul_one, HRd.out] at hvu
      rw [fillD_all] at hOq
      have hgu3 : gu < wr.heap.size := hOu.lt
      have hgq3 : gq < wr.heap.size := hOq.lt
      have HOU := Lib.hid hOu
      have HOQ := Lib.hid hOq
      have HLU := Lib.hid (And.intro hlu (And.intro hwu hvu))
      have HBL := Lib.hid hBl
      clear hOu hOq hOv hBl hlu hwu hvu hI hI0 hvl
      obtain ⟨gr, hgr⟩ : ∃ g, wr.heap.size = g := ⟨_, rfl⟩
      go_wp2_with (at_make; go_loud (refine wpList_make_words _ rfl _ _ rfl n _ _ rfl rfl rfl rfl (by omega) gr hgr ?_; intro w8 hO8 hB8))
      have hE8 : Hid (Own w8 gu lu ∧ Own w8 gq (fill (dig Q) kq kq) ∧ Below wz.heap.size wz w8 ∧ Own w8 gr (fill (dig R) 0 n)) := Lib.hid ⟨HOU.out.below hB8 (by omega), HOQ.out.below hB8 (by have := HOQ.out.lt; omega), HBL.out.trans (hB8.mono (by have := HBL.out.size; omega)), by rw [fill_zero]; exact hO8⟩
      have hgr9 : wz.heap.size ≤ gr := by have := HBL.out.size; omega
      clear hO8 hB8 HOU HOQ HBL
      have hgru : gr ≠ gu := by omega
      have hgrq : gr ≠ gq := by omega
      go_loopw [221] (fun s221 wx => ∃ k : Nat, s221 = .int .i64 (k : Int) ∧ k ≤ n ∧ Hid (Own wx gu lu ∧ Own wx gq (fill (dig Q) kq kq) ∧ Below wz.heap.size wz wx ∧ Own wx gr (fill (dig R) k n))) (fun s221 _ => n - (RowKit.intOf s221).toNat)
      case atStart => exact ⟨0, rfl, Nat.zero_le _, hE8⟩
      case round =>
        obtain ⟨k, rfl, hk, hE⟩ := hrel
        by_cases hkn : k < n
        · have t1 : decide (k < n) = true := decide_eq_true hkn
          obtain ⟨hOu, hOq, hBl, hOr⟩ := hE.out
          obtain ⟨hlu, hwu, hvu⟩ := HLU.out
          have hkL : k + 1 < L := by have := q1.out; omega
          have cz1 := hOu.cell (i := k) (by omega)
          have cz2 := hOu.cell (i := k + 1) (by omega)
          rw [dig_val hwu, hvu] at cz1 cz2
          obtain ⟨sw1, sw2⟩ := shr_word R s k hs1
          have hx1 := dig_lt (R * 2 ^ s) k
          have hx2 := dig_lt (R * 2 ^ s) (k + 1)
          have hdk := dig_lt R k
          have hOr2 := hOr.set k (dig R k)
          rw [fill_set _ hkn] at hOr2
          have hfr := hOr.frozen k
          have hcr := hOr.cell (i := k) (by rw [fill_length]; omega)
          generalize (fill (dig R) k n).getD k 0 = oo at *
          generalize dig (R * 2 ^ s) k = x1 at *
          generalize dig (R * 2 ^ s) (k + 1) = x2 at *
          have HE2 := Lib.hid (And.intro (hOu.setOther (a := ⟨gr, k, none⟩) hgru (.int .u32 (dig R k : Nat))) (And.intro (hOq.setOther (a := ⟨gr, k, none⟩) hgrq (.int .u32 (dig R k : Nat))) (And.intro (Below.setCell hBl (show wz.heap.size ≤ (⟨gr, k, none⟩ : Addr).block from hgr9) (.int .u32 (dig R k : Nat))) hOr2)))
          have k1 : IntKind.i64.wrap ((k : Int) + 1) = ((k + 1 : Nat) : Int) := by rw [IntWalk.i64_in _ (by omega)]; omega
          have hp : x2 * 2 ^ (32 - s) < 18446744073709551616 := by
            have h1 : 2 ^ (32 - s) ≤ 2 ^ 32 := Nat.pow_le_pow_right (by omega) (by omega)
            have := Nat.mul_le_mul (show x2 ≤ 4294967295 from by omega) h1
            omega
          have k2 : IntKind.i64.wrap (32 - (s : Int)) = ((32 - s : Nat) : Int) := by rw [IntWalk.i64_in _ (by omega)]; omega
          have hs3 : 32 - s ≤ 32 := by omega
          have k5 : (x1 : Int) / 2 ^ s = ((x1 / 2 ^ s : Nat) : Int) := by push_cast; rfl
          have hlo : x1 / 2 ^ s < 4294967296 := Nat.lt_of_le_of_lt (Nat.div_le_self _ _) hx1
          generalize 32 - s = s2 at *
          have k0 : IntKind.u64.wrap (x2 : Int) = (x2 : Int) := IntWalk.u64_in _ (by omega)
          have k3 : IntKind.u64.wrap ((x2 : Int) * 2 ^ s2) = ((x2 * 2 ^ s2 : Nat) : Int) := by
            rw [show (x2 : Int) * 2 ^ s2 = ((x2 * 2 ^ s2 : Nat) : Int) from by push_cast; rfl]
            exact IntWalk.u64_in _ (by omega)
          generalize x2 * 2 ^ s2 = t at *
          have k4 : IntKind.u32.wrap (t : Int) = ((t % 4294967296 : Nat) : Int) := by rw [IntKind.wrap_u32]; omega
          have htl : t % 4294967296 < 4294967296 := Nat.mod_lt _ (by omega)
          generalize t % 4294967296 = tl at *
          generalize x1 / 2 ^ s = h at *
          have k6 : bits .or .u32 (h : Int) (tl : Int) = ((dig R k : Nat) : Int) := by rw [u32_or_nat h tl hlo htl, sw2]
          generalize dig R k = rk at *
          obtain ⟨kk, hkk⟩ : ∃ kk, kk = k + 1 := ⟨_, rfl⟩
          rw [← hkk] at k1 cz2
          have kL1 : (kk : Int) < (L : Int) := by omega
          have kL2 : (k : Int) < (L : Int) := by omega
          have kL3 : (k : Int) < (n : Int) := by omega
          have kL4 : kk < L := by omega
          have kL5 : k < L := by omega
          have hne1 : gr ≠ gu := hgru
          have bz1 := hne1
          have HKK := Lib.hid hkk
          have HCZ1 := Lib.hid cz1
          have HCZ2 := Lib.hid cz2
          have HCR := Lib.hid hcr
          have HFR := Lib.hid hfr
          clear hkk sw1 sw2 hOu hOq hBl hOr hlu hwu hvu hOr2 hE hp
          go_wp2_with fail
          refine wp_region_held_drew (S := fun w' => w'.cell? ⟨gu, k, none⟩ = some (.int .u32 (x1 : Int)) ∧ w'.cell? ⟨gu, kk, none⟩ = some (.int .u32 (x2 : Int))) (by kernel_rfl) (by exact ⟨HCZ1.out, HCZ2.out⟩) (fun hHeld => ?_)
          refine takeW (i := 0) (some 224) (v := ?_) rfl rfl (by kernel_rfl) (by kernel_rfl) (by kernel_rfl) (fun _ _ _ h => h) (by rfl) (by assumption) ?_ ?_
          rotate_left
          · (intro wS hSw; (try dsimp only at hSw); go_simp; try with_reducible rfl)
          try simp only [Act.put, List.setIfInBounds_toArray, List.set_cons_zero, List.set_cons_succ]
          refine takeW (i := 1) (some 225) (v := ?_) rfl rfl (by kernel_rfl) (by kernel_rfl) (by kernel_rfl) (fun _ _ _ h => h) (by rfl) (by assumption) ?_ ?_
          rotate_left
          · (intro wS hSw; (try dsimp only at hSw); go_simp; try with_reducible rfl)
          try simp only [Act.put, List.setIfInBounds_toArray, List.set_cons_zero, List.set_cons_succ]
          refine takeW (i := 2) (some 226) (v := ?_) rfl rfl (by kernel_rfl) (by kernel_rfl) (by kernel_rfl) (fun _ _ _ h => h) (by rfl) (by assumption) ?_ ?_
          rotate_left
          · (intro wS hSw; (try dsimp only at hSw); go_simp; try with_reducible rfl)
          try simp only [Act.put, List.setIfInBounds_toArray, List.set_cons_zero, List.set_cons_succ]
          refine takeW (i := 3) (some 227) (v := ?_) rfl rfl (by kernel_rfl) (by kernel_rfl) (by kernel_rfl) (fun _ _ _ h => h) (by rfl) (by assumption) ?_ ?_
          rotate_left
          · (intro wS hSw; (try dsimp only at hSw); go_simp; try with_reducible rfl)
          try simp only [Act.put, List.setIfInBounds_toArray, List.set_cons_zero, List.set_cons_succ]
          refine takeW (i := 4) (some 228) (v := ?_) rfl rfl (by kernel_rfl) (by kernel_rfl) (by kernel_rfl) (fun _ _ _ h => h) (by rfl) (by assumption) ?_ ?_
          rotate_left
          · (intro wS hSw; (try dsimp only at hSw); go_simp; try with_reducible rfl)
          try simp only [Act.put, List.setIfInBounds_toArray, List.set_cons_zero, List.set_cons_succ]
          refine takeW (i := 5) (some 229) (v := ?_) rfl rfl (by kernel_rfl) (by kernel_rfl) (by kernel_rfl) (fun _ _ _ h => h) (by rfl) (by assumption) ?_ ?_
          rotate_left
          · (intro wS hSw; (try dsimp only at hSw); go_simp; try with_reducible rfl)
          try simp only [Act.put, List.setIfInBounds_toArray, List.set_cons_zero, List.set_cons_succ]
          refine takeW (i := 6) (some 230) (v := ?_) rfl rfl (by kernel_rfl) (by kernel_rfl) (by kernel_rfl) (fun _ _ _ h => h) (by rfl) (by assumption) ?_ ?_
          rotate_left
          · (intro wS hSw; (try dsimp only at hSw); go_simp; try with_reducible rfl)
          try simp only [Act.put, List.setIfInBounds_toArray, List.set_cons_zero, List.set_cons_succ]
          refine takeW (i := 7) (some 231) (v := ?_) rfl rfl (by kernel_rfl) (by kernel_rfl) (by kernel_rfl) (fun _ _ _ h => h) (by rfl) (by assumption) ?_ ?_
          rotate_left
          · (intro wS hSw; (try dsimp only at hSw); go_simp; try with_reducible rfl)
          try simp only [Act.put, List.setIfInBounds_toArray, List.set_cons_zero, List.set_cons_succ]
          refine takeW (i := 8) (some 232) (v := ?_) rfl rfl (by kernel_rfl) (by kernel_rfl) (by kernel_rfl) (fun _ _ _ h => h) (by rfl) (by assumption) ?_ ?_
          rotate_left
          · (intro wS hSw; (try dsimp only at hSw); go_simp; try with_reducible rfl)
          try simp only [Act.put, List.setIfInBounds_toArray, List.set_cons_zero, List.set_cons_succ]
          refine takeW (i := 9) (some 233) (v := ?_) rfl rfl (by kernel_rfl) (by kernel_rfl) (by kernel_rfl) (fun _ _ _ h => h) (by rfl) (by assumption) ?_ ?_
          rotate_left
          · (intro wS hSw; (try dsimp only at hSw); go_simp; try with_reducible rfl)
          try simp only [Act.put, List.setIfInBounds_toArray, List.set_cons_zero, List.set_cons_succ]
          refine takeW (i := 10) (some 234) (v := ?_) rfl rfl (by kernel_rfl) (by kernel_rfl) (by kernel_rfl) (fun _ _ _ h => h) (by rfl) (by assumption) ?_ ?_
          rotate_left
          · (intro wS hSw; (try dsimp only at hSw); go_simp; try with_reducible rfl)
          try simp only [Act.put, List.setIfInBounds_toArray, List.set_cons_zero, List.set_cons_succ]
          refine takeW (i := 11) (some 235) (v := ?_) rfl rfl (by kernel_rfl) (by kernel_rfl) (by kernel_rfl) (fun _ _ _ h => h) (by rfl) (by assumption) ?_ ?_
          rotate_left
          · (intro wS hSw; (try dsimp only at hSw); go_simp; try with_reducible rfl)
          try simp only [Act.put, List.setIfInBounds_toArray, List.set_cons_zero, List.set_cons_succ]
          refine takeW (i := 12) (some 236) (v := ?_) rfl rfl (by kernel_rfl) (by kernel_rfl) (by kernel_rfl) (fun _ _ _ h => h) (by rfl) (by assumption) ?_ ?_
          rotate_left
          · (intro wS hSw; (try dsimp only at hSw); go_simp; try with_reducible rfl)
          try simp only [Act.put, List.setIfInBounds_toArray, List.set_cons_zero, List.set_cons_succ]
          refine takeW (i := 13) (some 237) (v := ?_) rfl rfl (by kernel_rfl) (by kernel_rfl) (by kernel_rfl) (fun _ _ _ h => h) (by rfl) (by assumption) ?_ ?_
          rotate_left
          · (intro wS hSw; (try dsimp only at hSw); go_simp; try with_reducible rfl)
          try simp only [Act.put, List.setIfInBounds_toArray, List.set_cons_zero, List.set_cons_succ]
          refine takeW (i := 14) (some 238) (v := ?_) rfl rfl (by kernel_rfl) (by kernel_rfl) (by kernel_rfl) (fun _ _ _ h => h) (by rfl) (by assumption) ?_ ?_
          rotate_left
          · (intro wS hSw; (try dsimp only at hSw); go_simp; try with_reducible rfl)
          try simp only [Act.put, List.setIfInBounds_toArray, List.set_cons_zero, List.set_cons_succ]
          refine takeW (i := 15) (some 239) (v := ?_) rfl rfl (by kernel_rfl) (by kernel_rfl) (by kernel_rfl) (fun _ _ _ h => h) (by rfl) (by assumption) ?_ ?_
          rotate_left
          · (intro wS hSw; (try dsimp only at hSw); go_simp; try with_reducible rfl)
          try simp only [Act.put, List.setIfInBounds_toArray, List.set_cons_zero, List.set_cons_succ]
          refine takeW (i := 16) (some 240) (v := ?_) rfl rfl (by kernel_rfl) (by kernel_rfl) (by kernel_rfl) (fun _ _ _ h => h) (by rfl) (by assumption) ?_ ?_
          rotate_left
          · (intro wS hSw; (try dsimp only at hSw); go_simp; try with_reducible rfl)
          try simp only [Act.put, List.setIfInBounds_toArray, List.set_cons_zero, List.set_cons_succ]
          refine takeW (i := 17) (some 241) (v := ?_) rfl rfl (by kernel_rfl) (by kernel_rfl) (by kernel_rfl) (fun _ _ _ h => h) (by rfl) (by assumption) ?_ ?_
          rotate_left
          · (intro wS hSw; (try dsimp only at hSw); go_simp; try with_reducible rfl)
          try simp only [Act.put, List.setIfInBounds_toArray, List.set_cons_zero, List.set_cons_succ]
          refine takeW (i := 18) (some 242) (v := ?_) rfl rfl (by kernel_rfl) (by kernel_rfl) (by kernel_rfl) (fun _ _ _ h => h) (by rfl) (by assumption) ?_ ?_
          rotate_left
          · (intro wS hSw; (try dsimp only at hSw); go_simp; try with_reducible rfl)
          try simp only [Act.put, List.setIfInBounds_toArray, List.set_cons_zero, List.set_cons_succ]
          refine takeW (i := 19) (some 243) (v := ?_) rfl rfl (by kernel_rfl) (by kernel_rfl) (by kernel_rfl) (fun _ _ _ h => h) (by rfl) (by assumption) ?_ ?_
          rotate_left
          · (intro wS hSw; (try dsimp only at hSw); go_simp; try with_reducible rfl)
          try simp only [Act.put, List.setIfInBounds_toArray, List.set_cons_zero, List.set_cons_succ]
          refine wpAnyH_ready (rs := [20]) (by kernel_rfl) (by simp) ?_
          refine AllReadyH.cons rfl (fun KK hKK => ?_) AllReadyH.nil
          go_simp
          refine hKK.out _ _ ?_ (fun hHeld2 => ?_)
          · exact ⟨(World.cell?_setCell_far wr ⟨gr, k, none⟩ ⟨gu, k, none⟩ _ hgru).trans HCZ1.out, (World.cell?_setCell_far wr ⟨gr, k, none⟩ ⟨gu, kk, none⟩ _ hgru).trans HCZ2.out⟩
          clear hKK KK hHeld hHeld2
          try simp only [Act.put, List.setIfInBounds_toArray, List.set_cons_zero, List.set_cons_succ]
          refine wpAnyH_done (by kernel_rfl) ?_ _
          have hqd : Qw (wr.setCell ⟨gr, k, none⟩ (.int .u32 (rk : Int))) (wr.setCell ⟨gr, k, none⟩ (.int .u32 (rk : Int))).drew := ⟨1, rfl⟩
          have HE3 := Lib.hid (And.intro (HE2.out.1.qw hqd) (And.intro (HE2.out.2.1.qw hqd) (And.intro (HE2.out.2.2.1.trans (hqd.below _)) (HE2.out.2.2.2.qw hqd))))
          clear hqd HE2
          clear k0 k1 k2 k3 k4 k5 k6
          go_wp2
          go_roundw
          case rel => exact ⟨k + 1, by go_num, by omega, HE3⟩
          case measure => simp [RowKit.intOf]; omega
        · obtain rfl : k = n := by omega
          have t1 : decide (k < k) = false := decide_eq_false (Nat.lt_irrefl _)
          go_wp2
          go_ret2
          exact ⟨gq, gr, kq, k, rfl, Lib.hid ⟨hE.out.2.1, HQl.out, hE.out.2.2.2, HRl.out, hkq64, by omega⟩, by omega, hgr9, hE.out.2.2.1⟩
    · obtain ⟨j, rfl⟩ : ∃ j, k = j + 1 := ⟨k - 1, by omega⟩
      have ej : (((j + 1 : Nat) : Int) - 1) = (j : Int) := by omega
      rw [ej]
      clear ej h0
      obtain ⟨⟨lu, hOu, hlu, hwu, hvu⟩, hOq, hOv, hBl⟩ := hI.out
      have hRd : Rd (U % (V * Bp (j + 1))) V n j := ⟨h2, by rw [q5.out]; exact HV.out.2.2.1, HV.out.2.2.2, Nat.mod_lt _ (Nat.mul_pos (by have := HV.out.2.2.1; have := Bp_pos n1; omega) (Bp_pos _))⟩
      rw [← hvu] at hRd
      obtain ⟨lvl, lvw, lvv⟩ := hvl.out
      obtain ⟨v1a, v1b, v1c⟩ := hRd.v1
      obtain ⟨tpa, tpb⟩ := hRd.tp
      have hjL : j + n < L := by have := q1.out; have := q3.out; have := q4.out; omega
      have c1 := hOu.cell (i := j + n) (by omega)
      have c2 := hOu.cell (i := j + n - 1) (by omega)
      have c4 := hOv.cell (i := n1) (by omega)
      rw [dig_val hwu] at c1 c2
      rw [dig_val lvw, lvv] at c4
      have d1 := dig_lt (val lu) (j + n)
      have d2 := dig_lt (val lu) (j + n - 1)
      rw [q5.out] at v1a
      rw [v1a] at c4
      have hRD := Lib.hid hRd
      have FM : Hid (∀ g r, g * v1 V n + r = tp (val lu) n j → r * 4294967296 + u2 (val lu) n j < g * v2 V n → qt (val lu) V j < g) := Lib.hid (fun g r a b => hRd.more a b)
      have FC : Hid (∀ g r, g * v1 V n + r = tp (val lu) n j → g ≤ 4294967295 → (g * v2 V n ≤ r * 4294967296 + u2 (val lu) n j ∨ 4294967296 ≤ r) → g ≤ qt (val lu) V j + 1) := Lib.hid (fun g r a b c => hRd.close a b c)
      have FO : Hid (∀ g r, g * v1 V n + r = tp (val lu) n j → 4294967296 ≤ r → g ≤ 4294967295) := Lib.hid (fun g r a b => hRd.over a b)
      have FQ : Hid (qt (val lu) V j ≤ 4294967295) := Lib.hid hRd.qt_lt
      have FF : Hid (qt (val lu) V j ≤ tp (val lu) n j / v1 V n) := Lib.hid hRd.first
      have c3 := hOu.cell (i := j + n - 2) (by omega)
      have c5 := hOv.cell (i := n - 2) (by omega)
      rw [dig_val hwu, show dig (val lu) (j + n - 2) = u2 (val lu) n j from by unfold u2; rw [show j + n - 2 = j + (n - 2) from by omega]] at c3
      rw [dig_val lvw, lvv] at c5
      have c5' : wr.cell? ⟨gv, n - 2, none⟩ = some (.int .u32 ((v2 V n : Nat) : Int)) := c5
      have z1b : u2 (val lu) n j < 4294967296 := dig_lt _ _
      have z2b : v2 V n < 4294967296 := dig_lt _ _
      have HLU := Lib.hid (And.intro hlu hwu)
      have HVU := Lib.hid hvu
      clear c5
      generalize v2 V n = z2 at *
      generalize u2 (val lu) n j = z1 at *
      generalize hqj : qt (val lu) V j = qj at *
      have HQJ := Lib.hid hqj
      clear hqj
      generalize v1 V n = x1 at *
      generalize dig (val lu) (j + n) = y1 at *
      generalize dig (val lu) (j + n - 1) = y2 at *
      clear v1a
      have e4 : IntKind.i64.wrap ((j : Int) + (n : Int)) = ((j + n : Nat) : Int) := by rw [IntWalk.i64_in _ (by omega)]; omega
      have e5 : IntKind.i64.wrap (((j + n : Nat) : Int) - 1) = ((j + n - 1 : Nat) : Int) := by rw [IntWalk.i64_in _ (by omega)]; omega
      have e6 : IntKind.u64.wrap ((y1 : Int) * 4294967296) = ((y1 * 4294967296 : Nat) : Int) := by rw [IntWalk.u64_in _ (by omega)]; omega
      have e7 : bits .or .u64 ((y1 * 4294967296 : Nat) : Int) (y2 : Int) = ((tp (val lu) n j : Nat) : Int) := by
        rw [u64_or_nat _ y2 (by omega) (by omega), Nat.or_comm, or_shift (k := 32) (by simpa using d2), ← tpa]; congr 1; omega
      have hT : tp (val lu) n j < 18446744073709551616 := by rw [← tpa]; omega
      generalize tp (val lu) n j = T at *
      obtain ⟨p1, hp1⟩ : ∃ p1, p1 = y1 * 4294967296 := ⟨_, rfl⟩
      rw [← hp1] at e6 e7
      clear hp1
      have i1 : (j + n : Nat) < L := hjL
      have i2 : j + n - 1 < L := by omega
      have i3 : ((j + n : Nat) : Int) < (L : Int) := by omega
      have i4 : ((j + n - 1 : Nat) : Int) < (L : Int) := by omega
      have hjn : 2 ≤ j + n := by omega
      generalize hjn1 : j + n - 1 = jn1 at *
      generalize hjn0 : j + n = jn at *
      have JN1 := Lib.hid hjn1
      have JN0 := Lib.hid hjn0
      have TPA := Lib.hid tpa
      have TPB := Lib.hid tpb
      have HR := Lib.hid hRd
      clear hjn0 hjn1 tpa tpb hRd lvl lvw lvv hlu hwu hvu
      go_wp2_with fail
      go_quiet (fail)
      clear e4 e5 e6 e7 d1 d2 c1 c2 i2 i4
      have e8 : IntKind.i64.wrap ((n : Int) - 1) = (n1 : Int) := by rw [IntWalk.i64_in _ (by omega)]; exact e3
      have f1 : (T : Int).tdiv (x1 : Int) = ((T / x1 : Nat) : Int) := by rw [Int.tdiv_eq_ediv_of_nonneg (by omega)]; rfl
      have f2 : (T : Int).tmod (x1 : Int) = ((T % x1 : Nat) : Int) := by rw [Int.tmod_eq_emod_of_nonneg (by omega)]; rfl
      have f1' : (T : Int) / (x1 : Int) = ((T / x1 : Nat) : Int) := rfl
      have f2' : (T : Int) % (x1 : Int) = ((T % x1 : Nat) : Int) := rfl
      have f3 : ((x1 : Int) == 0) = false := by simp; omega
      have hg0 : T / x1 * x1 + T % x1 = T := Nat.div_add_mod' T x1
      have hr0 : T % x1 < 4294967296 := Nat.lt_trans (Nat.mod_lt _ (by omega)) v1c
      have hg1 : T / x1 < 18446744073709551616 := Nat.lt_of_le_of_lt (Nat.div_le_self _ _) hT
      generalize T / x1 = g0 at *
      generalize T % x1 = r0 at *
      have HG0 := Lib.hid hg0
      clear hg0
      have i5 : (n1 : Int) < (n : Int) := by omega
      go_wp2_with fail
      go_quiet (fail)
      have hFF := FF
      clear FF f1 f2 f1' f2' f3 e8
      go_upto_block 2 with (fail)
      go_cut [12] (fun s12 wx => ∃ g : Nat, s12 = .int .u64 (g : Int) ∧ Hid (qj ≤ g ∧ g ≤ qj + 1 ∧ g ≤ 4294967295) ∧ Hid (Qw wr wx))
      case first => as_aux_lemma =>
        have e4 : IntKind.i64.wrap ((j : Int) + (n : Int)) = (jn : Int) := by rw [IntWalk.i64_in _ (by have := JN0.out; omega)]; have := JN0.out; omega
        have e5 : IntKind.i64.wrap ((jn : Int) - 2) = ((jn - 2 : Nat) : Int) := by rw [IntWalk.i64_in _ (by omega)]; omega
        have e6 : IntKind.i64.wrap ((n : Int) - 2) = ((n - 2 : Nat) : Int) := by rw [IntWalk.i64_in _ (by omega)]; omega
        have i6 : ((n - 2 : Nat) : Int) < (n : Int) := by omega
        have i7 : ((jn - 2 : Nat) : Int) < (L : Int) := by omega
        have i8 : n - 2 < n := by omega
        have i9 : jn - 2 < L := by omega
        have FQ2 := FQ.out
        generalize n - 2 = n2 at *
        generalize jn - 2 = jn2 at *
        go_wp2_with fail
        go_loopw [12, 13] (fun s12 s13 wx => ∃ g r : Nat, s12 = .int .u64 (g : Int) ∧ s13 = .int .u64 (r : Int) ∧ r < 4294967296 ∧ g < 18446744073709551616 ∧ Hid (g * x1 + r = T) ∧ Hid (qj ≤ g) ∧ Hid (Qw wr wx)) (fun s12 _ _ => (RowKit.intOf s12).toNat)
        case atStart => exact ⟨g0, r0, rfl, rfl, hr0, hg1, HG0, hFF, Lib.hid (Qw.drewN ⟨_, rfl⟩ _)⟩
        case round =>
          obtain ⟨g, r, rfl, rfl, hr, hg, hE, hq, nw, rfl⟩ := hrel
          by_cases hbig : 4294967296 ≤ g
          · have t1 : decide (4294967295 < (g : Int)) = true := decide_eq_true (by omega)
            have t2 : decide (4294967295 < g) = true := decide_eq_true (by omega)
            obtain ⟨g', hgg⟩ : ∃ g', g = g' + 1 := ⟨g - 1, by omega⟩
            have hE2 : Hid (g' * x1 + (r + x1) = T) := Lib.hid (by have := hE.out; rw [hgg, Nat.add_mul] at this; omega)
            have hq2 : Hid (qj ≤ g') := Lib.hid (by omega)
            have eg : (g : Int) - 1 = (g' : Int) := by omega
            have hgl : g' < g := by omega
            clear hgg
            have er : (r : Int) + (x1 : Int) = ((r + x1 : Nat) : Int) := by omega
            have hrx : r + x1 < 8589934592 := by omega
            generalize r + x1 = r' at *
            by_cases hbr : 4294967296 ≤ r'
            · have t3 : decide (4294967295 < (r' : Int)) = true := decide_eq_true (by omega)
              have t4 : decide (4294967295 < r') = true := decide_eq_true (by omega)
              have hfin := Lib.hid (And.intro hq2.out (And.intro (FC.out g' r' hE2.out (FO.out g' r' hE2.out hbr) (Or.inr hbr)) (FO.out g' r' hE2.out hbr)))
              clear hbr hq hE
              go_wp2_with fail
              go_quiet (fail)
              go_wp2
              go_meet
              exact ⟨g', by go_num, hfin, Lib.hid ⟨_, rfl⟩⟩
            · have t3 : decide (4294967295 < (r' : Int)) = false := decide_eq_false (by omega)
              have t4 : decide (4294967295 < r') = false := decide_eq_false (by omega)
              clear hq hE
              have hrl : r' < 4294967296 := by omega
              have hgl2 : g' < 18446744073709551616 := by omega
              clear hbr
              go_wp2_with fail
              go_quiet (fail)
              go_wp2
              go_roundw
              case rel => exact ⟨g', r', by go_num, rfl, hrl, hgl2, hE2, hq2, _, rfl⟩
              case measure => simp [RowKit.intOf]; omega
          · have t1 : decide (4294967295 < (g : Int)) = false := decide_eq_false (by omega)
            have t2 : decide (4294967295 < g) = false := decide_eq_false (by omega)
            have hgz : g * z2 ≤ 4294967295 * 4294967295 := Nat.mul_le_mul (by omega) (by omega)
            have k1 : ∀ gz : Nat, gz = g * z2 → IntKind.u64.wrap ((g : Int) * (z2 : Int)) = (gz : Int) := fun gz h => by rw [← Int.natCast_mul, ← h]; exact IntWalk.u64_in _ (by omega)
            have k2 : IntKind.u64.wrap ((r : Int) * 4294967296) = ((r * 4294967296 : Nat) : Int) := by rw [IntWalk.u64_in _ (by omega)]; omega
            have k3 : bits .or .u64 ((r * 4294967296 : Nat) : Int) (z1 : Int) = ((r * 4294967296 + z1 : Nat) : Int) := by
              rw [u64_or_nat _ z1 (by omega) (by omega), Nat.or_comm, or_shift (k := 32) (by simpa using z1b)]; congr 1; omega
            have FM1 := fun h => FM.out g r hE.out h
            have FC1 := fun h => FC.out g r hE.out (by omega) (Or.inl h)
            obtain ⟨pz, hpz⟩ : ∃ pz, pz = r * 4294967296 := ⟨_, rfl⟩
            obtain ⟨pw, hpw⟩ : ∃ pw, pw = r * 4294967296 + z1 := ⟨_, rfl⟩
            obtain ⟨gz, hgzz⟩ : ∃ gz, gz = g * z2 := ⟨_, rfl⟩
            rw [← hpw, ← hgzz] at FM1 FC1
            rw [← hpz] at k2
            rw [← hpw, ← hpz] at k3
            replace k1 := k1 gz hgzz
            clear hpz hpw hgzz hgz
            by_cases ht : pw < gz
            · have FM2 := Lib.hid (FM1 ht)
              clear FM1 FC1
              have t5 : decide (pw < gz) = true := decide_eq_true ht
              clear ht
              obtain ⟨g', hgg⟩ : ∃ g', g = g' + 1 := ⟨g - 1, by have := FM2.out; omega⟩
              have hE2 : Hid (g' * x1 + (r + x1) = T) := Lib.hid (by have := hE.out; rw [hgg, Nat.add_mul] at this; omega)
              have hq2 : Hid (qj ≤ g') := Lib.hid (by have := FM2.out; omega)
              have eg : (g : Int) - 1 = (g' : Int) := by omega
              have hgl : g' < g := by omega
              clear hgg
              have er : (r : Int) + (x1 : Int) = ((r + x1 : Nat) : Int) := by omega
              have hrx : r + x1 < 8589934592 := by omega
              generalize r + x1 = r' at *
              by_cases hbr : 4294967296 ≤ r'
              · have t3 : decide (4294967295 < (r' : Int)) = true := decide_eq_true (by omega)
                have t4 : decide (4294967295 < r') = true := decide_eq_true (by omega)
                have hfin := Lib.hid (And.intro hq2.out (And.intro (FC.out g' r' hE2.out (FO.out g' r' hE2.out hbr) (Or.inr hbr)) (FO.out g' r' hE2.out hbr)))
                clear hbr hq hE
                go_wp2_with fail
                go_quiet (fail)
                go_wp2
                go_meet
                exact ⟨g', by go_num, hfin, Lib.hid ⟨_, rfl⟩⟩
              · have t3 : decide (4294967295 < (r' : Int)) = false := decide_eq_false (by omega)
                have t4 : decide (4294967295 < r') = false := decide_eq_false (by omega)
                clear hq hE
                have hrl : r' < 4294967296 := by omega
                have hgl2 : g' < 18446744073709551616 := by omega
                clear hbr
                go_wp2_with fail
                go_quiet (fail)
                go_wp2
                go_roundw
                case rel => exact ⟨g', r', by go_num, rfl, hrl, hgl2, hE2, hq2, _, rfl⟩
                case measure => simp [RowKit.intOf]; omega
            · have hfin := Lib.hid (And.intro hq.out (And.intro (FC1 (by omega)) (show g ≤ 4294967295 from by omega)))
              clear FM1 FC1
              have t5 : decide (pw < gz) = false := decide_eq_false ht
              clear ht
              go_wp2_with fail
              go_quiet (fail)
              go_wp2
              go_meet
              exact ⟨g, rfl, hfin, Lib.hid (Qw.drewN ⟨nw, rfl⟩ _)⟩
      case rest =>
        obtain ⟨g, rfl, hg, hqw⟩ := hcut
        have HRd := Lib.hid hRD.out
        have hS0 : Hid (∃ l, Own wc gu l ∧ SubI (val lu) V g j n L 0 0 0 l) := Lib.hid ⟨lu, hOu.qw hqw.out, SubI.start HLU.out.1 HLU.out.2 rfl (hRD.out.zeros HLU.out.2 rfl)⟩
        have hE0 : Hid (Own wc gq (fillD (dig Q) (j + 1) kq) ∧ Own wc gv lv ∧ Below wz.heap.size wz wc) := Lib.hid ⟨hOq.qw hqw.out, hOv.qw hqw.out, hBl.trans (hqw.out.below _)⟩
        have hg32 : g < 4294967296 := by have := hg.out; omega
        have hjn0 : j + n < L := by have := JN0.out; omega
        clear c3 c4 c5' hOu hOq hOv hBl hI hqw TPA TPB FM FC FO hFF HG0
        go_wp2_with fail
        go_loopw [124, 14, 15] (fun s124 s14 s15 wx => ∃ i b c : Nat, s124 = .int .i64 (i : Int) ∧ s14 = .int .u32 (b : Int) ∧ s15 = .int .u64 (c : Int) ∧ i ≤ n ∧ b ≤ 1 ∧ c < 4294967296 ∧ Hid (∃ l, Own wx gu l ∧ SubI (val lu) V g j n L i c b l) ∧ Hid (Own wx gq (fillD (dig Q) (j + 1) kq) ∧ Own wx gv lv ∧ Below wz.heap.size wz wx)) (fun s124 _ _ _ => n - (RowKit.intOf s124).toNat)
        case atStart => exact ⟨0, 0, 0, rfl, rfl, rfl, Nat.zero_le _, Nat.zero_le _, by omega, hS0, hE0⟩
        case round =>
          obtain ⟨i, b, c, rfl, rfl, rfl, hi, hb, hc, hS, hE⟩ := hrel
          obtain ⟨l, hOl, hSl⟩ := hS.out
          obtain ⟨hOq, hOv, hBl⟩ := hE.out
          have hll := hSl.1
          have hwl := hSl.2.1
          by_cases hin : i < n
          · have t1 : decide (i < n) = true := decide_eq_true hin
            have cv := hOv.cell (i := i) (by have := hvl.out.1; omega)
            rw [dig_val hvl.out.2.1, hvl.out.2.2] at cv
            have hvi := dig_lt V i
            have cy := hOl.cell (i := j + i) (by omega)
            have hfr := hOl.frozen (j + i)
            have hy := getD_lt hwl (j + i)
            obtain ⟨t, ht⟩ : ∃ t, t = g * dig V i + c := ⟨_, rfl⟩
            obtain ⟨y, hyy⟩ : ∃ y, y = l.getD (j + i) 0 := ⟨_, rfl⟩
            obtain ⟨htb, hS2⟩ := hSl.step hin hjn0 (by omega) ht hyy
            rw [← hyy] at cy hy
            have hO2 := hOl.set (j + i) ((y + 8589934592 - t % 4294967296 - b) % 4294967296)
            generalize dig V i = vi at *
            have hm1 : g * vi ≤ 4294967295 * 4294967295 := Nat.mul_le_mul (show g ≤ 4294967295 from by omega) (show vi ≤ 4294967295 from by omega)
            obtain ⟨m, hm⟩ : ∃ m, m = g * vi := ⟨_, rfl⟩
            rw [← hm] at ht hm1
            have k1 : IntKind.u64.wrap ((g : Int) * (vi : Int)) = (m : Int) := by rw [← Int.natCast_mul, ← hm]; exact IntWalk.u64_in _ (by omega)
            have k2 : IntKind.u64.wrap ((m : Int) + (c : Int)) = (t : Int) := by rw [IntWalk.u64_in _ (by omega)]; omega
            have k3 : (t : Int) / 4294967296 = ((t / 4294967296 : Nat) : Int) := by omega
            have k4 : IntKind.u32.wrap (t : Int) = ((t % 4294967296 : Nat) : Int) := by rw [IntKind.wrap_u32]; omega
            have htl : t % 4294967296 < 4294967296 := Nat.mod_lt _ (by omega)
            have hth : t / 4294967296 < 4294967296 := by omega
            have cS := fun W => sub32_c y (t % 4294967296) b W (by omega) (by omega) (by omega)
            generalize t % 4294967296 = tl at *
            generalize t / 4294967296 = th at *
            have hbb : (if y < tl + b then 1 else 0) ≤ 1 := by split <;> omega
            generalize (if y < tl + b then 1 else 0) = b2 at *
            generalize (y + 8589934592 - tl - b) % 4294967296 = nw at *
            have CS := Lib.hid cS
            have HS2 : Hid (∃ l', Own (wr.setCell ⟨gu, j + i, none⟩ (.int .u32 (nw : Int))) gu l' ∧ SubI (val lu) V g j n L (i + 1) th b2 l') := Lib.hid ⟨_, hO2, hS2⟩
            have HE2 := Lib.hid (And.intro (hOq.setOther (a := ⟨gu, j + i, none⟩) hgne.2.1 (.int .u32 (nw : Int))) (And.intro (hOv.setOther (a := ⟨gu, j + i, none⟩) hgne.1 (.int .u32 (nw : Int))) (Below.setCell hBl (show wz.heap.size ≤ (⟨gu, j + i, none⟩ : Addr).block from by dsimp only; omega) (.int .u32 (nw : Int)))))
            have hidx : j + i < L := by omega
            clear cS ht hm hyy hS2 hO2 hS hE hSl hll hwl hOl hOq hOv hBl hm1
            go_wp2_with (go_at_call 177; refine (CS.out _).mono ?_; rintro e w' ⟨rfl, rfl⟩)
            go_roundw
            case rel => exact ⟨i + 1, b2, th, by go_num, rfl, rfl, by omega, hbb, hth, HS2, HE2⟩
            case measure => simp [RowKit.intOf]; omega
          · obtain rfl : i = n := by omega
            have t1 : decide (i < i) = false := decide_eq_false (Nat.lt_irrefl _)
            have cy := hOl.cell (i := j + i) (by omega)
            have hfr := hOl.frozen (j + i)
            have hy := getD_lt hwl (j + i)
            obtain ⟨y, hyy⟩ : ∃ y, y = l.getD (j + i) 0 := ⟨_, rfl⟩
            obtain ⟨b2, hb2, hb3, p1, p2, p3, p4⟩ := hSl.top HV.out.2.2.2 hjn0 hyy
            rw [← hyy] at cy hy
            have hO2 := hOl.set (j + i) ((y + 8589934592 - c - b) % 4294967296)
            have cS := fun W => sub32_c y c b W (by omega) (by omega) (by omega)
            rw [← hb2] at cS
            have k4 : IntKind.u32.wrap (c : Int) = (c : Int) := by rw [IntKind.wrap_u32]; omega
            generalize l.set (j + i) ((y + 8589934592 - c - b) % 4294967296) = l2 at *
            have nwl : (y + 8589934592 - c - b) % 4294967296 < 4294967296 := Nat.mod_lt _ (by omega)
            generalize (y + 8589934592 - c - b) % 4294967296 = nw at *
            have CS := Lib.hid cS
            have HO2 := Lib.hid hO2
            have HE2 := Lib.hid (And.intro (hOq.setOther (a := ⟨gu, j + i, none⟩) hgne.2.1 (.int .u32 (nw : Int))) (And.intro (hOv.setOther (a := ⟨gu, j + i, none⟩) hgne.1 (.int .u32 (nw : Int))) (Below.setCell hBl (show wz.heap.size ≤ (⟨gu, j + i, none⟩ : Addr).block from by dsimp only; omega) (.int .u32 (nw : Int)))))
            have P4 := Lib.hid p4
            have PL := Lib.hid (And.intro p1 (And.intro p2 p3))
            have hjk : j < kq := by omega
            clear cS hyy hb2 hO2 hS hE hSl hll hwl hOl hOq hOv hBl p1 p2 p3 p4
            by_cases hz : b2 = 0
            · subst hz
              have hr := hRD.out.right (g := g) (A := val l2) (by rw [HQJ.out]; exact hg.out.1) (by have := P4.out; omega)
              have hgq : g = qj := by rw [← HQJ.out]; exact hr.1
              have hval3 := hr.2
              subst hgq
              clear hr
              generalize hWW : wr.setCell ⟨gu, j + i, none⟩ (.int .u32 (nw : Int)) = WW at *
              obtain ⟨hOq3, hOv3, hBl3⟩ := HE2.out
              have hO3 := HO2.out
              have hlen3 := PL.out.1
              have hw3 := PL.out.2.1
              have hqd : dig Q j = g := by rw [← HQd.out, ← HQJ.out, HVU.out]; exact (qt_eq U V j).1.symm
              have hfq := hOq3.frozen j
              have hcq := hOq3.cell (i := j) (by rw [fillD_length]; omega)
              have hOq4 := hOq3.set j g
              rw [← hqd, fillD_set _ hjk, hqd] at hOq4
              have HF : Hid (LongI gu gv gq lv U V Q L kq j wz (WW.setCell ⟨gq, j, none⟩ (.int .u32 (g : Int)))) := Lib.hid ⟨⟨_, hO3.setOther (a := ⟨gq, j, none⟩) (fun e => hgne.2.1 e.symm) _, hlen3, hw3, by rw [hval3, HVU.out]; exact (qt_eq U V j).2⟩, hOq4, hOv3.setOther (a := ⟨gq, j, none⟩) (fun e => hgne.2.2 e.symm) _, Below.setCell hBl3 (show wz.heap.size ≤ (⟨gq, j, none⟩ : Addr).block from by dsimp only; omega) _⟩
              have kq1 : IntKind.u32.wrap (g : Int) = (g : Int) := by rw [IntKind.wrap_u32]; omega
              have jk2 : (j : Int) < (kq : Int) := by omega
              generalize (fillD (dig Q) (j + 1) kq).getD j 0 = oq at *
              subst hWW
              clear hval3 hqd hOq4 hO3 hlen3 hw3 hOq3 hOv3 hBl3
              go_wp2_with (go_at_call 177; refine (CS.out _).mono ?_; rintro e w' ⟨rfl, rfl⟩)
              go_roundw
              case rel => exact ⟨j, rfl, by omega, HF⟩
              case measure => simp [RowKit.intOf]
            · obtain rfl : b2 = 1 := by omega
              have hr := hRD.out.wrong (g := g) (A := val l2) (by rw [HQJ.out]; exact hg.out.2.1) (by have := P4.out; rw [Nat.one_mul] at this; exact this) (val_lt_of_zero PL.out.2.1 PL.out.2.2)
              have hgq : g = qj + 1 := by rw [← HQJ.out]; exact hr.1
              have eg : (g : Int) - 1 = (qj : Int) := by omega
              have HY := Lib.hid hr.2
              have hS0 : Hid (∃ l', Own (wr.setCell ⟨gu, j + i, none⟩ (.int .u32 (nw : Int))) gu l' ∧ AddI (val l2) V j i L 0 0 l') := Lib.hid ⟨l2, HO2.out, AddI.start PL.out.1 PL.out.2.1 rfl PL.out.2.2⟩
              have hqj32 : qj < 4294967296 := by omega
              clear hr hgq P4 PL HO2 hz
              go_wp2_with (go_at_call 177; refine (CS.out _).mono ?_; rintro e w' ⟨rfl, rfl⟩)
              go_loopw [180, 19] (fun s180 s19 wx => ∃ i2 c2 : Nat, s180 = .int .i64 (i2 : Int) ∧ s19 = .int .u32 (c2 : Int) ∧ i2 ≤ i ∧ c2 ≤ 1 ∧ Hid (∃ l, Own wx gu l ∧ AddI (val l2) V j i L i2 c2 l) ∧ Hid (Own wx gq (fillD (dig Q) (j + 1) kq) ∧ Own wx gv lv ∧ Below wz.heap.size wz wx)) (fun s180 _ _ => i - (RowKit.intOf s180).toNat)
              case atStart => exact ⟨0, 0, rfl, rfl, Nat.zero_le _, Nat.zero_le _, hS0, HE2⟩
              case round =>
                obtain ⟨i2, c2, rfl, rfl, hi2, hc2, hS, hE⟩ := hrel
                obtain ⟨l, hOl, hSl⟩ := hS.out
                obtain ⟨hOq, hOv, hBl⟩ := hE.out
                have hll := hSl.1
                have hwl := hSl.2.1
                by_cases hin : i2 < i
                · have t2 : decide (i2 < i) = true := decide_eq_true hin
                  have cv := hOv.cell (i := i2) (by have := hvl.out.1; omega)
                  rw [dig_val hvl.out.2.1, hvl.out.2.2] at cv
                  have hvi := dig_lt V i2
                  have cy := hOl.cell (i := j + i2) (by omega)
                  have hfr := hOl.frozen (j + i2)
                  have hy := getD_lt hwl (j + i2)
                  obtain ⟨y, hyy⟩ : ∃ y, y = l.getD (j + i2) 0 := ⟨_, rfl⟩
                  have hS2 := hSl.step hin hjn0 hyy
                  rw [← hyy] at cy hy
                  have hO2 := hOl.set (j + i2) ((y + dig V i2 + c2) % 4294967296)
                  generalize dig V i2 = vi at *
                  have cA := fun W => add32_c y vi c2 W (by omega) (by omega) (by omega)
                  have hc3 : (y + vi + c2) / 4294967296 ≤ 1 := by omega
                  generalize (y + vi + c2) / 4294967296 = c3 at *
                  generalize (y + vi + c2) % 4294967296 = nw2 at *
                  have CA := Lib.hid cA
                  have HS2 : Hid (∃ l', Own (wr.setCell ⟨gu, j + i2, none⟩ (.int .u32 (nw2 : Int))) gu l' ∧ AddI (val l2) V j i L (i2 + 1) c3 l') := Lib.hid ⟨_, hO2, hS2⟩
                  have HE3 := Lib.hid (And.intro (hOq.setOther (a := ⟨gu, j + i2, none⟩) hgne.2.1 (.int .u32 (nw2 : Int))) (And.intro (hOv.setOther (a := ⟨gu, j + i2, none⟩) hgne.1 (.int .u32 (nw2 : Int))) (Below.setCell hBl (show wz.heap.size ≤ (⟨gu, j + i2, none⟩ : Addr).block from by dsimp only; omega) (.int .u32 (nw2 : Int)))))
                  have hidx : j + i2 < L := by omega
                  clear cA hyy hS2 hO2 hS hE hSl hll hwl hOl hOq hOv hBl
                  go_wp2_with (go_at_call 186; refine (CA.out _).mono ?_; rintro e w' ⟨rfl, rfl⟩)
                  go_roundw
                  case rel => exact ⟨i2 + 1, c3, by go_num, rfl, by omega, hc3, HS2, HE3⟩
                  case measure => simp [RowKit.intOf]; omega
                · obtain rfl : i2 = i := by omega
                  have t2 : decide (i2 < i2) = false := decide_eq_false (Nat.lt_irrefl _)
                  have cy := hOl.cell (i := j + i2) (by omega)
                  have hfr := hOl.frozen (j + i2)
                  have hy := getD_lt hwl (j + i2)
                  obtain ⟨y, hyy⟩ : ∃ y, y = l.getD (j + i2) 0 := ⟨_, rfl⟩
                  obtain ⟨p1, p2, _, p4⟩ := hSl.top hRD.out HY.out hjn0 hyy
                  rw [← hyy] at cy hy
                  have hO2 := hOl.set (j + i2) ((y + c2) % 4294967296)
                  have ky : IntKind.u32.wrap ((y : Int) + (c2 : Int)) = (((y + c2) % 4294967296 : Nat) : Int) := by rw [IntKind.wrap_u32]; omega
                  generalize l.set (j + i2) ((y + c2) % 4294967296) = l3 at *
                  generalize (y + c2) % 4294967296 = nw2 at *
                  have HO2 := Lib.hid hO2
                  have HE3 := Lib.hid (And.intro (hOq.setOther (a := ⟨gu, j + i2, none⟩) hgne.2.1 (.int .u32 (nw2 : Int))) (And.intro (hOv.setOther (a := ⟨gu, j + i2, none⟩) hgne.1 (.int .u32 (nw2 : Int))) (Below.setCell hBl (show wz.heap.size ≤ (⟨gu, j + i2, none⟩ : Addr).block from by dsimp only; omega) (.int .u32 (nw2 : Int)))))
                  have hval3 := p4
                  have hlen3 := p1
                  have hw3 := p2
                  clear hyy hO2 hS hE hSl hll hwl hOl hOq hOv hBl p1 p2 p4
                  generalize hWW : wr.setCell ⟨gu, j + i2, none⟩ (.int .u32 (nw2 : Int)) = WW at *
                  obtain ⟨hOq3, hOv3, hBl3⟩ := HE3.out
                  have hO3 := HO2.out
                  have hqd : dig Q j = qj := by rw [← HQd.out, ← HQJ.out, HVU.out]; exact (qt_eq U V j).1.symm
                  have hfq := hOq3.frozen j
                  have hcq := hOq3.cell (i := j) (by rw [fillD_length]; omega)
                  have hOq4 := hOq3.set j qj
                  rw [← hqd, fillD_set _ hjk, hqd] at hOq4
                  have HF : Hid (LongI gu gv gq lv U V Q L kq j wz (WW.setCell ⟨gq, j, none⟩ (.int .u32 (qj : Int)))) := Lib.hid ⟨⟨_, hO3.setOther (a := ⟨gq, j, none⟩) (fun e => hgne.2.1 e.symm) _, hlen3, hw3, by rw [hval3, HVU.out]; exact (qt_eq U V j).2⟩, hOq4, hOv3.setOther (a := ⟨gq, j, none⟩) (fun e => hgne.2.2 e.symm) _, Below.setCell hBl3 (show wz.heap.size ≤ (⟨gq, j, none⟩ : Addr).block from by dsimp only; omega) _⟩
                  have kq1 : IntKind.u32.wrap (qj : Int) = (qj : Int) := by rw [IntKind.wrap_u32]; omega
                  have jk2 : (j : Int) < (kq : Int) := by omega
                  generalize (fillD (dig Q) (j + 1) kq).getD j 0 = oq at *
                  subst hWW
                  clear hval3 hqd hOq4 hO3 hlen3 hw3 hOq3 hOv3 hBl3
                  go_wp2
                  go_roundw
                  case rel => exact ⟨j, rfl, by omega, HF⟩
                  case measure => simp [RowKit.intOf]
end Nn
end Go.Proofs.YtinlfogpbologaaDoor


/- The contract of Div. -/
namespace Go.Proofs.YtinlfogpbologaaDoor
namespace Nn
open Go.RowKit NatMath
set_option linter.unusedVariables false

theorem long_boxes (a b : Value) (N M : Nat) (w W : World) (ha : Nt w a N) (hb : Nt w b M) (h1 : len N ≤ 64) (h2 : 2 ≤ len M) (hl : M ≤ N) (hB : Boxes w W) :
    Calls Tryd.prog 171 #[a, b] W fun e w' => ∃ g1 g2 k n, e = .returned (.tuple #[.slice (some ⟨g1, 0, none⟩) k k, .slice (some ⟨g2, 0, none⟩) n n]) ∧ Hid (Own w' g1 (fill (dig (N / M)) k k) ∧ N / M < Bp k ∧ Own w' g2 (fill (dig (N % M)) n n) ∧ N % M < Bp n ∧ k ≤ 64 ∧ n ≤ 64) ∧ w.heap.size + 3 < g1 ∧ w.heap.size + 3 < g2 ∧ Hid (Boxes w w') := by
  refine (long_c a b N M W (ha.below' hB.1) (hb.below' hB.1) h1 h2 hl).mono ?_
  rintro e w' ⟨g1, g2, k, n, rfl, hO, e1, e2, hb⟩
  have := hB.2.1
  exact ⟨g1, g2, k, n, rfl, hO, by omega, by omega, Lib.hid (hB.on hb)⟩

set_option maxRecDepth 100000 in
set_option maxHeartbeats 1000000 in
theorem Div_long (a b : Value) (N M : Nat) (w : World) (ha : Nt w a N) (hb : Nt w b M) (h1 : len N ≤ 64) (h2 : len M ≤ 64) (h0 : 2 ≤ len M) (hl : M ≤ N) :
    Calls Tryd.prog 152 #[.agg #[a], .agg #[b]] w fun e w' => RetNN (fun w' u v => NtU w' u (N / M) ∧ Fr w.heap.size u ∧ NtU w' v (N % M) ∧ Fr w.heap.size v) e w' ∧ Below w.heap.size w w' := by
  have c1 := fun w h => Valid_c a (digs N) w h
  have c2 := fun w h => Valid_c b (digs M) w h
  have c3 := fun w h1 h2 => compare_c a b N M w h1 h2
  rw [vld_digs, decide_eq_true h1] at c1
  rw [vld_digs, decide_eq_true h2] at c2
  have C1 := Lib.hid c1
  have C2 := Lib.hid c2
  have C3 := Lib.hid c3
  have HA := Lib.hid ha
  have HB := Lib.hid hb
  have hM0 : M ≠ 0 := fun e => by rw [e, len_zero] at h0; omega
  have c4 := fun W h => long_boxes a b N M w W ha hb h1 h0 hl h
  have C4 := Lib.hid c4
  have hcmp : decide (cmp N M < 0) = false := decide_eq_false (by unfold cmp; rw [if_neg (by omega)]; split <;> omega)
  obtain ⟨ao, ca, rfl, a1, a2, _⟩ := ha.open
  obtain ⟨bo, cb, rfl, b1, b2, _⟩ := hb.open
  have HN64 := Lib.hid h1
  have g7 : ((len M : Int) == 0) = false := by simp; omega
  have g8 : ((len M : Int) == 1) = false := by simp; omega
  have l1 : (len M : Int) ≤ 64 := by omega
  clear c4 hM0 h1 h2 h0 hl
  clear c1 c2 c3 ha hb
  generalize cmp N M = R at *
  go_enter Tryd.func152, Tryd.ntmps152
  go_wp2_with fail
  refine (C1.out _ (HA.out.below' (below_four _ _ _ _ _))).mono ?_; rintro e w1 ⟨rfl, hb1⟩
  have z1 : w.heap.size + 3 < w1.heap.size := by have := hb1.size; simp at this; omega
  have B1 : Hid (Below w.heap.size w w1) := Lib.hid ((below_four _ _ _ _ _).trans (hb1.mono (by simp; omega)))
  obtain ⟨x1, x2, x3, x4, x5, x6⟩ := box4 w (.slice ao (len N) ca) (.slice bo (len M) cb) (.slice none 0 0) (.slice none 0 0) 96 96 96 96
  have f1 := (hb1.cell (p := ⟨w.heap.size, 0, none⟩) (by simp; omega)).trans x1
  have f2 := (hb1.cell (p := ⟨w.heap.size + 1, 0, none⟩) (by simp)).trans x2
  have f3 := (hb1.cell (p := ⟨w.heap.size + 1 + 1, 0, none⟩) (by simp)).trans x3
  have f4 := (hb1.frozen (p := ⟨w.heap.size + 1 + 1, 0, none⟩) (by simp)).trans x4
  have f5 := (hb1.cell (p := ⟨w.heap.size + 1 + 1 + 1, 0, none⟩) (by simp)).trans x5
  have f6 := (hb1.frozen (p := ⟨w.heap.size + 1 + 1 + 1, 0, none⟩) (by simp)).trans x6
  clear x1 x2 x3 x4 x5 x6 hb1
  go_wp2_with fail
  refine (C2.out _ (HB.out.below' B1.out)).mono ?_; rintro e w2 ⟨rfl, hb2⟩
  have z2 : w.heap.size + 3 < w2.heap.size := by have := hb2.size; omega
  have B2 : Hid (Below w.heap.size w w2) := Lib.hid (B1.out.trans (hb2.mono (by omega)))
  have g1 := (hb2.cell (p := ⟨w.heap.size, 0, none⟩) (by dsimp only; omega)).trans f1
  have g2 := (hb2.cell (p := ⟨w.heap.size + 1, 0, none⟩) (by dsimp only; omega)).trans f2
  have g3 := (hb2.cell (p := ⟨w.heap.size + 1 + 1, 0, none⟩) (by dsimp only; omega)).trans f3
  have g4 := (hb2.frozen (p := ⟨w.heap.size + 1 + 1, 0, none⟩) (by dsimp only; omega)).trans f4
  have g5 := (hb2.cell (p := ⟨w.heap.size + 1 + 1 + 1, 0, none⟩) (by dsimp only; omega)).trans f5
  have g6 := (hb2.frozen (p := ⟨w.heap.size + 1 + 1 + 1, 0, none⟩) (by dsimp only; omega)).trans f6
  clear hb2 f1 f2 f3 f4 f5 f6 z1 B1 C1 C2
  go_wp2_with fail
  refine (C3.out _ (HA.out.below' B2.out) (HB.out.below' B2.out)).mono ?_; rintro e w3 ⟨rfl, hq⟩
  have hb3 := hq.below w2.heap.size
  have z3 : w.heap.size + 3 < w3.heap.size := by have := hb3.size; omega
  have B3 : Hid (Below w.heap.size w w3) := Lib.hid (B2.out.trans (hb3.mono (by omega)))
  have f1 := (hb3.cell (p := ⟨w.heap.size, 0, none⟩) (by dsimp only; omega)).trans g1
  have f2 := (hb3.cell (p := ⟨w.heap.size + 1, 0, none⟩) (by dsimp only; omega)).trans g2
  have f3 := (hb3.cell (p := ⟨w.heap.size + 1 + 1, 0, none⟩) (by dsimp only; omega)).trans g3
  have f4 := (hb3.frozen (p := ⟨w.heap.size + 1 + 1, 0, none⟩) (by dsimp only; omega)).trans g4
  have f5 := (hb3.cell (p := ⟨w.heap.size + 1 + 1 + 1, 0, none⟩) (by dsimp only; omega)).trans g5
  have f6 := (hb3.frozen (p := ⟨w.heap.size + 1 + 1 + 1, 0, none⟩) (by dsimp only; omega)).trans g6
  clear hb3 hq g1 g2 g3 g4 g5 g6 z2 B2 C3
  have FD : Boxes w w3 := ⟨B3.out, z3, f3, f4, f5, f6⟩
  have FH := Lib.hid FD
  clear FD
  go_wp2_with fail
  refine (C4.out _ FH.out).mono ?_
  rintro e w4 ⟨p1, p2, k, n, rfl, hO, hg1, hg2, u⟩
  clear f1 f2 f3 f4 f5 f6 C4
  obtain ⟨u1, u2, u3, u4, u5, u6⟩ := u.out
  clear u3 u4 u5 u6
  go_wp2_with fail
  refine (trimmed_boxes p1 _ w w4 hO.out.1 (fill_words (dig_lt _)) _ (fill_length _ _ _) (by have := hO.out.2.2.2.2.1; omega) (by omega) u.out).mono ?_
  rw [fill_val hO.out.2.1]
  rintro e w5 ⟨a5, c5, rfl, hv5, hf5, ub5, hb5⟩
  have hs5 : w.heap.size + 3 < w5.heap.size := ub5.out.2.1
  go_wp2_with fail
  refine (trimmed_boxes p2 _ w w5 (hO.out.2.2.1.below' hb5.out) (fill_words (dig_lt _)) _ (fill_length _ _ _) (by have := hO.out.2.2.2.2.2; omega) (by omega) ub5.out).mono ?_
  rw [fill_val hO.out.2.2.2.1]
  rintro e w6 ⟨a6, c6, rfl, hv6, hf6, ub6, hb6⟩
  have hv56 : Hid (NtU w6 (.slice a5 (len (N / M)) c5) (N / M)) := Lib.hid (hv5.out.below' hb6.out)
  obtain ⟨u1, u2, u3, u4, u5, u6⟩ := ub6.out
  clear hv5 hb6 hs5 hb5
  go_wp2
  refine bodyPost_ret (v := .tuple #[.agg #[.slice a5 (len (N / M)) c5], .agg #[.slice a6 (len (N % M)) c6], .int .i64 0]) (by simp [results, Tryd.results152, go_sem, u3, u5]) rfl ⟨⟨_, _, Lib.hid ⟨?_, (Fr.mono hf5.out (by omega)), ?_, (Fr.mono hf6.out (by omega))⟩, rfl⟩, ?_⟩
  · exact (hv56.out.set hf5.out (by dsimp only; omega) _).set hf5.out (by dsimp only; omega) _
  · exact (hv6.out.set hf6.out (by dsimp only; omega) _).set hf6.out (by dsimp only; omega) _
  · exact (u1.setCell (by dsimp only; omega) _).setCell (by dsimp only; omega) _

/-- Div of valid numbers, the divisor not 0 -/
theorem Div_cU (a b : Value) (N M : Nat) (w : World) (ha : Nt w a N) (hb : Nt w b M) (h1 : len N ≤ 64) (h2 : len M ≤ 64) (h0 : M ≠ 0) :
    Calls Tryd.prog 152 #[.agg #[a], .agg #[b]] w fun e w' => RetNN (fun w' u v => NtU w' u (N / M) ∧ Fr w.heap.size u ∧ NtU w' v (N % M) ∧ Fr w.heap.size v) e w' ∧ Below w.heap.size w w' := by
  by_cases hl : N < M
  · rw [Nat.div_eq_of_lt hl, Nat.mod_eq_of_lt hl]; exact Div_smallU a b N M w ha hb h1 h2 hl h0
  · have hm : len M ≠ 0 := fun e => h0 (len_eq_zero.1 e)
    by_cases h3 : len M = 1
    · exact Div_shortU a b N M w ha hb h1 h2 h3 (by omega)
    · exact Div_long a b N M w ha hb h1 h2 (by omega) (by omega)

theorem Div_c (a b : Value) (N M : Nat) (w : World) (ha : Nt w a N) (hb : Nt w b M) (h1 : len N ≤ 64) (h2 : len M ≤ 64) (h0 : M ≠ 0) :
    Calls Tryd.prog 152 #[.agg #[a], .agg #[b]] w fun e w' => RetNN (fun w' u v => Nt w' u (N / M) ∧ Fr w.heap.size u ∧ Nt w' v (N % M) ∧ Fr w.heap.size v) e w' ∧ Below w.heap.size w w' :=
  (Div_cU a b N M w ha hb h1 h2 h0).mono fun _ _ h => ⟨h.1.old, h.2⟩
end Nn
end Go.Proofs.YtinlfogpbologaaDoor

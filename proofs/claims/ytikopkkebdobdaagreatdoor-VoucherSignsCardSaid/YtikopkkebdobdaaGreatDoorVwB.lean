/- Picked declarations of VnModRa, VnModRb, VnModU, VnModV, VnModW, VnModX, VnModY, VnModEnv, VnModMath, VnMod1, VnMod2, VnMod3, VnMod4. -/
import Derived.Test.YtikopkkebdobdaaGreatDoorVwA
import Derived.Maps.AppendAt
import Derived.Deep.RegionHeld3
import Derived.IntWalk
import Derived.Laws.BitsAllLaws
import Derived.Test.YtikopkkebdobdaaGreatDoorShelf
import Derived.Test.YtikopkkebdobdaaGreatDoorVw0
import Derived.Deep.DeepCutAuto
import Derived.Deep.CutBlock
import Derived.Deep.LoopGhost
namespace Go.Proofs.YtikopkkebdobdaaGreatDoor
set_option linter.unusedVariables false
set_option linter.unusedSimpArgs false
namespace Nn
open Go.RowKit NatMath
/-- the slice v is the call's own (nil, or the head of a block from base on) and holds the words l -/
def OwnV (w : World) (base : Nat) (v : Value) (l : List Nat) : Prop := w.ownsRow base 74 1 v l.length (l.map fun (u : Nat) => Value.int .u32 (u : Int)) ∧ words l
theorem OwnV.nil (w : World) (base : Nat) : OwnV w base (.slice none 0 0) [] := ⟨World.ownsRow_nil .., words_nil⟩
theorem OwnV.fr {w : World} {base : Nat} {v : Value} {l : List Nat} (h : OwnV w base v l) : Fr base v := by
 obtain ⟨⟨_, ⟨rfl, h2⟩ | ⟨g, cap, cur, rfl, h3, _⟩⟩, _⟩ := h
 ·exact Fr.nil _
 ·exact Fr.block h3
theorem OwnV.sl {w : World} {base : Nat} {v : Value} {l : List Nat} (h : OwnV w base v l) : Sl w v l := by
 obtain ⟨⟨_, ⟨rfl, h2⟩ | ⟨g, cap, cur, rfl, h3, h4, h5, h6, h7, h8⟩⟩, hw⟩ := h
 ·rw [List.length_eq_zero_iff.1 h2]; exact Sl.nil _
 ·refine ⟨_, cap, rfl, h5, h6, hw, fun _ => ⟨g, 0, rfl, lt_of_block h4, fun i hi => ?_⟩, by rintro a ha; simp only [Option.some.injEq] at ha; rw [← ha]⟩
  have e : cur[0 + i]? = (l.map fun (u : Nat) => Value.int .u32 (u : Int))[i]? := by
   rw [← h8, Nat.zero_add, ← Array.getElem?_toList, List.getElem?_take, if_pos (by omega)]
  simp only [World.cell?, h4, Option.isSome_none, Bool.false_eq_true, if_false, e]
  rw [List.getElem?_map, List.getElem?_eq_getElem hi, List.getD_eq_getElem?_getD, List.getElem?_eq_getElem hi]
  rfl
theorem OwnV.below {w w' : World} {base : Nat} {v : Value} {l : List Nat} (h : OwnV w base v l) (hb : Below w.heap.size w w') : OwnV w' base v l := by
 obtain ⟨⟨h1, ⟨rfl, h2⟩ | ⟨g, cap, cur, rfl, h3, h4, h5⟩⟩, hw⟩ := h
 ·exact ⟨⟨h1, Or.inl ⟨rfl, h2⟩⟩, hw⟩
 ·exact ⟨⟨h1, Or.inr ⟨g, cap, cur, rfl, h3, (hb.block g (lt_of_block h4)).trans h4, h5⟩⟩, hw⟩
theorem OwnV.set {w : World} {base : Nat} {v : Value} {l : List Nat} (h : OwnV w base v l) {a : Addr} (ha : a.block < base) (Y : Value) : OwnV (w.setCell a Y) base v l := by
 obtain ⟨⟨h1, ⟨rfl, h2⟩ | ⟨g, cap, cur, rfl, h3, h4, h5⟩⟩, hw⟩ := h
 ·exact ⟨⟨h1, Or.inl ⟨rfl, h2⟩⟩, hw⟩
 ·exact ⟨⟨h1, Or.inr ⟨g, cap, cur, rfl, h3, (Below.heap_setCell w a Y g (by omega)).trans h4, h5⟩⟩, hw⟩
/-- append of words that lie somewhere -/
theorem wpList_pushes {ops : Array Oper} {rest : List Oper} {o : Oper} {a : Act} {Q : Exit → Act → World → Prop} (w : World) (hgd : o.guard = none) (s x : Operand)
  (ho : o.op = .call { callee := .builtin .append, args := #[s, x], argTypes := #[22, 22] })
  (base : Nat) (v : Value) (l m : List Nat) (k : Nat) (hk : m.length = k) (hs : a.eval s = v) (hown : OwnV w base v l) (ad : Addr) (c : Nat) (hx : a.eval x = .slice (some ad) k c)
  (hcell : ∀ j, j < k → w.cell? (ad.add j) = some (.int .u32 ((m.getD j 0 : Nat) : Int)))
  (hu : words m) (hl : l.length ≤ 1000000) (hm : k ≤ 1000000) (hbase : base ≤ w.heap.size)
  (h : ∀ v' w', OwnV w' base v' (l ++ m) → Below base w w' → wpList Tryz.prog ops Q rest (a.put o.dst v') w') :
  wpList Tryz.prog ops Q (o :: rest) a w := by
 subst hk
 obtain ⟨i0, hi, hz0, hz1, hz2⟩ := info_parts Tryz.info74
 refine wpList_append_own_at w hgd s x 22 ho base 74 i0 (.int .u32 0) 1 4 (by first | exact Tryz.underlying22 | rfl) hi hz0 hz1 hz2 rfl (by omega) v l.length _ hs hown.1 ad m.length c (m.map fun (u : Nat) => Value.int .u32 (u : Int)) hx (by simp) ?_ ?_ ?_ ?_ hbase ?_
 ·intro j y hy
  rw [List.getElem?_map] at hy
  obtain ⟨z, hz, rfl⟩ := Option.map_eq_some_iff.1 hy
  have hj : j < m.length := by apply Nat.lt_of_not_le; intro hh; rw [List.getElem?_eq_none hh] at hz; simp at hz
  rw [hcell j hj, List.getD_eq_getElem?_getD, hz]; rfl
 ·intro y hy
  obtain ⟨z, _, rfl⟩ := List.mem_map.1 hy
  rfl
 ·unfold maxLen; omega
 ·omega
 ·intro v' w' h1 h2 _ h4
  refine h v' w' ⟨by simpa using h1, ?_⟩ ((Below.refl _ _).grown h2 hbase ?_)
  ·intro y hy
   rcases List.mem_append.1 hy with hy | hy
   ·exact hown.2 y hy
   ·exact hu y hy
  ·intro k hk
   have := hown.fr
   cases v with
   | slice ao n' c' =>
    cases ao with
    | none => simp [Value.ownBlock] at hk
    | some a' => simp [Value.ownBlock] at hk; rw [← hk]; exact this a' _ _ rfl
   | _ => simp [Value.ownBlock] at hk
/-- append of one word -/
theorem wpList_push {ops : Array Oper} {rest : List Oper} {o : Oper} {a : Act} {Q : Exit → Act → World → Prop} (w : World) (hgd : o.guard = none) (s x : Operand)
  (ho : o.op = .call { callee := .builtin .append, args := #[s, x], argTypes := #[22, 22] })
  (base : Nat) (v : Value) (l : List Nat) (u : Nat) (hs : a.eval s = v) (hown : OwnV w base v l) (ad : Addr) (c : Nat) (hx : a.eval x = .slice (some ad) 1 c) (hcell : w.cell? ad = some (.int .u32 (u : Int)))
  (hu : u < 4294967296) (hl : l.length ≤ 1000000) (hbase : base ≤ w.heap.size)
  (h : ∀ v' w', OwnV w' base v' (l ++ [u]) → Below base w w' → wpList Tryz.prog ops Q rest (a.put o.dst v') w') :
  wpList Tryz.prog ops Q (o :: rest) a w := by
 refine wpList_pushes w hgd s x ho base v l [u] 1 rfl hs hown ad c hx (fun j hj => ?_) (by intro y hy; simp at hy; omega) hl (by omega) hbase h
 obtain rfl : j = 0 := by omega
 simpa [Addr.add] using hcell
/-- an empty block of the call's own -/
theorem OwnV.empty (w : World) (base g : Nat) (hb : base ≤ g) (hg : w.heap.size = g) : OwnV (w.alloc (.cells #[] 74)) base (.slice (some ⟨g, 0, none⟩) 0 0) [] := by
 subst hg
 refine ⟨⟨rfl, Or.inr ⟨w.heap.size, 0, #[], rfl, hb, ?_, Nat.le_refl _, by unfold maxLen; omega, rfl, rfl⟩⟩, words_nil⟩
 show (w.heap.push _)[w.heap.size]? = _
 rw [Array.getElem?_push, if_pos rfl]
theorem Sl.open {w : World} {v : Value} {l : List Nat} (h : Sl w v l) : ∃ (ao : Option Addr) (cap : Nat), v = .slice ao l.length cap ∧ l.length ≤ cap ∧ cap ≤ 9223372036854775807 ∧
  (l ≠ [] → ∃ b off, ao = some ⟨b, off, none⟩ ∧ b < w.heap.size ∧ ∀ i, i < l.length → w.cell? ⟨b, off + i, none⟩ = some (.int .u32 ((l.getD i 0 : Nat) : Int))) := by
 obtain ⟨ao, cap, h1, h2, h3, h4, h5, _⟩ := h
 exact ⟨ao, cap, h1, h2, h3, h5⟩
theorem Nt.empty (w : World) (b c : Nat) (hc : c ≤ 9223372036854775807 := by omega) : Nt w (.slice (some ⟨b, 0, none⟩) 0 c) 0 := by
 unfold Nt
 rw [digs_zero]
 exact ⟨_, c, rfl, Nat.zero_le _, hc, words_nil, fun h => absurd rfl h, by rintro a ha; simp only [Option.some.injEq] at ha; rw [← ha]⟩
end Nn
namespace Nn
open Go.RowKit NatMath
def lst (f : Nat → Nat) (k : Nat) : List Nat := (List.range k).map f
theorem lst_length (f : Nat → Nat) (k : Nat) : (lst f k).length = k := by simp [lst]
theorem lst_succ (f : Nat → Nat) (k : Nat) : lst f (k + 1) = lst f k ++ [f k] := by simp [lst, List.range_succ]
theorem lst_fill (f : Nat → Nat) (k : Nat) : lst f k = fill f k k := by
 apply List.ext_getElem
 ·simp [lst, fill]
 ·intro i h1 h2
  simp only [lst, List.length_map, List.length_range] at h1
  simp [lst, fill, h1]
end Nn
namespace Nn
open Go.RowKit NatMath
theorem retb {a b : Bool} (h : a = b) : Ending.returned (.bool a) = .returned (.bool b) := by rw [h]
theorem reti {k : IntKind} {a b : Int} (h : a = b) : Ending.returned (.int k a) = .returned (.int k b) := by rw [h]
theorem below_step2 {a b c : World} (h : Below a.heap.size a b) (hb : Below b.heap.size b c) : Below a.heap.size a c := h.trans (hb.mono h.size)
set_option maxHeartbeats 400000 in
theorem Bit_c (v : Value) (N i : Nat) (w : World) (h : Nt w v N) (hl : len N ≤ 64) (hi : (i : Int) ≤ 9223372036854775807) :
  Calls Tryz.prog 74 #[.agg #[v], .int .i64 i] w fun e w' => e = .returned (.bool (bt N i)) ∧ Below w.heap.size w w' := by
 have cv := Zh (fun W h => Valid_c v (digs N) W h)
 rw [vld_digs, decide_eq_true hl] at cv
 have HV := Zh h
 obtain ⟨ao, cap, rfl, h1, h2, h3⟩ := h.open
 have n0 : decide (0 ≤ (i : Int)) = true := decide_eq_true (by omega)
 have r1 : (i : Int) / 32 = ((i / 32 : Nat) : Int) := by omega
 by_cases hb : 32 * len N ≤ i
 ·rw [bt_above hb]
  have g1 : decide (i / 32 < len N) = false := decide_eq_false (by omega)
  generalize hk : i / 32 = k at *
  generalize len N = n at *
  clear h h3 hk
  go_enter Tryz.func74, Tryz.ntmps74
  go_wp2_with fail
  refine (cv.out _ (HV.out.below' (below_one _ _))).mono ?_
  rintro e w1 ⟨rfl, hb1⟩
  have p1 := (hb1.cell (p := ⟨w.heap.size, 0, none⟩) (by simp)).trans (box1a _ _ _)
  have B1 := Zh (below_step2 (below_one w _) hb1)
  clear hb1
  go_wp2
  go_ret
  exact ⟨rfl, B1.out⟩
 ·have hN : N ≠ 0 := by rintro rfl; rw [len_zero] at hb; omega
  obtain ⟨b, off, rfl, hb, hc⟩ := h3 hN
  have hk : i / 32 < len N := by omega
  have g1 : decide (i / 32 < len N) = true := decide_eq_true (by omega)
  have c1 := hc (i / 32) hk
  rw [bt_dig]
  have hs : i % 32 < 32 := Nat.mod_lt _ (by omega)
  have hu := dig_lt N (i / 32)
  have r2 : (i : Int) % 32 = ((i % 32 : Nat) : Int) := by omega
  generalize dig N (i / 32) = u at *
  generalize i / 32 = k at *
  generalize i % 32 = s at *
  have r3 : (u : Int) / 2 ^ s = ((u / 2 ^ s : Nat) : Int) := by simp
  have hq : u / 2 ^ s < 4294967296 := Nat.lt_of_le_of_lt (Nat.div_le_self _ _) hu
  generalize u / 2 ^ s = q at *
  have r4 : bits .and .u32 (q : Int) 1 = ((q % 2 : Nat) : Int) := by
   have := u32_and_nat q 1 hq (by omega)
   rw [Nat.and_one_is_mod] at this; exact this
  generalize len N = n at *
  clear h h3 hc hN
  go_enter Tryz.func74, Tryz.ntmps74
  go_wp2_with fail
  refine (cv.out _ (HV.out.below' (below_one _ _))).mono ?_
  rintro e w1 ⟨rfl, hb1⟩
  have p1 := (hb1.cell (p := ⟨w.heap.size, 0, none⟩) (by simp)).trans (box1a _ _ _)
  have c2 := (((below_one w (.cells #[.slice (some ⟨b, off, none⟩) n cap] 24)).trans (hb1.mono (by simp))).cell (p := ⟨b, off + k, none⟩) ‹_›).trans c1
  have B1 := Zh (below_step2 (below_one w _) hb1)
  clear hb1 c1
  go_wp2
  go_ret
  exact ⟨retb (by rw [Bool.eq_iff_iff]; simp; omega), B1.out⟩
end Nn
namespace Nn
open Go.RowKit NatMath
theorem len32 (x : Nat) (w : World) (hx : x < 4294967296) :
  Calls Tryz.prog 102 #[.int .u32 (x : Int)] w fun e w' => e = .returned (.int .i64 (bl x : Nat)) ∧ w' = w := by
 have h := Tryz.bits_Len32 (x : Int) w (by omega) (by omega)
 rw [Int.toNat_natCast, bitLen_bl 32 x hx (by omega)] at h
 exact h
set_option maxHeartbeats 400000 in
theorem Bits_c (v : Value) (N : Nat) (w : World) (h : Nt w v N) (hl : len N ≤ 64) :
  Calls Tryz.prog 67 #[.agg #[v]] w fun e w' => e = .returned (.int .i64 (bl N : Nat)) ∧ Below w.heap.size w w' := by
 have cv := Zh (fun W h => Valid_c v (digs N) W h)
 rw [vld_digs, decide_eq_true hl] at cv
 have HV := Zh h
 obtain ⟨ao, cap, rfl, h1, h2, h3⟩ := h.open
 by_cases h0 : N = 0
 ·subst h0
  rw [bl_zero]
  rw [len_zero] at *
  clear h h3
  go_enter Tryz.func67, Tryz.ntmps67
  go_wp2_with fail
  refine (cv.out _ (HV.out.below' (below_one _ _))).mono ?_
  rintro e w1 ⟨rfl, hb1⟩
  have p1 := (hb1.cell (p := ⟨w.heap.size, 0, none⟩) (by simp)).trans (box1a _ _ _)
  have B1 := Zh (below_step2 (below_one w _) hb1)
  clear hb1
  go_wp2
  go_ret
  exact ⟨rfl, B1.out⟩
 ·obtain ⟨b, off, rfl, hb, hc⟩ := h3 h0
  have hn : len N ≠ 0 := fun e => h0 (len_eq_zero.1 e)
  have c1 := hc (len N - 1) (by omega)
  have hB := bl_top h0
  have hu := dig_lt N (len N - 1)
  generalize dig N (len N - 1) = u at *
  have hbu : bl u ≤ 32 := bl_le_iff.2 hu
  have cl := Zh (fun W => len32 u W hu)
  generalize bl u = r at *
  rw [hB]
  generalize hL : len N = n at *
  have e1 : (n : Int) - 1 = ((n - 1 : Nat) : Int) := by omega
  have hj : n - 1 < n := by omega
  have g1 : ((n : Int) == 0) = false := by simp; omega
  have e2 : (32 : Int) * ((n - 1 : Nat) : Int) = ((32 * (n - 1) : Nat) : Int) := by omega
  have hp : 32 * (n - 1) ≤ 2048 := by omega
  generalize 32 * (n - 1) = p at *
  generalize n - 1 = m at *
  clear hB h h3 hc h0 hn hL hl
  go_enter Tryz.func67, Tryz.ntmps67
  go_wp2_with fail
  refine (cv.out _ (HV.out.below' (below_one _ _))).mono ?_
  rintro e w1 ⟨rfl, hb1⟩
  have p1 := (hb1.cell (p := ⟨w.heap.size, 0, none⟩) (by simp)).trans (box1a _ _ _)
  have c2 := (((below_one w (.cells #[.slice (some ⟨b, off, none⟩) n cap] 24)).trans (hb1.mono (by simp))).cell (p := ⟨b, off + m, none⟩) ‹_›).trans c1
  have B1 := Zh (below_step2 (below_one w _) hb1)
  clear hb1 c1
  go_wp2_with fail
  go_quiet ((go_at_call 102; exact Calls.quiet_of_same (cl.out _)))
  go_wp2
  go_ret
  exact ⟨reti (by omega), B1.out.trans (below_drewN (Below.refl _ _) _)⟩
end Nn
namespace Nn
open Go.RowKit NatMath
set_option maxHeartbeats 1000000 in
theorem shifted_c (a : Value) (N s : Nat) (w : World) (ha : Nt w a N) (h1 : len N ≤ 1000) (hs : s < 32) :
  Calls Tryz.prog 112 #[a, .int .i64 s] w fun e w' => ∃ g l, e = .returned (.slice (some ⟨g, 0, none⟩) (len N + 1) (len N + 1)) ∧ Hid (Own w' g l ∧ l.length = len N + 1 ∧ words l ∧ val l = N * 2 ^ s) ∧ w.heap.size ≤ g ∧ g < w'.heap.size ∧ Below w.heap.size w w' := by
 have HA := Zh ha
 obtain ⟨ao, ca, rfl, a1, a2, _⟩ := ha.open
 clear ha
 obtain ⟨g, hg⟩ : ∃ g, w.heap.size = g := ⟨_, rfl⟩
 have hs2 : (s : Int) < 32 := by omega
 go_enter Tryz.func112, Tryz.ntmps112
 go_wp2_with (at_make; go_loud (refine wpList_make_words _ rfl _ _ rfl (len N + 1) _ _ rfl rfl (by rw [Int.natCast_add]; rfl) (by rw [Int.natCast_add]; rfl) (by omega) g hg ?_; intro w3 hO hB))
 have hO0 : Hid (Own w3 g (List.replicate (len N + 1) 0)) := Zh hO
 have BW : Hid (Below g w w3) := Zh hB
 clear hO hB
 have hn : (len N : Int) ≤ 1000 := by omega
 go_loopw [15] (fun s15 wr => ∃ k : Nat, s15 = .int .i64 (k : Int) ∧ k ≤ len N ∧ (∃ l, Hid (Own wr g l) ∧ Hid (ShI N s k l)) ∧ Hid (Below g w wr)) (fun s15 _ => len N - (RowKit.intOf s15).toNat)
 case atStart => exact ⟨0, rfl, Nat.zero_le _, ⟨_, hO0, Zh (ShI.zero N s)⟩, BW⟩
 case round =>
  obtain ⟨k, rfl, hk, ⟨l, hO, hI⟩, hB⟩ := hrel
  have hgr : g < wr.heap.size := hO.out.lt
  have hBW : Hid (Below w.heap.size w wr) := Zh (by rw [hg]; exact hB.out)
  by_cases h0 : k < len N
  ·have hx0 : N ≠ 0 := fun e => by rw [e, len_zero] at h0; omega
   obtain ⟨ao', cx', ex, _, _, hx⟩ := (HA.out.below' hBW.out).open
   obtain ⟨rfl, rfl⟩ : ao' = ao ∧ cx' = ca := by simp at ex; exact ⟨ex.1.symm, ex.2.symm⟩
   obtain ⟨bx, offx, rfl, hbx, hcx⟩ := hx hx0
   have hcx1 := hcx k h0
   obtain ⟨t, ht⟩ : ∃ t, t = dig N k * 2 ^ s := ⟨_, rfl⟩
   obtain ⟨q1, q2, q3, q4, q5⟩ := hI.out.step h0 hs ht
   have hlen := hI.out.1
   have hw := hI.out.2.1
   have hu := dig_lt N k
   have hfr := hO.out.frozen k
   have hfr1 := hO.out.frozen (k + 1)
   have hcell := hO.out.cell (i := k) (by omega)
   have hcell1 := hO.out.cell (i := k + 1) (by omega)
   have hob := getD_lt hw k
   generalize l.getD (k + 1) 0 = y1 at *
   generalize dig N k = u at *
   generalize l.getD k 0 = y at *
   have HT := Zh ht
   have e1 : IntKind.u64.wrap ((u : Int) * 2 ^ s) = (t : Int) := by
    rw [show (u : Int) * 2 ^ s = (t : Int) from by rw [ht]; push_cast; rfl]
    exact IntWalk.u64_in _ (by omega)
   have e2 : IntKind.u32.wrap (t : Int) = ((t % 4294967296 : Nat) : Int) := by rw [IntKind.wrap_u32]; omega
   have e3 : (t : Int) / 4294967296 = ((t / 4294967296 : Nat) : Int) := by omega
   have hO2 := hO.out.set k (y + t % 4294967296)
   have hO3 := hO2.set (k + 1) (t / 4294967296)
   have hfr2 := hO2.frozen (k + 1)
   have tl : t % 4294967296 < 4294967296 := Nat.mod_lt _ (by omega)
   generalize t % 4294967296 = a at *
   generalize t / 4294967296 = b at *
   have e4 : bits .or .u32 (y : Int) (a : Int) = ((y + a : Nat) : Int) := by rw [u32_or_nat y a hob tl, q2]
   have hz : y + a < 4294967296 := q3
   generalize y + a = z at *
   have HO3 := Zh hO3
   have HI := Zh q5
   have ek : (k : Int) + 1 < (len N + 1 : Nat) := by omega
   have ek1 : k + 1 < len N + 1 := by omega
   have ek2 : k < len N + 1 := by omega
   clear ht q2 q3 q5 hO2 hO3 hx ex hcx hlen hw
   go_wp2
   go_roundw
   case rel => exact ⟨k + 1, by go_num, by omega, ⟨_, HO3, HI⟩, Zh ((hB.out.setCell (Nat.le_refl _) _).setCell (Nat.le_refl _) _)⟩
   case measure => simp [RowKit.intOf]; omega
  ·obtain rfl : k = len N := by omega
   have ht : decide (len N < len N) = false := decide_eq_false (Nat.lt_irrefl _)
   have hd := Zh hI.out.done
   go_wp2
   go_ret
   exact ⟨g, l, rfl, Zh ⟨hO.out, hd.out⟩, by omega, hgr, hBW.out⟩
end Nn
namespace Nn
open Go.RowKit NatMath
namespace NatMath
theorem zero_above {l : List Nat} {k : Nat} (hw : words l) (h : val l < Bp k) (i : Nat) (hi : k ≤ i) : l.getD i 0 = 0 := by
 rw [dig_val hw]; unfold dig
 rw [Nat.div_eq_of_lt (Nat.lt_of_lt_of_le h (Bp_le hi))]
/-- the shift that makes the divisor's highest bit the highest of its word -/
theorem norm {M : Nat} (h : M ≠ 0) (h2 : 2 ≤ len M) : 1 ≤ bl (dig M (len M - 1)) ∧ bl (dig M (len M - 1)) ≤ 32 ∧
  2147483648 * Bp (len M - 1) ≤ M * 2 ^ (32 - bl (dig M (len M - 1))) ∧ M * 2 ^ (32 - bl (dig M (len M - 1))) < Bp (len M) := by
 have ht := dig_top h
 have hlt := dig_lt M (len M - 1)
 have h1 := bl_pos ht
 have h3 : bl (dig M (len M - 1)) ≤ 32 := bl_le_iff.2 hlt
 have hb := bl_top h
 generalize bl (dig M (len M - 1)) = b at *
 refine ⟨h1, h3, ?_, ?_⟩
 ·have k := two_bl_le h
  rw [hb] at k
  have : 2 ^ (32 * (len M - 1) + b - 1) * 2 ^ (32 - b) ≤ M * 2 ^ (32 - b) := Nat.mul_le_mul_right _ k
  rw [← Nat.pow_add, show 32 * (len M - 1) + b - 1 + (32 - b) = 32 * (len M - 1) + 31 from by omega, Nat.pow_add, ← Bp_two, Nat.mul_comm] at this
  exact this
 ·have k := lt_two_bl M
  rw [hb] at k
  have : M * 2 ^ (32 - b) < 2 ^ (32 * (len M - 1) + b) * 2 ^ (32 - b) := (Nat.mul_lt_mul_right (Nat.two_pow_pos _)).2 k
  rw [← Nat.pow_add, show 32 * (len M - 1) + b + (32 - b) = 32 * len M from by omega, ← Bp_two] at this
  exact this
theorem quot_small {N M : Nat} (h : M ≠ 0) (hl : len M ≤ len N) : N < M * Bp (len N - len M + 1) := by
 have h1 := Bp_len_le h
 have h2 := lt_Bp_len N
 have h3 : Bp (len M - 1) * Bp (len N - len M + 1) ≤ M * Bp (len N - len M + 1) := Nat.mul_le_mul_right _ h1
 have hm : len M ≠ 0 := fun e => h (len_eq_zero.1 e)
 rw [← Bp_add, show len M - 1 + (len N - len M + 1) = len N from by omega] at h3
 omega
theorem qt_eq (U V j : Nat) : qt (U % (V * Bp (j + 1))) V j = dig (U / V) j ∧ U % (V * Bp (j + 1)) % (V * Bp j) = U % (V * Bp j) := by
 have e : V * Bp (j + 1) = V * Bp j * 4294967296 := by rw [Bp_succ, Nat.mul_assoc]
 rw [e]
 refine ⟨?_, Nat.mod_mul_right_mod _ _ _⟩
 unfold qt dig
 rw [Nat.div_div_eq_div_mul, Nat.mul_comm (Bp j), Nat.mod_mul_right_div_self, Nat.div_div_eq_div_mul]
theorem shr_word (R s k : Nat) (hs : s < 32) : dig (R * 2 ^ s) k / 2 ^ s < 2 ^ (32 - s) ∧ dig (R * 2 ^ s) k / 2 ^ s ||| (dig (R * 2 ^ s) (k + 1) * 2 ^ (32 - s)) % 4294967296 = dig R k := by
 have hB : (4294967296 : Nat) = 2 ^ s * 2 ^ (32 - s) := by rw [← Nat.pow_add, show s + (32 - s) = 32 from by omega]
 have ha : dig (R * 2 ^ s) k / 2 ^ s < 2 ^ (32 - s) := by
  rw [Nat.div_lt_iff_lt_mul (Nat.two_pow_pos s), Nat.mul_comm (2 ^ (32 - s)) (2 ^ s), ← hB]; exact dig_lt _ _
 refine ⟨ha, ?_⟩
 rw [or_low ha (by omega)]
 have e1 : dig R k = R * 2 ^ s / Bp k / 2 ^ s % 4294967296 := by
  unfold dig; rw [Nat.div_div_eq_div_mul, Nat.mul_comm (Bp k), ← Nat.div_div_eq_div_mul, Nat.mul_div_cancel _ (Nat.two_pow_pos s)]
 have e2 : R * 2 ^ s / Bp k = 4294967296 * (R * 2 ^ s / Bp (k + 1)) + dig (R * 2 ^ s) k := by have := div_step (R * 2 ^ s) k; omega
 have e3 : dig (R * 2 ^ s) (k + 1) = R * 2 ^ s / Bp (k + 1) % 4294967296 := rfl
 rw [e1, e2, e3]
 generalize dig (R * 2 ^ s) k = x at *
 generalize R * 2 ^ s / Bp (k + 1) = Z at *
 have e4 : (4294967296 * Z + x) / 2 ^ s = 2 ^ (32 - s) * Z + x / 2 ^ s := by
  rw [show 4294967296 * Z = 2 ^ s * (2 ^ (32 - s) * Z) from by rw [← Nat.mul_assoc, ← hB], Nat.mul_add_div (Nat.two_pow_pos s)]
 have e5 : Z % 4294967296 * 2 ^ (32 - s) % 4294967296 = Z % 2 ^ s * 2 ^ (32 - s) := by
  rw [Nat.mod_mul_mod]
  conv => lhs; rw [hB]
  rw [Nat.mul_mod_mul_right]
 rw [e4, e5]
 generalize x / 2 ^ s = a at *
 have e6 : 2 ^ (32 - s) * Z + a = 4294967296 * (Z / 2 ^ s) + (Z % 2 ^ s * 2 ^ (32 - s) + a) := by
  conv => lhs; rw [← Nat.div_add_mod Z (2 ^ s)]
  rw [Nat.mul_add, ← Nat.mul_assoc, Nat.mul_comm (2 ^ (32 - s)) (2 ^ s), ← hB, Nat.mul_comm (2 ^ (32 - s)), Nat.add_assoc]
 have e7 : Z % 2 ^ s * 2 ^ (32 - s) + a < 4294967296 := by
  have h1 : Z % 2 ^ s + 1 ≤ 2 ^ s := Nat.mod_lt _ (Nat.two_pow_pos s)
  have h2 := Nat.mul_le_mul_right (2 ^ (32 - s)) h1
  rw [← hB, Nat.add_mul, Nat.one_mul] at h2
  omega
 rw [e6, Nat.mul_add_mod, Nat.mod_eq_of_lt e7, Nat.add_comm]
theorem Rd.zeros {X V n j : Nat} {l : List Nat} (h : Rd X V n j) (hw : words l) (hv : val l = X) : ∀ k, j + n < k → l.getD k 0 = 0 := by
 obtain ⟨h1, h2, h3, h4⟩ := h
 intro k hk
 refine zero_above (k := j + n + 1) hw ?_ k (by omega)
 rw [hv, show j + n + 1 = n + (j + 1) from by omega, Bp_add]
 exact Nat.lt_of_lt_of_le h4 (Nat.mul_le_mul_right _ (Nat.le_of_lt h3))
theorem len_mono {N M : Nat} (h : M ≤ N) : len M ≤ len N := by
 rw [len_le_iff]; exact Nat.lt_of_le_of_lt h (lt_Bp_len N)
end NatMath
theorem lz32 (x : Nat) (w : World) (hx : x < 4294967296) :
  Calls Tryz.prog 111 #[.int .u32 (x : Int)] w fun e w' => e = .returned (.int .i64 ((32 - bl x : Nat) : Int)) ∧ w' = w := by
 have h := Tryz.bits_LeadingZeros32 (x : Int) w (by omega) (by omega)
 rw [Int.toNat_natCast, bitLen_bl 32 x hx (by omega)] at h
 have : bl x ≤ 32 := bl_le_iff.2 hx
 rw [show (32 - (bl x : Int)) = ((32 - bl x : Nat) : Int) from by omega] at h
 exact h
/-- what is held at the head of a round of the long division -/
def LongI (gu gv gq : Nat) (lv : List Nat) (U V Q L kq k : Nat) (w0 wr : World) : Prop :=
 (∃ lu, Own wr gu lu ∧ lu.length = L ∧ words lu ∧ val lu = U % (V * Bp k)) ∧ Own wr gq (fillD (dig Q) k kq) ∧ Own wr gv lv ∧ Below w0.heap.size w0 wr
set_option maxRecDepth 100000 in
set_option maxHeartbeats 4000000 in
theorem long_c (a b : Value) (N M : Nat) (w : World) (ha : Nt w a N) (hb : Nt w b M) (h1 : len N ≤ 64) (h2 : 2 ≤ len M) (hl : M ≤ N) :
  Calls Tryz.prog 85 #[a, b] w fun e w' => ∃ g1 g2 k n, e = .returned (.tuple #[.slice (some ⟨g1, 0, none⟩) k k, .slice (some ⟨g2, 0, none⟩) n n]) ∧ Hid (Own w' g1 (fill (dig (N / M)) k k) ∧ N / M < Bp k ∧ Own w' g2 (fill (dig (N % M)) n n) ∧ N % M < Bp n ∧ k ≤ 64 ∧ n ≤ 64) ∧ w.heap.size ≤ g1 ∧ w.heap.size ≤ g2 ∧ Below w.heap.size w w' := by
 have hM0 : M ≠ 0 := by rintro rfl; rw [len_zero] at h2; omega
 have hN0 : N ≠ 0 := by rintro rfl; omega
 have hlm := len_mono hl
 have HQ := Zh (quot_small hM0 hlm)
 have hnorm := norm hM0 h2
 have HA := Zh ha
 have HB := Zh hb
 obtain ⟨ao, ca, rfl, a1, a2, -⟩ := ha.open
 obtain ⟨bo, cb, rfl, b1, b2, b3⟩ := hb.open
 obtain ⟨bb, offb, rfl, hbb, hcb⟩ := b3 hM0
 have hct := hcb (len M - 1) (by omega)
 have hu := dig_lt M (len M - 1)
 have cZ := Zh (fun W => lz32 (dig M (len M - 1)) W hu)
 have hs1 : 32 - bl (dig M (len M - 1)) < 32 := by omega
 have cV := Zh (fun W hW => shifted_c (.slice (some ⟨bb, offb, none⟩) (len M) cb) M (32 - bl (dig M (len M - 1))) W hW (by omega) hs1)
 have cU := Zh (fun W hW => shifted_c (.slice ao (len N) ca) N (32 - bl (dig M (len M - 1))) W hW (by omega) hs1)
 have HV := Zh hnorm
 have HQ2 : Hid (N * 2 ^ (32 - bl (dig M (len M - 1))) < M * 2 ^ (32 - bl (dig M (len M - 1))) * Bp (len N - len M + 1)) := Zh (by
  rw [Nat.mul_assoc, Nat.mul_comm (2 ^ _), ← Nat.mul_assoc]; exact (Nat.mul_lt_mul_right (Nat.two_pow_pos _)).2 HQ.out)
 have HQd : Hid (N * 2 ^ (32 - bl (dig M (len M - 1))) / (M * 2 ^ (32 - bl (dig M (len M - 1)))) = N / M) := Zh (Nat.mul_div_mul_right _ _ (Nat.two_pow_pos _))
 have HRd : Hid (N * 2 ^ (32 - bl (dig M (len M - 1))) % (M * 2 ^ (32 - bl (dig M (len M - 1)))) = N % M * 2 ^ (32 - bl (dig M (len M - 1)))) := Zh (Nat.mul_mod_mul_right _ _ _)
 have HRl : Hid (N % M < Bp (len M)) := Zh (Nat.lt_trans (Nat.mod_lt _ (by omega)) (lt_Bp_len M))
 have HQl : Hid (N / M < Bp (len N - len M + 1)) := Zh (by rw [Nat.div_lt_iff_lt_mul (by omega), Nat.mul_comm]; exact HQ.out)
 clear hnorm hM0 hN0 ha hb b3 hcb hl HQ
 generalize 32 - bl (dig M (len M - 1)) = s at *
 generalize M * 2 ^ s = V at *
 generalize N * 2 ^ s = U at *
 generalize N / M = Q at *
 generalize N % M = R at *
 generalize dig M (len M - 1) = tw at *
 generalize hn : len M = n at *
 generalize hla : len N = la at *
 have e1 : (la : Int) - (n : Int) = ((la - n : Nat) : Int) := by omega
 have e2 : ((la - n : Nat) : Int) + 1 = ((la - n + 1 : Nat) : Int) := by omega
 have e3 : (n : Int) - 1 = ((n - 1 : Nat) : Int) := by omega
 have hn1 : n - 1 < n := by omega
 generalize hL : la + 1 = L at *
 generalize hLn : n + 1 = Ln at *
 generalize hkq : la - n + 1 = kq at *
 generalize hd : la - n = d at *
 generalize hnn1 : n - 1 = n1 at *
 have hnLn : n ≤ Ln := by omega
 have hL65 : L ≤ 65 := by omega
 have hkq64 : kq ≤ 64 := by omega
 have q1 := Zh hL
 have q2 := Zh hLn
 have q3 := Zh hkq
 have q4 := Zh hd
 have q5 := Zh hnn1
 have q6 := Zh hn
 have q7 := Zh hla
 clear hL hLn hkq hd hnn1 hn hla
 go_enter Tryz.func85, Tryz.ntmps85
 go_wp2_with fail
 refine (cZ.out _).mono ?_
 rintro e wz ⟨rfl, rfl⟩
 go_wp2_with fail
 refine (cV.out _ HB.out).mono ?_
 rintro e wv ⟨gv, lv, rfl, hv, gv1, gv2, hbv⟩
 have BV1 := Zh hbv
 clear hbv
 go_wp2_with fail
 refine (cU.out _ (HA.out.below' BV1.out)).mono ?_
 rintro e wu ⟨gu, lu, rfl, hu2, gu1, gu2, hbu⟩
 have hv2 := Zh (And.intro (hv.out.1.below' hbu) hv.out.2)
 have BU := Zh (below_step2 BV1.out hbu)
 clear hbu hv BV1
 obtain ⟨gq, hgq⟩ : ∃ g, wu.heap.size = g := ⟨_, rfl⟩
 go_wp2_with (at_make; go_loud (refine wpList_make_words _ rfl _ _ rfl kq _ _ rfl rfl rfl rfl (by omega) gq hgq ?_; intro wq hO hB))
 have gu2' : gu < gq := by omega
 have hI0 : Hid (LongI gu gv gq lv U V Q L kq kq wz wq) := Zh ⟨⟨lu, hu2.out.1.below hB gu2', hu2.out.2.1, hu2.out.2.2.1, by rw [hu2.out.2.2.2, Nat.mod_eq_of_lt HQ2.out]⟩, by rw [fillD_none]; exact hO, hv2.out.1.below hB (by omega), BU.out.trans (hB.mono (by have := BU.out.size; omega))⟩
 have hvl := Zh hv2.out.2
 clear hO hB hu2 hv2 BU cZ cV cU lu
 have hgne : gu ≠ gv ∧ gu ≠ gq ∧ gv ≠ gq := by omega
 go_loopw [10] (fun s10 wr => ∃ k : Nat, s10 = .int .i64 ((k : Int) - 1) ∧ k ≤ kq ∧ Hid (LongI gu gv gq lv U V Q L kq k wz wr)) (fun s10 _ => (RowKit.intOf s10 + 1).toNat)
 case atStart => exact ⟨kq, rfl, Nat.le_refl _, hI0⟩
 case round =>
  obtain ⟨k, rfl, hk, hI⟩ := hrel
  by_cases h0 : k = 0
  ·as_aux_lemma =>
   subst h0
   have hge : decide (1 ≤ ((0 : Nat) : Int)) = false := rfl
   have hge2 : decide ((0 : Int) ≤ ((0 : Nat) : Int) - 1) = false := rfl
   obtain ⟨⟨lu, hOu, hlu, hwu, hvu⟩, hOq, hOv, hBl⟩ := hI.out
   rw [Bp_zero, Nat.mul_one, HRd.out] at hvu
   rw [fillD_all] at hOq
   have hgu3 : gu < wr.heap.size := hOu.lt
   have hgq3 : gq < wr.heap.size := hOq.lt
   have HOU := Zh hOu
   have HOQ := Zh hOq
   have HLU := Zh (And.intro hlu (And.intro hwu hvu))
   have HBL := Zh hBl
   clear hOu hOq hOv hBl hlu hwu hvu hI hI0 hvl
   obtain ⟨gr, hgr⟩ : ∃ g, wr.heap.size = g := ⟨_, rfl⟩
   go_wp2_with (at_make; go_loud (refine wpList_make_words _ rfl _ _ rfl n _ _ rfl rfl rfl rfl (by omega) gr hgr ?_; intro w8 hO8 hB8))
   have hE8 : Hid (Own w8 gu lu ∧ Own w8 gq (fill (dig Q) kq kq) ∧ Below wz.heap.size wz w8 ∧ Own w8 gr (fill (dig R) 0 n)) := Zh ⟨HOU.out.below hB8 (by omega), HOQ.out.below hB8 (by have := HOQ.out.lt; omega), HBL.out.trans (hB8.mono (by have := HBL.out.size; omega)), by rw [fill_zero]; exact hO8⟩
   have hgr9 : wz.heap.size ≤ gr := by have := HBL.out.size; omega
   clear hO8 hB8 HOU HOQ HBL
   have hgru : gr ≠ gu := by omega
   have hgrq : gr ≠ gq := by omega
   go_loopw [221] (fun s221 wx => ∃ k : Nat, s221 = .int .i64 (k : Int) ∧ k ≤ n ∧ Hid (Own wx gu lu ∧ Own wx gq (fill (dig Q) kq kq) ∧ Below wz.heap.size wz wx ∧ Own wx gr (fill (dig R) k n))) (fun s221 _ => n - (RowKit.intOf s221).toNat)
   case atStart => exact ⟨0, rfl, Nat.zero_le _, hE8⟩
   case round =>
    obtain ⟨k, rfl, hk, hE⟩ := hrel
    by_cases hkn : k < n
    ·have t1 : decide (k < n) = true := decide_eq_true hkn
     obtain ⟨hOu, hOq, hBl, hOr⟩ := hE.out
     obtain ⟨hlu, hwu, hvu⟩ := HLU.out
     have hkL : k + 1 < L := by have := q1.out; omega
     have cz1 := hOu.cell (i := k) (by omega)
     have cz2 := hOu.cell (i := k + 1) (by omega)
     rw [dig_val hwu, hvu] at cz1 cz2
     obtain ⟨sw1, sw2⟩ := shr_word R s k hs1
     have hx1 := dig_lt (R * 2 ^ s) k
     have hx2 := dig_lt (R * 2 ^ s) (k + 1)
     have hdk := dig_lt R k
     have hOr2 := hOr.set k (dig R k)
     rw [fill_set _ hkn] at hOr2
     have hfr := hOr.frozen k
     have hcr := hOr.cell (i := k) (by rw [fill_length]; omega)
     generalize (fill (dig R) k n).getD k 0 = oo at *
     generalize dig (R * 2 ^ s) k = x1 at *
     generalize dig (R * 2 ^ s) (k + 1) = x2 at *
     have HE2 := Zh (And.intro (hOu.setOther (a := ⟨gr, k, none⟩) hgru (.int .u32 (dig R k : Nat))) (And.intro (hOq.setOther (a := ⟨gr, k, none⟩) hgrq (.int .u32 (dig R k : Nat))) (And.intro (Below.setCell hBl (show wz.heap.size ≤ (⟨gr, k, none⟩ : Addr).block from hgr9) (.int .u32 (dig R k : Nat))) hOr2)))
     have k1 : IntKind.i64.wrap ((k : Int) + 1) = ((k + 1 : Nat) : Int) := by rw [IntWalk.i64_in _ (by omega)]; omega
     have hp : x2 * 2 ^ (32 - s) < 18446744073709551616 := by
      have h1 : 2 ^ (32 - s) ≤ 2 ^ 32 := Nat.pow_le_pow_right (by omega) (by omega)
      have := Nat.mul_le_mul (show x2 ≤ 4294967295 from by omega) h1
      omega
     have k2 : IntKind.i64.wrap (32 - (s : Int)) = ((32 - s : Nat) : Int) := by rw [IntWalk.i64_in _ (by omega)]; omega
     have hs3 : 32 - s ≤ 32 := by omega
     have k5 : (x1 : Int) / 2 ^ s = ((x1 / 2 ^ s : Nat) : Int) := by push_cast; rfl
     have hlo : x1 / 2 ^ s < 4294967296 := Nat.lt_of_le_of_lt (Nat.div_le_self _ _) hx1
     generalize 32 - s = s2 at *
     have k0 : IntKind.u64.wrap (x2 : Int) = (x2 : Int) := IntWalk.u64_in _ (by omega)
     have k3 : IntKind.u64.wrap ((x2 : Int) * 2 ^ s2) = ((x2 * 2 ^ s2 : Nat) : Int) := by
      rw [show (x2 : Int) * 2 ^ s2 = ((x2 * 2 ^ s2 : Nat) : Int) from by push_cast; rfl]
      exact IntWalk.u64_in _ (by omega)
     generalize x2 * 2 ^ s2 = t at *
     have k4 : IntKind.u32.wrap (t : Int) = ((t % 4294967296 : Nat) : Int) := by rw [IntKind.wrap_u32]; omega
     have htl : t % 4294967296 < 4294967296 := Nat.mod_lt _ (by omega)
     generalize t % 4294967296 = tl at *
     generalize x1 / 2 ^ s = h at *
     have k6 : bits .or .u32 (h : Int) (tl : Int) = ((dig R k : Nat) : Int) := by rw [u32_or_nat h tl hlo htl, sw2]
     generalize dig R k = rk at *
     obtain ⟨kk, hkk⟩ : ∃ kk, kk = k + 1 := ⟨_, rfl⟩
     rw [← hkk] at k1 cz2
     have kL1 : (kk : Int) < (L : Int) := by omega
     have kL2 : (k : Int) < (L : Int) := by omega
     have kL3 : (k : Int) < (n : Int) := by omega
     have kL4 : kk < L := by omega
     have kL5 : k < L := by omega
     have hne1 : gr ≠ gu := hgru
     have bz1 := hne1
     have HKK := Zh hkk
     have HCZ1 := Zh cz1
     have HCZ2 := Zh cz2
     have HCR := Zh hcr
     have HFR := Zh hfr
     clear hkk sw1 sw2 hOu hOq hBl hOr hlu hwu hvu hOr2 hE hp
     go_wp2_with fail
     refine wp_region_held_drew (S := fun w' => w'.cell? ⟨gu, k, none⟩ = some (.int .u32 (x1 : Int)) ∧ w'.cell? ⟨gu, kk, none⟩ = some (.int .u32 (x2 : Int))) (by kernel_rfl) (by exact ⟨HCZ1.out, HCZ2.out⟩) (fun hHeld => ?_)
     refine takeW (i := 0) (some 224) (v := ?_) rfl rfl (by kernel_rfl) (by kernel_rfl) (by kernel_rfl) (fun _ _ _ h => h) (by rfl) (by assumption) ?_ ?_
     rotate_left
     ·(intro wS hSw; (try dsimp only at hSw); go_simp; try with_reducible rfl)
     try simp only [Act.put, List.setIfInBounds_toArray, List.set_cons_zero, List.set_cons_succ]
     refine takeW (i := 1) (some 225) (v := ?_) rfl rfl (by kernel_rfl) (by kernel_rfl) (by kernel_rfl) (fun _ _ _ h => h) (by rfl) (by assumption) ?_ ?_
     rotate_left
     ·(intro wS hSw; (try dsimp only at hSw); go_simp; try with_reducible rfl)
     try simp only [Act.put, List.setIfInBounds_toArray, List.set_cons_zero, List.set_cons_succ]
     refine takeW (i := 2) (some 226) (v := ?_) rfl rfl (by kernel_rfl) (by kernel_rfl) (by kernel_rfl) (fun _ _ _ h => h) (by rfl) (by assumption) ?_ ?_
     rotate_left
     ·(intro wS hSw; (try dsimp only at hSw); go_simp; try with_reducible rfl)
     try simp only [Act.put, List.setIfInBounds_toArray, List.set_cons_zero, List.set_cons_succ]
     refine takeW (i := 3) (some 227) (v := ?_) rfl rfl (by kernel_rfl) (by kernel_rfl) (by kernel_rfl) (fun _ _ _ h => h) (by rfl) (by assumption) ?_ ?_
     rotate_left
     ·(intro wS hSw; (try dsimp only at hSw); go_simp; try with_reducible rfl)
     try simp only [Act.put, List.setIfInBounds_toArray, List.set_cons_zero, List.set_cons_succ]
     refine takeW (i := 4) (some 228) (v := ?_) rfl rfl (by kernel_rfl) (by kernel_rfl) (by kernel_rfl) (fun _ _ _ h => h) (by rfl) (by assumption) ?_ ?_
     rotate_left
     ·(intro wS hSw; (try dsimp only at hSw); go_simp; try with_reducible rfl)
     try simp only [Act.put, List.setIfInBounds_toArray, List.set_cons_zero, List.set_cons_succ]
     refine takeW (i := 5) (some 229) (v := ?_) rfl rfl (by kernel_rfl) (by kernel_rfl) (by kernel_rfl) (fun _ _ _ h => h) (by rfl) (by assumption) ?_ ?_
     rotate_left
     ·(intro wS hSw; (try dsimp only at hSw); go_simp; try with_reducible rfl)
     try simp only [Act.put, List.setIfInBounds_toArray, List.set_cons_zero, List.set_cons_succ]
     refine takeW (i := 6) (some 230) (v := ?_) rfl rfl (by kernel_rfl) (by kernel_rfl) (by kernel_rfl) (fun _ _ _ h => h) (by rfl) (by assumption) ?_ ?_
     rotate_left
     ·(intro wS hSw; (try dsimp only at hSw); go_simp; try with_reducible rfl)
     try simp only [Act.put, List.setIfInBounds_toArray, List.set_cons_zero, List.set_cons_succ]
     refine takeW (i := 7) (some 231) (v := ?_) rfl rfl (by kernel_rfl) (by kernel_rfl) (by kernel_rfl) (fun _ _ _ h => h) (by rfl) (by assumption) ?_ ?_
     rotate_left
     ·(intro wS hSw; (try dsimp only at hSw); go_simp; try with_reducible rfl)
     try simp only [Act.put, List.setIfInBounds_toArray, List.set_cons_zero, List.set_cons_succ]
     refine takeW (i := 8) (some 232) (v := ?_) rfl rfl (by kernel_rfl) (by kernel_rfl) (by kernel_rfl) (fun _ _ _ h => h) (by rfl) (by assumption) ?_ ?_
     rotate_left
     ·(intro wS hSw; (try dsimp only at hSw); go_simp; try with_reducible rfl)
     try simp only [Act.put, List.setIfInBounds_toArray, List.set_cons_zero, List.set_cons_succ]
     refine takeW (i := 9) (some 233) (v := ?_) rfl rfl (by kernel_rfl) (by kernel_rfl) (by kernel_rfl) (fun _ _ _ h => h) (by rfl) (by assumption) ?_ ?_
     rotate_left
     ·(intro wS hSw; (try dsimp only at hSw); go_simp; try with_reducible rfl)
     try simp only [Act.put, List.setIfInBounds_toArray, List.set_cons_zero, List.set_cons_succ]
     refine takeW (i := 10) (some 234) (v := ?_) rfl rfl (by kernel_rfl) (by kernel_rfl) (by kernel_rfl) (fun _ _ _ h => h) (by rfl) (by assumption) ?_ ?_
     rotate_left
     ·(intro wS hSw; (try dsimp only at hSw); go_simp; try with_reducible rfl)
     try simp only [Act.put, List.setIfInBounds_toArray, List.set_cons_zero, List.set_cons_succ]
     refine takeW (i := 11) (some 235) (v := ?_) rfl rfl (by kernel_rfl) (by kernel_rfl) (by kernel_rfl) (fun _ _ _ h => h) (by rfl) (by assumption) ?_ ?_
     rotate_left
     ·(intro wS hSw; (try dsimp only at hSw); go_simp; try with_reducible rfl)
     try simp only [Act.put, List.setIfInBounds_toArray, List.set_cons_zero, List.set_cons_succ]
     refine takeW (i := 12) (some 236) (v := ?_) rfl rfl (by kernel_rfl) (by kernel_rfl) (by kernel_rfl) (fun _ _ _ h => h) (by rfl) (by assumption) ?_ ?_
     rotate_left
     ·(intro wS hSw; (try dsimp only at hSw); go_simp; try with_reducible rfl)
     try simp only [Act.put, List.setIfInBounds_toArray, List.set_cons_zero, List.set_cons_succ]
     refine takeW (i := 13) (some 237) (v := ?_) rfl rfl (by kernel_rfl) (by kernel_rfl) (by kernel_rfl) (fun _ _ _ h => h) (by rfl) (by assumption) ?_ ?_
     rotate_left
     ·(intro wS hSw; (try dsimp only at hSw); go_simp; try with_reducible rfl)
     try simp only [Act.put, List.setIfInBounds_toArray, List.set_cons_zero, List.set_cons_succ]
     refine takeW (i := 14) (some 238) (v := ?_) rfl rfl (by kernel_rfl) (by kernel_rfl) (by kernel_rfl) (fun _ _ _ h => h) (by rfl) (by assumption) ?_ ?_
     rotate_left
     ·(intro wS hSw; (try dsimp only at hSw); go_simp; try with_reducible rfl)
     try simp only [Act.put, List.setIfInBounds_toArray, List.set_cons_zero, List.set_cons_succ]
     refine takeW (i := 15) (some 239) (v := ?_) rfl rfl (by kernel_rfl) (by kernel_rfl) (by kernel_rfl) (fun _ _ _ h => h) (by rfl) (by assumption) ?_ ?_
     rotate_left
     ·(intro wS hSw; (try dsimp only at hSw); go_simp; try with_reducible rfl)
     try simp only [Act.put, List.setIfInBounds_toArray, List.set_cons_zero, List.set_cons_succ]
     refine takeW (i := 16) (some 240) (v := ?_) rfl rfl (by kernel_rfl) (by kernel_rfl) (by kernel_rfl) (fun _ _ _ h => h) (by rfl) (by assumption) ?_ ?_
     rotate_left
     ·(intro wS hSw; (try dsimp only at hSw); go_simp; try with_reducible rfl)
     try simp only [Act.put, List.setIfInBounds_toArray, List.set_cons_zero, List.set_cons_succ]
     refine takeW (i := 17) (some 241) (v := ?_) rfl rfl (by kernel_rfl) (by kernel_rfl) (by kernel_rfl) (fun _ _ _ h => h) (by rfl) (by assumption) ?_ ?_
     rotate_left
     ·(intro wS hSw; (try dsimp only at hSw); go_simp; try with_reducible rfl)
     try simp only [Act.put, List.setIfInBounds_toArray, List.set_cons_zero, List.set_cons_succ]
     refine takeW (i := 18) (some 242) (v := ?_) rfl rfl (by kernel_rfl) (by kernel_rfl) (by kernel_rfl) (fun _ _ _ h => h) (by rfl) (by assumption) ?_ ?_
     rotate_left
     ·(intro wS hSw; (try dsimp only at hSw); go_simp; try with_reducible rfl)
     try simp only [Act.put, List.setIfInBounds_toArray, List.set_cons_zero, List.set_cons_succ]
     refine takeW (i := 19) (some 243) (v := ?_) rfl rfl (by kernel_rfl) (by kernel_rfl) (by kernel_rfl) (fun _ _ _ h => h) (by rfl) (by assumption) ?_ ?_
     rotate_left
     ·(intro wS hSw; (try dsimp only at hSw); go_simp; try with_reducible rfl)
     try simp only [Act.put, List.setIfInBounds_toArray, List.set_cons_zero, List.set_cons_succ]
     refine wpAnyH_ready (rs := [20]) (by kernel_rfl) (by simp) ?_
     refine AllReadyH.cons rfl (fun KK hKK => ?_) AllReadyH.nil
     go_simp
     refine hKK.out _ _ ?_ (fun hHeld2 => ?_)
     ·exact ⟨(World.cell?_setCell_far wr ⟨gr, k, none⟩ ⟨gu, k, none⟩ _ hgru).trans HCZ1.out, (World.cell?_setCell_far wr ⟨gr, k, none⟩ ⟨gu, kk, none⟩ _ hgru).trans HCZ2.out⟩
     clear hKK KK hHeld hHeld2
     try simp only [Act.put, List.setIfInBounds_toArray, List.set_cons_zero, List.set_cons_succ]
     refine wpAnyH_done (by kernel_rfl) ?_ _
     have hqd : Qw (wr.setCell ⟨gr, k, none⟩ (.int .u32 (rk : Int))) (wr.setCell ⟨gr, k, none⟩ (.int .u32 (rk : Int))).drew := ⟨1, rfl⟩
     have HE3 := Zh (And.intro (HE2.out.1.qw hqd) (And.intro (HE2.out.2.1.qw hqd) (And.intro (HE2.out.2.2.1.trans (hqd.below _)) (HE2.out.2.2.2.qw hqd))))
     clear hqd HE2
     clear k0 k1 k2 k3 k4 k5 k6
     go_wp2
     go_roundw
     case rel => exact ⟨k + 1, by go_num, by omega, HE3⟩
     case measure => simp [RowKit.intOf]; omega
    ·obtain rfl : k = n := by omega
     have t1 : decide (k < k) = false := decide_eq_false (Nat.lt_irrefl _)
     go_wp2
     go_ret2
     exact ⟨gq, gr, kq, k, rfl, Zh ⟨hE.out.2.1, HQl.out, hE.out.2.2.2, HRl.out, hkq64, by omega⟩, by omega, hgr9, hE.out.2.2.1⟩
  ·obtain ⟨j, rfl⟩ : ∃ j, k = j + 1 := ⟨k - 1, by omega⟩
   have ej : (((j + 1 : Nat) : Int) - 1) = (j : Int) := by omega
   rw [ej]
   clear ej h0
   obtain ⟨⟨lu, hOu, hlu, hwu, hvu⟩, hOq, hOv, hBl⟩ := hI.out
   have hRd : Rd (U % (V * Bp (j + 1))) V n j := ⟨h2, by rw [q5.out]; exact HV.out.2.2.1, HV.out.2.2.2, Nat.mod_lt _ (Nat.mul_pos (by have := HV.out.2.2.1; have := Bp_pos n1; omega) (Bp_pos _))⟩
   rw [← hvu] at hRd
   obtain ⟨lvl, lvw, lvv⟩ := hvl.out
   obtain ⟨v1a, v1b, v1c⟩ := hRd.v1
   obtain ⟨tpa, tpb⟩ := hRd.tp
   have hjL : j + n < L := by have := q1.out; have := q3.out; have := q4.out; omega
   have c1 := hOu.cell (i := j + n) (by omega)
   have c2 := hOu.cell (i := j + n - 1) (by omega)
   have c4 := hOv.cell (i := n1) (by omega)
   rw [dig_val hwu] at c1 c2
   rw [dig_val lvw, lvv] at c4
   have d1 := dig_lt (val lu) (j + n)
   have d2 := dig_lt (val lu) (j + n - 1)
   rw [q5.out] at v1a
   rw [v1a] at c4
   have hRD := Zh hRd
   have FM : Hid (∀ g r, g * v1 V n + r = tp (val lu) n j → r * 4294967296 + u2 (val lu) n j < g * v2 V n → qt (val lu) V j < g) := Zh (fun g r a b => hRd.more a b)
   have FC : Hid (∀ g r, g * v1 V n + r = tp (val lu) n j → g ≤ 4294967295 → (g * v2 V n ≤ r * 4294967296 + u2 (val lu) n j ∨ 4294967296 ≤ r) → g ≤ qt (val lu) V j + 1) := Zh (fun g r a b c => hRd.close a b c)
   have FO : Hid (∀ g r, g * v1 V n + r = tp (val lu) n j → 4294967296 ≤ r → g ≤ 4294967295) := Zh (fun g r a b => hRd.over a b)
   have FQ : Hid (qt (val lu) V j ≤ 4294967295) := Zh hRd.qt_lt
   have FF : Hid (qt (val lu) V j ≤ tp (val lu) n j / v1 V n) := Zh hRd.first
   have c3 := hOu.cell (i := j + n - 2) (by omega)
   have c5 := hOv.cell (i := n - 2) (by omega)
   rw [dig_val hwu, show dig (val lu) (j + n - 2) = u2 (val lu) n j from by unfold u2; rw [show j + n - 2 = j + (n - 2) from by omega]] at c3
   rw [dig_val lvw, lvv] at c5
   have c5' : wr.cell? ⟨gv, n - 2, none⟩ = some (.int .u32 ((v2 V n : Nat) : Int)) := c5
   have z1b : u2 (val lu) n j < 4294967296 := dig_lt _ _
   have z2b : v2 V n < 4294967296 := dig_lt _ _
   have HLU := Zh (And.intro hlu hwu)
   have HVU := Zh hvu
   clear c5
   generalize v2 V n = z2 at *
   generalize u2 (val lu) n j = z1 at *
   generalize hqj : qt (val lu) V j = qj at *
   have HQJ := Zh hqj
   clear hqj
   generalize v1 V n = x1 at *
   generalize dig (val lu) (j + n) = y1 at *
   generalize dig (val lu) (j + n - 1) = y2 at *
   clear v1a
   have e4 : IntKind.i64.wrap ((j : Int) + (n : Int)) = ((j + n : Nat) : Int) := by rw [IntWalk.i64_in _ (by omega)]; omega
   have e5 : IntKind.i64.wrap (((j + n : Nat) : Int) - 1) = ((j + n - 1 : Nat) : Int) := by rw [IntWalk.i64_in _ (by omega)]; omega
   have e6 : IntKind.u64.wrap ((y1 : Int) * 4294967296) = ((y1 * 4294967296 : Nat) : Int) := by rw [IntWalk.u64_in _ (by omega)]; omega
   have e7 : bits .or .u64 ((y1 * 4294967296 : Nat) : Int) (y2 : Int) = ((tp (val lu) n j : Nat) : Int) := by
    rw [u64_or_nat _ y2 (by omega) (by omega), Nat.or_comm, or_shift (k := 32) (by simpa using d2), ← tpa]; congr 1; omega
   have hT : tp (val lu) n j < 18446744073709551616 := by rw [← tpa]; omega
   generalize tp (val lu) n j = T at *
   obtain ⟨p1, hp1⟩ : ∃ p1, p1 = y1 * 4294967296 := ⟨_, rfl⟩
   rw [← hp1] at e6 e7
   clear hp1
   have i1 : (j + n : Nat) < L := hjL
   have i2 : j + n - 1 < L := by omega
   have i3 : ((j + n : Nat) : Int) < (L : Int) := by omega
   have i4 : ((j + n - 1 : Nat) : Int) < (L : Int) := by omega
   have hjn : 2 ≤ j + n := by omega
   generalize hjn1 : j + n - 1 = jn1 at *
   generalize hjn0 : j + n = jn at *
   have JN1 := Zh hjn1
   have JN0 := Zh hjn0
   have TPA := Zh tpa
   have TPB := Zh tpb
   have HR := Zh hRd
   clear hjn0 hjn1 tpa tpb hRd lvl lvw lvv hlu hwu hvu
   go_wp2_with fail
   go_quiet (fail)
   clear e4 e5 e6 e7 d1 d2 c1 c2 i2 i4
   have e8 : IntKind.i64.wrap ((n : Int) - 1) = (n1 : Int) := by rw [IntWalk.i64_in _ (by omega)]; exact e3
   have f1 : (T : Int).tdiv (x1 : Int) = ((T / x1 : Nat) : Int) := by rw [Int.tdiv_eq_ediv_of_nonneg (by omega)]; rfl
   have f2 : (T : Int).tmod (x1 : Int) = ((T % x1 : Nat) : Int) := by rw [Int.tmod_eq_emod_of_nonneg (by omega)]; rfl
   have f1' : (T : Int) / (x1 : Int) = ((T / x1 : Nat) : Int) := rfl
   have f2' : (T : Int) % (x1 : Int) = ((T % x1 : Nat) : Int) := rfl
   have f3 : ((x1 : Int) == 0) = false := by simp; omega
   have hg0 : T / x1 * x1 + T % x1 = T := Nat.div_add_mod' T x1
   have hr0 : T % x1 < 4294967296 := Nat.lt_trans (Nat.mod_lt _ (by omega)) v1c
   have hg1 : T / x1 < 18446744073709551616 := Nat.lt_of_le_of_lt (Nat.div_le_self _ _) hT
   generalize T / x1 = g0 at *
   generalize T % x1 = r0 at *
   have HG0 := Zh hg0
   clear hg0
   have i5 : (n1 : Int) < (n : Int) := by omega
   go_wp2_with fail
   go_quiet (fail)
   have hFF := FF
   clear FF f1 f2 f1' f2' f3 e8
   go_upto_block 2 with (fail)
   go_cut [12] (fun s12 wx => ∃ g : Nat, s12 = .int .u64 (g : Int) ∧ Hid (qj ≤ g ∧ g ≤ qj + 1 ∧ g ≤ 4294967295) ∧ Hid (Qw wr wx))
   case first => as_aux_lemma =>
    have e4 : IntKind.i64.wrap ((j : Int) + (n : Int)) = (jn : Int) := by rw [IntWalk.i64_in _ (by have := JN0.out; omega)]; have := JN0.out; omega
    have e5 : IntKind.i64.wrap ((jn : Int) - 2) = ((jn - 2 : Nat) : Int) := by rw [IntWalk.i64_in _ (by omega)]; omega
    have e6 : IntKind.i64.wrap ((n : Int) - 2) = ((n - 2 : Nat) : Int) := by rw [IntWalk.i64_in _ (by omega)]; omega
    have i6 : ((n - 2 : Nat) : Int) < (n : Int) := by omega
    have i7 : ((jn - 2 : Nat) : Int) < (L : Int) := by omega
    have i8 : n - 2 < n := by omega
    have i9 : jn - 2 < L := by omega
    have FQ2 := FQ.out
    generalize n - 2 = n2 at *
    generalize jn - 2 = jn2 at *
    go_wp2_with fail
    go_loopw [12, 13] (fun s12 s13 wx => ∃ g r : Nat, s12 = .int .u64 (g : Int) ∧ s13 = .int .u64 (r : Int) ∧ r < 4294967296 ∧ g < 18446744073709551616 ∧ Hid (g * x1 + r = T) ∧ Hid (qj ≤ g) ∧ Hid (Qw wr wx)) (fun s12 _ _ => (RowKit.intOf s12).toNat)
    case atStart => exact ⟨g0, r0, rfl, rfl, hr0, hg1, HG0, hFF, Zh (Qw.drewN ⟨_, rfl⟩ _)⟩
    case round =>
     obtain ⟨g, r, rfl, rfl, hr, hg, hE, hq, nw, rfl⟩ := hrel
     by_cases hbig : 4294967296 ≤ g
     ·have t1 : decide (4294967295 < (g : Int)) = true := decide_eq_true (by omega)
      have t2 : decide (4294967295 < g) = true := decide_eq_true (by omega)
      obtain ⟨g', hgg⟩ : ∃ g', g = g' + 1 := ⟨g - 1, by omega⟩
      have hE2 : Hid (g' * x1 + (r + x1) = T) := Zh (by have := hE.out; rw [hgg, Nat.add_mul] at this; omega)
      have hq2 : Hid (qj ≤ g') := Zh (by omega)
      have eg : (g : Int) - 1 = (g' : Int) := by omega
      have hgl : g' < g := by omega
      clear hgg
      have er : (r : Int) + (x1 : Int) = ((r + x1 : Nat) : Int) := by omega
      have hrx : r + x1 < 8589934592 := by omega
      generalize r + x1 = r' at *
      by_cases hbr : 4294967296 ≤ r'
      ·have t3 : decide (4294967295 < (r' : Int)) = true := decide_eq_true (by omega)
       have t4 : decide (4294967295 < r') = true := decide_eq_true (by omega)
       have hfin := Zh (And.intro hq2.out (And.intro (FC.out g' r' hE2.out (FO.out g' r' hE2.out hbr) (Or.inr hbr)) (FO.out g' r' hE2.out hbr)))
       clear hbr hq hE
       go_wp2_with fail
       go_quiet (fail)
       go_wp2
       go_meet
       exact ⟨g', by go_num, hfin, Zh ⟨_, rfl⟩⟩
      ·have t3 : decide (4294967295 < (r' : Int)) = false := decide_eq_false (by omega)
       have t4 : decide (4294967295 < r') = false := decide_eq_false (by omega)
       clear hq hE
       have hrl : r' < 4294967296 := by omega
       have hgl2 : g' < 18446744073709551616 := by omega
       clear hbr
       go_wp2_with fail
       go_quiet (fail)
       go_wp2
       go_roundw
       case rel => exact ⟨g', r', by go_num, rfl, hrl, hgl2, hE2, hq2, _, rfl⟩
       case measure => simp [RowKit.intOf]; omega
     ·have t1 : decide (4294967295 < (g : Int)) = false := decide_eq_false (by omega)
      have t2 : decide (4294967295 < g) = false := decide_eq_false (by omega)
      have hgz : g * z2 ≤ 4294967295 * 4294967295 := Nat.mul_le_mul (by omega) (by omega)
      have k1 : ∀ gz : Nat, gz = g * z2 → IntKind.u64.wrap ((g : Int) * (z2 : Int)) = (gz : Int) := fun gz h => by rw [← Int.natCast_mul, ← h]; exact IntWalk.u64_in _ (by omega)
      have k2 : IntKind.u64.wrap ((r : Int) * 4294967296) = ((r * 4294967296 : Nat) : Int) := by rw [IntWalk.u64_in _ (by omega)]; omega
      have k3 : bits .or .u64 ((r * 4294967296 : Nat) : Int) (z1 : Int) = ((r * 4294967296 + z1 : Nat) : Int) := by
       rw [u64_or_nat _ z1 (by omega) (by omega), Nat.or_comm, or_shift (k := 32) (by simpa using z1b)]; congr 1; omega
      have FM1 := fun h => FM.out g r hE.out h
      have FC1 := fun h => FC.out g r hE.out (by omega) (Or.inl h)
      obtain ⟨pz, hpz⟩ : ∃ pz, pz = r * 4294967296 := ⟨_, rfl⟩
      obtain ⟨pw, hpw⟩ : ∃ pw, pw = r * 4294967296 + z1 := ⟨_, rfl⟩
      obtain ⟨gz, hgzz⟩ : ∃ gz, gz = g * z2 := ⟨_, rfl⟩
      rw [← hpw, ← hgzz] at FM1 FC1
      rw [← hpz] at k2
      rw [← hpw, ← hpz] at k3
      replace k1 := k1 gz hgzz
      clear hpz hpw hgzz hgz
      by_cases ht : pw < gz
      ·have FM2 := Zh (FM1 ht)
       clear FM1 FC1
       have t5 : decide (pw < gz) = true := decide_eq_true ht
       clear ht
       obtain ⟨g', hgg⟩ : ∃ g', g = g' + 1 := ⟨g - 1, by have := FM2.out; omega⟩
       have hE2 : Hid (g' * x1 + (r + x1) = T) := Zh (by have := hE.out; rw [hgg, Nat.add_mul] at this; omega)
       have hq2 : Hid (qj ≤ g') := Zh (by have := FM2.out; omega)
       have eg : (g : Int) - 1 = (g' : Int) := by omega
       have hgl : g' < g := by omega
       clear hgg
       have er : (r : Int) + (x1 : Int) = ((r + x1 : Nat) : Int) := by omega
       have hrx : r + x1 < 8589934592 := by omega
       generalize r + x1 = r' at *
       by_cases hbr : 4294967296 ≤ r'
       ·have t3 : decide (4294967295 < (r' : Int)) = true := decide_eq_true (by omega)
        have t4 : decide (4294967295 < r') = true := decide_eq_true (by omega)
        have hfin := Zh (And.intro hq2.out (And.intro (FC.out g' r' hE2.out (FO.out g' r' hE2.out hbr) (Or.inr hbr)) (FO.out g' r' hE2.out hbr)))
        clear hbr hq hE
        go_wp2_with fail
        go_quiet (fail)
        go_wp2
        go_meet
        exact ⟨g', by go_num, hfin, Zh ⟨_, rfl⟩⟩
       ·have t3 : decide (4294967295 < (r' : Int)) = false := decide_eq_false (by omega)
        have t4 : decide (4294967295 < r') = false := decide_eq_false (by omega)
        clear hq hE
        have hrl : r' < 4294967296 := by omega
        have hgl2 : g' < 18446744073709551616 := by omega
        clear hbr
        go_wp2_with fail
        go_quiet (fail)
        go_wp2
        go_roundw
        case rel => exact ⟨g', r', by go_num, rfl, hrl, hgl2, hE2, hq2, _, rfl⟩
        case measure => simp [RowKit.intOf]; omega
      ·have hfin := Zh (And.intro hq.out (And.intro (FC1 (by omega)) (show g ≤ 4294967295 from by omega)))
       clear FM1 FC1
       have t5 : decide (pw < gz) = false := decide_eq_false ht
       clear ht
       go_wp2_with fail
       go_quiet (fail)
       go_wp2
       go_meet
       exact ⟨g, rfl, hfin, Zh (Qw.drewN ⟨nw, rfl⟩ _)⟩
   case rest =>
    obtain ⟨g, rfl, hg, hqw⟩ := hcut
    have HRd := Zh hRD.out
    have hS0 : Hid (∃ l, Own wc gu l ∧ SubI (val lu) V g j n L 0 0 0 l) := Zh ⟨lu, hOu.qw hqw.out, SubI.start HLU.out.1 HLU.out.2 rfl (hRD.out.zeros HLU.out.2 rfl)⟩
    have hE0 : Hid (Own wc gq (fillD (dig Q) (j + 1) kq) ∧ Own wc gv lv ∧ Below wz.heap.size wz wc) := Zh ⟨hOq.qw hqw.out, hOv.qw hqw.out, hBl.trans (hqw.out.below _)⟩
    have hg32 : g < 4294967296 := by have := hg.out; omega
    have hjn0 : j + n < L := by have := JN0.out; omega
    clear c3 c4 c5' hOu hOq hOv hBl hI hqw TPA TPB FM FC FO hFF HG0
    go_wp2_with fail
    go_loopw [124, 14, 15] (fun s124 s14 s15 wx => ∃ i b c : Nat, s124 = .int .i64 (i : Int) ∧ s14 = .int .u32 (b : Int) ∧ s15 = .int .u64 (c : Int) ∧ i ≤ n ∧ b ≤ 1 ∧ c < 4294967296 ∧ Hid (∃ l, Own wx gu l ∧ SubI (val lu) V g j n L i c b l) ∧ Hid (Own wx gq (fillD (dig Q) (j + 1) kq) ∧ Own wx gv lv ∧ Below wz.heap.size wz wx)) (fun s124 _ _ _ => n - (RowKit.intOf s124).toNat)
    case atStart => exact ⟨0, 0, 0, rfl, rfl, rfl, Nat.zero_le _, Nat.zero_le _, by omega, hS0, hE0⟩
    case round =>
     obtain ⟨i, b, c, rfl, rfl, rfl, hi, hb, hc, hS, hE⟩ := hrel
     obtain ⟨l, hOl, hSl⟩ := hS.out
     obtain ⟨hOq, hOv, hBl⟩ := hE.out
     have hll := hSl.1
     have hwl := hSl.2.1
     by_cases hin : i < n
     ·have t1 : decide (i < n) = true := decide_eq_true hin
      have cv := hOv.cell (i := i) (by have := hvl.out.1; omega)
      rw [dig_val hvl.out.2.1, hvl.out.2.2] at cv
      have hvi := dig_lt V i
      have cy := hOl.cell (i := j + i) (by omega)
      have hfr := hOl.frozen (j + i)
      have hy := getD_lt hwl (j + i)
      obtain ⟨t, ht⟩ : ∃ t, t = g * dig V i + c := ⟨_, rfl⟩
      obtain ⟨y, hyy⟩ : ∃ y, y = l.getD (j + i) 0 := ⟨_, rfl⟩
      obtain ⟨htb, hS2⟩ := hSl.step hin hjn0 (by omega) ht hyy
      rw [← hyy] at cy hy
      have hO2 := hOl.set (j + i) ((y + 8589934592 - t % 4294967296 - b) % 4294967296)
      generalize dig V i = vi at *
      have hm1 : g * vi ≤ 4294967295 * 4294967295 := Nat.mul_le_mul (show g ≤ 4294967295 from by omega) (show vi ≤ 4294967295 from by omega)
      obtain ⟨m, hm⟩ : ∃ m, m = g * vi := ⟨_, rfl⟩
      rw [← hm] at ht hm1
      have k1 : IntKind.u64.wrap ((g : Int) * (vi : Int)) = (m : Int) := by rw [← Int.natCast_mul, ← hm]; exact IntWalk.u64_in _ (by omega)
      have k2 : IntKind.u64.wrap ((m : Int) + (c : Int)) = (t : Int) := by rw [IntWalk.u64_in _ (by omega)]; omega
      have k3 : (t : Int) / 4294967296 = ((t / 4294967296 : Nat) : Int) := by omega
      have k4 : IntKind.u32.wrap (t : Int) = ((t % 4294967296 : Nat) : Int) := by rw [IntKind.wrap_u32]; omega
      have htl : t % 4294967296 < 4294967296 := Nat.mod_lt _ (by omega)
      have hth : t / 4294967296 < 4294967296 := by omega
      have cS := fun W => sub32_c y (t % 4294967296) b W (by omega) (by omega) (by omega)
      generalize t % 4294967296 = tl at *
      generalize t / 4294967296 = th at *
      have hbb : (if y < tl + b then 1 else 0) ≤ 1 := by split <;> omega
      generalize (if y < tl + b then 1 else 0) = b2 at *
      generalize (y + 8589934592 - tl - b) % 4294967296 = nw at *
      have CS := Zh cS
      have HS2 : Hid (∃ l', Own (wr.setCell ⟨gu, j + i, none⟩ (.int .u32 (nw : Int))) gu l' ∧ SubI (val lu) V g j n L (i + 1) th b2 l') := Zh ⟨_, hO2, hS2⟩
      have HE2 := Zh (And.intro (hOq.setOther (a := ⟨gu, j + i, none⟩) hgne.2.1 (.int .u32 (nw : Int))) (And.intro (hOv.setOther (a := ⟨gu, j + i, none⟩) hgne.1 (.int .u32 (nw : Int))) (Below.setCell hBl (show wz.heap.size ≤ (⟨gu, j + i, none⟩ : Addr).block from by dsimp only; omega) (.int .u32 (nw : Int)))))
      have hidx : j + i < L := by omega
      clear cS ht hm hyy hS2 hO2 hS hE hSl hll hwl hOl hOq hOv hBl hm1
      go_wp2_with (go_at_call 113; refine (CS.out _).mono ?_; rintro e w' ⟨rfl, rfl⟩)
      go_roundw
      case rel => exact ⟨i + 1, b2, th, by go_num, rfl, rfl, by omega, hbb, hth, HS2, HE2⟩
      case measure => simp [RowKit.intOf]; omega
     ·obtain rfl : i = n := by omega
      have t1 : decide (i < i) = false := decide_eq_false (Nat.lt_irrefl _)
      have cy := hOl.cell (i := j + i) (by omega)
      have hfr := hOl.frozen (j + i)
      have hy := getD_lt hwl (j + i)
      obtain ⟨y, hyy⟩ : ∃ y, y = l.getD (j + i) 0 := ⟨_, rfl⟩
      obtain ⟨b2, hb2, hb3, p1, p2, p3, p4⟩ := hSl.top HV.out.2.2.2 hjn0 hyy
      rw [← hyy] at cy hy
      have hO2 := hOl.set (j + i) ((y + 8589934592 - c - b) % 4294967296)
      have cS := fun W => sub32_c y c b W (by omega) (by omega) (by omega)
      rw [← hb2] at cS
      have k4 : IntKind.u32.wrap (c : Int) = (c : Int) := by rw [IntKind.wrap_u32]; omega
      generalize l.set (j + i) ((y + 8589934592 - c - b) % 4294967296) = l2 at *
      have nwl : (y + 8589934592 - c - b) % 4294967296 < 4294967296 := Nat.mod_lt _ (by omega)
      generalize (y + 8589934592 - c - b) % 4294967296 = nw at *
      have CS := Zh cS
      have HO2 := Zh hO2
      have HE2 := Zh (And.intro (hOq.setOther (a := ⟨gu, j + i, none⟩) hgne.2.1 (.int .u32 (nw : Int))) (And.intro (hOv.setOther (a := ⟨gu, j + i, none⟩) hgne.1 (.int .u32 (nw : Int))) (Below.setCell hBl (show wz.heap.size ≤ (⟨gu, j + i, none⟩ : Addr).block from by dsimp only; omega) (.int .u32 (nw : Int)))))
      have P4 := Zh p4
      have PL := Zh (And.intro p1 (And.intro p2 p3))
      have hjk : j < kq := by omega
      clear cS hyy hb2 hO2 hS hE hSl hll hwl hOl hOq hOv hBl p1 p2 p3 p4
      by_cases hz : b2 = 0
      ·subst hz
       have hr := hRD.out.right (g := g) (A := val l2) (by rw [HQJ.out]; exact hg.out.1) (by have := P4.out; omega)
       have hgq : g = qj := by rw [← HQJ.out]; exact hr.1
       have hval3 := hr.2
       subst hgq
       clear hr
       generalize hWW : wr.setCell ⟨gu, j + i, none⟩ (.int .u32 (nw : Int)) = WW at *
       obtain ⟨hOq3, hOv3, hBl3⟩ := HE2.out
       have hO3 := HO2.out
       have hlen3 := PL.out.1
       have hw3 := PL.out.2.1
       have hqd : dig Q j = g := by rw [← HQd.out, ← HQJ.out, HVU.out]; exact (qt_eq U V j).1.symm
       have hfq := hOq3.frozen j
       have hcq := hOq3.cell (i := j) (by rw [fillD_length]; omega)
       have hOq4 := hOq3.set j g
       rw [← hqd, fillD_set _ hjk, hqd] at hOq4
       have HF : Hid (LongI gu gv gq lv U V Q L kq j wz (WW.setCell ⟨gq, j, none⟩ (.int .u32 (g : Int)))) := Zh ⟨⟨_, hO3.setOther (a := ⟨gq, j, none⟩) (fun e => hgne.2.1 e.symm) _, hlen3, hw3, by rw [hval3, HVU.out]; exact (qt_eq U V j).2⟩, hOq4, hOv3.setOther (a := ⟨gq, j, none⟩) (fun e => hgne.2.2 e.symm) _, Below.setCell hBl3 (show wz.heap.size ≤ (⟨gq, j, none⟩ : Addr).block from by dsimp only; omega) _⟩
       have kq1 : IntKind.u32.wrap (g : Int) = (g : Int) := by rw [IntKind.wrap_u32]; omega
       have jk2 : (j : Int) < (kq : Int) := by omega
       generalize (fillD (dig Q) (j + 1) kq).getD j 0 = oq at *
       subst hWW
       clear hval3 hqd hOq4 hO3 hlen3 hw3 hOq3 hOv3 hBl3
       go_wp2_with (go_at_call 113; refine (CS.out _).mono ?_; rintro e w' ⟨rfl, rfl⟩)
       go_roundw
       case rel => exact ⟨j, rfl, by omega, HF⟩
       case measure => simp [RowKit.intOf]
      ·obtain rfl : b2 = 1 := by omega
       have hr := hRD.out.wrong (g := g) (A := val l2) (by rw [HQJ.out]; exact hg.out.2.1) (by have := P4.out; rw [Nat.one_mul] at this; exact this) (val_lt_of_zero PL.out.2.1 PL.out.2.2)
       have hgq : g = qj + 1 := by rw [← HQJ.out]; exact hr.1
       have eg : (g : Int) - 1 = (qj : Int) := by omega
       have HY := Zh hr.2
       have hS0 : Hid (∃ l', Own (wr.setCell ⟨gu, j + i, none⟩ (.int .u32 (nw : Int))) gu l' ∧ AddI (val l2) V j i L 0 0 l') := Zh ⟨l2, HO2.out, AddI.start PL.out.1 PL.out.2.1 rfl PL.out.2.2⟩
       have hqj32 : qj < 4294967296 := by omega
       clear hr hgq P4 PL HO2 hz
       go_wp2_with (go_at_call 113; refine (CS.out _).mono ?_; rintro e w' ⟨rfl, rfl⟩)
       go_loopw [180, 19] (fun s180 s19 wx => ∃ i2 c2 : Nat, s180 = .int .i64 (i2 : Int) ∧ s19 = .int .u32 (c2 : Int) ∧ i2 ≤ i ∧ c2 ≤ 1 ∧ Hid (∃ l, Own wx gu l ∧ AddI (val l2) V j i L i2 c2 l) ∧ Hid (Own wx gq (fillD (dig Q) (j + 1) kq) ∧ Own wx gv lv ∧ Below wz.heap.size wz wx)) (fun s180 _ _ => i - (RowKit.intOf s180).toNat)
       case atStart => exact ⟨0, 0, rfl, rfl, Nat.zero_le _, Nat.zero_le _, hS0, HE2⟩
       case round =>
        obtain ⟨i2, c2, rfl, rfl, hi2, hc2, hS, hE⟩ := hrel
        obtain ⟨l, hOl, hSl⟩ := hS.out
        obtain ⟨hOq, hOv, hBl⟩ := hE.out
        have hll := hSl.1
        have hwl := hSl.2.1
        by_cases hin : i2 < i
        ·have t2 : decide (i2 < i) = true := decide_eq_true hin
         have cv := hOv.cell (i := i2) (by have := hvl.out.1; omega)
         rw [dig_val hvl.out.2.1, hvl.out.2.2] at cv
         have hvi := dig_lt V i2
         have cy := hOl.cell (i := j + i2) (by omega)
         have hfr := hOl.frozen (j + i2)
         have hy := getD_lt hwl (j + i2)
         obtain ⟨y, hyy⟩ : ∃ y, y = l.getD (j + i2) 0 := ⟨_, rfl⟩
         have hS2 := hSl.step hin hjn0 hyy
         rw [← hyy] at cy hy
         have hO2 := hOl.set (j + i2) ((y + dig V i2 + c2) % 4294967296)
         generalize dig V i2 = vi at *
         have cA := fun W => add32_c y vi c2 W (by omega) (by omega) (by omega)
         have hc3 : (y + vi + c2) / 4294967296 ≤ 1 := by omega
         generalize (y + vi + c2) / 4294967296 = c3 at *
         generalize (y + vi + c2) % 4294967296 = nw2 at *
         have CA := Zh cA
         have HS2 : Hid (∃ l', Own (wr.setCell ⟨gu, j + i2, none⟩ (.int .u32 (nw2 : Int))) gu l' ∧ AddI (val l2) V j i L (i2 + 1) c3 l') := Zh ⟨_, hO2, hS2⟩
         have HE3 := Zh (And.intro (hOq.setOther (a := ⟨gu, j + i2, none⟩) hgne.2.1 (.int .u32 (nw2 : Int))) (And.intro (hOv.setOther (a := ⟨gu, j + i2, none⟩) hgne.1 (.int .u32 (nw2 : Int))) (Below.setCell hBl (show wz.heap.size ≤ (⟨gu, j + i2, none⟩ : Addr).block from by dsimp only; omega) (.int .u32 (nw2 : Int)))))
         have hidx : j + i2 < L := by omega
         clear cA hyy hS2 hO2 hS hE hSl hll hwl hOl hOq hOv hBl
         go_wp2_with (go_at_call 114; refine (CA.out _).mono ?_; rintro e w' ⟨rfl, rfl⟩)
         go_roundw
         case rel => exact ⟨i2 + 1, c3, by go_num, rfl, by omega, hc3, HS2, HE3⟩
         case measure => simp [RowKit.intOf]; omega
        ·obtain rfl : i2 = i := by omega
         have t2 : decide (i2 < i2) = false := decide_eq_false (Nat.lt_irrefl _)
         have cy := hOl.cell (i := j + i2) (by omega)
         have hfr := hOl.frozen (j + i2)
         have hy := getD_lt hwl (j + i2)
         obtain ⟨y, hyy⟩ : ∃ y, y = l.getD (j + i2) 0 := ⟨_, rfl⟩
         obtain ⟨p1, p2, _, p4⟩ := hSl.top hRD.out HY.out hjn0 hyy
         rw [← hyy] at cy hy
         have hO2 := hOl.set (j + i2) ((y + c2) % 4294967296)
         have ky : IntKind.u32.wrap ((y : Int) + (c2 : Int)) = (((y + c2) % 4294967296 : Nat) : Int) := by rw [IntKind.wrap_u32]; omega
         generalize l.set (j + i2) ((y + c2) % 4294967296) = l3 at *
         generalize (y + c2) % 4294967296 = nw2 at *
         have HO2 := Zh hO2
         have HE3 := Zh (And.intro (hOq.setOther (a := ⟨gu, j + i2, none⟩) hgne.2.1 (.int .u32 (nw2 : Int))) (And.intro (hOv.setOther (a := ⟨gu, j + i2, none⟩) hgne.1 (.int .u32 (nw2 : Int))) (Below.setCell hBl (show wz.heap.size ≤ (⟨gu, j + i2, none⟩ : Addr).block from by dsimp only; omega) (.int .u32 (nw2 : Int)))))
         have hval3 := p4
         have hlen3 := p1
         have hw3 := p2
         clear hyy hO2 hS hE hSl hll hwl hOl hOq hOv hBl p1 p2 p4
         generalize hWW : wr.setCell ⟨gu, j + i2, none⟩ (.int .u32 (nw2 : Int)) = WW at *
         obtain ⟨hOq3, hOv3, hBl3⟩ := HE3.out
         have hO3 := HO2.out
         have hqd : dig Q j = qj := by rw [← HQd.out, ← HQJ.out, HVU.out]; exact (qt_eq U V j).1.symm
         have hfq := hOq3.frozen j
         have hcq := hOq3.cell (i := j) (by rw [fillD_length]; omega)
         have hOq4 := hOq3.set j qj
         rw [← hqd, fillD_set _ hjk, hqd] at hOq4
         have HF : Hid (LongI gu gv gq lv U V Q L kq j wz (WW.setCell ⟨gq, j, none⟩ (.int .u32 (qj : Int)))) := Zh ⟨⟨_, hO3.setOther (a := ⟨gq, j, none⟩) (fun e => hgne.2.1 e.symm) _, hlen3, hw3, by rw [hval3, HVU.out]; exact (qt_eq U V j).2⟩, hOq4, hOv3.setOther (a := ⟨gq, j, none⟩) (fun e => hgne.2.2 e.symm) _, Below.setCell hBl3 (show wz.heap.size ≤ (⟨gq, j, none⟩ : Addr).block from by dsimp only; omega) _⟩
         have kq1 : IntKind.u32.wrap (qj : Int) = (qj : Int) := by rw [IntKind.wrap_u32]; omega
         have jk2 : (j : Int) < (kq : Int) := by omega
         generalize (fillD (dig Q) (j + 1) kq).getD j 0 = oq at *
         subst hWW
         clear hval3 hqd hOq4 hO3 hlen3 hw3 hOq3 hOv3 hBl3
         go_wp2
         go_roundw
         case rel => exact ⟨j, rfl, by omega, HF⟩
         case measure => simp [RowKit.intOf]
end Nn
namespace Nn
open Go.RowKit NatMath
theorem long_boxes (a b : Value) (N M : Nat) (w W : World) (ha : Nt w a N) (hb : Nt w b M) (h1 : len N ≤ 64) (h2 : 2 ≤ len M) (hl : M ≤ N) (hB : Boxes w W) :
  Calls Tryz.prog 85 #[a, b] W fun e w' => ∃ g1 g2 k n, e = .returned (.tuple #[.slice (some ⟨g1, 0, none⟩) k k, .slice (some ⟨g2, 0, none⟩) n n]) ∧ Hid (Own w' g1 (fill (dig (N / M)) k k) ∧ N / M < Bp k ∧ Own w' g2 (fill (dig (N % M)) n n) ∧ N % M < Bp n ∧ k ≤ 64 ∧ n ≤ 64) ∧ w.heap.size + 3 < g1 ∧ w.heap.size + 3 < g2 ∧ Hid (Boxes w w') := by
 refine (long_c a b N M W (ha.below' hB.1) (hb.below' hB.1) h1 h2 hl).mono ?_
 rintro e w' ⟨g1, g2, k, n, rfl, hO, e1, e2, hb⟩
 have := hB.2.1
 exact ⟨g1, g2, k, n, rfl, hO, by omega, by omega, Zh (hB.on hb)⟩
set_option maxRecDepth 100000 in
set_option maxHeartbeats 1000000 in
theorem Div_long (a b : Value) (N M : Nat) (w : World) (ha : Nt w a N) (hb : Nt w b M) (h1 : len N ≤ 64) (h2 : len M ≤ 64) (h0 : 2 ≤ len M) (hl : M ≤ N) :
  Calls Tryz.prog 45 #[.agg #[a], .agg #[b]] w fun e w' => RetNN (fun w' u v => NtU w' u (N / M) ∧ Fr w.heap.size u ∧ NtU w' v (N % M) ∧ Fr w.heap.size v) e w' ∧ Below w.heap.size w w' := by
 have c1 := fun w h => Valid_c a (digs N) w h
 have c2 := fun w h => Valid_c b (digs M) w h
 have c3 := fun w h1 h2 => compare_c a b N M w h1 h2
 rw [vld_digs, decide_eq_true h1] at c1
 rw [vld_digs, decide_eq_true h2] at c2
 have C1 := Zh c1
 have C2 := Zh c2
 have C3 := Zh c3
 have HA := Zh ha
 have HB := Zh hb
 have hM0 : M ≠ 0 := fun e => by rw [e, len_zero] at h0; omega
 have c4 := fun W h => long_boxes a b N M w W ha hb h1 h0 hl h
 have C4 := Zh c4
 have hcmp : decide (cmp N M < 0) = false := decide_eq_false (by unfold cmp; rw [if_neg (by omega)]; split <;> omega)
 obtain ⟨ao, ca, rfl, a1, a2, _⟩ := ha.open
 obtain ⟨bo, cb, rfl, b1, b2, _⟩ := hb.open
 have HN64 := Zh h1
 have g7 : ((len M : Int) == 0) = false := by simp; omega
 have g8 : ((len M : Int) == 1) = false := by simp; omega
 have l1 : (len M : Int) ≤ 64 := by omega
 clear c4 hM0 h1 h2 h0 hl
 clear c1 c2 c3 ha hb
 generalize cmp N M = R at *
 go_enter Tryz.func45, Tryz.ntmps45
 go_wp2_with fail
 refine (C1.out _ (HA.out.below' (below_four _ _ _ _ _))).mono ?_; rintro e w1 ⟨rfl, hb1⟩
 have z1 : w.heap.size + 3 < w1.heap.size := by have := hb1.size; simp at this; omega
 have B1 : Hid (Below w.heap.size w w1) := Zh ((below_four _ _ _ _ _).trans (hb1.mono (by simp; omega)))
 obtain ⟨x1, x2, x3, x4, x5, x6⟩ := box4 w (.slice ao (len N) ca) (.slice bo (len M) cb) (.slice none 0 0) (.slice none 0 0) 24 24 24 24
 have f1 := (hb1.cell (p := ⟨w.heap.size, 0, none⟩) (by simp; omega)).trans x1
 have f2 := (hb1.cell (p := ⟨w.heap.size + 1, 0, none⟩) (by simp)).trans x2
 have f3 := (hb1.cell (p := ⟨w.heap.size + 1 + 1, 0, none⟩) (by simp)).trans x3
 have f4 := (hb1.frozen (p := ⟨w.heap.size + 1 + 1, 0, none⟩) (by simp)).trans x4
 have f5 := (hb1.cell (p := ⟨w.heap.size + 1 + 1 + 1, 0, none⟩) (by simp)).trans x5
 have f6 := (hb1.frozen (p := ⟨w.heap.size + 1 + 1 + 1, 0, none⟩) (by simp)).trans x6
 clear x1 x2 x3 x4 x5 x6 hb1
 go_wp2_with fail
 refine (C2.out _ (HB.out.below' B1.out)).mono ?_; rintro e w2 ⟨rfl, hb2⟩
 have z2 : w.heap.size + 3 < w2.heap.size := by have := hb2.size; omega
 have B2 : Hid (Below w.heap.size w w2) := Zh (B1.out.trans (hb2.mono (by omega)))
 have g1 := (hb2.cell (p := ⟨w.heap.size, 0, none⟩) (by dsimp only; omega)).trans f1
 have g2 := (hb2.cell (p := ⟨w.heap.size + 1, 0, none⟩) (by dsimp only; omega)).trans f2
 have g3 := (hb2.cell (p := ⟨w.heap.size + 1 + 1, 0, none⟩) (by dsimp only; omega)).trans f3
 have g4 := (hb2.frozen (p := ⟨w.heap.size + 1 + 1, 0, none⟩) (by dsimp only; omega)).trans f4
 have g5 := (hb2.cell (p := ⟨w.heap.size + 1 + 1 + 1, 0, none⟩) (by dsimp only; omega)).trans f5
 have g6 := (hb2.frozen (p := ⟨w.heap.size + 1 + 1 + 1, 0, none⟩) (by dsimp only; omega)).trans f6
 clear hb2 f1 f2 f3 f4 f5 f6 z1 B1 C1 C2
 go_wp2_with fail
 refine (C3.out _ (HA.out.below' B2.out) (HB.out.below' B2.out)).mono ?_; rintro e w3 ⟨rfl, hq⟩
 have hb3 := hq.below w2.heap.size
 have z3 : w.heap.size + 3 < w3.heap.size := by have := hb3.size; omega
 have B3 : Hid (Below w.heap.size w w3) := Zh (B2.out.trans (hb3.mono (by omega)))
 have f1 := (hb3.cell (p := ⟨w.heap.size, 0, none⟩) (by dsimp only; omega)).trans g1
 have f2 := (hb3.cell (p := ⟨w.heap.size + 1, 0, none⟩) (by dsimp only; omega)).trans g2
 have f3 := (hb3.cell (p := ⟨w.heap.size + 1 + 1, 0, none⟩) (by dsimp only; omega)).trans g3
 have f4 := (hb3.frozen (p := ⟨w.heap.size + 1 + 1, 0, none⟩) (by dsimp only; omega)).trans g4
 have f5 := (hb3.cell (p := ⟨w.heap.size + 1 + 1 + 1, 0, none⟩) (by dsimp only; omega)).trans g5
 have f6 := (hb3.frozen (p := ⟨w.heap.size + 1 + 1 + 1, 0, none⟩) (by dsimp only; omega)).trans g6
 clear hb3 hq g1 g2 g3 g4 g5 g6 z2 B2 C3
 have FD : Boxes w w3 := ⟨B3.out, z3, f3, f4, f5, f6⟩
 have FH := Zh FD
 clear FD
 go_wp2_with fail
 refine (C4.out _ FH.out).mono ?_
 rintro e w4 ⟨p1, p2, k, n, rfl, hO, hg1, hg2, u⟩
 clear f1 f2 f3 f4 f5 f6 C4
 obtain ⟨u1, u2, u3, u4, u5, u6⟩ := u.out
 clear u3 u4 u5 u6
 go_wp2_with fail
 refine (trimmed_boxes p1 _ w w4 hO.out.1 (fill_words (dig_lt _)) _ (fill_length _ _ _) (by have := hO.out.2.2.2.2.1; omega) (by omega) u.out).mono ?_
 rw [fill_val hO.out.2.1]
 rintro e w5 ⟨a5, c5, rfl, hv5, hf5, ub5, hb5⟩
 have hs5 : w.heap.size + 3 < w5.heap.size := ub5.out.2.1
 go_wp2_with fail
 refine (trimmed_boxes p2 _ w w5 (hO.out.2.2.1.below' hb5.out) (fill_words (dig_lt _)) _ (fill_length _ _ _) (by have := hO.out.2.2.2.2.2; omega) (by omega) ub5.out).mono ?_
 rw [fill_val hO.out.2.2.2.1]
 rintro e w6 ⟨a6, c6, rfl, hv6, hf6, ub6, hb6⟩
 have hv56 : Hid (NtU w6 (.slice a5 (len (N / M)) c5) (N / M)) := Zh (hv5.out.below' hb6.out)
 obtain ⟨u1, u2, u3, u4, u5, u6⟩ := ub6.out
 clear hv5 hb6 hs5 hb5
 go_wp2
 refine bodyPost_ret (v := .tuple #[.agg #[.slice a5 (len (N / M)) c5], .agg #[.slice a6 (len (N % M)) c6], .int .i64 0]) (by simp [results, Tryz.results45, go_sem, u3, u5]) rfl ⟨⟨_, _, Zh ⟨?_, (Fr.mono hf5.out (by omega)), ?_, (Fr.mono hf6.out (by omega))⟩, rfl⟩, ?_⟩
 ·exact (hv56.out.set hf5.out (by dsimp only; omega) _).set hf5.out (by dsimp only; omega) _
 ·exact (hv6.out.set hf6.out (by dsimp only; omega) _).set hf6.out (by dsimp only; omega) _
 ·exact (u1.setCell (by dsimp only; omega) _).setCell (by dsimp only; omega) _
/-- Div of valid numbers, the divisor not 0 -/
theorem Div_cU (a b : Value) (N M : Nat) (w : World) (ha : Nt w a N) (hb : Nt w b M) (h1 : len N ≤ 64) (h2 : len M ≤ 64) (h0 : M ≠ 0) :
  Calls Tryz.prog 45 #[.agg #[a], .agg #[b]] w fun e w' => RetNN (fun w' u v => NtU w' u (N / M) ∧ Fr w.heap.size u ∧ NtU w' v (N % M) ∧ Fr w.heap.size v) e w' ∧ Below w.heap.size w w' := by
 by_cases hl : N < M
 ·rw [Nat.div_eq_of_lt hl, Nat.mod_eq_of_lt hl]; exact Div_smallU a b N M w ha hb h1 h2 hl h0
 ·have hm : len M ≠ 0 := fun e => h0 (len_eq_zero.1 e)
  by_cases h3 : len M = 1
  ·exact Div_shortU a b N M w ha hb h1 h2 h3 (by omega)
  ·exact Div_long a b N M w ha hb h1 h2 (by omega) (by omega)
theorem Div_c (a b : Value) (N M : Nat) (w : World) (ha : Nt w a N) (hb : Nt w b M) (h1 : len N ≤ 64) (h2 : len M ≤ 64) (h0 : M ≠ 0) :
  Calls Tryz.prog 45 #[.agg #[a], .agg #[b]] w fun e w' => RetNN (fun w' u v => Nt w' u (N / M) ∧ Fr w.heap.size u ∧ Nt w' v (N % M) ∧ Fr w.heap.size v) e w' ∧ Below w.heap.size w w' :=
 (Div_cU a b N M w ha hb h1 h2 h0).mono fun _ _ h => ⟨h.1.old, h.2⟩
end Nn
namespace Nn
open Go.RowKit NatMath
def HeldN : List (Value × List Nat) → World → Prop
 | [], _ => True
 | (v, l) :: G, W => Sl W v l ∧ HeldN G W
theorem HeldN.below {G : List (Value × List Nat)} {W W' : World} (h : HeldN G W) (hb : Below W.heap.size W W') : HeldN G W' := by
 induction G with
 | nil => exact trivial
 | cons p G ih => exact ⟨h.1.below' hb, ih h.2⟩
theorem HeldN.get {G : List (Value × List Nat)} {W : World} (h : HeldN G W) : ∀ (i : Nat) {v : Value} {l : List Nat}, G[i]? = some (v, l) → Sl W v l := by
 induction G with
 | nil => intro i v l e; simp at e
 | cons p G ih =>
  intro i v l e
  rcases i with _ | i
  ·simp only [List.getElem?_cons_zero, Option.some.injEq] at e
   subst e; exact h.1
  ·exact ih h.2 i (by simpa using e)
/-- a slice value -/
def IsSl (v : Value) : Prop := ∃ ao n c, v = .slice ao n c
/-- a box: block g holds the slice value v, and may be written to -/
def BoxAt (B : Nat) (g : Nat) (v : Value) (W : World) : Prop := W.cell? ⟨g, 0, none⟩ = some v ∧ W.frozen? ⟨g, 0, none⟩ = false ∧ g < W.heap.size ∧ B ≤ g ∧ IsSl v
theorem BoxAt.below {B g : Nat} {v : Value} {W W' : World} (h : BoxAt B g v W) (hb : Below W.heap.size W W') : BoxAt B g v W' :=
 ⟨(hb.cell (p := ⟨g, 0, none⟩) h.2.2.1).trans h.1, (hb.frozen (p := ⟨g, 0, none⟩) h.2.2.1).trans h.2.1, Nat.lt_of_lt_of_le h.2.2.1 hb.size, h.2.2.2⟩
def HeldB (B : Nat) : List (Nat × Value) → World → Prop
 | [], _ => True
 | (g, v) :: F, W => BoxAt B g v W ∧ (∀ p ∈ F, p.1 ≠ g) ∧ HeldB B F W
theorem HeldB.below {B : Nat} {F : List (Nat × Value)} {W W' : World} (h : HeldB B F W) (hb : Below W.heap.size W W') : HeldB B F W' := by
 induction F with
 | nil => exact trivial
 | cons p F ih => exact ⟨h.1.below hb, h.2.1, ih h.2.2⟩
theorem HeldB.old {B : Nat} {F : List (Nat × Value)} {W : World} (h : HeldB B F W) : ∀ p ∈ F, p.1 < W.heap.size := by
 induction F with
 | nil => intro p hp; cases hp
 | cons q F ih =>
  intro p hp
  rcases List.mem_cons.1 hp with rfl | hp
  ·exact h.1.2.2.1
  ·exact ih h.2.2 p hp
theorem HeldB.get {B : Nat} {F : List (Nat × Value)} {W : World} (h : HeldB B F W) : ∀ (i : Nat) {g : Nat} {v : Value}, F[i]? = some (g, v) → BoxAt B g v W := by
 induction F with
 | nil => intro i g v e; simp at e
 | cons p F ih =>
  intro i g v e
  rcases i with _ | i
  ·simp only [List.getElem?_cons_zero, Option.some.injEq] at e
   subst e; exact h.1
  ·exact ih h.2.2 i (by simpa using e)
theorem BoxAt.setOther {B g k : Nat} {u v : Value} {W : World} (h : BoxAt B k u W) (hne : k ≠ g) : BoxAt B k u (W.setCell ⟨g, 0, none⟩ v) :=
 ⟨(World.cell?_setCell_other _ _ _ _ (fun e => hne (by simp only [Addr.mk.injEq] at e; exact e.1.symm))).trans h.1, (World.frozen?_setCell _ _ _ _).trans h.2.1, by simpa using h.2.2.1, h.2.2.2⟩
theorem BoxAt.setSame {B g : Nat} {u v : Value} {W : World} (h : BoxAt B g u W) (hv : IsSl v) : BoxAt B g v (W.setCell ⟨g, 0, none⟩ v) :=
 ⟨World.cell?_setCell_same' _ _ _ (by rw [h.1]; rfl), (World.frozen?_setCell _ _ _ _).trans h.2.1, by simpa using h.2.2.1, h.2.2.2.1, hv⟩
theorem Sl.setBox {B g : Nat} {u v x : Value} {l : List Nat} {W : World} (h : Sl W x l) (hb : BoxAt B g u W) : Sl (W.setCell ⟨g, 0, none⟩ v) x l := by
 obtain ⟨ao, cap, h1, h2, h3, h4, h5, h6⟩ := h
 refine ⟨ao, cap, h1, h2, h3, h4, fun hl => ?_, h6⟩
 obtain ⟨b, off, k1, k2, k3⟩ := h5 hl
 refine ⟨b, off, k1, by simpa using k2, fun i hi => ?_⟩
 refine (World.cell?_setCell_other _ _ _ _ (fun e => ?_)).trans (k3 i hi)
 have h7 := k3 i hi
 rw [← e, hb.1] at h7
 obtain ⟨_, _, _, hs⟩ := hb.2.2.2.2
 rw [hs] at h7
 cases h7
theorem HeldN.setBox {B g : Nat} {u v : Value} {G : List (Value × List Nat)} {W : World} (h : HeldN G W) (hb : BoxAt B g u W) : HeldN G (W.setCell ⟨g, 0, none⟩ v) := by
 induction G with
 | nil => exact trivial
 | cons p G ih => exact ⟨h.1.setBox hb, ih h.2⟩
theorem HeldB.setAway {B g : Nat} {v : Value} {F : List (Nat × Value)} {W : World} (h : HeldB B F W) (hne : ∀ p ∈ F, p.1 ≠ g) : HeldB B F (W.setCell ⟨g, 0, none⟩ v) := by
 induction F with
 | nil => exact trivial
 | cons p F ih => exact ⟨h.1.setOther (hne p (by simp)), h.2.1, ih h.2.2 (fun q hq => hne q (by simp [hq]))⟩
theorem HeldB.set {B : Nat} {F : List (Nat × Value)} {W : World} (h : HeldB B F W) : ∀ (i : Nat) {g : Nat} {u : Value} (v : Value), F[i]? = some (g, u) → IsSl v → HeldB B (F.set i (g, v)) (W.setCell ⟨g, 0, none⟩ v) := by
 induction F with
 | nil => intro i g u v e; simp at e
 | cons p F ih =>
  intro i g u v e hv
  rcases i with _ | i
  ·simp only [List.getElem?_cons_zero, Option.some.injEq] at e
   subst e
   exact ⟨h.1.setSame hv, h.2.1, h.2.2.setAway h.2.1⟩
  ·have e' : F[i]? = some (g, u) := by simpa using e
   have hm : (g, u) ∈ F := List.mem_of_getElem? e'
   refine ⟨h.1.setOther (fun e2 => h.2.1 _ hm e2.symm), fun q hq => ?_, ih h.2.2 i v e' hv⟩
   rcases List.mem_or_eq_of_mem_set hq with hq | rfl
   ·exact h.2.1 q hq
   ·exact h.2.1 (g, u) hm
/-- nothing of what was there has turned; the boxes F hold their values; the slices G read as their words -/
def EnvB (w : World) (F : List (Nat × Value)) (G : List (Value × List Nat)) (W : World) : Prop := Below w.heap.size w W ∧ HeldB w.heap.size F W ∧ HeldN G W
section
variable {w W W' : World} {F : List (Nat × Value)} {G : List (Value × List Nat)}
theorem EnvB.start (w : World) : EnvB w [] [] w := ⟨Below.refl _ _, trivial, trivial⟩
theorem EnvB.below (h : EnvB w F G W) (hb : Below W.heap.size W W') : EnvB w F G W' := ⟨h.1.trans (hb.mono h.1.size), h.2.1.below hb, h.2.2.below hb⟩
theorem EnvB.alloc (h : EnvB w F G W) (o : Obj) : EnvB w F G (W.alloc o) := h.below (below_one W o)
theorem EnvB.drew (h : EnvB w F G W) : EnvB w F G W.drew := h.below (below_drewN (Below.refl _ _) 1)
theorem EnvB.add (h : EnvB w F G W) (g : Nat) (v : Value) (hx : BoxAt w.heap.size g v W) (hd : ∀ p ∈ F, p.1 ≠ g) : EnvB w ((g, v) :: F) G W := ⟨h.1, ⟨hx, hd, h.2.1⟩, h.2.2⟩
theorem EnvB.push (h : EnvB w F G W) (v : Value) (T : TypeId) (hv : IsSl v) (g : Nat) (hg : W.heap.size = g) : EnvB w ((g, v) :: F) G (W.alloc (.cells #[v] T)) := by
 subst hg
 refine (h.alloc _).add _ _ ⟨box1a _ _ _, box1f _ _ _, by simp, h.1.size, hv⟩ (fun p hp => ?_)
 have := h.2.1.old p hp
 omega
theorem EnvB.num (h : EnvB w F G W) {v : Value} {l : List Nat} (hn : Sl W v l) : EnvB w F ((v, l) :: G) W := ⟨h.1, h.2.1, hn, h.2.2⟩
theorem EnvB.numN (h : EnvB w F G W) {v : Value} {N : Nat} (hn : Nt W v N) : EnvB w F ((v, digs N) :: G) W := ⟨h.1, h.2.1, hn, h.2.2⟩
theorem EnvB.sl (h : EnvB w F G W) (i : Nat) {v : Value} {l : List Nat} (e : G[i]? = some (v, l)) : Sl W v l := h.2.2.get i e
theorem EnvB.nt (h : EnvB w F G W) (i : Nat) {v : Value} {N : Nat} (e : G[i]? = some (v, digs N)) : Nt W v N := h.2.2.get i e
theorem EnvB.box (h : EnvB w F G W) (i : Nat) {g : Nat} {v : Value} (e : F[i]? = some (g, v)) : BoxAt w.heap.size g v W := h.2.1.get i e
theorem EnvB.set (h : EnvB w F G W) (i : Nat) {g : Nat} {u : Value} (v : Value) (e : F[i]? = some (g, u)) (hv : IsSl v) : EnvB w (F.set i (g, v)) G (W.setCell ⟨g, 0, none⟩ v) := by
 have hb := h.box i e
 exact ⟨h.1.setCell hb.2.2.2.1 _, h.2.1.set i v e hv, h.2.2.setBox hb⟩
theorem EnvB.old (h : EnvB w F G W) : ∀ p ∈ F, p.1 < W.heap.size := h.2.1.old
theorem EnvB.size (h : EnvB w F G W) : w.heap.size ≤ W.heap.size := h.1.size
end
/-- a number came back -/
def RetV (N : Nat) (e : Ending) (w' : World) : Prop := ∃ (ao : Option Addr) (c : Nat), e = .returned (.agg #[.slice ao (len N) c]) ∧ Hid (Nt w' (.slice ao (len N) c) N)
/-- a number and a code came back -/
def ResN (S : Nat) (c : Int) (e : Ending) (w' : World) : Prop := ∃ (ao : Option Addr) (k : Nat), e = .returned (.tuple #[.agg #[.slice ao (len S) k], .int .i64 c]) ∧ Hid (Nt w' (.slice ao (len S) k) S)
theorem ResN.zero (c : Int) (w' : World) : ResN 0 c (.returned (.tuple #[.agg #[.slice none 0 0], .int .i64 c])) w' := ⟨none, 0, by rw [len_zero], Zh (by rw [len_zero]; exact Nt.zero _)⟩
/-- a number and a truth value came back -/
def ResB (S : Nat) (t : Bool) (e : Ending) (w' : World) : Prop := ∃ (ao : Option Addr) (k : Nat), e = .returned (.tuple #[.agg #[.slice ao (len S) k], .bool t]) ∧ Hid (Nt w' (.slice ao (len S) k) S)
/-- two numbers and a code came back -/
def ResD (q r : Nat) (c : Int) (e : Ending) (w' : World) : Prop := ∃ (qa : Option Addr) (qk : Nat) (ra : Option Addr) (rk : Nat), e = .returned (.tuple #[.agg #[.slice qa (len q) qk], .agg #[.slice ra (len r) rk], .int .i64 c]) ∧ Hid (Nt w' (.slice qa (len q) qk) q) ∧ Hid (Nt w' (.slice ra (len r) rk) r)
def PEq (u : Value) : Fact := fun v _ _ _ => v = u
def PBox (B : Nat) : Fact := fun v b e W => ∃ g, v = .pointer (some ⟨g, 0, none⟩) ∧ B ≤ g ∧ b ≤ g ∧ g < e ∧ W.cell? ⟨g, 0, none⟩ = some (.slice none 0 0) ∧ W.frozen? ⟨g, 0, none⟩ = false ∧ g < W.heap.size
def PNum (N : Nat) : Fact := fun v _ _ W => ∃ (ao : Option Addr) (k : Nat), v = .agg #[.slice ao (len N) k] ∧ Hid (Nt W (.slice ao (len N) k) N)
def PTup (N : Nat) (c : Value) : Fact := fun v _ _ W => ∃ (ao : Option Addr) (k : Nat), v = .tuple #[.agg #[.slice ao (len N) k], c] ∧ Hid (Nt W (.slice ao (len N) k) N)
theorem PEq.st (u : Value) : (PEq u).Stable := fun _ _ _ _ _ h _ => h
theorem PBox.st (B : Nat) : (PBox B).Stable := fun _ _ _ _ _ ⟨g, h1, h2, h3, h4, h5, h6, h7⟩ hb => ⟨g, h1, h2, h3, h4, (hb.cell (p := ⟨g, 0, none⟩) h7).trans h5, (hb.frozen (p := ⟨g, 0, none⟩) h7).trans h6, Nat.lt_of_lt_of_le h7 hb.size⟩
theorem PNum.st (N : Nat) : (PNum N).Stable := fun _ _ _ _ _ ⟨ao, k, h1, h2⟩ hb => ⟨ao, k, h1, Zh (h2.out.below' hb)⟩
theorem PTup.st (N : Nat) (c : Value) : (PTup N c).Stable := fun _ _ _ _ _ ⟨ao, k, h1, h2⟩ hb => ⟨ao, k, h1, Zh (h2.out.below' hb)⟩
theorem PBox.mk {B : Nat} {w W : World} (hB : Below w.heap.size w W) (hw : B = w.heap.size) (T : TypeId) : PBox B (.pointer (some ⟨W.heap.size, 0, none⟩)) W.heap.size (W.alloc (.cells #[.slice none 0 0] T)).heap.size (W.alloc (.cells #[.slice none 0 0] T)) :=
 ⟨W.heap.size, rfl, hw ▸ hB.size, Nat.le_refl _, by simp, box1a _ _ _, box1f _ _ _, by simp⟩
theorem act_eq {K : Act → World → Prop} {a a' : Act} {w : World} (h : K a w) (e : a = a') : K a' w := e ▸ h
theorem op_of {ops : Array Oper} {i : Nat} {o' : Oper} {p : Oper → Prop} (ho : ops[i]? = some o') (h : p o') : ∀ o, ops[i]? = some o → p o := by
 intro o h2; rw [ho] at h2; cases h2; exact h
section
variable {P : Program} {ops : Array Oper} {Q : Exit → Act → World → Prop}
/-- an operation that only computes is taken first -/
theorem takeP {i : Nat} {oi : Oper} (d : Option Tmp) {v : Value} {fuel : Nat} {listed : Array Bool} {a : Act} {w : World} (hi : ops[i]? = some oi) (hd : oi.dst = d)
  (hs : Region.noSelect ops = true) (hf : Region.free .any ops listed i = true) (hr : (Region.ready .any ops listed).contains i = true)
  (hQ : ∀ c a w, Q (.panic c) (a.put d v) w → Q (.panic c) a w) (hg : Region.wanted oi (yielded ops a.tmps) = true)
  (hy : ∀ w, (execOp a.eval oi).run P w = .ok (.value v) w)
  (h : wpAny P .any ops Q fuel (listed.setIfInBounds i true) (a.put d v) w) : wpAny P .any ops Q (fuel + 1) listed a w := by
 subst hd; exact wpAny_take hi hs hf hr hQ (Or.inl ⟨hg, hy⟩) h
end
end Nn
namespace Nn.NatMath
theorem len_le_of_le {a b : Nat} (h : a ≤ b) : len a ≤ len b := len_le_iff.2 (Nat.lt_of_le_of_lt h (lt_Bp_len b))
theorem len_le_of_lt {a b k : Nat} (h : a < b) (hb : len b ≤ k) : len a ≤ k := Nat.le_trans (len_le_of_le (Nat.le_of_lt h)) hb
theorem len_add_le {a b j k : Nat} (ha : len a ≤ j) (hb : len b ≤ j) (hk : j < k) : len (a + b) ≤ k := by
 have h1 := len_le_iff.1 ha
 have h2 := len_le_iff.1 hb
 have h3 : Bp (j + 1) ≤ Bp k := Bp_le hk
 rw [Bp_succ] at h3
 exact len_le_iff.2 (by omega)
theorem len_mul_le {a b i j k : Nat} (ha : len a ≤ i) (hb : len b ≤ j) (hk : i + j ≤ k) : len (a * b) ≤ k := by
 have h1 := len_le_iff.1 ha
 have h2 := len_le_iff.1 hb
 have h3 : Bp (i + j) ≤ Bp k := Bp_le hk
 rw [Bp_add] at h3
 exact len_le_iff.2 (Nat.lt_of_lt_of_le (Nat.mul_lt_mul'' h1 h2) h3)
theorem len_one : len 1 = 1 := by rw [len_pos (by decide)]; rw [show 1 / 4294967296 = 0 from rfl, len_zero]
theorem len_le_bits {n k : Nat} : bl n ≤ 32 * k ↔ len n ≤ k := len_bl.symm
theorem cmp_lt_iff (a b : Nat) : decide (cmp a b < 0) = decide (a < b) := by
 unfold cmp; split
 ·rename_i h; rw [decide_eq_true h]; rfl
 ·rename_i h; rw [decide_eq_false h]; split <;> rfl
theorem cmp_zero_iff (a b : Nat) : (cmp a b == 0) = decide (a = b) := by
 unfold cmp; split
 ·rename_i h; rw [decide_eq_false (by omega)]; rfl
 ·split
  ·rename_i h; rw [decide_eq_false (by omega)]; rfl
  ·rename_i h1 h2; rw [decide_eq_true (by omega)]; rfl
/-- the difference of residues modulo m -/
def subm (a b m : Nat) : Nat := if a < b then a + m - b else a - b
theorem subm_lt {a b m : Nat} (ha : a < m) (hb : b < m) : subm a b m < m := by unfold subm; split <;> omega
theorem subm_cong {a b m : Nat} (hb : b < m) : (m : Int) ∣ (subm a b m : Int) - (a - b) := by
 unfold subm; split
 ·exact ⟨1, by omega⟩
 ·exact ⟨0, by omega⟩
/-- Euclid's algorithm as both texts run it: the last remainder, and its factor -/
def inv (m : Nat) (r s x y : Nat) : Nat × Nat := if h : s = 0 then (x, r) else inv m s (r % s) y (subm x (r / s % m * y % m) m)
termination_by s
decreasing_by exact Nat.mod_lt _ (Nat.pos_of_ne_zero h)
theorem inv_zero (m r x y : Nat) : inv m r 0 x y = (x, r) := by rw [inv]; simp
theorem inv_pos (m r x y : Nat) {s : Nat} (h : s ≠ 0) : inv m r s x y = inv m s (r % s) y (subm x (r / s % m * y % m) m) := by
 conv => lhs; rw [inv]
 simp [h]
/-- each remainder is congruent to its factor times a -/
def InvI (a m r s x y : Nat) : Prop := x < m ∧ y < m ∧ (m : Int) ∣ (a : Int) * x - r ∧ (m : Int) ∣ (a : Int) * y - s ∧ Nat.gcd r s = Nat.gcd a m
theorem InvI.start {a m : Nat} (hm : m ≠ 0) : InvI a m m a 0 (1 % m) := by
 refine ⟨by omega, Nat.mod_lt _ (by omega), ⟨-1, by simp⟩, ?_, Nat.gcd_comm _ _⟩
 have h := Int.emod_add_mul_ediv 1 (m : Int)
 refine ⟨-(a : Int) * (1 / (m : Int)), ?_⟩
 have h2 : ((1 % m : Nat) : Int) = 1 % (m : Int) := Int.natCast_emod 1 m
 rw [h2]
 have h3 : (1 : Int) % m = 1 - m * (1 / m) := by omega
 rw [h3]; grind
theorem InvI.step {a m r s x y : Nat} (h : InvI a m r s x y) (hs : s ≠ 0) : InvI a m s (r % s) y (subm x (r / s % m * y % m) m) := by
 obtain ⟨h1, h2, h3, h4, h5⟩ := h
 have hm : 0 < m := by omega
 have hz : r / s % m * y % m < m := Nat.mod_lt _ hm
 refine ⟨h2, subm_lt h1 hz, h4, ?_, ?_⟩
 ·obtain ⟨c, hc⟩ := @subm_cong x (r / s % m * y % m) m hz
  obtain ⟨d, hd⟩ := h3
  obtain ⟨e, he⟩ := h4
  have e1 : ((r % s : Nat) : Int) = (r : Int) - s * ((r / s : Nat) : Int) := by
   have := Nat.div_add_mod r s
   have h2 : ((s * (r / s) + r % s : Nat) : Int) = (r : Int) := by rw [this]
   simp only [Int.natCast_add, Int.natCast_mul] at h2; omega
  have e2 : ((r / s % m * y % m : Nat) : Int) = ((r / s % m * y : Nat) : Int) - m * ((r / s % m * y / m : Nat) : Int) := by
   have := Nat.div_add_mod (r / s % m * y) m
   have h2 : ((m * (r / s % m * y / m) + r / s % m * y % m : Nat) : Int) = ((r / s % m * y : Nat) : Int) := by rw [this]
   simp only [Int.natCast_add, Int.natCast_mul] at h2 ⊢; omega
  have e3 : ((r / s % m : Nat) : Int) = ((r / s : Nat) : Int) - m * ((r / s / m : Nat) : Int) := by
   have := Nat.div_add_mod (r / s) m
   have h2 : ((m * (r / s / m) + r / s % m : Nat) : Int) = ((r / s : Nat) : Int) := by rw [this]
   simp only [Int.natCast_add, Int.natCast_mul] at h2 ⊢; omega
  rw [e1]
  rw [Int.natCast_mul] at e2
  generalize ((r / s % m * y / m : Nat) : Int) = u at *
  generalize ((r / s / m : Nat) : Int) = v at *
  generalize ((r / s : Nat) : Int) = q at *
  generalize ((r / s % m : Nat) : Int) = t at *
  generalize ((r / s % m * y % m : Nat) : Int) = z at *
  generalize ((subm x (r / s % m * y % m) m : Nat) : Int) = k at *
  subst e3
  subst e2
  refine ⟨a * c + d - e * q + a * u + a * v * y, ?_⟩
  grind
 ·rw [← h5, Nat.gcd_comm s (r % s), ← Nat.gcd_rec, Nat.gcd_comm]
theorem inv_spec {a m : Nat} (s : Nat) : ∀ (r x y : Nat), InvI a m r s x y → (inv m r s x y).1 < m ∧ (inv m r s x y).2 = Nat.gcd a m ∧ (m : Int) ∣ (a : Int) * (inv m r s x y).1 - (inv m r s x y).2 := by
 induction s using Nat.strongRecOn with
 | _ s ih =>
  intro r x y h
  by_cases hs : s = 0
  ·subst hs
   rw [inv_zero]
   refine ⟨h.1, ?_, h.2.2.1⟩
   have := h.2.2.2.2
   rw [Nat.gcd_zero_right] at this
   exact this
  ·rw [inv_pos _ _ _ _ hs]
   exact ih _ (Nat.mod_lt _ (by omega)) _ _ _ (h.step hs)
/-- the inverse as it is computed, and whether there is one -/
def invV (a m : Nat) : Nat := (inv m m a 0 (1 % m)).1
def invG (a m : Nat) : Nat := (inv m m a 0 (1 % m)).2
theorem invG_eq {a m : Nat} (hm : m ≠ 0) : invG a m = Nat.gcd a m := (inv_spec a m 0 (1 % m) (InvI.start hm)).2.1
theorem invV_lt {a m : Nat} (hm : m ≠ 0) : invV a m < m := (inv_spec a m 0 (1 % m) (InvI.start hm)).1
theorem invV_mul {a m : Nat} (hm : m ≠ 0) (hg : Nat.gcd a m = 1) : a * invV a m % m = 1 % m := by
 have h := (inv_spec a m 0 (1 % m) (InvI.start hm)).2.2
 rw [(inv_spec a m 0 (1 % m) (InvI.start hm)).2.1, hg] at h
 have h2 := Int.emod_eq_emod_iff_emod_sub_eq_zero.2 (Int.emod_eq_zero_of_dvd h)
 have h3 : ((a * invV a m : Nat) : Int) % (m : Int) = ((1 : Nat) : Int) % (m : Int) := by
  rw [Int.natCast_mul]; exact h2
 rw [← Int.natCast_emod, ← Int.natCast_emod] at h3
 exact Int.ofNat.inj h3
/-- powers, bit by bit from the highest one -/
theorem powm_step (N E K j : Nat) : ((if bt E j = true then N ^ (E / 2 ^ (j + 1)) % K * (N ^ (E / 2 ^ (j + 1)) % K) % K * N % K else N ^ (E / 2 ^ (j + 1)) % K * (N ^ (E / 2 ^ (j + 1)) % K) % K)) = N ^ (E / 2 ^ j) % K := by
 have e1 : E / 2 ^ (j + 1) = E / 2 ^ j / 2 := by rw [Nat.pow_succ, Nat.div_div_eq_div_mul]
 unfold bt
 rw [e1]
 generalize E / 2 ^ j = h
 have e2 : N ^ (h / 2) % K * (N ^ (h / 2) % K) % K = N ^ (h / 2 + h / 2) % K := by rw [← Nat.mul_mod, ← Nat.pow_add]
 rw [e2]
 by_cases hh : h % 2 = 1
 ·rw [if_pos (by simpa using hh), Nat.mul_mod, Nat.mod_mod, ← Nat.mul_mod, ← Nat.pow_succ, show (h / 2 + h / 2).succ = h from by omega]
 ·rw [if_neg (by simpa using hh), show h / 2 + h / 2 = h from by omega]
theorem powm_start (N E K : Nat) : N ^ (E / 2 ^ bl E) % K = 1 % K := by rw [Nat.div_eq_of_lt (lt_two_bl E), Nat.pow_zero]
end Nn.NatMath
namespace Nn
open Go.RowKit NatMath
section
variable {a b : Value} {N M q r S : Nat} {w : World}
theorem BigPost.fit {S n : Nat} {e : Ending} {w' : World} (h : BigPost S n e w') (hl : len S ≤ 64) : ResN S 0 e w' := by
 rcases h with ⟨_, v, hv, rfl⟩ | ⟨h, _⟩
 ·have hN := hv.out.1
  obtain ⟨ao, c, rfl, _⟩ := hN.open
  exact ⟨ao, c, rfl, Zh hN⟩
 ·exact absurd hl h
theorem RetN.res {S n : Nat} {e : Ending} {w' : World} (h : RetN (fun w' v' => Nt w' v' S ∧ Fr n v') e w') : ResN S 0 e w' := by
 obtain ⟨v, hv, rfl⟩ := h
 have hN := hv.out.1
 obtain ⟨ao, c, rfl, _⟩ := hN.open
 exact ⟨ao, c, rfl, Zh hN⟩
theorem addF (hS : N + M = S) (hl : len S ≤ 64) (ha : Nt w a N) (hb : Nt w b M) (h1 : len N ≤ 64) (h2 : len M ≤ 64) :
  Calls Tryz.prog 128 #[.agg #[a], .agg #[b]] w fun e w' => ResN S 0 e w' ∧ Below w.heap.size w w' := by
 subst hS; exact (Add_ok a b N M w ha hb h1 h2).mono (fun e w' h => And.intro (h.1.fit hl) h.2)
theorem mulF (hS : N * M = S) (hl : len S ≤ 64) (ha : Nt w a N) (hb : Nt w b M) (h1 : len N ≤ 64) (h2 : len M ≤ 64) :
  Calls Tryz.prog 66 #[.agg #[a], .agg #[b]] w fun e w' => ResN S 0 e w' ∧ Below w.heap.size w w' := by
 subst hS; exact (Mul_ok a b N M w ha hb h1 h2).mono (fun e w' h => And.intro (h.1.fit hl) h.2)
theorem subF (hS : N - M = S) (hle : M ≤ N) (ha : Nt w a N) (hb : Nt w b M) (h1 : len N ≤ 64) (h2 : len M ≤ 64) :
  Calls Tryz.prog 68 #[.agg #[a], .agg #[b]] w fun e w' => ResN S 0 e w' ∧ Below w.heap.size w w' := by
 subst hS; exact (Sub_ok a b N M w ha hb h1 h2 hle).mono (fun e w' h => And.intro h.1.res h.2)
theorem divF (hq : N / M = q) (hr : N % M = r) (ha : Nt w a N) (hb : Nt w b M) (h1 : len N ≤ 64) (h2 : len M ≤ 64) (h0 : M ≠ 0) :
  Calls Tryz.prog 45 #[.agg #[a], .agg #[b]] w fun e w' => ResD q r 0 e w' ∧ Below w.heap.size w w' := by
 subst hq hr
 refine (Div_c a b N M w ha hb h1 h2 h0).mono ?_
 rintro e w' ⟨⟨u, v, h, rfl⟩, hb⟩
 obtain ⟨k1, _, k2, _⟩ := h.out
 obtain ⟨qa, qk, rfl, _⟩ := k1.open
 obtain ⟨ra, rk, rfl, _⟩ := k2.open
 exact ⟨⟨qa, qk, ra, rk, rfl, Zh k1, Zh k2⟩, hb⟩
theorem ofF (x : Nat) (w : World) (hx : (x : Int) ≤ 9223372036854775807) :
  Calls Tryz.prog 93 #[.int .i64 x] w fun e w' => ResN x 0 e w' ∧ Below w.heap.size w w' :=
 (Of_ok x w hx).mono (fun e w' h => And.intro h.1.res h.2)
theorem compareF {c : Int} (hc : cmp N M = c) (ha : Nt w a N) (hb : Nt w b M) (h1 : len N ≤ 64) (h2 : len M ≤ 64) :
  Calls Tryz.prog 28 #[.agg #[a], .agg #[b]] w fun e w' => e = .returned (.int .i64 c) ∧ Below w.heap.size w w' := by
 subst hc; exact Compare_c a b N M w ha hb h1 h2
theorem validF {l : List Nat} {t : Bool} (ht : vld l = t) (ha : Sl w a l) :
  Calls Tryz.prog 57 #[.agg #[a]] w fun e w' => e = .returned (.bool t) ∧ Below w.heap.size w w' := by
 subst ht; exact Valid_c a l w ha
theorem validN (h : len N ≤ 64) (ha : Nt w a N) :
  Calls Tryz.prog 57 #[.agg #[a]] w fun e w' => e = .returned (.bool true) ∧ Below w.heap.size w w' :=
 validF (by rw [vld_digs, decide_eq_true h]) ha
theorem bitsF {n : Nat} (hn : bl N = n) (h : len N ≤ 64) (ha : Nt w a N) :
  Calls Tryz.prog 67 #[.agg #[a]] w fun e w' => e = .returned (.int .i64 (n : Nat)) ∧ Below w.heap.size w w' := by
 subst hn; exact Bits_c a N w ha h
end
set_option maxHeartbeats 400000 in
theorem number_one (w : World) :
  Calls Tryz.prog 106 #[.int .i64 1] w fun e w' => RetV 1 e w' ∧ Below w.heap.size w w' := by
 go_enter Tryz.func106, Tryz.ntmps106
 go_wp2_with fail
 have E1 := Zh (((EnvB.start w).push (.slice none 0 0) 24 ⟨_, _, _, rfl⟩ (w.heap.size) (by simp)))
 refine (ofF 1 _ (by decide)).mono ?_
 rintro e w1 ⟨⟨ua, uk, rfl, hu⟩, hb⟩
 have E2 := Zh (((E1.out.below hb).numN (hu.out : Nt _ _ 1)))
 clear E1 hb hu
 have E3 := Zh ((E2.out.push (.slice ua (len 1) uk) 24 ⟨_, _, _, rfl⟩ (w1.heap.size) (by simp)))
 obtain ⟨p1, f1, -, -, -⟩ := E3.out.box 1 rfl
 have E4 : Hid (EnvB w [(w1.heap.size, .slice ua (len 1) uk), (w.heap.size, .slice ua (len 1) uk)] [(.slice ua (len 1) uk, digs 1)] _) := Zh ((E3.out.set 1 (.slice ua (len 1) uk) rfl ⟨_, _, _, rfl⟩))
 have hfin := Zh E4.out
 obtain ⟨rc, -, -, -, -⟩ := E4.out.box 1 rfl
 go_wp2
 exact bodyPost_ret (v := .agg #[.slice ua (len 1) uk]) (by simp [results, Tryz.results106, go_sem, rc]) rfl ⟨⟨_, _, rfl, Zh (hfin.out.nt 0 rfl)⟩, hfin.out.1⟩
set_option maxHeartbeats 400000 in
theorem one_c (w : World) :
  Calls Tryz.prog 72 #[] w fun e w' => RetV 1 e w' ∧ Below w.heap.size w w' := by
 go_enter Tryz.func72, Tryz.ntmps72
 go_wp2_with fail
 have E1 := Zh (((EnvB.start w).push (.slice none 0 0) 24 ⟨_, _, _, rfl⟩ (w.heap.size) (by simp)))
 refine (number_one _).mono ?_
 rintro e w1 ⟨⟨ua, uk, rfl, hu⟩, hb⟩
 have E2 := Zh (((E1.out.below hb).numN (hu.out : Nt _ _ 1)))
 clear E1 hb hu
 obtain ⟨p1, f1, -, -, -⟩ := E2.out.box 0 rfl
 have E3 : Hid (EnvB w [(w.heap.size, .slice ua (len 1) uk)] [(.slice ua (len 1) uk, digs 1)] _) := Zh ((E2.out.set 0 (.slice ua (len 1) uk) rfl ⟨_, _, _, rfl⟩))
 have hfin := Zh E3.out
 obtain ⟨rc, -, -, -, -⟩ := E3.out.box 0 rfl
 go_wp2
 exact bodyPost_ret (v := .agg #[.slice ua (len 1) uk]) (by simp [results, Tryz.results72, go_sem, rc]) rfl ⟨⟨_, _, rfl, Zh (hfin.out.nt 0 rfl)⟩, hfin.out.1⟩
theorem RetV.zero (w' : World) : RetV 0 (.returned (.agg #[.slice none 0 0])) w' := ⟨none, 0, by rw [len_zero], Zh (by rw [len_zero]; exact Nt.zero _)⟩
set_option maxHeartbeats 400000 in
theorem zero_c (w : World) :
  Calls Tryz.prog 107 #[] w fun e w' => RetV 0 e w' ∧ Below w.heap.size w w' := by
 go_enter Tryz.func107, Tryz.ntmps107
 go_wp2
 exact bodyPost_ret (v := .agg #[.slice none 0 0]) (by simp [results, Tryz.results107, go_sem]) rfl ⟨RetV.zero _, below_one _ _⟩
set_option maxRecDepth 100000 in
set_option maxHeartbeats 1000000 in
theorem rest_w (ao : Option Addr) (ca : Nat) (bo : Option Addr) (cb : Nat) (N M : Nat) (q r : Nat) (w : World) (ha : Nt w (.slice ao (len N) ca) N) (hb : Nt w (.slice bo (len M) cb) M) (hq : N / M = q) (hr : N % M = r) (h1 : len N ≤ 64) (h2 : len M ≤ 64) (h0 : M ≠ 0) :
  Calls Tryz.prog 71 #[.agg #[.slice ao (len N) ca], .agg #[.slice bo (len M) cb]] w fun e w' => RetV r e w' ∧ Below w.heap.size w w' := by
 have CD := Zh (fun W ha hb => @divF (.slice ao (len N) ca) (.slice bo (len M) cb) N M q r W hq hr ha hb h1 h2 h0)
 clear h1 h2 h0 hq hr
 have E0 := Zh (((EnvB.start w).numN ha).numN hb)
 clear ha hb
 go_enter Tryz.func71, Tryz.ntmps71
 go_wp2_with fail
 have E1 := Zh ((((E0.out.push (.slice ao (len N) ca) 24 ⟨_, _, _, rfl⟩ (w.heap.size) (by simp)).push (.slice bo (len M) cb) 24 ⟨_, _, _, rfl⟩ (w.heap.size + 1) (by simp)).push (.slice none 0 0) 24 ⟨_, _, _, rfl⟩ (w.heap.size + 1 + 1) (by simp)))
 refine (CD.out _ (E1.out.nt 1 rfl) (E1.out.nt 0 rfl)).mono ?_
 rintro e w1 ⟨⟨qa, qk, ra, rk, rfl, hq, hr⟩, hb⟩
 have E2 := Zh ((((E1.out.below hb).numN (hq.out : Nt _ _ q)).numN (hr.out : Nt _ _ r)))
 clear E1 E0 hb hq hr
 have E3 := Zh (((E2.out.push (.slice qa (len q) qk) 24 ⟨_, _, _, rfl⟩ (w1.heap.size) (by simp)).push (.slice ra (len r) rk) 24 ⟨_, _, _, rfl⟩ (w1.heap.size + 1) (by simp)))
 obtain ⟨p1, f1, -, -, -⟩ := E3.out.box 2 rfl
 have E4 : Hid (EnvB w [(w1.heap.size + 1, .slice ra (len r) rk), (w1.heap.size, .slice qa (len q) qk), (w.heap.size + 1 + 1, .slice ra (len r) rk), (w.heap.size + 1, .slice bo (len M) cb), (w.heap.size, .slice ao (len N) ca)] [(.slice ra (len r) rk, digs r), (.slice qa (len q) qk, digs q), (.slice bo (len M) cb, digs M), (.slice ao (len N) ca, digs N)] _) := Zh ((E3.out.set 2 (.slice ra (len r) rk) rfl ⟨_, _, _, rfl⟩))
 have hfin := Zh E4.out
 obtain ⟨rc, -, -, -, -⟩ := E4.out.box 2 rfl
 go_wp2
 exact bodyPost_ret (v := .agg #[.slice ra (len r) rk]) (by simp [results, Tryz.results71, go_sem, rc]) rfl ⟨⟨_, _, rfl, Zh (hfin.out.nt 0 rfl)⟩, hfin.out.1⟩
theorem rest_c {a b : Value} {N M r : Nat} {w : World} (hr : N % M = r) (h1 : len N ≤ 64) (h2 : len M ≤ 64) (h0 : M ≠ 0) (ha : Nt w a N) (hb : Nt w b M) :
  Calls Tryz.prog 71 #[.agg #[a], .agg #[b]] w fun e w' => RetV r e w' ∧ Below w.heap.size w w' := by
 obtain ⟨ao, ca, rfl, _⟩ := ha.open
 obtain ⟨bo, cb, rfl, _⟩ := hb.open
 exact rest_w ao ca bo cb N M _ r w ha hb rfl hr h1 h2 h0
set_option maxRecDepth 100000 in
set_option maxHeartbeats 1000000 in
theorem less_w (ao : Option Addr) (ca : Nat) (bo : Option Addr) (cb : Nat) (N M : Nat) (t : Bool) (w : World) (ha : Nt w (.slice ao (len N) ca) N) (hb : Nt w (.slice bo (len M) cb) M) (ht : decide (N < M) = t) (h1 : len N ≤ 64) (h2 : len M ≤ 64) :
  Calls Tryz.prog 105 #[.agg #[.slice ao (len N) ca], .agg #[.slice bo (len M) cb]] w fun e w' => e = .returned (.bool t) ∧ Below w.heap.size w w' := by
 have hc : decide (cmp N M < 0) = t := by rw [cmp_lt_iff, ht]
 have CC := Zh (fun W ha hb => @compareF (.slice ao (len N) ca) (.slice bo (len M) cb) N M W _ rfl ha hb h1 h2)
 clear ht h1 h2
 generalize cmp N M = c at *
 have E0 := Zh (((EnvB.start w).numN ha).numN hb)
 clear ha hb
 go_enter Tryz.func105, Tryz.ntmps105
 go_wp2_with fail
 have E1 := Zh (((E0.out.push (.slice ao (len N) ca) 24 ⟨_, _, _, rfl⟩ (w.heap.size) (by simp)).push (.slice bo (len M) cb) 24 ⟨_, _, _, rfl⟩ (w.heap.size + 1) (by simp)))
 refine (CC.out _ (E1.out.nt 1 rfl) (E1.out.nt 0 rfl)).mono ?_
 rintro e w1 ⟨rfl, hb⟩
 have E2 := Zh ((E1.out.below hb))
 clear E1 E0 hb
 have hfin := Zh E2.out.1
 go_wp2
 go_ret
 exact ⟨rfl, hfin.out⟩
theorem less_c {a b : Value} {N M : Nat} {t : Bool} {w : World} (ht : decide (N < M) = t) (h1 : len N ≤ 64) (h2 : len M ≤ 64) (ha : Nt w a N) (hb : Nt w b M) :
  Calls Tryz.prog 105 #[.agg #[a], .agg #[b]] w fun e w' => e = .returned (.bool t) ∧ Below w.heap.size w w' := by
 obtain ⟨ao, ca, rfl, _⟩ := ha.open
 obtain ⟨bo, cb, rfl, _⟩ := hb.open
 exact less_w ao ca bo cb N M t w ha hb ht h1 h2
set_option maxRecDepth 100000 in
set_option maxHeartbeats 1000000 in
theorem modulus_bad (ao : Option Addr) (ca : Nat) (la : List Nat)  (w : World) (ha : Sl w (.slice ao la.length ca) la) (hv : vld la = false) :
  Calls Tryz.prog 104 #[.agg #[.slice ao la.length ca]] w fun e w' => e = .returned (.bool false) ∧ Below w.heap.size w w' := by
 have CV := Zh (fun W ha => @validF (.slice ao la.length ca) W la false hv ha)
 generalize hl : la.length = n at *
 clear hl hv
 have E0 := Zh ((EnvB.start w).num ha)
 clear ha
 go_enter Tryz.func104, Tryz.ntmps104
 go_wp2_with fail
 have E1 := Zh ((E0.out.push (.slice ao n ca) 24 ⟨_, _, _, rfl⟩ (w.heap.size) (by simp)))
 refine (CV.out _ (E1.out.sl 0 rfl)).mono ?_
 rintro e w1 ⟨rfl, hb⟩
 have E2 := Zh ((E1.out.below hb))
 clear E1 E0 hb
 have hfin := Zh E2.out.1
 go_wp2
 go_ret
 exact ⟨rfl, hfin.out⟩
set_option maxRecDepth 100000 in
set_option maxHeartbeats 1000000 in
theorem modulus_zero (ao : Option Addr) (ca : Nat) (N : Nat)  (w : World) (ha : Nt w (.slice ao (len N) ca) N) (h1 : len N ≤ 64) (h0 : N = 0) :
  Calls Tryz.prog 104 #[.agg #[.slice ao (len N) ca]] w fun e w' => e = .returned (.bool false) ∧ Below w.heap.size w w' := by
 have hb1 : bl N = 0 := by rw [h0]; rfl
 have CV := Zh (fun W ha => @validN (.slice ao (len N) ca) N W h1 ha)
 have CB := Zh (fun W ha => @bitsF (.slice ao (len N) ca) N W _ rfl h1 ha)
 clear h1
 clear h0
 generalize bl N = n at *
 subst hb1
 have E0 := Zh ((EnvB.start w).numN ha)
 clear ha
 go_enter Tryz.func104, Tryz.ntmps104
 go_wp2_with fail
 have E1 := Zh ((E0.out.push (.slice ao (len N) ca) 24 ⟨_, _, _, rfl⟩ (w.heap.size) (by simp)))
 refine (CV.out _ (E1.out.nt 0 rfl)).mono ?_
 rintro e w1 ⟨rfl, hb⟩
 have E2 := Zh ((E1.out.below hb))
 clear E1 E0 hb
 obtain ⟨p1, f1, -, -, -⟩ := E2.out.box 0 rfl
 go_wp2_with fail
 refine (CB.out _ (E2.out.nt 0 rfl)).mono ?_
 rintro e w2 ⟨rfl, hb⟩
 have E3 := Zh ((E2.out.below hb))
 clear p1 f1 E2 hb
 have hfin := Zh E3.out.1
 go_wp2
 go_ret
 exact ⟨rfl, hfin.out⟩
set_option maxRecDepth 100000 in
set_option maxHeartbeats 1000000 in
theorem modulus_big (ao : Option Addr) (ca : Nat) (N : Nat)  (w : World) (ha : Nt w (.slice ao (len N) ca) N) (h1 : len N ≤ 64) (h0 : N ≠ 0) (hb : ¬ len N ≤ 32) :
  Calls Tryz.prog 104 #[.agg #[.slice ao (len N) ca]] w fun e w' => e = .returned (.bool false) ∧ Below w.heap.size w w' := by
 have hb1 : 1 ≤ bl N := bl_pos h0
 have hb2 : ¬ bl N ≤ 1024 := fun h => hb (len_le_bits.1 h)
 have CV := Zh (fun W ha => @validN (.slice ao (len N) ca) N W h1 ha)
 have CB := Zh (fun W ha => @bitsF (.slice ao (len N) ca) N W _ rfl h1 ha)
 clear h1 hb
 clear h0
 generalize bl N = n at *
 have t1 : decide (1 ≤ (n : Int)) = true := decide_eq_true (by omega)
 have t2 : decide ((n : Int) ≤ 1024) = false := decide_eq_false (by omega)
 have E0 := Zh ((EnvB.start w).numN ha)
 clear ha
 go_enter Tryz.func104, Tryz.ntmps104
 go_wp2_with fail
 have E1 := Zh ((E0.out.push (.slice ao (len N) ca) 24 ⟨_, _, _, rfl⟩ (w.heap.size) (by simp)))
 refine (CV.out _ (E1.out.nt 0 rfl)).mono ?_
 rintro e w1 ⟨rfl, hb⟩
 have E2 := Zh ((E1.out.below hb))
 clear E1 E0 hb
 obtain ⟨p1, f1, -, -, -⟩ := E2.out.box 0 rfl
 go_wp2_with fail
 refine (CB.out _ (E2.out.nt 0 rfl)).mono ?_
 rintro e w2 ⟨rfl, hb⟩
 have E3 := Zh ((E2.out.below hb))
 clear p1 f1 E2 hb
 obtain ⟨p2, f2, -, -, -⟩ := E3.out.box 0 rfl
 go_wp2_with fail
 refine (CB.out _ (E3.out.nt 0 rfl)).mono ?_
 rintro e w3 ⟨rfl, hb⟩
 have E4 := Zh ((E3.out.below hb))
 clear p2 f2 E3 hb
 have hfin := Zh E4.out.1
 go_wp2
 go_ret
 exact ⟨rfl, hfin.out⟩
set_option maxRecDepth 100000 in
set_option maxHeartbeats 1000000 in
theorem modulus_yes (ao : Option Addr) (ca : Nat) (N : Nat)  (w : World) (ha : Nt w (.slice ao (len N) ca) N) (h1 : len N ≤ 64) (h0 : N ≠ 0) (hb : len N ≤ 32) :
  Calls Tryz.prog 104 #[.agg #[.slice ao (len N) ca]] w fun e w' => e = .returned (.bool true) ∧ Below w.heap.size w w' := by
 have hb1 : 1 ≤ bl N := bl_pos h0
 have hb2 : bl N ≤ 1024 := len_le_bits.2 hb
 have CV := Zh (fun W ha => @validN (.slice ao (len N) ca) N W h1 ha)
 have CB := Zh (fun W ha => @bitsF (.slice ao (len N) ca) N W _ rfl h1 ha)
 clear h1 hb
 clear h0
 generalize bl N = n at *
 have t1 : decide (1 ≤ (n : Int)) = true := decide_eq_true (by omega)
 have t2 : decide ((n : Int) ≤ 1024) = true := decide_eq_true (by omega)
 have E0 := Zh ((EnvB.start w).numN ha)
 clear ha
 go_enter Tryz.func104, Tryz.ntmps104
 go_wp2_with fail
 have E1 := Zh ((E0.out.push (.slice ao (len N) ca) 24 ⟨_, _, _, rfl⟩ (w.heap.size) (by simp)))
 refine (CV.out _ (E1.out.nt 0 rfl)).mono ?_
 rintro e w1 ⟨rfl, hb⟩
 have E2 := Zh ((E1.out.below hb))
 clear E1 E0 hb
 obtain ⟨p1, f1, -, -, -⟩ := E2.out.box 0 rfl
 go_wp2_with fail
 refine (CB.out _ (E2.out.nt 0 rfl)).mono ?_
 rintro e w2 ⟨rfl, hb⟩
 have E3 := Zh ((E2.out.below hb))
 clear p1 f1 E2 hb
 obtain ⟨p2, f2, -, -, -⟩ := E3.out.box 0 rfl
 go_wp2_with fail
 refine (CB.out _ (E3.out.nt 0 rfl)).mono ?_
 rintro e w3 ⟨rfl, hb⟩
 have E4 := Zh ((E3.out.below hb))
 clear p2 f2 E3 hb
 have hfin := Zh E4.out.1
 go_wp2
 go_ret
 exact ⟨rfl, hfin.out⟩
/-- the words are those of a modulus: a number from 1 on, of at most 32 words -/
def mdl (l : List Nat) : Bool := vld l && (decide (1 ≤ l.length) && decide (l.length ≤ 32))
theorem nt_of {w : World} {v : Value} {l : List Nat} (h : Sl w v l) (hv : vld l = true) : ∃ N, l = digs N ∧ len N ≤ 64 ∧ Nt w v N := by
 have h2 : l.length ≤ 64 ∧ (l = [] ∨ l.getD (l.length - 1) 0 ≠ 0) := of_decide_eq_true hv
 have hw : words l := by obtain ⟨_, _, _, _, _, hw, _⟩ := h; exact hw
 have hd := digs_val hw h2.2
 refine ⟨val l, hd.symm, ?_, ?_⟩
 ·rw [len_of_normal hw h2.2]; exact h2.1
 ·unfold Nt; rw [hd]; exact h
theorem mdl_digs {N : Nat} : mdl (digs N) = true ↔ N ≠ 0 ∧ len N ≤ 32 := by
 unfold mdl
 rw [vld_digs, show (digs N).length = len N from rfl]
 simp only [Bool.and_eq_true, decide_eq_true_eq]
 have : len N = 0 ↔ N = 0 := len_eq_zero
 omega
theorem modulus_c {v : Value} {l : List Nat} {t : Bool} {w : World} (ht : mdl l = t) (h : Sl w v l) :
  Calls Tryz.prog 104 #[.agg #[v]] w fun e w' => e = .returned (.bool t) ∧ Below w.heap.size w w' := by
 subst ht
 by_cases hv : vld l = true
 ·obtain ⟨N, rfl, h1, hN⟩ := nt_of h hv
  obtain ⟨ao, ca, rfl, _⟩ := hN.open
  by_cases h0 : N = 0
  ·have e : mdl (digs N) = false := by
    cases e : mdl (digs N)
    ·rfl
    ·exact absurd h0 (mdl_digs.1 e).1
   rw [e]; exact modulus_zero ao ca N w hN h1 h0
  ·by_cases hb : len N ≤ 32
   ·rw [mdl_digs.2 ⟨h0, hb⟩]; exact modulus_yes ao ca N w hN h1 h0 hb
   ·have e : mdl (digs N) = false := by
     cases e : mdl (digs N)
     ·rfl
     ·exact absurd (mdl_digs.1 e).2 hb
    rw [e]; exact modulus_big ao ca N w hN h1 h0 hb
 ·have hf : vld l = false := by simpa using hv
  obtain ⟨ao, ca, rfl, _⟩ := h.open
  have e : mdl l = false := by unfold mdl; rw [hf]; rfl
  rw [e]; exact modulus_bad ao ca l w h hf
set_option maxRecDepth 100000 in
set_option maxHeartbeats 1000000 in
theorem mul_w (ao : Option Addr) (ca : Nat) (bo : Option Addr) (cb : Nat) (co : Option Addr) (cc : Nat) (N M K : Nat) (S r : Nat) (w : World) (ha : Nt w (.slice ao (len N) ca) N) (hb : Nt w (.slice bo (len M) cb) M) (hc : Nt w (.slice co (len K) cc) K) (hS : N * M = S) (hr : S % K = r) (hn : N < K) (hm : M < K) (hk : len K ≤ 32) :
  Calls Tryz.prog 73 #[.agg #[.slice ao (len N) ca], .agg #[.slice bo (len M) cb], .agg #[.slice co (len K) cc]] w fun e w' => RetV r e w' ∧ Below w.heap.size w w' := by
 have k1 := len_le_of_lt hn hk
 have k2 := len_le_of_lt hm hk
 have k3 : len S ≤ 64 := by rw [← hS]; exact len_mul_le k1 k2 (by omega)
 have CA := Zh (fun W ha hb => @mulF (.slice ao (len N) ca) (.slice bo (len M) cb) N M S W hS k3 ha hb (by omega) (by omega))
 have CR := Zh (fun (v : Value) W ha hb => @rest_c v (.slice co (len K) cc) S K r W hr k3 (by omega) (by omega) ha hb)
 clear hS hr hn hm hk k1 k2 k3
 have E0 := Zh ((((EnvB.start w).numN ha).numN hb).numN hc)
 clear ha hb hc
 go_enter Tryz.func73, Tryz.ntmps73
 go_wp2_with fail
 have E1 := Zh (((((E0.out.push (.slice ao (len N) ca) 24 ⟨_, _, _, rfl⟩ (w.heap.size) (by simp)).push (.slice bo (len M) cb) 24 ⟨_, _, _, rfl⟩ (w.heap.size + 1) (by simp)).push (.slice co (len K) cc) 24 ⟨_, _, _, rfl⟩ (w.heap.size + 1 + 1) (by simp)).push (.slice none 0 0) 24 ⟨_, _, _, rfl⟩ (w.heap.size + 1 + 1 + 1) (by simp)))
 refine (CA.out _ (E1.out.nt 2 rfl) (E1.out.nt 1 rfl)).mono ?_
 rintro e w1 ⟨⟨sa, sk, rfl, hs⟩, hb⟩
 have E2 := Zh (((E1.out.below hb).numN (hs.out : Nt _ _ S)))
 clear E1 E0 hb hs
 have E3 := Zh ((E2.out.push (.slice sa (len S) sk) 24 ⟨_, _, _, rfl⟩ (w1.heap.size) (by simp)))
 obtain ⟨p1, f1, -, -, -⟩ := E3.out.box 2 rfl
 go_wp2_with fail
 refine (CR.out _ _ (E3.out.nt 0 rfl) (E3.out.nt 1 rfl)).mono ?_
 rintro e w2 ⟨⟨ra, rk, rfl, hr⟩, hb⟩
 have E4 := Zh (((E3.out.below hb).numN (hr.out : Nt _ _ r)))
 clear p1 f1 E3 E2 hb hr
 obtain ⟨p2, f2, -, -, -⟩ := E4.out.box 1 rfl
 have E5 : Hid (EnvB w [(w1.heap.size, .slice sa (len S) sk), (w.heap.size + 1 + 1 + 1, .slice ra (len r) rk), (w.heap.size + 1 + 1, .slice co (len K) cc), (w.heap.size + 1, .slice bo (len M) cb), (w.heap.size, .slice ao (len N) ca)] [(.slice ra (len r) rk, digs r), (.slice sa (len S) sk, digs S), (.slice co (len K) cc, digs K), (.slice bo (len M) cb, digs M), (.slice ao (len N) ca, digs N)] _) := Zh ((E4.out.set 1 (.slice ra (len r) rk) rfl ⟨_, _, _, rfl⟩))
 have hfin := Zh E5.out
 obtain ⟨rc, -, -, -, -⟩ := E5.out.box 1 rfl
 go_wp2
 exact bodyPost_ret (v := .agg #[.slice ra (len r) rk]) (by simp [results, Tryz.results73, go_sem, rc]) rfl ⟨⟨_, _, rfl, Zh (hfin.out.nt 0 rfl)⟩, hfin.out.1⟩
set_option maxRecDepth 100000 in
set_option maxHeartbeats 1000000 in
theorem sub_lt (ao : Option Addr) (ca : Nat) (bo : Option Addr) (cb : Nat) (co : Option Addr) (cc : Nat) (N M K : Nat)  (w : World) (ha : Nt w (.slice ao (len N) ca) N) (hb : Nt w (.slice bo (len M) cb) M) (hc : Nt w (.slice co (len K) cc) K) (hn : N < K) (hm : M < K) (hk : len K ≤ 32) (hlt : N < M) :
  Calls Tryz.prog 108 #[.agg #[.slice ao (len N) ca], .agg #[.slice bo (len M) cb], .agg #[.slice co (len K) cc]] w fun e w' => RetV (N + K - M) e w' ∧ Below w.heap.size w w' := by
 have k1 := len_le_of_lt hn hk
 have k2 := len_le_of_lt hm hk
 have k3 : len (N + K) ≤ 64 := len_add_le k1 hk (by omega)
 have ht : decide (N < M) = true := decide_eq_true hlt
 have CA := Zh (fun W ha hb => @addF (.slice ao (len N) ca) (.slice co (len K) cc) N K _ W rfl k3 ha hb (by omega) (by omega))
 have CS := Zh (fun (v : Value) W ha hb => @subF v (.slice bo (len M) cb) (N + K) M _ W rfl (by omega) ha hb k3 (by omega))
 have CL := Zh (fun W ha hb => @less_c (.slice ao (len N) ca) (.slice bo (len M) cb) N M _ W ht (by omega) (by omega) ha hb)
 clear ht hn hm hk hlt k1 k2 k3
 have E0 := Zh ((((EnvB.start w).numN ha).numN hb).numN hc)
 clear ha hb hc
 go_enter Tryz.func108, Tryz.ntmps108
 go_wp2_with fail
 have E1 := Zh (((((E0.out.push (.slice ao (len N) ca) 24 ⟨_, _, _, rfl⟩ (w.heap.size) (by simp)).push (.slice bo (len M) cb) 24 ⟨_, _, _, rfl⟩ (w.heap.size + 1) (by simp)).push (.slice co (len K) cc) 24 ⟨_, _, _, rfl⟩ (w.heap.size + 1 + 1) (by simp)).push (.slice none 0 0) 24 ⟨_, _, _, rfl⟩ (w.heap.size + 1 + 1 + 1) (by simp)))
 refine (CL.out _ (E1.out.nt 2 rfl) (E1.out.nt 1 rfl)).mono ?_
 rintro e w1 ⟨rfl, hb⟩
 have E2 := Zh ((E1.out.below hb))
 clear E1 E0 hb
 obtain ⟨p1, f1, -, -, -⟩ := E2.out.box 3 rfl
 obtain ⟨p2, f2, -, -, -⟩ := E2.out.box 1 rfl
 go_wp2_with fail
 refine (CA.out _ (E2.out.nt 2 rfl) (E2.out.nt 0 rfl)).mono ?_
 rintro e w2 ⟨⟨sa, sk, rfl, hs⟩, hb⟩
 have E3 := Zh (((E2.out.below hb).numN (hs.out : Nt _ _ (N + K))))
 clear p1 f1 p2 f2 E2 hb hs
 obtain ⟨p3, f3, -, -, -⟩ := E3.out.box 3 rfl
 have E4 : Hid (EnvB w [(w.heap.size + 1 + 1 + 1, .slice none 0 0), (w.heap.size + 1 + 1, .slice co (len K) cc), (w.heap.size + 1, .slice bo (len M) cb), (w.heap.size, .slice sa (len (N + K)) sk)] [(.slice sa (len (N + K)) sk, digs (N + K)), (.slice co (len K) cc, digs K), (.slice bo (len M) cb, digs M), (.slice ao (len N) ca, digs N)] _) := Zh ((E3.out.set 3 (.slice sa (len (N + K)) sk) rfl ⟨_, _, _, rfl⟩))
 obtain ⟨p4, f4, -, -, -⟩ := E4.out.box 3 rfl
 obtain ⟨p5, f5, -, -, -⟩ := E4.out.box 2 rfl
 go_wp2_with fail
 refine (CS.out _ _ (E4.out.nt 0 rfl) (E4.out.nt 2 rfl)).mono ?_
 rintro e w3 ⟨⟨da, dk, rfl, hd⟩, hb⟩
 have E5 := Zh (((E4.out.below hb).numN (hd.out : Nt _ _ (N + K - M))))
 clear p3 f3 p4 f4 p5 f5 E4 E3 hb hd
 have E6 := Zh ((E5.out.push (.slice da (len (N + K - M)) dk) 24 ⟨_, _, _, rfl⟩ (w3.heap.size) (by simp)))
 obtain ⟨p6, f6, -, -, -⟩ := E6.out.box 1 rfl
 have E7 : Hid (EnvB w [(w3.heap.size, .slice da (len (N + K - M)) dk), (w.heap.size + 1 + 1 + 1, .slice da (len (N + K - M)) dk), (w.heap.size + 1 + 1, .slice co (len K) cc), (w.heap.size + 1, .slice bo (len M) cb), (w.heap.size, .slice sa (len (N + K)) sk)] [(.slice da (len (N + K - M)) dk, digs (N + K - M)), (.slice sa (len (N + K)) sk, digs (N + K)), (.slice co (len K) cc, digs K), (.slice bo (len M) cb, digs M), (.slice ao (len N) ca, digs N)] _) := Zh ((E6.out.set 1 (.slice da (len (N + K - M)) dk) rfl ⟨_, _, _, rfl⟩))
 have hfin := Zh E7.out
 obtain ⟨rc, -, -, -, -⟩ := E7.out.box 1 rfl
 go_wp2
 exact bodyPost_ret (v := .agg #[.slice da (len (N + K - M)) dk]) (by simp [results, Tryz.results108, go_sem, rc]) rfl ⟨⟨_, _, rfl, Zh (hfin.out.nt 0 rfl)⟩, hfin.out.1⟩
set_option maxRecDepth 100000 in
set_option maxHeartbeats 1000000 in
theorem sub_ge (ao : Option Addr) (ca : Nat) (bo : Option Addr) (cb : Nat) (co : Option Addr) (cc : Nat) (N M K : Nat)  (w : World) (ha : Nt w (.slice ao (len N) ca) N) (hb : Nt w (.slice bo (len M) cb) M) (hc : Nt w (.slice co (len K) cc) K) (hn : N < K) (hm : M < K) (hk : len K ≤ 32) (hlt : ¬ N < M) :
  Calls Tryz.prog 108 #[.agg #[.slice ao (len N) ca], .agg #[.slice bo (len M) cb], .agg #[.slice co (len K) cc]] w fun e w' => RetV (N - M) e w' ∧ Below w.heap.size w w' := by
 have k1 := len_le_of_lt hn hk
 have k2 := len_le_of_lt hm hk
 have k3 : len (N + K) ≤ 64 := len_add_le k1 hk (by omega)
 have ht : decide (N < M) = false := decide_eq_false hlt
 have CS := Zh (fun (v : Value) W ha hb => @subF v (.slice bo (len M) cb) N M _ W rfl (by omega) ha hb (by omega) (by omega))
 have CL := Zh (fun W ha hb => @less_c (.slice ao (len N) ca) (.slice bo (len M) cb) N M _ W ht (by omega) (by omega) ha hb)
 clear ht hn hm hk hlt k1 k2 k3
 have E0 := Zh ((((EnvB.start w).numN ha).numN hb).numN hc)
 clear ha hb hc
 go_enter Tryz.func108, Tryz.ntmps108
 go_wp2_with fail
 have E1 := Zh (((((E0.out.push (.slice ao (len N) ca) 24 ⟨_, _, _, rfl⟩ (w.heap.size) (by simp)).push (.slice bo (len M) cb) 24 ⟨_, _, _, rfl⟩ (w.heap.size + 1) (by simp)).push (.slice co (len K) cc) 24 ⟨_, _, _, rfl⟩ (w.heap.size + 1 + 1) (by simp)).push (.slice none 0 0) 24 ⟨_, _, _, rfl⟩ (w.heap.size + 1 + 1 + 1) (by simp)))
 refine (CL.out _ (E1.out.nt 2 rfl) (E1.out.nt 1 rfl)).mono ?_
 rintro e w1 ⟨rfl, hb⟩
 have E2 := Zh ((E1.out.below hb))
 clear E1 E0 hb
 obtain ⟨p1, f1, -, -, -⟩ := E2.out.box 3 rfl
 obtain ⟨p2, f2, -, -, -⟩ := E2.out.box 2 rfl
 go_wp2_with fail
 refine (CS.out _ _ (E2.out.nt 2 rfl) (E2.out.nt 1 rfl)).mono ?_
 rintro e w2 ⟨⟨da, dk, rfl, hd⟩, hb⟩
 have E3 := Zh (((E2.out.below hb).numN (hd.out : Nt _ _ (N - M))))
 clear p1 f1 p2 f2 E2 hb hd
 have E4 := Zh ((E3.out.push (.slice da (len (N - M)) dk) 24 ⟨_, _, _, rfl⟩ (w2.heap.size) (by simp)))
 obtain ⟨p3, f3, -, -, -⟩ := E4.out.box 1 rfl
 have E5 : Hid (EnvB w [(w2.heap.size, .slice da (len (N - M)) dk), (w.heap.size + 1 + 1 + 1, .slice da (len (N - M)) dk), (w.heap.size + 1 + 1, .slice co (len K) cc), (w.heap.size + 1, .slice bo (len M) cb), (w.heap.size, .slice ao (len N) ca)] [(.slice da (len (N - M)) dk, digs (N - M)), (.slice co (len K) cc, digs K), (.slice bo (len M) cb, digs M), (.slice ao (len N) ca, digs N)] _) := Zh ((E4.out.set 1 (.slice da (len (N - M)) dk) rfl ⟨_, _, _, rfl⟩))
 have hfin := Zh E5.out
 obtain ⟨rc, -, -, -, -⟩ := E5.out.box 1 rfl
 go_wp2
 exact bodyPost_ret (v := .agg #[.slice da (len (N - M)) dk]) (by simp [results, Tryz.results108, go_sem, rc]) rfl ⟨⟨_, _, rfl, Zh (hfin.out.nt 0 rfl)⟩, hfin.out.1⟩
theorem mul_c {a b c : Value} {N M K r : Nat} {w : World} (hr : N * M % K = r) (hn : N < K) (hm : M < K) (hk : len K ≤ 32) (ha : Nt w a N) (hb : Nt w b M) (hc : Nt w c K) :
  Calls Tryz.prog 73 #[.agg #[a], .agg #[b], .agg #[c]] w fun e w' => RetV r e w' ∧ Below w.heap.size w w' := by
 obtain ⟨ao, ca, rfl, _⟩ := ha.open
 obtain ⟨bo, cb, rfl, _⟩ := hb.open
 obtain ⟨co, cc, rfl, _⟩ := hc.open
 exact mul_w ao ca bo cb co cc N M K _ r w ha hb hc rfl hr hn hm hk
theorem sub_c {a b c : Value} {N M K r : Nat} {w : World} (hr : subm N M K = r) (hn : N < K) (hm : M < K) (hk : len K ≤ 32) (ha : Nt w a N) (hb : Nt w b M) (hc : Nt w c K) :
  Calls Tryz.prog 108 #[.agg #[a], .agg #[b], .agg #[c]] w fun e w' => RetV r e w' ∧ Below w.heap.size w w' := by
 obtain ⟨ao, ca, rfl, _⟩ := ha.open
 obtain ⟨bo, cb, rfl, _⟩ := hb.open
 obtain ⟨co, cc, rfl, _⟩ := hc.open
 subst hr
 unfold subm
 split
 ·exact sub_lt ao ca bo cb co cc N M K w ha hb hc hn hm hk (by assumption)
 ·exact sub_ge ao ca bo cb co cc N M K w ha hb hc hn hm hk (by assumption)
end Nn
namespace Nn
open Go.RowKit NatMath
set_option maxRecDepth 100000 in
set_option maxHeartbeats 1000000 in
theorem given_w (ao : Option Addr) (ca : Nat) (bo : Option Addr) (cb : Nat) (co : Option Addr) (cc : Nat) (N M K : Nat)  (w : World) (ha : Nt w (.slice ao (len N) ca) N) (hb : Nt w (.slice bo (len M) cb) M) (hc : Nt w (.slice co (len K) cc) K) (hn : N < K) (hm : M < K) (hk : len K ≤ 32) :
  Calls Tryz.prog 70 #[.agg #[.slice ao (len N) ca], .agg #[.slice bo (len M) cb], .agg #[.slice co (len K) cc]] w fun e w' => e = .returned (.int .i64 0) ∧ Below w.heap.size w w' := by
 have k1 := len_le_of_lt hn hk
 have k2 := len_le_of_lt hm hk
 have CV1 := Zh (fun W ha => @validN (.slice ao (len N) ca) N W (by omega) ha)
 have CV2 := Zh (fun W ha => @validN (.slice bo (len M) cb) M W (by omega) ha)
 have CM := Zh (fun W ha => @modulus_c (.slice co (len K) cc) (digs K) true W (mdl_digs.2 ⟨by omega, hk⟩) ha)
 have CL1 := Zh (fun W ha hb => @less_c (.slice ao (len N) ca) (.slice co (len K) cc) N K true W (decide_eq_true hn) (by omega) (by omega) ha hb)
 have CL2 := Zh (fun W ha hb => @less_c (.slice bo (len M) cb) (.slice co (len K) cc) M K true W (decide_eq_true hm) (by omega) (by omega) ha hb)
 clear hn hm hk k1 k2
 have E0 := Zh ((((EnvB.start w).numN ha).numN hb).numN hc)
 clear ha hb hc
 go_enter Tryz.func70, Tryz.ntmps70
 go_wp2_with fail
 have E1 := Zh ((((E0.out.push (.slice ao (len N) ca) 24 ⟨_, _, _, rfl⟩ (w.heap.size) (by simp)).push (.slice bo (len M) cb) 24 ⟨_, _, _, rfl⟩ (w.heap.size + 1) (by simp)).push (.slice co (len K) cc) 24 ⟨_, _, _, rfl⟩ (w.heap.size + 1 + 1) (by simp)))
 refine (CV1.out _ (E1.out.nt 2 rfl)).mono ?_
 rintro e w1 ⟨rfl, hb⟩
 have E2 := Zh ((E1.out.below hb))
 clear E1 E0 hb
 obtain ⟨p1, f1, -, -, -⟩ := E2.out.box 1 rfl
 go_wp2_with fail
 refine (CV2.out _ (E2.out.nt 1 rfl)).mono ?_
 rintro e w2 ⟨rfl, hb⟩
 have E3 := Zh ((E2.out.below hb))
 clear p1 f1 E2 hb
 obtain ⟨p2, f2, -, -, -⟩ := E3.out.box 0 rfl
 go_wp2_with fail
 refine (CM.out _ (E3.out.nt 0 rfl)).mono ?_
 rintro e w3 ⟨rfl, hb⟩
 have E4 := Zh ((E3.out.below hb))
 clear p2 f2 E3 hb
 obtain ⟨p3, f3, -, -, -⟩ := E4.out.box 2 rfl
 obtain ⟨p4, f4, -, -, -⟩ := E4.out.box 0 rfl
 go_wp2_with fail
 refine (CL1.out _ (E4.out.nt 2 rfl) (E4.out.nt 0 rfl)).mono ?_
 rintro e w4 ⟨rfl, hb⟩
 have E5 := Zh ((E4.out.below hb))
 clear p3 f3 p4 f4 E4 hb
 obtain ⟨p5, f5, -, -, -⟩ := E5.out.box 1 rfl
 obtain ⟨p6, f6, -, -, -⟩ := E5.out.box 0 rfl
 go_wp2_with fail
 refine (CL2.out _ (E5.out.nt 1 rfl) (E5.out.nt 0 rfl)).mono ?_
 rintro e w5 ⟨rfl, hb⟩
 have E6 := Zh ((E5.out.below hb))
 clear p5 f5 p6 f6 E5 hb
 have hfin := Zh E6.out.1
 go_wp2
 go_ret
 exact ⟨rfl, hfin.out⟩
section
variable {a b c : Value} {N M K r : Nat} {la lb lc : List Nat} {w : World}
theorem given_ok (hn : N < K) (hm : M < K) (hk : len K ≤ 32) (ha : Nt w a N) (hb : Nt w b M) (hc : Nt w c K) :
  Calls Tryz.prog 70 #[.agg #[a], .agg #[b], .agg #[c]] w fun e w' => e = .returned (.int .i64 0) ∧ Below w.heap.size w w' := by
 obtain ⟨ao, ca, rfl, _⟩ := ha.open
 obtain ⟨bo, cb, rfl, _⟩ := hb.open
 obtain ⟨co, cc, rfl, _⟩ := hc.open
 exact given_w ao ca bo cb co cc N M K w ha hb hc hn hm hk
end
set_option maxRecDepth 100000 in
set_option maxHeartbeats 1000000 in
theorem operate_mul (ao : Option Addr) (ca : Nat) (bo : Option Addr) (cb : Nat) (co : Option Addr) (cc : Nat) (N M K : Nat) (r : Nat) (w : World) (ha : Nt w (.slice ao (len N) ca) N) (hb : Nt w (.slice bo (len M) cb) M) (hc : Nt w (.slice co (len K) cc) K) (hr : N * M % K = r) (hn : N < K) (hm : M < K) (hk : len K ≤ 32) :
  Calls Tryz.prog 76 #[.agg #[.slice ao (len N) ca], .agg #[.slice bo (len M) cb], .agg #[.slice co (len K) cc], .func (.func 73) #[] #[]] w fun e w' => ResN r 0 e w' ∧ Below w.heap.size w w' := by
 have CG := Zh (fun W ha hb hc => @given_ok (.slice ao (len N) ca) (.slice bo (len M) cb) (.slice co (len K) cc) N M K W hn hm hk ha hb hc)
 have CO := Zh (fun W ha hb hc => @mul_c (.slice ao (len N) ca) (.slice bo (len M) cb) (.slice co (len K) cc) N M K r W hr hn hm hk ha hb hc)
 clear hr hn hm hk
 have E0 := Zh ((((EnvB.start w).numN ha).numN hb).numN hc)
 clear ha hb hc
 go_enter Tryz.func76, Tryz.ntmps76
 go_wp2_with fail
 have E1 := Zh (((((E0.out.push (.slice ao (len N) ca) 24 ⟨_, _, _, rfl⟩ (w.heap.size) (by simp)).push (.slice bo (len M) cb) 24 ⟨_, _, _, rfl⟩ (w.heap.size + 1) (by simp)).push (.slice co (len K) cc) 24 ⟨_, _, _, rfl⟩ (w.heap.size + 1 + 1) (by simp)).push (.slice none 0 0) 24 ⟨_, _, _, rfl⟩ (w.heap.size + 1 + 1 + 1) (by simp)))
 refine (CG.out _ (E1.out.nt 2 rfl) (E1.out.nt 1 rfl) (E1.out.nt 0 rfl)).mono ?_
 rintro e w1 ⟨rfl, hb⟩
 have E2 := Zh ((E1.out.below hb))
 clear E1 E0 hb
 obtain ⟨p1, f1, -, -, -⟩ := E2.out.box 3 rfl
 obtain ⟨p2, f2, -, -, -⟩ := E2.out.box 2 rfl
 obtain ⟨p3, f3, -, -, -⟩ := E2.out.box 1 rfl
 go_wp2_with fail
 refine (CO.out _ (E2.out.nt 2 rfl) (E2.out.nt 1 rfl) (E2.out.nt 0 rfl)).mono ?_
 rintro e w2 ⟨⟨ra, rk, rfl, hr⟩, hb⟩
 have E3 := Zh (((E2.out.below hb).numN (hr.out : Nt _ _ r)))
 clear p1 f1 p2 f2 p3 f3 E2 hb hr
 obtain ⟨p4, f4, -, -, -⟩ := E3.out.box 0 rfl
 have E4 : Hid (EnvB w [(w.heap.size + 1 + 1 + 1, .slice ra (len r) rk), (w.heap.size + 1 + 1, .slice co (len K) cc), (w.heap.size + 1, .slice bo (len M) cb), (w.heap.size, .slice ao (len N) ca)] [(.slice ra (len r) rk, digs r), (.slice co (len K) cc, digs K), (.slice bo (len M) cb, digs M), (.slice ao (len N) ca, digs N)] _) := Zh ((E3.out.set 0 (.slice ra (len r) rk) rfl ⟨_, _, _, rfl⟩))
 have hfin := Zh E4.out
 obtain ⟨rc, -, -, -, -⟩ := E4.out.box 0 rfl
 go_wp2
 exact bodyPost_ret (v := .tuple #[.agg #[.slice ra (len r) rk], .int .i64 0]) (by simp [results, Tryz.results76, go_sem, rc]) rfl ⟨⟨_, _, rfl, Zh (hfin.out.nt 0 rfl)⟩, hfin.out.1⟩
set_option maxRecDepth 100000 in
set_option maxHeartbeats 1000000 in
theorem Mul_w (ao : Option Addr) (ca : Nat) (bo : Option Addr) (cb : Nat) (co : Option Addr) (cc : Nat) (N M K : Nat) (r : Nat) (w : World) (ha : Nt w (.slice ao (len N) ca) N) (hb : Nt w (.slice bo (len M) cb) M) (hc : Nt w (.slice co (len K) cc) K) (hr : N * M % K = r) (hn : N < K) (hm : M < K) (hk : len K ≤ 32) :
  Calls Tryz.prog 38 #[.agg #[.slice ao (len N) ca], .agg #[.slice bo (len M) cb], .agg #[.slice co (len K) cc]] w fun e w' => ResN r 0 e w' ∧ Below w.heap.size w w' := by
 have CO := Zh (fun W ha hb hc => operate_mul ao ca bo cb co cc N M K r W ha hb hc hr hn hm hk)
 clear hr hn hm hk
 have E0 := Zh ((((EnvB.start w).numN ha).numN hb).numN hc)
 clear ha hb hc
 go_enter Tryz.func38, Tryz.ntmps38
 go_wp2_with fail
 have E1 := Zh (((((E0.out.push (.slice ao (len N) ca) 24 ⟨_, _, _, rfl⟩ (w.heap.size) (by simp)).push (.slice bo (len M) cb) 24 ⟨_, _, _, rfl⟩ (w.heap.size + 1) (by simp)).push (.slice co (len K) cc) 24 ⟨_, _, _, rfl⟩ (w.heap.size + 1 + 1) (by simp)).push (.slice none 0 0) 24 ⟨_, _, _, rfl⟩ (w.heap.size + 1 + 1 + 1) (by simp)))
 refine (CO.out _ (E1.out.nt 2 rfl) (E1.out.nt 1 rfl) (E1.out.nt 0 rfl)).mono ?_
 rintro e w1 ⟨⟨ra, rk, rfl, hr⟩, hb⟩
 have E2 := Zh (((E1.out.below hb).numN (hr.out : Nt _ _ r)))
 clear E1 E0 hb hr
 obtain ⟨p1, f1, -, -, -⟩ := E2.out.box 0 rfl
 have E3 : Hid (EnvB w [(w.heap.size + 1 + 1 + 1, .slice ra (len r) rk), (w.heap.size + 1 + 1, .slice co (len K) cc), (w.heap.size + 1, .slice bo (len M) cb), (w.heap.size, .slice ao (len N) ca)] [(.slice ra (len r) rk, digs r), (.slice co (len K) cc, digs K), (.slice bo (len M) cb, digs M), (.slice ao (len N) ca, digs N)] _) := Zh ((E2.out.set 0 (.slice ra (len r) rk) rfl ⟨_, _, _, rfl⟩))
 have hfin := Zh E3.out
 obtain ⟨rc, -, -, -, -⟩ := E3.out.box 0 rfl
 go_wp2
 exact bodyPost_ret (v := .tuple #[.agg #[.slice ra (len r) rk], .int .i64 0]) (by simp [results, Tryz.results38, go_sem, rc]) rfl ⟨⟨_, _, rfl, Zh (hfin.out.nt 0 rfl)⟩, hfin.out.1⟩
theorem Mul_m {a b c : Value} {N M K r : Nat} {w : World} (hr : N * M % K = r) (hn : N < K) (hm : M < K) (hk : len K ≤ 32) (ha : Nt w a N) (hb : Nt w b M) (hc : Nt w c K) :
  Calls Tryz.prog 38 #[.agg #[a], .agg #[b], .agg #[c]] w fun e w' => ResN r 0 e w' ∧ Below w.heap.size w w' := by
 obtain ⟨ao, ca, rfl, _⟩ := ha.open
 obtain ⟨bo, cb, rfl, _⟩ := hb.open
 obtain ⟨co, cc, rfl, _⟩ := hc.open
 exact Mul_w ao ca bo cb co cc N M K r w ha hb hc hr hn hm hk
end Nn
namespace Nn
open Go.RowKit NatMath
def PowI (N E K k P : Nat) (g : Nat) : Prop := g = k ∧ k ≤ bl E ∧ P = N ^ (E / 2 ^ k) % K
set_option maxRecDepth 100000 in
set_option maxHeartbeats 1000000 in
theorem Pow_w (ao : Option Addr) (ca : Nat) (bo : Option Addr) (cb : Nat) (co : Option Addr) (cc : Nat) (N E K : Nat)  (w : World) (ha : Nt w (.slice ao (len N) ca) N) (hb : Nt w (.slice bo (len E) cb) E) (hc : Nt w (.slice co (len K) cc) K) (he : len E ≤ 64) (hn : N < K) (hk : len K ≤ 32) :
  Calls Tryz.prog 36 #[.agg #[.slice ao (len N) ca], .agg #[.slice bo (len E) cb], .agg #[.slice co (len K) cc]] w fun e w' => ResN (N ^ E % K) 0 e w' ∧ Below w.heap.size w w' := by
 have hK0 : K ≠ 0 := by omega
 have CV := Zh (fun W ha => @validN (.slice bo (len E) cb) E W he ha)
 have CG := Zh (fun W ha hb hc => @given_ok (.slice ao (len N) ca) (.slice ao (len N) ca) (.slice co (len K) cc) N N K W hn hn hk ha hb hc)
 have CR := Zh (fun (u : Value) W ha hb => @rest_c u (.slice co (len K) cc) 1 K (1 % K) W rfl (by rw [len_one]; omega) (by omega) hK0 ha hb)
 have CB := Zh (fun W ha => @bitsF (.slice bo (len E) cb) E W (bl E) rfl he ha)
 have CT := Zh (fun (j : Nat) W (hj : (j : Int) ≤ 9223372036854775807) ha => Bit_c (.slice bo (len E) cb) E j W ha he hj)
 have CM := Zh (fun (u v : Value) (X Y : Nat) W hx hy ha hb hc => @mul_c u v (.slice co (len K) cc) X Y K (X * Y % K) W rfl hx hy hk ha hb hc)
 have hbe : bl E ≤ 2048 := len_le_bits.2 he
 have HS : Hid (PowI N E K (bl E) (1 % K) (bl E)) := Zh ⟨rfl, Nat.le_refl _, (powm_start N E K).symm⟩
 have HNK : Hid (N < K) := Zh hn
 have HBE : Hid (bl E ≤ 2048) := Zh hbe
 clear he hn hk hK0 hbe
 have E0 := Zh ((((EnvB.start w).numN ha).numN hb).numN hc)
 clear ha hb hc
 go_enter Tryz.func36, Tryz.ntmps36
 go_wp2_with fail
 have E1 := Zh (((((E0.out.push (.slice ao (len N) ca) 24 ⟨_, _, _, rfl⟩ (w.heap.size) (by simp)).push (.slice bo (len E) cb) 24 ⟨_, _, _, rfl⟩ (w.heap.size + 1) (by simp)).push (.slice co (len K) cc) 24 ⟨_, _, _, rfl⟩ (w.heap.size + 1 + 1) (by simp)).push (.slice none 0 0) 24 ⟨_, _, _, rfl⟩ (w.heap.size + 1 + 1 + 1) (by simp)))
 refine (CV.out _ (E1.out.nt 1 rfl)).mono ?_
 rintro e w1 ⟨rfl, hb⟩
 have E2 := Zh ((E1.out.below hb))
 clear E1 E0 hb
 obtain ⟨p1, f1, -, -, -⟩ := E2.out.box 3 rfl
 obtain ⟨p2, f2, -, -, -⟩ := E2.out.box 1 rfl
 go_wp2_with fail
 refine (CG.out _ (E2.out.nt 2 rfl) (E2.out.nt 2 rfl) (E2.out.nt 0 rfl)).mono ?_
 rintro e w2 ⟨rfl, hb⟩
 have E3 := Zh ((E2.out.below hb))
 clear p1 f1 p2 f2 E2 hb
 go_wp2_with fail
 have bx0 := Zh (E3.out.box 1 rfl)
 refine' wp_region_phase (by kernel_rfl) [0, 1, 2, 3] (by kernel_rfl) #[true, true, true, true, false] (by kernel_rfl) 1 (by kernel_rfl) [PNum (1), PEq (.agg #[.slice co (len K) cc]), PNum ((1 % K)), PBox w2.heap.size, Fact.none] (List.forall_mem_cons.2 ⟨PNum.st _, List.forall_mem_cons.2 ⟨PEq.st _, List.forall_mem_cons.2 ⟨PNum.st _, List.forall_mem_cons.2 ⟨PBox.st _, List.forall_mem_cons.2 ⟨Fact.none_st, List.forall_mem_nil _⟩⟩⟩⟩⟩) _ ?hFr2 ?stepr2 ?doner2
 case hFr2 => intro x; simp only [frameL, Act.put, List.setIfInBounds_toArray, List.set_cons_zero, List.set_cons_succ, Nat.zero_add, Nat.reduceAdd]; exact rfl
 case stepr2 =>
  refine List.forall_mem_cons.2 ⟨?_, ?_⟩
  ·intro xv bv ev WW hB hd
   refine op_of rfl ?_
   clear hd
   intro KK hKK
   go_simp
   refine (one_c _).mono ?_
   rintro e WW' ⟨⟨ia, ik, rfl, hi⟩, hb⟩
   (try dsimp only)
   (try simp only [Act.put, List.setIfInBounds_toArray, List.set_cons_zero, List.set_cons_succ])
   exact act_eq (hKK.out _ _ hb ⟨_, _, rfl, hi⟩) (by first | rfl | simp [upd])
  refine List.forall_mem_cons.2 ⟨?_, ?_⟩
  ·intro xv bv ev WW hB hd
   refine op_of rfl ?_
   clear hd
   intro KK hKK
   obtain ⟨z, -, -, -, -⟩ := bx0.out.below hB
   go_simp
   exact act_eq (hKK.out (.agg #[.slice co (len K) cc]) _ (Below.refl _ _) rfl) (by first | rfl | simp [upd])
  refine List.forall_mem_cons.2 ⟨?_, ?_⟩
  ·intro xv bv ev WW hB hd
   refine op_of rfl ?_
   obtain ⟨ia, ik, ed0, hi⟩ := (show (PNum (1)) (xv 0) (bv 0) (ev 0) WW from hd 0 (by kernel_rfl))
   have ed1 : xv 1 = .agg #[.slice co (len K) cc] := hd 1 (by kernel_rfl)
   clear hd
   intro KK hKK
   go_simp
   refine (CR.out _ _ hi.out ((E3.out.below hB).nt 0 rfl)).mono ?_
   rintro e WW' ⟨⟨za, zk, rfl, hz⟩, hb⟩
   (try dsimp only)
   (try simp only [Act.put, List.setIfInBounds_toArray, List.set_cons_zero, List.set_cons_succ])
   exact act_eq (hKK.out _ _ hb ⟨_, _, rfl, hz⟩) (by first | rfl | simp [upd, ed0, ed1])
  refine List.forall_mem_cons.2 ⟨?_, ?_⟩
  ·intro xv bv ev WW hB hd
   refine op_of rfl ?_
   clear hd
   intro KK hKK
   go_simp
   exact act_eq (hKK.out (.pointer (some ⟨WW.heap.size, 0, none⟩)) _ (below_one _ _) (PBox.mk hB rfl _)) (by first | rfl | simp [upd])
  exact List.forall_mem_nil _
 intro xv bv ev w3 hB hR hO
 obtain ⟨ia, ik, ed0, hi⟩ := (show (PNum (1)) (xv 0) (bv 0) (ev 0) w3 from hR 0 (by kernel_rfl))
 have ed1 : xv 1 = .agg #[.slice co (len K) cc] := hR 1 (by kernel_rfl)
 obtain ⟨za, zk, ed2, hz⟩ := (show (PNum ((1 % K))) (xv 2) (bv 2) (ev 2) w3 from hR 2 (by kernel_rfl))
 obtain ⟨gr2_3, ed3, hg3, hb3, he3, hc3, hf3, hs3⟩ := (show (PBox w2.heap.size) (xv 3) (bv 3) (ev 3) w3 from hR 3 (by kernel_rfl))
 simp only [ed0, ed1, ed2, ed3]
 have E4 := Zh (((((E3.out.below hB).add gr2_3 (.slice none 0 0) ⟨hc3, hf3, hs3, Nat.le_trans E3.out.size hg3, ⟨_, _, _, rfl⟩⟩ (fun p hp => by have := E3.out.old p hp; omega)).numN (hi.out : Nt _ _ (1))).numN (hz.out : Nt _ _ ((1 % K)))))
 clear E3 hB hR hO bx0 ed0 ed1 ed2 ed3 hi hz hg3 hb3 he3 hc3 hf3 hs3
 obtain ⟨p3, f3, -, -, -⟩ := E4.out.box 0 rfl
 refine wpAny_next (i := 4) (by kernel_rfl) rfl (fun KK hKK => ?_)
 go_simp
 have E5 : Hid (EnvB w [(gr2_3, .slice za (len (1 % K)) zk), (w.heap.size + 1 + 1 + 1, .slice none 0 0), (w.heap.size + 1 + 1, .slice co (len K) cc), (w.heap.size + 1, .slice bo (len E) cb), (w.heap.size, .slice ao (len N) ca)] [(.slice za (len (1 % K)) zk, digs (1 % K)), (.slice ia (len 1) ik, digs 1), (.slice co (len K) cc, digs K), (.slice bo (len E) cb, digs E), (.slice ao (len N) ca, digs N)] _) := Zh ((E4.out.set 0 (.slice za (len (1 % K)) zk) rfl ⟨_, _, _, rfl⟩))
 refine hKK.out _ _ ?_
 clear hKK KK
 refine wpAny_done (by kernel_rfl) ?_ _
 generalize hbl : bl E = n at CB
 have HBL := Zh hbl
 clear hbl
 have hn48 : (n : Int) ≤ 2048 := by have h1 := HBE.out; rw [HBL.out] at h1; omega
 have hn0 : 0 ≤ (n : Int) := by omega
 obtain ⟨p4, f4, -, -, -⟩ := E5.out.box 3 rfl
 go_wp2_with fail
 refine (CB.out _ (E5.out.nt 3 rfl)).mono ?_
 rintro e w4 ⟨rfl, hb⟩
 have E6 := Zh ((E5.out.below hb))
 clear p3 f3 p4 f4 E5 E4 hb
 go_wp2_with fail
 go_loopg [10] (n) (fun gk s10 wr => ∃ (k P : Nat) (po : Option Addr) (pc : Nat), s10 = .int .i64 ((k : Int) - 1) ∧ Hid (EnvB w [(gr2_3, .slice po (len P) pc), (w.heap.size + 1 + 1 + 1, .slice none 0 0), (w.heap.size + 1 + 1, .slice co (len K) cc), (w.heap.size + 1, .slice bo (len E) cb), (w.heap.size, .slice ao (len N) ca)] [(.slice po (len P) pc, digs P), (.slice co (len K) cc, digs K), (.slice bo (len E) cb, digs E), (.slice ao (len N) ca, digs N)] wr) ∧ Hid (PowI N E K k P gk))
 case atStart => exact ⟨n, 1 % K, za, zk, rfl, Zh ⟨E6.out.1, E6.out.2.1, ⟨E6.out.sl 0 rfl, ⟨E6.out.sl 2 rfl, ⟨E6.out.sl 3 rfl, ⟨E6.out.sl 4 rfl, trivial⟩⟩⟩⟩⟩, Zh (HBL.out ▸ HS.out)⟩
 case round =>
  clear E6 HS CB CG CV CR
  obtain ⟨k, P, po, pc, rfl, EL, HA⟩ := hrel
  obtain ⟨a1, a2, a3⟩ := HA.out
  clear HA
  by_cases hy : k = 0
  ·have t1 : decide (0 ≤ (k : Int) - 1) = false := decide_eq_false (by omega)
   have t2 : decide (1 ≤ (k : Int)) = false := decide_eq_false (by omega)
   have HP : Hid (P = N ^ E % K) := Zh (by rw [a3, hy, Nat.pow_zero, Nat.div_one])
   clear a1 a2 a3 hy HBE HNK CM CT
   obtain ⟨p5, f5, -, -, -⟩ := EL.out.box 0 rfl
   obtain ⟨p6, f6, -, -, -⟩ := EL.out.box 1 rfl
   have E7 : Hid (EnvB w [(gr2_3, .slice po (len P) pc), (w.heap.size + 1 + 1 + 1, .slice po (len P) pc), (w.heap.size + 1 + 1, .slice co (len K) cc), (w.heap.size + 1, .slice bo (len E) cb), (w.heap.size, .slice ao (len N) ca)] [(.slice po (len P) pc, digs P), (.slice co (len K) cc, digs K), (.slice bo (len E) cb, digs E), (.slice ao (len N) ca, digs N)] _) := Zh ((EL.out.set 1 (.slice po (len P) pc) rfl ⟨_, _, _, rfl⟩))
   have hfin := Zh E7.out
   obtain ⟨rc, -, -, -, -⟩ := E7.out.box 1 rfl
   go_wp2
   exact bodyPost_ret (v := .tuple #[.agg #[.slice po (len P) pc], .int .i64 0]) (by simp [results, Tryz.results36, go_sem, rc]) rfl ⟨HP.out ▸ ⟨_, _, rfl, Zh (hfin.out.nt 0 rfl)⟩, hfin.out.1⟩
  ·obtain ⟨j, rfl⟩ : ∃ j, k = j + 1 := ⟨k - 1, by omega⟩
   have ej : (((j + 1 : Nat) : Int) - 1) = (j : Int) := by omega
   rw [ej]
   have hj : (j : Int) ≤ 9223372036854775807 := by have := HBE.out; omega
   have t1 : decide (0 ≤ (j : Int)) = true := decide_eq_true (by omega)
   have hPK : P < K := by rw [a3]; exact Nat.mod_lt _ (by have := HNK.out; omega)
   have hQK : P * P % K < K := Nat.mod_lt _ (by omega)
   have hst := powm_step N E K j
   rw [← a3] at hst
   have CM1 := Zh (fun (u : Value) W ha hb hc => CM.out u u P P W hPK hPK ha hb hc)
   have CM2 := Zh (fun (u v : Value) W ha hb hc => CM.out u v (P * P % K) N W hQK HNK.out ha hb hc)
   have HM : Hid (j < gk) := Zh (by omega)
   have HJ : Hid (j ≤ bl E) := Zh (by omega)
   have CTj := Zh (fun W ha => CT.out j W hj ha)
   clear a1 a2 a3 hy ej hPK hQK CM CT HNK HBE
   generalize P * P % K = Q at *
   generalize bt E j = t at *
   cases t
   ·have HST := Zh hst
    clear hst
    have HK2 : Hid (PowI N E K j Q j) := Zh ⟨rfl, HJ.out, by have := HST.out; simpa using this⟩
    clear HST HJ
    obtain ⟨p5, f5, -, -, -⟩ := EL.out.box 0 rfl
    obtain ⟨p6, f6, -, -, -⟩ := EL.out.box 2 rfl
    go_wp2_with fail
    refine (CM1.out _ _ (EL.out.nt 0 rfl) (EL.out.nt 0 rfl) (EL.out.nt 1 rfl)).mono ?_
    rintro e w5 ⟨⟨qa, qk, rfl, hq⟩, hb⟩
    have E7 := Zh (((EL.out.below hb).numN (hq.out : Nt _ _ Q)))
    clear p5 f5 p6 f6 EL hb hq
    obtain ⟨p7, f7, -, -, -⟩ := E7.out.box 0 rfl
    have E8 : Hid (EnvB w [(gr2_3, .slice qa (len Q) qk), (w.heap.size + 1 + 1 + 1, .slice none 0 0), (w.heap.size + 1 + 1, .slice co (len K) cc), (w.heap.size + 1, .slice bo (len E) cb), (w.heap.size, .slice ao (len N) ca)] [(.slice qa (len Q) qk, digs Q), (.slice po (len P) pc, digs P), (.slice co (len K) cc, digs K), (.slice bo (len E) cb, digs E), (.slice ao (len N) ca, digs N)] _) := Zh ((E7.out.set 0 (.slice qa (len Q) qk) rfl ⟨_, _, _, rfl⟩))
    obtain ⟨p8, f8, -, -, -⟩ := E8.out.box 3 rfl
    go_wp2_with fail
    refine (CTj.out _ (E8.out.nt 3 rfl)).mono ?_
    rintro e w6 ⟨rfl, hb⟩
    have E9 := Zh ((E8.out.below hb))
    clear p7 f7 p8 f8 E8 E7 hb
    have EZ := Zh E9.out
    go_wp2
    go_roundg (j)
    case rel => exact ⟨j, Q, qa, qk, rfl, Zh ⟨EZ.out.1, EZ.out.2.1, ⟨EZ.out.sl 0 rfl, ⟨EZ.out.sl 2 rfl, ⟨EZ.out.sl 3 rfl, ⟨EZ.out.sl 4 rfl, trivial⟩⟩⟩⟩⟩, HK2⟩
    case measure => exact HM.out
   ·have HST := Zh hst
    clear hst
    have HK2 : Hid (PowI N E K j (Q * N % K) j) := Zh ⟨rfl, HJ.out, by have := HST.out; simpa using this⟩
    clear HST HJ
    generalize Q * N % K = R at *
    obtain ⟨p5, f5, -, -, -⟩ := EL.out.box 0 rfl
    obtain ⟨p6, f6, -, -, -⟩ := EL.out.box 2 rfl
    go_wp2_with fail
    refine (CM1.out _ _ (EL.out.nt 0 rfl) (EL.out.nt 0 rfl) (EL.out.nt 1 rfl)).mono ?_
    rintro e w5 ⟨⟨qa, qk, rfl, hq⟩, hb⟩
    have E7 := Zh (((EL.out.below hb).numN (hq.out : Nt _ _ Q)))
    clear p5 f5 p6 f6 EL hb hq
    obtain ⟨p7, f7, -, -, -⟩ := E7.out.box 0 rfl
    have E8 : Hid (EnvB w [(gr2_3, .slice qa (len Q) qk), (w.heap.size + 1 + 1 + 1, .slice none 0 0), (w.heap.size + 1 + 1, .slice co (len K) cc), (w.heap.size + 1, .slice bo (len E) cb), (w.heap.size, .slice ao (len N) ca)] [(.slice qa (len Q) qk, digs Q), (.slice po (len P) pc, digs P), (.slice co (len K) cc, digs K), (.slice bo (len E) cb, digs E), (.slice ao (len N) ca, digs N)] _) := Zh ((E7.out.set 0 (.slice qa (len Q) qk) rfl ⟨_, _, _, rfl⟩))
    obtain ⟨p8, f8, -, -, -⟩ := E8.out.box 3 rfl
    go_wp2_with fail
    refine (CTj.out _ (E8.out.nt 3 rfl)).mono ?_
    rintro e w6 ⟨rfl, hb⟩
    have E9 := Zh ((E8.out.below hb))
    clear p7 f7 p8 f8 E8 E7 hb
    obtain ⟨p9, f9, -, -, -⟩ := E9.out.box 0 rfl
    obtain ⟨p10, f10, -, -, -⟩ := E9.out.box 4 rfl
    obtain ⟨p11, f11, -, -, -⟩ := E9.out.box 2 rfl
    go_wp2_with fail
    refine (CM2.out _ _ _ (E9.out.nt 0 rfl) (E9.out.nt 4 rfl) (E9.out.nt 2 rfl)).mono ?_
    rintro e w7 ⟨⟨sa, sk, rfl, hs⟩, hb⟩
    have E10 := Zh (((E9.out.below hb).numN (hs.out : Nt _ _ R)))
    clear p9 f9 p10 f10 p11 f11 E9 hb hs
    obtain ⟨p12, f12, -, -, -⟩ := E10.out.box 0 rfl
    have E11 : Hid (EnvB w [(gr2_3, .slice sa (len R) sk), (w.heap.size + 1 + 1 + 1, .slice none 0 0), (w.heap.size + 1 + 1, .slice co (len K) cc), (w.heap.size + 1, .slice bo (len E) cb), (w.heap.size, .slice ao (len N) ca)] [(.slice sa (len R) sk, digs R), (.slice qa (len Q) qk, digs Q), (.slice po (len P) pc, digs P), (.slice co (len K) cc, digs K), (.slice bo (len E) cb, digs E), (.slice ao (len N) ca, digs N)] _) := Zh ((E10.out.set 0 (.slice sa (len R) sk) rfl ⟨_, _, _, rfl⟩))
    have EZ := Zh E11.out
    go_wp2
    go_roundg (j)
    case rel => exact ⟨j, R, sa, sk, rfl, Zh ⟨EZ.out.1, EZ.out.2.1, ⟨EZ.out.sl 0 rfl, ⟨EZ.out.sl 3 rfl, ⟨EZ.out.sl 4 rfl, ⟨EZ.out.sl 5 rfl, trivial⟩⟩⟩⟩⟩, HK2⟩
    case measure => exact HM.out
def InvS (A K g R Y T F : Nat) : Prop := g = Y ∧ len R ≤ 64 ∧ len Y ≤ 64 ∧ T < K ∧ F < K ∧ inv K R Y T F = inv K K A 0 (1 % K)
theorem InvS.step {A K g R Y T F : Nat} (h : InvS A K g R Y T F) (hy : Y ≠ 0) : InvS A K (R % Y) Y (R % Y) F (subm T (R / Y % K * F % K) K) ∧ R % Y < g := by
 obtain ⟨h1, h2, h3, h4, h5, h6⟩ := h
 have hlt := Nat.mod_lt R (Nat.pos_of_ne_zero hy)
 exact ⟨⟨rfl, h3, len_le_of_lt hlt h3, h5, subm_lt h4 (Nat.mod_lt _ (by omega)), by rw [← inv_pos _ _ _ _ hy]; exact h6⟩, by omega⟩
set_option maxRecDepth 100000 in
set_option maxHeartbeats 1000000 in
theorem inverse_w (ao : Option Addr) (ca : Nat) (bo : Option Addr) (cb : Nat) (N K : Nat) (V : Nat) (t : Bool) (w : World) (ha : Nt w (.slice ao (len N) ca) N) (hb : Nt w (.slice bo (len K) cb) K) (hV : invV N K = V) (ht : decide (invG N K = 1) = t) (hn : N < K) (hk : len K ≤ 32) :
  Calls Tryz.prog 75 #[.agg #[.slice ao (len N) ca], .agg #[.slice bo (len K) cb]] w fun e w' => ResB V t e w' ∧ Below w.heap.size w w' := by
 have hK0 : K ≠ 0 := by omega
 have CR := Zh (fun (u : Value) (X : Nat) W (hx : len X ≤ 64) ha hb => @rest_c u (.slice bo (len K) cb) X K (X % K) W rfl hx (by omega) hK0 ha hb)
 have CM := Zh (fun (u v : Value) (X Y : Nat) W hx hy ha hb hc => @mul_c u v (.slice bo (len K) cb) X Y K (X * Y % K) W rfl hx hy hk ha hb hc)
 have CS := Zh (fun (u v : Value) (X Y : Nat) W hx hy ha hb hc => @sub_c u v (.slice bo (len K) cb) X Y K (subm X Y K) W rfl hx hy hk ha hb hc)
 have hl1 : len 1 ≤ 64 := by rw [len_one]; omega
 have HS : Hid (InvS N K N K N 0 (1 % K)) := Zh ⟨rfl, by omega, by have := len_le_of_lt hn hk; omega, by omega, Nat.mod_lt _ (by omega), rfl⟩
 have HVT := Zh (And.intro hV ht)
 clear hn hk hK0 hV ht
 have E0 := Zh (((EnvB.start w).numN ha).numN hb)
 clear ha hb
 go_enter Tryz.func75, Tryz.ntmps75
 go_wp2_with fail
 have E1 := Zh ((((E0.out.push (.slice ao (len N) ca) 24 ⟨_, _, _, rfl⟩ (w.heap.size) (by simp)).push (.slice bo (len K) cb) 24 ⟨_, _, _, rfl⟩ (w.heap.size + 1) (by simp)).push (.slice none 0 0) 24 ⟨_, _, _, rfl⟩ (w.heap.size + 1 + 1) (by simp)))
 clear E0
 generalize ((w.alloc (.cells #[.slice ao (len N) ca] 24)).alloc (.cells #[.slice bo (len K) cb] 24)).alloc (.cells #[.slice none 0 0] 24) = w1 at *
 have E1d : Hid (EnvB w [(w.heap.size + 1 + 1, .slice none 0 0), (w.heap.size + 1, .slice bo (len K) cb), (w.heap.size, .slice ao (len N) ca)] [(.slice bo (len K) cb, digs K), (.slice ao (len N) ca, digs N)] w1.drew) := Zh E1.out.drew
 have bx0 := Zh (E1d.out.box 1 rfl)
 have bx1 := Zh (E1d.out.box 2 rfl)
 refine wp_region_held_drew (S := fun w' => w'.cell? ⟨w.heap.size, 0, none⟩ = some (.slice ao (len N) ca)) (by kernel_rfl) ((E1d.out.box 2 rfl).1) (fun hHeld => ?_)
 refine takeW (i := 1) (some 14) (v := .agg #[.slice ao (len N) ca]) rfl rfl (by kernel_rfl) (by kernel_rfl) (by kernel_rfl) (fun _ _ _ h => h) (by rfl) hHeld ?_ ?_
 ·(intro wS hSw; (try dsimp only at hSw); go_simp; try with_reducible rfl)
 simp only [Act.put, List.setIfInBounds_toArray, List.set_cons_zero, List.set_cons_succ]
 refine' wpAnyH_phase (fun _ _ h hb => (hb.cell (World.block_lt_of_cell? _ _ h)).trans h) [1] [0, 2, 3] (by kernel_rfl) _ (by kernel_rfl) _ (by kernel_rfl) #[true, true, true, true, false, false] (by kernel_rfl) 2 (by kernel_rfl) hHeld [PEq (.agg #[.slice bo (len K) cb]), PEq (.agg #[.slice ao (len N) ca]), PBox w1.heap.size, PBox w1.heap.size, Fact.none, Fact.none] (List.forall_mem_cons.2 ⟨PEq.st _, List.forall_mem_cons.2 ⟨PEq.st _, List.forall_mem_cons.2 ⟨PBox.st _, List.forall_mem_cons.2 ⟨PBox.st _, List.forall_mem_cons.2 ⟨Fact.none_st, List.forall_mem_cons.2 ⟨Fact.none_st, List.forall_mem_nil _⟩⟩⟩⟩⟩⟩) _ ?hFr1 ?hTr1 ?stepr1 ?doner1
 case hFr1 => intro x; simp only [frameL, Act.put, List.setIfInBounds_toArray, List.set_cons_zero, List.set_cons_succ, Nat.zero_add, Nat.reduceAdd]; exact rfl
 case hTr1 =>
  intro i hi
  obtain rfl : i = 1 := by simpa using hi
  exact rfl
 case stepr1 =>
  refine List.forall_mem_cons.2 ⟨?_, ?_⟩
  ·intro xv bv ev WW hB hd
   refine op_of rfl ?_
   clear hd
   intro KK hKK
   obtain ⟨z, -, -, -, -⟩ := bx0.out.below hB
   go_simp
   exact act_eq (hKK.out (.agg #[.slice bo (len K) cb]) _ (Below.refl _ _) rfl) (by first | rfl | simp [upd])
  refine List.forall_mem_cons.2 ⟨?_, ?_⟩
  ·intro xv bv ev WW hB hd
   refine op_of rfl ?_
   clear hd
   intro KK hKK
   go_simp
   exact act_eq (hKK.out (.pointer (some ⟨WW.heap.size, 0, none⟩)) _ (below_one _ _) (PBox.mk hB rfl _)) (by first | rfl | simp [upd])
  refine List.forall_mem_cons.2 ⟨?_, ?_⟩
  ·intro xv bv ev WW hB hd
   refine op_of rfl ?_
   clear hd
   intro KK hKK
   go_simp
   exact act_eq (hKK.out (.pointer (some ⟨WW.heap.size, 0, none⟩)) _ (below_one _ _) (PBox.mk hB rfl _)) (by first | rfl | simp [upd])
  exact List.forall_mem_nil _
 intro xv bv ev w2 hB hSW hR hO
 have ed0 : xv 0 = .agg #[.slice bo (len K) cb] := hR 0 (by kernel_rfl)
 have ed1 : xv 1 = .agg #[.slice ao (len N) ca] := hR 1 (by kernel_rfl)
 obtain ⟨gr1_2, ed2, hg2, hb2, he2, hc2, hf2, hs2⟩ := (show (PBox w1.heap.size) (xv 2) (bv 2) (ev 2) w2 from hR 2 (by kernel_rfl))
 obtain ⟨gr1_3, ed3, hg3, hb3, he3, hc3, hf3, hs3⟩ := (show (PBox w1.heap.size) (xv 3) (bv 3) (ev 3) w2 from hR 3 (by kernel_rfl))
 simp only [ed0, ed1, ed2, ed3]
 have ne2_3 : gr1_2 ≠ gr1_3 := by have := hO 2 3 (by kernel_rfl) (by kernel_rfl) (by decide); omega
 have E2 := Zh ((((E1d.out.below hB).add gr1_2 (.slice none 0 0) ⟨hc2, hf2, hs2, Nat.le_trans E1.out.size hg2, ⟨_, _, _, rfl⟩⟩ (fun p hp => by have := E1.out.old p hp; omega)).add gr1_3 (.slice none 0 0) ⟨hc3, hf3, hs3, Nat.le_trans E1.out.size hg3, ⟨_, _, _, rfl⟩⟩ (List.forall_mem_cons.2 ⟨ne2_3, fun p hp => by have := E1.out.old p hp; omega⟩)))
 clear E1 hB hR hO hSW E1d bx0 bx1 ed0 ed1 ed2 ed3 hg2 hb2 he2 hc2 hf2 hs2 hg3 hb3 he3 hc3 hf3 hs3 ne2_3
 obtain ⟨p1, f1, -, -, -⟩ := E2.out.box 1 rfl
 refine wpAnyH_next (i := 4) (by kernel_rfl) rfl (fun KK hKK => ?_)
 go_simp
 have E3 : Hid (EnvB w [(gr1_3, .slice none 0 0), (gr1_2, .slice bo (len K) cb), (w.heap.size + 1 + 1, .slice none 0 0), (w.heap.size + 1, .slice bo (len K) cb), (w.heap.size, .slice ao (len N) ca)] [(.slice bo (len K) cb, digs K), (.slice ao (len N) ca, digs N)] _) := Zh ((E2.out.set 1 (.slice bo (len K) cb) rfl ⟨_, _, _, rfl⟩))
 refine hKK.out _ _ ((E3.out.box 4 rfl).1) ?_
 clear hKK KK
 obtain ⟨p2, f2, -, -, -⟩ := E3.out.box 0 rfl
 refine wpAnyH_next (i := 5) (by kernel_rfl) rfl (fun KK hKK => ?_)
 go_simp
 have E4 : Hid (EnvB w [(gr1_3, .slice ao (len N) ca), (gr1_2, .slice bo (len K) cb), (w.heap.size + 1 + 1, .slice none 0 0), (w.heap.size + 1, .slice bo (len K) cb), (w.heap.size, .slice ao (len N) ca)] [(.slice bo (len K) cb, digs K), (.slice ao (len N) ca, digs N)] _) := Zh ((E3.out.set 0 (.slice ao (len N) ca) rfl ⟨_, _, _, rfl⟩))
 refine hKK.out _ _ ((E4.out.box 4 rfl).1) ?_
 clear hKK KK
 refine wpAnyH_done (by kernel_rfl) ?_ _
 go_wp2_with fail
 have E5 := Zh (E4.out)
 clear p1 f1 p2 f2 E4
 generalize (w2.setCell ⟨gr1_2, 0, none⟩ (.slice bo (len K) cb)).setCell ⟨gr1_3, 0, none⟩ (.slice ao (len N) ca) = w3 at *
 have bx0 := Zh (E5.out.box 3 rfl)
 refine' wp_region_phase (by kernel_rfl) [0, 1, 2, 3, 4, 5] (by kernel_rfl) #[true, true, true, true, true, true, false, false] (by kernel_rfl) 2 (by kernel_rfl) [PNum (0), PNum (1), PEq (.agg #[.slice bo (len K) cb]), PNum ((1 % K)), PBox w3.heap.size, PBox w3.heap.size, Fact.none, Fact.none] (List.forall_mem_cons.2 ⟨PNum.st _, List.forall_mem_cons.2 ⟨PNum.st _, List.forall_mem_cons.2 ⟨PEq.st _, List.forall_mem_cons.2 ⟨PNum.st _, List.forall_mem_cons.2 ⟨PBox.st _, List.forall_mem_cons.2 ⟨PBox.st _, List.forall_mem_cons.2 ⟨Fact.none_st, List.forall_mem_cons.2 ⟨Fact.none_st, List.forall_mem_nil _⟩⟩⟩⟩⟩⟩⟩⟩) _ ?hFr3 ?stepr3 ?doner3
 case hFr3 => intro x; simp only [frameL, Act.put, List.setIfInBounds_toArray, List.set_cons_zero, List.set_cons_succ, Nat.zero_add, Nat.reduceAdd]; exact rfl
 case stepr3 =>
  refine List.forall_mem_cons.2 ⟨?_, ?_⟩
  ·intro xv bv ev WW hB hd
   refine op_of rfl ?_
   clear hd
   intro KK hKK
   go_simp
   refine (zero_c _).mono ?_
   rintro e WW' ⟨⟨za, zk, rfl, hz⟩, hb⟩
   (try dsimp only)
   (try simp only [Act.put, List.setIfInBounds_toArray, List.set_cons_zero, List.set_cons_succ])
   exact act_eq (hKK.out _ _ hb ⟨_, _, rfl, hz⟩) (by first | rfl | simp [upd])
  refine List.forall_mem_cons.2 ⟨?_, ?_⟩
  ·intro xv bv ev WW hB hd
   refine op_of rfl ?_
   clear hd
   intro KK hKK
   go_simp
   refine (one_c _).mono ?_
   rintro e WW' ⟨⟨ia, ik, rfl, hi⟩, hb⟩
   (try dsimp only)
   (try simp only [Act.put, List.setIfInBounds_toArray, List.set_cons_zero, List.set_cons_succ])
   exact act_eq (hKK.out _ _ hb ⟨_, _, rfl, hi⟩) (by first | rfl | simp [upd])
  refine List.forall_mem_cons.2 ⟨?_, ?_⟩
  ·intro xv bv ev WW hB hd
   refine op_of rfl ?_
   clear hd
   intro KK hKK
   obtain ⟨z, -, -, -, -⟩ := bx0.out.below hB
   go_simp
   exact act_eq (hKK.out (.agg #[.slice bo (len K) cb]) _ (Below.refl _ _) rfl) (by first | rfl | simp [upd])
  refine List.forall_mem_cons.2 ⟨?_, ?_⟩
  ·intro xv bv ev WW hB hd
   refine op_of rfl ?_
   obtain ⟨ia, ik, ed1, hi⟩ := (show (PNum (1)) (xv 1) (bv 1) (ev 1) WW from hd 1 (by kernel_rfl))
   have ed2 : xv 2 = .agg #[.slice bo (len K) cb] := hd 2 (by kernel_rfl)
   clear hd
   intro KK hKK
   go_simp
   refine (CR.out _ _ _ hl1 hi.out ((E5.out.below hB).nt 0 rfl)).mono ?_
   rintro e WW' ⟨⟨ja, jk, rfl, hj⟩, hb⟩
   (try dsimp only)
   (try simp only [Act.put, List.setIfInBounds_toArray, List.set_cons_zero, List.set_cons_succ])
   exact act_eq (hKK.out _ _ hb ⟨_, _, rfl, hj⟩) (by first | rfl | simp [upd, ed1, ed2])
  refine List.forall_mem_cons.2 ⟨?_, ?_⟩
  ·intro xv bv ev WW hB hd
   refine op_of rfl ?_
   clear hd
   intro KK hKK
   go_simp
   exact act_eq (hKK.out (.pointer (some ⟨WW.heap.size, 0, none⟩)) _ (below_one _ _) (PBox.mk hB rfl _)) (by first | rfl | simp [upd])
  refine List.forall_mem_cons.2 ⟨?_, ?_⟩
  ·intro xv bv ev WW hB hd
   refine op_of rfl ?_
   clear hd
   intro KK hKK
   go_simp
   exact act_eq (hKK.out (.pointer (some ⟨WW.heap.size, 0, none⟩)) _ (below_one _ _) (PBox.mk hB rfl _)) (by first | rfl | simp [upd])
  exact List.forall_mem_nil _
 intro xv bv ev w4 hB hR hO
 obtain ⟨za, zk, ed0, hz⟩ := (show (PNum (0)) (xv 0) (bv 0) (ev 0) w4 from hR 0 (by kernel_rfl))
 obtain ⟨ia, ik, ed1, hi⟩ := (show (PNum (1)) (xv 1) (bv 1) (ev 1) w4 from hR 1 (by kernel_rfl))
 have ed2 : xv 2 = .agg #[.slice bo (len K) cb] := hR 2 (by kernel_rfl)
 obtain ⟨ja, jk, ed3, hj⟩ := (show (PNum ((1 % K))) (xv 3) (bv 3) (ev 3) w4 from hR 3 (by kernel_rfl))
 obtain ⟨gr3_4, ed4, hg4, hb4, he4, hc4, hf4, hs4⟩ := (show (PBox w3.heap.size) (xv 4) (bv 4) (ev 4) w4 from hR 4 (by kernel_rfl))
 obtain ⟨gr3_5, ed5, hg5, hb5, he5, hc5, hf5, hs5⟩ := (show (PBox w3.heap.size) (xv 5) (bv 5) (ev 5) w4 from hR 5 (by kernel_rfl))
 simp only [ed0, ed1, ed2, ed3, ed4, ed5]
 have ne4_5 : gr3_4 ≠ gr3_5 := by have := hO 4 5 (by kernel_rfl) (by kernel_rfl) (by decide); omega
 have E6 := Zh (((((((E5.out.below hB).add gr3_4 (.slice none 0 0) ⟨hc4, hf4, hs4, Nat.le_trans E5.out.size hg4, ⟨_, _, _, rfl⟩⟩ (fun p hp => by have := E5.out.old p hp; omega)).add gr3_5 (.slice none 0 0) ⟨hc5, hf5, hs5, Nat.le_trans E5.out.size hg5, ⟨_, _, _, rfl⟩⟩ (List.forall_mem_cons.2 ⟨ne4_5, fun p hp => by have := E5.out.old p hp; omega⟩)).numN (hz.out : Nt _ _ (0))).numN (hi.out : Nt _ _ (1))).numN (hj.out : Nt _ _ ((1 % K)))))
 clear E5 E2 E3 hB hR hO bx0 ed0 ed1 ed2 ed3 ed4 ed5 hz hi hj hg4 hb4 he4 hc4 hf4 hs4 hg5 hb5 he5 hc5 hf5 hs5 ne4_5
 obtain ⟨p3, f3, -, -, -⟩ := E6.out.box 1 rfl
 refine wpAny_next (i := 6) (by kernel_rfl) rfl (fun KK hKK => ?_)
 go_simp
 have E7 : Hid (EnvB w [(gr3_5, .slice none 0 0), (gr3_4, .slice za (len 0) zk), (gr1_3, .slice ao (len N) ca), (gr1_2, .slice bo (len K) cb), (w.heap.size + 1 + 1, .slice none 0 0), (w.heap.size + 1, .slice bo (len K) cb), (w.heap.size, .slice ao (len N) ca)] [(.slice ja (len (1 % K)) jk, digs (1 % K)), (.slice ia (len 1) ik, digs 1), (.slice za (len 0) zk, digs 0), (.slice bo (len K) cb, digs K), (.slice ao (len N) ca, digs N)] _) := Zh ((E6.out.set 1 (.slice za (len 0) zk) rfl ⟨_, _, _, rfl⟩))
 refine hKK.out _ _ ?_
 clear hKK KK
 obtain ⟨p4, f4, -, -, -⟩ := E7.out.box 0 rfl
 refine wpAny_next (i := 7) (by kernel_rfl) rfl (fun KK hKK => ?_)
 go_simp
 have E8 : Hid (EnvB w [(gr3_5, .slice ja (len (1 % K)) jk), (gr3_4, .slice za (len 0) zk), (gr1_3, .slice ao (len N) ca), (gr1_2, .slice bo (len K) cb), (w.heap.size + 1 + 1, .slice none 0 0), (w.heap.size + 1, .slice bo (len K) cb), (w.heap.size, .slice ao (len N) ca)] [(.slice ja (len (1 % K)) jk, digs (1 % K)), (.slice ia (len 1) ik, digs 1), (.slice za (len 0) zk, digs 0), (.slice bo (len K) cb, digs K), (.slice ao (len N) ca, digs N)] _) := Zh ((E7.out.set 0 (.slice ja (len (1 % K)) jk) rfl ⟨_, _, _, rfl⟩))
 refine hKK.out _ _ ?_
 clear hKK KK
 refine wpAny_done (by kernel_rfl) ?_ _
 go_wp2_with fail
 have E9 := Zh (E8.out)
 go_loopg [] (N) (fun gk  wr => ∃ (R Y T F : Nat) (ro yo tl fo : Option Addr) (rc yc tc fc : Nat), Hid (EnvB w [(gr3_5, .slice fo (len F) fc), (gr3_4, .slice tl (len T) tc), (gr1_3, .slice yo (len Y) yc), (gr1_2, .slice ro (len R) rc), (w.heap.size + 1 + 1, .slice none 0 0), (w.heap.size + 1, .slice bo (len K) cb), (w.heap.size, .slice ao (len N) ca)] [(.slice fo (len F) fc, digs F), (.slice tl (len T) tc, digs T), (.slice yo (len Y) yc, digs Y), (.slice ro (len R) rc, digs R), (.slice bo (len K) cb, digs K), (.slice ao (len N) ca, digs N)] wr) ∧ Hid (InvS N K gk R Y T F))
 case atStart => exact ⟨K, N, 0, 1 % K, bo, ao, za, ja, cb, ca, zk, jk, Zh ⟨E9.out.1, E9.out.2.1, ⟨E9.out.sl 0 rfl, ⟨E9.out.sl 2 rfl, ⟨E9.out.sl 4 rfl, ⟨E9.out.sl 3 rfl, ⟨E9.out.sl 3 rfl, ⟨E9.out.sl 4 rfl, trivial⟩⟩⟩⟩⟩⟩⟩, HS⟩
 case round =>
  clear p3 f3 p4 f4 E9 E6 E7 E8 HS
  obtain ⟨R, Y, T, F, ro, yo, tl, fo, rc, yc, tc, fc, EL, HA⟩ := hrel
  by_cases hy : Y = 0
  ·obtain ⟨a1, a2, a3, a4, a5, a6⟩ := HA.out
   have hR : invV N K = T ∧ invG N K = R := by rw [hy, inv_zero] at a6; unfold invV invG; rw [← a6]; exact ⟨rfl, rfl⟩
   obtain rfl : T = V := hR.1.symm.trans HVT.out.1
   have t1 : len Y = 0 := len_eq_zero.2 hy
   have t2 : decide (0 < (len Y : Int)) = false := decide_eq_false (by omega)
   have t3 : decide (0 < len Y) = false := decide_eq_false (by omega)
   have CC := Zh (fun (u v : Value) W ha hb => @compareF u v R 1 W _ rfl ha hb a2 hl1)
   have hcm : (cmp R 1 == 0) = t := by rw [cmp_zero_iff, ← hR.2]; exact HVT.out.2
   clear HA a1 a2 a3 a4 a5 a6 hy t1 CR CM CS hR HVT
   generalize cmp R 1 = c at *
   obtain ⟨p5, f5, -, -, -⟩ := EL.out.box 2 rfl
   go_wp2_with fail
   have ELd : Hid (EnvB w [(gr3_5, .slice fo (len F) fc), (gr3_4, .slice tl (len T) tc), (gr1_3, .slice yo (len Y) yc), (gr1_2, .slice ro (len R) rc), (w.heap.size + 1 + 1, .slice none 0 0), (w.heap.size + 1, .slice bo (len K) cb), (w.heap.size, .slice ao (len N) ca)] [(.slice fo (len F) fc, digs F), (.slice tl (len T) tc, digs T), (.slice yo (len Y) yc, digs Y), (.slice ro (len R) rc, digs R), (.slice bo (len K) cb, digs K), (.slice ao (len N) ca, digs N)] wr.drew) := Zh EL.out.drew
   have bx0 := Zh (ELd.out.box 1 rfl)
   have bx1 := Zh (ELd.out.box 3 rfl)
   clear p5 f5
   refine wp_region_held_drew (S := fun w' => w'.cell? ⟨gr3_4, 0, none⟩ = some (.slice tl (len T) tc)) (by kernel_rfl) ((ELd.out.box 1 rfl).1) (fun hHeld => ?_)
   refine takeW (i := 0) (some 42) (v := .agg #[.slice tl (len T) tc]) rfl rfl (by kernel_rfl) (by kernel_rfl) (by kernel_rfl) (fun _ _ _ h => h) (by rfl) hHeld ?_ ?_
   ·(intro wS hSw; (try dsimp only at hSw); go_simp; try with_reducible rfl)
   simp only [Act.put, List.setIfInBounds_toArray, List.set_cons_zero, List.set_cons_succ]
   refine' wpAnyH_phase (fun _ _ h hb => (hb.cell (World.block_lt_of_cell? _ _ h)).trans h) [0] [1, 2, 3] (by kernel_rfl) _ (by kernel_rfl) _ (by kernel_rfl) #[true, true, true, true, false, false, false] (by kernel_rfl) 3 (by kernel_rfl) hHeld [PEq (.agg #[.slice tl (len T) tc]), PEq (.agg #[.slice ro (len R) rc]), PNum (1), PEq (.int .i64 c), Fact.none, Fact.none, Fact.none] (List.forall_mem_cons.2 ⟨PEq.st _, List.forall_mem_cons.2 ⟨PEq.st _, List.forall_mem_cons.2 ⟨PNum.st _, List.forall_mem_cons.2 ⟨PEq.st _, List.forall_mem_cons.2 ⟨Fact.none_st, List.forall_mem_cons.2 ⟨Fact.none_st, List.forall_mem_cons.2 ⟨Fact.none_st, List.forall_mem_nil _⟩⟩⟩⟩⟩⟩⟩) _ ?hFr4 ?hTr4 ?stepr4 ?doner4
   case hFr4 => intro x; simp only [frameL, Act.put, List.setIfInBounds_toArray, List.set_cons_zero, List.set_cons_succ, Nat.zero_add, Nat.reduceAdd]; exact rfl
   case hTr4 =>
    intro i hi
    obtain rfl : i = 0 := by simpa using hi
    exact rfl
   case stepr4 =>
    refine List.forall_mem_cons.2 ⟨?_, ?_⟩
    ·intro xv bv ev WW hB hd
     refine op_of rfl ?_
     clear hd
     intro KK hKK
     obtain ⟨z, -, -, -, -⟩ := bx1.out.below hB
     go_simp
     exact act_eq (hKK.out (.agg #[.slice ro (len R) rc]) _ (Below.refl _ _) rfl) (by first | rfl | simp [upd])
    refine List.forall_mem_cons.2 ⟨?_, ?_⟩
    ·intro xv bv ev WW hB hd
     refine op_of rfl ?_
     clear hd
     intro KK hKK
     go_simp
     refine (one_c _).mono ?_
     rintro e WW' ⟨⟨ia, ik, rfl, hi⟩, hb⟩
     (try dsimp only)
     (try simp only [Act.put, List.setIfInBounds_toArray, List.set_cons_zero, List.set_cons_succ])
     exact act_eq (hKK.out _ _ hb ⟨_, _, rfl, hi⟩) (by first | rfl | simp [upd])
    refine List.forall_mem_cons.2 ⟨?_, ?_⟩
    ·intro xv bv ev WW hB hd
     refine op_of rfl ?_
     have ed1 : xv 1 = .agg #[.slice ro (len R) rc] := hd 1 (by kernel_rfl)
     obtain ⟨ia, ik, ed2, hi⟩ := (show (PNum (1)) (xv 2) (bv 2) (ev 2) WW from hd 2 (by kernel_rfl))
     clear hd
     intro KK hKK
     go_simp
     refine (CC.out _ _ _ ((ELd.out.below hB).nt 3 rfl) hi.out).mono ?_
     rintro e WW' ⟨rfl, hb⟩
     (try dsimp only)
     (try simp only [Act.put, List.setIfInBounds_toArray, List.set_cons_zero, List.set_cons_succ])
     exact act_eq (hKK.out _ _ hb rfl) (by first | rfl | simp [upd, ed1, ed2])
    exact List.forall_mem_nil _
   intro xv bv ev w5 hB hSW hR hO
   have ed0 : xv 0 = .agg #[.slice tl (len T) tc] := hR 0 (by kernel_rfl)
   have ed1 : xv 1 = .agg #[.slice ro (len R) rc] := hR 1 (by kernel_rfl)
   obtain ⟨ia, ik, ed2, hi⟩ := (show (PNum (1)) (xv 2) (bv 2) (ev 2) w5 from hR 2 (by kernel_rfl))
   have ed3 : xv 3 = .int .i64 c := hR 3 (by kernel_rfl)
   simp only [ed0, ed1, ed2, ed3]
   have E10 := Zh (((ELd.out.below hB).numN (hi.out : Nt _ _ (1))))
   clear EL hB hR hO hSW ELd bx0 bx1 ed0 ed1 ed2 ed3 hi
   refine takeW (i := 4) (some 46) (v := ?_) rfl rfl (by kernel_rfl) (by kernel_rfl) (by kernel_rfl) (fun _ _ _ h => h) (by rfl) ((E10.out.box 1 rfl).1) ?_ ?_
   rotate_left
   ·(intro wS hSw; go_simp; try with_reducible rfl)
   simp only [Act.put, List.setIfInBounds_toArray, List.set_cons_zero, List.set_cons_succ]
   obtain ⟨p6, f6, -, -, -⟩ := E10.out.box 4 rfl
   refine wpAnyH_next (i := 5) (by kernel_rfl) rfl (fun KK hKK => ?_)
   go_simp
   have E11 : Hid (EnvB w [(gr3_5, .slice fo (len F) fc), (gr3_4, .slice tl (len T) tc), (gr1_3, .slice yo (len Y) yc), (gr1_2, .slice ro (len R) rc), (w.heap.size + 1 + 1, .slice tl (len T) tc), (w.heap.size + 1, .slice bo (len K) cb), (w.heap.size, .slice ao (len N) ca)] [(.slice ia (len 1) ik, digs 1), (.slice fo (len F) fc, digs F), (.slice tl (len T) tc, digs T), (.slice yo (len Y) yc, digs Y), (.slice ro (len R) rc, digs R), (.slice bo (len K) cb, digs K), (.slice ao (len N) ca, digs N)] _) := Zh ((E10.out.set 4 (.slice tl (len T) tc) rfl ⟨_, _, _, rfl⟩))
   refine hKK.out _ _ ((E11.out.box 1 rfl).1) ?_
   clear hKK KK
   refine wpAnyH_next (i := 6) (by kernel_rfl) rfl (fun KK hKK => ?_)
   go_simp
   refine hKK.out _ _ ((E11.out.box 1 rfl).1) ?_
   clear hKK KK
   refine wpAnyH_done (by kernel_rfl) ?_ _
   have E12 := Zh (E11.out)
   have hfin := Zh E12.out
   obtain ⟨rc, -, -, -, -⟩ := E12.out.box 4 rfl
   go_wp2
   exact bodyPost_ret (v := .tuple #[.agg #[.slice tl (len T) tc], .bool t]) (by simp [results, Tryz.results75, go_sem, rc]) rfl ⟨⟨_, _, rfl, Zh (hfin.out.nt 2 rfl)⟩, hfin.out.1⟩
  ·have HK2 := Zh (HA.out.step hy).1
   have HM := Zh (HA.out.step hy).2
   obtain ⟨a1, a2, a3, a4, a5, a6⟩ := HA.out
   have t1 : len Y ≠ 0 := fun e => hy (len_eq_zero.1 e)
   have t2 : decide (0 < (len Y : Int)) = true := decide_eq_true (by omega)
   have t3 : decide (0 < len Y) = true := decide_eq_true (by omega)
   have CD := Zh (fun (u v : Value) W ha hb => @divF u v R Y (R / Y) (R % Y) W rfl rfl ha hb a2 a3 hy)
   have CR1 := Zh (fun (u : Value) W ha hb => CR.out u (R / Y) W (Nat.le_trans (len_le_of_le (Nat.div_le_self _ _)) a2) ha hb)
   have hq : R / Y % K < K := Nat.mod_lt _ (by omega)
   have CM1 := Zh (fun (u v : Value) W ha hb hc => CM.out u v (R / Y % K) F W hq a5 ha hb hc)
   have hz : R / Y % K * F % K < K := Nat.mod_lt _ (by omega)
   have CS1 := Zh (fun (u v : Value) W ha hb hc => CS.out u v T (R / Y % K * F % K) W a4 hz ha hb hc)
   clear HA a1 a2 a3 a4 a5 a6 hy t1 CR CM CS hq hz
   generalize subm T (R / Y % K * F % K) K = S at *
   generalize R / Y % K * F % K = Z at *
   generalize R / Y % K = V at *
   generalize R / Y = Q at *
   generalize R % Y = U at *
   obtain ⟨p5, f5, -, -, -⟩ := EL.out.box 2 rfl
   obtain ⟨p6, f6, -, -, -⟩ := EL.out.box 3 rfl
   go_wp2_with fail
   refine (CD.out _ _ _ (EL.out.nt 3 rfl) (EL.out.nt 2 rfl)).mono ?_
   rintro e w5 ⟨⟨qa, qk, ua, uk, rfl, hq, hu⟩, hb⟩
   have E10 := Zh ((((EL.out.below hb).numN (hq.out : Nt _ _ Q)).numN (hu.out : Nt _ _ U)))
   clear p5 f5 p6 f6 EL hb hq hu
   go_wp2_with fail
   have E11 := Zh (((E10.out.push (.slice qa (len Q) qk) 24 ⟨_, _, _, rfl⟩ (w5.heap.size) (by simp)).push (.slice ua (len U) uk) 24 ⟨_, _, _, rfl⟩ (w5.heap.size + 1) (by simp)))
   clear E10
   generalize (w5.alloc (.cells #[.slice qa (len Q) qk] 24)).alloc (.cells #[.slice ua (len U) uk] 24) = w6 at *
   have E11d : Hid (EnvB w [(w5.heap.size + 1, .slice ua (len U) uk), (w5.heap.size, .slice qa (len Q) qk), (gr3_5, .slice fo (len F) fc), (gr3_4, .slice tl (len T) tc), (gr1_3, .slice yo (len Y) yc), (gr1_2, .slice ro (len R) rc), (w.heap.size + 1 + 1, .slice none 0 0), (w.heap.size + 1, .slice bo (len K) cb), (w.heap.size, .slice ao (len N) ca)] [(.slice ua (len U) uk, digs U), (.slice qa (len Q) qk, digs Q), (.slice fo (len F) fc, digs F), (.slice tl (len T) tc, digs T), (.slice yo (len Y) yc, digs Y), (.slice ro (len R) rc, digs R), (.slice bo (len K) cb, digs K), (.slice ao (len N) ca, digs N)] w6.drew) := Zh E11.out.drew
   have bx0 := Zh (E11d.out.box 4 rfl)
   have bx1 := Zh (E11d.out.box 0 rfl)
   refine wp_region_held_drew (S := fun w' => w'.cell? ⟨w5.heap.size + 1, 0, none⟩ = some (.slice ua (len U) uk)) (by kernel_rfl) ((E11d.out.box 0 rfl).1) (fun hHeld => ?_)
   refine takeW (i := 1) (some 31) (v := .agg #[.slice ua (len U) uk]) rfl rfl (by kernel_rfl) (by kernel_rfl) (by kernel_rfl) (fun _ _ _ h => h) (by rfl) hHeld ?_ ?_
   ·(intro wS hSw; (try dsimp only at hSw); go_simp; try with_reducible rfl)
   simp only [Act.put, List.setIfInBounds_toArray, List.set_cons_zero, List.set_cons_succ]
   refine' wpAnyH_phase (fun _ _ h hb => (hb.cell (World.block_lt_of_cell? _ _ h)).trans h) [1] [0] (by kernel_rfl) _ (by kernel_rfl) _ (by kernel_rfl) #[true, true, false, false] (by kernel_rfl) 2 (by kernel_rfl) hHeld [PEq (.agg #[.slice yo (len Y) yc]), PEq (.agg #[.slice ua (len U) uk]), Fact.none, Fact.none] (List.forall_mem_cons.2 ⟨PEq.st _, List.forall_mem_cons.2 ⟨PEq.st _, List.forall_mem_cons.2 ⟨Fact.none_st, List.forall_mem_cons.2 ⟨Fact.none_st, List.forall_mem_nil _⟩⟩⟩⟩) _ ?hFr6 ?hTr6 ?stepr6 ?doner6
   case hFr6 => intro x; simp only [frameL, Act.put, List.setIfInBounds_toArray, List.set_cons_zero, List.set_cons_succ, Nat.zero_add]; exact rfl
   case hTr6 =>
    intro i hi
    obtain rfl : i = 1 := by simpa using hi
    exact rfl
   case stepr6 =>
    refine List.forall_mem_cons.2 ⟨?_, ?_⟩
    ·intro xv bv ev WW hB hd
     refine op_of rfl ?_
     clear hd
     intro KK hKK
     obtain ⟨z, -, -, -, -⟩ := bx0.out.below hB
     go_simp
     exact act_eq (hKK.out (.agg #[.slice yo (len Y) yc]) _ (Below.refl _ _) rfl) (by first | rfl | simp [upd])
    exact List.forall_mem_nil _
   intro xv bv ev w7 hB hSW hR hO
   have ed0 : xv 0 = .agg #[.slice yo (len Y) yc] := hR 0 (by kernel_rfl)
   have ed1 : xv 1 = .agg #[.slice ua (len U) uk] := hR 1 (by kernel_rfl)
   simp only [ed0, ed1]
   have E12 := Zh ((E11d.out.below hB))
   clear E11 hB hR hO hSW E11d bx0 bx1 ed0 ed1
   obtain ⟨p7, f7, -, -, -⟩ := E12.out.box 5 rfl
   refine wpAnyH_next (i := 2) (by kernel_rfl) rfl (fun KK hKK => ?_)
   go_simp
   have E13 : Hid (EnvB w [(w5.heap.size + 1, .slice ua (len U) uk), (w5.heap.size, .slice qa (len Q) qk), (gr3_5, .slice fo (len F) fc), (gr3_4, .slice tl (len T) tc), (gr1_3, .slice yo (len Y) yc), (gr1_2, .slice yo (len Y) yc), (w.heap.size + 1 + 1, .slice none 0 0), (w.heap.size + 1, .slice bo (len K) cb), (w.heap.size, .slice ao (len N) ca)] [(.slice ua (len U) uk, digs U), (.slice qa (len Q) qk, digs Q), (.slice fo (len F) fc, digs F), (.slice tl (len T) tc, digs T), (.slice yo (len Y) yc, digs Y), (.slice ro (len R) rc, digs R), (.slice bo (len K) cb, digs K), (.slice ao (len N) ca, digs N)] _) := Zh ((E12.out.set 5 (.slice yo (len Y) yc) rfl ⟨_, _, _, rfl⟩))
   refine hKK.out _ _ ((E13.out.box 0 rfl).1) ?_
   clear hKK KK
   obtain ⟨p8, f8, -, -, -⟩ := E13.out.box 4 rfl
   refine wpAnyH_next (i := 3) (by kernel_rfl) rfl (fun KK hKK => ?_)
   go_simp
   have E14 : Hid (EnvB w [(w5.heap.size + 1, .slice ua (len U) uk), (w5.heap.size, .slice qa (len Q) qk), (gr3_5, .slice fo (len F) fc), (gr3_4, .slice tl (len T) tc), (gr1_3, .slice ua (len U) uk), (gr1_2, .slice yo (len Y) yc), (w.heap.size + 1 + 1, .slice none 0 0), (w.heap.size + 1, .slice bo (len K) cb), (w.heap.size, .slice ao (len N) ca)] [(.slice ua (len U) uk, digs U), (.slice qa (len Q) qk, digs Q), (.slice fo (len F) fc, digs F), (.slice tl (len T) tc, digs T), (.slice yo (len Y) yc, digs Y), (.slice ro (len R) rc, digs R), (.slice bo (len K) cb, digs K), (.slice ao (len N) ca, digs N)] _) := Zh ((E13.out.set 4 (.slice ua (len U) uk) rfl ⟨_, _, _, rfl⟩))
   refine hKK.out _ _ ((E14.out.box 0 rfl).1) ?_
   clear hKK KK
   refine wpAnyH_done (by kernel_rfl) ?_ _
   go_wp2_with fail
   have E15 := Zh (E14.out)
   clear p7 f7 p8 f8 E14
   generalize (w7.setCell ⟨gr1_2, 0, none⟩ (.slice yo (len Y) yc)).setCell ⟨gr1_3, 0, none⟩ (.slice ua (len U) uk) = w8 at *
   have bx0 := Zh (E15.out.box 2 rfl)
   have bx1 := Zh (E15.out.box 3 rfl)
   have bx2 := Zh (E15.out.box 1 rfl)
   have bx3 := Zh (E15.out.box 7 rfl)
   refine' wp_region_phase (by kernel_rfl) [0, 1, 2, 3, 4, 5, 6, 7, 8, 9] (by kernel_rfl) #[true, true, true, true, true, true, true, true, true, true, false, false] (by kernel_rfl) 2 (by kernel_rfl) [PEq (.agg #[.slice fo (len F) fc]), PEq (.agg #[.slice tl (len T) tc]), PEq (.agg #[.slice qa (len Q) qk]), PEq (.agg #[.slice bo (len K) cb]), PNum (V), PEq (.agg #[.slice fo (len F) fc]), PEq (.agg #[.slice bo (len K) cb]), PNum (Z), PEq (.agg #[.slice bo (len K) cb]), PNum (S), Fact.none, Fact.none] (List.forall_mem_cons.2 ⟨PEq.st _, List.forall_mem_cons.2 ⟨PEq.st _, List.forall_mem_cons.2 ⟨PEq.st _, List.forall_mem_cons.2 ⟨PEq.st _, List.forall_mem_cons.2 ⟨PNum.st _, List.forall_mem_cons.2 ⟨PEq.st _, List.forall_mem_cons.2 ⟨PEq.st _, List.forall_mem_cons.2 ⟨PNum.st _, List.forall_mem_cons.2 ⟨PEq.st _, List.forall_mem_cons.2 ⟨PNum.st _, List.forall_mem_cons.2 ⟨Fact.none_st, List.forall_mem_cons.2 ⟨Fact.none_st, List.forall_mem_nil _⟩⟩⟩⟩⟩⟩⟩⟩⟩⟩⟩⟩) _ ?hFr8 ?stepr8 ?doner8
   case hFr8 => intro x; simp only [frameL, Act.put, List.setIfInBounds_toArray, List.set_cons_zero, List.set_cons_succ, Nat.zero_add, Nat.reduceAdd]; exact rfl
   case stepr8 =>
    refine List.forall_mem_cons.2 ⟨?_, ?_⟩
    ·intro xv bv ev WW hB hd
     refine op_of rfl ?_
     clear hd
     intro KK hKK
     obtain ⟨z, -, -, -, -⟩ := bx0.out.below hB
     go_simp
     exact act_eq (hKK.out (.agg #[.slice fo (len F) fc]) _ (Below.refl _ _) rfl) (by first | rfl | simp [upd])
    refine List.forall_mem_cons.2 ⟨?_, ?_⟩
    ·intro xv bv ev WW hB hd
     refine op_of rfl ?_
     clear hd
     intro KK hKK
     obtain ⟨z, -, -, -, -⟩ := bx1.out.below hB
     go_simp
     exact act_eq (hKK.out (.agg #[.slice tl (len T) tc]) _ (Below.refl _ _) rfl) (by first | rfl | simp [upd])
    refine List.forall_mem_cons.2 ⟨?_, ?_⟩
    ·intro xv bv ev WW hB hd
     refine op_of rfl ?_
     clear hd
     intro KK hKK
     obtain ⟨z, -, -, -, -⟩ := bx2.out.below hB
     go_simp
     exact act_eq (hKK.out (.agg #[.slice qa (len Q) qk]) _ (Below.refl _ _) rfl) (by first | rfl | simp [upd])
    refine List.forall_mem_cons.2 ⟨?_, ?_⟩
    ·intro xv bv ev WW hB hd
     refine op_of rfl ?_
     clear hd
     intro KK hKK
     obtain ⟨z, -, -, -, -⟩ := bx3.out.below hB
     go_simp
     exact act_eq (hKK.out (.agg #[.slice bo (len K) cb]) _ (Below.refl _ _) rfl) (by first | rfl | simp [upd])
    refine List.forall_mem_cons.2 ⟨?_, ?_⟩
    ·intro xv bv ev WW hB hd
     refine op_of rfl ?_
     have ed2 : xv 2 = .agg #[.slice qa (len Q) qk] := hd 2 (by kernel_rfl)
     have ed3 : xv 3 = .agg #[.slice bo (len K) cb] := hd 3 (by kernel_rfl)
     clear hd
     intro KK hKK
     go_simp
     refine (CR1.out _ _ ((E15.out.below hB).nt 1 rfl) ((E15.out.below hB).nt 6 rfl)).mono ?_
     rintro e WW' ⟨⟨va, vk, rfl, hv⟩, hb⟩
     (try dsimp only)
     (try simp only [Act.put, List.setIfInBounds_toArray, List.set_cons_zero, List.set_cons_succ])
     exact act_eq (hKK.out _ _ hb ⟨_, _, rfl, hv⟩) (by first | rfl | simp [upd, ed2, ed3])
    refine List.forall_mem_cons.2 ⟨?_, ?_⟩
    ·intro xv bv ev WW hB hd
     refine op_of rfl ?_
     clear hd
     intro KK hKK
     obtain ⟨z, -, -, -, -⟩ := bx0.out.below hB
     go_simp
     exact act_eq (hKK.out (.agg #[.slice fo (len F) fc]) _ (Below.refl _ _) rfl) (by first | rfl | simp [upd])
    refine List.forall_mem_cons.2 ⟨?_, ?_⟩
    ·intro xv bv ev WW hB hd
     refine op_of rfl ?_
     clear hd
     intro KK hKK
     obtain ⟨z, -, -, -, -⟩ := bx3.out.below hB
     go_simp
     exact act_eq (hKK.out (.agg #[.slice bo (len K) cb]) _ (Below.refl _ _) rfl) (by first | rfl | simp [upd])
    refine List.forall_mem_cons.2 ⟨?_, ?_⟩
    ·intro xv bv ev WW hB hd
     refine op_of rfl ?_
     obtain ⟨va, vk, ed4, hv⟩ := (show (PNum (V)) (xv 4) (bv 4) (ev 4) WW from hd 4 (by kernel_rfl))
     have ed5 : xv 5 = .agg #[.slice fo (len F) fc] := hd 5 (by kernel_rfl)
     have ed6 : xv 6 = .agg #[.slice bo (len K) cb] := hd 6 (by kernel_rfl)
     clear hd
     intro KK hKK
     go_simp
     refine (CM1.out _ _ _ hv.out ((E15.out.below hB).nt 2 rfl) ((E15.out.below hB).nt 6 rfl)).mono ?_
     rintro e WW' ⟨⟨za, zk, rfl, hz⟩, hb⟩
     (try dsimp only)
     (try simp only [Act.put, List.setIfInBounds_toArray, List.set_cons_zero, List.set_cons_succ])
     exact act_eq (hKK.out _ _ hb ⟨_, _, rfl, hz⟩) (by first | rfl | simp [upd, ed4, ed5, ed6])
    refine List.forall_mem_cons.2 ⟨?_, ?_⟩
    ·intro xv bv ev WW hB hd
     refine op_of rfl ?_
     clear hd
     intro KK hKK
     obtain ⟨z, -, -, -, -⟩ := bx3.out.below hB
     go_simp
     exact act_eq (hKK.out (.agg #[.slice bo (len K) cb]) _ (Below.refl _ _) rfl) (by first | rfl | simp [upd])
    refine List.forall_mem_cons.2 ⟨?_, ?_⟩
    ·intro xv bv ev WW hB hd
     refine op_of rfl ?_
     have ed1 : xv 1 = .agg #[.slice tl (len T) tc] := hd 1 (by kernel_rfl)
     obtain ⟨za, zk, ed7, hz⟩ := (show (PNum (Z)) (xv 7) (bv 7) (ev 7) WW from hd 7 (by kernel_rfl))
     have ed8 : xv 8 = .agg #[.slice bo (len K) cb] := hd 8 (by kernel_rfl)
     clear hd
     intro KK hKK
     go_simp
     refine (CS1.out _ _ _ ((E15.out.below hB).nt 3 rfl) hz.out ((E15.out.below hB).nt 6 rfl)).mono ?_
     rintro e WW' ⟨⟨sa, sk, rfl, hs⟩, hb⟩
     (try dsimp only)
     (try simp only [Act.put, List.setIfInBounds_toArray, List.set_cons_zero, List.set_cons_succ])
     exact act_eq (hKK.out _ _ hb ⟨_, _, rfl, hs⟩) (by first | rfl | simp [upd, ed1, ed7, ed8])
    exact List.forall_mem_nil _
   intro xv bv ev w9 hB hR hO
   have ed0 : xv 0 = .agg #[.slice fo (len F) fc] := hR 0 (by kernel_rfl)
   have ed1 : xv 1 = .agg #[.slice tl (len T) tc] := hR 1 (by kernel_rfl)
   have ed2 : xv 2 = .agg #[.slice qa (len Q) qk] := hR 2 (by kernel_rfl)
   have ed3 : xv 3 = .agg #[.slice bo (len K) cb] := hR 3 (by kernel_rfl)
   obtain ⟨va, vk, ed4, hv⟩ := (show (PNum (V)) (xv 4) (bv 4) (ev 4) w9 from hR 4 (by kernel_rfl))
   have ed5 : xv 5 = .agg #[.slice fo (len F) fc] := hR 5 (by kernel_rfl)
   have ed6 : xv 6 = .agg #[.slice bo (len K) cb] := hR 6 (by kernel_rfl)
   obtain ⟨za, zk, ed7, hz⟩ := (show (PNum (Z)) (xv 7) (bv 7) (ev 7) w9 from hR 7 (by kernel_rfl))
   have ed8 : xv 8 = .agg #[.slice bo (len K) cb] := hR 8 (by kernel_rfl)
   obtain ⟨sa, sk, ed9, hs⟩ := (show (PNum (S)) (xv 9) (bv 9) (ev 9) w9 from hR 9 (by kernel_rfl))
   simp only [ed0, ed1, ed2, ed3, ed4, ed5, ed6, ed7, ed8, ed9]
   have E16 := Zh (((((E15.out.below hB).numN (hv.out : Nt _ _ (V))).numN (hz.out : Nt _ _ (Z))).numN (hs.out : Nt _ _ (S))))
   clear E15 E12 E13 hB hR hO bx0 bx1 bx2 bx3 ed0 ed1 ed2 ed3 ed4 ed5 ed6 ed7 ed8 ed9 hv hz hs
   obtain ⟨p9, f9, -, -, -⟩ := E16.out.box 3 rfl
   refine wpAny_next (i := 10) (by kernel_rfl) rfl (fun KK hKK => ?_)
   go_simp
   have E17 : Hid (EnvB w [(w5.heap.size + 1, .slice ua (len U) uk), (w5.heap.size, .slice qa (len Q) qk), (gr3_5, .slice fo (len F) fc), (gr3_4, .slice fo (len F) fc), (gr1_3, .slice ua (len U) uk), (gr1_2, .slice yo (len Y) yc), (w.heap.size + 1 + 1, .slice none 0 0), (w.heap.size + 1, .slice bo (len K) cb), (w.heap.size, .slice ao (len N) ca)] [(.slice sa (len S) sk, digs S), (.slice za (len Z) zk, digs Z), (.slice va (len V) vk, digs V), (.slice ua (len U) uk, digs U), (.slice qa (len Q) qk, digs Q), (.slice fo (len F) fc, digs F), (.slice tl (len T) tc, digs T), (.slice yo (len Y) yc, digs Y), (.slice ro (len R) rc, digs R), (.slice bo (len K) cb, digs K), (.slice ao (len N) ca, digs N)] _) := Zh ((E16.out.set 3 (.slice fo (len F) fc) rfl ⟨_, _, _, rfl⟩))
   refine hKK.out _ _ ?_
   clear hKK KK
   obtain ⟨p10, f10, -, -, -⟩ := E17.out.box 2 rfl
   refine wpAny_next (i := 11) (by kernel_rfl) rfl (fun KK hKK => ?_)
   go_simp
   have E18 : Hid (EnvB w [(w5.heap.size + 1, .slice ua (len U) uk), (w5.heap.size, .slice qa (len Q) qk), (gr3_5, .slice sa (len S) sk), (gr3_4, .slice fo (len F) fc), (gr1_3, .slice ua (len U) uk), (gr1_2, .slice yo (len Y) yc), (w.heap.size + 1 + 1, .slice none 0 0), (w.heap.size + 1, .slice bo (len K) cb), (w.heap.size, .slice ao (len N) ca)] [(.slice sa (len S) sk, digs S), (.slice za (len Z) zk, digs Z), (.slice va (len V) vk, digs V), (.slice ua (len U) uk, digs U), (.slice qa (len Q) qk, digs Q), (.slice fo (len F) fc, digs F), (.slice tl (len T) tc, digs T), (.slice yo (len Y) yc, digs Y), (.slice ro (len R) rc, digs R), (.slice bo (len K) cb, digs K), (.slice ao (len N) ca, digs N)] _) := Zh ((E17.out.set 2 (.slice sa (len S) sk) rfl ⟨_, _, _, rfl⟩))
   refine hKK.out _ _ ?_
   clear hKK KK
   refine wpAny_done (by kernel_rfl) ?_ _
   have E19 := Zh (E18.out)
   have EZ := Zh E19.out
   go_wp2
   go_roundg (U)
   case rel => exact ⟨Y, U, F, S, yo, ua, fo, sa, yc, uk, fc, sk, Zh ⟨EZ.out.1, EZ.out.2.1.2.2.2.2, ⟨EZ.out.sl 0 rfl, ⟨EZ.out.sl 5 rfl, ⟨EZ.out.sl 3 rfl, ⟨EZ.out.sl 7 rfl, ⟨EZ.out.sl 9 rfl, ⟨EZ.out.sl 10 rfl, trivial⟩⟩⟩⟩⟩⟩⟩, HK2⟩
   case measure => exact HM.out
end Nn
namespace Nn
open Go.RowKit NatMath
set_option maxRecDepth 100000 in
set_option maxHeartbeats 1000000 in
theorem Inverse_t (ao : Option Addr) (ca : Nat) (bo : Option Addr) (cb : Nat) (N K : Nat) (V : Nat) (w : World) (ha : Nt w (.slice ao (len N) ca) N) (hb : Nt w (.slice bo (len K) cb) K) (hV : invV N K = V) (ht : decide (invG N K = 1) = true) (hn : N < K) (hk : len K ≤ 32) :
  Calls Tryz.prog 37 #[.agg #[.slice ao (len N) ca], .agg #[.slice bo (len K) cb]] w fun e w' => ResN V 0 e w' ∧ Below w.heap.size w w' := by
 have CG := Zh (fun W ha hb hc => @given_ok (.slice ao (len N) ca) (.slice ao (len N) ca) (.slice bo (len K) cb) N N K W hn hn hk ha hb hc)
 have CI := Zh (fun W ha hb => inverse_w ao ca bo cb N K V true W ha hb hV ht hn hk)
 clear hV ht hn hk
 have E0 := Zh (((EnvB.start w).numN ha).numN hb)
 clear ha hb
 go_enter Tryz.func37, Tryz.ntmps37
 go_wp2_with fail
 have E1 := Zh ((((E0.out.push (.slice ao (len N) ca) 24 ⟨_, _, _, rfl⟩ (w.heap.size) (by simp)).push (.slice bo (len K) cb) 24 ⟨_, _, _, rfl⟩ (w.heap.size + 1) (by simp)).push (.slice none 0 0) 24 ⟨_, _, _, rfl⟩ (w.heap.size + 1 + 1) (by simp)))
 refine (CG.out _ (E1.out.nt 1 rfl) (E1.out.nt 1 rfl) (E1.out.nt 0 rfl)).mono ?_
 rintro e w1 ⟨rfl, hb⟩
 have E2 := Zh ((E1.out.below hb))
 clear E1 E0 hb
 obtain ⟨p1, f1, -, -, -⟩ := E2.out.box 2 rfl
 obtain ⟨p2, f2, -, -, -⟩ := E2.out.box 1 rfl
 go_wp2_with fail
 refine (CI.out _ (E2.out.nt 1 rfl) (E2.out.nt 0 rfl)).mono ?_
 rintro e w2 ⟨⟨va, vk, rfl, hv⟩, hb⟩
 have E3 := Zh (((E2.out.below hb).numN (hv.out : Nt _ _ V)))
 clear p1 f1 p2 f2 E2 hb hv
 have E4 := Zh ((E3.out.push (.slice va (len V) vk) 24 ⟨_, _, _, rfl⟩ (w2.heap.size) (by simp)))
 obtain ⟨p3, f3, -, -, -⟩ := E4.out.box 1 rfl
 have E5 : Hid (EnvB w [(w2.heap.size, .slice va (len V) vk), (w.heap.size + 1 + 1, .slice va (len V) vk), (w.heap.size + 1, .slice bo (len K) cb), (w.heap.size, .slice ao (len N) ca)] [(.slice va (len V) vk, digs V), (.slice bo (len K) cb, digs K), (.slice ao (len N) ca, digs N)] _) := Zh ((E4.out.set 1 (.slice va (len V) vk) rfl ⟨_, _, _, rfl⟩))
 have hfin := Zh E5.out
 obtain ⟨rc, -, -, -, -⟩ := E5.out.box 1 rfl
 go_wp2
 exact bodyPost_ret (v := .tuple #[.agg #[.slice va (len V) vk], .int .i64 0]) (by simp [results, Tryz.results37, go_sem, rc]) rfl ⟨⟨_, _, rfl, Zh (hfin.out.nt 0 rfl)⟩, hfin.out.1⟩
set_option maxRecDepth 100000 in
set_option maxHeartbeats 1000000 in
theorem Inverse_f (ao : Option Addr) (ca : Nat) (bo : Option Addr) (cb : Nat) (N K : Nat) (V : Nat) (w : World) (ha : Nt w (.slice ao (len N) ca) N) (hb : Nt w (.slice bo (len K) cb) K) (hV : invV N K = V) (ht : decide (invG N K = 1) = false) (hn : N < K) (hk : len K ≤ 32) :
  Calls Tryz.prog 37 #[.agg #[.slice ao (len N) ca], .agg #[.slice bo (len K) cb]] w fun e w' => ResN 0 10 e w' ∧ Below w.heap.size w w' := by
 have CG := Zh (fun W ha hb hc => @given_ok (.slice ao (len N) ca) (.slice ao (len N) ca) (.slice bo (len K) cb) N N K W hn hn hk ha hb hc)
 have CI := Zh (fun W ha hb => inverse_w ao ca bo cb N K V false W ha hb hV ht hn hk)
 clear hV ht hn hk
 have E0 := Zh (((EnvB.start w).numN ha).numN hb)
 clear ha hb
 go_enter Tryz.func37, Tryz.ntmps37
 go_wp2_with fail
 have E1 := Zh ((((E0.out.push (.slice ao (len N) ca) 24 ⟨_, _, _, rfl⟩ (w.heap.size) (by simp)).push (.slice bo (len K) cb) 24 ⟨_, _, _, rfl⟩ (w.heap.size + 1) (by simp)).push (.slice none 0 0) 24 ⟨_, _, _, rfl⟩ (w.heap.size + 1 + 1) (by simp)))
 refine (CG.out _ (E1.out.nt 1 rfl) (E1.out.nt 1 rfl) (E1.out.nt 0 rfl)).mono ?_
 rintro e w1 ⟨rfl, hb⟩
 have E2 := Zh ((E1.out.below hb))
 clear E1 E0 hb
 obtain ⟨p1, f1, -, -, -⟩ := E2.out.box 2 rfl
 obtain ⟨p2, f2, -, -, -⟩ := E2.out.box 1 rfl
 go_wp2_with fail
 refine (CI.out _ (E2.out.nt 1 rfl) (E2.out.nt 0 rfl)).mono ?_
 rintro e w2 ⟨⟨va, vk, rfl, hv⟩, hb⟩
 have E3 := Zh (((E2.out.below hb).numN (hv.out : Nt _ _ V)))
 clear p1 f1 p2 f2 E2 hb hv
 have E4 := Zh ((E3.out.push (.slice va (len V) vk) 24 ⟨_, _, _, rfl⟩ (w2.heap.size) (by simp)))
 obtain ⟨p3, f3, -, -, -⟩ := E4.out.box 1 rfl
 have E5 : Hid (EnvB w [(w2.heap.size, .slice va (len V) vk), (w.heap.size + 1 + 1, .slice none 0 0), (w.heap.size + 1, .slice bo (len K) cb), (w.heap.size, .slice ao (len N) ca)] [(.slice va (len V) vk, digs V), (.slice bo (len K) cb, digs K), (.slice ao (len N) ca, digs N)] _) := Zh ((E4.out.set 1 (.slice none 0 0) rfl ⟨_, _, _, rfl⟩))
 have hfin := Zh E5.out
 obtain ⟨rc, -, -, -, -⟩ := E5.out.box 1 rfl
 go_wp2
 exact bodyPost_ret (v := .tuple #[.agg #[.slice none 0 0], .int .i64 10]) (by simp [results, Tryz.results37, go_sem, rc]) rfl ⟨ResN.zero _ _, hfin.out.1⟩
end Nn
end Go.Proofs.YtikopkkebdobdaaGreatDoor

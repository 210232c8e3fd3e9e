/- poly.mul, and the value of a polynomial: a range over slices.Backward. -/
import Derived.RangeFuncNested
import Derived.RangeFuncBound
import Derived.RangeFuncCalls
import Derived.RangeFuncLeaves
import Derived.RangeFuncWrites
import Derived.RangeFuncBox
import Derived.Shelf.Abstract
import Derived.Shelf.RegionOpen
import Derived.WalkKit
import Derived.OwnWalkIn
import Derived.TacticsInMore
import Derived.LoopNIn
import Derived.LoopIn
import Derived.Test.YteipbcpnnojclaaDoorPriE
namespace Go.Proofs.YteipbcpnnojclaaDoor
open Go.RowKit Go.Shelf DivMath WordMath
attribute [local go_sem] Oper.semAt_some
set_option linter.unusedVariables false

set_option maxHeartbeats 400000 in
theorem polmul_c (q a b : Nat) (w : World) (ha : (a : Int) < (q : Int)) (hb : (b : Int) < (q : Int)) (hm : (q : Int) < Top) :
    Calls Tryd.prog 58 #[.int .i64 q, .int .i64 a, .int .i64 b] w fun e w' => RetN (fun r => r = a * b % q) e ∧ Qw w w' := by
  go_enter Tryd.func58, Tryd.ntmps58
  go_wp2_with (first | (go_at_call 24; refine (Mul_ok _ _ _ _ ha hb hm).mono ?_; rintro e w' ⟨⟨r, hr, rfl⟩, n, rfl⟩))
  go_ret
  exact ⟨⟨r, hr, rfl⟩, _, rfl⟩

namespace Back
def upto {α : Type} (f : Nat → α) (k : Nat) : List α := (List.range k).map f
theorem upto_succ {α : Type} (f : Nat → α) (k : Nat) : upto f (k + 1) = upto f k ++ [f k] := by simp [upto, List.range_succ]
theorem upto_length {α : Type} (f : Nat → α) (k : Nat) : (upto f k).length = k := by simp [upto]
/-- the residues zs, from the last one on -/
def at_ {q : Nat} (hq : 0 < q) (zs : List (Fin q)) (j : Nat) : Nat × Fin q := (zs.length - 1 - j, zs[zs.length - 1 - j]?.getD ⟨0, hq⟩)
end Back
open Back

/-- what a round keeps: whatever lay below n₀, and the iterator's own cell -/
def KB (n₀ Bs : Nat) (A B : World) : Prop := Below n₀ A B ∧ ∀ v, A.cell? ⟨Bs, 0, none⟩ = some v → B.cell? ⟨Bs, 0, none⟩ = some v
theorem KB.refl (n₀ Bs : Nat) (A : World) : KB n₀ Bs A A := ⟨Below.refl _ _, fun _ h => h⟩
theorem KB.trans {n₀ Bs : Nat} {A B C : World} (h : KB n₀ Bs A B) (k : KB n₀ Bs B C) : KB n₀ Bs A C := ⟨h.1.trans k.1, fun v e => k.2 v (h.2 v e)⟩
theorem KB.b {n₀ Bs : Nat} {w : World} (hn : n₀ ≤ w.heap.size) (W : World) (l : Nat) (o o' : Obj) (hl : w.heap.size ≤ l) (h : W.heap[l]? = some o) (hc : o.isCells = false) (hw : o.isWalk = false) : KB n₀ Bs W (W.putObj l o') :=
  ⟨belowK_b hn W l o o' hl h hc hw, fun v e => cell_kept e (grownBy_putObj' W l o') (fun r e => by cases e; exact ⟨o, h, hc⟩)⟩

set_option maxRecDepth 100000 in
set_option maxHeartbeats 2000000 in
theorem back1_in (F : Fence) (n : Nat) (h8 : F.fn 145) (hro : F.round = none) (hn : 1 ≤ n) (l Bs n₀ b off cap q : Nat) (hq : 0 < q) (zs : List (Fin q)) (hreach : zs.length * 8 ≤ 140737488351232) (hb : b < n₀) (J Jx : List (Nat × Fin q) → World → Prop)
    (hY : ∀ pre x W, J pre W → pre.length < zs.length → YieldAt F (n - 1) Tryd.prog l #[.int .i64 (x.1 : Int), .int .i64 (x.2.val : Int)] W fun e W' =>
      (e = .returned (.bool true) ∧ J (pre ++ [x]) W' ∧ KB n₀ Bs W W') ∨ (e = .returned (.bool false) ∧ Jx (pre ++ [x]) W'))
    (W : World) (hBs : W.cell? ⟨Bs, 0, none⟩ = some (.slice (some ⟨b, off, none⟩) zs.length cap)) (hc : ∀ j, j < zs.length → W.cell? ⟨b, off + j, none⟩ = some (.int .i64 ((zs[j]?.getD ⟨0, hq⟩).val : Int))) (h0 : J [] W) :
    CallsIn F n Tryd.prog 145 #[.func (.yield l) #[] #[], .pointer (some ⟨Bs, 0, none⟩)] W fun e W' => (∃ v, e = .returned v) ∧
      ((∃ ys, ys = upto (at_ hq zs) zs.length ∧ J ys W') ∨ (∃ pre, (∃ k, k ≤ zs.length ∧ pre = upto (at_ hq zs) k) ∧ Jx pre W')) := by
  refine callsIn_of_wp Tryd.func145 rfl h8 ?_ hro
  simp only [Tryd.ntmps145, List.size_toArray, List.length_cons, List.length_nil, Nat.reduceAdd, Nat.reduceSub, Array.replicate_succ, Array.replicate_zero, List.push_toArray, List.append_toArray, List.nil_append, List.cons_append]
  have hat : ∀ j, at_ hq zs j = (zs.length - 1 - j, zs[zs.length - 1 - j]?.getD ⟨0, hq⟩) := fun _ => rfl
  have HAT := Lib.hid hat
  clear hat
  obtain ⟨len, hlen⟩ : ∃ len, len = zs.length := ⟨_, rfl⟩
  rw [← hlen] at hBs hc hY hreach HAT
  have hl9 : (len : Int) ≤ 17592186043904 := by omega
  have HL := Lib.hid hlen
  rw [← hlen]
  have hwl : wrap64 ((len : Int) - 1) = (len : Int) - 1 := IntWalk.wrap64_in _ (by omega)
  clear hreach hlen
  gi_wp2
  gi_loopw [3] (fun i wr => ∃ (k : Nat) (x : Int), i = .int .i64 x ∧ Hid (x = (len : Int) - 1 - (k : Int)) ∧ Hid (k ≤ len) ∧ J (upto (at_ hq zs) k) wr ∧ KB n₀ Bs W wr)
    (fun i _ => ((intOf i) + 1).toNat)
  case atStart => exact ⟨0, _, rfl, Lib.hid (by simp), Lib.hid (Nat.zero_le _), h0, KB.refl _ _ _⟩
  case round =>
    obtain ⟨k, x, rfl, hx, hk, hJs, hnx⟩ := hrel
    have hbx := hnx.2 _ hBs
    by_cases hlt : k < len
    · obtain ⟨d, rfl⟩ : ∃ d : Nat, x = (d : Int) := ⟨x.toNat, by have := hx.out; omega⟩
      have hdl : d < len := by have := hx.out; omega
      have hdk : d = len - 1 - k := by have := hx.out; omega
      obtain ⟨z, hz⟩ : ∃ z, z = zs[d]?.getD ⟨0, hq⟩ := ⟨_, rfl⟩
      have hcx : wr.cell? ⟨b, off + d, none⟩ = some (.int .i64 (z.val : Int)) := by rw [hz]; exact (hnx.1.cell (p := ⟨b, off + d, none⟩) hb).trans (hc d hdl)
      have hY2 := hY _ (d, z) wr hJs (by rw [upto_length]; exact hlt)
      have hap : upto (at_ hq zs) k ++ [(d, z)] = upto (at_ hq zs) (k + 1) := by rw [upto_succ, HAT.out, ← hdk, ← hz]
      rw [hap] at hY2
      obtain ⟨fn, tmps, assign, body, hy, hR⟩ := hY2
      dsimp only at hy
      have hd0 : decide ((0 : Int) ≤ (d : Int)) = true := decide_eq_true (by omega)
      have hdl2 : (d : Int) < (len : Int) := by omega
      have hdn : Hid (d = len - 1 - k) := Lib.hid hdk
      have HLT := Lib.hid hlt
      clear hap hz hdk hY hx hlt
      gi_wp2
      refine hR.mono ?_
      rintro e W3 (⟨rfl, hJ3, hk3⟩ | ⟨rfl, hJx3⟩)
      · gi_wp2
        go_roundw
        case rel => exact ⟨k + 1, (d : Int) - 1, by first | rfl | simp, Lib.hid (by have := hdn.out; have := HLT.out; omega), Lib.hid (by have := HLT.out; omega), hJ3, hnx.trans hk3⟩
        case measure => simp [intOf]
      · gi_wp2
        refine bodyPost_ret (results_none rfl _ _ _) rfl ?_
        exact ⟨⟨_, rfl⟩, .inr ⟨_, ⟨k + 1, by have := HLT.out; omega, rfl⟩, hJx3⟩⟩
    · obtain rfl : k = len := by have := hk.out; omega
      obtain rfl : x = -1 := by have := hx.out; omega
      gi_wp2
      go_end0
      exact ⟨⟨_, rfl⟩, .inl ⟨_, rfl, hJs⟩⟩
end Go.Proofs.YteipbcpnnojclaaDoor

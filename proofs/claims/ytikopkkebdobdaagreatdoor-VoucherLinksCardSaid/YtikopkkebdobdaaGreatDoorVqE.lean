/- Picked declarations of VpB. -/
import Derived.Below
import Derived.BigQuiet
import Derived.Deep.AppendSrc
import Derived.Deep.CutBlock
import Derived.Deep.DeepCutAuto
import Derived.Deep.LoopGhost
import Derived.Deep.QuietTactic
import Derived.Deep.RegionHeld
import Derived.Deep.RegionHeld3
import Derived.Deep.RegionWith
import Derived.Deep.Upon
import Derived.IntWalk
import Derived.Laws.Bits64b
import Derived.Laws.BitsAllLaws
import Derived.Laws.NewBlocks
import Derived.Laws.OwnMore
import Derived.Lib.BitFns
import Derived.Lib.Hide
import Derived.Lib.ItoaNum
import Derived.Lib.TrailingZeros
import Derived.LoopN
import Derived.Maps.AppendAt
import Derived.OneCell
import Derived.Outline
import Derived.OwnWalk
import Derived.RegionTactic
import Derived.RowKit3
import Derived.Shelf.SlicesE.Clone
import Derived.Shelf.Spec.TrailingZeros
import Derived.WalkKit
import Derived.WalkLawsBesides
import Derived.WalkSmall
import Derived.Test.YtikopkkebdobdaaGreatDoorVqD
import Derived.Test.YtikopkkebdobdaaGreatDoorVqC
namespace Go.Proofs.YtikopkkebdobdaaGreatDoor
set_option linter.unusedVariables false
set_option linter.unusedSimpArgs false
open Go.RowKit DivMath WordMath
/-- the cells of a number of one word -/
def wd (N : Nat) : List Value := [.int .u32 (N : Int)]
/-- a number of one word that is not 0 -/
def One (N : Nat) : Prop := 0 < N ∧ N < 4294967296
theorem digs_one {N : Nat} (h : One N) : Nn.NatMath.digs N = [N] := by
  rw [Nn.NatMath.digs_pos (by have := h.1; omega), Nat.mod_eq_of_lt h.2, Nat.div_eq_of_lt h.2, Nn.NatMath.digs_zero]
theorem len_one' {N : Nat} (h : One N) : Nn.NatMath.len N = 1 := by unfold Nn.NatMath.len; rw [digs_one h]; rfl
theorem len_le {N : Nat} (h : One N) : Nn.NatMath.len N ≤ 64 := by rw [len_one' h]; omega
theorem nt_of {W : World} {D : Nat → Prop} {a : Option Addr} {k N : Nat} (h : Fct.at W D (.rw (.slice a 1 k) 1 1 (wd N))) (hN : One N) : Nn.Nt W (.slice a 1 k) N := by
  obtain ⟨ao, cap, e, h1, h2, h3, h4, h5⟩ := h
  obtain ⟨b, off, h6, h7, h8⟩ := h5 (by omega)
  cases e
  unfold Nn.Nt
  rw [digs_one hN]
  refine ⟨a, k, rfl, h1, h2, by simpa using hN.2, fun _ => ⟨b, off, h6, h7.1, fun i hi => ?_⟩, fun x hx => by rw [h6] at hx; cases hx; rfl⟩
  have : i = 0 := by simp at hi; omega
  subst this
  exact h8 0 _ rfl
theorem rw_of {W : World} {v : Value} {N : Nat} (h : Nn.Nt W v N) (hN : One N) : ∃ b off k, v = .slice (some ⟨b, off, none⟩) 1 k ∧ 1 ≤ k ∧ k ≤ 9223372036854775807 ∧ b < W.heap.size ∧ W.cell? ⟨b, off, none⟩ = some (.int .u32 (N : Int)) := by
  unfold Nn.Nt at h
  rw [digs_one hN] at h
  obtain ⟨ao, cap, rfl, h1, h2, _, h4, _⟩ := h
  obtain ⟨b, off, rfl, h5, h6⟩ := h4 (by simp)
  exact ⟨b, off, cap, rfl, h1, h2, h5, h6 0 (by simp)⟩
theorem Rw.one {W : World} {D : Nat → Prop} {b off k N : Nat} (h1 : 1 ≤ k) (h2 : k ≤ 9223372036854775807) (h3 : b < W.heap.size) (hD : D b) (h4 : W.cell? ⟨b, off, none⟩ = some (.int .u32 (N : Int))) : Rw W D (.slice (some ⟨b, off, none⟩) 1 k) 1 1 (wd N) :=
  ⟨_, k, rfl, h1, h2, rfl, by intro u hu; simp [wd] at hu; subst hu; rfl, fun _ => ⟨b, off, rfl, ⟨h3, hD⟩, fun i u hu => by
    rcases i with _ | i
    · simp [wd] at hu; subst hu; exact h4
    · simp [wd] at hu⟩⟩
/-- a number of one word came back -/
def RetA1 (D : Nat → Prop) (N : Nat) (e : Ending) (W : World) : Prop := ∃ ao k, e = .returned (.agg #[.slice ao 1 k]) ∧ Hid (Rw W D (.slice ao 1 k) 1 1 (wd N))
/-- and the error 0 -/
def RetT1 (D : Nat → Prop) (N : Nat) (e : Ending) (W : World) : Prop := ∃ ao k, e = .returned (.tuple #[.agg #[.slice ao 1 k], .int .i64 0]) ∧ Hid (Rw W D (.slice ao 1 k) 1 1 (wd N))
theorem ret_of {W : World} {B N : Nat} {e : Ending} (h : Nn.RetN (fun w' v' => Nn.Nt w' v' N ∧ Nn.Fr B v') e W) (hN : One N) : RetT1 (fun b => B ≤ b) N e W := by
  obtain ⟨v, hv, rfl⟩ := h
  obtain ⟨b, off, k, rfl, h1, h2, h3, h4⟩ := rw_of hv.out.1 hN
  exact ⟨_, k, rfl, Lib.hid (Rw.one h1 h2 h3 (hv.out.2 _ _ _ rfl) h4)⟩
section
variable {D : Nat → Prop} {xa ya za : Option Addr} {xk yk zk : Nat} {w : World} {N M K : Nat}
theorem valid1 (hN : One N) (ha : Fct.at w D (.rw (.slice xa 1 xk) 1 1 (wd N))) : Calls Tryz.prog 57 #[.agg #[.slice xa 1 xk]] w fun e w' => e = .returned (.bool true) ∧ Below w.heap.size w w' :=
  Nn.validN (len_le hN) (nt_of ha hN)
theorem bits1 {n : Nat} (hn : Nn.NatMath.bl N = n) (hN : One N) (ha : Fct.at w D (.rw (.slice xa 1 xk) 1 1 (wd N))) : Calls Tryz.prog 67 #[.agg #[.slice xa 1 xk]] w fun e w' => e = .returned (.int .i64 (n : Nat)) ∧ Below w.heap.size w w' :=
  Nn.bitsF hn (len_le hN) (nt_of ha hN)
theorem cmp1 {c : Int} (hc : Nn.NatMath.cmp N M = c) (hN : One N) (hM : One M) (ha : Fct.at w D (.rw (.slice xa 1 xk) 1 1 (wd N))) (hb : Fct.at w D (.rw (.slice ya 1 yk) 1 1 (wd M))) : Calls Tryz.prog 28 #[.agg #[.slice xa 1 xk], .agg #[.slice ya 1 yk]] w fun e w' => e = .returned (.int .i64 c) ∧ Below w.heap.size w w' :=
  Nn.compareF hc (nt_of ha hN) (nt_of hb hM) (len_le hN) (len_le hM)
theorem sub1 {S : Nat} (hS : N - M = S) (h0 : One S) (hN : One N) (hM : One M) (ha : Fct.at w D (.rw (.slice xa 1 xk) 1 1 (wd N))) (hb : Fct.at w D (.rw (.slice ya 1 yk) 1 1 (wd M))) : Calls Tryz.prog 68 #[.agg #[.slice xa 1 xk], .agg #[.slice ya 1 yk]] w fun e w' => RetT1 (fun b => w.heap.size ≤ b) S e w' ∧ Below w.heap.size w w' := by
  subst hS
  exact (Nn.Sub_ok _ _ N M w (nt_of ha hN) (nt_of hb hM) (len_le hN) (len_le hM) (by have := h0.1; omega)).mono (fun e w' h => ⟨ret_of h.1 h0, h.2⟩)
theorem mul1 {S : Nat} (hS : N * M = S) (h0 : One S) (hN : One N) (hM : One M) (ha : Fct.at w D (.rw (.slice xa 1 xk) 1 1 (wd N))) (hb : Fct.at w D (.rw (.slice ya 1 yk) 1 1 (wd M))) : Calls Tryz.prog 66 #[.agg #[.slice xa 1 xk], .agg #[.slice ya 1 yk]] w fun e w' => RetT1 (fun b => w.heap.size ≤ b) S e w' ∧ Below w.heap.size w w' := by
  subst hS
  refine (Nn.Mul_ok _ _ N M w (nt_of ha hN) (nt_of hb hM) (len_le hN) (len_le hM)).mono (fun e w' h => ⟨?_, h.2⟩)
  rcases h.1 with h1 | h1
  · exact ret_of h1.2 h0
  · exact absurd (len_le h0) h1.1
/-- the quotient is of one word; nothing is said of the rest -/
theorem div1 {q : Nat} (hq : N / M = q) (h0 : One q) (hN : One N) (hM : One M) (ha : Fct.at w D (.rw (.slice xa 1 xk) 1 1 (wd N))) (hb : Fct.at w D (.rw (.slice ya 1 yk) 1 1 (wd M))) : Calls Tryz.prog 45 #[.agg #[.slice xa 1 xk], .agg #[.slice ya 1 yk]] w fun e w' => (∃ ao k bo n j, e = .returned (.tuple #[.agg #[.slice ao 1 k], .agg #[.slice bo n j], .int .i64 0]) ∧ Hid (Rw w' (fun b => w.heap.size ≤ b) (.slice ao 1 k) 1 1 (wd q))) ∧ Below w.heap.size w w' := by
  subst hq
  refine (Nn.Div_c _ _ N M w (nt_of ha hN) (nt_of hb hM) (len_le hN) (len_le hM) (by have := hM.1; omega)).mono (fun e w' h => ⟨?_, h.2⟩)
  obtain ⟨u, v, hv, rfl⟩ := h.1
  obtain ⟨k1, k2, k3, k4⟩ := hv.out
  obtain ⟨b, off, k, rfl, h1, h2, h3, h4⟩ := rw_of k1 h0
  obtain ⟨bo, j, rfl, _⟩ := k3.open
  exact ⟨_, k, bo, _, j, rfl, Lib.hid (Rw.one h1 h2 h3 (k2 _ _ _ rfl) h4)⟩
theorem of1 (hN : One N) : Calls Tryz.prog 93 #[.int .i64 (N : Nat)] w fun e w' => RetT1 (fun b => w.heap.size ≤ b) N e w' ∧ Below w.heap.size w w' :=
  (Nn.Of_ok N w (by have := hN.2; omega)).mono (fun e w' h => ⟨ret_of h.1 hN, h.2⟩)
/-- where the power's words lie is not said -/
theorem pow1 {S : Nat} (hS : N ^ M % K = S) (h0 : One S) (hN : One N) (hM : One M) (hK : One K) (hlt : N < K) (ha : Fct.at w D (.rw (.slice xa 1 xk) 1 1 (wd N))) (hb : Fct.at w D (.rw (.slice ya 1 yk) 1 1 (wd M))) (hc : Fct.at w D (.rw (.slice za 1 zk) 1 1 (wd K))) : Calls Tryz.prog 36 #[.agg #[.slice xa 1 xk], .agg #[.slice ya 1 yk], .agg #[.slice za 1 zk]] w fun e w' => RetT1 (fun _ => True) S e w' ∧ Below w.heap.size w w' := by
  subst hS
  have h := Nn.Pow_w xa xk ya yk za zk N M K w (by rw [len_one' hN]; exact nt_of ha hN) (by rw [len_one' hM]; exact nt_of hb hM) (by rw [len_one' hK]; exact nt_of hc hK) (len_le hM) hlt (by rw [len_one' hK]; omega)
  rw [len_one' hN, len_one' hM, len_one' hK] at h
  refine h.mono (fun e w' h => ⟨?_, h.2⟩)
  obtain ⟨ao, k, rfl, hv⟩ := h.1
  rw [len_one' h0] at hv ⊢
  obtain ⟨b, off, k', e, h1, h2, h3, h4⟩ := rw_of hv.out h0
  cases e
  exact ⟨_, _, rfl, Lib.hid (Rw.one h1 h2 h3 trivial h4)⟩
end
theorem Rw.from2 {W : World} {B n k : Nat} {v : Value} {cs : List Value} (h : Fct.at W (fun b => False ∨ B ≤ b) (.rw v n k cs)) : Rw W (fun b => B ≤ b) v n k cs := Rw.turn h (Nat.le_refl _) (fun _ _ h => h.resolve_left id) (fun _ _ _ _ => rfl)
/-- a number lies in no box of slices -/
theorem Env.gotW {w W W' : World} {F : List Bx} {G : List Fct} (h : Env (fun _ => True) w F G W) (hb : Below W.heap.size W W') {a : Option Addr} {k N : Nat} (hn : Rw W' (fun _ => True) (.slice a 1 k) 1 1 (wd N)) (hF : ∀ p ∈ F, ∀ u ∈ p.2.2, ∃ x y z, u = .slice x y z) : Env (fun _ => True) w F (.rw (.slice a 1 k) 1 1 (wd N) :: G) W' := by
  have h' := h.below hb
  obtain ⟨ao, cap, e, h1, h2, h3, h4, h5⟩ := hn
  obtain ⟨b, off, h6, h7, h8⟩ := h5 (by omega)
  cases e
  subst h6
  refine h'.note _ (Rw.one h1 h2 h7.1 ⟨fun p hp e => ?_, .inl trivial⟩ (h8 0 _ rfl))
  subst e
  have hB := (held_iff.1 h'.box).1 p hp
  have hc := h8 0 _ rfl
  rw [cell_of_row W' p.1 _ p.2.2.toArray p.2.1 (0, 0) hB.2] at hc
  simp only [Nat.add_zero, List.getElem?_toArray] at hc
  obtain ⟨x, y, z, hu⟩ := hF p hp _ (List.mem_of_getElem? hc)
  cases hu
set_option maxRecDepth 100000 in
set_option maxHeartbeats 1000000 in
theorem nat1 (N : Nat) {w : World}  (hN0 : One N) :
    Calls Tryz.prog 61 #[.int .i64 (N : Nat)] w fun e w' => RetA1 (fun b => w.heap.size ≤ b) N e w' ∧ Below w.heap.size w w' := by
  have E0 := Lib.hid (Env.start (fun _ => False) w)
  go_enter Tryz.func61, Tryz.ntmps61
  have hN := Lib.hid hN0
  clear hN0
  go_wp2_with fail
  have E1 : Hid (Env (fun _ => False) w [(w.heap.size, 24, [.slice none 0 0])] [] _) := Lib.hid ((E0.out.push 24 [.slice none 0 0] (w.heap.size) (by simp)))
  refine (of1 hN.out).mono ?_
  rintro e w1 ⟨⟨ya, yk, rfl, yh⟩, hb⟩
  have E2 := Lib.hid (E1.out.got (E1.out.below hb) (.rw (.slice ya 1 yk) 1 1 (wd N)) (Lib.hid (Rw.ge yh.out)).out)
  clear E0 E1 hb
  have E3 : Hid (Env (fun _ => False) w [(w1.heap.size, 24, [.slice ya 1 yk]), (w.heap.size, 24, [.slice none 0 0])] [.rw (.slice ya 1 yk) 1 1 (wd N)] _) := Lib.hid ((E2.out.push 24 [.slice ya 1 yk] (w1.heap.size) (by simp)))
  have b1 := E3.out.bx 1 rfl
  have c1_0 := b1.cell 0 rfl
  have f1_0 := b1.frozen 0
  clear b1
  go_wp2
  have E4 : Hid (Env (fun _ => False) w [(w1.heap.size, 24, [.slice ya 1 yk]), (w.heap.size, 24, [.slice ya 1 yk])] [.rw (.slice ya 1 yk) 1 1 (wd N)] _) := Lib.hid ((E3.out.set 1 0 (.slice ya 1 yk) rfl))
  have hfin := E4.out
  have q2 := (hfin.bx 1 rfl).cell 0 rfl
  exact bodyPost_ret (v := .agg #[.slice ya 1 yk]) (by simp [results, Tryz.results61, go_sem, q2]) rfl ⟨⟨ya, yk, rfl, Lib.hid (Rw.from2 (hfin.out 0 rfl))⟩, hfin.bel⟩
set_option maxRecDepth 100000 in
set_option maxHeartbeats 1000000 in
theorem one1 (N R X : Nat) {xa ya za ua : Option Addr} {xk yk zn zk uk : Nat} {w : World} (hx : Fct.at w (fun _ => True) (.rw (.slice xa 1 xk) 1 1 (wd N))) (hy : Fct.at w (fun _ => True) (.rw (.slice ya 1 yk) 1 1 (wd R))) (hu : Fct.at w (fun _ => True) (.rw (.slice ua 1 uk) 1 1 (wd X))) (S : Nat) (hS0 : R ^ X % N = S) (h00 : One S) (hN0 : One N) (hR0 : One R) (hX0 : One X) (hlt : R < N) {t : Bool} (ht0 : decide (S = 1) = t) :
    Calls Tryz.prog 125 #[.agg #[.slice xa 1 xk, .slice ya 1 yk, .slice za zn zk], .agg #[.slice ua 1 uk]] w fun e w' => e = .returned (.bool t) ∧ Below w.heap.size w w' := by
  have E0 := Lib.hid ((((Env.start (fun _ => True) w).arg (.rw (.slice xa 1 xk) 1 1 (wd N)) hx).arg (.rw (.slice ya 1 yk) 1 1 (wd R)) hy).arg (.rw (.slice ua 1 uk) 1 1 (wd X)) hu)
  clear hx hy hu
  go_enter Tryz.func125, Tryz.ntmps125
  have hS := Lib.hid hS0
  have h0 := Lib.hid h00
  have hN := Lib.hid hN0
  have hR := Lib.hid hR0
  have hX := Lib.hid hX0
  have ht := Lib.hid ht0
  clear hS0 h00 hN0 hR0 hX0 ht0
  obtain ⟨c, hc⟩ : ∃ c, Nn.NatMath.cmp S 1 = c := ⟨_, rfl⟩
  have HC := Lib.hid hc
  have t1 : (c == 0) = t := by rw [← hc, Nn.NatMath.cmp_zero_iff, ht.out]
  clear hc
  have hlt2 := Lib.hid hlt
  clear hlt
  go_wp2_with fail
  have E1 : Hid (Env (fun _ => True) w [(w.heap.size + 1, 24, [.slice ua 1 uk]), (w.heap.size, 57, [.slice xa 1 xk, .slice ya 1 yk, .slice za zn zk])] [.rw (.slice ua 1 uk) 1 1 (wd X), .rw (.slice ya 1 yk) 1 1 (wd R), .rw (.slice xa 1 xk) 1 1 (wd N)] _) := Lib.hid (((E0.out.push 57 [.slice xa 1 xk, .slice ya 1 yk, .slice za zn zk] (w.heap.size) (by simp)).push 24 [.slice ua 1 uk] (w.heap.size + 1) (by simp)))
  refine (pow1 hS.out h0.out hR.out hX.out hN.out hlt2.out (E1.out.fc 1 rfl) (E1.out.fc 0 rfl) (E1.out.fc 2 rfl)).mono ?_
  rintro e w1 ⟨⟨va, vk, rfl, vh⟩, hb⟩
  have E2 := Lib.hid (E1.out.gotW hb vh.out (by intro p hp u hu; simp at hp; rcases hp with rfl | rfl <;> (simp at hu; (try rcases hu with rfl | rfl | rfl) <;> (try subst hu) <;> exact ⟨_, _, _, rfl⟩)))
  clear E0 E1 hb vh
  go_wp2_with fail
  have E3 : Hid (Env (fun _ => True) w [(w1.heap.size, 24, [.slice va 1 vk]), (w.heap.size + 1, 24, [.slice ua 1 uk]), (w.heap.size, 57, [.slice xa 1 xk, .slice ya 1 yk, .slice za zn zk])] [.rw (.slice va 1 vk) 1 1 (wd S), .rw (.slice ua 1 uk) 1 1 (wd X), .rw (.slice ya 1 yk) 1 1 (wd R), .rw (.slice xa 1 xk) 1 1 (wd N)] _) := Lib.hid ((E2.out.push 24 [.slice va 1 vk] (w1.heap.size) (by simp)))
  clear E2
  generalize w1.alloc (.cells #[.slice va 1 vk] 24) = w2 at *
  have E4 := Lib.hid E3.out.drew
  clear E3
  refine wp_regionU (S := fun w' => w'.cell? ⟨w1.heap.size, 0, none⟩ = some (.slice va 1 vk)) [] (by kernel_rfl) (((E4.out.bx 0 rfl).cell 0 rfl)) (fun hHeld => ?_)
  generalize w2.drew = w3 at *
  refine uTk (i := 0) (some 16) (v := ?_) ?_ ?_
  rotate_left
  · (intro wS hSw; (try dsimp only at hSw); go_simp; try with_reducible rfl)
  try simp only [Act.put, List.setIfInBounds_toArray, List.set_cons_zero, List.set_cons_succ]
  refine uTk (i := 1) (some 17) (v := ?_) ?_ ?_
  rotate_left
  · (intro wS hSw; (try dsimp only at hSw); go_simp; try with_reducible rfl)
  try simp only [Act.put, List.setIfInBounds_toArray, List.set_cons_zero, List.set_cons_succ]
  refine uTk (i := 2) (some 18) (v := ?_) ?_ ?_
  rotate_left
  · (intro wS hSw; (try dsimp only at hSw); go_simp; try with_reducible rfl)
  try simp only [Act.put, List.setIfInBounds_toArray, List.set_cons_zero, List.set_cons_succ]
  refine uTk (i := 3) (some 19) (v := ?_) ?_ ?_
  rotate_left
  · (intro wS hSw; (try dsimp only at hSw); go_simp; try with_reducible rfl)
  try simp only [Act.put, List.setIfInBounds_toArray, List.set_cons_zero, List.set_cons_succ]
  refine uReady (rs := [4]) (by kernel_rfl) (by simp) ?_
  refine ReadyU.cons rfl (fun KK hKK => ?_) ReadyU.nil
  go_simp
  refine (nat1 1 ⟨by decide, by decide⟩).mono ?_
  rintro e w4 ⟨⟨ia, ik, rfl, ih⟩, hb⟩
  have E5 := Lib.hid (E4.out.got (E4.out.below hb) (.rw (.slice ia 1 ik) 1 1 (wd 1)) (Lib.hid (Rw.ge ih.out)).out)
  clear E4 hb
  (try dsimp only)
  clear hHeld
  refine hKK.out _ _ (((E5.out.bx 0 rfl).cell 0 rfl)) (fun hHeld => ?_)
  clear hKK KK
  try simp only [Act.put, List.setIfInBounds_toArray, List.set_cons_zero, List.set_cons_succ]
  refine uReady (rs := [5]) (by kernel_rfl) (by simp) ?_
  refine ReadyU.cons rfl (fun KK hKK => ?_) ReadyU.nil
  go_simp
  refine (cmp1 HC.out h0.out ⟨by decide, by decide⟩ (E5.out.fc 1 rfl) (E5.out.fc 0 rfl)).mono ?_
  rintro e w5 ⟨rfl, hb⟩
  have E6 := Lib.hid (E5.out.below hb)
  clear E5 hb
  (try dsimp only)
  clear hHeld
  refine hKK.out _ _ (((E6.out.bx 0 rfl).cell 0 rfl)) (fun hHeld => ?_)
  clear hKK KK
  try simp only [Act.put, List.setIfInBounds_toArray, List.set_cons_zero, List.set_cons_succ]
  refine uTk (i := 6) (some 22) (v := ?_) ?_ ?_
  rotate_left
  · (intro wS hSw; (try dsimp only at hSw); go_simp; try with_reducible rfl)
  try simp only [Act.put, List.setIfInBounds_toArray, List.set_cons_zero, List.set_cons_succ]
  refine uTk (i := 7) (some 23) (v := ?_) ?_ ?_
  rotate_left
  · (intro wS hSw; (try dsimp only at hSw); go_simp; try with_reducible rfl)
  try simp only [Act.put, List.setIfInBounds_toArray, List.set_cons_zero, List.set_cons_succ]
  refine uTk (i := 8) (some 4) (v := ?_) ?_ ?_
  rotate_left
  · (intro wS hSw; (try dsimp only at hSw); go_simp; try with_reducible rfl)
  try simp only [Act.put, List.setIfInBounds_toArray, List.set_cons_zero, List.set_cons_succ]
  refine uDone (by kernel_rfl) ?_ _
  have hfin := Lib.hid E6.out.bel
  go_wp2
  go_ret
  exact ⟨rfl, hfin.out⟩
set_option maxRecDepth 100000 in
set_option maxHeartbeats 1000000 in
theorem right1 {D : Nat → Prop} (N R L M q : Nat) (g1 g2 : Nat) {xa ya za la pa qa sa : Option Addr} {xk yk zn zk lk pk qn qk sn sk : Nat} {w : World} (hx : Fct.at w D (.rw (.slice xa 1 xk) 1 1 (wd N))) (hy : Fct.at w D (.rw (.slice ya 1 yk) 1 1 (wd R))) (hl : Fct.at w D (.rw (.slice la 1 lk) 1 1 (wd L))) (hp : Fct.at w D (.rw (.slice pa 1 pk) 1 1 (wd M))) (h1 : Fct.at w D (.ce g1 0 (.slice la 1 lk))) (h20 : Fct.at w D (.ce g2 0 (.slice xa 1 xk))) (h21 : Fct.at w D (.ce g2 1 (.slice ya 1 yk))) (h22 : Fct.at w D (.ce g2 2 (.slice za zn zk))) (S : Nat) (hq0 : L / M = q) (hS0 : R ^ q % N = S) (h00 : One S) (hN0 : One N) (hR0 : One R) (hL0 : One L) (hM0 : One M) (hQ0 : One q) (hlt : R < N) {t : Bool} (ht0 : decide (S = 1) = t) :
    Calls Tryz.prog 127 #[.agg #[.slice pa 1 pk, .slice qa qn qk, .slice sa sn sk], .pointer (some ⟨g1, 0, none⟩), .pointer (some ⟨g2, 0, none⟩)] w fun e w' => e = .returned (.bool t) ∧ Below w.heap.size w w' := by
  have E0 := Lib.hid (((((((((Env.start D w).arg (.rw (.slice xa 1 xk) 1 1 (wd N)) hx).arg (.rw (.slice ya 1 yk) 1 1 (wd R)) hy).arg (.rw (.slice la 1 lk) 1 1 (wd L)) hl).arg (.rw (.slice pa 1 pk) 1 1 (wd M)) hp).arg (.ce g1 0 (.slice la 1 lk)) h1).arg (.ce g2 0 (.slice xa 1 xk)) h20).arg (.ce g2 1 (.slice ya 1 yk)) h21).arg (.ce g2 2 (.slice za zn zk)) h22)
  clear hx hy hl hp h1 h20 h21 h22
  go_enter Tryz.func127, Tryz.ntmps127
  have hS := Lib.hid hS0
  have h0 := Lib.hid h00
  have hN := Lib.hid hN0
  have hR := Lib.hid hR0
  have hL := Lib.hid hL0
  have hM := Lib.hid hM0
  have hQ := Lib.hid hQ0
  have ht := Lib.hid ht0
  have hq := Lib.hid hq0
  clear hS0 h00 hN0 hR0 hL0 hM0 hQ0 ht0 hq0
  have hlt2 := Lib.hid hlt
  clear hlt
  have E1 : Hid (Env D w [(w.heap.size, 57, [.slice pa 1 pk, .slice qa qn qk, .slice sa sn sk])] [.ce g2 2 (.slice za zn zk), .ce g2 1 (.slice ya 1 yk), .ce g2 0 (.slice xa 1 xk), .ce g1 0 (.slice la 1 lk), .rw (.slice pa 1 pk) 1 1 (wd M), .rw (.slice la 1 lk) 1 1 (wd L), .rw (.slice ya 1 yk) 1 1 (wd R), .rw (.slice xa 1 xk) 1 1 (wd N)] _) := Lib.hid ((E0.out.push 57 [.slice pa 1 pk, .slice qa qn qk, .slice sa sn sk] (w.heap.size) (by simp)))
  have z1 := (E1.out.fc 3 rfl).2
  have b2 := E1.out.bx 0 rfl
  have c2_0 := b2.cell 0 rfl
  clear b2
  go_wp2_with fail
  refine (div1 hq.out hQ.out hL.out hM.out (E1.out.fc 5 rfl) (E1.out.fc 4 rfl)).mono ?_
  rintro e w1 ⟨⟨ua, uk, va, vn, vk, rfl, uh⟩, hb⟩
  have E2 := Lib.hid (E1.out.got (E1.out.below hb) (.rw (.slice ua 1 uk) 1 1 (wd q)) (Lib.hid (Rw.ge uh.out)).out)
  clear z1 c2_0 E0 E1 hb
  have E3 : Hid (Env D w [(w1.heap.size + 1, 24, [.slice va vn vk]), (w1.heap.size, 24, [.slice ua 1 uk]), (w.heap.size, 57, [.slice pa 1 pk, .slice qa qn qk, .slice sa sn sk])] [.rw (.slice ua 1 uk) 1 1 (wd q), .ce g2 2 (.slice za zn zk), .ce g2 1 (.slice ya 1 yk), .ce g2 0 (.slice xa 1 xk), .ce g1 0 (.slice la 1 lk), .rw (.slice pa 1 pk) 1 1 (wd M), .rw (.slice la 1 lk) 1 1 (wd L), .rw (.slice ya 1 yk) 1 1 (wd R), .rw (.slice xa 1 xk) 1 1 (wd N)] _) := Lib.hid (((E2.out.push 24 [.slice ua 1 uk] (w1.heap.size) (by simp)).push 24 [.slice va vn vk] (w1.heap.size + 1) (by simp)))
  have z3 := (E3.out.fc 3 rfl).2
  have z4 := (E3.out.fc 2 rfl).2
  have z5 := (E3.out.fc 1 rfl).2
  have b6 := E3.out.bx 1 rfl
  have c6_0 := b6.cell 0 rfl
  clear b6
  go_wp2_with fail
  refine (one1 N R q (Fct.any (E3.out.fc 8 rfl)) (Fct.any (E3.out.fc 7 rfl)) (Fct.any (E3.out.fc 0 rfl)) S hS.out h0.out hN.out hR.out hQ.out hlt2.out ht.out).mono ?_
  rintro e w2 ⟨rfl, hb⟩
  have E4 := Lib.hid (E3.out.below hb)
  clear z3 z4 z5 c6_0 E2 E3 hb
  have hfin := Lib.hid E4.out.bel
  go_wp2
  go_ret
  exact ⟨rfl, hfin.out⟩
end Go.Proofs.YtikopkkebdobdaaGreatDoor

/- Natural numbers of one word as facts; what the program does with them. -/
import Derived.Test.YtinlfogpbologaaDoorPriJ
import Derived.Test.YtinlfogpbologaaDoorNnA4
namespace Go.Proofs.YtinlfogpbologaaDoor
open Go.RowKit
set_option linter.unusedVariables false
/-- the cells of a number of one word -/
def wd (N : Nat) : List Value := [.int .u32 (N : Int)]
/-- a number of one word that is not 0 -/
def One (N : Nat) : Prop := 0 < N ∧ N < 4294967296
theorem digs_one {N : Nat} (h : One N) : Nn.NatMath.digs N = [N] := by
  rw [Nn.NatMath.digs_pos (by have := h.1; omega), Nat.mod_eq_of_lt h.2, Nat.div_eq_of_lt h.2, Nn.NatMath.digs_zero]
theorem len_one' {N : Nat} (h : One N) : Nn.NatMath.len N = 1 := by unfold Nn.NatMath.len; rw [digs_one h]; rfl
theorem len_le {N : Nat} (h : One N) : Nn.NatMath.len N ≤ 64 := by rw [len_one' h]; omega
theorem nt_of {W : World} {D : Nat → Prop} {a : Option Addr} {k N : Nat} (h : Fct.at W D (.rw (.slice a 1 k) 1 1 (wd N))) (hN : One N) : Nn.Nt W (.slice a 1 k) N := by
  obtain ⟨ao, cap, e, h1, h2, h3, h4, h5⟩ := h
  obtain ⟨b, off, h6, h7, h8⟩ := h5 (by omega)
  cases e
  unfold Nn.Nt
  rw [digs_one hN]
  refine ⟨a, k, rfl, h1, h2, by simpa using hN.2, fun _ => ⟨b, off, h6, h7.1, fun i hi => ?_⟩, fun x hx => by rw [h6] at hx; cases hx; rfl⟩
  have : i = 0 := by simp at hi; omega
  subst this
  exact h8 0 _ rfl
theorem rw_of {W : World} {v : Value} {N : Nat} (h : Nn.Nt W v N) (hN : One N) : ∃ b off k, v = .slice (some ⟨b, off, none⟩) 1 k ∧ 1 ≤ k ∧ k ≤ 9223372036854775807 ∧ b < W.heap.size ∧ W.cell? ⟨b, off, none⟩ = some (.int .u32 (N : Int)) := by
  unfold Nn.Nt at h
  rw [digs_one hN] at h
  obtain ⟨ao, cap, rfl, h1, h2, _, h4, _⟩ := h
  obtain ⟨b, off, rfl, h5, h6⟩ := h4 (by simp)
  exact ⟨b, off, cap, rfl, h1, h2, h5, h6 0 (by simp)⟩
theorem Rw.one {W : World} {D : Nat → Prop} {b off k N : Nat} (h1 : 1 ≤ k) (h2 : k ≤ 9223372036854775807) (h3 : b < W.heap.size) (hD : D b) (h4 : W.cell? ⟨b, off, none⟩ = some (.int .u32 (N : Int))) : Rw W D (.slice (some ⟨b, off, none⟩) 1 k) 1 1 (wd N) :=
  ⟨_, k, rfl, h1, h2, rfl, by intro u hu; simp [wd] at hu; subst hu; rfl, fun _ => ⟨b, off, rfl, ⟨h3, hD⟩, fun i u hu => by
    rcases i with _ | i
    · simp [wd] at hu; subst hu; exact h4
    · simp [wd] at hu⟩⟩
/-- a number of one word came back -/
def RetA1 (D : Nat → Prop) (N : Nat) (e : Ending) (W : World) : Prop := ∃ ao k, e = .returned (.agg #[.slice ao 1 k]) ∧ Hid (Rw W D (.slice ao 1 k) 1 1 (wd N))
/-- and the error 0 -/
def RetT1 (D : Nat → Prop) (N : Nat) (e : Ending) (W : World) : Prop := ∃ ao k, e = .returned (.tuple #[.agg #[.slice ao 1 k], .int .i64 0]) ∧ Hid (Rw W D (.slice ao 1 k) 1 1 (wd N))
theorem ret_of {W : World} {B N : Nat} {e : Ending} (h : Nn.RetN (fun w' v' => Nn.Nt w' v' N ∧ Nn.Fr B v') e W) (hN : One N) : RetT1 (fun b => B ≤ b) N e W := by
  obtain ⟨v, hv, rfl⟩ := h
  obtain ⟨b, off, k, rfl, h1, h2, h3, h4⟩ := rw_of hv.out.1 hN
  exact ⟨_, k, rfl, Lib.hid (Rw.one h1 h2 h3 (hv.out.2 _ _ _ rfl) h4)⟩
section
variable {D : Nat → Prop} {xa ya za : Option Addr} {xk yk zk : Nat} {w : World} {N M K : Nat}
theorem valid1 (hN : One N) (ha : Fct.at w D (.rw (.slice xa 1 xk) 1 1 (wd N))) : Calls Tryd.prog 144 #[.agg #[.slice xa 1 xk]] w fun e w' => e = .returned (.bool true) ∧ Below w.heap.size w w' :=
  Nn.validN (len_le hN) (nt_of ha hN)
theorem bits1 {n : Nat} (hn : Nn.NatMath.bl N = n) (hN : One N) (ha : Fct.at w D (.rw (.slice xa 1 xk) 1 1 (wd N))) : Calls Tryd.prog 145 #[.agg #[.slice xa 1 xk]] w fun e w' => e = .returned (.int .i64 (n : Nat)) ∧ Below w.heap.size w w' :=
  Nn.bitsF hn (len_le hN) (nt_of ha hN)
theorem cmp1 {c : Int} (hc : Nn.NatMath.cmp N M = c) (hN : One N) (hM : One M) (ha : Fct.at w D (.rw (.slice xa 1 xk) 1 1 (wd N))) (hb : Fct.at w D (.rw (.slice ya 1 yk) 1 1 (wd M))) : Calls Tryd.prog 146 #[.agg #[.slice xa 1 xk], .agg #[.slice ya 1 yk]] w fun e w' => e = .returned (.int .i64 c) ∧ Below w.heap.size w w' :=
  Nn.compareF hc (nt_of ha hN) (nt_of hb hM) (len_le hN) (len_le hM)
theorem sub1 {S : Nat} (hS : N - M = S) (h0 : One S) (hN : One N) (hM : One M) (ha : Fct.at w D (.rw (.slice xa 1 xk) 1 1 (wd N))) (hb : Fct.at w D (.rw (.slice ya 1 yk) 1 1 (wd M))) : Calls Tryd.prog 147 #[.agg #[.slice xa 1 xk], .agg #[.slice ya 1 yk]] w fun e w' => RetT1 (fun b => w.heap.size ≤ b) S e w' ∧ Below w.heap.size w w' := by
  subst hS
  exact (Nn.Sub_ok _ _ N M w (nt_of ha hN) (nt_of hb hM) (len_le hN) (len_le hM) (by have := h0.1; omega)).mono (fun e w' h => ⟨ret_of h.1 h0, h.2⟩)
theorem mul1 {S : Nat} (hS : N * M = S) (h0 : One S) (hN : One N) (hM : One M) (ha : Fct.at w D (.rw (.slice xa 1 xk) 1 1 (wd N))) (hb : Fct.at w D (.rw (.slice ya 1 yk) 1 1 (wd M))) : Calls Tryd.prog 148 #[.agg #[.slice xa 1 xk], .agg #[.slice ya 1 yk]] w fun e w' => RetT1 (fun b => w.heap.size ≤ b) S e w' ∧ Below w.heap.size w w' := by
  subst hS
  refine (Nn.Mul_ok _ _ N M w (nt_of ha hN) (nt_of hb hM) (len_le hN) (len_le hM)).mono (fun e w' h => ⟨?_, h.2⟩)
  rcases h.1 with h1 | h1
  · exact ret_of h1.2 h0
  · exact absurd (len_le h0) h1.1
/-- the quotient is of one word; nothing is said of the rest -/
theorem div1 {q : Nat} (hq : N / M = q) (h0 : One q) (hN : One N) (hM : One M) (ha : Fct.at w D (.rw (.slice xa 1 xk) 1 1 (wd N))) (hb : Fct.at w D (.rw (.slice ya 1 yk) 1 1 (wd M))) : Calls Tryd.prog 152 #[.agg #[.slice xa 1 xk], .agg #[.slice ya 1 yk]] w fun e w' => (∃ ao k bo n j, e = .returned (.tuple #[.agg #[.slice ao 1 k], .agg #[.slice bo n j], .int .i64 0]) ∧ Hid (Rw w' (fun b => w.heap.size ≤ b) (.slice ao 1 k) 1 1 (wd q))) ∧ Below w.heap.size w w' := by
  subst hq
  refine (Nn.Div_c _ _ N M w (nt_of ha hN) (nt_of hb hM) (len_le hN) (len_le hM) (by have := hM.1; omega)).mono (fun e w' h => ⟨?_, h.2⟩)
  obtain ⟨u, v, hv, rfl⟩ := h.1
  obtain ⟨k1, k2, k3, k4⟩ := hv.out
  obtain ⟨b, off, k, rfl, h1, h2, h3, h4⟩ := rw_of k1 h0
  obtain ⟨bo, j, rfl, _⟩ := k3.open
  exact ⟨_, k, bo, _, j, rfl, Lib.hid (Rw.one h1 h2 h3 (k2 _ _ _ rfl) h4)⟩
theorem of1 (hN : One N) : Calls Tryd.prog 143 #[.int .i64 (N : Nat)] w fun e w' => RetT1 (fun b => w.heap.size ≤ b) N e w' ∧ Below w.heap.size w w' :=
  (Nn.Of_ok N w (by have := hN.2; omega)).mono (fun e w' h => ⟨ret_of h.1 hN, h.2⟩)
/-- where the power's words lie is not said -/
theorem pow1 {S : Nat} (hS : N ^ M % K = S) (h0 : One S) (hN : One N) (hM : One M) (hK : One K) (hlt : N < K) (ha : Fct.at w D (.rw (.slice xa 1 xk) 1 1 (wd N))) (hb : Fct.at w D (.rw (.slice ya 1 yk) 1 1 (wd M))) (hc : Fct.at w D (.rw (.slice za 1 zk) 1 1 (wd K))) : Calls Tryd.prog 167 #[.agg #[.slice xa 1 xk], .agg #[.slice ya 1 yk], .agg #[.slice za 1 zk]] w fun e w' => RetT1 (fun _ => True) S e w' ∧ Below w.heap.size w w' := by
  subst hS
  have h := Nn.Pow_w xa xk ya yk za zk N M K w (by rw [len_one' hN]; exact nt_of ha hN) (by rw [len_one' hM]; exact nt_of hb hM) (by rw [len_one' hK]; exact nt_of hc hK) (len_le hM) hlt (by rw [len_one' hK]; omega)
  rw [len_one' hN, len_one' hM, len_one' hK] at h
  refine h.mono (fun e w' h => ⟨?_, h.2⟩)
  obtain ⟨ao, k, rfl, hv⟩ := h.1
  rw [len_one' h0] at hv ⊢
  obtain ⟨b, off, k', e, h1, h2, h3, h4⟩ := rw_of hv.out h0
  cases e
  exact ⟨_, _, rfl, Lib.hid (Rw.one h1 h2 h3 trivial h4)⟩
end
theorem Rw.from2 {W : World} {B n k : Nat} {v : Value} {cs : List Value} (h : Fct.at W (fun b => False ∨ B ≤ b) (.rw v n k cs)) : Rw W (fun b => B ≤ b) v n k cs := Rw.turn h (Nat.le_refl _) (fun _ _ h => h.resolve_left id) (fun _ _ _ _ => rfl)
/-- a number lies in no box of slices -/
theorem Env.gotW {w W W' : World} {F : List Bx} {G : List Fct} (h : Env (fun _ => True) w F G W) (hb : Below W.heap.size W W') {a : Option Addr} {k N : Nat} (hn : Rw W' (fun _ => True) (.slice a 1 k) 1 1 (wd N)) (hF : ∀ p ∈ F, ∀ u ∈ p.2.2, ∃ x y z, u = .slice x y z) : Env (fun _ => True) w F (.rw (.slice a 1 k) 1 1 (wd N) :: G) W' := by
  have h' := h.below hb
  obtain ⟨ao, cap, e, h1, h2, h3, h4, h5⟩ := hn
  obtain ⟨b, off, h6, h7, h8⟩ := h5 (by omega)
  cases e
  subst h6
  refine h'.note _ (Rw.one h1 h2 h7.1 ⟨fun p hp e => ?_, .inl trivial⟩ (h8 0 _ rfl))
  subst e
  have hB := (held_iff.1 h'.box).1 p hp
  have hc := h8 0 _ rfl
  rw [cell_of_row W' p.1 _ p.2.2.toArray p.2.1 (0, 0) hB.2] at hc
  simp only [Nat.add_zero, List.getElem?_toArray] at hc
  obtain ⟨x, y, z, hu⟩ := hF p hp _ (List.mem_of_getElem? hc)
  cases hu
theorem Rw.el3 {W : World} {D : Nat → Prop} {b off n j : Nat} {cs : List Value} (h : Rw W D (.slice (some ⟨b, off, none⟩) n j) n 3 cs) (hn : n ≠ 0) {i : Nat} {u : Value} (hu : cs[i]? = some u) : Fct.at W D (.ce b (off + i) u) := h.el hn hu
theorem Env.el3 {D0 : Nat → Prop} {w W : World} {F : List Bx} {G : List Fct} (h : Env D0 w F G W) (i : Nat) {b off n j : Nat} {cs : List Value} (e : G[i]? = some (.rw (.slice (some ⟨b, off, none⟩) n j) n 3 cs)) (hn : n ≠ 0) {a c d : Nat} {u v x : Value} (ha : cs[a]? = some u) (hc : cs[c]? = some v) (hd : cs[d]? = some x) :
    Env D0 w F (.ce b (off + a) u :: .ce b (off + c) v :: .ce b (off + d) x :: G) W := by
  have hm : Rw W (DF D0 w.heap.size F) (.slice (some ⟨b, off, none⟩) n j) n 3 cs := h.fct.get i e
  exact ((h.note (.ce b (off + d) x) (hm.el hn hd)).note (.ce b (off + c) v) (hm.el hn hc)).note (.ce b (off + a) u) (hm.el hn ha)
end Go.Proofs.YtinlfogpbologaaDoor

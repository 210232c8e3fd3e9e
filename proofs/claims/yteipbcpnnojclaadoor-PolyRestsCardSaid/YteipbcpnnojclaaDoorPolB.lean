/- The value of a polynomial (poly.eval: a range over slices.Backward). -/
import Derived.Test.YteipbcpnnojclaaDoorPolA
import Derived.Test.YteipbcpnnojclaaDoorPLst
namespace Go.Proofs.YteipbcpnnojclaaDoor
open Go.RowKit Go.Shelf DivMath WordMath Back
attribute [local go_sem] Oper.semAt_some
set_option linter.unusedVariables false
/-- residues, as ints -/
def nl (l : List Nat) : List Int := l.map (fun n : Nat => (n : Int))
theorem nl_len (l : List Nat) : (nl l).length = l.length := by simp [nl]
/-- the value at x, modulo q -/
def evN (q x : Nat) : List Nat → Nat
  | [] => 0
  | c :: l => (evN q x l * x % q + c) % q
def evP (q x : Nat) (pre : List (Nat × Fin q)) : Nat := pre.foldl (fun y p => (y * x % q + p.2.val) % q) 0
theorem evP_snoc (q x : Nat) (pre : List (Nat × Fin q)) (p : Nat × Fin q) : evP q x (pre ++ [p]) = (evP q x pre * x % q + p.2.val) % q := by simp [evP]
theorem evP_lt {q x : Nat} (hq : 0 < q) (pre : List (Nat × Fin q)) : evP q x pre < q := by
  rcases List.eq_nil_or_concat pre with rfl | ⟨p, a, rfl⟩
  · exact hq
  · rw [List.concat_eq_append, evP_snoc]; exact Nat.mod_lt _ hq
def fins {q : Nat} (hq : 0 < q) (l : List Nat) : List (Fin q) := l.map (fun n => ⟨n % q, Nat.mod_lt _ hq⟩)
theorem upto_at {q : Nat} (hq : 0 < q) (l : List Nat) (hl : ∀ c ∈ l, c < q) (x : Nat) : evP q x (upto (at_ hq (fins hq l)) l.length) = evN q x l := by
  have key : ∀ k, k ≤ l.length → evP q x (upto (at_ hq (fins hq l)) k) = evN q x (l.drop (l.length - k)) := by
    intro k
    induction k with
    | zero => intro _; simp [upto, evP, evN]
    | succ k ih =>
      intro hk
      rw [upto_succ, evP_snoc, ih (by omega)]
      have hlt : l.length - (k + 1) < l.length := by omega
      rw [List.drop_eq_getElem_cons hlt]
      simp only [evN]
      rw [show l.length - (k + 1) + 1 = l.length - k by omega]
      congr 2
      simp only [at_, fins, List.length_map]
      rw [show l.length - 1 - k = l.length - (k + 1) by omega]
      simp [List.getElem?_eq_getElem hlt]
      exact Nat.mod_eq_of_lt (hl _ (List.getElem_mem hlt))
  have := key l.length (Nat.le_refl _)
  simpa using this

set_option maxHeartbeats 1000000 in
theorem back_in (F : Fence) (n : Nat) (h6 : F.fn 105) (hro : F.round = none) (a : Option Addr) (len cap : Nat) (w : World) :
    CallsIn F n Tryd.prog 105 #[.slice a len cap] w fun e w' => e = .returned (.func (.func 145) #[] #[.pointer (some ⟨w.heap.size, 0, none⟩)]) ∧ w' = w.alloc (.cells #[.slice a len cap] 22) := by
  refine callsIn_of_wp Tryd.func105 rfl h6 ?_ hro
  simp only [Tryd.ntmps105, List.size_toArray, List.length_cons, List.length_nil, Nat.reduceAdd, Nat.reduceSub, Array.replicate_succ, Array.replicate_zero, List.push_toArray, List.append_toArray, List.nil_append, List.cons_append]
  gi_wp2
  go_ret
  exact ⟨rfl, rfl⟩

set_option maxRecDepth 100000 in
set_option maxHeartbeats 1000000 in
theorem back1_nil (F : Fence) (n : Nat) (h7 : F.fn 145) (hro : F.round = none) (l Bs cap : Nat) (a : Option Addr) (J : World → Prop) (W : World) (hBs : W.cell? ⟨Bs, 0, none⟩ = some (.slice a 0 cap)) (h0 : J W) :
    CallsIn F n Tryd.prog 145 #[.func (.yield l) #[] #[], .pointer (some ⟨Bs, 0, none⟩)] W fun e W' => (∃ v, e = .returned v) ∧ J W' := by
  refine callsIn_of_wp Tryd.func145 rfl h7 ?_ hro
  simp only [Tryd.ntmps145, List.size_toArray, List.length_cons, List.length_nil, Nat.reduceAdd, Nat.reduceSub, Array.replicate_succ, Array.replicate_zero, List.push_toArray, List.append_toArray, List.nil_append, List.cons_append]
  gi_wp2
  gi_loopw [3] (fun i wr => i = .int .i64 (-1) ∧ J wr) (fun _ _ => 0)
  case atStart => exact ⟨rfl, h0⟩
  case round =>
    obtain ⟨rfl, hJs⟩ := hrel
    gi_wp2
    go_end0
    exact ⟨⟨_, rfl⟩, hJs⟩
theorem back_stops (F : Fence) (n : Nat) (h7 : F.fn 145) (hro : F.round = none) (hn : 1 ≤ n) (Bs n₀ q : Nat) (hq : 0 < q) (sv : Value) (zs : List (Fin q)) (hreach : zs.length * 8 ≤ 140737488351232) (w : World) (hBs : Bs < w.heap.size) (hn₀ : n₀ ≤ w.heap.size)
    (hc : w.cell? ⟨Bs, 0, none⟩ = some sv) (hI : (∃ a c, sv = .slice a 0 c ∧ zs.length = 0) ∨ ∃ b off cap, sv = .slice (some ⟨b, off, none⟩) zs.length cap ∧ b < n₀ ∧ ∀ j, j < zs.length → w.cell? ⟨b, off + j, none⟩ = some (.int .i64 ((zs[j]?.getD ⟨0, hq⟩).val : Int))) :
    SeqStopsK F n Tryd.prog 145 #[.pointer (some ⟨Bs, 0, none⟩)] (fun x : Nat × Fin q => #[Value.int .i64 (x.1 : Int), Value.int .i64 (x.2.val : Int)]) (KB n₀ Bs) (fun ys => ys = upto (at_ hq zs) zs.length)
      (fun pre => ∃ k, k ≤ zs.length ∧ pre = upto (at_ hq zs) k) zs.length w := fun l J Jx W hW _ _ hY h0 => by
  have hc' := (hW.cell (p := ⟨Bs, 0, none⟩) hBs).trans hc
  rcases hI with ⟨a, c, rfl, hz⟩ | ⟨b, off, cap, rfl, hb, hcs⟩
  · have hz' : upto (at_ hq zs) zs.length = [] := by rw [hz]; rfl
    exact (back1_nil F n h7 hro l Bs c a (J []) W hc' h0).mono fun e W' ⟨he, hj⟩ => ⟨he, .inl ⟨_, rfl, by rw [hz']; exact hj⟩⟩
  · exact back1_in F n h7 hro hn l Bs n₀ b off cap q hq zs hreach hb J Jx hY W hc' (fun j hj => (hW.cell (p := ⟨b, off + j, none⟩) (show b < _ by omega)).trans (hcs j hj)) h0
end Go.Proofs.YteipbcpnnojclaaDoor

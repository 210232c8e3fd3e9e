/- Shorter forms: operations of a drawn region. -/
import Derived.Test.YtikopkkebdobdaaGreatDoorVw0
namespace Go.Proofs.YtikopkkebdobdaaGreatDoor
open Go.RowKit
set_option linter.unusedVariables false
section
variable {P : Program} {ops : Array Oper} {Q : Exit → Act → World → Prop} {S : World → Prop} {U : List Nat}
theorem uTk {i : Nat} {oi : Oper} (d : Option Tmp) {v : Value} {fuel : Nat} {listed : Array Bool} {a : Act} {w : World}
  (hy : ∀ w, S w → (execOp a.eval oi).run P w = .ok (.value v) w)
  (h : wpAnyU P ops Q S U fuel (listed.setIfInBounds i true) (a.put d v) w)
  (hi : ops[i]? = some oi := by rfl) (hd : oi.dst = d := by rfl)
  (hs : Region.noSelect ops = true := by kernel_rfl) (hf : Region.free .any ops listed i = true := by kernel_rfl) (hr : (Region.ready .any ops listed).contains i = true := by kernel_rfl) (hu : (U.all fun u => listed.getD u true || waits ops u i) = true := by kernel_rfl)
  (hQ : ∀ c a w, Q (.panic c) (a.put d v) w → Q (.panic c) a w := by exact fun _ _ _ h => h) (hg : Region.wanted oi (yielded ops a.tmps) = true := by rfl) (hS : S w := by assumption) : wpAnyU P ops Q S U (fuel + 1) listed a w :=
 uTake d hi hd hs hf hr hu hQ hg hS hy h
theorem uPs {i : Nat} {oi : Oper} (d : Option Tmp) {fuel : Nat} {listed : Array Bool} {a : Act} {w : World}
  (h : wpAnyU P ops Q S U fuel (listed.setIfInBounds i true) (a.put d undef) w)
  (hi : ops[i]? = some oi := by rfl) (hd : oi.dst = d := by rfl)
  (hs : Region.noSelect ops = true := by kernel_rfl) (hf : Region.free .any ops listed i = true := by kernel_rfl) (hr : (Region.ready .any ops listed).contains i = true := by kernel_rfl) (hu : (U.all fun u => listed.getD u true || waits ops u i) = true := by kernel_rfl)
  (hQ : ∀ c a w, Q (.panic c) (a.put d undef) w → Q (.panic c) a w := by exact fun _ _ _ h => h) (hg : Region.wanted oi (yielded ops a.tmps) = false := by rfl) (hS : S w := by assumption) : wpAnyU P ops Q S U (fuel + 1) listed a w :=
 uPass d hi hd hs hf hr hu hQ hg hS h
/-- the operations that are taken next -/
def Pl (is : List Nat) (p : Prop) : Prop := p
theorem uPl {p : Prop} (is : List Nat) (h : Pl is p) : p := h
theorem Pl.z {p : Prop} (h : p) : Pl [] p := h
theorem uTl {i : Nat} {is : List Nat} {oi : Oper} {d : Tmp} {v : Value} {fuel : Nat} {listed : Array Bool} {a : Act} {w : World}
  (hy : ∀ w, S w → (execOp a.eval oi).run P w = .ok (.value v) w)
  (h : Pl is (wpAnyU P ops Q S U fuel (listed.setIfInBounds i true) (a.put (some d) v) w))
  (hi : ops[i]? = some oi := by rfl) (hd : oi.dst = some d := by rfl)
  (hs : Region.noSelect ops = true := by kernel_rfl) (hf : Region.free .any ops listed i = true := by kernel_rfl) (hr : (Region.ready .any ops listed).contains i = true := by kernel_rfl) (hu : (U.all fun u => listed.getD u true || waits ops u i) = true := by kernel_rfl)
  (hQ : ∀ c a w, Q (.panic c) (a.put (some d) v) w → Q (.panic c) a w := by exact fun _ _ _ h => h) (hg : Region.wanted oi (yielded ops a.tmps) = true := by rfl) (hS : S w := by assumption) : Pl (i :: is) (wpAnyU P ops Q S U (fuel + 1) listed a w) :=
 uTake (some d) hi hd hs hf hr hu hQ hg hS hy h
/-- one operation is ready -/
theorem uRd (i : Nat) {o : Oper} {fuel : Nat} {listed : Array Bool} {a : Act} {w : World}
  (h : ∀ K' : Act → World → Prop, Shut (∀ a w, S w → (S w → wpAnyU P ops Q S U fuel (listed.setIfInBounds i true) a w) → K' a w) → if Region.wanted o (yielded ops a.tmps) = true then Oper.wp P o a w K' Q else K' (a.put o.dst undef) w)
  (hr : Region.ready .any ops listed = [i] := by kernel_rfl) (ho : ops[i]? = some o := by rfl) : wpAnyU P ops Q S U (fuel + 1) listed a w :=
 uReady hr (by simp) (ReadyU.cons ho h ReadyU.nil)
end
theorem pq0 {α : Type} (l : List α) (i : Nat) (a : α) : l.toArray.setIfInBounds i a = (l.set i a).toArray := List.setIfInBounds_toArray ..
theorem pq1 {α : Type} (x : α) (l : List α) (a : α) : (x :: l).set 0 a = a :: l := rfl
theorem pq2 {α : Type} (x : α) (l : List α) (n : Nat) (a : α) : (x :: l).set (n + 1) a = x :: l.set n a := rfl
end Go.Proofs.YtikopkkebdobdaaGreatDoor

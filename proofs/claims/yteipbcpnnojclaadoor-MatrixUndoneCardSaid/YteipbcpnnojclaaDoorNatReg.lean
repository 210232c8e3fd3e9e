/- A region that draws its order, taken step by step (the tactics of the kit take no operation whose guard is false). -/
import Derived.Test.YteipbcpnnojclaaDoorProg
import Derived.WalkKit
import Derived.Deep.RegionHeld3
namespace Go.Proofs.YteipbcpnnojclaaDoor
open Go.RowKit
section
variable {P : Program} {ops : Array Oper} {Q : Exit → Act → World → Prop} {md : Region.Mode} {S : World → Prop}
/-- operation i, which is wanted and yields v in every world that meets S, is taken first -/
theorem takeW {i : Nat} {oi : Oper} (d : Option Tmp) {v : Value} {fuel : Nat} {listed : Array Bool} {a : Act} {w : World} (hi : ops[i]? = some oi) (hd : oi.dst = d)
    (hs : Region.noSelect ops = true) (hf : Region.free md ops listed i = true) (hr : (Region.ready md ops listed).contains i = true)
    (hQ : ∀ c a w, Q (.panic c) (a.put d v) w → Q (.panic c) a w) (hg : Region.wanted oi (yielded ops a.tmps) = true) (hS : S w)
    (hy : ∀ w, S w → (execOp a.eval oi).run P w = .ok (.value v) w)
    (h : wpAnyH P md ops Q S fuel (listed.setIfInBounds i true) (a.put d v) w) : wpAnyH P md ops Q S (fuel + 1) listed a w := by
  subst hd; exact wpAnyH_take hi hs hf hr hQ (Or.inl ⟨hg, hy⟩) hS h
/-- operation i, whose guard says no, is passed by -/
theorem takeU {i : Nat} {oi : Oper} (d : Option Tmp) {fuel : Nat} {listed : Array Bool} {a : Act} {w : World} (hi : ops[i]? = some oi) (hd : oi.dst = d)
    (hs : Region.noSelect ops = true) (hf : Region.free md ops listed i = true) (hr : (Region.ready md ops listed).contains i = true)
    (hQ : ∀ c a w, Q (.panic c) (a.put d undef) w → Q (.panic c) a w) (hg : Region.wanted oi (yielded ops a.tmps) = false) (hS : S w)
    (h : wpAnyH P md ops Q S fuel (listed.setIfInBounds i true) (a.put d undef) w) : wpAnyH P md ops Q S (fuel + 1) listed a w := by
  subst hd; exact wpAnyH_take hi hs hf hr hQ (Or.inr ⟨hg, rfl⟩) hS h
end
end Go.Proofs.YteipbcpnnojclaaDoor

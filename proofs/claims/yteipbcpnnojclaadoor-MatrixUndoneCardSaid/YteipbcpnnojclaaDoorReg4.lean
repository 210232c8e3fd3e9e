/- A region that draws its order, where a cell that is loaded is stored to at the end: what is held of the world need not hold behind the operations of U, which wait for all that is taken first. -/
import Derived.Test.YteipbcpnnojclaaDoorProg
import Derived.WalkKit
import Derived.Deep.RegionHeld
namespace Go.Proofs.YteipbcpnnojclaaDoor
open Go.RowKit
set_option linter.unusedVariables false
def waits (ops : Array Oper) (u i : Nat) : Bool := match ops[u]? with
  | some o => o.after.any fun e => Region.binds .any e && e.on == i
  | none => false
section
variable {P : Program} {ops : Array Oper} {Q : Exit → Act → World → Prop} {S : World → Prop} {U : List Nat}
/-- whatever order is picked from here on, and S holds behind every operation that is carried out and is not of U -/
def wpAnyU (P : Program) (ops : Array Oper) (Q : Exit → Act → World → Prop) (S : World → Prop) (U : List Nat) : Nat → Array Bool → Act → World → Prop
  | 0, listed, a, w => Region.ready .any ops listed = [] ∧ Q .normal a w
  | fuel + 1, listed, a, w =>
    (Region.ready .any ops listed = [] → Q .normal a w) ∧
    ∀ i ∈ Region.ready .any ops listed, wpOp P ops Q i (fun a' w' => (U.contains i = false → S w') ∧ wpAnyU P ops Q S U fuel (listed.setIfInBounds i true) a' w') a w
theorem wpAny_ofU : ∀ (fuel : Nat) (listed : Array Bool) (a : Act) (w : World), wpAnyU P ops Q S U fuel listed a w → wpAny P .any ops Q fuel listed a w
  | 0, _, _, _, h => h
  | fuel + 1, _, _, _, h => ⟨h.1, fun i hi => wpOp_mono (fun a' w' h' => wpAny_ofU fuel _ a' w' h'.2) (h.2 i hi)⟩
theorem wpAnyU_first {i : Nat} {oi : Oper} {v : Value} (Y : World → Prop) (hSY : ∀ w, S w → Y w) (hYS : U.contains i = true ∨ ∀ w, Y w → S w) (hi : ops[i]? = some oi) (hsel : ∀ (j : Nat) (o : Oper) cs b, ops[j]? = some o → o.op ≠ .select cs b)
    (hQ : ∀ c a w, Q (.panic c) (a.put oi.dst v) w → Q (.panic c) a w) :
    ∀ (fuel : Nat) (listed : Array Bool) (a : Act) (w : World),
      ((∀ w, Y w) ∨ ∀ u ∈ U, listed.getD u true = true ∨ waits ops u i = true) →
      (∀ j oj, ops[j]? = some oj → j ≠ i → listed.getD j true = false → (∀ e ∈ oj.after, Region.binds .any e = true → e.on ≠ i) → oi.apart ops oj = true) →
      i ∈ Region.ready .any ops listed → YieldsIf P ops Y oi v a → Y w →
      wpAnyU P ops Q S U fuel (listed.setIfInBounds i true) (a.put oi.dst v) w → wpAnyU P ops Q S U (fuel + 1) listed a w := by
  have hSi : ∀ w, Y w → U.contains i = false → S w := fun w hY hc => by
    rcases hYS with h | h
    · rw [h] at hc; cases hc
    · exact h w hY
  intro fuel
  induction fuel with
  | zero =>
    intro listed a w _ _ hr hy hS H
    refine ⟨fun h => (by rw [h] at hr; cases hr), fun j hj => ?_⟩
    by_cases hji : j = i
    · subst hji; exact hy.wpOp hi hS ⟨hSi _ hS, H⟩
    · have := ready_mono hj hji
      rw [H.1] at this
      cases this
  | succ fuel ih =>
    intro listed a w hU hfree hr hy hS H
    refine ⟨fun h => (by rw [h] at hr; cases hr), fun j hj => ?_⟩
    by_cases hji : j = i
    · subst hji; exact hy.wpOp hi hS ⟨hSi _ hS, H⟩
    · have h1 := H.2 j (ready_mono hj hji)
      obtain ⟨hjun, oj, hoj, hall⟩ := mem_ready.1 hj
      have hnot : ∀ e ∈ oj.after, Region.binds .any e = true → e.on ≠ i := fun e he hb heq => by
        have h1 := hall e he hb
        have h0 := (mem_ready.1 hr).1
        rw [heq] at h1
        rcases Nat.lt_or_ge i listed.size with h' | h'
        · simp [h'] at h0 h1; rw [h0] at h1; cases h1
        · simp [Array.getElem?_eq_none h'] at h1
      have hjU : (∀ w, Y w) ∨ U.contains j = false := by
        rcases hU with h | h
        · exact .inl h
        · right
          cases hc : U.contains j with
          | false => rfl
          | true =>
            exfalso
            rcases h j (List.contains_iff_mem.1 hc) with h | h
            · rw [h] at hjun; cases hjun
            · unfold waits at h
              rw [hoj] at h
              simp only [Array.any_eq_true, Bool.and_eq_true, beq_iff_eq] at h
              obtain ⟨k, hk, hb, he⟩ := h
              exact hnot _ (Array.getElem_mem hk) hb he
      have h2 := wpOp_putIf hoj (hfree j oj hoj hji hjun hnot) (fun cs b => hsel i oi cs b hi) (fun cs b => hsel j oj cs b hoj) hQ hy h1
      have hfree' : ∀ k ok, ops[k]? = some ok → k ≠ i → (listed.setIfInBounds j true).getD k true = false →
          (∀ e ∈ ok.after, Region.binds .any e = true → e.on ≠ i) → oi.apart ops ok = true := fun k ok hk hki hun hno => by
        refine hfree k ok hk hki ?_ hno
        by_cases hjk : j = k
        · subst hjk; exact hjun
        · rw [getD_set_ne true hjk] at hun; exact hun
      have hU' : (∀ w, Y w) ∨ ∀ u ∈ U, (listed.setIfInBounds j true).getD u true = true ∨ waits ops u i = true := by
        rcases hU with h | h
        · exact .inl h
        · refine .inr fun u hu => ?_
          rcases h u hu with h | h
          · left
            by_cases hju : j = u
            · subst hju; rw [h] at hjun; cases hjun
            · rw [getD_set_ne true hju]; exact h
          · exact .inr h
      refine wpOp_mono (fun a' w' h3 => ⟨h3.2.1, ih (listed.setIfInBounds j true) a' w' hU' hfree' (ready_mono hr (Ne.symm hji)) h3.1 ?_ ?_⟩) h2
      · rcases hjU with h | h
        · exact h _
        · exact hSY _ (h3.2.1 h)
      · rw [Array.setIfInBounds_comm _ _ hji]
        exact h3.2.2
theorem takeU_of (i : Nat) {listed : Array Bool} (h : (U.all fun u => listed.getD u true || waits ops u i) = true) : ∀ u ∈ U, listed.getD u true = true ∨ waits ops u i = true := fun u hu => by
  have := List.all_eq_true.1 h u hu
  simpa using this
/-- operation i is taken first: it yields v in every world that meets S -/
theorem uTake {i : Nat} {oi : Oper} (d : Option Tmp) {v : Value} {fuel : Nat} {listed : Array Bool} {a : Act} {w : World} (hi : ops[i]? = some oi) (hd : oi.dst = d)
    (hs : Region.noSelect ops = true) (hf : Region.free .any ops listed i = true) (hr : (Region.ready .any ops listed).contains i = true) (hu : (U.all fun u => listed.getD u true || waits ops u i) = true)
    (hQ : ∀ c a w, Q (.panic c) (a.put d v) w → Q (.panic c) a w) (hg : Region.wanted oi (yielded ops a.tmps) = true) (hS : S w)
    (hy : ∀ w, S w → (execOp a.eval oi).run P w = .ok (.value v) w)
    (h : wpAnyU P ops Q S U fuel (listed.setIfInBounds i true) (a.put d v) w) : wpAnyU P ops Q S U (fuel + 1) listed a w := by
  subst hd; exact wpAnyU_first S (fun _ h => h) (.inr fun _ h => h) hi (Region.noSelect_spec hs) hQ fuel listed a w (.inr (takeU_of i hu)) (Region.free_spec hi hf) (by simpa using hr) (.inl ⟨hg, hy⟩) hS h
/-- operation i, whose guard says no, is passed by -/
theorem uPass {i : Nat} {oi : Oper} (d : Option Tmp) {fuel : Nat} {listed : Array Bool} {a : Act} {w : World} (hi : ops[i]? = some oi) (hd : oi.dst = d)
    (hs : Region.noSelect ops = true) (hf : Region.free .any ops listed i = true) (hr : (Region.ready .any ops listed).contains i = true) (hu : (U.all fun u => listed.getD u true || waits ops u i) = true)
    (hQ : ∀ c a w, Q (.panic c) (a.put d undef) w → Q (.panic c) a w) (hg : Region.wanted oi (yielded ops a.tmps) = false) (hS : S w)
    (h : wpAnyU P ops Q S U fuel (listed.setIfInBounds i true) (a.put d undef) w) : wpAnyU P ops Q S U (fuel + 1) listed a w := by
  subst hd; exact wpAnyU_first S (fun _ h => h) (.inr fun _ h => h) hi (Region.noSelect_spec hs) hQ fuel listed a w (.inr (takeU_of i hu)) (Region.free_spec hi hf) (by simpa using hr) (.inr ⟨hg, rfl⟩) hS h
/-- operation i of U, which only computes -/
theorem uPure {i : Nat} {oi : Oper} (d : Option Tmp) {v : Value} {fuel : Nat} {listed : Array Bool} {a : Act} {w : World} (hi : ops[i]? = some oi) (hd : oi.dst = d)
    (hs : Region.noSelect ops = true) (hf : Region.free .any ops listed i = true) (hr : (Region.ready .any ops listed).contains i = true) (hu : U.contains i = true)
    (hQ : ∀ c a w, Q (.panic c) (a.put d v) w → Q (.panic c) a w) (hg : Region.wanted oi (yielded ops a.tmps) = true)
    (hy : ∀ w, (execOp a.eval oi).run P w = .ok (.value v) w)
    (h : wpAnyU P ops Q S U fuel (listed.setIfInBounds i true) (a.put d v) w) : wpAnyU P ops Q S U (fuel + 1) listed a w := by
  subst hd; exact wpAnyU_first (fun _ => True) (fun _ _ => trivial) (.inl hu) hi (Region.noSelect_spec hs) hQ fuel listed a w (.inl fun _ => trivial) (Region.free_spec hi hf) (by simpa using hr) (.inl ⟨hg, fun w _ => hy w⟩) trivial h
def ReadyU (P : Program) (ops : Array Oper) (Q : Exit → Act → World → Prop) (S : World → Prop) (U : List Nat) (fuel : Nat) (listed : Array Bool) (a : Act) (w : World) (rs : List Nat) : Prop :=
  ∀ i ∈ rs, wpOp P ops Q i (fun a' w' => (U.contains i = false → S w') ∧ wpAnyU P ops Q S U fuel (listed.setIfInBounds i true) a' w') a w
theorem ReadyU.nil {fuel : Nat} {listed : Array Bool} {a : Act} {w : World} : ReadyU P ops Q S U fuel listed a w [] := fun _ h => by cases h
theorem ReadyU.cons {fuel : Nat} {listed : Array Bool} {a : Act} {w : World} {i : Nat} {o : Oper} {rs : List Nat} (ho : ops[i]? = some o)
    (h : ∀ K' : Act → World → Prop, Shut (∀ a w, S w → (S w → wpAnyU P ops Q S U fuel (listed.setIfInBounds i true) a w) → K' a w) → if Region.wanted o (yielded ops a.tmps) = true then Oper.wp P o a w K' Q else K' (a.put o.dst undef) w)
    (hs : ReadyU P ops Q S U fuel listed a w rs) : ReadyU P ops Q S U fuel listed a w (i :: rs) := fun j hj => by
  rcases List.mem_cons.1 hj with rfl | hj
  · exact wpOp_step ho (fun K' hK => h K' (fun a w hS hW => hK a w ⟨fun _ => hS, hW hS⟩))
  · exact hs j hj
theorem ReadyU.consU {fuel : Nat} {listed : Array Bool} {a : Act} {w : World} {i : Nat} {o : Oper} {rs : List Nat} (hu : U.contains i = true) (ho : ops[i]? = some o)
    (h : ∀ K' : Act → World → Prop, Shut (∀ a w, wpAnyU P ops Q S U fuel (listed.setIfInBounds i true) a w → K' a w) → if Region.wanted o (yielded ops a.tmps) = true then Oper.wp P o a w K' Q else K' (a.put o.dst undef) w)
    (hs : ReadyU P ops Q S U fuel listed a w rs) : ReadyU P ops Q S U fuel listed a w (i :: rs) := fun j hj => by
  rcases List.mem_cons.1 hj with rfl | hj
  · exact wpOp_step ho (fun K' hK => h K' (fun a w hW => hK a w ⟨fun hc => (by rw [hu] at hc; cases hc), hW⟩))
  · exact hs j hj
theorem uReady {rs : List Nat} {fuel : Nat} {listed : Array Bool} {a : Act} {w : World} (hr : Region.ready .any ops listed = rs) (hne : rs ≠ [])
    (h : ReadyU P ops Q S U fuel listed a w rs) : wpAnyU P ops Q S U (fuel + 1) listed a w := ⟨fun h0 => absurd (hr ▸ h0) hne, hr ▸ h⟩
theorem uDone {listed : Array Bool} {a : Act} {w : World} (hr : Region.ready .any ops listed = []) (h : Q .normal a w) : ∀ fuel, wpAnyU P ops Q S U fuel listed a w
  | 0 => ⟨hr, h⟩
  | _ + 1 => ⟨fun _ => h, by rw [hr]; simp⟩
/-- the beginning -/
theorem wp_regionU {id : Nat} {a : Act} {w : World} (U : List Nat) (hm : P.follows .mixedOrders = true) (hS : S w.drew)
    (h : S w.drew → wpAnyU P ops Q S U ops.size (Array.replicate ops.size false) a w.drew) : (Code.region id ops true).wp P Q a w :=
  wp_region_any hm (wpAny_ofU _ _ _ _ (h hS))
end
end Go.Proofs.YteipbcpnnojclaaDoor

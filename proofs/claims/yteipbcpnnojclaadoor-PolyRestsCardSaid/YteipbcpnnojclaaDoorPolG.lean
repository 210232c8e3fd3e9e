/- poly: Trim, Eval. -/
import Derived.Test.YteipbcpnnojclaaDoorPolF
namespace Go.Proofs.YteipbcpnnojclaaDoor
open Go.RowKit DivMath WordMath
set_option linter.unusedVariables false
set_option linter.unusedSimpArgs false
theorem Rw.toNl {W : World} {D : Nat → Prop} {v : Value} {l : List Nat} (h : Rw W D v l.length 1 (ncl l)) : Rw W D v (nl l).length 1 (icl (nl l)) := by rw [nl_len]; exact h
theorem Rw.ofNl {W : World} {D : Nat → Prop} {v : Value} {l : List Nat} (h : Rw W D v (nl l).length 1 (icl (nl l))) : Rw W D v l.length 1 (ncl l) := by rw [nl_len] at h; exact h
theorem Rw.tr {W : World} {D : Nat → Prop} {v : Value} {n k : Nat} {cs : List Value} (h : Rw W D v n k cs) : Rw W (fun _ => True) v n k cs := h.turn (Nat.le_refl _) (fun _ _ _ => trivial) (fun _ _ _ _ => rfl)
theorem Mx.box1 {W : World} {B g : Nat} {T : TypeId} {D : Nat → Prop} {rv : Value} {l : List Int} (hB : Box B g T [rv] W) (h : Rw W D rv l.length 1 (icl l)) : Mx W (fun _ => True) (.slice (some ⟨g, 0, none⟩) [l].length 1) [l] :=
  Mx.ofBox hB (Nat.le_refl _) (by omega) (fun i l' hi => by
    rcases i with _ | i
    · simp only [List.getElem?_cons_zero, Option.some.injEq] at hi; subst hi; exact ⟨rv, rfl, h.tr⟩
    · simp at hi)
theorem Mx.box2 {W : World} {B g : Nat} {T : TypeId} {D : Nat → Prop} {rv rv' : Value} {l l' : List Int} (hB : Box B g T [rv, rv'] W) (h : Rw W D rv l.length 1 (icl l)) (h' : Rw W D rv' l'.length 1 (icl l')) : Mx W (fun _ => True) (.slice (some ⟨g, 0, none⟩) [l, l'].length 2) [l, l'] :=
  Mx.ofBox hB (Nat.le_refl _) (by omega) (fun i l'' hi => by
    rcases i with _ | _ | i
    · simp only [List.getElem?_cons_zero, Option.some.injEq] at hi; subst hi; exact ⟨rv, rfl, h.tr⟩
    · simp only [List.getElem?_cons_succ, List.getElem?_cons_zero, Option.some.injEq] at hi; subst hi; exact ⟨rv', rfl, h'.tr⟩
    · simp at hi)
theorem Rw.box1 {W : World} {B g : Nat} {T : TypeId} {x : Int} (hB : Box B g T [.int .i64 x] W) : Rw W (fun _ => True) (.slice (some ⟨g, 0, none⟩) [x].length 1) [x].length 1 (icl [x]) :=
  ⟨some ⟨g, 0, none⟩, 1, rfl, Nat.le_refl _, by omega, rfl, by simp [icl, Value.oneCell'], fun _ => ⟨g, 0, rfl, ⟨hB.lt, trivial⟩, fun i u hu => by rw [Nat.zero_add]; exact hB.cell i hu⟩⟩
theorem all_one {q x : Int} {t : Bool} (h : resB q x = t) : [x].all (resB q) = t := by simp [h]
theorem nl_all {q : Nat} {l : List Nat} (h : ∀ c ∈ l, c < q) : (nl l).all (resB (q : Int)) = true := by
  rw [List.all_eq_true]
  intro x hx
  obtain ⟨n, hn, rfl⟩ := List.mem_map.1 hx
  have := h n hn
  unfold resB
  simp; omega
set_option maxRecDepth 100000 in
set_option maxHeartbeats 1000000 in
theorem Eval_no {D : Nat → Prop} (q : Int) (l : List Int) (x : Int) {xa : Option Addr} {xk : Nat} {w : World} (hx : Fct.at w D (.rw (.slice xa l.length xk) l.length 1 (icl l))) (hl0 : Laid w) (hn : -9223372036854775808 ≤ q ∧ q ≤ 9223372036854775807) (hv0 : validB q [l] = false) :
    Calls Tryd.prog 22 #[.int .i64 q, .slice xa l.length xk, .int .i64 x] w fun e w' => e = .returned (.tuple #[.int .i64 0, .int .i64 1]) ∧ Below w.heap.size w w' := by
  have E0 : Hid (Env D w [] [.rw (.slice xa l.length xk) l.length 1 (icl l)] w) := Lib.hid ((Env.start D w).arg (.rw (.slice xa l.length xk) l.length 1 (icl l)) hx)
  clear hx
  go_enter Tryd.func22, Tryd.ntmps22
  have hl := Lib.hid hl0
  have hv := Lib.hid hv0
  clear hl0 hv0
  have E1 : Hid (Env D w [(w.heap.size, 22, [.slice xa l.length xk])] [.rw (.slice xa l.length xk) l.length 1 (icl l)] _) := Lib.hid ((E0.out.push 22 [.slice xa l.length xk] (w.heap.size) (by simp)))
  go_wp2_with fail
  refine (valid_c q [l] (Mx.box1 (E1.out.bx 0 rfl) ((E1.out.fc 0 rfl))) (hl.out.below E1.out.bel) hn hv.out (by simp)).mono ?_
  rintro e w1 ⟨rfl, hb⟩
  have E2 : Hid (Env D w [(w.heap.size, 22, [.slice xa l.length xk])] [.rw (.slice xa l.length xk) l.length 1 (icl l)] w1) := Lib.hid (E1.out.below hb)
  clear E0 E1 hb
  have hfin := Lib.hid E2.out.bel
  go_wp2
  go_ret2
  exact ⟨rfl, hfin.out⟩
set_option maxRecDepth 100000 in
set_option maxHeartbeats 1000000 in
theorem Eval_range {D : Nat → Prop} (q : Int) (l : List Int) (x : Int) {xa : Option Addr} {xk : Nat} {w : World} (hx : Fct.at w D (.rw (.slice xa l.length xk) l.length 1 (icl l))) (hl0 : Laid w) (hn : -9223372036854775808 ≤ q ∧ q ≤ 9223372036854775807) (hv0 : validB q [l] = true) (hr0 : resB q x = false) :
    Calls Tryd.prog 22 #[.int .i64 q, .slice xa l.length xk, .int .i64 x] w fun e w' => e = .returned (.tuple #[.int .i64 0, .int .i64 2]) ∧ Below w.heap.size w w' := by
  have E0 : Hid (Env D w [] [.rw (.slice xa l.length xk) l.length 1 (icl l)] w) := Lib.hid ((Env.start D w).arg (.rw (.slice xa l.length xk) l.length 1 (icl l)) hx)
  clear hx
  go_enter Tryd.func22, Tryd.ntmps22
  have hl := Lib.hid hl0
  have hv := Lib.hid hv0
  have hr := Lib.hid hr0
  clear hl0 hv0 hr0
  have E1 : Hid (Env D w [(w.heap.size, 22, [.slice xa l.length xk])] [.rw (.slice xa l.length xk) l.length 1 (icl l)] _) := Lib.hid ((E0.out.push 22 [.slice xa l.length xk] (w.heap.size) (by simp)))
  go_wp2_with fail
  refine (valid_c q [l] (Mx.box1 (E1.out.bx 0 rfl) ((E1.out.fc 0 rfl))) (hl.out.below E1.out.bel) hn hv.out (by simp)).mono ?_
  rintro e w1 ⟨rfl, hb⟩
  have E2 : Hid (Env D w [(w.heap.size, 22, [.slice xa l.length xk])] [.rw (.slice xa l.length xk) l.length 1 (icl l)] w1) := Lib.hid (E1.out.below hb)
  clear E0 E1 hb
  have E3 : Hid (Env D w [(w1.heap.size, 3, [.int .i64 x]), (w.heap.size, 22, [.slice xa l.length xk])] [.rw (.slice xa l.length xk) l.length 1 (icl l)] _) := Lib.hid ((E2.out.push 3 [.int .i64 x] (w1.heap.size) (by simp)))
  go_wp2_with fail
  refine (residues_c q [x] (Rw.box1 (E3.out.bx 0 rfl)) (all_one hr.out) (by simp)).mono ?_
  rintro e w2 ⟨rfl, hb⟩
  have E4 : Hid (Env D w [(w1.heap.size, 3, [.int .i64 x]), (w.heap.size, 22, [.slice xa l.length xk])] [.rw (.slice xa l.length xk) l.length 1 (icl l)] w2) := Lib.hid (E3.out.below hb)
  clear E2 E3 hb
  have hfin := Lib.hid E4.out.bel
  go_wp2
  go_ret2
  exact ⟨rfl, hfin.out⟩
set_option maxRecDepth 100000 in
set_option maxHeartbeats 1000000 in
theorem Eval_ok {D : Nat → Prop} (q : Nat) (l : List Nat) (x : Nat) {xa : Option Addr} {xk : Nat} {w : World} (hx : Fct.at w D (.rw (.slice xa l.length xk) l.length 1 (ncl l))) (hl0 : Laid w) (hqT : (q : Int) < Top) (hv0 : validB q [nl l] = true) (hlen : l.length ≤ 1000) (hr0 : ∀ c ∈ l, c < q) (hxq : (x : Int) < (q : Int)) :
    Calls Tryd.prog 22 #[.int .i64 (q : Nat), .slice xa l.length xk, .int .i64 (x : Nat)] w fun e w' => e = .returned (.tuple #[.int .i64 (evN q x l : Nat), .int .i64 0]) ∧ Below w.heap.size w w' := by
  have E0 : Hid (Env D w [] [.rw (.slice xa l.length xk) l.length 1 (ncl l)] w) := Lib.hid ((Env.start D w).arg (.rw (.slice xa l.length xk) l.length 1 (ncl l)) hx)
  clear hx
  go_enter Tryd.func22, Tryd.ntmps22
  have hq2 : -9223372036854775808 ≤ (q : Int) ∧ (q : Int) ≤ 9223372036854775807 := by unfold Top at hqT; omega
  have HT := Lib.hid hqT
  clear hqT
  have hl := Lib.hid hl0
  have hv := Lib.hid hv0
  have hr := Lib.hid hr0
  clear hl0 hv0 hr0
  have hrx : Hid (resB q x = true) := Lib.hid (by unfold resB; simp; omega)
  have E1 : Hid (Env D w [(w.heap.size, 22, [.slice xa l.length xk])] [.rw (.slice xa l.length xk) l.length 1 (ncl l)] _) := Lib.hid ((E0.out.push 22 [.slice xa l.length xk] (w.heap.size) (by simp)))
  go_wp2_with fail
  refine (valid_c q [nl l] (Mx.box1 (E1.out.bx 0 rfl) (Rw.toNl (E1.out.fc 0 rfl))) (hl.out.below E1.out.bel) hq2 hv.out (by simp)).mono ?_
  rintro e w1 ⟨rfl, hb⟩
  have E2 : Hid (Env D w [(w.heap.size, 22, [.slice xa l.length xk])] [.rw (.slice xa l.length xk) l.length 1 (ncl l)] w1) := Lib.hid (E1.out.below hb)
  clear E0 E1 hb
  have E3 : Hid (Env D w [(w1.heap.size, 3, [.int .i64 (x : Nat)]), (w.heap.size, 22, [.slice xa l.length xk])] [.rw (.slice xa l.length xk) l.length 1 (ncl l)] _) := Lib.hid ((E2.out.push 3 [.int .i64 (x : Nat)] (w1.heap.size) (by simp)))
  go_wp2_with fail
  refine (residues_c q [(x : Int)] (Rw.box1 (E3.out.bx 0 rfl)) (all_one hrx.out) (by simp)).mono ?_
  rintro e w2 ⟨rfl, hb⟩
  have E4 : Hid (Env D w [(w1.heap.size, 3, [.int .i64 (x : Nat)]), (w.heap.size, 22, [.slice xa l.length xk])] [.rw (.slice xa l.length xk) l.length 1 (ncl l)] w2) := Lib.hid (E3.out.below hb)
  clear E2 E3 hb
  go_wp2_with fail
  refine (eval_c (E4.out.fc 0 rfl) hr.out hxq HT.out (by omega)).mono ?_
  rintro e w3 ⟨rfl, hb⟩
  have E5 : Hid (Env D w [(w1.heap.size, 3, [.int .i64 (x : Nat)]), (w.heap.size, 22, [.slice xa l.length xk])] [.rw (.slice xa l.length xk) l.length 1 (ncl l)] w3) := Lib.hid (E4.out.below hb)
  clear E4 hb
  have hfin := Lib.hid E5.out.bel
  go_wp2
  go_ret2
  exact ⟨rfl, hfin.out⟩
end Go.Proofs.YteipbcpnnojclaaDoor

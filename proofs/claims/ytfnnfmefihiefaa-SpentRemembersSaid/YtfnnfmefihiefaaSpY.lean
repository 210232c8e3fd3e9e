/- the reference's insert. -/
import Derived.Test.YtfnnfmefihiefaaSpX
namespace Go.Proofs.Ytfnnfmefihiefaa
open Go.RowKit
set_option linter.unusedVariables false
set_option linter.unusedSimpArgs false
/-- a table came back -/
def Ret1T (D : Nat → Prop) (L : List Us) (e : Ending) (W : World) : Prop := ∃ va vk X, e = .returned (.agg #[.slice va X.length vk]) ∧ X.map Uv.u = L ∧ Hid ((gUl (.slice va X.length vk) X).at_ W D)
section
variable {ops : Array Oper} {rest : List Oper} {op : Oper} {a : Act} {w : World} {Q : Exit → Act → World → Prop} {X : List Uv} {xa : Option Addr} {xk k : Nat} {D : Nat → Prop}
theorem elemUs : Try.prog.elem 23 = 44 := by kernel_rfl
theorem undUs : Try.prog.underlying 23 = some (.slice (Try.prog.elem 23)) := by rw [elemUs]; exact Try.underlying23
theorem gUl.src (h : (gUl (.slice xa X.length xk) X).at_ w D) : xk ≤ 9223372036854775807 ∧ X.length ≤ xk ∧ ∀ n, n ≤ X.length → (n ≠ 0 → ∃ b off, xa = some ⟨b, off, none⟩) := by
  obtain ⟨ao, cap, h1, h2, h3, h4, h5, h6⟩ := h.1
  cases h1
  refine ⟨h3, h2, fun n hn hz => ?_⟩
  obtain ⟨b, off, e, _⟩ := h6 (by omega)
  exact ⟨b, off, e⟩
theorem gUl.cellAt (h : (gUl (.slice xa X.length xk) X).at_ w D) {b off : Nat} (e : xa = some ⟨b, off, none⟩) {j : Nat} {u : Value} (hu : (ucl X)[j]? = some u) : w.cell? ⟨b, off + j, none⟩ = some u := by
  obtain ⟨ao, cap, h1, h2, h3, h4, h5, h6⟩ := h.1
  cases h1
  have hne : X.length ≠ 0 := by
    intro h0
    have := (List.getElem?_eq_some_iff.1 hu).1
    rw [h4, h0] at this; omega
  obtain ⟨b', off', e', _, hc⟩ := h6 hne
  rw [e] at e'; cases e'
  exact hc j u hu
/-- the first k of a list of uses -/
theorem wpl_pre (hg : op.guard = none) (hx : ∃ x y, op.op = .slice 23 x none (some y) none ∧ a.eval x = .slice xa X.length xk ∧ a.eval y = .int .i64 (k : Int)) (h : (gUl (.slice xa X.length xk) X).at_ w D) (hk : k ≤ X.length)
    (hn : ∀ a' c', Hid (SrcN 83 w a' k (ucl (X.take k))) → wpList Try.prog ops Q rest (a.put op.dst (.slice a' k c')) w) : wpList Try.prog ops Q (op :: rest) a w := by
  obtain ⟨x, y, ho, h1, h2⟩ := hx
  obtain ⟨s1, s2, s3⟩ := gUl.src h
  refine Great.wpList_readTo hg op.dst rfl (sliced xa 0 k xk 83) ?_ (hn _ _ (Lib.hid ?_))
  · unfold execOp
    have hrun := run_slice_h (P := Try.prog) w 23 xa X.length xk undUs .i64 (k : Int) (by omega) (by omega)
    simp only [ho, Option.map_some, Option.map_none, h1, h2, Sem.run_bind, run_sliceAt_slice w 23 _ _ _ _ undUs, hrun, elemUs, Try.sizeOf44, Result.andThen_ok]
    (try simp [Result.andThen])
  · obtain ⟨e1, _⟩ := ucl_take h.2 k
    refine ⟨by rw [e1, List.length_take, ucl_len h.2]; omega, fun u hu => ucl_one h.2 u (by rw [e1] at hu; exact List.mem_of_mem_take hu), ?_⟩
    by_cases h0 : k = 0
    · exact .inl h0
    · obtain ⟨b, off, rfl⟩ := s3 k hk h0
      refine .inr ⟨⟨b, off, none⟩, ?_, fun j u hu => ?_⟩
      · rw [if_neg (by omega)]; simp [Addr.add]
      · rw [Addr.add_lit]
        rw [e1, List.getElem?_take] at hu
        split at hu
        · exact gUl.cellAt h rfl hu
        · cases hu
/-- what stands behind the first k -/
theorem wpl_suf (hg : op.guard = none) (hx : ∃ x y, op.op = .slice 23 x (some y) none none ∧ a.eval x = .slice xa X.length xk ∧ a.eval y = .int .i64 (k : Int)) (h : (gUl (.slice xa X.length xk) X).at_ w D) (hk : k ≤ X.length)
    (hn : ∀ a' c', Hid (SrcN 83 w a' (X.length - k) (ucl (X.drop k))) → wpList Try.prog ops Q rest (a.put op.dst (.slice a' (X.length - k) c')) w) : wpList Try.prog ops Q (op :: rest) a w := by
  obtain ⟨x, y, ho, h1, h2⟩ := hx
  obtain ⟨s1, s2, s3⟩ := gUl.src h
  refine Great.wpList_readTo hg op.dst rfl (sliced xa k X.length xk 83) ?_ (hn _ _ (Lib.hid ?_))
  · unfold execOp
    have hrun := run_slice_l (P := Try.prog) w 23 xa X.length xk undUs .i64 (k : Int) (by omega) (by omega)
    simp only [ho, Option.map_some, Option.map_none, h1, h2, Sem.run_bind, run_sliceAt_slice w 23 _ _ _ _ undUs, hrun, elemUs, Try.sizeOf44, Result.andThen_ok]
    (try simp [Result.andThen])
  · obtain ⟨_, e2⟩ := ucl_take h.2 k
    refine ⟨by rw [e2, List.length_drop, ucl_len h.2]; omega, fun u hu => ucl_one h.2 u (by rw [e2] at hu; exact List.mem_of_mem_drop hu), ?_⟩
    by_cases h0 : X.length - k = 0
    · exact .inl h0
    · obtain ⟨b, off, rfl⟩ := s3 X.length (Nat.le_refl _) (by omega)
      refine .inr ⟨⟨b, off + k * 83, none⟩, ?_, fun j u hu => ?_⟩
      · rw [if_neg (by omega)]; simp [Addr.add_lit]
      · rw [Addr.add_lit, Nat.add_assoc]
        rw [e2, List.getElem?_drop] at hu
        exact gUl.cellAt h rfl hu
end
theorem lb_of {L : List Us} {a b : Int} {k : Nat} (h1 : ∀ (j : Nat) (v : Us), j < k → L[j]? = some v → ltK v.ua v.ub a b) (hk : k ≤ L.length) (h2 : ∀ v, L[k]? = some v → ¬ ltK v.ua v.ub a b) : lb L a b = k := by
  have hle := lb_le L a b
  rcases Nat.lt_trichotomy (lb L a b) k with e | e | e
  · exfalso
    have hv := List.getElem?_eq_getElem (l := L) (i := lb L a b) (by omega)
    have := takeWhile_stop (fun u : Us => decide (ltK u.ua u.ub a b)) L hv
    exact absurd (h1 _ _ e hv) (of_decide_eq_false this)
  · exact e
  · exfalso
    have hv := List.getElem?_eq_getElem (l := L) (i := k) (by omega)
    have := takeWhile_get (fun u : Us => decide (ltK u.ua u.ub a b)) L k hv e
    exact h2 _ hv (of_decide_eq_true this)
theorem ou_pre {ns : List Bx} {nc : List Value} {na : Option Addr} {nk k : Nat} {X : List Uv} (hk : k ≤ X.length) (h1 : OS 44 83 ns nc (.slice na k nk) k) (h2 : nc.take (k * 83) = ucl (X.take k)) : OU ns nc (.slice na k nk) (X.take k) := by
  have e : (X.take k).length = k := by rw [List.length_take]; omega
  exact ⟨by rw [e]; exact h1, by rw [e]; exact h2⟩
theorem ou_join {s1 s2 : List Bx} {c1 c2 : List Value} {v1 v2 : Value} {n m : Nat} {Y Z : List Uv} (h : OU s1 c1 v1 Y) (hn : Y.length = n) (hm : Z.length = m) (h1 : OS 44 83 s2 c2 v2 (n + m)) (h2 : c2.take ((n + m) * 83) = c1.take (n * 83) ++ ucl Z) : OU s2 c2 v2 (Y ++ Z) := by
  subst hn hm
  exact ⟨by rw [List.length_append]; exact h1, by rw [List.length_append, h2, h.2, ucl_app]⟩
theorem gUd.take {w : World} {D : Nat → Prop} {X : List Uv} (h : (gUd X).at_ w D) (k : Nat) : (gUd (X.take k)).at_ w D := fun x hx => h x (List.mem_of_mem_take hx)
theorem gUd.drop {w : World} {D : Nat → Prop} {X : List Uv} (h : (gUd X).at_ w D) (k : Nat) : (gUd (X.drop k)).at_ w D := fun x hx => h x (List.mem_of_mem_drop hx)
theorem gUd.join {w : World} {D : Nat → Prop} {Y Z : List Uv} (h : (gUd Y).at_ w D) (h' : (gUd Z).at_ w D) : (gUd (Y ++ Z)).at_ w D := fun x hx => (List.mem_append.1 hx).elim (h x) (h' x)
set_option maxRecDepth 100000 in
set_option maxHeartbeats 4000000 in
theorem insert_c {D : Nat → Prop} (X : List Uv) (u : Us) {xa : Option Addr} {xk : Nat} {la pa : Value} {w : World} (hx : Fct.at w D (.gn (gUl (.slice xa X.length xk) X))) (hu : Fct.at w D (.gn (gSp u.sp la pa))) (hm0 : X.length ≤ 100000) :
    Calls Try.prog 45 #[.agg #[.slice xa X.length xk], .agg (usc u la pa).toArray] w fun e w' => Ret1T (fun b => D b ∨ w.heap.size ≤ b) (insU (X.map Uv.u) (lb (X.map Uv.u) u.ua u.ub) u) e w' ∧ Below w.heap.size w w' := by
  have E0 : Hid (Env D w [] [.gn (gSp u.sp la pa), .gn (gUl (.slice xa X.length xk) X)] w) := Lib.hid (((Env.start D w).arg (.gn (gUl (.slice xa X.length xk) X)) hx).arg (.gn (gSp u.sp la pa)) hu)
  clear hx hu
  go_enter Try.func45, Try.ntmps45
  have hm := Lib.hid hm0
  clear hm0
  have hm9 := hm.out
  have HU := Lib.hid (E0.out.spOk 0 rfl)
  have UN : Hid (∀ v ∈ usc u la pa, v.oneCell' = true) := Lib.hid (usc_one HU.out (Rw.oneV (E0.out.fc 0 rfl).2.1) (Rw.oneV (E0.out.fc 0 rfl).2.2))
  go_wp2_with fail
  have E1 : Hid (Env D w [(w.heap.size + 1 + 1, 25, [.slice none 0 0]), (w.heap.size + 1, 44, usc u la pa), (w.heap.size, 25, [.slice xa X.length xk])] [.gn (gSp u.sp la pa), .gn (gUl (.slice xa X.length xk) X)] _) := Lib.hid ((((E0.out.push 25 [.slice xa X.length xk] (w.heap.size) (by simp)).push 44 (usc u la pa) (w.heap.size + 1) (by simp)).push 25 [.slice none 0 0] (w.heap.size + 1 + 1) (by simp)))
  go_loopg [5] (X.length) (fun gk s5 wr => ∃ (k : Nat), s5 = .int .i64 (k : Int) ∧ Hid (Env D w [(w.heap.size + 1 + 1, 25, [.slice none 0 0]), (w.heap.size + 1, 44, usc u la pa), (w.heap.size, 25, [.slice xa X.length xk])] [.gn (gSp u.sp la pa), .gn (gUl (.slice xa X.length xk) X)] wr) ∧ Hid ((k ≤ X.length ∧ gk = X.length - k) ∧ (∀ (j : Nat) (v : Us), j < k → (X.map Uv.u)[j]? = some v → ltK v.ua v.ub u.ua u.ub)))
  case atStart => exact ⟨0, rfl, Lib.hid E1.out, Lib.hid ⟨⟨Nat.zero_le _, rfl⟩, fun j v h => absurd h (Nat.not_lt_zero _)⟩⟩
  case round =>
    clear E0 E1
    obtain ⟨k, rfl, EL, HA⟩ := hrel
    obtain ⟨⟨a1, a2⟩, a3⟩ := HA.out
    have HS := Lib.hid a3
    clear a3 HA
    by_cases hy : k = X.length
    · skip
      have t6 : decide ((k : Int) < (X.length : Int)) = false := decide_eq_false (by omega)
      have t7 : decide (k < X.length) = false := decide_eq_false (by omega)
      have HLB : Hid (lb (X.map Uv.u) u.ua u.ub = k) := Lib.hid (lb_of HS.out (by rw [List.length_map]; exact a1) (fun v hv => by have := (List.getElem?_eq_some_iff.1 hv).1; rw [List.length_map] at this; omega))
      have HY := Lib.hid hy
      clear hy
      go_wp2_with fail
      have E2 : Hid (Env D w [(w.heap.size + 1 + 1, 25, [.slice none 0 0]), (w.heap.size + 1, 44, usc u la pa), (w.heap.size, 25, [.slice xa X.length xk])] [.gn (gSp u.sp la pa), .gn (gUl (.slice xa X.length xk) X)] (wr.drew)) := Lib.hid EL.out.drew
      clear EL
      refine wp_regionU (S := fun w' => w'.cell? ⟨w.heap.size, 0, none⟩ = some (.slice xa X.length xk)) [] (by kernel_rfl) (((E2.out.bx 2 rfl).cell 0 rfl)) (fun hHeld => ?_)
      generalize wr.drew = w1 at *
      refine uTake (i := 0) (some 7) (v := ?_) rfl rfl (by kernel_rfl) (by kernel_rfl) (by kernel_rfl) (by kernel_rfl) (fun _ _ _ h => h) (by rfl) (by assumption) ?_ ?_
      rotate_left
      · (intro wS hSw; (try dsimp only at hSw); go_simp; try with_reducible rfl)
      try simp only [Act.put, List.setIfInBounds_toArray, List.set_cons_zero, List.set_cons_succ]
      refine uTake (i := 1) (some 8) (v := ?_) rfl rfl (by kernel_rfl) (by kernel_rfl) (by kernel_rfl) (by kernel_rfl) (fun _ _ _ h => h) (by rfl) (by assumption) ?_ ?_
      rotate_left
      · (intro wS hSw; (try dsimp only at hSw); go_simp; try with_reducible rfl)
      try simp only [Act.put, List.setIfInBounds_toArray, List.set_cons_zero, List.set_cons_succ]
      refine uTake (i := 2) (some 9) (v := ?_) rfl rfl (by kernel_rfl) (by kernel_rfl) (by kernel_rfl) (by kernel_rfl) (fun _ _ _ h => h) (by rfl) (by assumption) ?_ ?_
      rotate_left
      · (intro wS hSw; (try dsimp only at hSw); go_simp; try with_reducible rfl)
      try simp only [Act.put, List.setIfInBounds_toArray, List.set_cons_zero, List.set_cons_succ]
      refine uTake (i := 3) (some 10) (v := ?_) rfl rfl (by kernel_rfl) (by kernel_rfl) (by kernel_rfl) (by kernel_rfl) (fun _ _ _ h => h) (by rfl) (by assumption) ?_ ?_
      rotate_left
      · (intro wS hSw; (try dsimp only at hSw); go_simp; try with_reducible rfl)
      try simp only [Act.put, List.setIfInBounds_toArray, List.set_cons_zero, List.set_cons_succ]
      refine uTake (i := 4) (some 11) (v := ?_) rfl rfl (by kernel_rfl) (by kernel_rfl) (by kernel_rfl) (by kernel_rfl) (fun _ _ _ h => h) (by rfl) (by assumption) ?_ ?_
      rotate_left
      · (intro wS hSw; (try dsimp only at hSw); go_simp; try with_reducible rfl)
      try simp only [Act.put, List.setIfInBounds_toArray, List.set_cons_zero, List.set_cons_succ]
      refine uTake (i := 5) (some 12) (v := ?_) rfl rfl (by kernel_rfl) (by kernel_rfl) (by kernel_rfl) (by kernel_rfl) (fun _ _ _ h => h) (by rfl) (by assumption) ?_ ?_
      rotate_left
      · (intro wS hSw; (try dsimp only at hSw); go_simp; try with_reducible rfl)
      try simp only [Act.put, List.setIfInBounds_toArray, List.set_cons_zero, List.set_cons_succ]
      refine uPass (i := 6) (some 13) rfl rfl (by kernel_rfl) (by kernel_rfl) (by kernel_rfl) (by kernel_rfl) (fun _ _ _ h => h) (by rfl) (by assumption) ?_
      try simp only [Act.put, List.setIfInBounds_toArray, List.set_cons_zero, List.set_cons_succ]
      refine uPass (i := 7) (some 14) rfl rfl (by kernel_rfl) (by kernel_rfl) (by kernel_rfl) (by kernel_rfl) (fun _ _ _ h => h) (by rfl) (by assumption) ?_
      try simp only [Act.put, List.setIfInBounds_toArray, List.set_cons_zero, List.set_cons_succ]
      refine uPass (i := 8) (some 15) rfl rfl (by kernel_rfl) (by kernel_rfl) (by kernel_rfl) (by kernel_rfl) (fun _ _ _ h => h) (by rfl) (by assumption) ?_
      try simp only [Act.put, List.setIfInBounds_toArray, List.set_cons_zero, List.set_cons_succ]
      refine uPass (i := 9) (some 16) rfl rfl (by kernel_rfl) (by kernel_rfl) (by kernel_rfl) (by kernel_rfl) (fun _ _ _ h => h) (by rfl) (by assumption) ?_
      try simp only [Act.put, List.setIfInBounds_toArray, List.set_cons_zero, List.set_cons_succ]
      refine uPass (i := 10) (some 17) rfl rfl (by kernel_rfl) (by kernel_rfl) (by kernel_rfl) (by kernel_rfl) (fun _ _ _ h => h) (by rfl) (by assumption) ?_
      try simp only [Act.put, List.setIfInBounds_toArray, List.set_cons_zero, List.set_cons_succ]
      refine uPass (i := 11) (some 18) rfl rfl (by kernel_rfl) (by kernel_rfl) (by kernel_rfl) (by kernel_rfl) (fun _ _ _ h => h) (by rfl) (by assumption) ?_
      try simp only [Act.put, List.setIfInBounds_toArray, List.set_cons_zero, List.set_cons_succ]
      refine uPass (i := 12) (some 19) rfl rfl (by kernel_rfl) (by kernel_rfl) (by kernel_rfl) (by kernel_rfl) (fun _ _ _ h => h) (by rfl) (by assumption) ?_
      try simp only [Act.put, List.setIfInBounds_toArray, List.set_cons_zero, List.set_cons_succ]
      refine uPass (i := 13) (some 20) rfl rfl (by kernel_rfl) (by kernel_rfl) (by kernel_rfl) (by kernel_rfl) (fun _ _ _ h => h) (by rfl) (by assumption) ?_
      try simp only [Act.put, List.setIfInBounds_toArray, List.set_cons_zero, List.set_cons_succ]
      refine uPass (i := 14) (some 21) rfl rfl (by kernel_rfl) (by kernel_rfl) (by kernel_rfl) (by kernel_rfl) (fun _ _ _ h => h) (by rfl) (by assumption) ?_
      try simp only [Act.put, List.setIfInBounds_toArray, List.set_cons_zero, List.set_cons_succ]
      refine uPass (i := 15) (some 22) rfl rfl (by kernel_rfl) (by kernel_rfl) (by kernel_rfl) (by kernel_rfl) (fun _ _ _ h => h) (by rfl) (by assumption) ?_
      try simp only [Act.put, List.setIfInBounds_toArray, List.set_cons_zero, List.set_cons_succ]
      refine uPass (i := 16) (some 23) rfl rfl (by kernel_rfl) (by kernel_rfl) (by kernel_rfl) (by kernel_rfl) (fun _ _ _ h => h) (by rfl) (by assumption) ?_
      try simp only [Act.put, List.setIfInBounds_toArray, List.set_cons_zero, List.set_cons_succ]
      refine uPass (i := 17) (some 24) rfl rfl (by kernel_rfl) (by kernel_rfl) (by kernel_rfl) (by kernel_rfl) (fun _ _ _ h => h) (by rfl) (by assumption) ?_
      try simp only [Act.put, List.setIfInBounds_toArray, List.set_cons_zero, List.set_cons_succ]
      refine uPass (i := 18) (some 25) rfl rfl (by kernel_rfl) (by kernel_rfl) (by kernel_rfl) (by kernel_rfl) (fun _ _ _ h => h) (by rfl) (by assumption) ?_
      try simp only [Act.put, List.setIfInBounds_toArray, List.set_cons_zero, List.set_cons_succ]
      refine uPass (i := 19) (some 26) rfl rfl (by kernel_rfl) (by kernel_rfl) (by kernel_rfl) (by kernel_rfl) (fun _ _ _ h => h) (by rfl) (by assumption) ?_
      try simp only [Act.put, List.setIfInBounds_toArray, List.set_cons_zero, List.set_cons_succ]
      refine uPass (i := 20) (some 27) rfl rfl (by kernel_rfl) (by kernel_rfl) (by kernel_rfl) (by kernel_rfl) (fun _ _ _ h => h) (by rfl) (by assumption) ?_
      try simp only [Act.put, List.setIfInBounds_toArray, List.set_cons_zero, List.set_cons_succ]
      refine uPass (i := 21) (some 28) rfl rfl (by kernel_rfl) (by kernel_rfl) (by kernel_rfl) (by kernel_rfl) (fun _ _ _ h => h) (by rfl) (by assumption) ?_
      try simp only [Act.put, List.setIfInBounds_toArray, List.set_cons_zero, List.set_cons_succ]
      refine uPass (i := 22) (some 29) rfl rfl (by kernel_rfl) (by kernel_rfl) (by kernel_rfl) (by kernel_rfl) (fun _ _ _ h => h) (by rfl) (by assumption) ?_
      try simp only [Act.put, List.setIfInBounds_toArray, List.set_cons_zero, List.set_cons_succ]
      refine uTake (i := 23) (some 30) (v := ?_) rfl rfl (by kernel_rfl) (by kernel_rfl) (by kernel_rfl) (by kernel_rfl) (fun _ _ _ h => h) (by rfl) (by assumption) ?_ ?_
      rotate_left
      · (intro wS hSw; (try dsimp only at hSw); go_simp; try with_reducible rfl)
      try simp only [Act.put, List.setIfInBounds_toArray, List.set_cons_zero, List.set_cons_succ]
      refine uDone (by kernel_rfl) ?_ _
      have HKB : Hid (0 + k ≤ 1000000) := Lib.hid (by omega)
      have HKC : Hid (k + 1 ≤ 1000000) := Lib.hid (by omega)
      have HKD : Hid (k + 1 + (X.length - k) ≤ 1000000) := Lib.hid (by omega)
      have HKL := Lib.hid a1
      go_upto_region 4 with (fail)
      have E3 : Hid (Env D w [(w1.heap.size, 44, []), (w.heap.size + 1 + 1, 25, [.slice none 0 0]), (w.heap.size + 1, 44, usc u la pa), (w.heap.size, 25, [.slice xa X.length xk])] [.gn (gSp u.sp la pa), .gn (gUl (.slice xa X.length xk) X)] _) := Lib.hid ((E2.out.push 44 [] (w1.heap.size) (by simp)))
      have b1 := E3.out.bx 3 rfl
      have c1_0 := b1.cell 0 rfl
      clear b1
      go_wp2_with (first | (refine wpl_pre (X := X) (k := k) ?_ ?_ (E3.out.fc 1 rfl) HKL.out ?_; (· rfl); (· exact ⟨_, _, rfl, rfl, rfl⟩)))
      intro sa sc sS
      go_wp2_with (first | (at_builtin; refine wpl_appN tiUse rfl _ _ rfl E3.out (A := []) (sg := [(w1.heap.size, 44, [])]) (B' := [(w.heap.size + 1 + 1, 25, [.slice none 0 0]), (w.heap.size + 1, 44, usc u la pa), (w.heap.size, 25, [.slice xa X.length xk])]) (n := 0) (by first | rfl | simp) (.inr ⟨w1.heap.size, 0, rfl, rfl, Nat.le_refl _, by omega, rfl⟩) rfl rfl sS.out HKB.out ?_))
      intro ns nv nc w2 nO nT nE
      (try simp only [Nat.zero_add] at nO nT)
      obtain ⟨na, nk, rfl⟩ := nO.out.len
      have NU := Lib.hid (ou_pre HKL.out nO.out (by simpa using nT.out))
      have E4 : Hid (Env D w ((w.heap.size + 1 + 1, 25, [.slice none 0 0]) :: (w.heap.size + 1, 44, usc u la pa) :: (w.heap.size, 25, [.slice xa X.length xk]) :: ns) [.gn (gUd (X.take k)), .gn (gSp u.sp la pa), .gn (gUl (.slice xa X.length xk) X)] w2) := Lib.hid ((Env.note (((nE.out.perm (List.Perm.append_left [] (List.perm_append_comm (l₁ := ns) (l₂ := [(w.heap.size + 1 + 1, 25, [.slice none 0 0]), (w.heap.size + 1, 44, usc u la pa), (w.heap.size, 25, [.slice xa X.length xk])])))))) (.gn (gUd (X.take k))) (gUd.take ((nE.out.perm (List.Perm.append_left [] (List.perm_append_comm (l₁ := ns) (l₂ := [(w.heap.size + 1 + 1, 25, [.slice none 0 0]), (w.heap.size + 1, 44, usc u la pa), (w.heap.size, 25, [.slice xa X.length xk])])))).fc 1 rfl).2 k)).cast (by first | rfl | simp))
      clear c1_0 E2 E3 nE sS
      have b2 := E4.out.bx 1 rfl
      have r2 := Lib.hid (b2.range (o := 0) (fun j hj => by rw [Nat.zero_add]))
      clear b2
      have E5 : Hid (Env D w ((w2.heap.size, 44, usc u la pa) :: (w.heap.size + 1 + 1, 25, [.slice none 0 0]) :: (w.heap.size + 1, 44, usc u la pa) :: (w.heap.size, 25, [.slice xa X.length xk]) :: ns) [.gn (gUd (X.take k)), .gn (gSp u.sp la pa), .gn (gUl (.slice xa X.length xk) X)] _) := Lib.hid ((E4.out.push 44 (usc u la pa) (w2.heap.size) (by simp)))
      go_wp2_with (first | (with_reducible refine wpl_load_b bUse (w.heap.size + 1) 0 ?_ ?_ (usc u la pa) (usc_len HU.out _ _) r2.out ?_; (· exact ⟨_, rfl, rfl⟩); (· kernel_rfl)) | (with_reducible refine wpl_slice1 ?_ (usc u la pa) (usc_len HU.out _ _) ?_ ?_; (· rfl); (· exact ⟨_, rfl, rfl⟩)) | (at_builtin; refine wpl_app1 (c := 1) tiUse rfl _ _ rfl E5.out (A := [(w2.heap.size, 44, usc u la pa), (w.heap.size + 1 + 1, 25, [.slice none 0 0]), (w.heap.size + 1, 44, usc u la pa), (w.heap.size, 25, [.slice xa X.length xk])]) (sg := ns) (B' := []) (F := ((w2.heap.size, 44, usc u la pa) :: (w.heap.size + 1 + 1, 25, [.slice none 0 0]) :: (w.heap.size + 1, 44, usc u la pa) :: (w.heap.size, 25, [.slice xa X.length xk]) :: ns)) (by simp) (NU.out.os (by rw [List.length_take]; exact Nat.min_eq_left HKL.out)) rfl rfl (SrcN.box (m := 1) (E5.out.bx 0 rfl) (usc_len HU.out _ _) UN.out) HKC.out ?_))
      intro zg zp zc w3 zH zT zE
      have zO := Lib.hid (OU.app (x := Uv.mk u la pa) (g' := zg) (cs' := zc) (cap' := zp) NU.out (by rw [List.length_take]; exact Nat.min_eq_left HKL.out) zH.out zT.out)
      have E6 : Hid (Env D w ((w2.heap.size, 44, usc u la pa) :: (w.heap.size + 1 + 1, 25, [.slice none 0 0]) :: (w.heap.size + 1, 44, usc u la pa) :: (w.heap.size, 25, [.slice xa X.length xk]) :: [(zg, 44, zc)]) [.gn (gUd ((X.take k) ++ [Uv.mk u la pa])), .gn (gUd (X.take k)), .gn (gSp u.sp la pa), .gn (gUl (.slice xa X.length xk) X)] w3) := Lib.hid ((zE.out.note (.gn (gUd ((X.take k) ++ [Uv.mk u la pa]))) (gUd.app (x := Uv.mk u la pa) (zE.out.fc 0 rfl) (zE.out.fc 1 rfl))).cast (by simp))
      clear r2 E4 E5 zE zH zT NU
      have b3 := E6.out.bx 3 rfl
      have c3_0 := b3.cell 0 rfl
      clear b3
      go_wp2_with (first | (with_reducible refine wpl_slice1 ?_ (usc u la pa) (usc_len HU.out _ _) ?_ ?_; (· rfl); (· exact ⟨_, rfl, rfl⟩)) | (refine wpl_suf (X := X) (k := k) ?_ ?_ (E6.out.fc 3 rfl) HKL.out ?_; (· rfl); (· exact ⟨_, _, rfl, rfl, rfl⟩)))
      intro ra rc rS
      go_wp2_with (first | (with_reducible refine wpl_slice1 ?_ (usc u la pa) (usc_len HU.out _ _) ?_ ?_; (· rfl); (· exact ⟨_, rfl, rfl⟩)) | (at_builtin; refine wpl_appN tiUse rfl _ _ rfl E6.out (A := [(w2.heap.size, 44, usc u la pa), (w.heap.size + 1 + 1, 25, [.slice none 0 0]), (w.heap.size + 1, 44, usc u la pa), (w.heap.size, 25, [.slice xa X.length xk])]) (sg := [(zg, 44, zc)]) (B' := []) (F := ((w2.heap.size, 44, usc u la pa) :: (w.heap.size + 1 + 1, 25, [.slice none 0 0]) :: (w.heap.size + 1, 44, usc u la pa) :: (w.heap.size, 25, [.slice xa X.length xk]) :: [(zg, 44, zc)])) (by simp) (zO.out.os (by rw [List.length_append, List.length_take, Nat.min_eq_left HKL.out]; rfl)) rfl rfl rS.out HKD.out ?_))
      intro ys yv yc w4 yO yT yE
      obtain ⟨ya, yk, rfl⟩ := yO.out.len
      have YU := Lib.hid (ou_join (Z := X.drop k) zO.out (by rw [List.length_append, List.length_take, Nat.min_eq_left HKL.out]; rfl) (List.length_drop ..) yO.out yT.out)
      have E7 : Hid (Env D w ((w2.heap.size, 44, usc u la pa) :: (w.heap.size + 1 + 1, 25, [.slice none 0 0]) :: (w.heap.size + 1, 44, usc u la pa) :: (w.heap.size, 25, [.slice xa X.length xk]) :: ys) [.gn (gUd (X.take k ++ [Uv.mk u la pa] ++ X.drop k)), .gn (gUd ((X.take k) ++ [Uv.mk u la pa])), .gn (gUd (X.take k)), .gn (gSp u.sp la pa), .gn (gUl (.slice xa X.length xk) X)] w4) := Lib.hid ((yE.out.note (.gn (gUd (X.take k ++ [Uv.mk u la pa] ++ X.drop k))) (gUd.join (yE.out.fc 0 rfl) (gUd.drop (yE.out.fc 3 rfl).2 k))).cast (by simp))
      clear c3_0 E6 yE rS
      have b4 := E7.out.bx 1 rfl
      have c4_0 := b4.cell 0 rfl
      have f4_0 := b4.frozen 0
      clear b4
      go_wp2_with (first | (with_reducible refine wpl_slice1 ?_ (usc u la pa) (usc_len HU.out _ _) ?_ ?_; (· rfl); (· exact ⟨_, rfl, rfl⟩)))
      have E8 : Hid (Env D w ((w2.heap.size, 44, usc u la pa) :: (w.heap.size + 1 + 1, 25, [.slice ya (k + 1 + (X.length - k)) yk]) :: (w.heap.size + 1, 44, usc u la pa) :: (w.heap.size, 25, [.slice xa X.length xk]) :: ys) [.gn (gUd (X.take k ++ [Uv.mk u la pa] ++ X.drop k)), .gn (gUd ((X.take k) ++ [Uv.mk u la pa])), .gn (gUd (X.take k)), .gn (gSp u.sp la pa), .gn (gUl (.slice xa X.length xk) X)] _) := Lib.hid ((E7.out.set 1 0 (.slice ya (k + 1 + (X.length - k)) yk) rfl))
      have HRL := Lib.hid (OU.ret YU.out E8.out (by intro p hp; simp [hp]) (E8.out.out 0 rfl))
      have HLN : Hid (k + 1 + (X.length - k) = (X.take k ++ [Uv.mk u la pa] ++ X.drop k).length) := Lib.hid (by simp only [List.length_append, List.length_take, List.length_drop, List.length_singleton]; have := HKL.out; omega)
      have HMP : Hid ((X.take k ++ [Uv.mk u la pa] ++ X.drop k).map Uv.u = insU (X.map Uv.u) (lb (X.map Uv.u) u.ua u.ub) u) := Lib.hid (by rw [HLB.out]; unfold insU; simp [List.map_take, List.map_drop])
      have b5 := E8.out.bx 1 rfl
      have c5_0 := b5.cell 0 rfl
      clear b5
      go_wp2_with (first | (with_reducible refine wpl_slice1 ?_ (usc u la pa) (usc_len HU.out _ _) ?_ ?_; (· rfl); (· exact ⟨_, rfl, rfl⟩)))
      have hfin := E8.out
      have q6 := (hfin.bx 1 rfl).cell 0 rfl
      exact bodyPost_ret (v := (.agg #[.slice ya (k + 1 + (X.length - k)) yk])) (by simp [results, Try.results45, go_sem, q6]) rfl ⟨⟨ya, yk, X.take k ++ [Uv.mk u la pa] ++ X.drop k, by rw [HLN.out], HMP.out, by rw [← HLN.out]; exact HRL⟩, hfin.bel⟩
    have hk : k < X.length := lt_of hy a1
    have t6 : decide ((k : Int) < (X.length : Int)) = true := decide_eq_true (by omega)
    have t7 : decide (k < X.length) = true := decide_eq_true (by omega)
    have hkI : (k : Int) < (X.length : Int) := by omega
    clear hy
    go_upto_region 2 with (fail)
    obtain ⟨xab, xao, rfl⟩ := gUl.addr (EL.out.fc 1 rfl) (List.ne_nil_of_length_pos (Nat.lt_of_le_of_lt (Nat.zero_le _) hk))
    obtain ⟨⟨xu, xp, xq⟩, xe⟩ : ∃ x, X[k] = x := ⟨_, rfl⟩
    have xE := Lib.hid xe
    clear xe
    have E2 : Hid (Env D w [(w.heap.size + 1 + 1, 25, [.slice none 0 0]), (w.heap.size + 1, 44, usc u la pa), (w.heap.size, 25, [.slice (some ⟨xab, xao, none⟩) X.length xk])] [.gn (gRg xab (xao + k * 83) (usc xu xp xq)), .gn (gSp xu.sp xp xq), .gn (gSp u.sp la pa), .gn (gUl (.slice (some ⟨xab, xao, none⟩) X.length xk) X)] _) := Lib.hid (EL.out.elU 1 rfl hk xE.out)
    clear EL
    have xS := Lib.hid (E2.out.spOk 1 rfl)
    have xN : Hid (∀ v ∈ usc xu xp xq, v.oneCell' = true) := Lib.hid (usc_one xS.out (Rw.oneV (E2.out.fc 1 rfl).2.1) (Rw.oneV (E2.out.fc 1 rfl).2.2))
    have HV : Hid ((X.map Uv.u)[k]? = some xu) := Lib.hid (map_get hk xE.out)
    obtain ⟨o, oh⟩ : ∃ b : Bool, b = true ↔ ltK xu.ua xu.ub u.ua u.ub := by by_cases h : ltK xu.ua xu.ub u.ua u.ub; (· exact ⟨true, ⟨fun _ => h, fun _ => rfl⟩⟩); exact ⟨false, ⟨fun h2 => Bool.noConfusion h2, fun h2 => absurd h2 h⟩⟩
    have oH := Lib.hid oh
    clear oh
    cases o with
    | true =>
      have HS2 : Hid (∀ (j : Nat) (v : Us), j < k + 1 → (X.map Uv.u)[j]? = some v → ltK v.ua v.ub u.ua u.ub) := Lib.hid (fun j v hj hv => by by_cases e : j = k; (· subst e; rw [HV.out] at hv; cases hv; exact oH.out.1 (by simp)); exact HS.out j v (by omega) hv)
      go_wp2_with fail
      have E3 : Hid (Env D w [(w.heap.size + 1 + 1, 25, [.slice none 0 0]), (w.heap.size + 1, 44, usc u la pa), (w.heap.size, 25, [.slice (some ⟨xab, xao, none⟩) X.length xk])] [.gn (gRg xab (xao + k * 83) (usc xu xp xq)), .gn (gSp xu.sp xp xq), .gn (gSp u.sp la pa), .gn (gUl (.slice (some ⟨xab, xao, none⟩) X.length xk) X)] (wr.drew)) := Lib.hid E2.out.drew
      clear E2
      refine wp_regionU (S := fun w' => w'.cell? ⟨w.heap.size, 0, none⟩ = some (.slice (some ⟨xab, xao, none⟩) X.length xk) ∧ w'.cell? ⟨xab, xao + k * 83, none⟩ = some (.int .i64 xu.ua) ∧ w'.cell? ⟨xab, xao + k * 83 + 1, none⟩ = some (.int .i64 xu.ub) ∧ w'.cell? ⟨w.heap.size + 1, 0, none⟩ = some (.int .i64 u.ua) ∧ w'.cell? ⟨w.heap.size + 1, 1, none⟩ = some (.int .i64 u.ub)) [] (by kernel_rfl) (⟨((E3.out.bx 2 rfl).cell 0 rfl), (gRg.cell (E3.out.fc 0 rfl) (j := 0) rfl), (gRg.cell (E3.out.fc 0 rfl) (j := 1) rfl), ((E3.out.bx 1 rfl).cell 0 rfl), ((E3.out.bx 1 rfl).cell 1 rfl)⟩) (fun hHeld => ?_)
      generalize wr.drew = w1 at *
      refine uTake (i := 0) (some 7) (v := ?_) rfl rfl (by kernel_rfl) (by kernel_rfl) (by kernel_rfl) (by kernel_rfl) (fun _ _ _ h => h) (by rfl) (by assumption) ?_ ?_
      rotate_left
      · (intro wS hSw; (try dsimp only at hSw); go_simp; try with_reducible rfl)
      try simp only [Act.put, List.setIfInBounds_toArray, List.set_cons_zero, List.set_cons_succ]
      refine uTake (i := 1) (some 8) (v := ?_) rfl rfl (by kernel_rfl) (by kernel_rfl) (by kernel_rfl) (by kernel_rfl) (fun _ _ _ h => h) (by rfl) (by assumption) ?_ ?_
      rotate_left
      · (intro wS hSw; (try dsimp only at hSw); go_simp; try with_reducible rfl)
      try simp only [Act.put, List.setIfInBounds_toArray, List.set_cons_zero, List.set_cons_succ]
      refine uTake (i := 2) (some 9) (v := ?_) rfl rfl (by kernel_rfl) (by kernel_rfl) (by kernel_rfl) (by kernel_rfl) (fun _ _ _ h => h) (by rfl) (by assumption) ?_ ?_
      rotate_left
      · (intro wS hSw; (try dsimp only at hSw); go_simp; try with_reducible rfl)
      try simp only [Act.put, List.setIfInBounds_toArray, List.set_cons_zero, List.set_cons_succ]
      refine uTake (i := 3) (some 10) (v := ?_) rfl rfl (by kernel_rfl) (by kernel_rfl) (by kernel_rfl) (by kernel_rfl) (fun _ _ _ h => h) (by rfl) (by assumption) ?_ ?_
      rotate_left
      · (intro wS hSw; (try dsimp only at hSw); go_simp; try with_reducible rfl)
      try simp only [Act.put, List.setIfInBounds_toArray, List.set_cons_zero, List.set_cons_succ]
      refine uTake (i := 4) (some 11) (v := ?_) rfl rfl (by kernel_rfl) (by kernel_rfl) (by kernel_rfl) (by kernel_rfl) (fun _ _ _ h => h) (by rfl) (by assumption) ?_ ?_
      rotate_left
      · (intro wS hSw; (try dsimp only at hSw); go_simp; try with_reducible rfl)
      try simp only [Act.put, List.setIfInBounds_toArray, List.set_cons_zero, List.set_cons_succ]
      refine uTake (i := 5) (some 12) (v := ?_) rfl rfl (by kernel_rfl) (by kernel_rfl) (by kernel_rfl) (by kernel_rfl) (fun _ _ _ h => h) (by rfl) (by assumption) ?_ ?_
      rotate_left
      · (intro wS hSw; (try dsimp only at hSw); go_simp; try with_reducible rfl)
      try simp only [Act.put, List.setIfInBounds_toArray, List.set_cons_zero, List.set_cons_succ]
      refine uTake (i := 6) (some 13) (v := ?_) rfl rfl (by kernel_rfl) (by kernel_rfl) (by kernel_rfl) (by kernel_rfl) (fun _ _ _ h => h) (by rfl) (by assumption) ?_ ?_
      rotate_left
      · (intro wS hSw; (try dsimp only at hSw); go_simp; try with_reducible rfl)
      try simp only [Act.put, List.setIfInBounds_toArray, List.set_cons_zero, List.set_cons_succ]
      refine uTake (i := 7) (some 14) (v := ?_) rfl rfl (by kernel_rfl) (by kernel_rfl) (by kernel_rfl) (by kernel_rfl) (fun _ _ _ h => h) (by rfl) (by assumption) ?_ ?_
      rotate_left
      · (intro wS hSw; (try dsimp only at hSw); go_simp; try with_reducible rfl)
      try simp only [Act.put, List.setIfInBounds_toArray, List.set_cons_zero, List.set_cons_succ]
      refine uTake (i := 8) (some 15) (v := ?_) rfl rfl (by kernel_rfl) (by kernel_rfl) (by kernel_rfl) (by kernel_rfl) (fun _ _ _ h => h) (by rfl) (by assumption) ?_ ?_
      rotate_left
      · (intro wS hSw; (try dsimp only at hSw); go_simp; try with_reducible rfl)
      try simp only [Act.put, List.setIfInBounds_toArray, List.set_cons_zero, List.set_cons_succ]
      refine uTake (i := 9) (some 16) (v := ?_) rfl rfl (by kernel_rfl) (by kernel_rfl) (by kernel_rfl) (by kernel_rfl) (fun _ _ _ h => h) (by rfl) (by assumption) ?_ ?_
      rotate_left
      · (intro wS hSw; (try dsimp only at hSw); go_simp; try with_reducible rfl)
      try simp only [Act.put, List.setIfInBounds_toArray, List.set_cons_zero, List.set_cons_succ]
      refine uTake (i := 10) (some 17) (v := ?_) rfl rfl (by kernel_rfl) (by kernel_rfl) (by kernel_rfl) (by kernel_rfl) (fun _ _ _ h => h) (by rfl) (by assumption) ?_ ?_
      rotate_left
      · (intro wS hSw; (try dsimp only at hSw); go_simp; try with_reducible rfl)
      try simp only [Act.put, List.setIfInBounds_toArray, List.set_cons_zero, List.set_cons_succ]
      refine uTake (i := 11) (some 18) (v := ?_) rfl rfl (by kernel_rfl) (by kernel_rfl) (by kernel_rfl) (by kernel_rfl) (fun _ _ _ h => h) (by rfl) (by assumption) ?_ ?_
      rotate_left
      · (intro wS hSw; (try dsimp only at hSw); go_simp; try with_reducible rfl)
      try simp only [Act.put, List.setIfInBounds_toArray, List.set_cons_zero, List.set_cons_succ]
      refine uTake (i := 12) (some 19) (v := ?_) rfl rfl (by kernel_rfl) (by kernel_rfl) (by kernel_rfl) (by kernel_rfl) (fun _ _ _ h => h) (by rfl) (by assumption) ?_ ?_
      rotate_left
      · (intro wS hSw; (try dsimp only at hSw); go_simp; try with_reducible rfl)
      try simp only [Act.put, List.setIfInBounds_toArray, List.set_cons_zero, List.set_cons_succ]
      refine uTake (i := 13) (some 20) (v := ?_) rfl rfl (by kernel_rfl) (by kernel_rfl) (by kernel_rfl) (by kernel_rfl) (fun _ _ _ h => h) (by rfl) (by assumption) ?_ ?_
      rotate_left
      · (intro wS hSw; (try dsimp only at hSw); go_simp; try with_reducible rfl)
      try simp only [Act.put, List.setIfInBounds_toArray, List.set_cons_zero, List.set_cons_succ]
      refine uTake (i := 14) (some 21) (v := ?_) rfl rfl (by kernel_rfl) (by kernel_rfl) (by kernel_rfl) (by kernel_rfl) (fun _ _ _ h => h) (by rfl) (by assumption) ?_ ?_
      rotate_left
      · (intro wS hSw; (try dsimp only at hSw); go_simp; try with_reducible rfl)
      try simp only [Act.put, List.setIfInBounds_toArray, List.set_cons_zero, List.set_cons_succ]
      refine uTake (i := 15) (some 22) (v := ?_) rfl rfl (by kernel_rfl) (by kernel_rfl) (by kernel_rfl) (by kernel_rfl) (fun _ _ _ h => h) (by rfl) (by assumption) ?_ ?_
      rotate_left
      · (intro wS hSw; (try dsimp only at hSw); go_simp; try with_reducible rfl)
      try simp only [Act.put, List.setIfInBounds_toArray, List.set_cons_zero, List.set_cons_succ]
      refine uTake (i := 16) (some 23) (v := ?_) rfl rfl (by kernel_rfl) (by kernel_rfl) (by kernel_rfl) (by kernel_rfl) (fun _ _ _ h => h) (by rfl) (by assumption) ?_ ?_
      rotate_left
      · (intro wS hSw; (try dsimp only at hSw); go_simp; try with_reducible rfl)
      try simp only [Act.put, List.setIfInBounds_toArray, List.set_cons_zero, List.set_cons_succ]
      refine uTake (i := 17) (some 24) (v := ?_) rfl rfl (by kernel_rfl) (by kernel_rfl) (by kernel_rfl) (by kernel_rfl) (fun _ _ _ h => h) (by rfl) (by assumption) ?_ ?_
      rotate_left
      · (intro wS hSw; (try dsimp only at hSw); go_simp; try with_reducible rfl)
      try simp only [Act.put, List.setIfInBounds_toArray, List.set_cons_zero, List.set_cons_succ]
      refine uTake (i := 18) (some 25) (v := ?_) rfl rfl (by kernel_rfl) (by kernel_rfl) (by kernel_rfl) (by kernel_rfl) (fun _ _ _ h => h) (by rfl) (by assumption) ?_ ?_
      rotate_left
      · (intro wS hSw; (try dsimp only at hSw); go_simp; try with_reducible rfl)
      try simp only [Act.put, List.setIfInBounds_toArray, List.set_cons_zero, List.set_cons_succ]
      refine uTake (i := 19) (some 26) (v := ?_) rfl rfl (by kernel_rfl) (by kernel_rfl) (by kernel_rfl) (by kernel_rfl) (fun _ _ _ h => h) (by rfl) (by assumption) ?_ ?_
      rotate_left
      · (intro wS hSw; (try dsimp only at hSw); go_simp; try with_reducible rfl)
      try simp only [Act.put, List.setIfInBounds_toArray, List.set_cons_zero, List.set_cons_succ]
      refine uTake (i := 20) (some 27) (v := ?_) rfl rfl (by kernel_rfl) (by kernel_rfl) (by kernel_rfl) (by kernel_rfl) (fun _ _ _ h => h) (by rfl) (by assumption) ?_ ?_
      rotate_left
      · (intro wS hSw; (try dsimp only at hSw); go_simp; try with_reducible rfl)
      try simp only [Act.put, List.setIfInBounds_toArray, List.set_cons_zero, List.set_cons_succ]
      refine uTake (i := 21) (some 28) (v := ?_) rfl rfl (by kernel_rfl) (by kernel_rfl) (by kernel_rfl) (by kernel_rfl) (fun _ _ _ h => h) (by rfl) (by assumption) ?_ ?_
      rotate_left
      · (intro wS hSw; (try dsimp only at hSw); go_simp; try with_reducible rfl)
      try simp only [Act.put, List.setIfInBounds_toArray, List.set_cons_zero, List.set_cons_succ]
      refine uReady (rs := [22]) (by kernel_rfl) (by simp) ?_
      refine ReadyU.cons rfl (fun KK hKK => ?_) ReadyU.nil
      go_simp
      refine (less_c xu.ua xu.ub u.ua u.ub (D := fun _ => True) (t := true) (by first | exact oH.out | simpa using oH.out)).mono ?_
      rintro e w2 ⟨rfl, hb⟩
      have E4 : Hid (Env D w [(w.heap.size + 1 + 1, 25, [.slice none 0 0]), (w.heap.size + 1, 44, usc u la pa), (w.heap.size, 25, [.slice (some ⟨xab, xao, none⟩) X.length xk])] [.gn (gRg xab (xao + k * 83) (usc xu xp xq)), .gn (gSp xu.sp xp xq), .gn (gSp u.sp la pa), .gn (gUl (.slice (some ⟨xab, xao, none⟩) X.length xk) X)] w2) := Lib.hid (E3.out.below hb)
      clear E3 hb
      (try dsimp only)
      clear hHeld
      refine hKK.out _ _ (⟨((E4.out.bx 2 rfl).cell 0 rfl), (gRg.cell (E4.out.fc 0 rfl) (j := 0) rfl), (gRg.cell (E4.out.fc 0 rfl) (j := 1) rfl), ((E4.out.bx 1 rfl).cell 0 rfl), ((E4.out.bx 1 rfl).cell 1 rfl)⟩) (fun hHeld => ?_)
      clear hKK KK
      try simp only [Act.put, List.setIfInBounds_toArray, List.set_cons_zero, List.set_cons_succ]
      refine uTake (i := 23) (some 30) (v := ?_) rfl rfl (by kernel_rfl) (by kernel_rfl) (by kernel_rfl) (by kernel_rfl) (fun _ _ _ h => h) (by rfl) (by assumption) ?_ ?_
      rotate_left
      · (intro wS hSw; (try dsimp only at hSw); go_simp; try with_reducible rfl)
      try simp only [Act.put, List.setIfInBounds_toArray, List.set_cons_zero, List.set_cons_succ]
      refine uDone (by kernel_rfl) ?_ _
      have EZ := Lib.hid ((E4.out.forget).forget)
      go_wp2
      go_roundg (X.length - (k + 1))
      case rel => exact ⟨k + 1, rfl, EZ, Lib.hid ⟨⟨by omega, rfl⟩, HS2.out⟩⟩
      case measure => exact by omega
    | false =>
      have HLB : Hid (lb (X.map Uv.u) u.ua u.ub = k) := Lib.hid (lb_of HS.out (by rw [List.length_map]; exact a1) (fun v hv h => by rw [HV.out] at hv; cases hv; exact Bool.noConfusion (oH.out.2 h)))
      go_wp2_with fail
      have E3 : Hid (Env D w [(w.heap.size + 1 + 1, 25, [.slice none 0 0]), (w.heap.size + 1, 44, usc u la pa), (w.heap.size, 25, [.slice (some ⟨xab, xao, none⟩) X.length xk])] [.gn (gRg xab (xao + k * 83) (usc xu xp xq)), .gn (gSp xu.sp xp xq), .gn (gSp u.sp la pa), .gn (gUl (.slice (some ⟨xab, xao, none⟩) X.length xk) X)] (wr.drew)) := Lib.hid E2.out.drew
      clear E2
      refine wp_regionU (S := fun w' => w'.cell? ⟨w.heap.size, 0, none⟩ = some (.slice (some ⟨xab, xao, none⟩) X.length xk) ∧ w'.cell? ⟨xab, xao + k * 83, none⟩ = some (.int .i64 xu.ua) ∧ w'.cell? ⟨xab, xao + k * 83 + 1, none⟩ = some (.int .i64 xu.ub) ∧ w'.cell? ⟨w.heap.size + 1, 0, none⟩ = some (.int .i64 u.ua) ∧ w'.cell? ⟨w.heap.size + 1, 1, none⟩ = some (.int .i64 u.ub)) [] (by kernel_rfl) (⟨((E3.out.bx 2 rfl).cell 0 rfl), (gRg.cell (E3.out.fc 0 rfl) (j := 0) rfl), (gRg.cell (E3.out.fc 0 rfl) (j := 1) rfl), ((E3.out.bx 1 rfl).cell 0 rfl), ((E3.out.bx 1 rfl).cell 1 rfl)⟩) (fun hHeld => ?_)
      generalize wr.drew = w1 at *
      refine uTake (i := 0) (some 7) (v := ?_) rfl rfl (by kernel_rfl) (by kernel_rfl) (by kernel_rfl) (by kernel_rfl) (fun _ _ _ h => h) (by rfl) (by assumption) ?_ ?_
      rotate_left
      · (intro wS hSw; (try dsimp only at hSw); go_simp; try with_reducible rfl)
      try simp only [Act.put, List.setIfInBounds_toArray, List.set_cons_zero, List.set_cons_succ]
      refine uTake (i := 1) (some 8) (v := ?_) rfl rfl (by kernel_rfl) (by kernel_rfl) (by kernel_rfl) (by kernel_rfl) (fun _ _ _ h => h) (by rfl) (by assumption) ?_ ?_
      rotate_left
      · (intro wS hSw; (try dsimp only at hSw); go_simp; try with_reducible rfl)
      try simp only [Act.put, List.setIfInBounds_toArray, List.set_cons_zero, List.set_cons_succ]
      refine uTake (i := 2) (some 9) (v := ?_) rfl rfl (by kernel_rfl) (by kernel_rfl) (by kernel_rfl) (by kernel_rfl) (fun _ _ _ h => h) (by rfl) (by assumption) ?_ ?_
      rotate_left
      · (intro wS hSw; (try dsimp only at hSw); go_simp; try with_reducible rfl)
      try simp only [Act.put, List.setIfInBounds_toArray, List.set_cons_zero, List.set_cons_succ]
      refine uTake (i := 3) (some 10) (v := ?_) rfl rfl (by kernel_rfl) (by kernel_rfl) (by kernel_rfl) (by kernel_rfl) (fun _ _ _ h => h) (by rfl) (by assumption) ?_ ?_
      rotate_left
      · (intro wS hSw; (try dsimp only at hSw); go_simp; try with_reducible rfl)
      try simp only [Act.put, List.setIfInBounds_toArray, List.set_cons_zero, List.set_cons_succ]
      refine uTake (i := 4) (some 11) (v := ?_) rfl rfl (by kernel_rfl) (by kernel_rfl) (by kernel_rfl) (by kernel_rfl) (fun _ _ _ h => h) (by rfl) (by assumption) ?_ ?_
      rotate_left
      · (intro wS hSw; (try dsimp only at hSw); go_simp; try with_reducible rfl)
      try simp only [Act.put, List.setIfInBounds_toArray, List.set_cons_zero, List.set_cons_succ]
      refine uTake (i := 5) (some 12) (v := ?_) rfl rfl (by kernel_rfl) (by kernel_rfl) (by kernel_rfl) (by kernel_rfl) (fun _ _ _ h => h) (by rfl) (by assumption) ?_ ?_
      rotate_left
      · (intro wS hSw; (try dsimp only at hSw); go_simp; try with_reducible rfl)
      try simp only [Act.put, List.setIfInBounds_toArray, List.set_cons_zero, List.set_cons_succ]
      refine uTake (i := 6) (some 13) (v := ?_) rfl rfl (by kernel_rfl) (by kernel_rfl) (by kernel_rfl) (by kernel_rfl) (fun _ _ _ h => h) (by rfl) (by assumption) ?_ ?_
      rotate_left
      · (intro wS hSw; (try dsimp only at hSw); go_simp; try with_reducible rfl)
      try simp only [Act.put, List.setIfInBounds_toArray, List.set_cons_zero, List.set_cons_succ]
      refine uTake (i := 7) (some 14) (v := ?_) rfl rfl (by kernel_rfl) (by kernel_rfl) (by kernel_rfl) (by kernel_rfl) (fun _ _ _ h => h) (by rfl) (by assumption) ?_ ?_
      rotate_left
      · (intro wS hSw; (try dsimp only at hSw); go_simp; try with_reducible rfl)
      try simp only [Act.put, List.setIfInBounds_toArray, List.set_cons_zero, List.set_cons_succ]
      refine uTake (i := 8) (some 15) (v := ?_) rfl rfl (by kernel_rfl) (by kernel_rfl) (by kernel_rfl) (by kernel_rfl) (fun _ _ _ h => h) (by rfl) (by assumption) ?_ ?_
      rotate_left
      · (intro wS hSw; (try dsimp only at hSw); go_simp; try with_reducible rfl)
      try simp only [Act.put, List.setIfInBounds_toArray, List.set_cons_zero, List.set_cons_succ]
      refine uTake (i := 9) (some 16) (v := ?_) rfl rfl (by kernel_rfl) (by kernel_rfl) (by kernel_rfl) (by kernel_rfl) (fun _ _ _ h => h) (by rfl) (by assumption) ?_ ?_
      rotate_left
      · (intro wS hSw; (try dsimp only at hSw); go_simp; try with_reducible rfl)
      try simp only [Act.put, List.setIfInBounds_toArray, List.set_cons_zero, List.set_cons_succ]
      refine uTake (i := 10) (some 17) (v := ?_) rfl rfl (by kernel_rfl) (by kernel_rfl) (by kernel_rfl) (by kernel_rfl) (fun _ _ _ h => h) (by rfl) (by assumption) ?_ ?_
      rotate_left
      · (intro wS hSw; (try dsimp only at hSw); go_simp; try with_reducible rfl)
      try simp only [Act.put, List.setIfInBounds_toArray, List.set_cons_zero, List.set_cons_succ]
      refine uTake (i := 11) (some 18) (v := ?_) rfl rfl (by kernel_rfl) (by kernel_rfl) (by kernel_rfl) (by kernel_rfl) (fun _ _ _ h => h) (by rfl) (by assumption) ?_ ?_
      rotate_left
      · (intro wS hSw; (try dsimp only at hSw); go_simp; try with_reducible rfl)
      try simp only [Act.put, List.setIfInBounds_toArray, List.set_cons_zero, List.set_cons_succ]
      refine uTake (i := 12) (some 19) (v := ?_) rfl rfl (by kernel_rfl) (by kernel_rfl) (by kernel_rfl) (by kernel_rfl) (fun _ _ _ h => h) (by rfl) (by assumption) ?_ ?_
      rotate_left
      · (intro wS hSw; (try dsimp only at hSw); go_simp; try with_reducible rfl)
      try simp only [Act.put, List.setIfInBounds_toArray, List.set_cons_zero, List.set_cons_succ]
      refine uTake (i := 13) (some 20) (v := ?_) rfl rfl (by kernel_rfl) (by kernel_rfl) (by kernel_rfl) (by kernel_rfl) (fun _ _ _ h => h) (by rfl) (by assumption) ?_ ?_
      rotate_left
      · (intro wS hSw; (try dsimp only at hSw); go_simp; try with_reducible rfl)
      try simp only [Act.put, List.setIfInBounds_toArray, List.set_cons_zero, List.set_cons_succ]
      refine uTake (i := 14) (some 21) (v := ?_) rfl rfl (by kernel_rfl) (by kernel_rfl) (by kernel_rfl) (by kernel_rfl) (fun _ _ _ h => h) (by rfl) (by assumption) ?_ ?_
      rotate_left
      · (intro wS hSw; (try dsimp only at hSw); go_simp; try with_reducible rfl)
      try simp only [Act.put, List.setIfInBounds_toArray, List.set_cons_zero, List.set_cons_succ]
      refine uTake (i := 15) (some 22) (v := ?_) rfl rfl (by kernel_rfl) (by kernel_rfl) (by kernel_rfl) (by kernel_rfl) (fun _ _ _ h => h) (by rfl) (by assumption) ?_ ?_
      rotate_left
      · (intro wS hSw; (try dsimp only at hSw); go_simp; try with_reducible rfl)
      try simp only [Act.put, List.setIfInBounds_toArray, List.set_cons_zero, List.set_cons_succ]
      refine uTake (i := 16) (some 23) (v := ?_) rfl rfl (by kernel_rfl) (by kernel_rfl) (by kernel_rfl) (by kernel_rfl) (fun _ _ _ h => h) (by rfl) (by assumption) ?_ ?_
      rotate_left
      · (intro wS hSw; (try dsimp only at hSw); go_simp; try with_reducible rfl)
      try simp only [Act.put, List.setIfInBounds_toArray, List.set_cons_zero, List.set_cons_succ]
      refine uTake (i := 17) (some 24) (v := ?_) rfl rfl (by kernel_rfl) (by kernel_rfl) (by kernel_rfl) (by kernel_rfl) (fun _ _ _ h => h) (by rfl) (by assumption) ?_ ?_
      rotate_left
      · (intro wS hSw; (try dsimp only at hSw); go_simp; try with_reducible rfl)
      try simp only [Act.put, List.setIfInBounds_toArray, List.set_cons_zero, List.set_cons_succ]
      refine uTake (i := 18) (some 25) (v := ?_) rfl rfl (by kernel_rfl) (by kernel_rfl) (by kernel_rfl) (by kernel_rfl) (fun _ _ _ h => h) (by rfl) (by assumption) ?_ ?_
      rotate_left
      · (intro wS hSw; (try dsimp only at hSw); go_simp; try with_reducible rfl)
      try simp only [Act.put, List.setIfInBounds_toArray, List.set_cons_zero, List.set_cons_succ]
      refine uTake (i := 19) (some 26) (v := ?_) rfl rfl (by kernel_rfl) (by kernel_rfl) (by kernel_rfl) (by kernel_rfl) (fun _ _ _ h => h) (by rfl) (by assumption) ?_ ?_
      rotate_left
      · (intro wS hSw; (try dsimp only at hSw); go_simp; try with_reducible rfl)
      try simp only [Act.put, List.setIfInBounds_toArray, List.set_cons_zero, List.set_cons_succ]
      refine uTake (i := 20) (some 27) (v := ?_) rfl rfl (by kernel_rfl) (by kernel_rfl) (by kernel_rfl) (by kernel_rfl) (fun _ _ _ h => h) (by rfl) (by assumption) ?_ ?_
      rotate_left
      · (intro wS hSw; (try dsimp only at hSw); go_simp; try with_reducible rfl)
      try simp only [Act.put, List.setIfInBounds_toArray, List.set_cons_zero, List.set_cons_succ]
      refine uTake (i := 21) (some 28) (v := ?_) rfl rfl (by kernel_rfl) (by kernel_rfl) (by kernel_rfl) (by kernel_rfl) (fun _ _ _ h => h) (by rfl) (by assumption) ?_ ?_
      rotate_left
      · (intro wS hSw; (try dsimp only at hSw); go_simp; try with_reducible rfl)
      try simp only [Act.put, List.setIfInBounds_toArray, List.set_cons_zero, List.set_cons_succ]
      refine uReady (rs := [22]) (by kernel_rfl) (by simp) ?_
      refine ReadyU.cons rfl (fun KK hKK => ?_) ReadyU.nil
      go_simp
      refine (less_c xu.ua xu.ub u.ua u.ub (D := fun _ => True) (t := false) (by first | exact oH.out | simpa using oH.out)).mono ?_
      rintro e w2 ⟨rfl, hb⟩
      have E4 : Hid (Env D w [(w.heap.size + 1 + 1, 25, [.slice none 0 0]), (w.heap.size + 1, 44, usc u la pa), (w.heap.size, 25, [.slice (some ⟨xab, xao, none⟩) X.length xk])] [.gn (gRg xab (xao + k * 83) (usc xu xp xq)), .gn (gSp xu.sp xp xq), .gn (gSp u.sp la pa), .gn (gUl (.slice (some ⟨xab, xao, none⟩) X.length xk) X)] w2) := Lib.hid (E3.out.below hb)
      clear E3 hb
      (try dsimp only)
      clear hHeld
      refine hKK.out _ _ (⟨((E4.out.bx 2 rfl).cell 0 rfl), (gRg.cell (E4.out.fc 0 rfl) (j := 0) rfl), (gRg.cell (E4.out.fc 0 rfl) (j := 1) rfl), ((E4.out.bx 1 rfl).cell 0 rfl), ((E4.out.bx 1 rfl).cell 1 rfl)⟩) (fun hHeld => ?_)
      clear hKK KK
      try simp only [Act.put, List.setIfInBounds_toArray, List.set_cons_zero, List.set_cons_succ]
      refine uTake (i := 23) (some 30) (v := ?_) rfl rfl (by kernel_rfl) (by kernel_rfl) (by kernel_rfl) (by kernel_rfl) (fun _ _ _ h => h) (by rfl) (by assumption) ?_ ?_
      rotate_left
      · (intro wS hSw; (try dsimp only at hSw); go_simp; try with_reducible rfl)
      try simp only [Act.put, List.setIfInBounds_toArray, List.set_cons_zero, List.set_cons_succ]
      refine uDone (by kernel_rfl) ?_ _
      have HKB : Hid (0 + k ≤ 1000000) := Lib.hid (by omega)
      have HKC : Hid (k + 1 ≤ 1000000) := Lib.hid (by omega)
      have HKD : Hid (k + 1 + (X.length - k) ≤ 1000000) := Lib.hid (by omega)
      have HKL := Lib.hid a1
      go_upto_region 4 with (fail)
      have E5 : Hid (Env D w [(w2.heap.size, 44, []), (w.heap.size + 1 + 1, 25, [.slice none 0 0]), (w.heap.size + 1, 44, usc u la pa), (w.heap.size, 25, [.slice (some ⟨xab, xao, none⟩) X.length xk])] [.gn (gRg xab (xao + k * 83) (usc xu xp xq)), .gn (gSp xu.sp xp xq), .gn (gSp u.sp la pa), .gn (gUl (.slice (some ⟨xab, xao, none⟩) X.length xk) X)] _) := Lib.hid ((E4.out.push 44 [] (w2.heap.size) (by simp)))
      have b1 := E5.out.bx 3 rfl
      have c1_0 := b1.cell 0 rfl
      clear b1
      go_wp2_with (first | (refine wpl_pre (X := X) (k := k) ?_ ?_ (E5.out.fc 3 rfl) HKL.out ?_; (· rfl); (· exact ⟨_, _, rfl, rfl, rfl⟩)))
      intro sa sc sS
      go_wp2_with (first | (at_builtin; refine wpl_appN tiUse rfl _ _ rfl E5.out (A := []) (sg := [(w2.heap.size, 44, [])]) (B' := [(w.heap.size + 1 + 1, 25, [.slice none 0 0]), (w.heap.size + 1, 44, usc u la pa), (w.heap.size, 25, [.slice (some ⟨xab, xao, none⟩) X.length xk])]) (n := 0) (by first | rfl | simp) (.inr ⟨w2.heap.size, 0, rfl, rfl, Nat.le_refl _, by omega, rfl⟩) rfl rfl sS.out HKB.out ?_))
      intro ns nv nc w3 nO nT nE
      (try simp only [Nat.zero_add] at nO nT)
      obtain ⟨na, nk, rfl⟩ := nO.out.len
      have NU := Lib.hid (ou_pre HKL.out nO.out (by simpa using nT.out))
      have E6 : Hid (Env D w ((w.heap.size + 1 + 1, 25, [.slice none 0 0]) :: (w.heap.size + 1, 44, usc u la pa) :: (w.heap.size, 25, [.slice (some ⟨xab, xao, none⟩) X.length xk]) :: ns) [.gn (gUd (X.take k)), .gn (gRg xab (xao + k * 83) (usc xu xp xq)), .gn (gSp xu.sp xp xq), .gn (gSp u.sp la pa), .gn (gUl (.slice (some ⟨xab, xao, none⟩) X.length xk) X)] w3) := Lib.hid ((Env.note (((nE.out.perm (List.Perm.append_left [] (List.perm_append_comm (l₁ := ns) (l₂ := [(w.heap.size + 1 + 1, 25, [.slice none 0 0]), (w.heap.size + 1, 44, usc u la pa), (w.heap.size, 25, [.slice (some ⟨xab, xao, none⟩) X.length xk])])))))) (.gn (gUd (X.take k))) (gUd.take ((nE.out.perm (List.Perm.append_left [] (List.perm_append_comm (l₁ := ns) (l₂ := [(w.heap.size + 1 + 1, 25, [.slice none 0 0]), (w.heap.size + 1, 44, usc u la pa), (w.heap.size, 25, [.slice (some ⟨xab, xao, none⟩) X.length xk])])))).fc 3 rfl).2 k)).cast (by first | rfl | simp))
      clear c1_0 E4 E5 nE sS
      have b2 := E6.out.bx 1 rfl
      have r2 := Lib.hid (b2.range (o := 0) (fun j hj => by rw [Nat.zero_add]))
      clear b2
      have E7 : Hid (Env D w ((w3.heap.size, 44, usc u la pa) :: (w.heap.size + 1 + 1, 25, [.slice none 0 0]) :: (w.heap.size + 1, 44, usc u la pa) :: (w.heap.size, 25, [.slice (some ⟨xab, xao, none⟩) X.length xk]) :: ns) [.gn (gUd (X.take k)), .gn (gRg xab (xao + k * 83) (usc xu xp xq)), .gn (gSp xu.sp xp xq), .gn (gSp u.sp la pa), .gn (gUl (.slice (some ⟨xab, xao, none⟩) X.length xk) X)] _) := Lib.hid ((E6.out.push 44 (usc u la pa) (w3.heap.size) (by simp)))
      go_wp2_with (first | (with_reducible refine wpl_load_b bUse (w.heap.size + 1) 0 ?_ ?_ (usc u la pa) (usc_len HU.out _ _) r2.out ?_; (· exact ⟨_, rfl, rfl⟩); (· kernel_rfl)) | (with_reducible refine wpl_slice1 ?_ (usc u la pa) (usc_len HU.out _ _) ?_ ?_; (· rfl); (· exact ⟨_, rfl, rfl⟩)) | (at_builtin; refine wpl_app1 (c := 1) tiUse rfl _ _ rfl E7.out (A := [(w3.heap.size, 44, usc u la pa), (w.heap.size + 1 + 1, 25, [.slice none 0 0]), (w.heap.size + 1, 44, usc u la pa), (w.heap.size, 25, [.slice (some ⟨xab, xao, none⟩) X.length xk])]) (sg := ns) (B' := []) (F := ((w3.heap.size, 44, usc u la pa) :: (w.heap.size + 1 + 1, 25, [.slice none 0 0]) :: (w.heap.size + 1, 44, usc u la pa) :: (w.heap.size, 25, [.slice (some ⟨xab, xao, none⟩) X.length xk]) :: ns)) (by simp) (NU.out.os (by rw [List.length_take]; exact Nat.min_eq_left HKL.out)) rfl rfl (SrcN.box (m := 1) (E7.out.bx 0 rfl) (usc_len HU.out _ _) UN.out) HKC.out ?_))
      intro zg zp zc w4 zH zT zE
      have zO := Lib.hid (OU.app (x := Uv.mk u la pa) (g' := zg) (cs' := zc) (cap' := zp) NU.out (by rw [List.length_take]; exact Nat.min_eq_left HKL.out) zH.out zT.out)
      have E8 : Hid (Env D w ((w3.heap.size, 44, usc u la pa) :: (w.heap.size + 1 + 1, 25, [.slice none 0 0]) :: (w.heap.size + 1, 44, usc u la pa) :: (w.heap.size, 25, [.slice (some ⟨xab, xao, none⟩) X.length xk]) :: [(zg, 44, zc)]) [.gn (gUd ((X.take k) ++ [Uv.mk u la pa])), .gn (gUd (X.take k)), .gn (gRg xab (xao + k * 83) (usc xu xp xq)), .gn (gSp xu.sp xp xq), .gn (gSp u.sp la pa), .gn (gUl (.slice (some ⟨xab, xao, none⟩) X.length xk) X)] w4) := Lib.hid ((zE.out.note (.gn (gUd ((X.take k) ++ [Uv.mk u la pa]))) (gUd.app (x := Uv.mk u la pa) (zE.out.fc 0 rfl) (zE.out.fc 3 rfl))).cast (by simp))
      clear r2 E6 E7 zE zH zT NU
      have b3 := E8.out.bx 3 rfl
      have c3_0 := b3.cell 0 rfl
      clear b3
      go_wp2_with (first | (with_reducible refine wpl_slice1 ?_ (usc u la pa) (usc_len HU.out _ _) ?_ ?_; (· rfl); (· exact ⟨_, rfl, rfl⟩)) | (refine wpl_suf (X := X) (k := k) ?_ ?_ (E8.out.fc 5 rfl) HKL.out ?_; (· rfl); (· exact ⟨_, _, rfl, rfl, rfl⟩)))
      intro ra rc rS
      go_wp2_with (first | (with_reducible refine wpl_slice1 ?_ (usc u la pa) (usc_len HU.out _ _) ?_ ?_; (· rfl); (· exact ⟨_, rfl, rfl⟩)) | (at_builtin; refine wpl_appN tiUse rfl _ _ rfl E8.out (A := [(w3.heap.size, 44, usc u la pa), (w.heap.size + 1 + 1, 25, [.slice none 0 0]), (w.heap.size + 1, 44, usc u la pa), (w.heap.size, 25, [.slice (some ⟨xab, xao, none⟩) X.length xk])]) (sg := [(zg, 44, zc)]) (B' := []) (F := ((w3.heap.size, 44, usc u la pa) :: (w.heap.size + 1 + 1, 25, [.slice none 0 0]) :: (w.heap.size + 1, 44, usc u la pa) :: (w.heap.size, 25, [.slice (some ⟨xab, xao, none⟩) X.length xk]) :: [(zg, 44, zc)])) (by simp) (zO.out.os (by rw [List.length_append, List.length_take, Nat.min_eq_left HKL.out]; rfl)) rfl rfl rS.out HKD.out ?_))
      intro ys yv yc w5 yO yT yE
      obtain ⟨ya, yk, rfl⟩ := yO.out.len
      have YU := Lib.hid (ou_join (Z := X.drop k) zO.out (by rw [List.length_append, List.length_take, Nat.min_eq_left HKL.out]; rfl) (List.length_drop ..) yO.out yT.out)
      have E9 : Hid (Env D w ((w3.heap.size, 44, usc u la pa) :: (w.heap.size + 1 + 1, 25, [.slice none 0 0]) :: (w.heap.size + 1, 44, usc u la pa) :: (w.heap.size, 25, [.slice (some ⟨xab, xao, none⟩) X.length xk]) :: ys) [.gn (gUd (X.take k ++ [Uv.mk u la pa] ++ X.drop k)), .gn (gUd ((X.take k) ++ [Uv.mk u la pa])), .gn (gUd (X.take k)), .gn (gRg xab (xao + k * 83) (usc xu xp xq)), .gn (gSp xu.sp xp xq), .gn (gSp u.sp la pa), .gn (gUl (.slice (some ⟨xab, xao, none⟩) X.length xk) X)] w5) := Lib.hid ((yE.out.note (.gn (gUd (X.take k ++ [Uv.mk u la pa] ++ X.drop k))) (gUd.join (yE.out.fc 0 rfl) (gUd.drop (yE.out.fc 5 rfl).2 k))).cast (by simp))
      clear c3_0 E8 yE rS
      have b4 := E9.out.bx 1 rfl
      have c4_0 := b4.cell 0 rfl
      have f4_0 := b4.frozen 0
      clear b4
      go_wp2_with (first | (with_reducible refine wpl_slice1 ?_ (usc u la pa) (usc_len HU.out _ _) ?_ ?_; (· rfl); (· exact ⟨_, rfl, rfl⟩)))
      have E10 : Hid (Env D w ((w3.heap.size, 44, usc u la pa) :: (w.heap.size + 1 + 1, 25, [.slice ya (k + 1 + (X.length - k)) yk]) :: (w.heap.size + 1, 44, usc u la pa) :: (w.heap.size, 25, [.slice (some ⟨xab, xao, none⟩) X.length xk]) :: ys) [.gn (gUd (X.take k ++ [Uv.mk u la pa] ++ X.drop k)), .gn (gUd ((X.take k) ++ [Uv.mk u la pa])), .gn (gUd (X.take k)), .gn (gRg xab (xao + k * 83) (usc xu xp xq)), .gn (gSp xu.sp xp xq), .gn (gSp u.sp la pa), .gn (gUl (.slice (some ⟨xab, xao, none⟩) X.length xk) X)] _) := Lib.hid ((E9.out.set 1 0 (.slice ya (k + 1 + (X.length - k)) yk) rfl))
      have HRL := Lib.hid (OU.ret YU.out E10.out (by intro p hp; simp [hp]) (E10.out.out 0 rfl))
      have HLN : Hid (k + 1 + (X.length - k) = (X.take k ++ [Uv.mk u la pa] ++ X.drop k).length) := Lib.hid (by simp only [List.length_append, List.length_take, List.length_drop, List.length_singleton]; have := HKL.out; omega)
      have HMP : Hid ((X.take k ++ [Uv.mk u la pa] ++ X.drop k).map Uv.u = insU (X.map Uv.u) (lb (X.map Uv.u) u.ua u.ub) u) := Lib.hid (by rw [HLB.out]; unfold insU; simp [List.map_take, List.map_drop])
      have b5 := E10.out.bx 1 rfl
      have c5_0 := b5.cell 0 rfl
      clear b5
      go_wp2_with (first | (with_reducible refine wpl_slice1 ?_ (usc u la pa) (usc_len HU.out _ _) ?_ ?_; (· rfl); (· exact ⟨_, rfl, rfl⟩)))
      have hfin := E10.out
      have q6 := (hfin.bx 1 rfl).cell 0 rfl
      exact bodyPost_ret (v := (.agg #[.slice ya (k + 1 + (X.length - k)) yk])) (by simp [results, Try.results45, go_sem, q6]) rfl ⟨⟨ya, yk, X.take k ++ [Uv.mk u la pa] ++ X.drop k, by rw [HLN.out], HMP.out, by rw [← HLN.out]; exact HRL⟩, hfin.bel⟩
end Go.Proofs.Ytfnnfmefihiefaa

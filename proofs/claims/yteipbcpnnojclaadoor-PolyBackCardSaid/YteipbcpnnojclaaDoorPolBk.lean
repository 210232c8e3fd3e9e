/- poly: the law PolyBack. -/
import Derived.Test.YteipbcpnnojclaaDoorPolBa
namespace Go.Proofs.YteipbcpnnojclaaDoor
open Go.RowKit DivMath WordMath
set_option linter.unusedVariables false
set_option linter.unusedSimpArgs false
set_option maxRecDepth 100000 in
set_option maxHeartbeats 2000000 in
theorem pb_a {D : Nat → Prop} (q : Int) (f l : List Int) {xa ya : Option Addr} {xk yk : Nat} {w : World} (hx : Fct.at w D (.rw (.slice xa f.length xk) f.length 1 (icl f))) (hy : Fct.at w D (.rw (.slice ya l.length yk) l.length 1 (icl l))) (hl0 : Laid w) (hn : -9223372036854775808 ≤ q ∧ q ≤ 9223372036854775807) (h1 : 12 < f.length) :
    Calls Tryd.prog 4 #[.int .i64 q, .slice xa f.length xk, .slice ya l.length yk] w fun e w' => e = .returned (.bool true) ∧ Below w.heap.size w w' := by
  have E0 : Hid (Env D w [] [.rw (.slice ya l.length yk) l.length 1 (icl l), .rw (.slice xa f.length xk) f.length 1 (icl f)] w) := Lib.hid (((Env.start D w).arg (.rw (.slice xa f.length xk) f.length 1 (icl f)) hx).arg (.rw (.slice ya l.length yk) l.length 1 (icl l)) hy)
  clear hx hy
  go_enter Tryd.func4, Tryd.ntmps4
  have hl := Lib.hid hl0
  clear hl0
  go_wp2_with fail
  refine (awake13_c (hl.out.below E0.out.bel)).mono ?_
  rintro e w1 ⟨rfl, hb⟩
  have E1 : Hid (Env D w [] [.rw (.slice ya l.length yk) l.length 1 (icl l), .rw (.slice xa f.length xk) f.length 1 (icl f)] w1) := Lib.hid (E0.out.below hb)
  clear E0 hb
  have d1 : decide ((12 : Int) < (f.length : Int)) = true := decide_eq_true (by omega)
  have d1n : decide (12 < f.length) = true := decide_eq_true (by omega)
  have hfin := Lib.hid E1.out.bel
  go_wp2
  go_ret
  exact ⟨rfl, hfin.out⟩
set_option maxRecDepth 100000 in
set_option maxHeartbeats 2000000 in
theorem pb_b {D : Nat → Prop} (q : Int) (f l : List Int) {xa ya : Option Addr} {xk yk : Nat} {w : World} (hx : Fct.at w D (.rw (.slice xa f.length xk) f.length 1 (icl f))) (hy : Fct.at w D (.rw (.slice ya l.length yk) l.length 1 (icl l))) (hl0 : Laid w) (hn : -9223372036854775808 ≤ q ∧ q ≤ 9223372036854775807) (h1 : f.length ≤ 12) (h2 : 12 < l.length) :
    Calls Tryd.prog 4 #[.int .i64 q, .slice xa f.length xk, .slice ya l.length yk] w fun e w' => e = .returned (.bool true) ∧ Below w.heap.size w w' := by
  have E0 : Hid (Env D w [] [.rw (.slice ya l.length yk) l.length 1 (icl l), .rw (.slice xa f.length xk) f.length 1 (icl f)] w) := Lib.hid (((Env.start D w).arg (.rw (.slice xa f.length xk) f.length 1 (icl f)) hx).arg (.rw (.slice ya l.length yk) l.length 1 (icl l)) hy)
  clear hx hy
  go_enter Tryd.func4, Tryd.ntmps4
  have hl := Lib.hid hl0
  clear hl0
  go_wp2_with fail
  refine (awake13_c (hl.out.below E0.out.bel)).mono ?_
  rintro e w1 ⟨rfl, hb⟩
  have E1 : Hid (Env D w [] [.rw (.slice ya l.length yk) l.length 1 (icl l), .rw (.slice xa f.length xk) f.length 1 (icl f)] w1) := Lib.hid (E0.out.below hb)
  clear E0 hb
  have d1 : decide ((12 : Int) < (f.length : Int)) = false := decide_eq_false (by omega)
  have d1n : decide (12 < f.length) = false := decide_eq_false (by omega)
  have d2 : decide ((12 : Int) < (l.length : Int)) = true := decide_eq_true (by omega)
  have d2n : decide (12 < l.length) = true := decide_eq_true (by omega)
  have hfin := Lib.hid E1.out.bel
  go_wp2
  go_ret
  exact ⟨rfl, hfin.out⟩
set_option maxRecDepth 100000 in
set_option maxHeartbeats 2000000 in
theorem pb_c {D : Nat → Prop} (q : Int) (f l : List Int) {xa ya : Option Addr} {xk yk : Nat} {w : World} (hx : Fct.at w D (.rw (.slice xa f.length xk) f.length 1 (icl f))) (hy : Fct.at w D (.rw (.slice ya l.length yk) l.length 1 (icl l))) (hl0 : Laid w) (hn : -9223372036854775808 ≤ q ∧ q ≤ 9223372036854775807) (h1 : f.length ≤ 12) (h2 : l.length ≤ 12) (h3 : l.length < f.length) :
    Calls Tryd.prog 4 #[.int .i64 q, .slice xa f.length xk, .slice ya l.length yk] w fun e w' => e = .returned (.bool true) ∧ Below w.heap.size w w' := by
  have E0 : Hid (Env D w [] [.rw (.slice ya l.length yk) l.length 1 (icl l), .rw (.slice xa f.length xk) f.length 1 (icl f)] w) := Lib.hid (((Env.start D w).arg (.rw (.slice xa f.length xk) f.length 1 (icl f)) hx).arg (.rw (.slice ya l.length yk) l.length 1 (icl l)) hy)
  clear hx hy
  go_enter Tryd.func4, Tryd.ntmps4
  have hl := Lib.hid hl0
  clear hl0
  go_wp2_with fail
  refine (awake13_c (hl.out.below E0.out.bel)).mono ?_
  rintro e w1 ⟨rfl, hb⟩
  have E1 : Hid (Env D w [] [.rw (.slice ya l.length yk) l.length 1 (icl l), .rw (.slice xa f.length xk) f.length 1 (icl f)] w1) := Lib.hid (E0.out.below hb)
  clear E0 hb
  have d1 : decide ((12 : Int) < (f.length : Int)) = false := decide_eq_false (by omega)
  have d1n : decide (12 < f.length) = false := decide_eq_false (by omega)
  have d2 : decide ((12 : Int) < (l.length : Int)) = false := decide_eq_false (by omega)
  have d2n : decide (12 < l.length) = false := decide_eq_false (by omega)
  have d3 : decide ((l.length : Int) < (f.length : Int)) = true := decide_eq_true (by omega)
  have d3n : decide (l.length < f.length) = true := decide_eq_true (by omega)
  have hfin := Lib.hid E1.out.bel
  go_wp2
  go_ret
  exact ⟨rfl, hfin.out⟩
set_option maxRecDepth 100000 in
set_option maxHeartbeats 2000000 in
theorem pb_v {D : Nat → Prop} (q : Int) (f l : List Int) {xa ya : Option Addr} {xk yk : Nat} {w : World} (hx : Fct.at w D (.rw (.slice xa f.length xk) f.length 1 (icl f))) (hy : Fct.at w D (.rw (.slice ya l.length yk) l.length 1 (icl l))) (hl0 : Laid w) (hn : -9223372036854775808 ≤ q ∧ q ≤ 9223372036854775807) (h1 : f.length ≤ 12) (h2 : l.length ≤ 12) (h3 : f.length ≤ l.length) (h4 : 0 < l.length) (hv0 : validB q [f] = false) :
    Calls Tryd.prog 4 #[.int .i64 q, .slice xa f.length xk, .slice ya l.length yk] w fun e w' => e = .returned (.bool true) ∧ Below w.heap.size w w' := by
  have E0 : Hid (Env D w [] [.rw (.slice ya l.length yk) l.length 1 (icl l), .rw (.slice xa f.length xk) f.length 1 (icl f)] w) := Lib.hid (((Env.start D w).arg (.rw (.slice xa f.length xk) f.length 1 (icl f)) hx).arg (.rw (.slice ya l.length yk) l.length 1 (icl l)) hy)
  clear hx hy
  go_enter Tryd.func4, Tryd.ntmps4
  have hl := Lib.hid hl0
  have hv := Lib.hid hv0
  clear hl0 hv0
  go_wp2_with fail
  refine (awake13_c (hl.out.below E0.out.bel)).mono ?_
  rintro e w1 ⟨rfl, hb⟩
  have E1 : Hid (Env D w [] [.rw (.slice ya l.length yk) l.length 1 (icl l), .rw (.slice xa f.length xk) f.length 1 (icl f)] w1) := Lib.hid (E0.out.below hb)
  clear E0 hb
  have d1 : decide ((12 : Int) < (f.length : Int)) = false := decide_eq_false (by omega)
  have d1n : decide (12 < f.length) = false := decide_eq_false (by omega)
  have d2 : decide ((12 : Int) < (l.length : Int)) = false := decide_eq_false (by omega)
  have d2n : decide (12 < l.length) = false := decide_eq_false (by omega)
  have d3 : decide ((l.length : Int) < (f.length : Int)) = false := decide_eq_false (by omega)
  have d3n : decide (l.length < f.length) = false := decide_eq_false (by omega)
  have HN := Lib.hid hn
  go_wp2_with fail
  go_loopg [33] (1) (fun gk s33 wr => ∃ (i : Nat), s33 = .int .i64 (i : Int) ∧ Hid (Env D w [] [.rw (.slice ya l.length yk) l.length 1 (icl l), .rw (.slice xa f.length xk) f.length 1 (icl f)] wr) ∧ Hid (i = 0 ∧ gk = 1))
  case atStart => exact ⟨0, rfl, Lib.hid E1.out, Lib.hid ⟨rfl, rfl⟩⟩
  case round =>
    clear E1
    obtain ⟨i, rfl, EL, HA⟩ := hrel
    obtain ⟨a1, a2⟩ := HA.out
    have hi : i < l.length := by omega
    have t6 : decide ((i : Int) < (l.length : Int)) = true := decide_eq_true (by omega)
    have t7 : decide (i < l.length) = true := decide_eq_true hi
    clear a1 a2 HA
    obtain ⟨yab, yao, rfl⟩ := Rw.addr (EL.out.fc 0 rfl) (by omega)
    have E2 : Hid (Env D w [] [.ce yab (yao + i) (.int .i64 l[i]), .rw (.slice (some ⟨yab, yao, none⟩) l.length yk) l.length 1 (icl l), .rw (.slice xa f.length xk) f.length 1 (icl f)] _) := Lib.hid (EL.out.elI 0 rfl rfl (i) hi)
    clear EL
    have u0 := (E2.out.fc 0 rfl).2
    go_wp2_with fail
    refine (Eval_no q f l[i] (E2.out.fc 2 rfl) (hl.out.below E2.out.bel) HN.out hv.out).mono ?_
    rintro e w2 ⟨rfl, hb⟩
    have E3 : Hid (Env D w [] [.ce yab (yao + i) (.int .i64 l[i]), .rw (.slice (some ⟨yab, yao, none⟩) l.length yk) l.length 1 (icl l), .rw (.slice xa f.length xk) f.length 1 (icl f)] w2) := Lib.hid (E2.out.below hb)
    clear u0 E2 hb
    have hfin := Lib.hid E3.out.bel
    go_wp2
    go_ret
    exact ⟨rfl, hfin.out⟩
set_option maxRecDepth 100000 in
theorem Interp_0 (q : Int) {xa : Option Addr} {xk : Nat} {w : World} (hx : Rw w (fun _ => True) (.slice xa ([] : List Nat).length xk) ([] : List Nat).length 1 (ncl [])) (hl0 : Laid w) (hn : -9223372036854775808 ≤ q ∧ q ≤ 9223372036854775807) :
    Calls Tryd.prog 14 #[.int .i64 q, .slice xa 0 xk, .slice none 0 0] w fun e w' => (∃ a k c, e = .returned (.tuple #[.slice a 0 k, .int .i64 c])) ∧ Below w.heap.size w w' := by
  cases hf : fieldB q with
  | false => exact (Interpolate_err (D := fun _ => True) q [] [] hx (Rw.nil _ _ _) hl0 hn rfl (by simp) (c := 1) (by decide) (Or.inl ⟨hf, rfl⟩)).mono fun e w' ⟨h1, h2⟩ => ⟨⟨none, 0, 1, h1⟩, h2⟩
  | true =>
    have h1 : 1 < q.toNat := by
      rcases Nat.lt_or_ge 1 q.toNat with h | h
      · exact h
      · exfalso
        unfold fieldB at hf
        rcases (by omega : q.toNat = 0 ∨ q.toNat = 1) with e | e <;> rw [e] at hf <;> simp [show Pri.isP 0 = false by decide, show Pri.isP 1 = false by decide] at hf
    have hq : q = (q.toNat : Int) := by omega
    have hT : q < Top := by unfold fieldB at hf; unfold Top; simp at hf; omega
    generalize q.toNat = m at *
    subst hq
    exact (Interpolate_ok m [] [] hx (Rw.nil _ _ _) hl0 hT h1 hf rfl (by simp) (by simp) (by simp) List.nodup_nil (fun k u v h => absurd h (Nat.not_lt_zero k))).mono fun e w' ⟨⟨u, v, g1, a, k, g2, _⟩, g3⟩ => by
      have : u = [] := g1.out.1
      subst this
      exact ⟨⟨a, k, 0, g2⟩, g3⟩
theorem Interp_0l (q : Int) (l : List Int) (h : l.length = 0) {xa : Option Addr} {xk : Nat} {w : World} (hx : Rw w (fun _ => True) (.slice xa l.length xk) l.length 1 (icl l)) (hl0 : Laid w) (hn : -9223372036854775808 ≤ q ∧ q ≤ 9223372036854775807) :
    Calls Tryd.prog 14 #[.int .i64 q, .slice xa l.length xk, .slice none 0 0] w fun e w' => (∃ a k c, e = .returned (.tuple #[.slice a 0 k, .int .i64 c])) ∧ Below w.heap.size w w' := by
  obtain rfl := List.eq_nil_of_length_eq_zero h
  exact Interp_0 q hx hl0 hn
set_option maxRecDepth 100000 in
set_option maxHeartbeats 2000000 in
theorem pb_0 {D : Nat → Prop} (q : Int) (f l : List Int) {xa ya : Option Addr} {xk yk : Nat} {w : World} (hx : Fct.at w D (.rw (.slice xa f.length xk) f.length 1 (icl f))) (hy : Fct.at w D (.rw (.slice ya l.length yk) l.length 1 (icl l))) (hl0 : Laid w) (hn : -9223372036854775808 ≤ q ∧ q ≤ 9223372036854775807) (h1 : f.length ≤ 12) (h2 : l.length ≤ 12) (h3 : f.length ≤ l.length) (h4 : l.length = 0) :
    Calls Tryd.prog 4 #[.int .i64 q, .slice xa f.length xk, .slice ya l.length yk] w fun e w' => e = .returned (.bool true) ∧ Below w.heap.size w w' := by
  have E0 : Hid (Env D w [] [.rw (.slice ya l.length yk) l.length 1 (icl l), .rw (.slice xa f.length xk) f.length 1 (icl f)] w) := Lib.hid (((Env.start D w).arg (.rw (.slice xa f.length xk) f.length 1 (icl f)) hx).arg (.rw (.slice ya l.length yk) l.length 1 (icl l)) hy)
  clear hx hy
  go_enter Tryd.func4, Tryd.ntmps4
  have hl := Lib.hid hl0
  clear hl0
  go_wp2_with fail
  refine (awake13_c (hl.out.below E0.out.bel)).mono ?_
  rintro e w1 ⟨rfl, hb⟩
  have E1 : Hid (Env D w [] [.rw (.slice ya l.length yk) l.length 1 (icl l), .rw (.slice xa f.length xk) f.length 1 (icl f)] w1) := Lib.hid (E0.out.below hb)
  clear E0 hb
  have d1 : decide ((12 : Int) < (f.length : Int)) = false := decide_eq_false (by omega)
  have d1n : decide (12 < f.length) = false := decide_eq_false (by omega)
  have d2 : decide ((12 : Int) < (l.length : Int)) = false := decide_eq_false (by omega)
  have d2n : decide (12 < l.length) = false := decide_eq_false (by omega)
  have d3 : decide ((l.length : Int) < (f.length : Int)) = false := decide_eq_false (by omega)
  have d3n : decide (l.length < f.length) = false := decide_eq_false (by omega)
  have HN := Lib.hid hn
  have H4 := Lib.hid h4
  clear h4
  go_wp2_with fail
  go_loopg [7, 33] (1) (fun gk s7 s33 wr => ∃ (i : Nat), s7 = .slice none 0 0 ∧ s33 = .int .i64 (i : Int) ∧ Hid (Env D w [] [.rw (.slice ya l.length yk) l.length 1 (icl l), .rw (.slice xa f.length xk) f.length 1 (icl f)] wr) ∧ Hid (i = 0 ∧ gk = 1))
  case atStart => exact ⟨0, rfl, rfl, Lib.hid E1.out, Lib.hid ⟨rfl, rfl⟩⟩
  case round =>
    clear E1
    obtain ⟨i, rfl, rfl, EL, HA⟩ := hrel
    obtain ⟨a1, a2⟩ := HA.out
    have t6 : decide ((i : Int) < (l.length : Int)) = false := decide_eq_false (by have := H4.out; omega)
    have t7 : decide (i < l.length) = false := decide_eq_false (by have := H4.out; omega)
    clear a1 a2 HA
    have m1 : ((l.length : Int) == 0) = true := beq_iff_eq.2 (by have := H4.out; omega)
    have m2 : (l.length == 0) = true := beq_iff_eq.2 H4.out
    go_wp2_with fail
    refine (Interp_0l q l H4.out (Rw.tr (EL.out.fc 0 rfl)) (hl.out.below EL.out.bel) HN.out).mono ?_
    rintro e w2 ⟨⟨ga, gl, gc, rfl⟩, hb⟩
    have E2 : Hid (Env D w [] [.rw (.slice ya l.length yk) l.length 1 (icl l), .rw (.slice xa f.length xk) f.length 1 (icl f)] w2) := Lib.hid (EL.out.below hb)
    clear EL hb
    have hfin := Lib.hid E2.out.bel
    go_wp2
    go_ret
    exact ⟨rfl, hfin.out⟩
theorem containsI_c {D : Nat → Prop} {l : List Int} {x : Int} {xa : Option Addr} {xk : Nat} {w : World} (hx : Fct.at w D (.rw (.slice xa l.length xk) l.length 1 (icl l))) (hl : l.length ≤ 1000000) {t : Bool} (ht : l.contains x = t) :
    Calls Tryd.prog 23 #[.slice xa l.length xk, .int .i64 x] w fun e w' => e = .returned (.bool t) ∧ Below w.heap.size w w' := by
  subst ht
  by_cases h0 : l.length = 0
  · rw [List.length_eq_zero_iff.1 h0]
    exact (Tryd.slices_Contains_int_empty xa xk x w).mono fun e w' ⟨h1, h2⟩ => ⟨h1, by rw [h2]; exact Below.refl _ _⟩
  · obtain ⟨b1, o1, rfl⟩ := Rw.addr hx h0
    refine (Tryd.slices_Contains_int b1 o1 l.length xk l x w (by omega) (by omega) (fun j hj => ?_)).mono fun e w' ⟨h1, h2⟩ => ⟨?_, by rw [h2]; exact Below.refl _ _⟩
    · rw [(Rw.el hx h0 (icl_get l j hj)).2]; simp [List.getElem?_eq_getElem hj]
    · have e1 : l.take l.length = l := List.take_of_length_le (Nat.le_refl _)
      rw [e1] at h1; exact h1
theorem Rw.takeI {W : World} {D : Nat → Prop} {a : Option Addr} {c n : Nat} {l : List Int} (h : Rw W D (.slice a l.length c) l.length 1 (icl l)) (hn : n ≤ l.length) : Rw W D (.slice a (l.take n).length c) (l.take n).length 1 (icl (l.take n)) := by
  obtain ⟨ao, cap, h1, h2, h3, h4, h5, h6⟩ := h
  simp only [Value.slice.injEq, true_and] at h1
  obtain ⟨rfl, rfl⟩ := h1
  have hl : (l.take n).length = n := by simp; omega
  have hc : icl (l.take n) = (icl l).take n := by simp [icl, List.map_take]
  rw [hl]
  refine ⟨_, _, rfl, by omega, h3, by rw [icl_len, hl], icl_one _, fun hne => ?_⟩
  obtain ⟨b, off, e, hb, hi⟩ := h6 (by omega)
  refine ⟨b, off, e, hb, fun i u hu => hi i u ?_⟩
  rw [hc, List.getElem?_take] at hu
  split at hu
  · exact hu
  · cases hu
theorem Eval_okI {D : Nat → Prop} (q : Int) (l : List Int) (x : Int) {xa : Option Addr} {xk : Nat} {w : World} (hx : Fct.at w D (.rw (.slice xa l.length xk) l.length 1 (icl l))) (hl : Laid w) (hv : validB q [l] = true) (hr : resB q x = true) :
    Calls Tryd.prog 22 #[.int .i64 q, .slice xa l.length xk, .int .i64 x] w fun e w' => (∃ y : Nat, e = .returned (.tuple #[.int .i64 (y : Nat), .int .i64 0])) ∧ Below w.heap.size w w' := by
  rw [valid1] at hv
  have hv0 := hv
  simp only [Bool.and_eq_true] at hv
  obtain ⟨n, rfl, hn2, hT⟩ := fieldB_pos hv.1
  obtain ⟨m, rfl, hm⟩ := all_nl (poly_res hv.2)
  have hx' : Fct.at w D (.rw (.slice xa m.length xk) m.length 1 (ncl m)) := by have h := hx; rw [nl_len] at h; exact h
  unfold resB at hr
  simp only [Bool.and_eq_true, decide_eq_true_eq] at hr
  obtain ⟨y, rfl⟩ : ∃ y : Nat, x = (y : Int) := ⟨x.toNat, by omega⟩
  have hlen : m.length ≤ 1000 := by
    have := hv.2
    unfold polyB at this
    simp only [Bool.and_eq_true, decide_eq_true_eq, nl_len] at this
    exact this.1
  rw [nl_len]
  exact (Eval_ok n m y hx' hl hT (by rw [valid1]; exact hv0) hlen (fun c hc => Int.ofNat_lt.1 (hm c hc)) hr.2).mono fun e w' ⟨h1, h2⟩ => ⟨⟨_, h1⟩, h2⟩
set_option maxRecDepth 100000 in
set_option maxHeartbeats 2000000 in
theorem pb_m {D : Nat → Prop} (q : Int) (f l : List Int) {xa ya : Option Addr} {xk yk : Nat} {w : World} (hx : Fct.at w D (.rw (.slice xa f.length xk) f.length 1 (icl f))) (hy : Fct.at w D (.rw (.slice ya l.length yk) l.length 1 (icl l))) (hl0 : Laid w) (hn : -9223372036854775808 ≤ q ∧ q ≤ 9223372036854775807) (h1 : f.length ≤ 12) (h2 : l.length ≤ 12) (h3 : f.length ≤ l.length) (h4 : 0 < l.length) (hv0 : validB q [f] = true) (hB0 : ¬ ∀ j (h : j < l.length), resB q l[j] = true ∧ (l.take j).contains l[j] = false) :
    Calls Tryd.prog 4 #[.int .i64 q, .slice xa f.length xk, .slice ya l.length yk] w fun e w' => e = .returned (.bool true) ∧ Below w.heap.size w w' := by
  have E0 : Hid (Env D w [] [.rw (.slice ya l.length yk) l.length 1 (icl l), .rw (.slice xa f.length xk) f.length 1 (icl f)] w) := Lib.hid (((Env.start D w).arg (.rw (.slice xa f.length xk) f.length 1 (icl f)) hx).arg (.rw (.slice ya l.length yk) l.length 1 (icl l)) hy)
  clear hx hy
  go_enter Tryd.func4, Tryd.ntmps4
  have hl := Lib.hid hl0
  have hv := Lib.hid hv0
  have hB := Lib.hid hB0
  clear hl0 hv0 hB0
  go_wp2_with fail
  refine (awake13_c (hl.out.below E0.out.bel)).mono ?_
  rintro e w1 ⟨rfl, hb⟩
  have E1 : Hid (Env D w [] [.rw (.slice ya l.length yk) l.length 1 (icl l), .rw (.slice xa f.length xk) f.length 1 (icl f)] w1) := Lib.hid (E0.out.below hb)
  clear E0 hb
  have d1 : decide ((12 : Int) < (f.length : Int)) = false := decide_eq_false (by omega)
  have d1n : decide (12 < f.length) = false := decide_eq_false (by omega)
  have d2 : decide ((12 : Int) < (l.length : Int)) = false := decide_eq_false (by omega)
  have d2n : decide (12 < l.length) = false := decide_eq_false (by omega)
  have d3 : decide ((l.length : Int) < (f.length : Int)) = false := decide_eq_false (by omega)
  have d3n : decide (l.length < f.length) = false := decide_eq_false (by omega)
  have HN := Lib.hid hn
  go_wp2_with fail
  go_loopg [33, 7] (l.length) (fun gk s33 s7 wr => ∃ (i : Nat) (sg : List Bx) (cs : List Value) (va : Option Addr) (vk : Nat) (o : List Nat), s33 = .int .i64 (i : Int) ∧ s7 = .slice va (nl o).length vk ∧ Hid (Env D w (sg) [.rw (.slice ya l.length yk) l.length 1 (icl l), .rw (.slice xa f.length xk) f.length 1 (icl f)] wr) ∧ Hid (OI sg cs (.slice va (nl o).length vk) (nl o)) ∧ Hid ((i ≤ l.length ∧ gk = l.length - i) ∧ o.length = i ∧ ∀ j (h : j < l.length), j < i → resB q l[j] = true ∧ (l.take j).contains l[j] = false))
  case atStart => exact ⟨0, [], [], none, 0, [], rfl, rfl, Lib.hid (E1.out.cast (by simp)), Lib.hid OI.nlnil, Lib.hid ⟨⟨Nat.zero_le _, rfl⟩, rfl, fun j h h0 => absurd h0 (Nat.not_lt_zero _)⟩⟩
  case round =>
    clear E1
    obtain ⟨i, sg, cs, va, vk, o, rfl, rfl, EL, hO, HA⟩ := hrel
    obtain ⟨⟨a1, a2⟩, a3, a4⟩ := HA.out
    have HOL := Lib.hid a3
    have HS := Lib.hid a4
    clear a3 a4 HA
    by_cases hy : i = l.length
    · exact absurd (fun j h => HS.out j h (by omega)) hB.out
    have hi : i < l.length := by omega
    have t6 : decide ((i : Int) < (l.length : Int)) = true := decide_eq_true (by omega)
    have t7 : decide (i < l.length) = true := decide_eq_true hi
    clear hy
    have hi9 : (i : Int) ≤ 12 := by omega
    obtain ⟨hcap, hcap9⟩ := Rw.cap (EL.out.fc 0 rfl)
    have hnk : i ≤ yk := by omega
    have hnk2 : (i : Int) ≤ (yk : Int) := by omega
    clear hcap
    obtain ⟨yab, yao, rfl⟩ := Rw.addr (EL.out.fc 0 rfl) (by omega)
    have E2 : Hid (Env D w (sg) [.ce yab (yao + i) (.int .i64 l[i]), .rw (.slice (some ⟨yab, yao, none⟩) l.length yk) l.length 1 (icl l), .rw (.slice xa f.length xk) f.length 1 (icl f)] _) := Lib.hid (EL.out.elI 0 rfl rfl (i) hi)
    clear EL
    have u0 := (E2.out.fc 0 rfl).2
    have hln : (l.take i).length = i := by simp; omega
    rcases Bool.eq_false_or_eq_true (resB q l[i]) with hr0 | hr0
    rotate_left
    · have HR := Lib.hid hr0
      clear hr0 hln hnk hnk2 hi9 hcap9
      go_wp2_with fail
      refine (Eval_range q f l[i] (E2.out.fc 2 rfl) (hl.out.below E2.out.bel) HN.out hv.out HR.out).mono ?_
      rintro e w2 ⟨rfl, hb⟩
      have E3 : Hid (Env D w (sg) [.ce yab (yao + i) (.int .i64 l[i]), .rw (.slice (some ⟨yab, yao, none⟩) l.length yk) l.length 1 (icl l), .rw (.slice xa f.length xk) f.length 1 (icl f)] w2) := Lib.hid (E2.out.below hb)
      clear u0 E2 hb
      have hfin := Lib.hid E3.out.bel
      go_wp2
      go_ret
      exact ⟨rfl, hfin.out⟩
    have HR := Lib.hid hr0
    clear hr0
    go_wp2_with fail
    refine (Eval_okI q f l[i] (E2.out.fc 2 rfl) (hl.out.below E2.out.bel) hv.out HR.out).mono ?_
    rintro e w2 ⟨⟨ev, rfl⟩, hb⟩
    have E3 : Hid (Env D w (sg) [.ce yab (yao + i) (.int .i64 l[i]), .rw (.slice (some ⟨yab, yao, none⟩) l.length yk) l.length 1 (icl l), .rw (.slice xa f.length xk) f.length 1 (icl f)] w2) := Lib.hid (E2.out.below hb)
    clear u0 E2 hb
    rcases Bool.eq_false_or_eq_true ((l.take i).contains l[i]) with hc0 | hc0
    · skip
      have cc := containsI_c (Rw.takeI (E3.out.fc 1 rfl) (Nat.le_of_lt hi)) (by simp; omega) hc0
      rw [hln] at cc
      have CC := Lib.hid cc
      have HC := Lib.hid hc0
      clear cc hln hc0
      go_wp2_with fail
      refine (CC.out).mono ?_
      rintro e w3 ⟨rfl, hb⟩
      have E4 : Hid (Env D w (sg) [.ce yab (yao + i) (.int .i64 l[i]), .rw (.slice (some ⟨yab, yao, none⟩) l.length yk) l.length 1 (icl l), .rw (.slice xa f.length xk) f.length 1 (icl f)] w3) := Lib.hid (E3.out.below hb)
      clear E3 hb
      have hfin := Lib.hid E4.out.bel
      go_wp2
      go_ret
      exact ⟨rfl, hfin.out⟩
    · skip
      have cc := containsI_c (Rw.takeI (E3.out.fc 1 rfl) (Nat.le_of_lt hi)) (by simp; omega) hc0
      rw [hln] at cc
      have CC := Lib.hid cc
      have HC := Lib.hid hc0
      clear cc hln hc0
      go_wp2_with fail
      refine (CC.out).mono ?_
      rintro e w3 ⟨rfl, hb⟩
      have E4 : Hid (Env D w (sg) [.ce yab (yao + i) (.int .i64 l[i]), .rw (.slice (some ⟨yab, yao, none⟩) l.length yk) l.length 1 (icl l), .rw (.slice xa f.length xk) f.length 1 (icl f)] w3) := Lib.hid (E3.out.below hb)
      clear E3 hb
      have hol : (nl o).length + 1 ≤ 1000000 := by have := HOL.out; rw [nl_len]; omega
      have HOL2 := Lib.hid hol
      clear hol
      have E5 : Hid (Env D w ((w3.heap.size, 3, [.int .i64 (ev : Nat)]) :: sg) [.ce yab (yao + i) (.int .i64 l[i]), .rw (.slice (some ⟨yab, yao, none⟩) l.length yk) l.length 1 (icl l), .rw (.slice xa f.length xk) f.length 1 (icl f)] _) := Lib.hid ((E4.out.push 3 [.int .i64 (ev : Nat)] (w3.heap.size) (by simp)))
      go_wp2_with (at_builtin; refine wpl_app1 (c := 1) tiI rfl _ _ rfl E5.out (A := [(w3.heap.size, 3, [.int .i64 (ev : Nat)])]) (sg := sg) (B' := []) (F := ((w3.heap.size, 3, [.int .i64 (ev : Nat)]) :: sg)) (by simp) (hO.out.os rfl) rfl rfl (SrcN.int (E5.out.bx 0 rfl)) HOL2.out ?_)
      intro zg zp zc w4 zH zT zE
      have zO := Lib.hid (OI.app (x := ((ev : Nat) : Int)) (g' := zg) (cs' := zc) (cap' := zp) hO.out rfl (by simpa using zH.out) (by simpa using zT.out))
      have E6 : Hid (Env D w ((w3.heap.size, 3, [.int .i64 (ev : Nat)]) :: [(zg, 3, zc)]) [.ce yab (yao + i) (.int .i64 l[i]), .rw (.slice (some ⟨yab, yao, none⟩) l.length yk) l.length 1 (icl l), .rw (.slice xa f.length xk) f.length 1 (icl f)] w4) := Lib.hid (zE.out.cast (by simp))
      clear E4 E5 zE zH zT hO
      have HSN : Hid (∀ j (h : j < l.length), j < i + 1 → resB q l[j] = true ∧ (l.take j).contains l[j] = false) := Lib.hid (fun j h h9 => by
        by_cases e : j = i
        · subst e; exact ⟨HR.out, HC.out⟩
        · exact HS.out j h (by omega))
      have EZ := Lib.hid ((E6.out.drop).forget)
      have OZ := Lib.hid (OI.snoc (x := ev) zO.out)
      go_wp2
      go_roundg (l.length - (i + 1))
      case rel => exact ⟨i + 1, [(zg, 3, zc)], zc, some ⟨zg, 0, none⟩, zp, o ++ [ev], rfl, OI.v, EZ, OZ, Lib.hid ⟨⟨by omega, rfl⟩, by rw [List.length_append, HOL.out]; rfl, HSN.out⟩⟩
      case measure => exact by omega
theorem Interpolate_nl (q : Nat) (a b : List Nat) {xa ya : Option Addr} {xk yk : Nat} {w : World} (hx : Rw w (fun _ => True) (.slice xa a.length xk) a.length 1 (ncl a)) (hy : Rw w (fun _ => True) (.slice ya (nl b).length yk) b.length 1 (ncl b)) (hl0 : Laid w) (hqT : (q : Int) < Top) (hq1 : 1 < q) (hf0 : fieldB q = true) (hab : a.length = b.length) (hlen : a.length ≤ 100) (hr0 : ∀ c ∈ a, c < q) (hs0 : ∀ c ∈ b, c < q) (hd0 : a.Nodup) (hg0 : ∀ k u v, k < a.length → ItR q a b k u v → Nat.gcd (evN q (a.getD k 0) v) q = 1) :
    Calls Tryd.prog 14 #[.int .i64 (q : Nat), .slice xa a.length xk, .slice ya (nl b).length yk] w fun e w' => (∃ u v : List Nat, Hid (ItR q a b a.length u v) ∧ RetIE (fun _ => True) u 0 e w') ∧ Below w.heap.size w w' := by
  rw [nl_len] at hy ⊢
  exact Interpolate_ok q a b hx hy hl0 hqT hq1 hf0 hab hlen hr0 hs0 hd0 hg0
theorem snoc_ev {q : Nat} {f l o : List Nat} {i ev : Nat} (ho : o.length = i) (h : ∀ j, j < i → o.getD j 0 = evN q (l.getD j 0) f) (hv : ev = evN q (l.getD i 0) f) : ∀ j, j < i + 1 → (o ++ [ev]).getD j 0 = evN q (l.getD j 0) f := fun j hj => by
  by_cases e : j = i
  · subst e
    rw [getD_elem (by simp; omega), List.getElem_append_right (by omega)]
    simpa using hv
  · have hji : j < i := by omega
    have e2 : (o ++ [ev]).getD j 0 = o.getD j 0 := by
      rw [getD_elem (by simp; omega), getD_elem (by omega), List.getElem_append_left]
    rw [e2]; exact h j hji
theorem o_lt {q : Nat} (hq : 0 < q) {f l o : List Nat} (h : l.length = o.length) (hv : ∀ j, j < l.length → o.getD j 0 = evN q (l.getD j 0) f) : ∀ c ∈ o, c < q := by
  intro c hc
  obtain ⟨j, hj, rfl⟩ := List.getElem_of_mem hc
  have := hv j (by omega)
  rw [getD_elem hj] at this
  rw [this]; exact evN_lt hq _
theorem Interpolate_bk (q : Nat) (a b f : List Nat) {xa ya : Option Addr} {xk yk : Nat} {w : World} (hx : Rw w (fun _ => True) (.slice xa a.length xk) a.length 1 (ncl a)) (hy : Rw w (fun _ => True) (.slice ya (nl b).length yk) b.length 1 (ncl b)) (hl0 : Laid w) (hqT : (q : Int) < Top) (hq1 : 1 < q) (hf0 : fieldB q = true) (hab : a.length = b.length) (hlen : a.length ≤ 100) (hr0 : ∀ c ∈ a, c < q) (hs0 : ∀ c ∈ b, c < q) (hd0 : a.Nodup) (hg0 : ∀ k u v, k < a.length → ItR q a b k u v → Nat.gcd (evN q (a.getD k 0) v) q = 1) (hu : ∀ u v, ItR q a b a.length u v → u = f) :
    Calls Tryd.prog 14 #[.int .i64 (q : Nat), .slice xa a.length xk, .slice ya (nl b).length yk] w fun e w' => RetIE (fun _ => True) f 0 e w' ∧ Below w.heap.size w w' :=
  (Interpolate_nl q a b hx hy hl0 hqT hq1 hf0 hab hlen hr0 hs0 hd0 hg0).mono fun e w' ⟨⟨u, v, h1, h2⟩, h3⟩ => ⟨by rw [← hu u v h1.out]; exact h2, h3⟩
set_option maxRecDepth 100000 in
set_option maxHeartbeats 4000000 in
theorem pb_ok {D : Nat → Prop} (q : Nat) (f l : List Nat) {xa ya : Option Addr} {xk yk : Nat} {w : World} (hx : Fct.at w D (.rw (.slice xa f.length xk) f.length 1 (ncl f))) (hy : Fct.at w D (.rw (.slice ya l.length yk) l.length 1 (ncl l))) (hl0 : Laid w) (hq1 : 1 < q) (hqT : (q : Int) < Top) (h1 : f.length ≤ 12) (h2 : l.length ≤ 12) (h3 : f.length ≤ l.length) (h4 : 0 < l.length) (hf0 : fieldB q = true) (hpf0 : polyB (q : Int) (nl f) = true) (hfq0 : ∀ c ∈ f, c < q) (hr0 : ∀ c ∈ l, c < q) (hd0 : l.Nodup) (hg0 : ∀ b : List Nat, (∀ c ∈ b, c < q) → ∀ k u v, k < l.length → ItR q l b k u v → Nat.gcd (evN q (l.getD k 0) v) q = 1) (hb0 : ∀ b u v : List Nat, (∀ c ∈ b, c < q) → (∀ i, i < l.length → b.getD i 0 = evN q (l.getD i 0) f) → ItR q l b l.length u v → u = f) :
    Calls Tryd.prog 4 #[.int .i64 (q : Nat), .slice xa f.length xk, .slice ya l.length yk] w fun e w' => e = .returned (.bool true) ∧ Below w.heap.size w w' := by
  have E0 : Hid (Env D w [] [.rw (.slice ya l.length yk) l.length 1 (ncl l), .rw (.slice xa f.length xk) f.length 1 (ncl f)] w) := Lib.hid (((Env.start D w).arg (.rw (.slice xa f.length xk) f.length 1 (ncl f)) hx).arg (.rw (.slice ya l.length yk) l.length 1 (ncl l)) hy)
  clear hx hy
  go_enter Tryd.func4, Tryd.ntmps4
  have hn : -9223372036854775808 ≤ (q : Int) ∧ (q : Int) ≤ 9223372036854775807 := by unfold Top at hqT; omega
  have HT := Lib.hid hqT
  clear hqT
  have hl := Lib.hid hl0
  have hf := Lib.hid hf0
  have hpf := Lib.hid hpf0
  have hfq := Lib.hid hfq0
  have hr := Lib.hid hr0
  have hd := Lib.hid hd0
  have hg := Lib.hid hg0
  have hb := Lib.hid hb0
  clear hl0 hf0 hpf0 hfq0 hr0 hd0 hg0 hb0
  have HV : Hid (validB (q : Int) [nl f] = true) := Lib.hid (by rw [valid1, hf.out, hpf.out]; rfl)
  have HQ : Hid (0 < q) := Lib.hid (by omega)
  have HQ1 := Lib.hid hq1
  go_wp2_with fail
  refine (awake13_c (hl.out.below E0.out.bel)).mono ?_
  rintro e w1 ⟨rfl, hb⟩
  have E1 : Hid (Env D w [] [.rw (.slice ya l.length yk) l.length 1 (ncl l), .rw (.slice xa f.length xk) f.length 1 (ncl f)] w1) := Lib.hid (E0.out.below hb)
  clear E0 hb
  have d1 : decide ((12 : Int) < (f.length : Int)) = false := decide_eq_false (by omega)
  have d1n : decide (12 < f.length) = false := decide_eq_false (by omega)
  have d2 : decide ((12 : Int) < (l.length : Int)) = false := decide_eq_false (by omega)
  have d2n : decide (12 < l.length) = false := decide_eq_false (by omega)
  have d3 : decide ((l.length : Int) < (f.length : Int)) = false := decide_eq_false (by omega)
  have d3n : decide (l.length < f.length) = false := decide_eq_false (by omega)
  go_wp2_with fail
  go_loopg [33, 7] (l.length) (fun gk s33 s7 wr => ∃ (i : Nat) (sg : List Bx) (cs : List Value) (va : Option Addr) (vk : Nat) (o : List Nat), s33 = .int .i64 (i : Int) ∧ s7 = .slice va (nl o).length vk ∧ Hid (Env D w (sg) [.rw (.slice ya l.length yk) l.length 1 (ncl l), .rw (.slice xa f.length xk) f.length 1 (ncl f)] wr) ∧ Hid (OI sg cs (.slice va (nl o).length vk) (nl o)) ∧ Hid ((i ≤ l.length ∧ gk = l.length - i) ∧ o.length = i ∧ ∀ j, j < i → o.getD j 0 = evN q (l.getD j 0) f))
  case atStart => exact ⟨0, [], [], none, 0, [], rfl, rfl, Lib.hid (E1.out.cast (by simp)), Lib.hid OI.nlnil, Lib.hid ⟨⟨Nat.zero_le _, rfl⟩, rfl, fun j h => absurd h (Nat.not_lt_zero _)⟩⟩
  case round =>
    clear E1
    obtain ⟨i, sg, cs, va, vk, o, rfl, rfl, EL, hO, HA⟩ := hrel
    obtain ⟨⟨a1, a2⟩, a3, a4⟩ := HA.out
    have HOL := Lib.hid a3
    have HS := Lib.hid a4
    clear a3 a4 HA
    by_cases hy : i = l.length
    rotate_left
    · have hi : i < l.length := by omega
      have t6 : decide ((i : Int) < (l.length : Int)) = true := decide_eq_true (by omega)
      have t7 : decide (i < l.length) = true := decide_eq_true hi
      clear hy
      have hi9 : (i : Int) ≤ 12 := by omega
      have hiq : ((l[i] : Nat) : Int) < (q : Int) := Int.ofNat_lt.2 (hr.out _ (List.getElem_mem hi))
      obtain ⟨hcap, hcap9⟩ := Rw.cap (EL.out.fc 0 rfl)
      have hnk : i ≤ yk := by omega
      have hnk2 : (i : Int) ≤ (yk : Int) := by omega
      clear hcap
      obtain ⟨yab, yao, rfl⟩ := Rw.addr (EL.out.fc 0 rfl) (by omega)
      have E2 : Hid (Env D w (sg) [.ce yab (yao + i) (.int .i64 (l[i] : Nat)), .rw (.slice (some ⟨yab, yao, none⟩) l.length yk) l.length 1 (ncl l), .rw (.slice xa f.length xk) f.length 1 (ncl f)] _) := Lib.hid (EL.out.elN 0 rfl rfl (i) hi)
      clear EL
      have u0 := (E2.out.fc 0 rfl).2
      obtain ⟨ev, hev⟩ : ∃ ev, evN q l[i] f = ev := ⟨_, rfl⟩
      have HEV := Lib.hid hev
      clear hev
      go_wp2_with fail
      refine (EvalV q f l[i] (E2.out.fc 2 rfl) (hl.out.below E2.out.bel) HT.out HV.out (by omega) hfq.out hiq HEV.out).mono ?_
      rintro e w2 ⟨rfl, hb⟩
      have E3 : Hid (Env D w (sg) [.ce yab (yao + i) (.int .i64 (l[i] : Nat)), .rw (.slice (some ⟨yab, yao, none⟩) l.length yk) l.length 1 (ncl l), .rw (.slice xa f.length xk) f.length 1 (ncl f)] w2) := Lib.hid (E2.out.below hb)
      clear u0 E2 hb
      have hln : (l.take i).length = i := by simp; omega
      have cc := containsN_c (Rw.takeN (E3.out.fc 1 rfl) (Nat.le_of_lt hi)) (by simp; omega) (nodup_take hd.out hi)
      rw [hln] at cc
      have CC := Lib.hid cc
      clear cc hln
      go_wp2_with fail
      refine (CC.out).mono ?_
      rintro e w3 ⟨rfl, hb⟩
      have E4 : Hid (Env D w (sg) [.ce yab (yao + i) (.int .i64 (l[i] : Nat)), .rw (.slice (some ⟨yab, yao, none⟩) l.length yk) l.length 1 (ncl l), .rw (.slice xa f.length xk) f.length 1 (ncl f)] w3) := Lib.hid (E3.out.below hb)
      clear E3 hb
      have hol : (nl o).length + 1 ≤ 1000000 := by have := HOL.out; rw [nl_len]; omega
      have HOL2 := Lib.hid hol
      clear hol
      have E5 : Hid (Env D w ((w3.heap.size, 3, [.int .i64 (ev : Nat)]) :: sg) [.ce yab (yao + i) (.int .i64 (l[i] : Nat)), .rw (.slice (some ⟨yab, yao, none⟩) l.length yk) l.length 1 (ncl l), .rw (.slice xa f.length xk) f.length 1 (ncl f)] _) := Lib.hid ((E4.out.push 3 [.int .i64 (ev : Nat)] (w3.heap.size) (by simp)))
      go_wp2_with (at_builtin; refine wpl_app1 (c := 1) tiI rfl _ _ rfl E5.out (A := [(w3.heap.size, 3, [.int .i64 (ev : Nat)])]) (sg := sg) (B' := []) (F := ((w3.heap.size, 3, [.int .i64 (ev : Nat)]) :: sg)) (by simp) (hO.out.os rfl) rfl rfl (SrcN.int (E5.out.bx 0 rfl)) HOL2.out ?_)
      intro zg zp zc w4 zH zT zE
      have zO := Lib.hid (OI.app (x := ((ev : Nat) : Int)) (g' := zg) (cs' := zc) (cap' := zp) hO.out rfl (by simpa using zH.out) (by simpa using zT.out))
      have E6 : Hid (Env D w ((w3.heap.size, 3, [.int .i64 (ev : Nat)]) :: [(zg, 3, zc)]) [.ce yab (yao + i) (.int .i64 (l[i] : Nat)), .rw (.slice (some ⟨yab, yao, none⟩) l.length yk) l.length 1 (ncl l), .rw (.slice xa f.length xk) f.length 1 (ncl f)] w4) := Lib.hid (zE.out.cast (by simp))
      clear E4 E5 zE zH zT hO
      have HSN := Lib.hid (snoc_ev (ev := ev) HOL.out HS.out (by rw [getD_elem hi]; exact HEV.out.symm))
      have EZ := Lib.hid ((E6.out.drop).forget)
      have OZ := Lib.hid (OI.snoc (x := ev) zO.out)
      go_wp2
      go_roundg (l.length - (i + 1))
      case rel => exact ⟨i + 1, [(zg, 3, zc)], zc, some ⟨zg, 0, none⟩, zp, o ++ [ev], rfl, OI.v, EZ, OZ, Lib.hid ⟨⟨by omega, rfl⟩, by rw [List.length_append, HOL.out]; rfl, HSN.out⟩⟩
      case measure => exact by omega
    have t6 : decide ((i : Int) < (l.length : Int)) = false := decide_eq_false (by omega)
    have t7 : decide (i < l.length) = false := decide_eq_false (by omega)
    have HLO : Hid (l.length = o.length) := Lib.hid (by rw [HOL.out, hy])
    have HVO : Hid (∀ j, j < l.length → o.getD j 0 = evN q (l.getD j 0) f) := Lib.hid (by rw [← hy]; exact HS.out)
    have HOQ : Hid (∀ c ∈ o, c < q) := Lib.hid (o_lt HQ.out HLO.out HVO.out)
    clear hy
    have m1 : ((l.length : Int) == 0) = false := beq_eq_false_iff_ne.2 (by omega)
    have m2 : (l.length == 0) = false := beq_eq_false_iff_ne.2 (by omega)
    have HL9 := Lib.hid h2
    have HF9 := Lib.hid h1
    go_wp2_with fail
    refine (Interpolate_bk q l o f (Rw.tr (EL.out.fc 0 rfl)) (Rw.tr (hO.out.rwN EL.out (by intro p hp; simp [hp]))) (hl.out.below EL.out.bel) HT.out HQ1.out hf.out HLO.out (by have := HL9.out; omega) hr.out HOQ.out hd.out (hg.out o HOQ.out) (fun u v h => hb.out o u v HOQ.out HVO.out h)).mono ?_
    rintro e w2 ⟨⟨ra, rk, rfl, rh⟩, hb⟩
    have E2 : Hid (Env D w (sg) [.rw (.slice ya l.length yk) l.length 1 (ncl l), .rw (.slice xa f.length xk) f.length 1 (ncl f)] w2) := Lib.hid (EL.out.below hb)
    clear EL hb
    go_wp2_with fail
    refine (equalN_c (t := true) (a := f) (b := f) (Rw.tr rh.out) (Rw.tr (E2.out.fc 1 rfl)) (by have := HF9.out; omega) (by have := HF9.out; omega) (by simp)).mono ?_
    rintro e w3 ⟨rfl, hb⟩
    have E3 : Hid (Env D w (sg) [.rw (.slice ya l.length yk) l.length 1 (ncl l), .rw (.slice xa f.length xk) f.length 1 (ncl f)] w3) := Lib.hid (E2.out.below hb)
    clear E2 hb
    have hfin := Lib.hid E3.out.bel
    go_wp2
    go_ret
    exact ⟨rfl, hfin.out⟩
theorem polyB_last {q : Int} {f : List Nat} (h : polyB q (nl f) = true) (h0 : 0 < f.length) : f[f.length - 1] ≠ 0 := by
  intro h1
  unfold polyB at h
  simp only [Bool.and_eq_true, Bool.not_eq_true', beq_eq_false_iff_ne, ne_eq] at h
  refine h.2.2 ?_
  have h2 : 0 < (nl f).length := by rw [nl_len]; exact h0
  rw [List.getLast?_eq_getElem?, List.getElem?_eq_getElem (by omega)]
  simp only [nl_len]
  simp [nl, h1]
theorem nodup_of_take {l : List Nat} (h : ∀ j (h : j < l.length), (l.take j).contains l[j] = false) : l.Nodup := by
  rw [List.nodup_iff_pairwise_ne, List.pairwise_iff_getElem]
  intro i j hi hj hij e
  have h1 := h j hj
  rw [Bool.eq_false_iff] at h1
  refine h1 (List.contains_iff_mem.2 ?_)
  rw [← e]
  exact List.mem_iff_getElem.2 ⟨i, by simp; omega, by simp⟩
theorem contains_nl (l : List Nat) (x : Nat) : (nl l).contains (x : Int) = l.contains x := by
  rw [Bool.eq_iff_iff, List.contains_iff_mem, List.contains_iff_mem]
  unfold nl
  rw [List.mem_map]
  exact ⟨fun ⟨n, hn, e⟩ => by (have : n = x := by exact_mod_cast e); subst this; exact hn, fun h => ⟨x, h, rfl⟩⟩
theorem PolyBack_walk {D : Nat → Prop} (q : Int) (f l : List Int) {xa ya : Option Addr} {xk yk : Nat} {w : World} (hx : Fct.at w D (.rw (.slice xa f.length xk) f.length 1 (icl f))) (hy : Fct.at w D (.rw (.slice ya l.length yk) l.length 1 (icl l))) (hl : Laid w) (hn : -9223372036854775808 ≤ q ∧ q ≤ 9223372036854775807) :
    Calls Tryd.prog 4 #[.int .i64 q, .slice xa f.length xk, .slice ya l.length yk] w fun e w' => e = .returned (.bool true) ∧ Below w.heap.size w w' := by
  rcases Nat.lt_or_ge 12 f.length with h1 | h1
  · exact pb_a q f l hx hy hl hn h1
  rcases Nat.lt_or_ge 12 l.length with h2 | h2
  · exact pb_b q f l hx hy hl hn h1 h2
  rcases Nat.lt_or_ge l.length f.length with h3 | h3
  · exact pb_c q f l hx hy hl hn h1 h2 h3
  rcases Nat.eq_zero_or_pos l.length with h4 | h4
  · exact pb_0 q f l hx hy hl hn h1 h2 h3 h4
  rcases Bool.eq_false_or_eq_true (validB q [f]) with hv | hv
  rotate_left
  · exact pb_v q f l hx hy hl hn h1 h2 h3 h4 hv
  by_cases hB : ∀ j (h : j < l.length), resB q l[j] = true ∧ (l.take j).contains l[j] = false
  rotate_left
  · exact pb_m q f l hx hy hl hn h1 h2 h3 h4 hv hB
  rw [valid1] at hv
  simp only [Bool.and_eq_true] at hv
  obtain ⟨n, rfl, hn2, hT⟩ := fieldB_pos hv.1
  obtain ⟨m, rfl, hm⟩ := all_nl (poly_res hv.2)
  have hal : l.all (resB (n : Int)) = true := by
    rw [List.all_eq_true]
    intro x hx9
    obtain ⟨j, hj, rfl⟩ := List.mem_iff_getElem.1 hx9
    exact (hB j hj).1
  obtain ⟨r, rfl, hr⟩ := all_nl hal
  have hd : r.Nodup := nodup_of_take fun j hj => by
    have h := (hB j (by rw [nl_len]; exact hj)).2
    have e1 : (nl r).take j = nl (r.take j) := by unfold nl; rw [List.map_take]
    have e2 : (nl r)[j]'(by rw [nl_len]; exact hj) = (r[j] : Int) := by simp [nl]
    rw [e1, e2, contains_nl] at h
    exact h
  have hp := field_prime hv.1
  have hx' : Fct.at w D (.rw (.slice xa m.length xk) m.length 1 (ncl m)) := by have h := hx; rw [nl_len] at h; exact h
  have hy' : Fct.at w D (.rw (.slice ya r.length yk) r.length 1 (ncl r)) := by have h := hy; rw [nl_len] at h; exact h
  have hlast := fun h0 => polyB_last hv.2 h0
  rw [nl_len] at h1 h2 h4 ⊢
  rw [nl_len] at h3 ⊢
  rw [nl_len] at h3
  have hr2 : ∀ c ∈ r, c < n := fun c hc => Int.ofNat_lt.1 (hr c hc)
  have hm2 : ∀ c ∈ m, c < n := fun c hc => Int.ofNat_lt.1 (hm c hc)
  exact pb_ok n m r hx' hy' hl (by omega) hT h1 h2 h3 h4 hv.1 hv.2 hm2 hr2 hd (fun b hb k u v hk h => ItR_gcd hp hr2 hb hd k u v hk h)
    (fun b u v hb hbv h => ItR_back hp hr2 hb hd hm2 h3 hlast hbv h)
end Go.Proofs.YteipbcpnnojclaaDoor

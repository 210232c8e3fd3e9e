/- specielaw39: LineForms. -/
import Derived.Test.YtbcfcdcomboljaaLinLb
import Derived.Deep.DeepCutAuto
import Derived.Deep.CutBlock
namespace Go.Proofs.Ytbcfcdcomboljaa
open Go.RowKit
set_option linter.unusedVariables false
set_option linter.unusedSimpArgs false
theorem big_ok {l : Lin} (h : LinOk l) : Big l := by
  obtain ⟨⟨_, h1, h2, h3⟩, _, hm, _⟩ := h
  refine ⟨⟨by omega, by omega, by omega⟩, fun k hk => ?_⟩
  have := (hm k hk (by omega)).1
  unfold msgOk at this
  simp only [Bool.and_eq_true, decide_eq_true_eq] at this
  omega
/-- what New returns -/
def NewIs (ft : List (Int × Int)) (n : Lin) (c : Int) : Prop := (1000 < ft.length ∧ n = L0 ∧ c = 5) ∨ (ft.length ≤ 1000 ∧ ¬ FatsOk ft ∧ n = L0 ∧ c = 1) ∨ (ft.length ≤ 1000 ∧ FatsOk ft ∧ n = NL ft ∧ c = 0)
theorem new_ex (ft : List (Int × Int)) : ∃ n c, NewIs ft n c := by
  by_cases h : 1000 < ft.length
  · exact ⟨_, _, .inl ⟨h, rfl, rfl⟩⟩
  by_cases h2 : FatsOk ft
  · exact ⟨_, _, .inr (.inr ⟨by omega, h2, rfl, rfl⟩)⟩
  · exact ⟨_, _, .inr (.inl ⟨by omega, h2, rfl, rfl⟩)⟩
theorem New_is {ft : List (Int × Int)} {n : Lin} {c : Int} (h : NewIs ft n c) {D : Nat → Prop} {xa : Option Addr} {xk : Nat} {w : World} (hx : Fct.at w D (.rw (.slice xa ft.length xk) ft.length 2 (fcl ft))) :
    Calls Try.prog 33 #[.slice xa ft.length xk] w fun e w' => RetLE (fun b => D b ∨ w.heap.size ≤ b) n c e w' ∧ Below w.heap.size w w' := by
  rcases h with ⟨h1, rfl, rfl⟩ | ⟨h1, h2, rfl, rfl⟩ | ⟨h1, h2, rfl, rfl⟩
  · exact New_full ft hx h1
  · exact New_bad ft hx h1 h2
  · exact New_ok ft hx h1 h2
/-- what Go returns -/
def GoIs (l : Lin) (now : Int) (g : Lin) (c : Int) : Prop := (¬ LinOk l ∧ g = L0 ∧ c = 1) ∨ (LinOk l ∧ wth now 1099511627776 = false ∧ g = L0 ∧ c = 2) ∨ (LinOk l ∧ wth now 1099511627776 = true ∧ now < l.nw ∧ g = L0 ∧ c = 15) ∨ (LinOk l ∧ wth now 1099511627776 = true ∧ ¬ now < l.nw ∧ g = goL l now ∧ c = 0)
theorem go_ex (l : Lin) (now : Int) : ∃ g c, GoIs l now g c := by
  by_cases h : LinOk l
  · cases h2 : wth now 1099511627776 with
    | false => exact ⟨_, _, .inr (.inl ⟨h, h2, rfl, rfl⟩)⟩
    | true =>
      by_cases h3 : now < l.nw
      · exact ⟨_, _, .inr (.inr (.inl ⟨h, h2, h3, rfl, rfl⟩))⟩
      · exact ⟨_, _, .inr (.inr (.inr ⟨h, h2, h3, rfl, rfl⟩))⟩
  · exact ⟨_, _, .inl ⟨h, rfl, rfl⟩⟩
theorem Go_is {l : Lin} {now : Int} {g : Lin} {c : Int} (h : GoIs l now g c) {xa xb xc : Option Addr} {xj xk xm : Nat} {D : Nat → Prop} {w : World} (h1 : Fct.at w D (.ms (.slice xa l.L.length xj) l.L)) (h2 : Fct.at w D (.rw (.slice xb l.ats.length xk) l.ats.length 1 (icl l.ats))) (h3 : Fct.at w D (.rw (.slice xc l.ft.length xm) l.ft.length 2 (fcl l.ft))) (hlen : l.ats.length ≤ 1000000) :
    Calls Try.prog 37 #[.agg #[.int .i64 l.nw, .slice xa l.L.length xj, .slice xb l.ats.length xk, .slice xc l.ft.length xm], .int .i64 now] w fun e w' => RetLE (fun b => D b ∨ w.heap.size ≤ b) g c e w' ∧ Below w.heap.size w w' := by
  rcases h with ⟨a1, rfl, rfl⟩ | ⟨a1, a2, rfl, rfl⟩ | ⟨a1, a2, a3, rfl, rfl⟩ | ⟨a1, a2, a3, rfl, rfl⟩
  · exact Go_arg l now h1 h2 h3 a1 hlen
  · exact Go_range l now h1 h2 h3 a1 a2 hlen
  · exact Go_time l now h1 h2 h3 a1 a2 a3 hlen
  · exact Go_ok l now h1 h2 h3 a1 a2 a3 (big_ok a1) hlen
/-- the first of the first k times that has not come; -1: there is none -/
def NxIs (l : Lin) (k : Nat) (t : Int) : Prop := (t = -1 ∧ ∀ j (h : j < l.ats.length), j < k → l.ats[j] ≤ l.nw) ∨ (∃ i, ∃ h : i < l.ats.length, i < k ∧ l.ats[i] = t ∧ l.nw < t ∧ ∀ j (h : j < l.ats.length), j < i → l.ats[j] ≤ l.nw)
theorem NxIs.zero (l : Lin) : NxIs l 0 (-1) := .inl ⟨rfl, fun _ _ h => absurd h (Nat.not_lt_zero _)⟩
theorem NxIs.keep {l : Lin} {k : Nat} {t : Int} (h : NxIs l k t) (h0 : 0 ≤ t) : NxIs l (k + 1) t := by
  rcases h with ⟨rfl, _⟩ | ⟨i, hi, h1, h2, h3, h4⟩
  · omega
  · exact .inr ⟨i, hi, by omega, h2, h3, h4⟩
theorem NxIs.no {l : Lin} {k : Nat} {t : Int} (h : NxIs l k t) (hn : 0 ≤ l.nw) (h0 : t < 0) : t = -1 ∧ ∀ j (h : j < l.ats.length), j < k → l.ats[j] ≤ l.nw := by
  rcases h with ⟨rfl, h⟩ | ⟨i, hi, h1, h2, h3, h4⟩
  · exact ⟨rfl, h⟩
  · omega
theorem NxIs.skip {l : Lin} {k : Nat} {t : Int} (h : NxIs l k t) (hn : 0 ≤ l.nw) (h0 : t < 0) (hk : k < l.ats.length) (hl : l.ats[k] ≤ l.nw) : NxIs l (k + 1) t := by
  obtain ⟨rfl, hB⟩ := h.no hn h0
  exact .inl ⟨rfl, fun j h' hj => by by_cases e : j = k; (· subst e; exact hl); exact hB j h' (by omega)⟩
theorem NxIs.set {l : Lin} {k : Nat} {t : Int} (h : NxIs l k t) (hn : 0 ≤ l.nw) (h0 : t < 0) (hk : k < l.ats.length) (hl : l.nw < l.ats[k]) : NxIs l (k + 1) l.ats[k] := by
  obtain ⟨rfl, hB⟩ := h.no hn h0
  exact .inr ⟨k, hk, by omega, rfl, hl, fun j h' hj => hB j h' hj⟩
theorem NxIs.next {l : Lin} {t : Int} (h : NxIs l l.ats.length t) (hn : 0 ≤ l.nw) : (t = -1 ∧ NextIs l 0 false) ∨ (0 ≤ t ∧ NextIs l t true) := by
  rcases h with ⟨rfl, h⟩ | ⟨i, hi, h1, h2, h3, h4⟩
  · exact .inl ⟨rfl, .inr ⟨rfl, rfl, fun j hj => h j hj hj⟩⟩
  · exact .inr ⟨by omega, .inl ⟨i, hi, h2, rfl, h3, h4⟩⟩
theorem nx_same {l : Lin} {t0 t : Int} {b : Bool} (h : NxIs l l.ats.length t0) (h' : NextIs l t b) (hn : 0 ≤ l.nw) : (t0 = -1 ∧ t = 0 ∧ b = false) ∨ (0 ≤ t0 ∧ t0 = t ∧ b = true) := by
  rcases h with ⟨rfl, h⟩ | ⟨i, hi, h1, h2, h3, h4⟩
  · exact .inl ⟨rfl, h'.no (fun j hj => h j hj hj)⟩
  · obtain ⟨e1, e2⟩ := h'.at hi (by omega) h4
    exact .inr ⟨by omega, by omega, e2⟩
theorem nx_ex (l : Lin) (hn : 0 ≤ l.nw) : ∀ k, k ≤ l.ats.length → ∃ t, NxIs l k t
  | 0, _ => ⟨-1, .zero l⟩
  | k + 1, hk => by
    obtain ⟨t, h⟩ := nx_ex l hn k (by omega)
    by_cases h0 : 0 ≤ t
    · exact ⟨t, h.keep h0⟩
    · by_cases h1 : l.nw < l.ats[k]
      · exact ⟨_, h.set hn (by omega) (by omega) h1⟩
      · exact ⟨t, h.skip hn (by omega) (by omega) (by omega)⟩
theorem NxIs.uniq {l : Lin} {k : Nat} {s t : Int} (h : NxIs l k s) (h' : NxIs l k t) (hn : 0 ≤ l.nw) : s = t := by
  rcases h with ⟨rfl, h⟩ | ⟨i, hi, h1, h2, h3, h4⟩ <;> rcases h' with ⟨rfl, h'⟩ | ⟨j, hj, g1, g2, g3, g4⟩
  · rfl
  · have := h j hj g1; omega
  · have := h' i hi h1; omega
  · rcases Nat.lt_trichotomy i j with e | e | e
    · have := g4 i hi e; omega
    · subst e; omega
    · have := h4 j hj e; omega
set_option maxRecDepth 100000 in
set_option maxHeartbeats 1000000 in
theorem forms_f1 {D : Nat → Prop} (l : Lin) (ft : List (Int × Int)) (pt now : Int) {xa xb xc : Option Addr} {xj xk xm : Nat} {fa : Option Addr} {fk : Nat} {w : World} (h1 : Fct.at w D (.ms (.slice xa l.L.length xj) l.L)) (h2 : Fct.at w D (.rw (.slice xb l.ats.length xk) l.ats.length 1 (icl l.ats))) (h3 : Fct.at w D (.rw (.slice xc l.ft.length xm) l.ft.length 2 (fcl l.ft))) (hf : Fct.at w D (.rw (.slice fa ft.length fk) ft.length 2 (fcl ft))) (hF0 : ¬ Few l) :
    Calls Try.prog 10 #[.agg #[.int .i64 l.nw, .slice xa l.L.length xj, .slice xb l.ats.length xk, .slice xc l.ft.length xm], .slice fa ft.length fk, .int .i64 pt, .int .i64 now] w fun e w' => e = .returned (.bool true) ∧ Below w.heap.size w w' := by
  have E0 : Hid (Env D w [] [.rw (.slice fa ft.length fk) ft.length 2 (fcl ft), .rw (.slice xc l.ft.length xm) l.ft.length 2 (fcl l.ft), .rw (.slice xb l.ats.length xk) l.ats.length 1 (icl l.ats), .ms (.slice xa l.L.length xj) l.L] w) := Lib.hid (((((Env.start D w).arg (.ms (.slice xa l.L.length xj) l.L) h1).arg (.rw (.slice xb l.ats.length xk) l.ats.length 1 (icl l.ats)) h2).arg (.rw (.slice xc l.ft.length xm) l.ft.length 2 (fcl l.ft)) h3).arg (.rw (.slice fa ft.length fk) ft.length 2 (fcl ft)) hf)
  clear h1 h2 h3 hf
  go_enter Try.func10, Try.ntmps10
  have hF := Lib.hid hF0
  clear hF0
  go_wp2_with fail
  have E1 : Hid (Env D w [(w.heap.size, 64, [.int .i64 l.nw, .slice xa l.L.length xj, .slice xb l.ats.length xk, .slice xc l.ft.length xm])] [.rw (.slice fa ft.length fk) ft.length 2 (fcl ft), .rw (.slice xc l.ft.length xm) l.ft.length 2 (fcl l.ft), .rw (.slice xb l.ats.length xk) l.ats.length 1 (icl l.ats), .ms (.slice xa l.L.length xj) l.L] _) := Lib.hid ((E0.out.push 64 [.int .i64 l.nw, .slice xa l.L.length xj, .slice xb l.ats.length xk, .slice xc l.ft.length xm] (w.heap.size) (by simp)))
  refine (awake_c (D := (DF D w.heap.size [(w.heap.size, 64, [.int .i64 l.nw, .slice xa l.L.length xj, .slice xb l.ats.length xk, .slice xc l.ft.length xm])]))).mono ?_
  rintro e w1 ⟨rfl, hb⟩
  have E2 : Hid (Env D w [(w.heap.size, 64, [.int .i64 l.nw, .slice xa l.L.length xj, .slice xb l.ats.length xk, .slice xc l.ft.length xm])] [.rw (.slice fa ft.length fk) ft.length 2 (fcl ft), .rw (.slice xc l.ft.length xm) l.ft.length 2 (fcl l.ft), .rw (.slice xb l.ats.length xk) l.ats.length 1 (icl l.ats), .ms (.slice xa l.L.length xj) l.L] w1) := Lib.hid (E1.out.below hb)
  clear E0 E1 hb
  have b1 := E2.out.bx 0 rfl
  have c1_0 := b1.cell 0 rfl
  have c1_1 := b1.cell 1 rfl
  have c1_2 := b1.cell 2 rfl
  have c1_3 := b1.cell 3 rfl
  clear b1
  go_wp2_with fail
  refine (few_c l (t := false) (E2.out.fc 3 rfl) (E2.out.fc 2 rfl) (E2.out.fc 1 rfl) (by simp [hF.out])).mono ?_
  rintro e w2 ⟨rfl, hb⟩
  have E3 : Hid (Env D w [(w.heap.size, 64, [.int .i64 l.nw, .slice xa l.L.length xj, .slice xb l.ats.length xk, .slice xc l.ft.length xm])] [.rw (.slice fa ft.length fk) ft.length 2 (fcl ft), .rw (.slice xc l.ft.length xm) l.ft.length 2 (fcl l.ft), .rw (.slice xb l.ats.length xk) l.ats.length 1 (icl l.ats), .ms (.slice xa l.L.length xj) l.L] w2) := Lib.hid (E2.out.below hb)
  clear c1_0 c1_1 c1_2 c1_3 E2 hb
  go_wp2_with fail
  refine (awake_c (D := (DF D w.heap.size [(w.heap.size, 64, [.int .i64 l.nw, .slice xa l.L.length xj, .slice xb l.ats.length xk, .slice xc l.ft.length xm])]))).mono ?_
  rintro e w3 ⟨rfl, hb⟩
  have E4 : Hid (Env D w [(w.heap.size, 64, [.int .i64 l.nw, .slice xa l.L.length xj, .slice xb l.ats.length xk, .slice xc l.ft.length xm])] [.rw (.slice fa ft.length fk) ft.length 2 (fcl ft), .rw (.slice xc l.ft.length xm) l.ft.length 2 (fcl l.ft), .rw (.slice xb l.ats.length xk) l.ats.length 1 (icl l.ats), .ms (.slice xa l.L.length xj) l.L] w3) := Lib.hid (E3.out.below hb)
  clear E3 hb
  have hfin := Lib.hid E4.out.bel
  go_wp2
  go_ret
  exact ⟨rfl, hfin.out⟩
set_option maxRecDepth 100000 in
set_option maxHeartbeats 1000000 in
theorem forms_f2 {D : Nat → Prop} (l : Lin) (ft : List (Int × Int)) (pt now : Int) {xa xb xc : Option Addr} {xj xk xm : Nat} {fa : Option Addr} {fk : Nat} {w : World} (h1 : Fct.at w D (.ms (.slice xa l.L.length xj) l.L)) (h2 : Fct.at w D (.rw (.slice xb l.ats.length xk) l.ats.length 1 (icl l.ats))) (h3 : Fct.at w D (.rw (.slice xc l.ft.length xm) l.ft.length 2 (fcl l.ft))) (hf : Fct.at w D (.rw (.slice fa ft.length fk) ft.length 2 (fcl ft))) (hF0 : Few l) (hh : 100 < ft.length ∧ ft.length ≤ 1000) :
    Calls Try.prog 10 #[.agg #[.int .i64 l.nw, .slice xa l.L.length xj, .slice xb l.ats.length xk, .slice xc l.ft.length xm], .slice fa ft.length fk, .int .i64 pt, .int .i64 now] w fun e w' => e = .returned (.bool true) ∧ Below w.heap.size w w' := by
  have E0 : Hid (Env D w [] [.rw (.slice fa ft.length fk) ft.length 2 (fcl ft), .rw (.slice xc l.ft.length xm) l.ft.length 2 (fcl l.ft), .rw (.slice xb l.ats.length xk) l.ats.length 1 (icl l.ats), .ms (.slice xa l.L.length xj) l.L] w) := Lib.hid (((((Env.start D w).arg (.ms (.slice xa l.L.length xj) l.L) h1).arg (.rw (.slice xb l.ats.length xk) l.ats.length 1 (icl l.ats)) h2).arg (.rw (.slice xc l.ft.length xm) l.ft.length 2 (fcl l.ft)) h3).arg (.rw (.slice fa ft.length fk) ft.length 2 (fcl ft)) hf)
  clear h1 h2 h3 hf
  go_enter Try.func10, Try.ntmps10
  have hF := Lib.hid hF0
  clear hF0
  have d1 : decide ((100 : Int) < (ft.length : Int)) = true := decide_eq_true (by omega)
  have d2 : decide ((ft.length : Int) ≤ 1000) = true := decide_eq_true (by omega)
  go_wp2_with fail
  have E1 : Hid (Env D w [(w.heap.size, 64, [.int .i64 l.nw, .slice xa l.L.length xj, .slice xb l.ats.length xk, .slice xc l.ft.length xm])] [.rw (.slice fa ft.length fk) ft.length 2 (fcl ft), .rw (.slice xc l.ft.length xm) l.ft.length 2 (fcl l.ft), .rw (.slice xb l.ats.length xk) l.ats.length 1 (icl l.ats), .ms (.slice xa l.L.length xj) l.L] _) := Lib.hid ((E0.out.push 64 [.int .i64 l.nw, .slice xa l.L.length xj, .slice xb l.ats.length xk, .slice xc l.ft.length xm] (w.heap.size) (by simp)))
  refine (awake_c (D := (DF D w.heap.size [(w.heap.size, 64, [.int .i64 l.nw, .slice xa l.L.length xj, .slice xb l.ats.length xk, .slice xc l.ft.length xm])]))).mono ?_
  rintro e w1 ⟨rfl, hb⟩
  have E2 : Hid (Env D w [(w.heap.size, 64, [.int .i64 l.nw, .slice xa l.L.length xj, .slice xb l.ats.length xk, .slice xc l.ft.length xm])] [.rw (.slice fa ft.length fk) ft.length 2 (fcl ft), .rw (.slice xc l.ft.length xm) l.ft.length 2 (fcl l.ft), .rw (.slice xb l.ats.length xk) l.ats.length 1 (icl l.ats), .ms (.slice xa l.L.length xj) l.L] w1) := Lib.hid (E1.out.below hb)
  clear E0 E1 hb
  have b1 := E2.out.bx 0 rfl
  have c1_0 := b1.cell 0 rfl
  have c1_1 := b1.cell 1 rfl
  have c1_2 := b1.cell 2 rfl
  have c1_3 := b1.cell 3 rfl
  clear b1
  go_wp2_with fail
  refine (few_c l (t := true) (E2.out.fc 3 rfl) (E2.out.fc 2 rfl) (E2.out.fc 1 rfl) (by simp [hF.out])).mono ?_
  rintro e w2 ⟨rfl, hb⟩
  have E3 : Hid (Env D w [(w.heap.size, 64, [.int .i64 l.nw, .slice xa l.L.length xj, .slice xb l.ats.length xk, .slice xc l.ft.length xm])] [.rw (.slice fa ft.length fk) ft.length 2 (fcl ft), .rw (.slice xc l.ft.length xm) l.ft.length 2 (fcl l.ft), .rw (.slice xb l.ats.length xk) l.ats.length 1 (icl l.ats), .ms (.slice xa l.L.length xj) l.L] w2) := Lib.hid (E2.out.below hb)
  clear c1_0 c1_1 c1_2 c1_3 E2 hb
  go_wp2_with fail
  refine (awake_c (D := (DF D w.heap.size [(w.heap.size, 64, [.int .i64 l.nw, .slice xa l.L.length xj, .slice xb l.ats.length xk, .slice xc l.ft.length xm])]))).mono ?_
  rintro e w3 ⟨rfl, hb⟩
  have E4 : Hid (Env D w [(w.heap.size, 64, [.int .i64 l.nw, .slice xa l.L.length xj, .slice xb l.ats.length xk, .slice xc l.ft.length xm])] [.rw (.slice fa ft.length fk) ft.length 2 (fcl ft), .rw (.slice xc l.ft.length xm) l.ft.length 2 (fcl l.ft), .rw (.slice xb l.ats.length xk) l.ats.length 1 (icl l.ats), .ms (.slice xa l.L.length xj) l.L] w3) := Lib.hid (E3.out.below hb)
  clear E3 hb
  have hfin := Lib.hid E4.out.bel
  go_wp2
  go_ret
  exact ⟨rfl, hfin.out⟩
set_option maxRecDepth 100000 in
set_option maxHeartbeats 1000000 in
theorem forms_f3 {D : Nat → Prop} (l : Lin) (ft : List (Int × Int)) (pt now : Int) {xa xb xc : Option Addr} {xj xk xm : Nat} {fa : Option Addr} {fk : Nat} {w : World} (h1 : Fct.at w D (.ms (.slice xa l.L.length xj) l.L)) (h2 : Fct.at w D (.rw (.slice xb l.ats.length xk) l.ats.length 1 (icl l.ats))) (h3 : Fct.at w D (.rw (.slice xc l.ft.length xm) l.ft.length 2 (fcl l.ft))) (hf : Fct.at w D (.rw (.slice fa ft.length fk) ft.length 2 (fcl ft))) (hF0 : Few l) (hh : 1100 < ft.length) :
    Calls Try.prog 10 #[.agg #[.int .i64 l.nw, .slice xa l.L.length xj, .slice xb l.ats.length xk, .slice xc l.ft.length xm], .slice fa ft.length fk, .int .i64 pt, .int .i64 now] w fun e w' => e = .returned (.bool true) ∧ Below w.heap.size w w' := by
  have E0 : Hid (Env D w [] [.rw (.slice fa ft.length fk) ft.length 2 (fcl ft), .rw (.slice xc l.ft.length xm) l.ft.length 2 (fcl l.ft), .rw (.slice xb l.ats.length xk) l.ats.length 1 (icl l.ats), .ms (.slice xa l.L.length xj) l.L] w) := Lib.hid (((((Env.start D w).arg (.ms (.slice xa l.L.length xj) l.L) h1).arg (.rw (.slice xb l.ats.length xk) l.ats.length 1 (icl l.ats)) h2).arg (.rw (.slice xc l.ft.length xm) l.ft.length 2 (fcl l.ft)) h3).arg (.rw (.slice fa ft.length fk) ft.length 2 (fcl ft)) hf)
  clear h1 h2 h3 hf
  go_enter Try.func10, Try.ntmps10
  have hF := Lib.hid hF0
  clear hF0
  have d1 : decide ((100 : Int) < (ft.length : Int)) = true := decide_eq_true (by omega)
  have d2 : decide ((ft.length : Int) ≤ 1000) = false := decide_eq_false (by omega)
  have d3 : decide ((1100 : Int) < (ft.length : Int)) = true := decide_eq_true (by omega)
  go_wp2_with fail
  have E1 : Hid (Env D w [(w.heap.size, 64, [.int .i64 l.nw, .slice xa l.L.length xj, .slice xb l.ats.length xk, .slice xc l.ft.length xm])] [.rw (.slice fa ft.length fk) ft.length 2 (fcl ft), .rw (.slice xc l.ft.length xm) l.ft.length 2 (fcl l.ft), .rw (.slice xb l.ats.length xk) l.ats.length 1 (icl l.ats), .ms (.slice xa l.L.length xj) l.L] _) := Lib.hid ((E0.out.push 64 [.int .i64 l.nw, .slice xa l.L.length xj, .slice xb l.ats.length xk, .slice xc l.ft.length xm] (w.heap.size) (by simp)))
  refine (awake_c (D := (DF D w.heap.size [(w.heap.size, 64, [.int .i64 l.nw, .slice xa l.L.length xj, .slice xb l.ats.length xk, .slice xc l.ft.length xm])]))).mono ?_
  rintro e w1 ⟨rfl, hb⟩
  have E2 : Hid (Env D w [(w.heap.size, 64, [.int .i64 l.nw, .slice xa l.L.length xj, .slice xb l.ats.length xk, .slice xc l.ft.length xm])] [.rw (.slice fa ft.length fk) ft.length 2 (fcl ft), .rw (.slice xc l.ft.length xm) l.ft.length 2 (fcl l.ft), .rw (.slice xb l.ats.length xk) l.ats.length 1 (icl l.ats), .ms (.slice xa l.L.length xj) l.L] w1) := Lib.hid (E1.out.below hb)
  clear E0 E1 hb
  have b1 := E2.out.bx 0 rfl
  have c1_0 := b1.cell 0 rfl
  have c1_1 := b1.cell 1 rfl
  have c1_2 := b1.cell 2 rfl
  have c1_3 := b1.cell 3 rfl
  clear b1
  go_wp2_with fail
  refine (few_c l (t := true) (E2.out.fc 3 rfl) (E2.out.fc 2 rfl) (E2.out.fc 1 rfl) (by simp [hF.out])).mono ?_
  rintro e w2 ⟨rfl, hb⟩
  have E3 : Hid (Env D w [(w.heap.size, 64, [.int .i64 l.nw, .slice xa l.L.length xj, .slice xb l.ats.length xk, .slice xc l.ft.length xm])] [.rw (.slice fa ft.length fk) ft.length 2 (fcl ft), .rw (.slice xc l.ft.length xm) l.ft.length 2 (fcl l.ft), .rw (.slice xb l.ats.length xk) l.ats.length 1 (icl l.ats), .ms (.slice xa l.L.length xj) l.L] w2) := Lib.hid (E2.out.below hb)
  clear c1_0 c1_1 c1_2 c1_3 E2 hb
  go_wp2_with fail
  refine (awake_c (D := (DF D w.heap.size [(w.heap.size, 64, [.int .i64 l.nw, .slice xa l.L.length xj, .slice xb l.ats.length xk, .slice xc l.ft.length xm])]))).mono ?_
  rintro e w3 ⟨rfl, hb⟩
  have E4 : Hid (Env D w [(w.heap.size, 64, [.int .i64 l.nw, .slice xa l.L.length xj, .slice xb l.ats.length xk, .slice xc l.ft.length xm])] [.rw (.slice fa ft.length fk) ft.length 2 (fcl ft), .rw (.slice xc l.ft.length xm) l.ft.length 2 (fcl l.ft), .rw (.slice xb l.ats.length xk) l.ats.length 1 (icl l.ats), .ms (.slice xa l.L.length xj) l.L] w3) := Lib.hid (E3.out.below hb)
  clear E3 hb
  have hfin := Lib.hid E4.out.bel
  go_wp2
  go_ret
  exact ⟨rfl, hfin.out⟩
set_option maxRecDepth 100000 in
set_option maxHeartbeats 4000000 in
theorem forms_main {D : Nat → Prop} (l : Lin) (ft : List (Int × Int)) (pt now : Int) {xa xb xc : Option Addr} {xj xk xm : Nat} {fa : Option Addr} {fk : Nat} {w : World} (h1 : Fct.at w D (.ms (.slice xa l.L.length xj) l.L)) (h2 : Fct.at w D (.rw (.slice xb l.ats.length xk) l.ats.length 1 (icl l.ats))) (h3 : Fct.at w D (.rw (.slice xc l.ft.length xm) l.ft.length 2 (fcl l.ft))) (hf : Fct.at w D (.rw (.slice fa ft.length fk) ft.length 2 (fcl ft))) (hF0 : Few l) (hh : (ft.length ≤ 100 ∨ 1000 < ft.length) ∧ ft.length ≤ 1100) :
    Calls Try.prog 10 #[.agg #[.int .i64 l.nw, .slice xa l.L.length xj, .slice xb l.ats.length xk, .slice xc l.ft.length xm], .slice fa ft.length fk, .int .i64 pt, .int .i64 now] w fun e w' => e = .returned (.bool true) ∧ Below w.heap.size w w' := by
  have E0 : Hid (Env D w [] [.rw (.slice fa ft.length fk) ft.length 2 (fcl ft), .rw (.slice xc l.ft.length xm) l.ft.length 2 (fcl l.ft), .rw (.slice xb l.ats.length xk) l.ats.length 1 (icl l.ats), .ms (.slice xa l.L.length xj) l.L] w) := Lib.hid (((((Env.start D w).arg (.ms (.slice xa l.L.length xj) l.L) h1).arg (.rw (.slice xb l.ats.length xk) l.ats.length 1 (icl l.ats)) h2).arg (.rw (.slice xc l.ft.length xm) l.ft.length 2 (fcl l.ft)) h3).arg (.rw (.slice fa ft.length fk) ft.length 2 (fcl ft)) hf)
  clear h1 h2 h3 hf
  go_enter Try.func10, Try.ntmps10
  have hF := Lib.hid hF0
  clear hF0
  obtain ⟨g1, g2⟩ := hh
  obtain ⟨n, c, hn⟩ := new_ex ft
  have HN := Lib.hid hn
  obtain ⟨gl, gc, hg⟩ := go_ex l now
  have HG := Lib.hid hg
  clear hn hg
  obtain ⟨l1, l2, l3⟩ : l.L.length ≤ 60 ∧ l.ats.length ≤ 60 ∧ l.ft.length ≤ 60 := ⟨hF.out.1, hF.out.2.1, hF.out.2.2.1⟩
  have hab : l.ats.length ≤ 1000000 := by omega
  go_upto_region 1 with (fail)
  have E1 : Hid (Env D w [(w.heap.size, 64, [.int .i64 l.nw, .slice xa l.L.length xj, .slice xb l.ats.length xk, .slice xc l.ft.length xm])] [.rw (.slice fa ft.length fk) ft.length 2 (fcl ft), .rw (.slice xc l.ft.length xm) l.ft.length 2 (fcl l.ft), .rw (.slice xb l.ats.length xk) l.ats.length 1 (icl l.ats), .ms (.slice xa l.L.length xj) l.L] _) := Lib.hid ((E0.out.push 64 [.int .i64 l.nw, .slice xa l.L.length xj, .slice xb l.ats.length xk, .slice xc l.ft.length xm] (w.heap.size) (by simp)))
  go_cut [41] (fun s41 wx => s41 = .bool false ∧ Hid (Env D w [(w.heap.size, 64, [.int .i64 l.nw, .slice xa l.L.length xj, .slice xb l.ats.length xk, .slice xc l.ft.length xm])] [.rw (.slice fa ft.length fk) ft.length 2 (fcl ft), .rw (.slice xc l.ft.length xm) l.ft.length 2 (fcl l.ft), .rw (.slice xb l.ats.length xk) l.ats.length 1 (icl l.ats), .ms (.slice xa l.L.length xj) l.L] wx))
  case first =>
    have d3 : decide ((1100 : Int) < (ft.length : Int)) = false := decide_eq_false (by omega)
    rcases g1 with g1 | g1
    · skip
      have d1 : decide ((100 : Int) < (ft.length : Int)) = false := decide_eq_false (by omega)
      clear g1 g2 l1 l2 l3
      go_wp2_with fail
      refine (awake_c (D := (DF D w.heap.size [(w.heap.size, 64, [.int .i64 l.nw, .slice xa l.L.length xj, .slice xb l.ats.length xk, .slice xc l.ft.length xm])]))).mono ?_
      rintro e w1 ⟨rfl, hb⟩
      have E2 : Hid (Env D w [(w.heap.size, 64, [.int .i64 l.nw, .slice xa l.L.length xj, .slice xb l.ats.length xk, .slice xc l.ft.length xm])] [.rw (.slice fa ft.length fk) ft.length 2 (fcl ft), .rw (.slice xc l.ft.length xm) l.ft.length 2 (fcl l.ft), .rw (.slice xb l.ats.length xk) l.ats.length 1 (icl l.ats), .ms (.slice xa l.L.length xj) l.L] w1) := Lib.hid (E1.out.below hb)
      clear E0 E1 hb
      have b1 := E2.out.bx 0 rfl
      have c1_0 := b1.cell 0 rfl
      have c1_1 := b1.cell 1 rfl
      have c1_2 := b1.cell 2 rfl
      have c1_3 := b1.cell 3 rfl
      clear b1
      go_wp2_with fail
      refine (few_c l (t := true) (E2.out.fc 3 rfl) (E2.out.fc 2 rfl) (E2.out.fc 1 rfl) (by simp [hF.out])).mono ?_
      rintro e w2 ⟨rfl, hb⟩
      have E3 : Hid (Env D w [(w.heap.size, 64, [.int .i64 l.nw, .slice xa l.L.length xj, .slice xb l.ats.length xk, .slice xc l.ft.length xm])] [.rw (.slice fa ft.length fk) ft.length 2 (fcl ft), .rw (.slice xc l.ft.length xm) l.ft.length 2 (fcl l.ft), .rw (.slice xb l.ats.length xk) l.ats.length 1 (icl l.ats), .ms (.slice xa l.L.length xj) l.L] w2) := Lib.hid (E2.out.below hb)
      clear c1_0 c1_1 c1_2 c1_3 E2 hb
      go_wp2_with fail
      go_meet
      exact ⟨rfl, Lib.hid E3.out⟩
    · skip
      have d1 : decide ((100 : Int) < (ft.length : Int)) = true := decide_eq_true (by omega)
      have d2 : decide ((ft.length : Int) ≤ 1000) = false := decide_eq_false (by omega)
      clear g1 g2 l1 l2 l3
      go_wp2_with fail
      refine (awake_c (D := (DF D w.heap.size [(w.heap.size, 64, [.int .i64 l.nw, .slice xa l.L.length xj, .slice xb l.ats.length xk, .slice xc l.ft.length xm])]))).mono ?_
      rintro e w1 ⟨rfl, hb⟩
      have E2 : Hid (Env D w [(w.heap.size, 64, [.int .i64 l.nw, .slice xa l.L.length xj, .slice xb l.ats.length xk, .slice xc l.ft.length xm])] [.rw (.slice fa ft.length fk) ft.length 2 (fcl ft), .rw (.slice xc l.ft.length xm) l.ft.length 2 (fcl l.ft), .rw (.slice xb l.ats.length xk) l.ats.length 1 (icl l.ats), .ms (.slice xa l.L.length xj) l.L] w1) := Lib.hid (E1.out.below hb)
      clear E0 E1 hb
      have b1 := E2.out.bx 0 rfl
      have c1_0 := b1.cell 0 rfl
      have c1_1 := b1.cell 1 rfl
      have c1_2 := b1.cell 2 rfl
      have c1_3 := b1.cell 3 rfl
      clear b1
      go_wp2_with fail
      refine (few_c l (t := true) (E2.out.fc 3 rfl) (E2.out.fc 2 rfl) (E2.out.fc 1 rfl) (by simp [hF.out])).mono ?_
      rintro e w2 ⟨rfl, hb⟩
      have E3 : Hid (Env D w [(w.heap.size, 64, [.int .i64 l.nw, .slice xa l.L.length xj, .slice xb l.ats.length xk, .slice xc l.ft.length xm])] [.rw (.slice fa ft.length fk) ft.length 2 (fcl ft), .rw (.slice xc l.ft.length xm) l.ft.length 2 (fcl l.ft), .rw (.slice xb l.ats.length xk) l.ats.length 1 (icl l.ats), .ms (.slice xa l.L.length xj) l.L] w2) := Lib.hid (E2.out.below hb)
      clear c1_0 c1_1 c1_2 c1_3 E2 hb
      go_wp2_with fail
      go_meet
      exact ⟨rfl, Lib.hid E3.out⟩
  case rest =>
    obtain ⟨rfl, EC⟩ := hcut
    clear E1
    go_wp2_with fail
    refine (New_is HN.out (EC.out.fc 0 rfl)).mono ?_
    rintro e w1 ⟨⟨nv, rfl, na, nj, nb, nk, nc, nm, rfl, n1, n2, n3⟩, hb⟩
    have E2 : Hid (Env D w [(w.heap.size, 64, [.int .i64 l.nw, .slice xa l.L.length xj, .slice xb l.ats.length xk, .slice xc l.ft.length xm])] [.rw (.slice nc (n).ft.length nm) (n).ft.length 2 (fcl (n).ft), .rw (.slice nb (n).ats.length nk) (n).ats.length 1 (icl (n).ats), .ms (.slice na (n).L.length nj) (n).L, .rw (.slice fa ft.length fk) ft.length 2 (fcl ft), .rw (.slice xc l.ft.length xm) l.ft.length 2 (fcl l.ft), .rw (.slice xb l.ats.length xk) l.ats.length 1 (icl l.ats), .ms (.slice xa l.L.length xj) l.L] w1) := Lib.hid (EC.out.got (EC.out.got (EC.out.got (EC.out.below hb) (.ms (.slice na (n).L.length nj) (n).L) n1.out) (.rw (.slice nb (n).ats.length nk) (n).ats.length 1 (icl (n).ats)) n2.out) (.rw (.slice nc (n).ft.length nm) (n).ft.length 2 (fcl (n).ft)) n3.out)
    clear EC hb n1 n2 n3
    go_upto_block 0 with (fail)
    have E3 : Hid (Env D w [(w1.heap.size, 64, [.int .i64 (n).nw, .slice na (n).L.length nj, .slice nb (n).ats.length nk, .slice nc (n).ft.length nm]), (w.heap.size, 64, [.int .i64 l.nw, .slice xa l.L.length xj, .slice xb l.ats.length xk, .slice xc l.ft.length xm])] [.rw (.slice nc (n).ft.length nm) (n).ft.length 2 (fcl (n).ft), .rw (.slice nb (n).ats.length nk) (n).ats.length 1 (icl (n).ats), .ms (.slice na (n).L.length nj) (n).L, .rw (.slice fa ft.length fk) ft.length 2 (fcl ft), .rw (.slice xc l.ft.length xm) l.ft.length 2 (fcl l.ft), .rw (.slice xb l.ats.length xk) l.ats.length 1 (icl l.ats), .ms (.slice xa l.L.length xj) l.L] _) := Lib.hid ((E2.out.push 64 [.int .i64 (n).nw, .slice na (n).L.length nj, .slice nb (n).ats.length nk, .slice nc (n).ft.length nm] (w1.heap.size) (by simp)))
    go_cut [] (fun wx => Hid (Env D w [(w1.heap.size, 64, [.int .i64 (n).nw, .slice na (n).L.length nj, .slice nb (n).ats.length nk, .slice nc (n).ft.length nm]), (w.heap.size, 64, [.int .i64 l.nw, .slice xa l.L.length xj, .slice xb l.ats.length xk, .slice xc l.ft.length xm])] [.rw (.slice nc (n).ft.length nm) (n).ft.length 2 (fcl (n).ft), .rw (.slice nb (n).ats.length nk) (n).ats.length 1 (icl (n).ats), .ms (.slice na (n).L.length nj) (n).L, .rw (.slice fa ft.length fk) ft.length 2 (fcl ft), .rw (.slice xc l.ft.length xm) l.ft.length 2 (fcl l.ft), .rw (.slice xb l.ats.length xk) l.ats.length 1 (icl l.ats), .ms (.slice xa l.L.length xj) l.L] wx))
    case first =>
      rcases HN.out with ⟨e1, rfl, rfl⟩ | ⟨e1, e2, rfl, rfl⟩ | ⟨e1, e2, rfl, rfl⟩
      · skip
        have d2 : decide ((1000 : Int) < (ft.length : Int)) = true := decide_eq_true (by omega)
        clear HN e1 g1 g2 l1 l2 l3
        have b1 := E3.out.bx 0 rfl
        have c1_0 := b1.cell 0 rfl
        have c1_1 := b1.cell 1 rfl
        have c1_2 := b1.cell 2 rfl
        have c1_3 := b1.cell 3 rfl
        clear b1
        go_wp2_with fail
        refine (none_c (E3.out.fc 2 rfl) (E3.out.fc 1 rfl) (E3.out.fc 0 rfl)).mono ?_
        rintro e w2 ⟨rfl, hb⟩
        have E4 : Hid (Env D w [(w1.heap.size, 64, [.int .i64 (L0).nw, .slice na (L0).L.length nj, .slice nb (L0).ats.length nk, .slice nc (L0).ft.length nm]), (w.heap.size, 64, [.int .i64 l.nw, .slice xa l.L.length xj, .slice xb l.ats.length xk, .slice xc l.ft.length xm])] [.rw (.slice nc (L0).ft.length nm) (L0).ft.length 2 (fcl (L0).ft), .rw (.slice nb (L0).ats.length nk) (L0).ats.length 1 (icl (L0).ats), .ms (.slice na (L0).L.length nj) (L0).L, .rw (.slice fa ft.length fk) ft.length 2 (fcl ft), .rw (.slice xc l.ft.length xm) l.ft.length 2 (fcl l.ft), .rw (.slice xb l.ats.length xk) l.ats.length 1 (icl l.ats), .ms (.slice xa l.L.length xj) l.L] w2) := Lib.hid (E3.out.below hb)
        clear c1_0 c1_1 c1_2 c1_3 E2 E3 hb
        go_wp2_with fail
        go_meet
        exact Lib.hid E4.out
      · skip
        have d2 : decide ((1000 : Int) < (ft.length : Int)) = false := decide_eq_false (by omega)
        have HX := Lib.hid e2
        have hfl : ft.length ≤ 1000000 := by omega
        clear HN e1 e2 g1 g2 l1 l2 l3
        go_wp2_with fail
        refine (rFates_c ft (t := false) (E3.out.fc 3 rfl) (by simp [HX.out]) hfl).mono ?_
        rintro e w2 ⟨rfl, hb⟩
        have E4 : Hid (Env D w [(w1.heap.size, 64, [.int .i64 (L0).nw, .slice na (L0).L.length nj, .slice nb (L0).ats.length nk, .slice nc (L0).ft.length nm]), (w.heap.size, 64, [.int .i64 l.nw, .slice xa l.L.length xj, .slice xb l.ats.length xk, .slice xc l.ft.length xm])] [.rw (.slice nc (L0).ft.length nm) (L0).ft.length 2 (fcl (L0).ft), .rw (.slice nb (L0).ats.length nk) (L0).ats.length 1 (icl (L0).ats), .ms (.slice na (L0).L.length nj) (L0).L, .rw (.slice fa ft.length fk) ft.length 2 (fcl ft), .rw (.slice xc l.ft.length xm) l.ft.length 2 (fcl l.ft), .rw (.slice xb l.ats.length xk) l.ats.length 1 (icl l.ats), .ms (.slice xa l.L.length xj) l.L] w2) := Lib.hid (E3.out.below hb)
        clear E2 E3 hb
        have b1 := E4.out.bx 0 rfl
        have c1_0 := b1.cell 0 rfl
        have c1_1 := b1.cell 1 rfl
        have c1_2 := b1.cell 2 rfl
        have c1_3 := b1.cell 3 rfl
        clear b1
        go_wp2_with fail
        refine (none_c (E4.out.fc 2 rfl) (E4.out.fc 1 rfl) (E4.out.fc 0 rfl)).mono ?_
        rintro e w3 ⟨rfl, hb⟩
        have E5 : Hid (Env D w [(w1.heap.size, 64, [.int .i64 (L0).nw, .slice na (L0).L.length nj, .slice nb (L0).ats.length nk, .slice nc (L0).ft.length nm]), (w.heap.size, 64, [.int .i64 l.nw, .slice xa l.L.length xj, .slice xb l.ats.length xk, .slice xc l.ft.length xm])] [.rw (.slice nc (L0).ft.length nm) (L0).ft.length 2 (fcl (L0).ft), .rw (.slice nb (L0).ats.length nk) (L0).ats.length 1 (icl (L0).ats), .ms (.slice na (L0).L.length nj) (L0).L, .rw (.slice fa ft.length fk) ft.length 2 (fcl ft), .rw (.slice xc l.ft.length xm) l.ft.length 2 (fcl l.ft), .rw (.slice xb l.ats.length xk) l.ats.length 1 (icl l.ats), .ms (.slice xa l.L.length xj) l.L] w3) := Lib.hid (E4.out.below hb)
        clear c1_0 c1_1 c1_2 c1_3 E4 hb
        go_wp2_with fail
        go_meet
        exact Lib.hid E5.out
      · skip
        have d2 : decide ((1000 : Int) < (ft.length : Int)) = false := decide_eq_false (by omega)
        have HX := Lib.hid e2
        have hfl : ft.length ≤ 1000000 := by omega
        clear HN e1 e2 g1 g2 l1 l2 l3
        go_wp2_with fail
        refine (rFates_c ft (t := true) (E3.out.fc 3 rfl) (by simp [HX.out]) hfl).mono ?_
        rintro e w2 ⟨rfl, hb⟩
        have E4 : Hid (Env D w [(w1.heap.size, 64, [.int .i64 ((NL ft)).nw, .slice na ((NL ft)).L.length nj, .slice nb ((NL ft)).ats.length nk, .slice nc ((NL ft)).ft.length nm]), (w.heap.size, 64, [.int .i64 l.nw, .slice xa l.L.length xj, .slice xb l.ats.length xk, .slice xc l.ft.length xm])] [.rw (.slice nc ((NL ft)).ft.length nm) ((NL ft)).ft.length 2 (fcl ((NL ft)).ft), .rw (.slice nb ((NL ft)).ats.length nk) ((NL ft)).ats.length 1 (icl ((NL ft)).ats), .ms (.slice na ((NL ft)).L.length nj) ((NL ft)).L, .rw (.slice fa ft.length fk) ft.length 2 (fcl ft), .rw (.slice xc l.ft.length xm) l.ft.length 2 (fcl l.ft), .rw (.slice xb l.ats.length xk) l.ats.length 1 (icl l.ats), .ms (.slice xa l.L.length xj) l.L] w2) := Lib.hid (E3.out.below hb)
        clear E2 E3 hb
        have b1 := E4.out.bx 0 rfl
        have c1_0 := b1.cell 0 rfl
        have c1_1 := b1.cell 1 rfl
        have c1_2 := b1.cell 2 rfl
        have c1_3 := b1.cell 3 rfl
        clear b1
        go_wp2_with fail
        refine (rSame_c (NL ft) (E4.out.fc 2 rfl) (E4.out.fc 1 rfl) (E4.out.fc 0 rfl) (ya := none) (yj := 0) (yb := none) (yk := 0) (Ms.nil _ _) (Rw.nil _ _ _) (E4.out.fc 3 rfl) ⟨Nat.zero_le _, Nat.zero_le _, hfl⟩).mono ?_
        rintro e w3 ⟨rfl, hb⟩
        have E5 : Hid (Env D w [(w1.heap.size, 64, [.int .i64 ((NL ft)).nw, .slice na ((NL ft)).L.length nj, .slice nb ((NL ft)).ats.length nk, .slice nc ((NL ft)).ft.length nm]), (w.heap.size, 64, [.int .i64 l.nw, .slice xa l.L.length xj, .slice xb l.ats.length xk, .slice xc l.ft.length xm])] [.rw (.slice nc ((NL ft)).ft.length nm) ((NL ft)).ft.length 2 (fcl ((NL ft)).ft), .rw (.slice nb ((NL ft)).ats.length nk) ((NL ft)).ats.length 1 (icl ((NL ft)).ats), .ms (.slice na ((NL ft)).L.length nj) ((NL ft)).L, .rw (.slice fa ft.length fk) ft.length 2 (fcl ft), .rw (.slice xc l.ft.length xm) l.ft.length 2 (fcl l.ft), .rw (.slice xb l.ats.length xk) l.ats.length 1 (icl l.ats), .ms (.slice xa l.L.length xj) l.L] w3) := Lib.hid (E4.out.below hb)
        clear c1_0 c1_1 c1_2 c1_3 E4 hb
        go_wp2_with fail
        go_meet
        exact Lib.hid E5.out
    case rest =>
      have EC := hcut
      clear hcut
      clear E3 HN g1 g2
      have b1 := EC.out.bx 1 rfl
      have c1_0 := b1.cell 0 rfl
      have c1_1 := b1.cell 1 rfl
      have c1_2 := b1.cell 2 rfl
      have c1_3 := b1.cell 3 rfl
      clear b1
      go_wp2_with fail
      refine (Go_is HG.out (EC.out.fc 6 rfl) (EC.out.fc 5 rfl) (EC.out.fc 4 rfl) hab).mono ?_
      rintro e w2 ⟨⟨yv, rfl, ya, yj, yb, yk, yc, ym, rfl, y1, y2, y3⟩, hb⟩
      have E4 : Hid (Env D w [(w1.heap.size, 64, [.int .i64 (n).nw, .slice na (n).L.length nj, .slice nb (n).ats.length nk, .slice nc (n).ft.length nm]), (w.heap.size, 64, [.int .i64 l.nw, .slice xa l.L.length xj, .slice xb l.ats.length xk, .slice xc l.ft.length xm])] [.rw (.slice yc (gl).ft.length ym) (gl).ft.length 2 (fcl (gl).ft), .rw (.slice yb (gl).ats.length yk) (gl).ats.length 1 (icl (gl).ats), .ms (.slice ya (gl).L.length yj) (gl).L, .rw (.slice nc (n).ft.length nm) (n).ft.length 2 (fcl (n).ft), .rw (.slice nb (n).ats.length nk) (n).ats.length 1 (icl (n).ats), .ms (.slice na (n).L.length nj) (n).L, .rw (.slice fa ft.length fk) ft.length 2 (fcl ft), .rw (.slice xc l.ft.length xm) l.ft.length 2 (fcl l.ft), .rw (.slice xb l.ats.length xk) l.ats.length 1 (icl l.ats), .ms (.slice xa l.L.length xj) l.L] w2) := Lib.hid (EC.out.got (EC.out.got (EC.out.got (EC.out.below hb) (.ms (.slice ya (gl).L.length yj) (gl).L) y1.out) (.rw (.slice yb (gl).ats.length yk) (gl).ats.length 1 (icl (gl).ats)) y2.out) (.rw (.slice yc (gl).ft.length ym) (gl).ft.length 2 (fcl (gl).ft)) y3.out)
      clear c1_0 c1_1 c1_2 c1_3 EC hb y1 y2 y3
      by_cases hv : LinOk l
      rotate_left
      · have HV := Lib.hid hv
        obtain ⟨_, rfl, rfl⟩ := HG.out.resolve_right (fun h => by rcases h with ⟨h, _⟩ | ⟨h, _⟩ | ⟨h, _⟩ <;> exact hv h)
        clear hv HG
        as_aux_lemma =>
          have E5 : Hid (Env D w [(w2.heap.size, 64, [.int .i64 (L0).nw, .slice ya (L0).L.length yj, .slice yb (L0).ats.length yk, .slice yc (L0).ft.length ym]), (w1.heap.size, 64, [.int .i64 (n).nw, .slice na (n).L.length nj, .slice nb (n).ats.length nk, .slice nc (n).ft.length nm]), (w.heap.size, 64, [.int .i64 l.nw, .slice xa l.L.length xj, .slice xb l.ats.length xk, .slice xc l.ft.length xm])] [.rw (.slice yc (L0).ft.length ym) (L0).ft.length 2 (fcl (L0).ft), .rw (.slice yb (L0).ats.length yk) (L0).ats.length 1 (icl (L0).ats), .ms (.slice ya (L0).L.length yj) (L0).L, .rw (.slice nc (n).ft.length nm) (n).ft.length 2 (fcl (n).ft), .rw (.slice nb (n).ats.length nk) (n).ats.length 1 (icl (n).ats), .ms (.slice na (n).L.length nj) (n).L, .rw (.slice fa ft.length fk) ft.length 2 (fcl ft), .rw (.slice xc l.ft.length xm) l.ft.length 2 (fcl l.ft), .rw (.slice xb l.ats.length xk) l.ats.length 1 (icl l.ats), .ms (.slice xa l.L.length xj) l.L] _) := Lib.hid ((E4.out.push 64 [.int .i64 (L0).nw, .slice ya (L0).L.length yj, .slice yb (L0).ats.length yk, .slice yc (L0).ft.length ym] (w2.heap.size) (by simp)))
          have b2 := E5.out.bx 2 rfl
          have c2_0 := b2.cell 0 rfl
          have c2_1 := b2.cell 1 rfl
          have c2_2 := b2.cell 2 rfl
          have c2_3 := b2.cell 3 rfl
          clear b2
          go_wp2_with fail
          refine (Next_no l (E5.out.fc 9 rfl) (E5.out.fc 8 rfl) (E5.out.fc 7 rfl) HV.out hab).mono ?_
          rintro e w3 ⟨rfl, hb⟩
          have E6 : Hid (Env D w [(w2.heap.size, 64, [.int .i64 (L0).nw, .slice ya (L0).L.length yj, .slice yb (L0).ats.length yk, .slice yc (L0).ft.length ym]), (w1.heap.size, 64, [.int .i64 (n).nw, .slice na (n).L.length nj, .slice nb (n).ats.length nk, .slice nc (n).ft.length nm]), (w.heap.size, 64, [.int .i64 l.nw, .slice xa l.L.length xj, .slice xb l.ats.length xk, .slice xc l.ft.length xm])] [.rw (.slice yc (L0).ft.length ym) (L0).ft.length 2 (fcl (L0).ft), .rw (.slice yb (L0).ats.length yk) (L0).ats.length 1 (icl (L0).ats), .ms (.slice ya (L0).L.length yj) (L0).L, .rw (.slice nc (n).ft.length nm) (n).ft.length 2 (fcl (n).ft), .rw (.slice nb (n).ats.length nk) (n).ats.length 1 (icl (n).ats), .ms (.slice na (n).L.length nj) (n).L, .rw (.slice fa ft.length fk) ft.length 2 (fcl ft), .rw (.slice xc l.ft.length xm) l.ft.length 2 (fcl l.ft), .rw (.slice xb l.ats.length xk) l.ats.length 1 (icl l.ats), .ms (.slice xa l.L.length xj) l.L] w3) := Lib.hid (E5.out.below hb)
          clear c2_0 c2_1 c2_2 c2_3 E4 E5 hb
          have b3 := E6.out.bx 2 rfl
          have c3_0 := b3.cell 0 rfl
          have c3_1 := b3.cell 1 rfl
          have c3_2 := b3.cell 2 rfl
          have c3_3 := b3.cell 3 rfl
          clear b3
          go_wp2_with fail
          refine (lrValid_c l (E6.out.fc 9 rfl) (E6.out.fc 8 rfl) (E6.out.fc 7 rfl) (noOf HV.out) hab).mono ?_
          rintro e w4 ⟨rfl, hb⟩
          have E7 : Hid (Env D w [(w2.heap.size, 64, [.int .i64 (L0).nw, .slice ya (L0).L.length yj, .slice yb (L0).ats.length yk, .slice yc (L0).ft.length ym]), (w1.heap.size, 64, [.int .i64 (n).nw, .slice na (n).L.length nj, .slice nb (n).ats.length nk, .slice nc (n).ft.length nm]), (w.heap.size, 64, [.int .i64 l.nw, .slice xa l.L.length xj, .slice xb l.ats.length xk, .slice xc l.ft.length xm])] [.rw (.slice yc (L0).ft.length ym) (L0).ft.length 2 (fcl (L0).ft), .rw (.slice yb (L0).ats.length yk) (L0).ats.length 1 (icl (L0).ats), .ms (.slice ya (L0).L.length yj) (L0).L, .rw (.slice nc (n).ft.length nm) (n).ft.length 2 (fcl (n).ft), .rw (.slice nb (n).ats.length nk) (n).ats.length 1 (icl (n).ats), .ms (.slice na (n).L.length nj) (n).L, .rw (.slice fa ft.length fk) ft.length 2 (fcl ft), .rw (.slice xc l.ft.length xm) l.ft.length 2 (fcl l.ft), .rw (.slice xb l.ats.length xk) l.ats.length 1 (icl l.ats), .ms (.slice xa l.L.length xj) l.L] w4) := Lib.hid (E6.out.below hb)
          clear c3_0 c3_1 c3_2 c3_3 E6 hb
          have b4 := E7.out.bx 2 rfl
          have c4_0 := b4.cell 0 rfl
          have c4_1 := b4.cell 1 rfl
          have c4_2 := b4.cell 2 rfl
          have c4_3 := b4.cell 3 rfl
          clear b4
          go_wp2_with fail
          refine (lValid_c l (E7.out.fc 9 rfl) (E7.out.fc 8 rfl) (E7.out.fc 7 rfl) (noOf HV.out) hab).mono ?_
          rintro e w5 ⟨rfl, hb⟩
          have E8 : Hid (Env D w [(w2.heap.size, 64, [.int .i64 (L0).nw, .slice ya (L0).L.length yj, .slice yb (L0).ats.length yk, .slice yc (L0).ft.length ym]), (w1.heap.size, 64, [.int .i64 (n).nw, .slice na (n).L.length nj, .slice nb (n).ats.length nk, .slice nc (n).ft.length nm]), (w.heap.size, 64, [.int .i64 l.nw, .slice xa l.L.length xj, .slice xb l.ats.length xk, .slice xc l.ft.length xm])] [.rw (.slice yc (L0).ft.length ym) (L0).ft.length 2 (fcl (L0).ft), .rw (.slice yb (L0).ats.length yk) (L0).ats.length 1 (icl (L0).ats), .ms (.slice ya (L0).L.length yj) (L0).L, .rw (.slice nc (n).ft.length nm) (n).ft.length 2 (fcl (n).ft), .rw (.slice nb (n).ats.length nk) (n).ats.length 1 (icl (n).ats), .ms (.slice na (n).L.length nj) (n).L, .rw (.slice fa ft.length fk) ft.length 2 (fcl ft), .rw (.slice xc l.ft.length xm) l.ft.length 2 (fcl l.ft), .rw (.slice xb l.ats.length xk) l.ats.length 1 (icl l.ats), .ms (.slice xa l.L.length xj) l.L] w5) := Lib.hid (E7.out.below hb)
          clear c4_0 c4_1 c4_2 c4_3 E7 hb
          have b5 := E8.out.bx 2 rfl
          have c5_0 := b5.cell 0 rfl
          have c5_1 := b5.cell 1 rfl
          have c5_2 := b5.cell 2 rfl
          have c5_3 := b5.cell 3 rfl
          clear b5
          go_wp2_with fail
          refine (Waiting_no l pt (E8.out.fc 9 rfl) (E8.out.fc 8 rfl) (E8.out.fc 7 rfl) HV.out hab).mono ?_
          rintro e w6 ⟨rfl, hb⟩
          have E9 : Hid (Env D w [(w2.heap.size, 64, [.int .i64 (L0).nw, .slice ya (L0).L.length yj, .slice yb (L0).ats.length yk, .slice yc (L0).ft.length ym]), (w1.heap.size, 64, [.int .i64 (n).nw, .slice na (n).L.length nj, .slice nb (n).ats.length nk, .slice nc (n).ft.length nm]), (w.heap.size, 64, [.int .i64 l.nw, .slice xa l.L.length xj, .slice xb l.ats.length xk, .slice xc l.ft.length xm])] [.rw (.slice yc (L0).ft.length ym) (L0).ft.length 2 (fcl (L0).ft), .rw (.slice yb (L0).ats.length yk) (L0).ats.length 1 (icl (L0).ats), .ms (.slice ya (L0).L.length yj) (L0).L, .rw (.slice nc (n).ft.length nm) (n).ft.length 2 (fcl (n).ft), .rw (.slice nb (n).ats.length nk) (n).ats.length 1 (icl (n).ats), .ms (.slice na (n).L.length nj) (n).L, .rw (.slice fa ft.length fk) ft.length 2 (fcl ft), .rw (.slice xc l.ft.length xm) l.ft.length 2 (fcl l.ft), .rw (.slice xb l.ats.length xk) l.ats.length 1 (icl l.ats), .ms (.slice xa l.L.length xj) l.L] w6) := Lib.hid (E8.out.below hb)
          clear c5_0 c5_1 c5_2 c5_3 E8 hb
          have b6 := E9.out.bx 0 rfl
          have c6_0 := b6.cell 0 rfl
          have c6_1 := b6.cell 1 rfl
          have c6_2 := b6.cell 2 rfl
          have c6_3 := b6.cell 3 rfl
          clear b6
          go_wp2_with fail
          refine (none_c (E9.out.fc 2 rfl) (E9.out.fc 1 rfl) (E9.out.fc 0 rfl)).mono ?_
          rintro e w7 ⟨rfl, hb⟩
          have E10 : Hid (Env D w [(w2.heap.size, 64, [.int .i64 (L0).nw, .slice ya (L0).L.length yj, .slice yb (L0).ats.length yk, .slice yc (L0).ft.length ym]), (w1.heap.size, 64, [.int .i64 (n).nw, .slice na (n).L.length nj, .slice nb (n).ats.length nk, .slice nc (n).ft.length nm]), (w.heap.size, 64, [.int .i64 l.nw, .slice xa l.L.length xj, .slice xb l.ats.length xk, .slice xc l.ft.length xm])] [.rw (.slice yc (L0).ft.length ym) (L0).ft.length 2 (fcl (L0).ft), .rw (.slice yb (L0).ats.length yk) (L0).ats.length 1 (icl (L0).ats), .ms (.slice ya (L0).L.length yj) (L0).L, .rw (.slice nc (n).ft.length nm) (n).ft.length 2 (fcl (n).ft), .rw (.slice nb (n).ats.length nk) (n).ats.length 1 (icl (n).ats), .ms (.slice na (n).L.length nj) (n).L, .rw (.slice fa ft.length fk) ft.length 2 (fcl ft), .rw (.slice xc l.ft.length xm) l.ft.length 2 (fcl l.ft), .rw (.slice xb l.ats.length xk) l.ats.length 1 (icl l.ats), .ms (.slice xa l.L.length xj) l.L] w7) := Lib.hid (E9.out.below hb)
          clear c6_0 c6_1 c6_2 c6_3 E9 hb
          have hfin := Lib.hid E10.out.bel
          go_wp2
          go_ret
          exact ⟨rfl, hfin.out⟩
      have HV := Lib.hid hv
      have H2 := Lib.hid hv.1.2.1
      have HW := Lib.hid (snd_bounds hv).1.1
      obtain ⟨nx0, hx⟩ := nx_ex l HW.out l.ats.length (Nat.le_refl _)
      have HX := Lib.hid hx
      clear hv hx
      obtain ⟨t, b, ht⟩ : ∃ t b, NextIs l t b := by rcases HX.out.next HW.out with ⟨_, h⟩ | ⟨_, h⟩ <;> exact ⟨_, _, h⟩
      have HT := Lib.hid ht
      clear ht
      have E5 : Hid (Env D w [(w2.heap.size, 64, [.int .i64 (gl).nw, .slice ya (gl).L.length yj, .slice yb (gl).ats.length yk, .slice yc (gl).ft.length ym]), (w1.heap.size, 64, [.int .i64 (n).nw, .slice na (n).L.length nj, .slice nb (n).ats.length nk, .slice nc (n).ft.length nm]), (w.heap.size, 64, [.int .i64 l.nw, .slice xa l.L.length xj, .slice xb l.ats.length xk, .slice xc l.ft.length xm])] [.rw (.slice yc (gl).ft.length ym) (gl).ft.length 2 (fcl (gl).ft), .rw (.slice yb (gl).ats.length yk) (gl).ats.length 1 (icl (gl).ats), .ms (.slice ya (gl).L.length yj) (gl).L, .rw (.slice nc (n).ft.length nm) (n).ft.length 2 (fcl (n).ft), .rw (.slice nb (n).ats.length nk) (n).ats.length 1 (icl (n).ats), .ms (.slice na (n).L.length nj) (n).L, .rw (.slice fa ft.length fk) ft.length 2 (fcl ft), .rw (.slice xc l.ft.length xm) l.ft.length 2 (fcl l.ft), .rw (.slice xb l.ats.length xk) l.ats.length 1 (icl l.ats), .ms (.slice xa l.L.length xj) l.L] _) := Lib.hid ((E4.out.push 64 [.int .i64 (gl).nw, .slice ya (gl).L.length yj, .slice yb (gl).ats.length yk, .slice yc (gl).ft.length ym] (w2.heap.size) (by simp)))
      have b2 := E5.out.bx 2 rfl
      have c2_0 := b2.cell 0 rfl
      have c2_1 := b2.cell 1 rfl
      have c2_2 := b2.cell 2 rfl
      have c2_3 := b2.cell 3 rfl
      clear b2
      go_wp2_with fail
      refine (Next_ok l (E5.out.fc 9 rfl) (E5.out.fc 8 rfl) (E5.out.fc 7 rfl) HT.out HV.out).mono ?_
      rintro e w3 ⟨rfl, hb⟩
      have E6 : Hid (Env D w [(w2.heap.size, 64, [.int .i64 (gl).nw, .slice ya (gl).L.length yj, .slice yb (gl).ats.length yk, .slice yc (gl).ft.length ym]), (w1.heap.size, 64, [.int .i64 (n).nw, .slice na (n).L.length nj, .slice nb (n).ats.length nk, .slice nc (n).ft.length nm]), (w.heap.size, 64, [.int .i64 l.nw, .slice xa l.L.length xj, .slice xb l.ats.length xk, .slice xc l.ft.length xm])] [.rw (.slice yc (gl).ft.length ym) (gl).ft.length 2 (fcl (gl).ft), .rw (.slice yb (gl).ats.length yk) (gl).ats.length 1 (icl (gl).ats), .ms (.slice ya (gl).L.length yj) (gl).L, .rw (.slice nc (n).ft.length nm) (n).ft.length 2 (fcl (n).ft), .rw (.slice nb (n).ats.length nk) (n).ats.length 1 (icl (n).ats), .ms (.slice na (n).L.length nj) (n).L, .rw (.slice fa ft.length fk) ft.length 2 (fcl ft), .rw (.slice xc l.ft.length xm) l.ft.length 2 (fcl l.ft), .rw (.slice xb l.ats.length xk) l.ats.length 1 (icl l.ats), .ms (.slice xa l.L.length xj) l.L] w3) := Lib.hid (E5.out.below hb)
      clear c2_0 c2_1 c2_2 c2_3 E4 E5 hb
      have b3 := E6.out.bx 2 rfl
      have c3_0 := b3.cell 0 rfl
      have c3_1 := b3.cell 1 rfl
      have c3_2 := b3.cell 2 rfl
      have c3_3 := b3.cell 3 rfl
      clear b3
      go_wp2_with fail
      refine (lrValid_c l (E6.out.fc 9 rfl) (E6.out.fc 8 rfl) (E6.out.fc 7 rfl) (okOf HV.out) hab).mono ?_
      rintro e w4 ⟨rfl, hb⟩
      have E7 : Hid (Env D w [(w2.heap.size, 64, [.int .i64 (gl).nw, .slice ya (gl).L.length yj, .slice yb (gl).ats.length yk, .slice yc (gl).ft.length ym]), (w1.heap.size, 64, [.int .i64 (n).nw, .slice na (n).L.length nj, .slice nb (n).ats.length nk, .slice nc (n).ft.length nm]), (w.heap.size, 64, [.int .i64 l.nw, .slice xa l.L.length xj, .slice xb l.ats.length xk, .slice xc l.ft.length xm])] [.rw (.slice yc (gl).ft.length ym) (gl).ft.length 2 (fcl (gl).ft), .rw (.slice yb (gl).ats.length yk) (gl).ats.length 1 (icl (gl).ats), .ms (.slice ya (gl).L.length yj) (gl).L, .rw (.slice nc (n).ft.length nm) (n).ft.length 2 (fcl (n).ft), .rw (.slice nb (n).ats.length nk) (n).ats.length 1 (icl (n).ats), .ms (.slice na (n).L.length nj) (n).L, .rw (.slice fa ft.length fk) ft.length 2 (fcl ft), .rw (.slice xc l.ft.length xm) l.ft.length 2 (fcl l.ft), .rw (.slice xb l.ats.length xk) l.ats.length 1 (icl l.ats), .ms (.slice xa l.L.length xj) l.L] w4) := Lib.hid (E6.out.below hb)
      clear c3_0 c3_1 c3_2 c3_3 E6 hb
      have b4 := E7.out.bx 2 rfl
      have c4_1 := b4.cell 1 rfl
      clear b4
      go_wp2_with fail
      go_loopg [15, 16, 121] (l.L.length) (fun gk s15 s16 s121 wr => ∃ (k : Nat) (nx : Int), s15 = .int .i64 (wcnt l pt k : Nat) ∧ s16 = .int .i64 nx ∧ s121 = .int .i64 (k : Int) ∧ Hid (Env D w [(w2.heap.size, 64, [.int .i64 (gl).nw, .slice ya (gl).L.length yj, .slice yb (gl).ats.length yk, .slice yc (gl).ft.length ym]), (w1.heap.size, 64, [.int .i64 (n).nw, .slice na (n).L.length nj, .slice nb (n).ats.length nk, .slice nc (n).ft.length nm]), (w.heap.size, 64, [.int .i64 l.nw, .slice xa l.L.length xj, .slice xb l.ats.length xk, .slice xc l.ft.length xm])] [.rw (.slice yc (gl).ft.length ym) (gl).ft.length 2 (fcl (gl).ft), .rw (.slice yb (gl).ats.length yk) (gl).ats.length 1 (icl (gl).ats), .ms (.slice ya (gl).L.length yj) (gl).L, .rw (.slice nc (n).ft.length nm) (n).ft.length 2 (fcl (n).ft), .rw (.slice nb (n).ats.length nk) (n).ats.length 1 (icl (n).ats), .ms (.slice na (n).L.length nj) (n).L, .rw (.slice fa ft.length fk) ft.length 2 (fcl ft), .rw (.slice xc l.ft.length xm) l.ft.length 2 (fcl l.ft), .rw (.slice xb l.ats.length xk) l.ats.length 1 (icl l.ats), .ms (.slice xa l.L.length xj) l.L] wr) ∧ Hid ((k ≤ l.L.length ∧ gk = l.L.length - k) ∧ NxIs l k nx))
      case atStart => exact ⟨0, -1, rfl, rfl, rfl, Lib.hid E7.out, Lib.hid ⟨⟨Nat.zero_le _, rfl⟩, NxIs.zero l⟩⟩
      case round =>
        clear c4_1 E7
        obtain ⟨k, nx, rfl, rfl, rfl, EL, HA⟩ := hrel
        obtain ⟨⟨a1, a2⟩, a3⟩ := HA.out
        have HS := Lib.hid a3
        clear a3 HA
        have a4 := wcnt_le l pt k
        by_cases hy : k = l.L.length
        rotate_left
        · have hk : k < l.L.length := by omega
          have t6 : decide ((k : Int) < (l.L.length : Int)) = true := decide_eq_true (by omega)
          have t7 : decide (k < l.L.length) = true := decide_eq_true hk
          have hk2 : k < l.ats.length := by have := H2.out; omega
          clear hy
          obtain ⟨xab, xao, rfl⟩ := Ms.addr (EL.out.fc 9 rfl) hk
          obtain ⟨ua, uk, E80⟩ := EL.out.els 9 rfl (k) hk
          have E8 : Hid (Env D w [(w2.heap.size, 64, [.int .i64 (gl).nw, .slice ya (gl).L.length yj, .slice yb (gl).ats.length yk, .slice yc (gl).ft.length ym]), (w1.heap.size, 64, [.int .i64 (n).nw, .slice na (n).L.length nj, .slice nb (n).ats.length nk, .slice nc (n).ft.length nm]), (w.heap.size, 64, [.int .i64 l.nw, .slice (some ⟨xab, xao, none⟩) l.L.length xj, .slice xb l.ats.length xk, .slice xc l.ft.length xm])] [.ce xab (xao + k * 5) (.int .i64 l.L[k].fr), .ce xab (xao + k * 5 + 1) (.int .i64 l.L[k].to_), .ce xab (xao + k * 5 + 2) (.int .i64 l.L[k].kd), .ce xab (xao + k * 5 + 3) (.int .i64 l.L[k].nm), .ce xab (xao + k * 5 + 4) (.slice ua l.L[k].body.length uk), .bs (.slice ua l.L[k].body.length uk) l.L[k].body, .rw (.slice yc (gl).ft.length ym) (gl).ft.length 2 (fcl (gl).ft), .rw (.slice yb (gl).ats.length yk) (gl).ats.length 1 (icl (gl).ats), .ms (.slice ya (gl).L.length yj) (gl).L, .rw (.slice nc (n).ft.length nm) (n).ft.length 2 (fcl (n).ft), .rw (.slice nb (n).ats.length nk) (n).ats.length 1 (icl (n).ats), .ms (.slice na (n).L.length nj) (n).L, .rw (.slice fa ft.length fk) ft.length 2 (fcl ft), .rw (.slice xc l.ft.length xm) l.ft.length 2 (fcl l.ft), .rw (.slice xb l.ats.length xk) l.ats.length 1 (icl l.ats), .ms (.slice (some ⟨xab, xao, none⟩) l.L.length xj) l.L] _) := Lib.hid E80
          clear E80 EL
          have u0 := (E8.out.fc 0 rfl).2
          have u1 := (E8.out.fc 1 rfl).2
          have u2 := (E8.out.fc 2 rfl).2
          have u3 := (E8.out.fc 3 rfl).2
          have u4 := (E8.out.fc 4 rfl).2
          obtain ⟨xbb, xbo, rfl⟩ := Rw.addr (E8.out.fc 14 rfl) (by omega)
          have E9 : Hid (Env D w [(w2.heap.size, 64, [.int .i64 (gl).nw, .slice ya (gl).L.length yj, .slice yb (gl).ats.length yk, .slice yc (gl).ft.length ym]), (w1.heap.size, 64, [.int .i64 (n).nw, .slice na (n).L.length nj, .slice nb (n).ats.length nk, .slice nc (n).ft.length nm]), (w.heap.size, 64, [.int .i64 l.nw, .slice (some ⟨xab, xao, none⟩) l.L.length xj, .slice (some ⟨xbb, xbo, none⟩) l.ats.length xk, .slice xc l.ft.length xm])] [.ce xbb (xbo + k) (.int .i64 l.ats[k]), .ce xab (xao + k * 5) (.int .i64 l.L[k].fr), .ce xab (xao + k * 5 + 1) (.int .i64 l.L[k].to_), .ce xab (xao + k * 5 + 2) (.int .i64 l.L[k].kd), .ce xab (xao + k * 5 + 3) (.int .i64 l.L[k].nm), .ce xab (xao + k * 5 + 4) (.slice ua l.L[k].body.length uk), .bs (.slice ua l.L[k].body.length uk) l.L[k].body, .rw (.slice yc (gl).ft.length ym) (gl).ft.length 2 (fcl (gl).ft), .rw (.slice yb (gl).ats.length yk) (gl).ats.length 1 (icl (gl).ats), .ms (.slice ya (gl).L.length yj) (gl).L, .rw (.slice nc (n).ft.length nm) (n).ft.length 2 (fcl (n).ft), .rw (.slice nb (n).ats.length nk) (n).ats.length 1 (icl (n).ats), .ms (.slice na (n).L.length nj) (n).L, .rw (.slice fa ft.length fk) ft.length 2 (fcl ft), .rw (.slice xc l.ft.length xm) l.ft.length 2 (fcl l.ft), .rw (.slice (some ⟨xbb, xbo, none⟩) l.ats.length xk) l.ats.length 1 (icl l.ats), .ms (.slice (some ⟨xab, xao, none⟩) l.L.length xj) l.L] _) := Lib.hid (E8.out.elI 14 rfl rfl (k) hk2)
          clear E8
          have v0 := (E9.out.fc 0 rfl).2
          have hae := Lib.hid (arrB_eq (pt := pt) hk hk2)
          have z5 := (E9.out.fc 1 rfl).2
          have z6 := (E9.out.fc 2 rfl).2
          have z7 := (E9.out.fc 3 rfl).2
          have z8 := (E9.out.fc 4 rfl).2
          have z9 := (E9.out.fc 5 rfl).2
          by_cases c2 : l.L[k].to_ = pt
          rotate_left
          · have d2 : decide (l.L[k].to_ = pt) = false := decide_eq_false c2
            have d3 : (l.L[k].to_ == pt) = false := by simpa using c2
            have HB : Hid (arrB l pt k = false) := Lib.hid (by rw [hae.out, d2]; simp)
            clear c2
            as_aux_lemma =>
              go_wp2_with fail
              have E10 : Hid (Env D w [(wr.heap.size, 24, [.int .i64 l.L[k].fr, .int .i64 l.L[k].to_, .int .i64 l.L[k].kd, .int .i64 l.L[k].nm, .slice ua l.L[k].body.length uk]), (w2.heap.size, 64, [.int .i64 (gl).nw, .slice ya (gl).L.length yj, .slice yb (gl).ats.length yk, .slice yc (gl).ft.length ym]), (w1.heap.size, 64, [.int .i64 (n).nw, .slice na (n).L.length nj, .slice nb (n).ats.length nk, .slice nc (n).ft.length nm]), (w.heap.size, 64, [.int .i64 l.nw, .slice (some ⟨xab, xao, none⟩) l.L.length xj, .slice (some ⟨xbb, xbo, none⟩) l.ats.length xk, .slice xc l.ft.length xm])] [.ce xbb (xbo + k) (.int .i64 l.ats[k]), .ce xab (xao + k * 5) (.int .i64 l.L[k].fr), .ce xab (xao + k * 5 + 1) (.int .i64 l.L[k].to_), .ce xab (xao + k * 5 + 2) (.int .i64 l.L[k].kd), .ce xab (xao + k * 5 + 3) (.int .i64 l.L[k].nm), .ce xab (xao + k * 5 + 4) (.slice ua l.L[k].body.length uk), .bs (.slice ua l.L[k].body.length uk) l.L[k].body, .rw (.slice yc (gl).ft.length ym) (gl).ft.length 2 (fcl (gl).ft), .rw (.slice yb (gl).ats.length yk) (gl).ats.length 1 (icl (gl).ats), .ms (.slice ya (gl).L.length yj) (gl).L, .rw (.slice nc (n).ft.length nm) (n).ft.length 2 (fcl (n).ft), .rw (.slice nb (n).ats.length nk) (n).ats.length 1 (icl (n).ats), .ms (.slice na (n).L.length nj) (n).L, .rw (.slice fa ft.length fk) ft.length 2 (fcl ft), .rw (.slice xc l.ft.length xm) l.ft.length 2 (fcl l.ft), .rw (.slice (some ⟨xbb, xbo, none⟩) l.ats.length xk) l.ats.length 1 (icl l.ats), .ms (.slice (some ⟨xab, xao, none⟩) l.L.length xj) l.L] _) := Lib.hid ((E9.out.push 24 [.int .i64 l.L[k].fr, .int .i64 l.L[k].to_, .int .i64 l.L[k].kd, .int .i64 l.L[k].nm, .slice ua l.L[k].body.length uk] (wr.heap.size) (by simp)))
              clear u0 u1 u2 u3 u4 v0 z5 z6 z7 z8 z9 E9
              generalize wr.alloc (.cells #[.int .i64 l.L[k].fr, .int .i64 l.L[k].to_, .int .i64 l.L[k].kd, .int .i64 l.L[k].nm, .slice ua l.L[k].body.length uk] 24) = w5 at *
              have E11 : Hid (Env D w [(wr.heap.size, 24, [.int .i64 l.L[k].fr, .int .i64 l.L[k].to_, .int .i64 l.L[k].kd, .int .i64 l.L[k].nm, .slice ua l.L[k].body.length uk]), (w2.heap.size, 64, [.int .i64 (gl).nw, .slice ya (gl).L.length yj, .slice yb (gl).ats.length yk, .slice yc (gl).ft.length ym]), (w1.heap.size, 64, [.int .i64 (n).nw, .slice na (n).L.length nj, .slice nb (n).ats.length nk, .slice nc (n).ft.length nm]), (w.heap.size, 64, [.int .i64 l.nw, .slice (some ⟨xab, xao, none⟩) l.L.length xj, .slice (some ⟨xbb, xbo, none⟩) l.ats.length xk, .slice xc l.ft.length xm])] [.ce xbb (xbo + k) (.int .i64 l.ats[k]), .ce xab (xao + k * 5) (.int .i64 l.L[k].fr), .ce xab (xao + k * 5 + 1) (.int .i64 l.L[k].to_), .ce xab (xao + k * 5 + 2) (.int .i64 l.L[k].kd), .ce xab (xao + k * 5 + 3) (.int .i64 l.L[k].nm), .ce xab (xao + k * 5 + 4) (.slice ua l.L[k].body.length uk), .bs (.slice ua l.L[k].body.length uk) l.L[k].body, .rw (.slice yc (gl).ft.length ym) (gl).ft.length 2 (fcl (gl).ft), .rw (.slice yb (gl).ats.length yk) (gl).ats.length 1 (icl (gl).ats), .ms (.slice ya (gl).L.length yj) (gl).L, .rw (.slice nc (n).ft.length nm) (n).ft.length 2 (fcl (n).ft), .rw (.slice nb (n).ats.length nk) (n).ats.length 1 (icl (n).ats), .ms (.slice na (n).L.length nj) (n).L, .rw (.slice fa ft.length fk) ft.length 2 (fcl ft), .rw (.slice xc l.ft.length xm) l.ft.length 2 (fcl l.ft), .rw (.slice (some ⟨xbb, xbo, none⟩) l.ats.length xk) l.ats.length 1 (icl l.ats), .ms (.slice (some ⟨xab, xao, none⟩) l.L.length xj) l.L] (w5.drew)) := Lib.hid E10.out.drew
              clear E10
              refine wp_regionU (S := fun w' => w'.cell? ⟨wr.heap.size, 1, none⟩ = some (.int .i64 l.L[k].to_) ∧ w'.cell? ⟨xbb, xbo + k, none⟩ = some (.int .i64 l.ats[k])) [] (by kernel_rfl) (⟨((E11.out.bx 0 rfl).cell 1 rfl), (E11.out.fc 0 rfl).2⟩) (fun hHeld => ?_)
              generalize w5.drew = w6 at *
              refine uTake (i := 0) (some 126) (v := ?_) rfl rfl (by kernel_rfl) (by kernel_rfl) (by kernel_rfl) (by kernel_rfl) (fun _ _ _ h => h) (by rfl) (by assumption) ?_ ?_
              rotate_left
              · (intro wS hSw; (try dsimp only at hSw); go_simp; try with_reducible rfl)
              try simp only [Act.put, List.setIfInBounds_toArray, List.set_cons_zero, List.set_cons_succ]
              refine uTake (i := 1) (some 127) (v := ?_) rfl rfl (by kernel_rfl) (by kernel_rfl) (by kernel_rfl) (by kernel_rfl) (fun _ _ _ h => h) (by rfl) (by assumption) ?_ ?_
              rotate_left
              · (intro wS hSw; (try dsimp only at hSw); go_simp; try with_reducible rfl)
              try simp only [Act.put, List.setIfInBounds_toArray, List.set_cons_zero, List.set_cons_succ]
              refine uTake (i := 2) (some 128) (v := ?_) rfl rfl (by kernel_rfl) (by kernel_rfl) (by kernel_rfl) (by kernel_rfl) (fun _ _ _ h => h) (by rfl) (by assumption) ?_ ?_
              rotate_left
              · (intro wS hSw; (try dsimp only at hSw); go_simp; try with_reducible rfl)
              try simp only [Act.put, List.setIfInBounds_toArray, List.set_cons_zero, List.set_cons_succ]
              refine uTake (i := 3) (some 129) (v := ?_) rfl rfl (by kernel_rfl) (by kernel_rfl) (by kernel_rfl) (by kernel_rfl) (fun _ _ _ h => h) (by rfl) (by assumption) ?_ ?_
              rotate_left
              · (intro wS hSw; (try dsimp only at hSw); go_simp; try with_reducible rfl)
              try simp only [Act.put, List.setIfInBounds_toArray, List.set_cons_zero, List.set_cons_succ]
              refine uTake (i := 4) (some 130) (v := ?_) rfl rfl (by kernel_rfl) (by kernel_rfl) (by kernel_rfl) (by kernel_rfl) (fun _ _ _ h => h) (by rfl) (by assumption) ?_ ?_
              rotate_left
              · (intro wS hSw; (try dsimp only at hSw); go_simp; try with_reducible rfl)
              try simp only [Act.put, List.setIfInBounds_toArray, List.set_cons_zero, List.set_cons_succ]
              refine uPass (i := 5) (some 131) rfl rfl (by kernel_rfl) (by kernel_rfl) (by kernel_rfl) (by kernel_rfl) (fun _ _ _ h => h) (by rfl) (by assumption) ?_
              try simp only [Act.put, List.setIfInBounds_toArray, List.set_cons_zero, List.set_cons_succ]
              refine uPass (i := 6) (some 132) rfl rfl (by kernel_rfl) (by kernel_rfl) (by kernel_rfl) (by kernel_rfl) (fun _ _ _ h => h) (by rfl) (by assumption) ?_
              try simp only [Act.put, List.setIfInBounds_toArray, List.set_cons_zero, List.set_cons_succ]
              refine uPass (i := 7) (some 133) rfl rfl (by kernel_rfl) (by kernel_rfl) (by kernel_rfl) (by kernel_rfl) (fun _ _ _ h => h) (by rfl) (by assumption) ?_
              try simp only [Act.put, List.setIfInBounds_toArray, List.set_cons_zero, List.set_cons_succ]
              refine uPass (i := 8) (some 134) rfl rfl (by kernel_rfl) (by kernel_rfl) (by kernel_rfl) (by kernel_rfl) (fun _ _ _ h => h) (by rfl) (by assumption) ?_
              try simp only [Act.put, List.setIfInBounds_toArray, List.set_cons_zero, List.set_cons_succ]
              refine uPass (i := 9) (some 135) rfl rfl (by kernel_rfl) (by kernel_rfl) (by kernel_rfl) (by kernel_rfl) (fun _ _ _ h => h) (by rfl) (by assumption) ?_
              try simp only [Act.put, List.setIfInBounds_toArray, List.set_cons_zero, List.set_cons_succ]
              refine uPass (i := 10) (some 136) rfl rfl (by kernel_rfl) (by kernel_rfl) (by kernel_rfl) (by kernel_rfl) (fun _ _ _ h => h) (by rfl) (by assumption) ?_
              try simp only [Act.put, List.setIfInBounds_toArray, List.set_cons_zero, List.set_cons_succ]
              refine uPass (i := 11) (some 137) rfl rfl (by kernel_rfl) (by kernel_rfl) (by kernel_rfl) (by kernel_rfl) (fun _ _ _ h => h) (by rfl) (by assumption) ?_
              try simp only [Act.put, List.setIfInBounds_toArray, List.set_cons_zero, List.set_cons_succ]
              refine uPass (i := 12) (some 138) rfl rfl (by kernel_rfl) (by kernel_rfl) (by kernel_rfl) (by kernel_rfl) (fun _ _ _ h => h) (by rfl) (by assumption) ?_
              try simp only [Act.put, List.setIfInBounds_toArray, List.set_cons_zero, List.set_cons_succ]
              refine uTake (i := 13) (some 139) (v := ?_) rfl rfl (by kernel_rfl) (by kernel_rfl) (by kernel_rfl) (by kernel_rfl) (fun _ _ _ h => h) (by rfl) (by assumption) ?_ ?_
              rotate_left
              · (intro wS hSw; (try dsimp only at hSw); go_simp; try with_reducible rfl)
              try simp only [Act.put, List.setIfInBounds_toArray, List.set_cons_zero, List.set_cons_succ]
              refine uDone (by kernel_rfl) ?_ _
              have HC : Hid (wcnt l pt (k + 1) = wcnt l pt k) := Lib.hid (by simp only [wcnt, HB.out, Bool.false_eq_true, if_false, Nat.add_zero])
              by_cases c1 : l.ats[k] ≤ l.nw
              · have d5 : decide (l.nw < l.ats[k]) = false := decide_eq_false (by omega)
                have HL := Lib.hid c1
                clear c1
                by_cases c4 : nx < 0
                rotate_left
                · have d4 : decide (nx < 0) = false := decide_eq_false c4
                  have HM := Lib.hid (HS.out.keep (by omega))
                  clear c4
                  go_wp2_with fail
                  have E12 : Hid (Env D w [(wr.heap.size, 24, [.int .i64 l.L[k].fr, .int .i64 l.L[k].to_, .int .i64 l.L[k].kd, .int .i64 l.L[k].nm, .slice ua l.L[k].body.length uk]), (w2.heap.size, 64, [.int .i64 (gl).nw, .slice ya (gl).L.length yj, .slice yb (gl).ats.length yk, .slice yc (gl).ft.length ym]), (w1.heap.size, 64, [.int .i64 (n).nw, .slice na (n).L.length nj, .slice nb (n).ats.length nk, .slice nc (n).ft.length nm]), (w.heap.size, 64, [.int .i64 l.nw, .slice (some ⟨xab, xao, none⟩) l.L.length xj, .slice (some ⟨xbb, xbo, none⟩) l.ats.length xk, .slice xc l.ft.length xm])] [.ce xbb (xbo + k) (.int .i64 l.ats[k]), .ce xab (xao + k * 5) (.int .i64 l.L[k].fr), .ce xab (xao + k * 5 + 1) (.int .i64 l.L[k].to_), .ce xab (xao + k * 5 + 2) (.int .i64 l.L[k].kd), .ce xab (xao + k * 5 + 3) (.int .i64 l.L[k].nm), .ce xab (xao + k * 5 + 4) (.slice ua l.L[k].body.length uk), .bs (.slice ua l.L[k].body.length uk) l.L[k].body, .rw (.slice yc (gl).ft.length ym) (gl).ft.length 2 (fcl (gl).ft), .rw (.slice yb (gl).ats.length yk) (gl).ats.length 1 (icl (gl).ats), .ms (.slice ya (gl).L.length yj) (gl).L, .rw (.slice nc (n).ft.length nm) (n).ft.length 2 (fcl (n).ft), .rw (.slice nb (n).ats.length nk) (n).ats.length 1 (icl (n).ats), .ms (.slice na (n).L.length nj) (n).L, .rw (.slice fa ft.length fk) ft.length 2 (fcl ft), .rw (.slice xc l.ft.length xm) l.ft.length 2 (fcl l.ft), .rw (.slice (some ⟨xbb, xbo, none⟩) l.ats.length xk) l.ats.length 1 (icl l.ats), .ms (.slice (some ⟨xab, xao, none⟩) l.L.length xj) l.L] (w6.drew)) := Lib.hid E11.out.drew
                  clear E11
                  refine wp_regionU (S := fun w' => w'.cell? ⟨xbb, xbo + k, none⟩ = some (.int .i64 l.ats[k])) [] (by kernel_rfl) ((E12.out.fc 0 rfl).2) (fun hHeld => ?_)
                  generalize w6.drew = w7 at *
                  refine uTake (i := 0) (some 142) (v := ?_) rfl rfl (by kernel_rfl) (by kernel_rfl) (by kernel_rfl) (by kernel_rfl) (fun _ _ _ h => h) (by rfl) (by assumption) ?_ ?_
                  rotate_left
                  · (intro wS hSw; (try dsimp only at hSw); go_simp; try with_reducible rfl)
                  try simp only [Act.put, List.setIfInBounds_toArray, List.set_cons_zero, List.set_cons_succ]
                  refine uTake (i := 1) (some 143) (v := ?_) rfl rfl (by kernel_rfl) (by kernel_rfl) (by kernel_rfl) (by kernel_rfl) (fun _ _ _ h => h) (by rfl) (by assumption) ?_ ?_
                  rotate_left
                  · (intro wS hSw; (try dsimp only at hSw); go_simp; try with_reducible rfl)
                  try simp only [Act.put, List.setIfInBounds_toArray, List.set_cons_zero, List.set_cons_succ]
                  refine uTake (i := 2) (some 144) (v := ?_) rfl rfl (by kernel_rfl) (by kernel_rfl) (by kernel_rfl) (by kernel_rfl) (fun _ _ _ h => h) (by rfl) (by assumption) ?_ ?_
                  rotate_left
                  · (intro wS hSw; (try dsimp only at hSw); go_simp; try with_reducible rfl)
                  try simp only [Act.put, List.setIfInBounds_toArray, List.set_cons_zero, List.set_cons_succ]
                  refine uPass (i := 3) (some 145) rfl rfl (by kernel_rfl) (by kernel_rfl) (by kernel_rfl) (by kernel_rfl) (fun _ _ _ h => h) (by rfl) (by assumption) ?_
                  try simp only [Act.put, List.setIfInBounds_toArray, List.set_cons_zero, List.set_cons_succ]
                  refine uPass (i := 4) (some 146) rfl rfl (by kernel_rfl) (by kernel_rfl) (by kernel_rfl) (by kernel_rfl) (fun _ _ _ h => h) (by rfl) (by assumption) ?_
                  try simp only [Act.put, List.setIfInBounds_toArray, List.set_cons_zero, List.set_cons_succ]
                  refine uPass (i := 5) (some 147) rfl rfl (by kernel_rfl) (by kernel_rfl) (by kernel_rfl) (by kernel_rfl) (fun _ _ _ h => h) (by rfl) (by assumption) ?_
                  try simp only [Act.put, List.setIfInBounds_toArray, List.set_cons_zero, List.set_cons_succ]
                  refine uPass (i := 6) (some 148) rfl rfl (by kernel_rfl) (by kernel_rfl) (by kernel_rfl) (by kernel_rfl) (fun _ _ _ h => h) (by rfl) (by assumption) ?_
                  try simp only [Act.put, List.setIfInBounds_toArray, List.set_cons_zero, List.set_cons_succ]
                  refine uPass (i := 7) (some 149) rfl rfl (by kernel_rfl) (by kernel_rfl) (by kernel_rfl) (by kernel_rfl) (fun _ _ _ h => h) (by rfl) (by assumption) ?_
                  try simp only [Act.put, List.setIfInBounds_toArray, List.set_cons_zero, List.set_cons_succ]
                  refine uPass (i := 8) (some 150) rfl rfl (by kernel_rfl) (by kernel_rfl) (by kernel_rfl) (by kernel_rfl) (fun _ _ _ h => h) (by rfl) (by assumption) ?_
                  try simp only [Act.put, List.setIfInBounds_toArray, List.set_cons_zero, List.set_cons_succ]
                  refine uPass (i := 9) (some 151) rfl rfl (by kernel_rfl) (by kernel_rfl) (by kernel_rfl) (by kernel_rfl) (fun _ _ _ h => h) (by rfl) (by assumption) ?_
                  try simp only [Act.put, List.setIfInBounds_toArray, List.set_cons_zero, List.set_cons_succ]
                  refine uPass (i := 10) (some 152) rfl rfl (by kernel_rfl) (by kernel_rfl) (by kernel_rfl) (by kernel_rfl) (fun _ _ _ h => h) (by rfl) (by assumption) ?_
                  try simp only [Act.put, List.setIfInBounds_toArray, List.set_cons_zero, List.set_cons_succ]
                  refine uTake (i := 11) (some 153) (v := ?_) rfl rfl (by kernel_rfl) (by kernel_rfl) (by kernel_rfl) (by kernel_rfl) (fun _ _ _ h => h) (by rfl) (by assumption) ?_ ?_
                  rotate_left
                  · (intro wS hSw; (try dsimp only at hSw); go_simp; try with_reducible rfl)
                  try simp only [Act.put, List.setIfInBounds_toArray, List.set_cons_zero, List.set_cons_succ]
                  refine uDone (by kernel_rfl) ?_ _
                  have EZ := Lib.hid ((((((((E12.out.drop).forget).forget).forget).forget).forget).forget).forget)
                  go_wp2
                  go_roundg (l.L.length - (k + 1))
                  case rel => exact ⟨k + 1, nx, by first | (rw [HC.out]; done) | (rw [HC.out]; rfl), rfl, by rfl, EZ, Lib.hid ⟨⟨by omega, rfl⟩, HM.out⟩⟩
                  case measure => exact by omega
                have d4 : decide (nx < 0) = true := decide_eq_true c4
                have HM := Lib.hid (HS.out.skip HW.out c4 hk2 HL.out)
                clear c4
                go_wp2_with fail
                have E12 : Hid (Env D w [(wr.heap.size, 24, [.int .i64 l.L[k].fr, .int .i64 l.L[k].to_, .int .i64 l.L[k].kd, .int .i64 l.L[k].nm, .slice ua l.L[k].body.length uk]), (w2.heap.size, 64, [.int .i64 (gl).nw, .slice ya (gl).L.length yj, .slice yb (gl).ats.length yk, .slice yc (gl).ft.length ym]), (w1.heap.size, 64, [.int .i64 (n).nw, .slice na (n).L.length nj, .slice nb (n).ats.length nk, .slice nc (n).ft.length nm]), (w.heap.size, 64, [.int .i64 l.nw, .slice (some ⟨xab, xao, none⟩) l.L.length xj, .slice (some ⟨xbb, xbo, none⟩) l.ats.length xk, .slice xc l.ft.length xm])] [.ce xbb (xbo + k) (.int .i64 l.ats[k]), .ce xab (xao + k * 5) (.int .i64 l.L[k].fr), .ce xab (xao + k * 5 + 1) (.int .i64 l.L[k].to_), .ce xab (xao + k * 5 + 2) (.int .i64 l.L[k].kd), .ce xab (xao + k * 5 + 3) (.int .i64 l.L[k].nm), .ce xab (xao + k * 5 + 4) (.slice ua l.L[k].body.length uk), .bs (.slice ua l.L[k].body.length uk) l.L[k].body, .rw (.slice yc (gl).ft.length ym) (gl).ft.length 2 (fcl (gl).ft), .rw (.slice yb (gl).ats.length yk) (gl).ats.length 1 (icl (gl).ats), .ms (.slice ya (gl).L.length yj) (gl).L, .rw (.slice nc (n).ft.length nm) (n).ft.length 2 (fcl (n).ft), .rw (.slice nb (n).ats.length nk) (n).ats.length 1 (icl (n).ats), .ms (.slice na (n).L.length nj) (n).L, .rw (.slice fa ft.length fk) ft.length 2 (fcl ft), .rw (.slice xc l.ft.length xm) l.ft.length 2 (fcl l.ft), .rw (.slice (some ⟨xbb, xbo, none⟩) l.ats.length xk) l.ats.length 1 (icl l.ats), .ms (.slice (some ⟨xab, xao, none⟩) l.L.length xj) l.L] (w6.drew)) := Lib.hid E11.out.drew
                clear E11
                refine wp_regionU (S := fun w' => w'.cell? ⟨w.heap.size, 2, none⟩ = some (.slice (some ⟨xbb, xbo, none⟩) l.ats.length xk) ∧ w'.cell? ⟨w.heap.size, 0, none⟩ = some (.int .i64 l.nw) ∧ w'.cell? ⟨xbb, xbo + k, none⟩ = some (.int .i64 l.ats[k])) [] (by kernel_rfl) (⟨((E12.out.bx 3 rfl).cell 2 rfl), ((E12.out.bx 3 rfl).cell 0 rfl), (E12.out.fc 0 rfl).2⟩) (fun hHeld => ?_)
                generalize w6.drew = w7 at *
                refine uTake (i := 0) (some 142) (v := ?_) rfl rfl (by kernel_rfl) (by kernel_rfl) (by kernel_rfl) (by kernel_rfl) (fun _ _ _ h => h) (by rfl) (by assumption) ?_ ?_
                rotate_left
                · (intro wS hSw; (try dsimp only at hSw); go_simp; try with_reducible rfl)
                try simp only [Act.put, List.setIfInBounds_toArray, List.set_cons_zero, List.set_cons_succ]
                refine uTake (i := 1) (some 143) (v := ?_) rfl rfl (by kernel_rfl) (by kernel_rfl) (by kernel_rfl) (by kernel_rfl) (fun _ _ _ h => h) (by rfl) (by assumption) ?_ ?_
                rotate_left
                · (intro wS hSw; (try dsimp only at hSw); go_simp; try with_reducible rfl)
                try simp only [Act.put, List.setIfInBounds_toArray, List.set_cons_zero, List.set_cons_succ]
                refine uTake (i := 2) (some 144) (v := ?_) rfl rfl (by kernel_rfl) (by kernel_rfl) (by kernel_rfl) (by kernel_rfl) (fun _ _ _ h => h) (by rfl) (by assumption) ?_ ?_
                rotate_left
                · (intro wS hSw; (try dsimp only at hSw); go_simp; try with_reducible rfl)
                try simp only [Act.put, List.setIfInBounds_toArray, List.set_cons_zero, List.set_cons_succ]
                refine uTake (i := 3) (some 145) (v := ?_) rfl rfl (by kernel_rfl) (by kernel_rfl) (by kernel_rfl) (by kernel_rfl) (fun _ _ _ h => h) (by rfl) (by assumption) ?_ ?_
                rotate_left
                · (intro wS hSw; (try dsimp only at hSw); go_simp; try with_reducible rfl)
                try simp only [Act.put, List.setIfInBounds_toArray, List.set_cons_zero, List.set_cons_succ]
                refine uTake (i := 4) (some 146) (v := ?_) rfl rfl (by kernel_rfl) (by kernel_rfl) (by kernel_rfl) (by kernel_rfl) (fun _ _ _ h => h) (by rfl) (by assumption) ?_ ?_
                rotate_left
                · (intro wS hSw; (try dsimp only at hSw); go_simp; try with_reducible rfl)
                try simp only [Act.put, List.setIfInBounds_toArray, List.set_cons_zero, List.set_cons_succ]
                refine uTake (i := 5) (some 147) (v := ?_) rfl rfl (by kernel_rfl) (by kernel_rfl) (by kernel_rfl) (by kernel_rfl) (fun _ _ _ h => h) (by rfl) (by assumption) ?_ ?_
                rotate_left
                · (intro wS hSw; (try dsimp only at hSw); go_simp; try with_reducible rfl)
                try simp only [Act.put, List.setIfInBounds_toArray, List.set_cons_zero, List.set_cons_succ]
                refine uTake (i := 6) (some 148) (v := ?_) rfl rfl (by kernel_rfl) (by kernel_rfl) (by kernel_rfl) (by kernel_rfl) (fun _ _ _ h => h) (by rfl) (by assumption) ?_ ?_
                rotate_left
                · (intro wS hSw; (try dsimp only at hSw); go_simp; try with_reducible rfl)
                try simp only [Act.put, List.setIfInBounds_toArray, List.set_cons_zero, List.set_cons_succ]
                refine uTake (i := 7) (some 149) (v := ?_) rfl rfl (by kernel_rfl) (by kernel_rfl) (by kernel_rfl) (by kernel_rfl) (fun _ _ _ h => h) (by rfl) (by assumption) ?_ ?_
                rotate_left
                · (intro wS hSw; (try dsimp only at hSw); go_simp; try with_reducible rfl)
                try simp only [Act.put, List.setIfInBounds_toArray, List.set_cons_zero, List.set_cons_succ]
                refine uTake (i := 8) (some 150) (v := ?_) rfl rfl (by kernel_rfl) (by kernel_rfl) (by kernel_rfl) (by kernel_rfl) (fun _ _ _ h => h) (by rfl) (by assumption) ?_ ?_
                rotate_left
                · (intro wS hSw; (try dsimp only at hSw); go_simp; try with_reducible rfl)
                try simp only [Act.put, List.setIfInBounds_toArray, List.set_cons_zero, List.set_cons_succ]
                refine uTake (i := 9) (some 151) (v := ?_) rfl rfl (by kernel_rfl) (by kernel_rfl) (by kernel_rfl) (by kernel_rfl) (fun _ _ _ h => h) (by rfl) (by assumption) ?_ ?_
                rotate_left
                · (intro wS hSw; (try dsimp only at hSw); go_simp; try with_reducible rfl)
                try simp only [Act.put, List.setIfInBounds_toArray, List.set_cons_zero, List.set_cons_succ]
                refine uTake (i := 10) (some 152) (v := ?_) rfl rfl (by kernel_rfl) (by kernel_rfl) (by kernel_rfl) (by kernel_rfl) (fun _ _ _ h => h) (by rfl) (by assumption) ?_ ?_
                rotate_left
                · (intro wS hSw; (try dsimp only at hSw); go_simp; try with_reducible rfl)
                try simp only [Act.put, List.setIfInBounds_toArray, List.set_cons_zero, List.set_cons_succ]
                refine uTake (i := 11) (some 153) (v := ?_) rfl rfl (by kernel_rfl) (by kernel_rfl) (by kernel_rfl) (by kernel_rfl) (fun _ _ _ h => h) (by rfl) (by assumption) ?_ ?_
                rotate_left
                · (intro wS hSw; (try dsimp only at hSw); go_simp; try with_reducible rfl)
                try simp only [Act.put, List.setIfInBounds_toArray, List.set_cons_zero, List.set_cons_succ]
                refine uDone (by kernel_rfl) ?_ _
                have EZ := Lib.hid ((((((((E12.out.drop).forget).forget).forget).forget).forget).forget).forget)
                go_wp2
                go_roundg (l.L.length - (k + 1))
                case rel => exact ⟨k + 1, nx, by first | (rw [HC.out]; done) | (rw [HC.out]; rfl), rfl, by rfl, EZ, Lib.hid ⟨⟨by omega, rfl⟩, HM.out⟩⟩
                case measure => exact by omega
              · have d5 : decide (l.nw < l.ats[k]) = true := decide_eq_true (by omega)
                have HL : Hid (l.nw < l.ats[k]) := Lib.hid (by omega)
                clear c1
                by_cases c4 : nx < 0
                rotate_left
                · have d4 : decide (nx < 0) = false := decide_eq_false c4
                  have HM := Lib.hid (HS.out.keep (by omega))
                  clear c4
                  go_wp2_with fail
                  have E12 : Hid (Env D w [(wr.heap.size, 24, [.int .i64 l.L[k].fr, .int .i64 l.L[k].to_, .int .i64 l.L[k].kd, .int .i64 l.L[k].nm, .slice ua l.L[k].body.length uk]), (w2.heap.size, 64, [.int .i64 (gl).nw, .slice ya (gl).L.length yj, .slice yb (gl).ats.length yk, .slice yc (gl).ft.length ym]), (w1.heap.size, 64, [.int .i64 (n).nw, .slice na (n).L.length nj, .slice nb (n).ats.length nk, .slice nc (n).ft.length nm]), (w.heap.size, 64, [.int .i64 l.nw, .slice (some ⟨xab, xao, none⟩) l.L.length xj, .slice (some ⟨xbb, xbo, none⟩) l.ats.length xk, .slice xc l.ft.length xm])] [.ce xbb (xbo + k) (.int .i64 l.ats[k]), .ce xab (xao + k * 5) (.int .i64 l.L[k].fr), .ce xab (xao + k * 5 + 1) (.int .i64 l.L[k].to_), .ce xab (xao + k * 5 + 2) (.int .i64 l.L[k].kd), .ce xab (xao + k * 5 + 3) (.int .i64 l.L[k].nm), .ce xab (xao + k * 5 + 4) (.slice ua l.L[k].body.length uk), .bs (.slice ua l.L[k].body.length uk) l.L[k].body, .rw (.slice yc (gl).ft.length ym) (gl).ft.length 2 (fcl (gl).ft), .rw (.slice yb (gl).ats.length yk) (gl).ats.length 1 (icl (gl).ats), .ms (.slice ya (gl).L.length yj) (gl).L, .rw (.slice nc (n).ft.length nm) (n).ft.length 2 (fcl (n).ft), .rw (.slice nb (n).ats.length nk) (n).ats.length 1 (icl (n).ats), .ms (.slice na (n).L.length nj) (n).L, .rw (.slice fa ft.length fk) ft.length 2 (fcl ft), .rw (.slice xc l.ft.length xm) l.ft.length 2 (fcl l.ft), .rw (.slice (some ⟨xbb, xbo, none⟩) l.ats.length xk) l.ats.length 1 (icl l.ats), .ms (.slice (some ⟨xab, xao, none⟩) l.L.length xj) l.L] (w6.drew)) := Lib.hid E11.out.drew
                  clear E11
                  refine wp_regionU (S := fun w' => w'.cell? ⟨xbb, xbo + k, none⟩ = some (.int .i64 l.ats[k])) [] (by kernel_rfl) ((E12.out.fc 0 rfl).2) (fun hHeld => ?_)
                  generalize w6.drew = w7 at *
                  refine uTake (i := 0) (some 142) (v := ?_) rfl rfl (by kernel_rfl) (by kernel_rfl) (by kernel_rfl) (by kernel_rfl) (fun _ _ _ h => h) (by rfl) (by assumption) ?_ ?_
                  rotate_left
                  · (intro wS hSw; (try dsimp only at hSw); go_simp; try with_reducible rfl)
                  try simp only [Act.put, List.setIfInBounds_toArray, List.set_cons_zero, List.set_cons_succ]
                  refine uTake (i := 1) (some 143) (v := ?_) rfl rfl (by kernel_rfl) (by kernel_rfl) (by kernel_rfl) (by kernel_rfl) (fun _ _ _ h => h) (by rfl) (by assumption) ?_ ?_
                  rotate_left
                  · (intro wS hSw; (try dsimp only at hSw); go_simp; try with_reducible rfl)
                  try simp only [Act.put, List.setIfInBounds_toArray, List.set_cons_zero, List.set_cons_succ]
                  refine uTake (i := 2) (some 144) (v := ?_) rfl rfl (by kernel_rfl) (by kernel_rfl) (by kernel_rfl) (by kernel_rfl) (fun _ _ _ h => h) (by rfl) (by assumption) ?_ ?_
                  rotate_left
                  · (intro wS hSw; (try dsimp only at hSw); go_simp; try with_reducible rfl)
                  try simp only [Act.put, List.setIfInBounds_toArray, List.set_cons_zero, List.set_cons_succ]
                  refine uPass (i := 3) (some 145) rfl rfl (by kernel_rfl) (by kernel_rfl) (by kernel_rfl) (by kernel_rfl) (fun _ _ _ h => h) (by rfl) (by assumption) ?_
                  try simp only [Act.put, List.setIfInBounds_toArray, List.set_cons_zero, List.set_cons_succ]
                  refine uPass (i := 4) (some 146) rfl rfl (by kernel_rfl) (by kernel_rfl) (by kernel_rfl) (by kernel_rfl) (fun _ _ _ h => h) (by rfl) (by assumption) ?_
                  try simp only [Act.put, List.setIfInBounds_toArray, List.set_cons_zero, List.set_cons_succ]
                  refine uPass (i := 5) (some 147) rfl rfl (by kernel_rfl) (by kernel_rfl) (by kernel_rfl) (by kernel_rfl) (fun _ _ _ h => h) (by rfl) (by assumption) ?_
                  try simp only [Act.put, List.setIfInBounds_toArray, List.set_cons_zero, List.set_cons_succ]
                  refine uPass (i := 6) (some 148) rfl rfl (by kernel_rfl) (by kernel_rfl) (by kernel_rfl) (by kernel_rfl) (fun _ _ _ h => h) (by rfl) (by assumption) ?_
                  try simp only [Act.put, List.setIfInBounds_toArray, List.set_cons_zero, List.set_cons_succ]
                  refine uPass (i := 7) (some 149) rfl rfl (by kernel_rfl) (by kernel_rfl) (by kernel_rfl) (by kernel_rfl) (fun _ _ _ h => h) (by rfl) (by assumption) ?_
                  try simp only [Act.put, List.setIfInBounds_toArray, List.set_cons_zero, List.set_cons_succ]
                  refine uPass (i := 8) (some 150) rfl rfl (by kernel_rfl) (by kernel_rfl) (by kernel_rfl) (by kernel_rfl) (fun _ _ _ h => h) (by rfl) (by assumption) ?_
                  try simp only [Act.put, List.setIfInBounds_toArray, List.set_cons_zero, List.set_cons_succ]
                  refine uPass (i := 9) (some 151) rfl rfl (by kernel_rfl) (by kernel_rfl) (by kernel_rfl) (by kernel_rfl) (fun _ _ _ h => h) (by rfl) (by assumption) ?_
                  try simp only [Act.put, List.setIfInBounds_toArray, List.set_cons_zero, List.set_cons_succ]
                  refine uPass (i := 10) (some 152) rfl rfl (by kernel_rfl) (by kernel_rfl) (by kernel_rfl) (by kernel_rfl) (fun _ _ _ h => h) (by rfl) (by assumption) ?_
                  try simp only [Act.put, List.setIfInBounds_toArray, List.set_cons_zero, List.set_cons_succ]
                  refine uTake (i := 11) (some 153) (v := ?_) rfl rfl (by kernel_rfl) (by kernel_rfl) (by kernel_rfl) (by kernel_rfl) (fun _ _ _ h => h) (by rfl) (by assumption) ?_ ?_
                  rotate_left
                  · (intro wS hSw; (try dsimp only at hSw); go_simp; try with_reducible rfl)
                  try simp only [Act.put, List.setIfInBounds_toArray, List.set_cons_zero, List.set_cons_succ]
                  refine uDone (by kernel_rfl) ?_ _
                  have EZ := Lib.hid ((((((((E12.out.drop).forget).forget).forget).forget).forget).forget).forget)
                  go_wp2
                  go_roundg (l.L.length - (k + 1))
                  case rel => exact ⟨k + 1, nx, by first | (rw [HC.out]; done) | (rw [HC.out]; rfl), rfl, by rfl, EZ, Lib.hid ⟨⟨by omega, rfl⟩, HM.out⟩⟩
                  case measure => exact by omega
                have d4 : decide (nx < 0) = true := decide_eq_true c4
                have HM := Lib.hid (HS.out.set HW.out c4 hk2 HL.out)
                clear c4
                go_wp2_with fail
                have E12 : Hid (Env D w [(wr.heap.size, 24, [.int .i64 l.L[k].fr, .int .i64 l.L[k].to_, .int .i64 l.L[k].kd, .int .i64 l.L[k].nm, .slice ua l.L[k].body.length uk]), (w2.heap.size, 64, [.int .i64 (gl).nw, .slice ya (gl).L.length yj, .slice yb (gl).ats.length yk, .slice yc (gl).ft.length ym]), (w1.heap.size, 64, [.int .i64 (n).nw, .slice na (n).L.length nj, .slice nb (n).ats.length nk, .slice nc (n).ft.length nm]), (w.heap.size, 64, [.int .i64 l.nw, .slice (some ⟨xab, xao, none⟩) l.L.length xj, .slice (some ⟨xbb, xbo, none⟩) l.ats.length xk, .slice xc l.ft.length xm])] [.ce xbb (xbo + k) (.int .i64 l.ats[k]), .ce xab (xao + k * 5) (.int .i64 l.L[k].fr), .ce xab (xao + k * 5 + 1) (.int .i64 l.L[k].to_), .ce xab (xao + k * 5 + 2) (.int .i64 l.L[k].kd), .ce xab (xao + k * 5 + 3) (.int .i64 l.L[k].nm), .ce xab (xao + k * 5 + 4) (.slice ua l.L[k].body.length uk), .bs (.slice ua l.L[k].body.length uk) l.L[k].body, .rw (.slice yc (gl).ft.length ym) (gl).ft.length 2 (fcl (gl).ft), .rw (.slice yb (gl).ats.length yk) (gl).ats.length 1 (icl (gl).ats), .ms (.slice ya (gl).L.length yj) (gl).L, .rw (.slice nc (n).ft.length nm) (n).ft.length 2 (fcl (n).ft), .rw (.slice nb (n).ats.length nk) (n).ats.length 1 (icl (n).ats), .ms (.slice na (n).L.length nj) (n).L, .rw (.slice fa ft.length fk) ft.length 2 (fcl ft), .rw (.slice xc l.ft.length xm) l.ft.length 2 (fcl l.ft), .rw (.slice (some ⟨xbb, xbo, none⟩) l.ats.length xk) l.ats.length 1 (icl l.ats), .ms (.slice (some ⟨xab, xao, none⟩) l.L.length xj) l.L] (w6.drew)) := Lib.hid E11.out.drew
                clear E11
                refine wp_regionU (S := fun w' => w'.cell? ⟨w.heap.size, 2, none⟩ = some (.slice (some ⟨xbb, xbo, none⟩) l.ats.length xk) ∧ w'.cell? ⟨w.heap.size, 0, none⟩ = some (.int .i64 l.nw) ∧ w'.cell? ⟨xbb, xbo + k, none⟩ = some (.int .i64 l.ats[k])) [] (by kernel_rfl) (⟨((E12.out.bx 3 rfl).cell 2 rfl), ((E12.out.bx 3 rfl).cell 0 rfl), (E12.out.fc 0 rfl).2⟩) (fun hHeld => ?_)
                generalize w6.drew = w7 at *
                refine uTake (i := 0) (some 142) (v := ?_) rfl rfl (by kernel_rfl) (by kernel_rfl) (by kernel_rfl) (by kernel_rfl) (fun _ _ _ h => h) (by rfl) (by assumption) ?_ ?_
                rotate_left
                · (intro wS hSw; (try dsimp only at hSw); go_simp; try with_reducible rfl)
                try simp only [Act.put, List.setIfInBounds_toArray, List.set_cons_zero, List.set_cons_succ]
                refine uTake (i := 1) (some 143) (v := ?_) rfl rfl (by kernel_rfl) (by kernel_rfl) (by kernel_rfl) (by kernel_rfl) (fun _ _ _ h => h) (by rfl) (by assumption) ?_ ?_
                rotate_left
                · (intro wS hSw; (try dsimp only at hSw); go_simp; try with_reducible rfl)
                try simp only [Act.put, List.setIfInBounds_toArray, List.set_cons_zero, List.set_cons_succ]
                refine uTake (i := 2) (some 144) (v := ?_) rfl rfl (by kernel_rfl) (by kernel_rfl) (by kernel_rfl) (by kernel_rfl) (fun _ _ _ h => h) (by rfl) (by assumption) ?_ ?_
                rotate_left
                · (intro wS hSw; (try dsimp only at hSw); go_simp; try with_reducible rfl)
                try simp only [Act.put, List.setIfInBounds_toArray, List.set_cons_zero, List.set_cons_succ]
                refine uTake (i := 3) (some 145) (v := ?_) rfl rfl (by kernel_rfl) (by kernel_rfl) (by kernel_rfl) (by kernel_rfl) (fun _ _ _ h => h) (by rfl) (by assumption) ?_ ?_
                rotate_left
                · (intro wS hSw; (try dsimp only at hSw); go_simp; try with_reducible rfl)
                try simp only [Act.put, List.setIfInBounds_toArray, List.set_cons_zero, List.set_cons_succ]
                refine uTake (i := 4) (some 146) (v := ?_) rfl rfl (by kernel_rfl) (by kernel_rfl) (by kernel_rfl) (by kernel_rfl) (fun _ _ _ h => h) (by rfl) (by assumption) ?_ ?_
                rotate_left
                · (intro wS hSw; (try dsimp only at hSw); go_simp; try with_reducible rfl)
                try simp only [Act.put, List.setIfInBounds_toArray, List.set_cons_zero, List.set_cons_succ]
                refine uTake (i := 5) (some 147) (v := ?_) rfl rfl (by kernel_rfl) (by kernel_rfl) (by kernel_rfl) (by kernel_rfl) (fun _ _ _ h => h) (by rfl) (by assumption) ?_ ?_
                rotate_left
                · (intro wS hSw; (try dsimp only at hSw); go_simp; try with_reducible rfl)
                try simp only [Act.put, List.setIfInBounds_toArray, List.set_cons_zero, List.set_cons_succ]
                refine uTake (i := 6) (some 148) (v := ?_) rfl rfl (by kernel_rfl) (by kernel_rfl) (by kernel_rfl) (by kernel_rfl) (fun _ _ _ h => h) (by rfl) (by assumption) ?_ ?_
                rotate_left
                · (intro wS hSw; (try dsimp only at hSw); go_simp; try with_reducible rfl)
                try simp only [Act.put, List.setIfInBounds_toArray, List.set_cons_zero, List.set_cons_succ]
                refine uTake (i := 7) (some 149) (v := ?_) rfl rfl (by kernel_rfl) (by kernel_rfl) (by kernel_rfl) (by kernel_rfl) (fun _ _ _ h => h) (by rfl) (by assumption) ?_ ?_
                rotate_left
                · (intro wS hSw; (try dsimp only at hSw); go_simp; try with_reducible rfl)
                try simp only [Act.put, List.setIfInBounds_toArray, List.set_cons_zero, List.set_cons_succ]
                refine uTake (i := 8) (some 150) (v := ?_) rfl rfl (by kernel_rfl) (by kernel_rfl) (by kernel_rfl) (by kernel_rfl) (fun _ _ _ h => h) (by rfl) (by assumption) ?_ ?_
                rotate_left
                · (intro wS hSw; (try dsimp only at hSw); go_simp; try with_reducible rfl)
                try simp only [Act.put, List.setIfInBounds_toArray, List.set_cons_zero, List.set_cons_succ]
                refine uTake (i := 9) (some 151) (v := ?_) rfl rfl (by kernel_rfl) (by kernel_rfl) (by kernel_rfl) (by kernel_rfl) (fun _ _ _ h => h) (by rfl) (by assumption) ?_ ?_
                rotate_left
                · (intro wS hSw; (try dsimp only at hSw); go_simp; try with_reducible rfl)
                try simp only [Act.put, List.setIfInBounds_toArray, List.set_cons_zero, List.set_cons_succ]
                refine uTake (i := 10) (some 152) (v := ?_) rfl rfl (by kernel_rfl) (by kernel_rfl) (by kernel_rfl) (by kernel_rfl) (fun _ _ _ h => h) (by rfl) (by assumption) ?_ ?_
                rotate_left
                · (intro wS hSw; (try dsimp only at hSw); go_simp; try with_reducible rfl)
                try simp only [Act.put, List.setIfInBounds_toArray, List.set_cons_zero, List.set_cons_succ]
                refine uTake (i := 11) (some 153) (v := ?_) rfl rfl (by kernel_rfl) (by kernel_rfl) (by kernel_rfl) (by kernel_rfl) (fun _ _ _ h => h) (by rfl) (by assumption) ?_ ?_
                rotate_left
                · (intro wS hSw; (try dsimp only at hSw); go_simp; try with_reducible rfl)
                try simp only [Act.put, List.setIfInBounds_toArray, List.set_cons_zero, List.set_cons_succ]
                refine uDone (by kernel_rfl) ?_ _
                have b10 := E12.out.bx 3 rfl
                have c10_2 := b10.cell 2 rfl
                clear b10
                have z11 := (E12.out.fc 0 rfl).2
                have EZ := Lib.hid ((((((((E12.out.drop).forget).forget).forget).forget).forget).forget).forget)
                go_wp2
                go_roundg (l.L.length - (k + 1))
                case rel => exact ⟨k + 1, l.ats[k], by first | (rw [HC.out]; done) | (rw [HC.out]; rfl), rfl, by rfl, EZ, Lib.hid ⟨⟨by omega, rfl⟩, HM.out⟩⟩
                case measure => exact by omega
          have d2 : decide (l.L[k].to_ = pt) = true := decide_eq_true c2
          have d3 : (l.L[k].to_ == pt) = true := by simpa using c2
          by_cases c1 : l.ats[k] ≤ l.nw
          rotate_left
          · have d1 : decide (l.ats[k] ≤ l.nw) = false := decide_eq_false c1
            have HB : Hid (arrB l pt k = false) := Lib.hid (by rw [hae.out, d1]; rfl)
            have d5 : decide (l.nw < l.ats[k]) = true := decide_eq_true (by omega)
            have HL : Hid (l.nw < l.ats[k]) := Lib.hid (by omega)
            clear c1 c2
            as_aux_lemma =>
              go_wp2_with fail
              have E10 : Hid (Env D w [(wr.heap.size, 24, [.int .i64 l.L[k].fr, .int .i64 l.L[k].to_, .int .i64 l.L[k].kd, .int .i64 l.L[k].nm, .slice ua l.L[k].body.length uk]), (w2.heap.size, 64, [.int .i64 (gl).nw, .slice ya (gl).L.length yj, .slice yb (gl).ats.length yk, .slice yc (gl).ft.length ym]), (w1.heap.size, 64, [.int .i64 (n).nw, .slice na (n).L.length nj, .slice nb (n).ats.length nk, .slice nc (n).ft.length nm]), (w.heap.size, 64, [.int .i64 l.nw, .slice (some ⟨xab, xao, none⟩) l.L.length xj, .slice (some ⟨xbb, xbo, none⟩) l.ats.length xk, .slice xc l.ft.length xm])] [.ce xbb (xbo + k) (.int .i64 l.ats[k]), .ce xab (xao + k * 5) (.int .i64 l.L[k].fr), .ce xab (xao + k * 5 + 1) (.int .i64 l.L[k].to_), .ce xab (xao + k * 5 + 2) (.int .i64 l.L[k].kd), .ce xab (xao + k * 5 + 3) (.int .i64 l.L[k].nm), .ce xab (xao + k * 5 + 4) (.slice ua l.L[k].body.length uk), .bs (.slice ua l.L[k].body.length uk) l.L[k].body, .rw (.slice yc (gl).ft.length ym) (gl).ft.length 2 (fcl (gl).ft), .rw (.slice yb (gl).ats.length yk) (gl).ats.length 1 (icl (gl).ats), .ms (.slice ya (gl).L.length yj) (gl).L, .rw (.slice nc (n).ft.length nm) (n).ft.length 2 (fcl (n).ft), .rw (.slice nb (n).ats.length nk) (n).ats.length 1 (icl (n).ats), .ms (.slice na (n).L.length nj) (n).L, .rw (.slice fa ft.length fk) ft.length 2 (fcl ft), .rw (.slice xc l.ft.length xm) l.ft.length 2 (fcl l.ft), .rw (.slice (some ⟨xbb, xbo, none⟩) l.ats.length xk) l.ats.length 1 (icl l.ats), .ms (.slice (some ⟨xab, xao, none⟩) l.L.length xj) l.L] _) := Lib.hid ((E9.out.push 24 [.int .i64 l.L[k].fr, .int .i64 l.L[k].to_, .int .i64 l.L[k].kd, .int .i64 l.L[k].nm, .slice ua l.L[k].body.length uk] (wr.heap.size) (by simp)))
              clear u0 u1 u2 u3 u4 v0 z5 z6 z7 z8 z9 E9
              generalize wr.alloc (.cells #[.int .i64 l.L[k].fr, .int .i64 l.L[k].to_, .int .i64 l.L[k].kd, .int .i64 l.L[k].nm, .slice ua l.L[k].body.length uk] 24) = w5 at *
              have E11 : Hid (Env D w [(wr.heap.size, 24, [.int .i64 l.L[k].fr, .int .i64 l.L[k].to_, .int .i64 l.L[k].kd, .int .i64 l.L[k].nm, .slice ua l.L[k].body.length uk]), (w2.heap.size, 64, [.int .i64 (gl).nw, .slice ya (gl).L.length yj, .slice yb (gl).ats.length yk, .slice yc (gl).ft.length ym]), (w1.heap.size, 64, [.int .i64 (n).nw, .slice na (n).L.length nj, .slice nb (n).ats.length nk, .slice nc (n).ft.length nm]), (w.heap.size, 64, [.int .i64 l.nw, .slice (some ⟨xab, xao, none⟩) l.L.length xj, .slice (some ⟨xbb, xbo, none⟩) l.ats.length xk, .slice xc l.ft.length xm])] [.ce xbb (xbo + k) (.int .i64 l.ats[k]), .ce xab (xao + k * 5) (.int .i64 l.L[k].fr), .ce xab (xao + k * 5 + 1) (.int .i64 l.L[k].to_), .ce xab (xao + k * 5 + 2) (.int .i64 l.L[k].kd), .ce xab (xao + k * 5 + 3) (.int .i64 l.L[k].nm), .ce xab (xao + k * 5 + 4) (.slice ua l.L[k].body.length uk), .bs (.slice ua l.L[k].body.length uk) l.L[k].body, .rw (.slice yc (gl).ft.length ym) (gl).ft.length 2 (fcl (gl).ft), .rw (.slice yb (gl).ats.length yk) (gl).ats.length 1 (icl (gl).ats), .ms (.slice ya (gl).L.length yj) (gl).L, .rw (.slice nc (n).ft.length nm) (n).ft.length 2 (fcl (n).ft), .rw (.slice nb (n).ats.length nk) (n).ats.length 1 (icl (n).ats), .ms (.slice na (n).L.length nj) (n).L, .rw (.slice fa ft.length fk) ft.length 2 (fcl ft), .rw (.slice xc l.ft.length xm) l.ft.length 2 (fcl l.ft), .rw (.slice (some ⟨xbb, xbo, none⟩) l.ats.length xk) l.ats.length 1 (icl l.ats), .ms (.slice (some ⟨xab, xao, none⟩) l.L.length xj) l.L] (w5.drew)) := Lib.hid E10.out.drew
              clear E10
              refine wp_regionU (S := fun w' => w'.cell? ⟨wr.heap.size, 1, none⟩ = some (.int .i64 l.L[k].to_) ∧ w'.cell? ⟨w.heap.size, 2, none⟩ = some (.slice (some ⟨xbb, xbo, none⟩) l.ats.length xk) ∧ w'.cell? ⟨w.heap.size, 0, none⟩ = some (.int .i64 l.nw) ∧ w'.cell? ⟨xbb, xbo + k, none⟩ = some (.int .i64 l.ats[k])) [] (by kernel_rfl) (⟨((E11.out.bx 0 rfl).cell 1 rfl), ((E11.out.bx 3 rfl).cell 2 rfl), ((E11.out.bx 3 rfl).cell 0 rfl), (E11.out.fc 0 rfl).2⟩) (fun hHeld => ?_)
              generalize w5.drew = w6 at *
              refine uTake (i := 0) (some 126) (v := ?_) rfl rfl (by kernel_rfl) (by kernel_rfl) (by kernel_rfl) (by kernel_rfl) (fun _ _ _ h => h) (by rfl) (by assumption) ?_ ?_
              rotate_left
              · (intro wS hSw; (try dsimp only at hSw); go_simp; try with_reducible rfl)
              try simp only [Act.put, List.setIfInBounds_toArray, List.set_cons_zero, List.set_cons_succ]
              refine uTake (i := 1) (some 127) (v := ?_) rfl rfl (by kernel_rfl) (by kernel_rfl) (by kernel_rfl) (by kernel_rfl) (fun _ _ _ h => h) (by rfl) (by assumption) ?_ ?_
              rotate_left
              · (intro wS hSw; (try dsimp only at hSw); go_simp; try with_reducible rfl)
              try simp only [Act.put, List.setIfInBounds_toArray, List.set_cons_zero, List.set_cons_succ]
              refine uTake (i := 2) (some 128) (v := ?_) rfl rfl (by kernel_rfl) (by kernel_rfl) (by kernel_rfl) (by kernel_rfl) (fun _ _ _ h => h) (by rfl) (by assumption) ?_ ?_
              rotate_left
              · (intro wS hSw; (try dsimp only at hSw); go_simp; try with_reducible rfl)
              try simp only [Act.put, List.setIfInBounds_toArray, List.set_cons_zero, List.set_cons_succ]
              refine uTake (i := 3) (some 129) (v := ?_) rfl rfl (by kernel_rfl) (by kernel_rfl) (by kernel_rfl) (by kernel_rfl) (fun _ _ _ h => h) (by rfl) (by assumption) ?_ ?_
              rotate_left
              · (intro wS hSw; (try dsimp only at hSw); go_simp; try with_reducible rfl)
              try simp only [Act.put, List.setIfInBounds_toArray, List.set_cons_zero, List.set_cons_succ]
              refine uTake (i := 4) (some 130) (v := ?_) rfl rfl (by kernel_rfl) (by kernel_rfl) (by kernel_rfl) (by kernel_rfl) (fun _ _ _ h => h) (by rfl) (by assumption) ?_ ?_
              rotate_left
              · (intro wS hSw; (try dsimp only at hSw); go_simp; try with_reducible rfl)
              try simp only [Act.put, List.setIfInBounds_toArray, List.set_cons_zero, List.set_cons_succ]
              refine uTake (i := 5) (some 131) (v := ?_) rfl rfl (by kernel_rfl) (by kernel_rfl) (by kernel_rfl) (by kernel_rfl) (fun _ _ _ h => h) (by rfl) (by assumption) ?_ ?_
              rotate_left
              · (intro wS hSw; (try dsimp only at hSw); go_simp; try with_reducible rfl)
              try simp only [Act.put, List.setIfInBounds_toArray, List.set_cons_zero, List.set_cons_succ]
              refine uTake (i := 6) (some 132) (v := ?_) rfl rfl (by kernel_rfl) (by kernel_rfl) (by kernel_rfl) (by kernel_rfl) (fun _ _ _ h => h) (by rfl) (by assumption) ?_ ?_
              rotate_left
              · (intro wS hSw; (try dsimp only at hSw); go_simp; try with_reducible rfl)
              try simp only [Act.put, List.setIfInBounds_toArray, List.set_cons_zero, List.set_cons_succ]
              refine uTake (i := 7) (some 133) (v := ?_) rfl rfl (by kernel_rfl) (by kernel_rfl) (by kernel_rfl) (by kernel_rfl) (fun _ _ _ h => h) (by rfl) (by assumption) ?_ ?_
              rotate_left
              · (intro wS hSw; (try dsimp only at hSw); go_simp; try with_reducible rfl)
              try simp only [Act.put, List.setIfInBounds_toArray, List.set_cons_zero, List.set_cons_succ]
              refine uTake (i := 8) (some 134) (v := ?_) rfl rfl (by kernel_rfl) (by kernel_rfl) (by kernel_rfl) (by kernel_rfl) (fun _ _ _ h => h) (by rfl) (by assumption) ?_ ?_
              rotate_left
              · (intro wS hSw; (try dsimp only at hSw); go_simp; try with_reducible rfl)
              try simp only [Act.put, List.setIfInBounds_toArray, List.set_cons_zero, List.set_cons_succ]
              refine uTake (i := 9) (some 135) (v := ?_) rfl rfl (by kernel_rfl) (by kernel_rfl) (by kernel_rfl) (by kernel_rfl) (fun _ _ _ h => h) (by rfl) (by assumption) ?_ ?_
              rotate_left
              · (intro wS hSw; (try dsimp only at hSw); go_simp; try with_reducible rfl)
              try simp only [Act.put, List.setIfInBounds_toArray, List.set_cons_zero, List.set_cons_succ]
              refine uTake (i := 10) (some 136) (v := ?_) rfl rfl (by kernel_rfl) (by kernel_rfl) (by kernel_rfl) (by kernel_rfl) (fun _ _ _ h => h) (by rfl) (by assumption) ?_ ?_
              rotate_left
              · (intro wS hSw; (try dsimp only at hSw); go_simp; try with_reducible rfl)
              try simp only [Act.put, List.setIfInBounds_toArray, List.set_cons_zero, List.set_cons_succ]
              refine uTake (i := 11) (some 137) (v := ?_) rfl rfl (by kernel_rfl) (by kernel_rfl) (by kernel_rfl) (by kernel_rfl) (fun _ _ _ h => h) (by rfl) (by assumption) ?_ ?_
              rotate_left
              · (intro wS hSw; (try dsimp only at hSw); go_simp; try with_reducible rfl)
              try simp only [Act.put, List.setIfInBounds_toArray, List.set_cons_zero, List.set_cons_succ]
              refine uTake (i := 12) (some 138) (v := ?_) rfl rfl (by kernel_rfl) (by kernel_rfl) (by kernel_rfl) (by kernel_rfl) (fun _ _ _ h => h) (by rfl) (by assumption) ?_ ?_
              rotate_left
              · (intro wS hSw; (try dsimp only at hSw); go_simp; try with_reducible rfl)
              try simp only [Act.put, List.setIfInBounds_toArray, List.set_cons_zero, List.set_cons_succ]
              refine uTake (i := 13) (some 139) (v := ?_) rfl rfl (by kernel_rfl) (by kernel_rfl) (by kernel_rfl) (by kernel_rfl) (fun _ _ _ h => h) (by rfl) (by assumption) ?_ ?_
              rotate_left
              · (intro wS hSw; (try dsimp only at hSw); go_simp; try with_reducible rfl)
              try simp only [Act.put, List.setIfInBounds_toArray, List.set_cons_zero, List.set_cons_succ]
              refine uDone (by kernel_rfl) ?_ _
              have HC : Hid (wcnt l pt (k + 1) = wcnt l pt k) := Lib.hid (by simp only [wcnt, HB.out, Bool.false_eq_true, if_false, Nat.add_zero])
              by_cases c4 : nx < 0
              rotate_left
              · have d4 : decide (nx < 0) = false := decide_eq_false c4
                have HM := Lib.hid (HS.out.keep (by omega))
                clear c4
                go_wp2_with fail
                have E12 : Hid (Env D w [(wr.heap.size, 24, [.int .i64 l.L[k].fr, .int .i64 l.L[k].to_, .int .i64 l.L[k].kd, .int .i64 l.L[k].nm, .slice ua l.L[k].body.length uk]), (w2.heap.size, 64, [.int .i64 (gl).nw, .slice ya (gl).L.length yj, .slice yb (gl).ats.length yk, .slice yc (gl).ft.length ym]), (w1.heap.size, 64, [.int .i64 (n).nw, .slice na (n).L.length nj, .slice nb (n).ats.length nk, .slice nc (n).ft.length nm]), (w.heap.size, 64, [.int .i64 l.nw, .slice (some ⟨xab, xao, none⟩) l.L.length xj, .slice (some ⟨xbb, xbo, none⟩) l.ats.length xk, .slice xc l.ft.length xm])] [.ce xbb (xbo + k) (.int .i64 l.ats[k]), .ce xab (xao + k * 5) (.int .i64 l.L[k].fr), .ce xab (xao + k * 5 + 1) (.int .i64 l.L[k].to_), .ce xab (xao + k * 5 + 2) (.int .i64 l.L[k].kd), .ce xab (xao + k * 5 + 3) (.int .i64 l.L[k].nm), .ce xab (xao + k * 5 + 4) (.slice ua l.L[k].body.length uk), .bs (.slice ua l.L[k].body.length uk) l.L[k].body, .rw (.slice yc (gl).ft.length ym) (gl).ft.length 2 (fcl (gl).ft), .rw (.slice yb (gl).ats.length yk) (gl).ats.length 1 (icl (gl).ats), .ms (.slice ya (gl).L.length yj) (gl).L, .rw (.slice nc (n).ft.length nm) (n).ft.length 2 (fcl (n).ft), .rw (.slice nb (n).ats.length nk) (n).ats.length 1 (icl (n).ats), .ms (.slice na (n).L.length nj) (n).L, .rw (.slice fa ft.length fk) ft.length 2 (fcl ft), .rw (.slice xc l.ft.length xm) l.ft.length 2 (fcl l.ft), .rw (.slice (some ⟨xbb, xbo, none⟩) l.ats.length xk) l.ats.length 1 (icl l.ats), .ms (.slice (some ⟨xab, xao, none⟩) l.L.length xj) l.L] (w6.drew)) := Lib.hid E11.out.drew
                clear E11
                refine wp_regionU (S := fun w' => w'.cell? ⟨xbb, xbo + k, none⟩ = some (.int .i64 l.ats[k])) [] (by kernel_rfl) ((E12.out.fc 0 rfl).2) (fun hHeld => ?_)
                generalize w6.drew = w7 at *
                refine uTake (i := 0) (some 142) (v := ?_) rfl rfl (by kernel_rfl) (by kernel_rfl) (by kernel_rfl) (by kernel_rfl) (fun _ _ _ h => h) (by rfl) (by assumption) ?_ ?_
                rotate_left
                · (intro wS hSw; (try dsimp only at hSw); go_simp; try with_reducible rfl)
                try simp only [Act.put, List.setIfInBounds_toArray, List.set_cons_zero, List.set_cons_succ]
                refine uTake (i := 1) (some 143) (v := ?_) rfl rfl (by kernel_rfl) (by kernel_rfl) (by kernel_rfl) (by kernel_rfl) (fun _ _ _ h => h) (by rfl) (by assumption) ?_ ?_
                rotate_left
                · (intro wS hSw; (try dsimp only at hSw); go_simp; try with_reducible rfl)
                try simp only [Act.put, List.setIfInBounds_toArray, List.set_cons_zero, List.set_cons_succ]
                refine uTake (i := 2) (some 144) (v := ?_) rfl rfl (by kernel_rfl) (by kernel_rfl) (by kernel_rfl) (by kernel_rfl) (fun _ _ _ h => h) (by rfl) (by assumption) ?_ ?_
                rotate_left
                · (intro wS hSw; (try dsimp only at hSw); go_simp; try with_reducible rfl)
                try simp only [Act.put, List.setIfInBounds_toArray, List.set_cons_zero, List.set_cons_succ]
                refine uPass (i := 3) (some 145) rfl rfl (by kernel_rfl) (by kernel_rfl) (by kernel_rfl) (by kernel_rfl) (fun _ _ _ h => h) (by rfl) (by assumption) ?_
                try simp only [Act.put, List.setIfInBounds_toArray, List.set_cons_zero, List.set_cons_succ]
                refine uPass (i := 4) (some 146) rfl rfl (by kernel_rfl) (by kernel_rfl) (by kernel_rfl) (by kernel_rfl) (fun _ _ _ h => h) (by rfl) (by assumption) ?_
                try simp only [Act.put, List.setIfInBounds_toArray, List.set_cons_zero, List.set_cons_succ]
                refine uPass (i := 5) (some 147) rfl rfl (by kernel_rfl) (by kernel_rfl) (by kernel_rfl) (by kernel_rfl) (fun _ _ _ h => h) (by rfl) (by assumption) ?_
                try simp only [Act.put, List.setIfInBounds_toArray, List.set_cons_zero, List.set_cons_succ]
                refine uPass (i := 6) (some 148) rfl rfl (by kernel_rfl) (by kernel_rfl) (by kernel_rfl) (by kernel_rfl) (fun _ _ _ h => h) (by rfl) (by assumption) ?_
                try simp only [Act.put, List.setIfInBounds_toArray, List.set_cons_zero, List.set_cons_succ]
                refine uPass (i := 7) (some 149) rfl rfl (by kernel_rfl) (by kernel_rfl) (by kernel_rfl) (by kernel_rfl) (fun _ _ _ h => h) (by rfl) (by assumption) ?_
                try simp only [Act.put, List.setIfInBounds_toArray, List.set_cons_zero, List.set_cons_succ]
                refine uPass (i := 8) (some 150) rfl rfl (by kernel_rfl) (by kernel_rfl) (by kernel_rfl) (by kernel_rfl) (fun _ _ _ h => h) (by rfl) (by assumption) ?_
                try simp only [Act.put, List.setIfInBounds_toArray, List.set_cons_zero, List.set_cons_succ]
                refine uPass (i := 9) (some 151) rfl rfl (by kernel_rfl) (by kernel_rfl) (by kernel_rfl) (by kernel_rfl) (fun _ _ _ h => h) (by rfl) (by assumption) ?_
                try simp only [Act.put, List.setIfInBounds_toArray, List.set_cons_zero, List.set_cons_succ]
                refine uPass (i := 10) (some 152) rfl rfl (by kernel_rfl) (by kernel_rfl) (by kernel_rfl) (by kernel_rfl) (fun _ _ _ h => h) (by rfl) (by assumption) ?_
                try simp only [Act.put, List.setIfInBounds_toArray, List.set_cons_zero, List.set_cons_succ]
                refine uTake (i := 11) (some 153) (v := ?_) rfl rfl (by kernel_rfl) (by kernel_rfl) (by kernel_rfl) (by kernel_rfl) (fun _ _ _ h => h) (by rfl) (by assumption) ?_ ?_
                rotate_left
                · (intro wS hSw; (try dsimp only at hSw); go_simp; try with_reducible rfl)
                try simp only [Act.put, List.setIfInBounds_toArray, List.set_cons_zero, List.set_cons_succ]
                refine uDone (by kernel_rfl) ?_ _
                have EZ := Lib.hid ((((((((E12.out.drop).forget).forget).forget).forget).forget).forget).forget)
                go_wp2
                go_roundg (l.L.length - (k + 1))
                case rel => exact ⟨k + 1, nx, by first | (rw [HC.out]; done) | (rw [HC.out]; rfl), rfl, by rfl, EZ, Lib.hid ⟨⟨by omega, rfl⟩, HM.out⟩⟩
                case measure => exact by omega
              have d4 : decide (nx < 0) = true := decide_eq_true c4
              have HM := Lib.hid (HS.out.set HW.out c4 hk2 HL.out)
              clear c4
              go_wp2_with fail
              have E12 : Hid (Env D w [(wr.heap.size, 24, [.int .i64 l.L[k].fr, .int .i64 l.L[k].to_, .int .i64 l.L[k].kd, .int .i64 l.L[k].nm, .slice ua l.L[k].body.length uk]), (w2.heap.size, 64, [.int .i64 (gl).nw, .slice ya (gl).L.length yj, .slice yb (gl).ats.length yk, .slice yc (gl).ft.length ym]), (w1.heap.size, 64, [.int .i64 (n).nw, .slice na (n).L.length nj, .slice nb (n).ats.length nk, .slice nc (n).ft.length nm]), (w.heap.size, 64, [.int .i64 l.nw, .slice (some ⟨xab, xao, none⟩) l.L.length xj, .slice (some ⟨xbb, xbo, none⟩) l.ats.length xk, .slice xc l.ft.length xm])] [.ce xbb (xbo + k) (.int .i64 l.ats[k]), .ce xab (xao + k * 5) (.int .i64 l.L[k].fr), .ce xab (xao + k * 5 + 1) (.int .i64 l.L[k].to_), .ce xab (xao + k * 5 + 2) (.int .i64 l.L[k].kd), .ce xab (xao + k * 5 + 3) (.int .i64 l.L[k].nm), .ce xab (xao + k * 5 + 4) (.slice ua l.L[k].body.length uk), .bs (.slice ua l.L[k].body.length uk) l.L[k].body, .rw (.slice yc (gl).ft.length ym) (gl).ft.length 2 (fcl (gl).ft), .rw (.slice yb (gl).ats.length yk) (gl).ats.length 1 (icl (gl).ats), .ms (.slice ya (gl).L.length yj) (gl).L, .rw (.slice nc (n).ft.length nm) (n).ft.length 2 (fcl (n).ft), .rw (.slice nb (n).ats.length nk) (n).ats.length 1 (icl (n).ats), .ms (.slice na (n).L.length nj) (n).L, .rw (.slice fa ft.length fk) ft.length 2 (fcl ft), .rw (.slice xc l.ft.length xm) l.ft.length 2 (fcl l.ft), .rw (.slice (some ⟨xbb, xbo, none⟩) l.ats.length xk) l.ats.length 1 (icl l.ats), .ms (.slice (some ⟨xab, xao, none⟩) l.L.length xj) l.L] (w6.drew)) := Lib.hid E11.out.drew
              clear E11
              refine wp_regionU (S := fun w' => w'.cell? ⟨w.heap.size, 2, none⟩ = some (.slice (some ⟨xbb, xbo, none⟩) l.ats.length xk) ∧ w'.cell? ⟨w.heap.size, 0, none⟩ = some (.int .i64 l.nw) ∧ w'.cell? ⟨xbb, xbo + k, none⟩ = some (.int .i64 l.ats[k])) [] (by kernel_rfl) (⟨((E12.out.bx 3 rfl).cell 2 rfl), ((E12.out.bx 3 rfl).cell 0 rfl), (E12.out.fc 0 rfl).2⟩) (fun hHeld => ?_)
              generalize w6.drew = w7 at *
              refine uTake (i := 0) (some 142) (v := ?_) rfl rfl (by kernel_rfl) (by kernel_rfl) (by kernel_rfl) (by kernel_rfl) (fun _ _ _ h => h) (by rfl) (by assumption) ?_ ?_
              rotate_left
              · (intro wS hSw; (try dsimp only at hSw); go_simp; try with_reducible rfl)
              try simp only [Act.put, List.setIfInBounds_toArray, List.set_cons_zero, List.set_cons_succ]
              refine uTake (i := 1) (some 143) (v := ?_) rfl rfl (by kernel_rfl) (by kernel_rfl) (by kernel_rfl) (by kernel_rfl) (fun _ _ _ h => h) (by rfl) (by assumption) ?_ ?_
              rotate_left
              · (intro wS hSw; (try dsimp only at hSw); go_simp; try with_reducible rfl)
              try simp only [Act.put, List.setIfInBounds_toArray, List.set_cons_zero, List.set_cons_succ]
              refine uTake (i := 2) (some 144) (v := ?_) rfl rfl (by kernel_rfl) (by kernel_rfl) (by kernel_rfl) (by kernel_rfl) (fun _ _ _ h => h) (by rfl) (by assumption) ?_ ?_
              rotate_left
              · (intro wS hSw; (try dsimp only at hSw); go_simp; try with_reducible rfl)
              try simp only [Act.put, List.setIfInBounds_toArray, List.set_cons_zero, List.set_cons_succ]
              refine uTake (i := 3) (some 145) (v := ?_) rfl rfl (by kernel_rfl) (by kernel_rfl) (by kernel_rfl) (by kernel_rfl) (fun _ _ _ h => h) (by rfl) (by assumption) ?_ ?_
              rotate_left
              · (intro wS hSw; (try dsimp only at hSw); go_simp; try with_reducible rfl)
              try simp only [Act.put, List.setIfInBounds_toArray, List.set_cons_zero, List.set_cons_succ]
              refine uTake (i := 4) (some 146) (v := ?_) rfl rfl (by kernel_rfl) (by kernel_rfl) (by kernel_rfl) (by kernel_rfl) (fun _ _ _ h => h) (by rfl) (by assumption) ?_ ?_
              rotate_left
              · (intro wS hSw; (try dsimp only at hSw); go_simp; try with_reducible rfl)
              try simp only [Act.put, List.setIfInBounds_toArray, List.set_cons_zero, List.set_cons_succ]
              refine uTake (i := 5) (some 147) (v := ?_) rfl rfl (by kernel_rfl) (by kernel_rfl) (by kernel_rfl) (by kernel_rfl) (fun _ _ _ h => h) (by rfl) (by assumption) ?_ ?_
              rotate_left
              · (intro wS hSw; (try dsimp only at hSw); go_simp; try with_reducible rfl)
              try simp only [Act.put, List.setIfInBounds_toArray, List.set_cons_zero, List.set_cons_succ]
              refine uTake (i := 6) (some 148) (v := ?_) rfl rfl (by kernel_rfl) (by kernel_rfl) (by kernel_rfl) (by kernel_rfl) (fun _ _ _ h => h) (by rfl) (by assumption) ?_ ?_
              rotate_left
              · (intro wS hSw; (try dsimp only at hSw); go_simp; try with_reducible rfl)
              try simp only [Act.put, List.setIfInBounds_toArray, List.set_cons_zero, List.set_cons_succ]
              refine uTake (i := 7) (some 149) (v := ?_) rfl rfl (by kernel_rfl) (by kernel_rfl) (by kernel_rfl) (by kernel_rfl) (fun _ _ _ h => h) (by rfl) (by assumption) ?_ ?_
              rotate_left
              · (intro wS hSw; (try dsimp only at hSw); go_simp; try with_reducible rfl)
              try simp only [Act.put, List.setIfInBounds_toArray, List.set_cons_zero, List.set_cons_succ]
              refine uTake (i := 8) (some 150) (v := ?_) rfl rfl (by kernel_rfl) (by kernel_rfl) (by kernel_rfl) (by kernel_rfl) (fun _ _ _ h => h) (by rfl) (by assumption) ?_ ?_
              rotate_left
              · (intro wS hSw; (try dsimp only at hSw); go_simp; try with_reducible rfl)
              try simp only [Act.put, List.setIfInBounds_toArray, List.set_cons_zero, List.set_cons_succ]
              refine uTake (i := 9) (some 151) (v := ?_) rfl rfl (by kernel_rfl) (by kernel_rfl) (by kernel_rfl) (by kernel_rfl) (fun _ _ _ h => h) (by rfl) (by assumption) ?_ ?_
              rotate_left
              · (intro wS hSw; (try dsimp only at hSw); go_simp; try with_reducible rfl)
              try simp only [Act.put, List.setIfInBounds_toArray, List.set_cons_zero, List.set_cons_succ]
              refine uTake (i := 10) (some 152) (v := ?_) rfl rfl (by kernel_rfl) (by kernel_rfl) (by kernel_rfl) (by kernel_rfl) (fun _ _ _ h => h) (by rfl) (by assumption) ?_ ?_
              rotate_left
              · (intro wS hSw; (try dsimp only at hSw); go_simp; try with_reducible rfl)
              try simp only [Act.put, List.setIfInBounds_toArray, List.set_cons_zero, List.set_cons_succ]
              refine uTake (i := 11) (some 153) (v := ?_) rfl rfl (by kernel_rfl) (by kernel_rfl) (by kernel_rfl) (by kernel_rfl) (fun _ _ _ h => h) (by rfl) (by assumption) ?_ ?_
              rotate_left
              · (intro wS hSw; (try dsimp only at hSw); go_simp; try with_reducible rfl)
              try simp only [Act.put, List.setIfInBounds_toArray, List.set_cons_zero, List.set_cons_succ]
              refine uDone (by kernel_rfl) ?_ _
              have b10 := E12.out.bx 3 rfl
              have c10_2 := b10.cell 2 rfl
              clear b10
              have z11 := (E12.out.fc 0 rfl).2
              have EZ := Lib.hid ((((((((E12.out.drop).forget).forget).forget).forget).forget).forget).forget)
              go_wp2
              go_roundg (l.L.length - (k + 1))
              case rel => exact ⟨k + 1, l.ats[k], by first | (rw [HC.out]; done) | (rw [HC.out]; rfl), rfl, by rfl, EZ, Lib.hid ⟨⟨by omega, rfl⟩, HM.out⟩⟩
              case measure => exact by omega
          have d1 : decide (l.ats[k] ≤ l.nw) = true := decide_eq_true c1
          have d5 : decide (l.nw < l.ats[k]) = false := decide_eq_false (by omega)
          have HL : Hid (l.ats[k] ≤ l.nw) := Lib.hid (by omega)
          have HB : Hid (arrB l pt k = true) := Lib.hid (by rw [hae.out, d1, d2]; rfl)
          clear c1 c2
          as_aux_lemma =>
            go_wp2_with fail
            have E10 : Hid (Env D w [(wr.heap.size, 24, [.int .i64 l.L[k].fr, .int .i64 l.L[k].to_, .int .i64 l.L[k].kd, .int .i64 l.L[k].nm, .slice ua l.L[k].body.length uk]), (w2.heap.size, 64, [.int .i64 (gl).nw, .slice ya (gl).L.length yj, .slice yb (gl).ats.length yk, .slice yc (gl).ft.length ym]), (w1.heap.size, 64, [.int .i64 (n).nw, .slice na (n).L.length nj, .slice nb (n).ats.length nk, .slice nc (n).ft.length nm]), (w.heap.size, 64, [.int .i64 l.nw, .slice (some ⟨xab, xao, none⟩) l.L.length xj, .slice (some ⟨xbb, xbo, none⟩) l.ats.length xk, .slice xc l.ft.length xm])] [.ce xbb (xbo + k) (.int .i64 l.ats[k]), .ce xab (xao + k * 5) (.int .i64 l.L[k].fr), .ce xab (xao + k * 5 + 1) (.int .i64 l.L[k].to_), .ce xab (xao + k * 5 + 2) (.int .i64 l.L[k].kd), .ce xab (xao + k * 5 + 3) (.int .i64 l.L[k].nm), .ce xab (xao + k * 5 + 4) (.slice ua l.L[k].body.length uk), .bs (.slice ua l.L[k].body.length uk) l.L[k].body, .rw (.slice yc (gl).ft.length ym) (gl).ft.length 2 (fcl (gl).ft), .rw (.slice yb (gl).ats.length yk) (gl).ats.length 1 (icl (gl).ats), .ms (.slice ya (gl).L.length yj) (gl).L, .rw (.slice nc (n).ft.length nm) (n).ft.length 2 (fcl (n).ft), .rw (.slice nb (n).ats.length nk) (n).ats.length 1 (icl (n).ats), .ms (.slice na (n).L.length nj) (n).L, .rw (.slice fa ft.length fk) ft.length 2 (fcl ft), .rw (.slice xc l.ft.length xm) l.ft.length 2 (fcl l.ft), .rw (.slice (some ⟨xbb, xbo, none⟩) l.ats.length xk) l.ats.length 1 (icl l.ats), .ms (.slice (some ⟨xab, xao, none⟩) l.L.length xj) l.L] _) := Lib.hid ((E9.out.push 24 [.int .i64 l.L[k].fr, .int .i64 l.L[k].to_, .int .i64 l.L[k].kd, .int .i64 l.L[k].nm, .slice ua l.L[k].body.length uk] (wr.heap.size) (by simp)))
            clear u0 u1 u2 u3 u4 v0 z5 z6 z7 z8 z9 E9
            generalize wr.alloc (.cells #[.int .i64 l.L[k].fr, .int .i64 l.L[k].to_, .int .i64 l.L[k].kd, .int .i64 l.L[k].nm, .slice ua l.L[k].body.length uk] 24) = w5 at *
            have E11 : Hid (Env D w [(wr.heap.size, 24, [.int .i64 l.L[k].fr, .int .i64 l.L[k].to_, .int .i64 l.L[k].kd, .int .i64 l.L[k].nm, .slice ua l.L[k].body.length uk]), (w2.heap.size, 64, [.int .i64 (gl).nw, .slice ya (gl).L.length yj, .slice yb (gl).ats.length yk, .slice yc (gl).ft.length ym]), (w1.heap.size, 64, [.int .i64 (n).nw, .slice na (n).L.length nj, .slice nb (n).ats.length nk, .slice nc (n).ft.length nm]), (w.heap.size, 64, [.int .i64 l.nw, .slice (some ⟨xab, xao, none⟩) l.L.length xj, .slice (some ⟨xbb, xbo, none⟩) l.ats.length xk, .slice xc l.ft.length xm])] [.ce xbb (xbo + k) (.int .i64 l.ats[k]), .ce xab (xao + k * 5) (.int .i64 l.L[k].fr), .ce xab (xao + k * 5 + 1) (.int .i64 l.L[k].to_), .ce xab (xao + k * 5 + 2) (.int .i64 l.L[k].kd), .ce xab (xao + k * 5 + 3) (.int .i64 l.L[k].nm), .ce xab (xao + k * 5 + 4) (.slice ua l.L[k].body.length uk), .bs (.slice ua l.L[k].body.length uk) l.L[k].body, .rw (.slice yc (gl).ft.length ym) (gl).ft.length 2 (fcl (gl).ft), .rw (.slice yb (gl).ats.length yk) (gl).ats.length 1 (icl (gl).ats), .ms (.slice ya (gl).L.length yj) (gl).L, .rw (.slice nc (n).ft.length nm) (n).ft.length 2 (fcl (n).ft), .rw (.slice nb (n).ats.length nk) (n).ats.length 1 (icl (n).ats), .ms (.slice na (n).L.length nj) (n).L, .rw (.slice fa ft.length fk) ft.length 2 (fcl ft), .rw (.slice xc l.ft.length xm) l.ft.length 2 (fcl l.ft), .rw (.slice (some ⟨xbb, xbo, none⟩) l.ats.length xk) l.ats.length 1 (icl l.ats), .ms (.slice (some ⟨xab, xao, none⟩) l.L.length xj) l.L] (w5.drew)) := Lib.hid E10.out.drew
            clear E10
            refine wp_regionU (S := fun w' => w'.cell? ⟨wr.heap.size, 1, none⟩ = some (.int .i64 l.L[k].to_) ∧ w'.cell? ⟨w.heap.size, 2, none⟩ = some (.slice (some ⟨xbb, xbo, none⟩) l.ats.length xk) ∧ w'.cell? ⟨w.heap.size, 0, none⟩ = some (.int .i64 l.nw) ∧ w'.cell? ⟨xbb, xbo + k, none⟩ = some (.int .i64 l.ats[k])) [] (by kernel_rfl) (⟨((E11.out.bx 0 rfl).cell 1 rfl), ((E11.out.bx 3 rfl).cell 2 rfl), ((E11.out.bx 3 rfl).cell 0 rfl), (E11.out.fc 0 rfl).2⟩) (fun hHeld => ?_)
            generalize w5.drew = w6 at *
            refine uTake (i := 0) (some 126) (v := ?_) rfl rfl (by kernel_rfl) (by kernel_rfl) (by kernel_rfl) (by kernel_rfl) (fun _ _ _ h => h) (by rfl) (by assumption) ?_ ?_
            rotate_left
            · (intro wS hSw; (try dsimp only at hSw); go_simp; try with_reducible rfl)
            try simp only [Act.put, List.setIfInBounds_toArray, List.set_cons_zero, List.set_cons_succ]
            refine uTake (i := 1) (some 127) (v := ?_) rfl rfl (by kernel_rfl) (by kernel_rfl) (by kernel_rfl) (by kernel_rfl) (fun _ _ _ h => h) (by rfl) (by assumption) ?_ ?_
            rotate_left
            · (intro wS hSw; (try dsimp only at hSw); go_simp; try with_reducible rfl)
            try simp only [Act.put, List.setIfInBounds_toArray, List.set_cons_zero, List.set_cons_succ]
            refine uTake (i := 2) (some 128) (v := ?_) rfl rfl (by kernel_rfl) (by kernel_rfl) (by kernel_rfl) (by kernel_rfl) (fun _ _ _ h => h) (by rfl) (by assumption) ?_ ?_
            rotate_left
            · (intro wS hSw; (try dsimp only at hSw); go_simp; try with_reducible rfl)
            try simp only [Act.put, List.setIfInBounds_toArray, List.set_cons_zero, List.set_cons_succ]
            refine uTake (i := 3) (some 129) (v := ?_) rfl rfl (by kernel_rfl) (by kernel_rfl) (by kernel_rfl) (by kernel_rfl) (fun _ _ _ h => h) (by rfl) (by assumption) ?_ ?_
            rotate_left
            · (intro wS hSw; (try dsimp only at hSw); go_simp; try with_reducible rfl)
            try simp only [Act.put, List.setIfInBounds_toArray, List.set_cons_zero, List.set_cons_succ]
            refine uTake (i := 4) (some 130) (v := ?_) rfl rfl (by kernel_rfl) (by kernel_rfl) (by kernel_rfl) (by kernel_rfl) (fun _ _ _ h => h) (by rfl) (by assumption) ?_ ?_
            rotate_left
            · (intro wS hSw; (try dsimp only at hSw); go_simp; try with_reducible rfl)
            try simp only [Act.put, List.setIfInBounds_toArray, List.set_cons_zero, List.set_cons_succ]
            refine uTake (i := 5) (some 131) (v := ?_) rfl rfl (by kernel_rfl) (by kernel_rfl) (by kernel_rfl) (by kernel_rfl) (fun _ _ _ h => h) (by rfl) (by assumption) ?_ ?_
            rotate_left
            · (intro wS hSw; (try dsimp only at hSw); go_simp; try with_reducible rfl)
            try simp only [Act.put, List.setIfInBounds_toArray, List.set_cons_zero, List.set_cons_succ]
            refine uTake (i := 6) (some 132) (v := ?_) rfl rfl (by kernel_rfl) (by kernel_rfl) (by kernel_rfl) (by kernel_rfl) (fun _ _ _ h => h) (by rfl) (by assumption) ?_ ?_
            rotate_left
            · (intro wS hSw; (try dsimp only at hSw); go_simp; try with_reducible rfl)
            try simp only [Act.put, List.setIfInBounds_toArray, List.set_cons_zero, List.set_cons_succ]
            refine uTake (i := 7) (some 133) (v := ?_) rfl rfl (by kernel_rfl) (by kernel_rfl) (by kernel_rfl) (by kernel_rfl) (fun _ _ _ h => h) (by rfl) (by assumption) ?_ ?_
            rotate_left
            · (intro wS hSw; (try dsimp only at hSw); go_simp; try with_reducible rfl)
            try simp only [Act.put, List.setIfInBounds_toArray, List.set_cons_zero, List.set_cons_succ]
            refine uTake (i := 8) (some 134) (v := ?_) rfl rfl (by kernel_rfl) (by kernel_rfl) (by kernel_rfl) (by kernel_rfl) (fun _ _ _ h => h) (by rfl) (by assumption) ?_ ?_
            rotate_left
            · (intro wS hSw; (try dsimp only at hSw); go_simp; try with_reducible rfl)
            try simp only [Act.put, List.setIfInBounds_toArray, List.set_cons_zero, List.set_cons_succ]
            refine uTake (i := 9) (some 135) (v := ?_) rfl rfl (by kernel_rfl) (by kernel_rfl) (by kernel_rfl) (by kernel_rfl) (fun _ _ _ h => h) (by rfl) (by assumption) ?_ ?_
            rotate_left
            · (intro wS hSw; (try dsimp only at hSw); go_simp; try with_reducible rfl)
            try simp only [Act.put, List.setIfInBounds_toArray, List.set_cons_zero, List.set_cons_succ]
            refine uTake (i := 10) (some 136) (v := ?_) rfl rfl (by kernel_rfl) (by kernel_rfl) (by kernel_rfl) (by kernel_rfl) (fun _ _ _ h => h) (by rfl) (by assumption) ?_ ?_
            rotate_left
            · (intro wS hSw; (try dsimp only at hSw); go_simp; try with_reducible rfl)
            try simp only [Act.put, List.setIfInBounds_toArray, List.set_cons_zero, List.set_cons_succ]
            refine uTake (i := 11) (some 137) (v := ?_) rfl rfl (by kernel_rfl) (by kernel_rfl) (by kernel_rfl) (by kernel_rfl) (fun _ _ _ h => h) (by rfl) (by assumption) ?_ ?_
            rotate_left
            · (intro wS hSw; (try dsimp only at hSw); go_simp; try with_reducible rfl)
            try simp only [Act.put, List.setIfInBounds_toArray, List.set_cons_zero, List.set_cons_succ]
            refine uTake (i := 12) (some 138) (v := ?_) rfl rfl (by kernel_rfl) (by kernel_rfl) (by kernel_rfl) (by kernel_rfl) (fun _ _ _ h => h) (by rfl) (by assumption) ?_ ?_
            rotate_left
            · (intro wS hSw; (try dsimp only at hSw); go_simp; try with_reducible rfl)
            try simp only [Act.put, List.setIfInBounds_toArray, List.set_cons_zero, List.set_cons_succ]
            refine uTake (i := 13) (some 139) (v := ?_) rfl rfl (by kernel_rfl) (by kernel_rfl) (by kernel_rfl) (by kernel_rfl) (fun _ _ _ h => h) (by rfl) (by assumption) ?_ ?_
            rotate_left
            · (intro wS hSw; (try dsimp only at hSw); go_simp; try with_reducible rfl)
            try simp only [Act.put, List.setIfInBounds_toArray, List.set_cons_zero, List.set_cons_succ]
            refine uDone (by kernel_rfl) ?_ _
            have HC : Hid (wcnt l pt (k + 1) = wcnt l pt k + 1) := Lib.hid (by simp only [wcnt, HB.out, if_true])
            by_cases c4 : nx < 0
            rotate_left
            · have d4 : decide (nx < 0) = false := decide_eq_false c4
              have HM := Lib.hid (HS.out.keep (by omega))
              clear c4
              go_wp2_with fail
              have E12 : Hid (Env D w [(wr.heap.size, 24, [.int .i64 l.L[k].fr, .int .i64 l.L[k].to_, .int .i64 l.L[k].kd, .int .i64 l.L[k].nm, .slice ua l.L[k].body.length uk]), (w2.heap.size, 64, [.int .i64 (gl).nw, .slice ya (gl).L.length yj, .slice yb (gl).ats.length yk, .slice yc (gl).ft.length ym]), (w1.heap.size, 64, [.int .i64 (n).nw, .slice na (n).L.length nj, .slice nb (n).ats.length nk, .slice nc (n).ft.length nm]), (w.heap.size, 64, [.int .i64 l.nw, .slice (some ⟨xab, xao, none⟩) l.L.length xj, .slice (some ⟨xbb, xbo, none⟩) l.ats.length xk, .slice xc l.ft.length xm])] [.ce xbb (xbo + k) (.int .i64 l.ats[k]), .ce xab (xao + k * 5) (.int .i64 l.L[k].fr), .ce xab (xao + k * 5 + 1) (.int .i64 l.L[k].to_), .ce xab (xao + k * 5 + 2) (.int .i64 l.L[k].kd), .ce xab (xao + k * 5 + 3) (.int .i64 l.L[k].nm), .ce xab (xao + k * 5 + 4) (.slice ua l.L[k].body.length uk), .bs (.slice ua l.L[k].body.length uk) l.L[k].body, .rw (.slice yc (gl).ft.length ym) (gl).ft.length 2 (fcl (gl).ft), .rw (.slice yb (gl).ats.length yk) (gl).ats.length 1 (icl (gl).ats), .ms (.slice ya (gl).L.length yj) (gl).L, .rw (.slice nc (n).ft.length nm) (n).ft.length 2 (fcl (n).ft), .rw (.slice nb (n).ats.length nk) (n).ats.length 1 (icl (n).ats), .ms (.slice na (n).L.length nj) (n).L, .rw (.slice fa ft.length fk) ft.length 2 (fcl ft), .rw (.slice xc l.ft.length xm) l.ft.length 2 (fcl l.ft), .rw (.slice (some ⟨xbb, xbo, none⟩) l.ats.length xk) l.ats.length 1 (icl l.ats), .ms (.slice (some ⟨xab, xao, none⟩) l.L.length xj) l.L] (w6.drew)) := Lib.hid E11.out.drew
              clear E11
              refine wp_regionU (S := fun w' => w'.cell? ⟨xbb, xbo + k, none⟩ = some (.int .i64 l.ats[k])) [] (by kernel_rfl) ((E12.out.fc 0 rfl).2) (fun hHeld => ?_)
              generalize w6.drew = w7 at *
              refine uTake (i := 0) (some 142) (v := ?_) rfl rfl (by kernel_rfl) (by kernel_rfl) (by kernel_rfl) (by kernel_rfl) (fun _ _ _ h => h) (by rfl) (by assumption) ?_ ?_
              rotate_left
              · (intro wS hSw; (try dsimp only at hSw); go_simp; try with_reducible rfl)
              try simp only [Act.put, List.setIfInBounds_toArray, List.set_cons_zero, List.set_cons_succ]
              refine uTake (i := 1) (some 143) (v := ?_) rfl rfl (by kernel_rfl) (by kernel_rfl) (by kernel_rfl) (by kernel_rfl) (fun _ _ _ h => h) (by rfl) (by assumption) ?_ ?_
              rotate_left
              · (intro wS hSw; (try dsimp only at hSw); go_simp; try with_reducible rfl)
              try simp only [Act.put, List.setIfInBounds_toArray, List.set_cons_zero, List.set_cons_succ]
              refine uTake (i := 2) (some 144) (v := ?_) rfl rfl (by kernel_rfl) (by kernel_rfl) (by kernel_rfl) (by kernel_rfl) (fun _ _ _ h => h) (by rfl) (by assumption) ?_ ?_
              rotate_left
              · (intro wS hSw; (try dsimp only at hSw); go_simp; try with_reducible rfl)
              try simp only [Act.put, List.setIfInBounds_toArray, List.set_cons_zero, List.set_cons_succ]
              refine uPass (i := 3) (some 145) rfl rfl (by kernel_rfl) (by kernel_rfl) (by kernel_rfl) (by kernel_rfl) (fun _ _ _ h => h) (by rfl) (by assumption) ?_
              try simp only [Act.put, List.setIfInBounds_toArray, List.set_cons_zero, List.set_cons_succ]
              refine uPass (i := 4) (some 146) rfl rfl (by kernel_rfl) (by kernel_rfl) (by kernel_rfl) (by kernel_rfl) (fun _ _ _ h => h) (by rfl) (by assumption) ?_
              try simp only [Act.put, List.setIfInBounds_toArray, List.set_cons_zero, List.set_cons_succ]
              refine uPass (i := 5) (some 147) rfl rfl (by kernel_rfl) (by kernel_rfl) (by kernel_rfl) (by kernel_rfl) (fun _ _ _ h => h) (by rfl) (by assumption) ?_
              try simp only [Act.put, List.setIfInBounds_toArray, List.set_cons_zero, List.set_cons_succ]
              refine uPass (i := 6) (some 148) rfl rfl (by kernel_rfl) (by kernel_rfl) (by kernel_rfl) (by kernel_rfl) (fun _ _ _ h => h) (by rfl) (by assumption) ?_
              try simp only [Act.put, List.setIfInBounds_toArray, List.set_cons_zero, List.set_cons_succ]
              refine uPass (i := 7) (some 149) rfl rfl (by kernel_rfl) (by kernel_rfl) (by kernel_rfl) (by kernel_rfl) (fun _ _ _ h => h) (by rfl) (by assumption) ?_
              try simp only [Act.put, List.setIfInBounds_toArray, List.set_cons_zero, List.set_cons_succ]
              refine uPass (i := 8) (some 150) rfl rfl (by kernel_rfl) (by kernel_rfl) (by kernel_rfl) (by kernel_rfl) (fun _ _ _ h => h) (by rfl) (by assumption) ?_
              try simp only [Act.put, List.setIfInBounds_toArray, List.set_cons_zero, List.set_cons_succ]
              refine uPass (i := 9) (some 151) rfl rfl (by kernel_rfl) (by kernel_rfl) (by kernel_rfl) (by kernel_rfl) (fun _ _ _ h => h) (by rfl) (by assumption) ?_
              try simp only [Act.put, List.setIfInBounds_toArray, List.set_cons_zero, List.set_cons_succ]
              refine uPass (i := 10) (some 152) rfl rfl (by kernel_rfl) (by kernel_rfl) (by kernel_rfl) (by kernel_rfl) (fun _ _ _ h => h) (by rfl) (by assumption) ?_
              try simp only [Act.put, List.setIfInBounds_toArray, List.set_cons_zero, List.set_cons_succ]
              refine uTake (i := 11) (some 153) (v := ?_) rfl rfl (by kernel_rfl) (by kernel_rfl) (by kernel_rfl) (by kernel_rfl) (fun _ _ _ h => h) (by rfl) (by assumption) ?_ ?_
              rotate_left
              · (intro wS hSw; (try dsimp only at hSw); go_simp; try with_reducible rfl)
              try simp only [Act.put, List.setIfInBounds_toArray, List.set_cons_zero, List.set_cons_succ]
              refine uDone (by kernel_rfl) ?_ _
              have EZ := Lib.hid ((((((((E12.out.drop).forget).forget).forget).forget).forget).forget).forget)
              go_wp2
              go_roundg (l.L.length - (k + 1))
              case rel => exact ⟨k + 1, nx, by first | (rw [HC.out]; done) | (rw [HC.out]; rfl), rfl, by rfl, EZ, Lib.hid ⟨⟨by omega, rfl⟩, HM.out⟩⟩
              case measure => exact by omega
            have d4 : decide (nx < 0) = true := decide_eq_true c4
            have HM := Lib.hid (HS.out.skip HW.out c4 hk2 HL.out)
            clear c4
            go_wp2_with fail
            have E12 : Hid (Env D w [(wr.heap.size, 24, [.int .i64 l.L[k].fr, .int .i64 l.L[k].to_, .int .i64 l.L[k].kd, .int .i64 l.L[k].nm, .slice ua l.L[k].body.length uk]), (w2.heap.size, 64, [.int .i64 (gl).nw, .slice ya (gl).L.length yj, .slice yb (gl).ats.length yk, .slice yc (gl).ft.length ym]), (w1.heap.size, 64, [.int .i64 (n).nw, .slice na (n).L.length nj, .slice nb (n).ats.length nk, .slice nc (n).ft.length nm]), (w.heap.size, 64, [.int .i64 l.nw, .slice (some ⟨xab, xao, none⟩) l.L.length xj, .slice (some ⟨xbb, xbo, none⟩) l.ats.length xk, .slice xc l.ft.length xm])] [.ce xbb (xbo + k) (.int .i64 l.ats[k]), .ce xab (xao + k * 5) (.int .i64 l.L[k].fr), .ce xab (xao + k * 5 + 1) (.int .i64 l.L[k].to_), .ce xab (xao + k * 5 + 2) (.int .i64 l.L[k].kd), .ce xab (xao + k * 5 + 3) (.int .i64 l.L[k].nm), .ce xab (xao + k * 5 + 4) (.slice ua l.L[k].body.length uk), .bs (.slice ua l.L[k].body.length uk) l.L[k].body, .rw (.slice yc (gl).ft.length ym) (gl).ft.length 2 (fcl (gl).ft), .rw (.slice yb (gl).ats.length yk) (gl).ats.length 1 (icl (gl).ats), .ms (.slice ya (gl).L.length yj) (gl).L, .rw (.slice nc (n).ft.length nm) (n).ft.length 2 (fcl (n).ft), .rw (.slice nb (n).ats.length nk) (n).ats.length 1 (icl (n).ats), .ms (.slice na (n).L.length nj) (n).L, .rw (.slice fa ft.length fk) ft.length 2 (fcl ft), .rw (.slice xc l.ft.length xm) l.ft.length 2 (fcl l.ft), .rw (.slice (some ⟨xbb, xbo, none⟩) l.ats.length xk) l.ats.length 1 (icl l.ats), .ms (.slice (some ⟨xab, xao, none⟩) l.L.length xj) l.L] (w6.drew)) := Lib.hid E11.out.drew
            clear E11
            refine wp_regionU (S := fun w' => w'.cell? ⟨w.heap.size, 2, none⟩ = some (.slice (some ⟨xbb, xbo, none⟩) l.ats.length xk) ∧ w'.cell? ⟨w.heap.size, 0, none⟩ = some (.int .i64 l.nw) ∧ w'.cell? ⟨xbb, xbo + k, none⟩ = some (.int .i64 l.ats[k])) [] (by kernel_rfl) (⟨((E12.out.bx 3 rfl).cell 2 rfl), ((E12.out.bx 3 rfl).cell 0 rfl), (E12.out.fc 0 rfl).2⟩) (fun hHeld => ?_)
            generalize w6.drew = w7 at *
            refine uTake (i := 0) (some 142) (v := ?_) rfl rfl (by kernel_rfl) (by kernel_rfl) (by kernel_rfl) (by kernel_rfl) (fun _ _ _ h => h) (by rfl) (by assumption) ?_ ?_
            rotate_left
            · (intro wS hSw; (try dsimp only at hSw); go_simp; try with_reducible rfl)
            try simp only [Act.put, List.setIfInBounds_toArray, List.set_cons_zero, List.set_cons_succ]
            refine uTake (i := 1) (some 143) (v := ?_) rfl rfl (by kernel_rfl) (by kernel_rfl) (by kernel_rfl) (by kernel_rfl) (fun _ _ _ h => h) (by rfl) (by assumption) ?_ ?_
            rotate_left
            · (intro wS hSw; (try dsimp only at hSw); go_simp; try with_reducible rfl)
            try simp only [Act.put, List.setIfInBounds_toArray, List.set_cons_zero, List.set_cons_succ]
            refine uTake (i := 2) (some 144) (v := ?_) rfl rfl (by kernel_rfl) (by kernel_rfl) (by kernel_rfl) (by kernel_rfl) (fun _ _ _ h => h) (by rfl) (by assumption) ?_ ?_
            rotate_left
            · (intro wS hSw; (try dsimp only at hSw); go_simp; try with_reducible rfl)
            try simp only [Act.put, List.setIfInBounds_toArray, List.set_cons_zero, List.set_cons_succ]
            refine uTake (i := 3) (some 145) (v := ?_) rfl rfl (by kernel_rfl) (by kernel_rfl) (by kernel_rfl) (by kernel_rfl) (fun _ _ _ h => h) (by rfl) (by assumption) ?_ ?_
            rotate_left
            · (intro wS hSw; (try dsimp only at hSw); go_simp; try with_reducible rfl)
            try simp only [Act.put, List.setIfInBounds_toArray, List.set_cons_zero, List.set_cons_succ]
            refine uTake (i := 4) (some 146) (v := ?_) rfl rfl (by kernel_rfl) (by kernel_rfl) (by kernel_rfl) (by kernel_rfl) (fun _ _ _ h => h) (by rfl) (by assumption) ?_ ?_
            rotate_left
            · (intro wS hSw; (try dsimp only at hSw); go_simp; try with_reducible rfl)
            try simp only [Act.put, List.setIfInBounds_toArray, List.set_cons_zero, List.set_cons_succ]
            refine uTake (i := 5) (some 147) (v := ?_) rfl rfl (by kernel_rfl) (by kernel_rfl) (by kernel_rfl) (by kernel_rfl) (fun _ _ _ h => h) (by rfl) (by assumption) ?_ ?_
            rotate_left
            · (intro wS hSw; (try dsimp only at hSw); go_simp; try with_reducible rfl)
            try simp only [Act.put, List.setIfInBounds_toArray, List.set_cons_zero, List.set_cons_succ]
            refine uTake (i := 6) (some 148) (v := ?_) rfl rfl (by kernel_rfl) (by kernel_rfl) (by kernel_rfl) (by kernel_rfl) (fun _ _ _ h => h) (by rfl) (by assumption) ?_ ?_
            rotate_left
            · (intro wS hSw; (try dsimp only at hSw); go_simp; try with_reducible rfl)
            try simp only [Act.put, List.setIfInBounds_toArray, List.set_cons_zero, List.set_cons_succ]
            refine uTake (i := 7) (some 149) (v := ?_) rfl rfl (by kernel_rfl) (by kernel_rfl) (by kernel_rfl) (by kernel_rfl) (fun _ _ _ h => h) (by rfl) (by assumption) ?_ ?_
            rotate_left
            · (intro wS hSw; (try dsimp only at hSw); go_simp; try with_reducible rfl)
            try simp only [Act.put, List.setIfInBounds_toArray, List.set_cons_zero, List.set_cons_succ]
            refine uTake (i := 8) (some 150) (v := ?_) rfl rfl (by kernel_rfl) (by kernel_rfl) (by kernel_rfl) (by kernel_rfl) (fun _ _ _ h => h) (by rfl) (by assumption) ?_ ?_
            rotate_left
            · (intro wS hSw; (try dsimp only at hSw); go_simp; try with_reducible rfl)
            try simp only [Act.put, List.setIfInBounds_toArray, List.set_cons_zero, List.set_cons_succ]
            refine uTake (i := 9) (some 151) (v := ?_) rfl rfl (by kernel_rfl) (by kernel_rfl) (by kernel_rfl) (by kernel_rfl) (fun _ _ _ h => h) (by rfl) (by assumption) ?_ ?_
            rotate_left
            · (intro wS hSw; (try dsimp only at hSw); go_simp; try with_reducible rfl)
            try simp only [Act.put, List.setIfInBounds_toArray, List.set_cons_zero, List.set_cons_succ]
            refine uTake (i := 10) (some 152) (v := ?_) rfl rfl (by kernel_rfl) (by kernel_rfl) (by kernel_rfl) (by kernel_rfl) (fun _ _ _ h => h) (by rfl) (by assumption) ?_ ?_
            rotate_left
            · (intro wS hSw; (try dsimp only at hSw); go_simp; try with_reducible rfl)
            try simp only [Act.put, List.setIfInBounds_toArray, List.set_cons_zero, List.set_cons_succ]
            refine uTake (i := 11) (some 153) (v := ?_) rfl rfl (by kernel_rfl) (by kernel_rfl) (by kernel_rfl) (by kernel_rfl) (fun _ _ _ h => h) (by rfl) (by assumption) ?_ ?_
            rotate_left
            · (intro wS hSw; (try dsimp only at hSw); go_simp; try with_reducible rfl)
            try simp only [Act.put, List.setIfInBounds_toArray, List.set_cons_zero, List.set_cons_succ]
            refine uDone (by kernel_rfl) ?_ _
            have EZ := Lib.hid ((((((((E12.out.drop).forget).forget).forget).forget).forget).forget).forget)
            go_wp2
            go_roundg (l.L.length - (k + 1))
            case rel => exact ⟨k + 1, nx, by first | (rw [HC.out]; done) | (rw [HC.out]; rfl), rfl, by rfl, EZ, Lib.hid ⟨⟨by omega, rfl⟩, HM.out⟩⟩
            case measure => exact by omega
        have t6 : decide ((k : Int) < (l.L.length : Int)) = false := decide_eq_false (by omega)
        have t7 : decide (k < l.L.length) = false := decide_eq_false (by omega)
        obtain rfl := hy
        obtain rfl := HX.out.uniq (by rw [← H2.out]; exact HS.out) HW.out
        clear HS a1 a2 a4
        go_upto_region 26 with (fail)
        go_cut [181] (fun s181 wx => s181 = .bool false ∧ Hid (Env D w [(w2.heap.size, 64, [.int .i64 (gl).nw, .slice ya (gl).L.length yj, .slice yb (gl).ats.length yk, .slice yc (gl).ft.length ym]), (w1.heap.size, 64, [.int .i64 (n).nw, .slice na (n).L.length nj, .slice nb (n).ats.length nk, .slice nc (n).ft.length nm]), (w.heap.size, 64, [.int .i64 l.nw, .slice xa l.L.length xj, .slice xb l.ats.length xk, .slice xc l.ft.length xm])] [.rw (.slice yc (gl).ft.length ym) (gl).ft.length 2 (fcl (gl).ft), .rw (.slice yb (gl).ats.length yk) (gl).ats.length 1 (icl (gl).ats), .ms (.slice ya (gl).L.length yj) (gl).L, .rw (.slice nc (n).ft.length nm) (n).ft.length 2 (fcl (n).ft), .rw (.slice nb (n).ats.length nk) (n).ats.length 1 (icl (n).ats), .ms (.slice na (n).L.length nj) (n).L, .rw (.slice fa ft.length fk) ft.length 2 (fcl ft), .rw (.slice xc l.ft.length xm) l.ft.length 2 (fcl l.ft), .rw (.slice xb l.ats.length xk) l.ats.length 1 (icl l.ats), .ms (.slice xa l.L.length xj) l.L] wx))
        case first =>
          rcases nx_same HX.out HT.out HW.out with ⟨rfl, rfl, rfl⟩ | ⟨c1, rfl, rfl⟩
          · skip
            as_aux_lemma =>
              have b5 := EL.out.bx 2 rfl
              have c5_0 := b5.cell 0 rfl
              have c5_1 := b5.cell 1 rfl
              have c5_2 := b5.cell 2 rfl
              have c5_3 := b5.cell 3 rfl
              clear b5
              go_wp2_with fail
              refine (lValid_c l (EL.out.fc 9 rfl) (EL.out.fc 8 rfl) (EL.out.fc 7 rfl) (okOf HV.out) hab).mono ?_
              rintro e w5 ⟨rfl, hb⟩
              have E8 : Hid (Env D w [(w2.heap.size, 64, [.int .i64 (gl).nw, .slice ya (gl).L.length yj, .slice yb (gl).ats.length yk, .slice yc (gl).ft.length ym]), (w1.heap.size, 64, [.int .i64 (n).nw, .slice na (n).L.length nj, .slice nb (n).ats.length nk, .slice nc (n).ft.length nm]), (w.heap.size, 64, [.int .i64 l.nw, .slice xa l.L.length xj, .slice xb l.ats.length xk, .slice xc l.ft.length xm])] [.rw (.slice yc (gl).ft.length ym) (gl).ft.length 2 (fcl (gl).ft), .rw (.slice yb (gl).ats.length yk) (gl).ats.length 1 (icl (gl).ats), .ms (.slice ya (gl).L.length yj) (gl).L, .rw (.slice nc (n).ft.length nm) (n).ft.length 2 (fcl (n).ft), .rw (.slice nb (n).ats.length nk) (n).ats.length 1 (icl (n).ats), .ms (.slice na (n).L.length nj) (n).L, .rw (.slice fa ft.length fk) ft.length 2 (fcl ft), .rw (.slice xc l.ft.length xm) l.ft.length 2 (fcl l.ft), .rw (.slice xb l.ats.length xk) l.ats.length 1 (icl l.ats), .ms (.slice xa l.L.length xj) l.L] w5) := Lib.hid (EL.out.below hb)
              clear c5_0 c5_1 c5_2 c5_3 EL hb
              have b6 := E8.out.bx 2 rfl
              have c6_0 := b6.cell 0 rfl
              have c6_1 := b6.cell 1 rfl
              have c6_2 := b6.cell 2 rfl
              have c6_3 := b6.cell 3 rfl
              clear b6
              go_wp2_with fail
              refine (Waiting_ok l pt (E8.out.fc 9 rfl) (E8.out.fc 8 rfl) (E8.out.fc 7 rfl) HV.out).mono ?_
              rintro e w6 ⟨rfl, hb⟩
              have E9 : Hid (Env D w [(w2.heap.size, 64, [.int .i64 (gl).nw, .slice ya (gl).L.length yj, .slice yb (gl).ats.length yk, .slice yc (gl).ft.length ym]), (w1.heap.size, 64, [.int .i64 (n).nw, .slice na (n).L.length nj, .slice nb (n).ats.length nk, .slice nc (n).ft.length nm]), (w.heap.size, 64, [.int .i64 l.nw, .slice xa l.L.length xj, .slice xb l.ats.length xk, .slice xc l.ft.length xm])] [.rw (.slice yc (gl).ft.length ym) (gl).ft.length 2 (fcl (gl).ft), .rw (.slice yb (gl).ats.length yk) (gl).ats.length 1 (icl (gl).ats), .ms (.slice ya (gl).L.length yj) (gl).L, .rw (.slice nc (n).ft.length nm) (n).ft.length 2 (fcl (n).ft), .rw (.slice nb (n).ats.length nk) (n).ats.length 1 (icl (n).ats), .ms (.slice na (n).L.length nj) (n).L, .rw (.slice fa ft.length fk) ft.length 2 (fcl ft), .rw (.slice xc l.ft.length xm) l.ft.length 2 (fcl l.ft), .rw (.slice xb l.ats.length xk) l.ats.length 1 (icl l.ats), .ms (.slice xa l.L.length xj) l.L] w6) := Lib.hid (E8.out.below hb)
              clear c6_0 c6_1 c6_2 c6_3 E8 hb
              go_wp2_with fail
              go_meet
              exact ⟨rfl, Lib.hid E9.out⟩
          · skip
            have d4 : decide (0 ≤ nx0) = true := decide_eq_true c1
            have d5 : decide (nx0 < 0) = false := decide_eq_false (by omega)
            have d6 : (nx0 != max nx0 0) = false := by rw [show max nx0 0 = nx0 by omega]; simp
            clear c1
            as_aux_lemma =>
              have b5 := EL.out.bx 2 rfl
              have c5_0 := b5.cell 0 rfl
              have c5_1 := b5.cell 1 rfl
              have c5_2 := b5.cell 2 rfl
              have c5_3 := b5.cell 3 rfl
              clear b5
              go_wp2_with fail
              refine (lValid_c l (EL.out.fc 9 rfl) (EL.out.fc 8 rfl) (EL.out.fc 7 rfl) (okOf HV.out) hab).mono ?_
              rintro e w5 ⟨rfl, hb⟩
              have E8 : Hid (Env D w [(w2.heap.size, 64, [.int .i64 (gl).nw, .slice ya (gl).L.length yj, .slice yb (gl).ats.length yk, .slice yc (gl).ft.length ym]), (w1.heap.size, 64, [.int .i64 (n).nw, .slice na (n).L.length nj, .slice nb (n).ats.length nk, .slice nc (n).ft.length nm]), (w.heap.size, 64, [.int .i64 l.nw, .slice xa l.L.length xj, .slice xb l.ats.length xk, .slice xc l.ft.length xm])] [.rw (.slice yc (gl).ft.length ym) (gl).ft.length 2 (fcl (gl).ft), .rw (.slice yb (gl).ats.length yk) (gl).ats.length 1 (icl (gl).ats), .ms (.slice ya (gl).L.length yj) (gl).L, .rw (.slice nc (n).ft.length nm) (n).ft.length 2 (fcl (n).ft), .rw (.slice nb (n).ats.length nk) (n).ats.length 1 (icl (n).ats), .ms (.slice na (n).L.length nj) (n).L, .rw (.slice fa ft.length fk) ft.length 2 (fcl ft), .rw (.slice xc l.ft.length xm) l.ft.length 2 (fcl l.ft), .rw (.slice xb l.ats.length xk) l.ats.length 1 (icl l.ats), .ms (.slice xa l.L.length xj) l.L] w5) := Lib.hid (EL.out.below hb)
              clear c5_0 c5_1 c5_2 c5_3 EL hb
              have b6 := E8.out.bx 2 rfl
              have c6_0 := b6.cell 0 rfl
              have c6_1 := b6.cell 1 rfl
              have c6_2 := b6.cell 2 rfl
              have c6_3 := b6.cell 3 rfl
              clear b6
              go_wp2_with fail
              refine (Waiting_ok l pt (E8.out.fc 9 rfl) (E8.out.fc 8 rfl) (E8.out.fc 7 rfl) HV.out).mono ?_
              rintro e w6 ⟨rfl, hb⟩
              have E9 : Hid (Env D w [(w2.heap.size, 64, [.int .i64 (gl).nw, .slice ya (gl).L.length yj, .slice yb (gl).ats.length yk, .slice yc (gl).ft.length ym]), (w1.heap.size, 64, [.int .i64 (n).nw, .slice na (n).L.length nj, .slice nb (n).ats.length nk, .slice nc (n).ft.length nm]), (w.heap.size, 64, [.int .i64 l.nw, .slice xa l.L.length xj, .slice xb l.ats.length xk, .slice xc l.ft.length xm])] [.rw (.slice yc (gl).ft.length ym) (gl).ft.length 2 (fcl (gl).ft), .rw (.slice yb (gl).ats.length yk) (gl).ats.length 1 (icl (gl).ats), .ms (.slice ya (gl).L.length yj) (gl).L, .rw (.slice nc (n).ft.length nm) (n).ft.length 2 (fcl (n).ft), .rw (.slice nb (n).ats.length nk) (n).ats.length 1 (icl (n).ats), .ms (.slice na (n).L.length nj) (n).L, .rw (.slice fa ft.length fk) ft.length 2 (fcl ft), .rw (.slice xc l.ft.length xm) l.ft.length 2 (fcl l.ft), .rw (.slice xb l.ats.length xk) l.ats.length 1 (icl l.ats), .ms (.slice xa l.L.length xj) l.L] w6) := Lib.hid (E8.out.below hb)
              clear c6_0 c6_1 c6_2 c6_3 E8 hb
              go_wp2_with fail
              go_meet
              exact ⟨rfl, Lib.hid E9.out⟩
        case rest =>
          obtain ⟨rfl, EC⟩ := hcut
          clear EL HX HT
          rcases HG.out with ⟨c0, _⟩ | ⟨_, c1, rfl, rfl⟩ | ⟨_, c1, c2, rfl, rfl⟩ | ⟨_, c1, c2, rfl, rfl⟩
          · exact absurd HV.out c0
          · skip
            unfold wth at c1
            simp only [Bool.and_eq_false_iff, decide_eq_false_iff_not] at c1
            by_cases c2 : now < 0
            · have d1 : decide (now < 0) = true := decide_eq_true c2
              clear c1 c2 HG
              as_aux_lemma =>
                have b5 := EC.out.bx 0 rfl
                have c5_0 := b5.cell 0 rfl
                have c5_1 := b5.cell 1 rfl
                have c5_2 := b5.cell 2 rfl
                have c5_3 := b5.cell 3 rfl
                clear b5
                go_wp2_with fail
                refine (none_c (EC.out.fc 2 rfl) (EC.out.fc 1 rfl) (EC.out.fc 0 rfl)).mono ?_
                rintro e w5 ⟨rfl, hb⟩
                have E8 : Hid (Env D w [(w2.heap.size, 64, [.int .i64 (L0).nw, .slice ya (L0).L.length yj, .slice yb (L0).ats.length yk, .slice yc (L0).ft.length ym]), (w1.heap.size, 64, [.int .i64 (n).nw, .slice na (n).L.length nj, .slice nb (n).ats.length nk, .slice nc (n).ft.length nm]), (w.heap.size, 64, [.int .i64 l.nw, .slice xa l.L.length xj, .slice xb l.ats.length xk, .slice xc l.ft.length xm])] [.rw (.slice yc (L0).ft.length ym) (L0).ft.length 2 (fcl (L0).ft), .rw (.slice yb (L0).ats.length yk) (L0).ats.length 1 (icl (L0).ats), .ms (.slice ya (L0).L.length yj) (L0).L, .rw (.slice nc (n).ft.length nm) (n).ft.length 2 (fcl (n).ft), .rw (.slice nb (n).ats.length nk) (n).ats.length 1 (icl (n).ats), .ms (.slice na (n).L.length nj) (n).L, .rw (.slice fa ft.length fk) ft.length 2 (fcl ft), .rw (.slice xc l.ft.length xm) l.ft.length 2 (fcl l.ft), .rw (.slice xb l.ats.length xk) l.ats.length 1 (icl l.ats), .ms (.slice xa l.L.length xj) l.L] w5) := Lib.hid (EC.out.below hb)
                clear c5_0 c5_1 c5_2 c5_3 EC hb
                have hfin := Lib.hid E8.out.bel
                go_wp2
                go_ret
                exact ⟨rfl, hfin.out⟩
            · have d1 : decide (now < 0) = false := decide_eq_false c2
              have d2 : decide ((1099511627776 : Int) < now) = true := decide_eq_true (by omega)
              clear c1 c2 HG
              as_aux_lemma =>
                have b5 := EC.out.bx 0 rfl
                have c5_0 := b5.cell 0 rfl
                have c5_1 := b5.cell 1 rfl
                have c5_2 := b5.cell 2 rfl
                have c5_3 := b5.cell 3 rfl
                clear b5
                go_wp2_with fail
                refine (none_c (EC.out.fc 2 rfl) (EC.out.fc 1 rfl) (EC.out.fc 0 rfl)).mono ?_
                rintro e w5 ⟨rfl, hb⟩
                have E8 : Hid (Env D w [(w2.heap.size, 64, [.int .i64 (L0).nw, .slice ya (L0).L.length yj, .slice yb (L0).ats.length yk, .slice yc (L0).ft.length ym]), (w1.heap.size, 64, [.int .i64 (n).nw, .slice na (n).L.length nj, .slice nb (n).ats.length nk, .slice nc (n).ft.length nm]), (w.heap.size, 64, [.int .i64 l.nw, .slice xa l.L.length xj, .slice xb l.ats.length xk, .slice xc l.ft.length xm])] [.rw (.slice yc (L0).ft.length ym) (L0).ft.length 2 (fcl (L0).ft), .rw (.slice yb (L0).ats.length yk) (L0).ats.length 1 (icl (L0).ats), .ms (.slice ya (L0).L.length yj) (L0).L, .rw (.slice nc (n).ft.length nm) (n).ft.length 2 (fcl (n).ft), .rw (.slice nb (n).ats.length nk) (n).ats.length 1 (icl (n).ats), .ms (.slice na (n).L.length nj) (n).L, .rw (.slice fa ft.length fk) ft.length 2 (fcl ft), .rw (.slice xc l.ft.length xm) l.ft.length 2 (fcl l.ft), .rw (.slice xb l.ats.length xk) l.ats.length 1 (icl l.ats), .ms (.slice xa l.L.length xj) l.L] w5) := Lib.hid (EC.out.below hb)
                clear c5_0 c5_1 c5_2 c5_3 EC hb
                have hfin := Lib.hid E8.out.bel
                go_wp2
                go_ret
                exact ⟨rfl, hfin.out⟩
          · skip
            unfold wth at c1
            simp only [Bool.and_eq_true, decide_eq_true_eq] at c1
            obtain ⟨c3, c4⟩ := c1
            have d1 : decide (now < 0) = false := decide_eq_false (by omega)
            have d2 : decide ((1099511627776 : Int) < now) = false := decide_eq_false (by omega)
            have d3 : decide (now < l.nw) = true := decide_eq_true c2
            clear c2 c3 c4 HG
            as_aux_lemma =>
              have b5 := EC.out.bx 2 rfl
              have c5_0 := b5.cell 0 rfl
              clear b5
              have b6 := EC.out.bx 0 rfl
              have c6_0 := b6.cell 0 rfl
              have c6_1 := b6.cell 1 rfl
              have c6_2 := b6.cell 2 rfl
              have c6_3 := b6.cell 3 rfl
              clear b6
              go_wp2_with fail
              refine (none_c (EC.out.fc 2 rfl) (EC.out.fc 1 rfl) (EC.out.fc 0 rfl)).mono ?_
              rintro e w5 ⟨rfl, hb⟩
              have E8 : Hid (Env D w [(w2.heap.size, 64, [.int .i64 (L0).nw, .slice ya (L0).L.length yj, .slice yb (L0).ats.length yk, .slice yc (L0).ft.length ym]), (w1.heap.size, 64, [.int .i64 (n).nw, .slice na (n).L.length nj, .slice nb (n).ats.length nk, .slice nc (n).ft.length nm]), (w.heap.size, 64, [.int .i64 l.nw, .slice xa l.L.length xj, .slice xb l.ats.length xk, .slice xc l.ft.length xm])] [.rw (.slice yc (L0).ft.length ym) (L0).ft.length 2 (fcl (L0).ft), .rw (.slice yb (L0).ats.length yk) (L0).ats.length 1 (icl (L0).ats), .ms (.slice ya (L0).L.length yj) (L0).L, .rw (.slice nc (n).ft.length nm) (n).ft.length 2 (fcl (n).ft), .rw (.slice nb (n).ats.length nk) (n).ats.length 1 (icl (n).ats), .ms (.slice na (n).L.length nj) (n).L, .rw (.slice fa ft.length fk) ft.length 2 (fcl ft), .rw (.slice xc l.ft.length xm) l.ft.length 2 (fcl l.ft), .rw (.slice xb l.ats.length xk) l.ats.length 1 (icl l.ats), .ms (.slice xa l.L.length xj) l.L] w5) := Lib.hid (EC.out.below hb)
              clear c5_0 c6_0 c6_1 c6_2 c6_3 EC hb
              have hfin := Lib.hid E8.out.bel
              go_wp2
              go_ret
              exact ⟨rfl, hfin.out⟩
          · skip
            unfold wth at c1
            simp only [Bool.and_eq_true, decide_eq_true_eq] at c1
            obtain ⟨c3, c4⟩ := c1
            have d1 : decide (now < 0) = false := decide_eq_false (by omega)
            have d2 : decide ((1099511627776 : Int) < now) = false := decide_eq_false (by omega)
            have d3 : decide (now < l.nw) = false := decide_eq_false c2
            have hgl : (goL l now).L.length ≤ 1000000 ∧ (goL l now).ats.length ≤ 1000000 ∧ (goL l now).ft.length ≤ 1000000 := by show l.L.length ≤ 1000000 ∧ l.ats.length ≤ 1000000 ∧ l.ft.length ≤ 1000000; omega
            clear c2 c3 c4 HG
            as_aux_lemma =>
              have b5 := EC.out.bx 2 rfl
              have c5_0 := b5.cell 0 rfl
              clear b5
              have b6 := EC.out.bx 2 rfl
              have c6_1 := b6.cell 1 rfl
              have c6_2 := b6.cell 2 rfl
              have c6_3 := b6.cell 3 rfl
              clear b6
              have E8 : Hid (Env D w [(wc.heap.size, 64, [.int .i64 now, .slice xa l.L.length xj, .slice xb l.ats.length xk, .slice xc l.ft.length xm]), (w2.heap.size, 64, [.int .i64 ((goL l now)).nw, .slice ya ((goL l now)).L.length yj, .slice yb ((goL l now)).ats.length yk, .slice yc ((goL l now)).ft.length ym]), (w1.heap.size, 64, [.int .i64 (n).nw, .slice na (n).L.length nj, .slice nb (n).ats.length nk, .slice nc (n).ft.length nm]), (w.heap.size, 64, [.int .i64 l.nw, .slice xa l.L.length xj, .slice xb l.ats.length xk, .slice xc l.ft.length xm])] [.rw (.slice yc ((goL l now)).ft.length ym) ((goL l now)).ft.length 2 (fcl ((goL l now)).ft), .rw (.slice yb ((goL l now)).ats.length yk) ((goL l now)).ats.length 1 (icl ((goL l now)).ats), .ms (.slice ya ((goL l now)).L.length yj) ((goL l now)).L, .rw (.slice nc (n).ft.length nm) (n).ft.length 2 (fcl (n).ft), .rw (.slice nb (n).ats.length nk) (n).ats.length 1 (icl (n).ats), .ms (.slice na (n).L.length nj) (n).L, .rw (.slice fa ft.length fk) ft.length 2 (fcl ft), .rw (.slice xc l.ft.length xm) l.ft.length 2 (fcl l.ft), .rw (.slice xb l.ats.length xk) l.ats.length 1 (icl l.ats), .ms (.slice xa l.L.length xj) l.L] _) := Lib.hid ((EC.out.push 64 [.int .i64 now, .slice xa l.L.length xj, .slice xb l.ats.length xk, .slice xc l.ft.length xm] (wc.heap.size) (by simp)))
              have b7 := E8.out.bx 1 rfl
              have c7_0 := b7.cell 0 rfl
              have c7_1 := b7.cell 1 rfl
              have c7_2 := b7.cell 2 rfl
              have c7_3 := b7.cell 3 rfl
              clear b7
              have b8 := E8.out.bx 0 rfl
              have c8_0 := b8.cell 0 rfl
              have c8_1 := b8.cell 1 rfl
              have c8_2 := b8.cell 2 rfl
              have c8_3 := b8.cell 3 rfl
              clear b8
              go_wp2_with fail
              refine (rSame_c (goL l now) (E8.out.fc 2 rfl) (E8.out.fc 1 rfl) (E8.out.fc 0 rfl) (E8.out.fc 9 rfl) (E8.out.fc 8 rfl) (E8.out.fc 7 rfl) hgl).mono ?_
              rintro e w5 ⟨rfl, hb⟩
              have E9 : Hid (Env D w [(wc.heap.size, 64, [.int .i64 now, .slice xa l.L.length xj, .slice xb l.ats.length xk, .slice xc l.ft.length xm]), (w2.heap.size, 64, [.int .i64 ((goL l now)).nw, .slice ya ((goL l now)).L.length yj, .slice yb ((goL l now)).ats.length yk, .slice yc ((goL l now)).ft.length ym]), (w1.heap.size, 64, [.int .i64 (n).nw, .slice na (n).L.length nj, .slice nb (n).ats.length nk, .slice nc (n).ft.length nm]), (w.heap.size, 64, [.int .i64 l.nw, .slice xa l.L.length xj, .slice xb l.ats.length xk, .slice xc l.ft.length xm])] [.rw (.slice yc ((goL l now)).ft.length ym) ((goL l now)).ft.length 2 (fcl ((goL l now)).ft), .rw (.slice yb ((goL l now)).ats.length yk) ((goL l now)).ats.length 1 (icl ((goL l now)).ats), .ms (.slice ya ((goL l now)).L.length yj) ((goL l now)).L, .rw (.slice nc (n).ft.length nm) (n).ft.length 2 (fcl (n).ft), .rw (.slice nb (n).ats.length nk) (n).ats.length 1 (icl (n).ats), .ms (.slice na (n).L.length nj) (n).L, .rw (.slice fa ft.length fk) ft.length 2 (fcl ft), .rw (.slice xc l.ft.length xm) l.ft.length 2 (fcl l.ft), .rw (.slice xb l.ats.length xk) l.ats.length 1 (icl l.ats), .ms (.slice xa l.L.length xj) l.L] w5) := Lib.hid (E8.out.below hb)
              clear c5_0 c6_1 c6_2 c6_3 c7_0 c7_1 c7_2 c7_3 c8_0 c8_1 c8_2 c8_3 EC E8 hb
              have hfin := Lib.hid E9.out.bel
              go_wp2
              go_ret
              exact ⟨rfl, hfin.out⟩
theorem LineForms_walk (l : Lin) (ft : List (Int × Int)) (pt now : Int) {xa xb xc : Option Addr} {xj xk xm : Nat} {D : Nat → Prop} {w : World} (h1 : Fct.at w D (.ms (.slice xa l.L.length xj) l.L)) (h2 : Fct.at w D (.rw (.slice xb l.ats.length xk) l.ats.length 1 (icl l.ats))) (h3 : Fct.at w D (.rw (.slice xc l.ft.length xm) l.ft.length 2 (fcl l.ft))) {fa : Option Addr} {fk : Nat} (hf : Fct.at w D (.rw (.slice fa ft.length fk) ft.length 2 (fcl ft))) (_ : (Lit.int IntKind.i64 pt).wf = true) (_ : (Lit.int IntKind.i64 now).wf = true) :
    Calls Try.prog 10 #[.agg #[.int .i64 l.nw, .slice xa l.L.length xj, .slice xb l.ats.length xk, .slice xc l.ft.length xm], .slice fa ft.length fk, .int .i64 pt, .int .i64 now] w fun e w' => e = .returned (.bool true) ∧ Below w.heap.size w w' := by
  by_cases hF : Few l
  · by_cases c1 : 100 < ft.length ∧ ft.length ≤ 1000
    · exact forms_f2 l ft pt now h1 h2 h3 hf hF c1
    by_cases c2 : 1100 < ft.length
    · exact forms_f3 l ft pt now h1 h2 h3 hf hF c2
    exact forms_main l ft pt now h1 h2 h3 hf hF (by omega)
  · exact forms_f1 l ft pt now h1 h2 h3 hf hF
end Go.Proofs.Ytbcfcdcomboljaa

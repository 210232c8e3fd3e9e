/- two spends compared. -/
import Derived.Test.YtfnnfmefihiefaaSpA
import Derived.Test.YtfnnfmefihiefaaNatReg
import Derived.Test.YtfnnfmefihiefaaReg4
namespace Go.Proofs.Ytfnnfmefihiefaa
open Go.RowKit
set_option linter.unusedVariables false
set_option linter.unusedSimpArgs false
def HOk (p : List (List Value)) : Prop := ∀ c ∈ p, okc 27 c
theorem HOk.len {p : List (List Value)} (h : HOk p) : ∀ c ∈ p, c.length = 32 := fun c hc => (h c hc).len wHash
theorem RetEqB {a b : Bool} (h : a = b) : Ending.returned (.bool a) = Ending.returned (.bool b) := by rw [h]
theorem lt_of {i n : Nat} (h : ¬ i = n) (h2 : i ≤ n) : i < n := by omega
theorem Rw.triple {W : World} {D : Nat → Prop} {b off m j : Nat} {l : List (Int × Int × Int)} (h : Rw W D (.slice (some ⟨b, off, none⟩) m j) m 3 (lcl l)) (hn : m = l.length) {k : Nat} (hk : k < l.length) :
    W.cell? ⟨b, off + k * 3, none⟩ = some (.int .i64 l[k].1) ∧ W.cell? ⟨b, off + k * 3 + 1, none⟩ = some (.int .i64 l[k].2.1) ∧ W.cell? ⟨b, off + k * 3 + 2, none⟩ = some (.int .i64 l[k].2.2) := by
  obtain ⟨ao, cap, h1, _, _, _, _, h6⟩ := h
  obtain ⟨b', off', k1, k2, k3⟩ := h6 (by omega)
  cases h1
  cases k1
  obtain ⟨a1, a2, a3⟩ := lcl_get l k hk
  exact ⟨k3 _ _ a1, k3 _ _ a2, k3 _ _ a3⟩
set_option maxRecDepth 100000 in
set_option maxHeartbeats 2000000 in
theorem eqH {D : Nat → Prop} (p q : List (List Value)) {xa ya : Option Addr} {xk yk : Nat} {w : World} (hx : Fct.at w D (.rw (.slice xa p.length xk) p.length 32 p.flatten)) (hy : Fct.at w D (.rw (.slice ya q.length yk) q.length 32 q.flatten)) (hp0 : HOk p) (hq0 : HOk q) (hm : p.length ≤ 1000000 ∧ q.length ≤ 1000000) {t : Bool} (ht0 : t = true ↔ samePa p q) :
    Calls Try.prog 55 #[.slice xa p.length xk, .slice ya q.length yk] w fun e w' => e = .returned (.bool t) ∧ Below w.heap.size w w' := by
  have E0 : Hid (Env D w [] [.rw (.slice ya q.length yk) q.length 32 q.flatten, .rw (.slice xa p.length xk) p.length 32 p.flatten] w) := Lib.hid (((Env.start D w).arg (.rw (.slice xa p.length xk) p.length 32 p.flatten) hx).arg (.rw (.slice ya q.length yk) q.length 32 q.flatten) hy)
  clear hx hy
  go_enter Try.func55, Try.ntmps55
  have ht := Lib.hid ht0
  have hp := Lib.hid hp0
  have hq := Lib.hid hq0
  clear ht0 hp0 hq0
  by_cases hl : p.length = q.length
  rotate_left
  · have d1 : ((p.length : Int) == (q.length : Int)) = false := beq_eq_false_iff_ne.2 (by omega)
    have d1b : ((p.length : Int) != (q.length : Int)) = true := by rw [bne, d1]; rfl
    have d2 : (p.length == q.length) = false := beq_eq_false_iff_ne.2 hl
    have d2b : (p.length != q.length) = true := by rw [bne, d2]; rfl
    have HT : Hid (t = false) := Lib.hid (by cases t; (· rfl); exact absurd (ht.out.1 rfl).1 hl)
    have HL := Lib.hid hl
    clear hl ht
    have hfin := Lib.hid E0.out.bel
    go_wp2
    go_ret
    exact ⟨RetEqB HT.out.symm, hfin.out⟩
  have d1 : ((p.length : Int) == (q.length : Int)) = true := beq_iff_eq.2 (by omega)
  have d1b : ((p.length : Int) != (q.length : Int)) = false := by rw [bne, d1]; rfl
  have d2 : (p.length == q.length) = true := beq_iff_eq.2 hl
  have d2b : (p.length != q.length) = false := by rw [bne, d2]; rfl
  have HL := Lib.hid hl
  clear hl
  go_wp2_with fail
  go_loopg [13] (p.length) (fun gk s13 wr => ∃ (i : Nat), s13 = .int .i64 (i : Int) ∧ Hid (Env D w [] [.rw (.slice ya q.length yk) q.length 32 q.flatten, .rw (.slice xa p.length xk) p.length 32 p.flatten] wr) ∧ Hid ((i ≤ p.length ∧ gk = p.length - i) ∧ (∀ j (h : j < p.length) (h' : j < q.length), j < i → eqc 27 p[j] q[j])))
  case atStart => exact ⟨0, rfl, Lib.hid E0.out, Lib.hid ⟨⟨Nat.zero_le _, rfl⟩, fun j _ _ h => absurd h (Nat.not_lt_zero _)⟩⟩
  case round =>
    clear E0 d1 d1b d2 d2b
    obtain ⟨i, rfl, EL, HA⟩ := hrel
    obtain ⟨⟨a1, a2⟩, a3⟩ := HA.out
    have HS := Lib.hid a3
    clear a3 HA
    by_cases hy : i = p.length
    · have t6 : decide ((i : Int) < (p.length : Int)) = false := decide_eq_false (by omega)
      have t7 : decide (i < p.length) = false := decide_eq_false (by omega)
      have HT : Hid (t = true) := Lib.hid (ht.out.2 ⟨HL.out, fun k h h' => HS.out k h h' (by omega)⟩)
      have HY := Lib.hid hy
      clear hy
      have hfin := Lib.hid EL.out.bel
      go_wp2
      go_ret
      exact ⟨RetEqB HT.out.symm, hfin.out⟩
    have hi : i < p.length := lt_of hy a1
    have hj : i < q.length := by have := HL.out; omega
    have t6 : decide ((i : Int) < (p.length : Int)) = true := decide_eq_true (by omega)
    have t7 : decide (i < p.length) = true := decide_eq_true hi
    have hiI : (i : Int) < (p.length : Int) := by omega
    have hjI : (i : Int) < (q.length : Int) := by omega
    clear hy
    go_upto_region 6 with (fail)
    obtain ⟨xb, xo, rfl⟩ := Rw.addr (EL.out.fc 1 rfl) (by omega)
    obtain ⟨yb, yo, rfl⟩ := Rw.addr (EL.out.fc 0 rfl) (by omega)
    obtain ⟨c, hc⟩ : ∃ c, p[i] = c := ⟨_, rfl⟩
    obtain ⟨c2, hc2⟩ : ∃ c2, q[i] = c2 := ⟨_, rfl⟩
    have KC : Hid (okc 27 c) := Lib.hid (by rw [← hc]; exact hp.out _ (List.getElem_mem hi))
    have KD : Hid (okc 27 c2) := Lib.hid (by rw [← hc2]; exact hq.out _ (List.getElem_mem hj))
    obtain ⟨b, hb⟩ : ∃ b : Bool, b = true ↔ eqc 27 c c2 := by by_cases h : eqc 27 c c2; (· exact ⟨true, ⟨fun _ => h, fun _ => rfl⟩⟩); exact ⟨false, ⟨fun h2 => Bool.noConfusion h2, fun h2 => absurd h2 h⟩⟩
    have HN := neq_pl wHash KC.out KD.out hb
    have HB := Lib.hid hb
    have HC := Lib.hid hc
    have HC2 := Lib.hid hc2
    clear hc hc2 hb
    go_wp2_with fail
    have E1 : Hid (Env D w [] [.rw (.slice (some ⟨yb, yo, none⟩) q.length yk) q.length 32 q.flatten, .rw (.slice (some ⟨xb, xo, none⟩) p.length xk) p.length 32 p.flatten] (wr.drew)) := Lib.hid EL.out.drew
    clear EL
    refine wp_regionU (S := fun w' => w'.rangeAt xb (xo + i * 32) c ∧ w'.rangeAt yb (yo + i * 32) c2) [] (by kernel_rfl) (⟨(by have h := (E1.out.fc 1 rfl).whole rfl hp.out.len hi; rw [HC.out] at h; exact h), (by have h := (E1.out.fc 0 rfl).whole rfl hq.out.len hj; rw [HC2.out] at h; exact h)⟩) (fun hHeld => ?_)
    generalize wr.drew = w1 at *
    refine uTake (i := 0) (some 16) (v := ?_) rfl rfl (by kernel_rfl) (by kernel_rfl) (by kernel_rfl) (by kernel_rfl) (fun _ _ _ h => h) (by rfl) (by assumption) ?_ ?_
    rotate_left
    · (intro wS hSw; (try dsimp only at hSw); go_simp; try with_reducible rfl)
    try simp only [Act.put, List.setIfInBounds_toArray, List.set_cons_zero, List.set_cons_succ]
    refine uTake (i := 1) (some 17) (v := ?_) rfl rfl (by kernel_rfl) (by kernel_rfl) (by kernel_rfl) (by kernel_rfl) (fun _ _ _ h => h) (by rfl) (by assumption) ?_ ?_
    rotate_left
    · (intro wS hSw; (try dsimp only at hSw); go_simp; try with_reducible rfl)
    try simp only [Act.put, List.setIfInBounds_toArray, List.set_cons_zero, List.set_cons_succ]
    refine uTake (i := 2) (some 18) (v := ?_) rfl rfl (by kernel_rfl) (by kernel_rfl) (by kernel_rfl) (by kernel_rfl) (fun _ _ _ h => h) (by rfl) (by assumption) ?_ ?_
    rotate_left
    · (intro wS hSw; (try dsimp only at hSw); go_simp; try with_reducible rfl)
    try simp only [Act.put, List.setIfInBounds_toArray, List.set_cons_zero, List.set_cons_succ]
    refine uTake (i := 3) (some 19) (v := .agg c.toArray) rfl rfl (by kernel_rfl) (by kernel_rfl) (by kernel_rfl) (by kernel_rfl) (fun _ _ _ h => h) (by rfl) (by assumption) ?_ ?_
    · (intro wS hSw; (try dsimp only at hSw); exact exec_load_w wHash _ rfl xb (xo + i * 32) rfl c KC.out hSw.1)
    try simp only [Act.put, List.setIfInBounds_toArray, List.set_cons_zero, List.set_cons_succ]
    refine uTake (i := 4) (some 20) (v := ?_) rfl rfl (by kernel_rfl) (by kernel_rfl) (by kernel_rfl) (by kernel_rfl) (fun _ _ _ h => h) (by rfl) (by assumption) ?_ ?_
    rotate_left
    · (intro wS hSw; (try dsimp only at hSw); go_simp; try with_reducible rfl)
    try simp only [Act.put, List.setIfInBounds_toArray, List.set_cons_zero, List.set_cons_succ]
    refine uTake (i := 5) (some 21) (v := ?_) rfl rfl (by kernel_rfl) (by kernel_rfl) (by kernel_rfl) (by kernel_rfl) (fun _ _ _ h => h) (by rfl) (by assumption) ?_ ?_
    rotate_left
    · (intro wS hSw; (try dsimp only at hSw); go_simp; try with_reducible rfl)
    try simp only [Act.put, List.setIfInBounds_toArray, List.set_cons_zero, List.set_cons_succ]
    refine uTake (i := 6) (some 22) (v := ?_) rfl rfl (by kernel_rfl) (by kernel_rfl) (by kernel_rfl) (by kernel_rfl) (fun _ _ _ h => h) (by rfl) (by assumption) ?_ ?_
    rotate_left
    · (intro wS hSw; (try dsimp only at hSw); go_simp; try with_reducible rfl)
    try simp only [Act.put, List.setIfInBounds_toArray, List.set_cons_zero, List.set_cons_succ]
    refine uTake (i := 7) (some 23) (v := .agg c2.toArray) rfl rfl (by kernel_rfl) (by kernel_rfl) (by kernel_rfl) (by kernel_rfl) (fun _ _ _ h => h) (by rfl) (by assumption) ?_ ?_
    · (intro wS hSw; (try dsimp only at hSw); exact exec_load_w wHash _ rfl yb (yo + i * 32) rfl c2 KD.out hSw.2)
    try simp only [Act.put, List.setIfInBounds_toArray, List.set_cons_zero, List.set_cons_succ]
    refine uTake (i := 8) (some 24) (v := .bool (!b)) rfl rfl (by kernel_rfl) (by kernel_rfl) (by kernel_rfl) (by kernel_rfl) (fun _ _ _ h => h) (by rfl) (by assumption) ?_ ?_
    · (intro wS hSw; (try dsimp only at hSw); go_simp; try with_reducible rfl)
    try simp only [Act.put, List.setIfInBounds_toArray, List.set_cons_zero, List.set_cons_succ]
    refine uDone (by kernel_rfl) ?_ _
    cases b with
    | false =>
      have HT : Hid (t = false) := Lib.hid (by cases t; (· rfl); exfalso; have h := ht.out.1 rfl; have h2 := h.2 i hi hj; rw [HC.out, HC2.out] at h2; exact absurd (HB.out.2 h2) (by decide))
      have hfin := Lib.hid E1.out.bel
      go_wp2
      go_ret
      exact ⟨RetEqB HT.out.symm, hfin.out⟩
    | true =>
      have HS2 : Hid (∀ j (h : j < p.length) (h' : j < q.length), j < i + 1 → eqc 27 p[j] q[j]) := Lib.hid (fun j h h' hji => by by_cases e : j = i; (· subst e; rw [HC.out, HC2.out]; exact HB.out.1 rfl); exact HS.out j h h' (by omega))
      have EZ := Lib.hid E1.out
      go_wp2
      go_roundg (p.length - (i + 1))
      case rel => exact ⟨i + 1, rfl, EZ, Lib.hid ⟨⟨by omega, rfl⟩, HS2.out⟩⟩
      case measure => exact by omega
set_option maxRecDepth 100000 in
set_option maxHeartbeats 2000000 in
theorem eqL {D : Nat → Prop} (p q : List (Int × Int × Int)) {xa ya : Option Addr} {xk yk : Nat} {w : World} (hx : Fct.at w D (.rw (.slice xa p.length xk) p.length 3 (lcl p))) (hy : Fct.at w D (.rw (.slice ya q.length yk) q.length 3 (lcl q))) (hm : p.length ≤ 1000000 ∧ q.length ≤ 1000000) {t : Bool} (ht0 : t = true ↔ p = q) :
    Calls Try.prog 54 #[.slice xa p.length xk, .slice ya q.length yk] w fun e w' => e = .returned (.bool t) ∧ Below w.heap.size w w' := by
  have E0 : Hid (Env D w [] [.rw (.slice ya q.length yk) q.length 3 (lcl q), .rw (.slice xa p.length xk) p.length 3 (lcl p)] w) := Lib.hid (((Env.start D w).arg (.rw (.slice xa p.length xk) p.length 3 (lcl p)) hx).arg (.rw (.slice ya q.length yk) q.length 3 (lcl q)) hy)
  clear hx hy
  go_enter Try.func54, Try.ntmps54
  have ht := Lib.hid ht0
  clear ht0
  by_cases hl : p.length = q.length
  rotate_left
  · have d1 : ((p.length : Int) == (q.length : Int)) = false := beq_eq_false_iff_ne.2 (by omega)
    have d1b : ((p.length : Int) != (q.length : Int)) = true := by rw [bne, d1]; rfl
    have d2 : (p.length == q.length) = false := beq_eq_false_iff_ne.2 hl
    have d2b : (p.length != q.length) = true := by rw [bne, d2]; rfl
    have HT : Hid (t = false) := Lib.hid (by cases t; (· rfl); exact absurd (by rw [ht.out.1 rfl]) hl)
    have HL := Lib.hid hl
    clear hl ht
    have hfin := Lib.hid E0.out.bel
    go_wp2
    go_ret
    exact ⟨RetEqB HT.out.symm, hfin.out⟩
  have d1 : ((p.length : Int) == (q.length : Int)) = true := beq_iff_eq.2 (by omega)
  have d1b : ((p.length : Int) != (q.length : Int)) = false := by rw [bne, d1]; rfl
  have d2 : (p.length == q.length) = true := beq_iff_eq.2 hl
  have d2b : (p.length != q.length) = false := by rw [bne, d2]; rfl
  have HL := Lib.hid hl
  clear hl
  go_wp2_with fail
  go_loopg [13] (p.length) (fun gk s13 wr => ∃ (i : Nat), s13 = .int .i64 (i : Int) ∧ Hid (Env D w [] [.rw (.slice ya q.length yk) q.length 3 (lcl q), .rw (.slice xa p.length xk) p.length 3 (lcl p)] wr) ∧ Hid ((i ≤ p.length ∧ gk = p.length - i) ∧ (∀ j (h : j < p.length) (h' : j < q.length), j < i → p[j] = q[j])))
  case atStart => exact ⟨0, rfl, Lib.hid E0.out, Lib.hid ⟨⟨Nat.zero_le _, rfl⟩, fun j _ _ h => absurd h (Nat.not_lt_zero _)⟩⟩
  case round =>
    clear E0 d1 d1b d2 d2b
    obtain ⟨i, rfl, EL, HA⟩ := hrel
    obtain ⟨⟨a1, a2⟩, a3⟩ := HA.out
    have HS := Lib.hid a3
    clear a3 HA
    by_cases hy : i = p.length
    · have t6 : decide ((i : Int) < (p.length : Int)) = false := decide_eq_false (by omega)
      have t7 : decide (i < p.length) = false := decide_eq_false (by omega)
      have HT : Hid (t = true) := Lib.hid (ht.out.2 (List.ext_getElem HL.out fun k h h' => HS.out k h h' (by omega)))
      have HY := Lib.hid hy
      clear hy
      have hfin := Lib.hid EL.out.bel
      go_wp2
      go_ret
      exact ⟨RetEqB HT.out.symm, hfin.out⟩
    have hi : i < p.length := lt_of hy a1
    have hj : i < q.length := by have := HL.out; omega
    have t6 : decide ((i : Int) < (p.length : Int)) = true := decide_eq_true (by omega)
    have t7 : decide (i < p.length) = true := decide_eq_true hi
    have hiI : (i : Int) < (p.length : Int) := by omega
    have hjI : (i : Int) < (q.length : Int) := by omega
    clear hy
    go_upto_region 6 with (fail)
    obtain ⟨xb, xo, rfl⟩ := Rw.addr (EL.out.fc 1 rfl) (by omega)
    obtain ⟨yb, yo, rfl⟩ := Rw.addr (EL.out.fc 0 rfl) (by omega)
    obtain ⟨⟨c0, c1, c2⟩, hc⟩ : ∃ c, p[i] = c := ⟨_, rfl⟩
    obtain ⟨⟨e0, e1, e2⟩, he⟩ : ∃ c, q[i] = c := ⟨_, rfl⟩
    obtain ⟨b, hb⟩ : ∃ b, (c0 == e0 && (c1 == e1 && c2 == e2)) = b := ⟨_, rfl⟩
    have HB : Hid (b = true ↔ p[i] = q[i]) := Lib.hid (by rw [hc, he, ← hb]; simp)
    have HC := Lib.hid hc
    have HE := Lib.hid he
    clear hc he
    go_wp2_with fail
    have E1 : Hid (Env D w [] [.rw (.slice (some ⟨yb, yo, none⟩) q.length yk) q.length 3 (lcl q), .rw (.slice (some ⟨xb, xo, none⟩) p.length xk) p.length 3 (lcl p)] (wr.drew)) := Lib.hid EL.out.drew
    clear EL
    refine wp_regionU (S := fun w' => w'.cell? ⟨xb, xo + i * 3, none⟩ = some (.int .i64 c0) ∧ w'.cell? ⟨xb, xo + i * 3 + 1, none⟩ = some (.int .i64 c1) ∧ w'.cell? ⟨xb, xo + i * 3 + 2, none⟩ = some (.int .i64 c2) ∧ w'.cell? ⟨yb, yo + i * 3, none⟩ = some (.int .i64 e0) ∧ w'.cell? ⟨yb, yo + i * 3 + 1, none⟩ = some (.int .i64 e1) ∧ w'.cell? ⟨yb, yo + i * 3 + 2, none⟩ = some (.int .i64 e2)) [] (by kernel_rfl) (⟨(by have h := ((E1.out.fc 1 rfl).triple rfl hi); rw [HC.out] at h; exact h.1), (by have h := ((E1.out.fc 1 rfl).triple rfl hi); rw [HC.out] at h; exact h.2.1), (by have h := ((E1.out.fc 1 rfl).triple rfl hi); rw [HC.out] at h; exact h.2.2), (by have h := ((E1.out.fc 0 rfl).triple rfl hj); rw [HE.out] at h; exact h.1), (by have h := ((E1.out.fc 0 rfl).triple rfl hj); rw [HE.out] at h; exact h.2.1), (by have h := ((E1.out.fc 0 rfl).triple rfl hj); rw [HE.out] at h; exact h.2.2)⟩) (fun hHeld => ?_)
    generalize wr.drew = w1 at *
    refine uTake (i := 0) (some 16) (v := ?_) rfl rfl (by kernel_rfl) (by kernel_rfl) (by kernel_rfl) (by kernel_rfl) (fun _ _ _ h => h) (by rfl) (by assumption) ?_ ?_
    rotate_left
    · (intro wS hSw; (try dsimp only at hSw); go_simp; try with_reducible rfl)
    try simp only [Act.put, List.setIfInBounds_toArray, List.set_cons_zero, List.set_cons_succ]
    refine uTake (i := 1) (some 17) (v := ?_) rfl rfl (by kernel_rfl) (by kernel_rfl) (by kernel_rfl) (by kernel_rfl) (fun _ _ _ h => h) (by rfl) (by assumption) ?_ ?_
    rotate_left
    · (intro wS hSw; (try dsimp only at hSw); go_simp; try with_reducible rfl)
    try simp only [Act.put, List.setIfInBounds_toArray, List.set_cons_zero, List.set_cons_succ]
    refine uTake (i := 2) (some 18) (v := ?_) rfl rfl (by kernel_rfl) (by kernel_rfl) (by kernel_rfl) (by kernel_rfl) (fun _ _ _ h => h) (by rfl) (by assumption) ?_ ?_
    rotate_left
    · (intro wS hSw; (try dsimp only at hSw); go_simp; try with_reducible rfl)
    try simp only [Act.put, List.setIfInBounds_toArray, List.set_cons_zero, List.set_cons_succ]
    refine uTake (i := 3) (some 19) (v := ?_) rfl rfl (by kernel_rfl) (by kernel_rfl) (by kernel_rfl) (by kernel_rfl) (fun _ _ _ h => h) (by rfl) (by assumption) ?_ ?_
    rotate_left
    · (intro wS hSw; (try dsimp only at hSw); go_simp; try with_reducible rfl)
    try simp only [Act.put, List.setIfInBounds_toArray, List.set_cons_zero, List.set_cons_succ]
    refine uTake (i := 4) (some 20) (v := ?_) rfl rfl (by kernel_rfl) (by kernel_rfl) (by kernel_rfl) (by kernel_rfl) (fun _ _ _ h => h) (by rfl) (by assumption) ?_ ?_
    rotate_left
    · (intro wS hSw; (try dsimp only at hSw); go_simp; try with_reducible rfl)
    try simp only [Act.put, List.setIfInBounds_toArray, List.set_cons_zero, List.set_cons_succ]
    refine uTake (i := 5) (some 21) (v := ?_) rfl rfl (by kernel_rfl) (by kernel_rfl) (by kernel_rfl) (by kernel_rfl) (fun _ _ _ h => h) (by rfl) (by assumption) ?_ ?_
    rotate_left
    · (intro wS hSw; (try dsimp only at hSw); go_simp; try with_reducible rfl)
    try simp only [Act.put, List.setIfInBounds_toArray, List.set_cons_zero, List.set_cons_succ]
    refine uTake (i := 6) (some 22) (v := ?_) rfl rfl (by kernel_rfl) (by kernel_rfl) (by kernel_rfl) (by kernel_rfl) (fun _ _ _ h => h) (by rfl) (by assumption) ?_ ?_
    rotate_left
    · (intro wS hSw; (try dsimp only at hSw); go_simp; try with_reducible rfl)
    try simp only [Act.put, List.setIfInBounds_toArray, List.set_cons_zero, List.set_cons_succ]
    refine uTake (i := 7) (some 23) (v := ?_) rfl rfl (by kernel_rfl) (by kernel_rfl) (by kernel_rfl) (by kernel_rfl) (fun _ _ _ h => h) (by rfl) (by assumption) ?_ ?_
    rotate_left
    · (intro wS hSw; (try dsimp only at hSw); go_simp; try with_reducible rfl)
    try simp only [Act.put, List.setIfInBounds_toArray, List.set_cons_zero, List.set_cons_succ]
    refine uTake (i := 8) (some 24) (v := .bool (!b)) rfl rfl (by kernel_rfl) (by kernel_rfl) (by kernel_rfl) (by kernel_rfl) (fun _ _ _ h => h) (by rfl) (by assumption) ?_ ?_
    · (intro wS hSw; (try dsimp only at hSw); go_simp; rw [← hb]; by_cases h0 : c0 = e0 <;> by_cases h1 : c1 = e1 <;> by_cases h2 : c2 = e2 <;> simp [h0, h1, h2])
    try simp only [Act.put, List.setIfInBounds_toArray, List.set_cons_zero, List.set_cons_succ]
    refine uDone (by kernel_rfl) ?_ _
    cases b with
    | false =>
      have HT : Hid (t = false) := Lib.hid (by cases t; (· rfl); exfalso; have h := ht.out.1 rfl; subst h; exact absurd (HB.out.2 rfl) (by decide))
      have hfin := Lib.hid E1.out.bel
      go_wp2
      go_ret
      exact ⟨RetEqB HT.out.symm, hfin.out⟩
    | true =>
      have HS2 : Hid (∀ j (h : j < p.length) (h' : j < q.length), j < i + 1 → p[j] = q[j]) := Lib.hid (fun j h h' hji => by by_cases e : j = i; (· subst e; exact HB.out.1 rfl); exact HS.out j h h' (by omega))
      have EZ := Lib.hid E1.out
      go_wp2
      go_roundg (p.length - (i + 1))
      case rel => exact ⟨i + 1, rfl, EZ, Lib.hid ⟨⟨by omega, rfl⟩, HS2.out⟩⟩
      case measure => exact by omega
end Go.Proofs.Ytfnnfmefihiefaa

/- Next and Root of both. -/
import Derived.Test.YtinlfogpbologaaDoorPriH
namespace Go.Proofs.YtinlfogpbologaaDoor
open Go.RowKit DivMath WordMath
set_option linter.unusedVariables false
set_option linter.unusedSimpArgs false
set_option maxRecDepth 100000 in
set_option maxHeartbeats 1000000 in
theorem Next_c {D : Nat → Prop} (n m : Nat) {w : World}  (hl0 : Laid w) (hn9 : (n : Int) ≤ 2305843009213693950) (hx0 : Pri.Nx n m) (hm0 : (m : Int) ≤ 2305843009213693951) :
    Calls Tryd.prog 54 #[.int .i64 (n : Nat)] w fun e w' => e = .returned (.tuple #[.int .i64 (m : Nat), .int .i64 0]) ∧ Below w.heap.size w w' := by
  have E0 : Hid (Env D w [] [] w) := Lib.hid (Env.start D w)
  go_enter Tryd.func54, Tryd.ntmps54
  have hx := Lib.hid hx0
  have hnm := hx0.1
  clear hx0
  have hl := Lib.hid hl0
  clear hl0
  have d1 : decide ((n : Int) < 0) = false := decide_eq_false (by omega)
  have d2 : decide ((2305843009213693950 : Int) < (n : Int)) = false := decide_eq_false (by omega)
  have d3 : decide (2305843009213693950 < n) = false := decide_eq_false (by omega)
  obtain ⟨n1, hn1⟩ : ∃ n1, n1 = n + 1 := ⟨_, rfl⟩
  have e1 : (n : Int) + 1 = (n1 : Int) := by omega
  have HN1 := Lib.hid hn1
  clear hn1
  go_wp2_with fail
  go_loopg [0] (m - n1) (fun gk s0 wr => ∃ (k : Nat), s0 = .int .i64 (k : Int) ∧ Hid (Env D w [] [] wr) ∧ Hid ((n < k ∧ k ≤ m ∧ gk = m - k)))
  case atStart => exact ⟨n1, rfl, Lib.hid E0.out, Lib.hid ⟨by have := HN1.out; omega, by have := HN1.out; omega, rfl⟩⟩
  case round =>
    clear E0
    obtain ⟨k, rfl, EL, HA⟩ := hrel
    obtain ⟨a1, a2, a3⟩ := HA.out
    clear HA e1
    clear d1 d2 d3
    by_cases hy : k = m
    · subst hy
      have HI : Hid (Pri.isP ((k : Int).toNat) = true) := Lib.hid (by rw [Int.toNat_natCast]; exact hx.out.2.1)
      go_wp2_with fail
      refine (IsB (k : Int) _ (hl.out.below EL.out.bel) (by omega) HI.out).mono ?_
      rintro e w1 ⟨rfl, hb⟩
      have E1 : Hid (Env D w [] [] w1) := Lib.hid (EL.out.below hb)
      clear EL hb
      have hfin := Lib.hid E1.out.bel
      go_wp2
      go_ret2
      exact ⟨rfl, hfin.out⟩
    have hk : k < m := by omega
    have HI : Hid (Pri.isP ((k : Int).toNat) = false) := Lib.hid (by rw [Int.toNat_natCast]; exact hx.out.2.2 k a1 hk)
    clear hy
    go_wp2_with fail
    refine (IsB (k : Int) _ (hl.out.below EL.out.bel) (by omega) HI.out).mono ?_
    rintro e w1 ⟨rfl, hb⟩
    have E1 : Hid (Env D w [] [] w1) := Lib.hid (EL.out.below hb)
    clear EL hb
    have EZ := Lib.hid E1.out
    go_wp2
    go_roundg (m - (k + 1))
    case rel => exact ⟨k + 1, rfl, EZ, Lib.hid ⟨by omega, by omega, rfl⟩⟩
    case measure => exact by omega
set_option maxRecDepth 100000 in
set_option maxHeartbeats 1000000 in
theorem rNext_c {D : Nat → Prop} (n m : Nat) {w : World}  (hn9 : (n : Int) ≤ 2305843009213693950) (hx0 : Pri.Nx n m) (hm0 : (m : Int) ≤ 2305843009213693951) :
    Calls Tryd.prog 56 #[.int .i64 (n : Nat)] w fun e w' => e = .returned (.int .i64 (m : Nat)) ∧ Below w.heap.size w w' := by
  have E0 : Hid (Env D w [] [] w) := Lib.hid (Env.start D w)
  go_enter Tryd.func56, Tryd.ntmps56
  have hx := Lib.hid hx0
  have hnm := hx0.1
  clear hx0
  obtain ⟨n1, hn1⟩ : ∃ n1, n1 = n + 1 := ⟨_, rfl⟩
  have e1 : (n : Int) + 1 = (n1 : Int) := by omega
  have HN1 := Lib.hid hn1
  clear hn1
  go_wp2_with fail
  go_loopg [0] (m - n1) (fun gk s0 wr => ∃ (k : Nat), s0 = .int .i64 (k : Int) ∧ Hid (Env D w [] [] wr) ∧ Hid ((n < k ∧ k ≤ m ∧ gk = m - k)))
  case atStart => exact ⟨n1, rfl, Lib.hid E0.out, Lib.hid ⟨by have := HN1.out; omega, by have := HN1.out; omega, rfl⟩⟩
  case round =>
    clear E0
    obtain ⟨k, rfl, EL, HA⟩ := hrel
    obtain ⟨a1, a2, a3⟩ := HA.out
    clear HA e1
    by_cases hy : k = m
    · subst hy
      have HI : Hid (Pri.isP ((k : Int).toNat) = true) := Lib.hid (by rw [Int.toNat_natCast]; exact hx.out.2.1)
      go_wp2_with fail
      refine (rIsB (k : Int) _ (by omega) HI.out).mono ?_
      rintro e w1 ⟨rfl, hb⟩
      have E1 : Hid (Env D w [] [] w1) := Lib.hid (EL.out.below hb)
      clear EL hb
      have hfin := Lib.hid E1.out.bel
      go_wp2
      go_ret
      exact ⟨rfl, hfin.out⟩
    have hk : k < m := by omega
    have HI : Hid (Pri.isP ((k : Int).toNat) = false) := Lib.hid (by rw [Int.toNat_natCast]; exact hx.out.2.2 k a1 hk)
    clear hy
    go_wp2_with fail
    refine (rIsB (k : Int) _ (by omega) HI.out).mono ?_
    rintro e w1 ⟨rfl, hb⟩
    have E1 : Hid (Env D w [] [] w1) := Lib.hid (EL.out.below hb)
    clear EL hb
    have EZ := Lib.hid E1.out
    go_wp2
    go_roundg (m - (k + 1))
    case rel => exact ⟨k + 1, rfl, EZ, Lib.hid ⟨by omega, by omega, rfl⟩⟩
    case measure => exact by omega
set_option maxRecDepth 100000 in
set_option maxHeartbeats 1000000 in
theorem Next_no {D : Nat → Prop} (n : Int) {w : World}  (hn : n < 0 ∨ 2305843009213693950 < n) :
    Calls Tryd.prog 54 #[.int .i64 n] w fun e w' => e = .returned (.tuple #[.int .i64 0, .int .i64 2]) ∧ Below w.heap.size w w' := by
  have E0 : Hid (Env D w [] [] w) := Lib.hid (Env.start D w)
  go_enter Tryd.func54, Tryd.ntmps54
  by_cases h : n < 0
  · have d1 : decide (n < 0) = true := decide_eq_true h
    have hfin := Lib.hid E0.out.bel
    go_wp2
    go_ret2
    exact ⟨rfl, hfin.out⟩
  have d1 : decide (n < 0) = false := decide_eq_false h
  have d2 : decide ((2305843009213693950 : Int) < n) = true := decide_eq_true (by omega)
  clear hn
  have hfin := Lib.hid E0.out.bel
  go_wp2
  go_ret2
  exact ⟨rfl, hfin.out⟩
theorem Env.freezeI {D0 : Nat → Prop} {w W : World} {F : List Bx} {G : List Fct} {g cap : Nat} {T : TypeId} {rs : List Value} (l : List Int) (E : Env D0 w ((g, T, icl l ++ rs) :: F) G W) (hn : l.length ≤ cap) (hc : cap ≤ 9223372036854775807) : Env D0 w F (.rw (.slice (some ⟨g, 0, none⟩) l.length cap) l.length 1 (icl l) :: G) W := by
  have hB := E.box.1
  refine E.drop.note _ ⟨some ⟨g, 0, none⟩, cap, rfl, hn, by omega, icl_len l, icl_one l, fun _ => ⟨g, 0, rfl, ⟨hB.lt, fun p hp => E.box.2.1 p hp, .inr hB.1⟩, fun i u hu => ?_⟩⟩
  rw [Nat.zero_add]
  refine hB.cell i ?_
  have hi : i < (icl l).length := (List.getElem?_eq_some_iff.1 hu).1
  rw [List.getElem?_append_left hi]; exact hu
theorem erase_perm : ∀ (F : List Bx) (i : Nat) (h : i < F.length), F.Perm (F[i] :: F.eraseIdx i)
  | x :: F, 0, _ => List.Perm.refl _
  | x :: F, i + 1, h => ((erase_perm F i (by simpa using h)).cons x).trans (List.Perm.swap _ _ _)
theorem Env.dropAt {D0 : Nat → Prop} {w W : World} {G : List Fct} : ∀ (i : Nat) {F : List Bx}, Env D0 w F G W → Env D0 w (F.eraseIdx i) G W := fun i F E => by
  by_cases h : i < F.length
  · have hp : F.Perm (F[i] :: F.eraseIdx i) := erase_perm F i h
    exact (E.perm hp).drop
  · rw [List.eraseIdx_of_length_le (by omega)]; exact E
theorem below_c (q : Int) (w : World) {t : Bool} (hl : Laid w) (hn : -9223372036854775808 ≤ q ∧ q ≤ 9223372036854775807) (ht : (decide (q < 2305843009213693952) && Pri.isP q.toNat) = t) :
    Calls Tryd.prog 92 #[.int .i64 q] w fun e w' => e = .returned (.bool t) ∧ Below w.heap.size w w' := by
  by_cases h : q < 2305843009213693952
  · have d1 : decide (q < 2305843009213693952) = true := decide_eq_true h
    rw [d1, Bool.true_and] at ht
    have cc := IsB q w hl hn ht
    have CC := Lib.hid cc
    clear ht cc hn h hl
    go_enter Tryd.func92, Tryd.ntmps92
    go_wp2_with fail
    refine CC.out.mono ?_
    rintro e w1 ⟨rfl, hb⟩
    go_wp2
    go_ret
    exact ⟨rfl, hb⟩
  · have d1 : decide (q < 2305843009213693952) = false := decide_eq_false h
    rw [d1, Bool.false_and] at ht
    subst ht
    clear hl
    go_enter Tryd.func92, Tryd.ntmps92
    go_wp2
    go_ret
    exact ⟨rfl, Below.refl _ _⟩
set_option maxRecDepth 100000 in
set_option maxHeartbeats 1000000 in
theorem root1_a {D : Nat → Prop} (p r f x e g1 g2 : Nat) {w : World} (h1 : Fct.at w D (.ce g1 0 (.int .i64 (r : Nat)))) (h2 : Fct.at w D (.ce g2 0 (.int .i64 (p : Nat)))) (hp : 2 ≤ (p : Int)) (hT : (p : Int) < Top) (hf : 2 ≤ (f : Int)) (he : (p - 1) / f = e) (hx : (r < p ∧ r ^ e % p = x) ∨ (r = p ∧ x = 0)) {t : Bool} (ht : decide (x = 1) = t) :
    Calls Tryd.prog 129 #[.int .i64 (f : Nat), .pointer (some ⟨g1, 0, none⟩), .pointer (some ⟨g2, 0, none⟩)] w fun e w' => e = .returned (.bool t) ∧ Below w.heap.size w w' := by
  have E0 : Hid (Env D w [] [.ce g2 0 (.int .i64 (p : Nat)), .ce g1 0 (.int .i64 (r : Nat))] w) := Lib.hid (((Env.start D w).arg (.ce g1 0 (.int .i64 (r : Nat))) h1).arg (.ce g2 0 (.int .i64 (p : Nat))) h2)
  clear h1 h2
  go_enter Tryd.func129, Tryd.ntmps129
  have hT9 : (p : Int) ≤ 2305843009213693951 := by unfold Top at hT; omega
  have d1 : (p : Int) - 1 = ((p - 1 : Nat) : Int) := by omega
  obtain ⟨p1, hp1⟩ : ∃ p1, p1 = p - 1 := ⟨_, rfl⟩
  rw [← hp1] at d1 he
  have d2 : (p1 : Int) / (f : Int) = (e : Int) := by rw [← he]; rfl
  have d3 : ((f : Int) == 0) = false := beq_eq_false_iff_ne.2 (by omega)
  have hp9 : (p1 : Int) ≤ 2305843009213693951 := by omega
  have w1 : IntKind.i64.wrap (p1 : Int) = (p1 : Int) := by rw [IntKind.wrap_i64]; omega
  have hee : (e : Int) ≤ 9223372036854775807 := by have := Nat.div_le_self p1 f; omega
  have w2 : IntKind.i64.wrap ((p1 : Int).tdiv (f : Int)) = (e : Int) := by rw [Int.tdiv_eq_ediv_of_nonneg (by omega), d2, IntKind.wrap_i64]; omega
  have hf0 : ¬ (f = 0) := by omega
  have w3 : IntKind.i64.wrap (e : Int) = (e : Int) := by rw [IntKind.wrap_i64]; omega
  have tx : ((x : Int) == 1) = t := by rw [← ht, Bool.eq_iff_iff, beq_iff_eq, decide_eq_true_eq]; omega
  have PW : ∀ w : World, Calls Tryd.prog 130 #[.int .i64 (r : Nat), .int .i64 (e : Nat), .int .i64 (p : Nat)] w fun e w' => (∃ c, e = .returned (.tuple #[.int .i64 (x : Nat), .int .i64 c])) ∧ Below w.heap.size w w' := by
    intro w
    rcases hx with ⟨hr, hx⟩ | ⟨rfl, rfl⟩
    · refine (Pow_ok r e p w (by omega) hee hT).mono ?_
      rintro e' w' ⟨⟨y, hy, rfl⟩, hq⟩
      exact ⟨⟨0, by rw [← hx, ← hy.out]⟩, hq.below⟩
    · refine (Pow_err r e r w (by unfold chk; simp; omega)).mono ?_
      rintro e' w' ⟨rfl, rfl⟩
      exact ⟨⟨_, rfl⟩, Below.refl _ _⟩
  have PP := Lib.hid PW
  have HP := Lib.hid hp1
  have HT := Lib.hid hT
  clear hx PW he hT ht hp1
  go_wp2_with fail
  have E1 : Hid (Env D w [] [.ce g2 0 (.int .i64 (p : Nat)), .ce g1 0 (.int .i64 (r : Nat))] (w.drew)) := Lib.hid E0.out.drew
  clear E0
  refine wp_regionU (S := fun w' => w'.cell? ⟨g1, 0, none⟩ = some (.int .i64 (r : Nat)) ∧ w'.cell? ⟨g2, 0, none⟩ = some (.int .i64 (p : Nat))) [] (by kernel_rfl) (⟨(E1.out.fc 1 rfl).2, (E1.out.fc 0 rfl).2⟩) (fun hHeld => ?_)
  generalize w.drew = w1 at *
  refine uTake (i := 0) (some 8) (v := ?_) rfl rfl (by kernel_rfl) (by kernel_rfl) (by kernel_rfl) (by kernel_rfl) (fun _ _ _ h => h) (by rfl) (by assumption) ?_ ?_
  rotate_left
  · (intro wS hSw; (try dsimp only at hSw); go_simp; try with_reducible rfl)
  try simp only [Act.put, List.setIfInBounds_toArray, List.set_cons_zero, List.set_cons_succ]
  refine uTake (i := 1) (some 9) (v := ?_) rfl rfl (by kernel_rfl) (by kernel_rfl) (by kernel_rfl) (by kernel_rfl) (fun _ _ _ h => h) (by rfl) (by assumption) ?_ ?_
  rotate_left
  · (intro wS hSw; (try dsimp only at hSw); go_simp; try with_reducible rfl)
  try simp only [Act.put, List.setIfInBounds_toArray, List.set_cons_zero, List.set_cons_succ]
  refine uTake (i := 2) (some 10) (v := ?_) rfl rfl (by kernel_rfl) (by kernel_rfl) (by kernel_rfl) (by kernel_rfl) (fun _ _ _ h => h) (by rfl) (by assumption) ?_ ?_
  rotate_left
  · (intro wS hSw; (try dsimp only at hSw); go_simp; try with_reducible rfl)
  try simp only [Act.put, List.setIfInBounds_toArray, List.set_cons_zero, List.set_cons_succ]
  refine uTake (i := 3) (some 11) (v := ?_) rfl rfl (by kernel_rfl) (by kernel_rfl) (by kernel_rfl) (by kernel_rfl) (fun _ _ _ h => h) (by rfl) (by assumption) ?_ ?_
  rotate_left
  · (intro wS hSw; (try dsimp only at hSw); go_simp; try with_reducible rfl)
  try simp only [Act.put, List.setIfInBounds_toArray, List.set_cons_zero, List.set_cons_succ]
  refine uTake (i := 4) (some 12) (v := ?_) rfl rfl (by kernel_rfl) (by kernel_rfl) (by kernel_rfl) (by kernel_rfl) (fun _ _ _ h => h) (by rfl) (by assumption) ?_ ?_
  rotate_left
  · (intro wS hSw; (try dsimp only at hSw); go_simp; try with_reducible rfl)
  try simp only [Act.put, List.setIfInBounds_toArray, List.set_cons_zero, List.set_cons_succ]
  refine uTake (i := 5) (some 13) (v := ?_) rfl rfl (by kernel_rfl) (by kernel_rfl) (by kernel_rfl) (by kernel_rfl) (fun _ _ _ h => h) (by rfl) (by assumption) ?_ ?_
  rotate_left
  · (intro wS hSw; (try dsimp only at hSw); go_simp; try with_reducible rfl)
  try simp only [Act.put, List.setIfInBounds_toArray, List.set_cons_zero, List.set_cons_succ]
  refine uReady (rs := [6]) (by kernel_rfl) (by simp) ?_
  refine ReadyU.cons rfl (fun KK hKK => ?_) ReadyU.nil
  go_simp
  refine (PP.out _).mono ?_
  rintro e w2 ⟨⟨c, rfl⟩, hb⟩
  have E2 : Hid (Env D w [] [.ce g2 0 (.int .i64 (p : Nat)), .ce g1 0 (.int .i64 (r : Nat))] w2) := Lib.hid (E1.out.below hb)
  clear E1 hb
  (try dsimp only)
  clear hHeld
  refine hKK.out _ _ (⟨(E2.out.fc 1 rfl).2, (E2.out.fc 0 rfl).2⟩) (fun hHeld => ?_)
  clear hKK KK
  try simp only [Act.put, List.setIfInBounds_toArray, List.set_cons_zero, List.set_cons_succ]
  refine uTake (i := 7) (some 7) (v := ?_) rfl rfl (by kernel_rfl) (by kernel_rfl) (by kernel_rfl) (by kernel_rfl) (fun _ _ _ h => h) (by rfl) (by assumption) ?_ ?_
  rotate_left
  · (intro wS hSw; (try dsimp only at hSw); go_simp; try with_reducible rfl)
  try simp only [Act.put, List.setIfInBounds_toArray, List.set_cons_zero, List.set_cons_succ]
  refine uTake (i := 8) (some 15) (v := ?_) rfl rfl (by kernel_rfl) (by kernel_rfl) (by kernel_rfl) (by kernel_rfl) (fun _ _ _ h => h) (by rfl) (by assumption) ?_ ?_
  rotate_left
  · (intro wS hSw; (try dsimp only at hSw); go_simp; try with_reducible rfl)
  try simp only [Act.put, List.setIfInBounds_toArray, List.set_cons_zero, List.set_cons_succ]
  refine uTake (i := 9) (some 16) (v := ?_) rfl rfl (by kernel_rfl) (by kernel_rfl) (by kernel_rfl) (by kernel_rfl) (fun _ _ _ h => h) (by rfl) (by assumption) ?_ ?_
  rotate_left
  · (intro wS hSw; (try dsimp only at hSw); go_simp; try with_reducible rfl)
  try simp only [Act.put, List.setIfInBounds_toArray, List.set_cons_zero, List.set_cons_succ]
  refine uTake (i := 10) (some 5) (v := ?_) rfl rfl (by kernel_rfl) (by kernel_rfl) (by kernel_rfl) (by kernel_rfl) (fun _ _ _ h => h) (by rfl) (by assumption) ?_ ?_
  rotate_left
  · (intro wS hSw; (try dsimp only at hSw); go_simp; try with_reducible rfl)
  try simp only [Act.put, List.setIfInBounds_toArray, List.set_cons_zero, List.set_cons_succ]
  refine uTake (i := 11) (some 6) (v := ?_) rfl rfl (by kernel_rfl) (by kernel_rfl) (by kernel_rfl) (by kernel_rfl) (fun _ _ _ h => h) (by rfl) (by assumption) ?_ ?_
  rotate_left
  · (intro wS hSw; (try dsimp only at hSw); go_simp; try with_reducible rfl)
  try simp only [Act.put, List.setIfInBounds_toArray, List.set_cons_zero, List.set_cons_succ]
  refine uDone (by kernel_rfl) ?_ _
  have hfin := Lib.hid E2.out.bel
  go_wp2
  go_ret
  exact ⟨rfl, hfin.out⟩
def LtTop (p : Nat) : Prop := (p : Int) < Top
def InP (p : Nat) (l : List Int) : Prop := ∀ x ∈ l, 2 ≤ x ∧ x ≤ (p : Int) - 1
theorem root1_c {D : Nat → Prop} (p r : Nat) (x : Int) (g1 g2 : Nat) (w : World) (h1 : Fct.at w D (.ce g1 0 (.int .i64 (r : Nat)))) (h2 : Fct.at w D (.ce g2 0 (.int .i64 (p : Nat)))) (hp : 2 ≤ p) (hT : (p : Int) < Top) (hrp : r ≤ p) (hf : 2 ≤ x ∧ x ≤ (p : Int) - 1) {t : Bool} (ht : Pri.small p r x = t) :
    Calls Tryd.prog 129 #[.int .i64 x, .pointer (some ⟨g1, 0, none⟩), .pointer (some ⟨g2, 0, none⟩)] w fun e w' => e = .returned (.bool t) ∧ Below w.heap.size w w' := by
  obtain ⟨f, rfl⟩ : ∃ f : Nat, x = (f : Int) := ⟨x.toNat, by omega⟩
  unfold Pri.small at ht
  rw [Int.toNat_natCast] at ht
  by_cases h : r < p
  · exact root1_a p r f _ _ g1 g2 h1 h2 (by omega) hT hf.1 rfl (.inl ⟨h, rfl⟩) ht
  · have e : r = p := by omega
    subst e
    have he : 0 < (r - 1) / f := Nat.div_pos (by omega) (by omega)
    obtain ⟨e, he2⟩ : ∃ e, (r - 1) / f = e + 1 := ⟨(r - 1) / f - 1, by omega⟩
    rw [he2, Nat.pow_succ, Nat.mul_mod_left] at ht
    exact root1_a r r f 0 _ g1 g2 h1 h2 (by omega) hT hf.1 rfl (.inr ⟨rfl, rfl⟩) ht
set_option maxRecDepth 100000 in
set_option maxHeartbeats 1000000 in
theorem rtI {D : Nat → Prop} (l : List Int) (p : Nat) (ro : Nat) (g1 : Nat) (g2 : Nat) {xa : Option Addr} {xk : Nat} {w : World} (hx : Fct.at w D (.rw (.slice xa l.length xk) l.length 1 (icl l))) (h1 : Fct.at w D (.ce g1 0 (.int .i64 (ro : Nat)))) (h2 : Fct.at w D (.ce g2 0 (.int .i64 (p : Nat)))) (hp : 2 ≤ p) (hT : LtTop p) (hrp : ro ≤ p) (hall : Hid (InP p l)) {r : Int} (hr0 : (r = -1 ∧ ∀ k (h : k < l.length), Pri.small p ro l[k] = false) ∨ ∃ k : Nat, r = (k : Int) ∧ ∃ h : k < l.length, Pri.small p ro l[k] = true ∧ ∀ j (h : j < l.length), j < k → Pri.small p ro l[j] = false) (hm : l.length ≤ 1000000) :
    Calls Tryd.prog 138 #[.slice xa l.length xk, .func (.func 129) #[] #[.pointer (some ⟨g1, 0, none⟩), .pointer (some ⟨g2, 0, none⟩)]] w fun e w' => e = .returned (.int .i64 r) ∧ Below w.heap.size w w' := by
  have E0 : Hid (Env D w [] [.ce g2 0 (.int .i64 (p : Nat)), .ce g1 0 (.int .i64 (ro : Nat)), .rw (.slice xa l.length xk) l.length 1 (icl l)] w) := Lib.hid ((((Env.start D w).arg (.rw (.slice xa l.length xk) l.length 1 (icl l)) hx).arg (.ce g1 0 (.int .i64 (ro : Nat))) h1).arg (.ce g2 0 (.int .i64 (p : Nat))) h2)
  clear hx h1 h2
  go_enter Tryd.func138, Tryd.ntmps138
  have hr := Lib.hid hr0
  clear hr0
  go_wp2_with fail
  go_loopg [8] (l.length) (fun gk s8 wr => ∃ (k : Nat), s8 = .int .i64 (k : Int) ∧ Hid (Env D w [] [.ce g2 0 (.int .i64 (p : Nat)), .ce g1 0 (.int .i64 (ro : Nat)), .rw (.slice xa l.length xk) l.length 1 (icl l)] wr) ∧ Hid ((k ≤ l.length ∧ gk = l.length - k) ∧ ∀ j (h : j < l.length), j < k → Pri.small p ro l[j] = false))
  case atStart => exact ⟨0, rfl, Lib.hid E0.out, Lib.hid ⟨⟨Nat.zero_le _, rfl⟩, fun j _ h => absurd h (Nat.not_lt_zero _)⟩⟩
  case round =>
    clear E0
    obtain ⟨k, rfl, EL, HA⟩ := hrel
    obtain ⟨⟨a1, a2⟩, a3⟩ := HA.out
    have HS := Lib.hid a3
    clear a3 HA
    by_cases hy : k = l.length
    rotate_left
    · have hk : k < l.length := by omega
      have t6 : decide ((k : Int) < (l.length : Int)) = true := decide_eq_true (by omega)
      have t7 : decide (k < l.length) = true := decide_eq_true hk
      clear hy
      obtain ⟨xab, xao, rfl⟩ := Rw.addr (EL.out.fc 2 rfl) (by omega)
      have E1 : Hid (Env D w [] [.ce xab (xao + k) (.int .i64 l[k]), .ce g2 0 (.int .i64 (p : Nat)), .ce g1 0 (.int .i64 (ro : Nat)), .rw (.slice (some ⟨xab, xao, none⟩) l.length xk) l.length 1 (icl l)] _) := Lib.hid (EL.out.elI 2 rfl rfl (k) hk)
      clear EL
      have u0 := (E1.out.fc 0 rfl).2
      by_cases hb : Pri.small p ro l[k] = true
      · have HB := Lib.hid hb
        have HR : Hid (r = (k : Int)) := Lib.hid (by rcases hr.out with ⟨_, h9⟩ | ⟨j, rfl, hj, h8, h7⟩; (· have := h9 k hk; rw [hb] at this; cases this); rcases Nat.lt_trichotomy j k with e | e | e; (· have := HS.out j hj e; rw [h8] at this; cases this); (· rw [e]); (· have := h7 k hk e; rw [hb] at this; cases this))
        clear hb
        go_wp2_with fail
        refine (root1_c p ro l[k] g1 g2 _ (E1.out.fc 2 rfl) (E1.out.fc 1 rfl) hp hT hrp (hall.out _ (List.getElem_mem hk)) HB.out).mono ?_
        rintro e w1 ⟨rfl, hb⟩
        have E2 : Hid (Env D w [] [.ce xab (xao + k) (.int .i64 l[k]), .ce g2 0 (.int .i64 (p : Nat)), .ce g1 0 (.int .i64 (ro : Nat)), .rw (.slice (some ⟨xab, xao, none⟩) l.length xk) l.length 1 (icl l)] w1) := Lib.hid (E1.out.below hb)
        clear u0 E1 hb
        have hfin := Lib.hid E2.out.bel
        go_wp2
        go_ret
        exact ⟨RetEq HR.out.symm, hfin.out⟩
      · have HB := Lib.hid (Bool.eq_false_iff.2 hb)
        clear hb
        go_wp2_with fail
        refine (root1_c p ro l[k] g1 g2 _ (E1.out.fc 2 rfl) (E1.out.fc 1 rfl) hp hT hrp (hall.out _ (List.getElem_mem hk)) HB.out).mono ?_
        rintro e w1 ⟨rfl, hb⟩
        have E2 : Hid (Env D w [] [.ce xab (xao + k) (.int .i64 l[k]), .ce g2 0 (.int .i64 (p : Nat)), .ce g1 0 (.int .i64 (ro : Nat)), .rw (.slice (some ⟨xab, xao, none⟩) l.length xk) l.length 1 (icl l)] w1) := Lib.hid (E1.out.below hb)
        clear u0 E1 hb
        have EZ := Lib.hid (E2.out.forget)
        go_wp2
        go_roundg (l.length - (k + 1))
        case rel => exact ⟨k + 1, rfl, EZ, Lib.hid ⟨⟨by omega, rfl⟩, fun j h hj => by by_cases e : j = k; (· subst e; exact HB.out); exact HS.out j h (by omega)⟩⟩
        case measure => exact by omega
    have t6 : decide ((k : Int) < (l.length : Int)) = false := decide_eq_false (by omega)
    have t7 : decide (k < l.length) = false := decide_eq_false (by omega)
    have HR : Hid (r = -1) := Lib.hid (by rcases hr.out with ⟨h9, _⟩ | ⟨j, rfl, hj, h8, h7⟩; (· exact h9); have := HS.out j hj (by omega); rw [h8] at this; cases this)
    have HY := Lib.hid hy
    clear hy
    have hfin := Lib.hid EL.out.bel
    go_wp2
    go_ret
    exact ⟨RetEq HR.out.symm, hfin.out⟩
set_option maxRecDepth 100000 in
set_option maxHeartbeats 1000000 in
theorem rtC {D : Nat → Prop} (l : List Int) (p : Nat) (ro : Nat) (g1 : Nat) (g2 : Nat) {xa : Option Addr} {xk : Nat} {w : World} (hx : Fct.at w D (.rw (.slice xa l.length xk) l.length 1 (icl l))) (h1 : Fct.at w D (.ce g1 0 (.int .i64 (ro : Nat)))) (h2 : Fct.at w D (.ce g2 0 (.int .i64 (p : Nat)))) (hp : 2 ≤ p) (hT : LtTop p) (hrp : ro ≤ p) (hall : Hid (InP p l)) {t : Bool} (ht0 : l.any (fun x => Pri.small p ro x) = t) (hm : l.length ≤ 1000000) :
    Calls Tryd.prog 104 #[.slice xa l.length xk, .func (.func 129) #[] #[.pointer (some ⟨g1, 0, none⟩), .pointer (some ⟨g2, 0, none⟩)]] w fun e w' => e = .returned (.bool t) ∧ Below w.heap.size w w' := by
  have E0 : Hid (Env D w [] [.ce g2 0 (.int .i64 (p : Nat)), .ce g1 0 (.int .i64 (ro : Nat)), .rw (.slice xa l.length xk) l.length 1 (icl l)] w) := Lib.hid ((((Env.start D w).arg (.rw (.slice xa l.length xk) l.length 1 (icl l)) hx).arg (.ce g1 0 (.int .i64 (ro : Nat))) h1).arg (.ce g2 0 (.int .i64 (p : Nat))) h2)
  clear hx h1 h2
  go_enter Tryd.func104, Tryd.ntmps104
  have ht := Lib.hid ht0
  clear ht0
  obtain ⟨r, hr⟩ : ∃ r : Int, ((r = -1 ∧ ∀ k (h : k < l.length), Pri.small p ro l[k] = false) ∨ ∃ k : Nat, r = (k : Int) ∧ ∃ h : k < l.length, Pri.small p ro l[k] = true ∧ ∀ j (h : j < l.length), j < k → Pri.small p ro l[j] = false) := first_any l (fun x => Pri.small p ro x)
  have hd : Hid (decide (0 ≤ r) = t) := Lib.hid (by rw [← ht.out]; exact first_dec hr)
  have HR := Lib.hid hr
  clear hr ht
  go_wp2_with fail
  refine (rtI l p ro g1 g2 (E0.out.fc 2 rfl) (E0.out.fc 1 rfl) (E0.out.fc 0 rfl) hp hT hrp hall (hr0 := HR.out) (hm := hm)).mono ?_
  rintro e w1 ⟨rfl, hb⟩
  have E1 : Hid (Env D w [] [.ce g2 0 (.int .i64 (p : Nat)), .ce g1 0 (.int .i64 (ro : Nat)), .rw (.slice xa l.length xk) l.length 1 (icl l)] w1) := Lib.hid (E0.out.below hb)
  clear E0 hb
  have HD := hd.out
  have hfin := Lib.hid E1.out.bel
  go_wp2
  go_ret
  exact ⟨rfl, hfin.out⟩
set_option maxRecDepth 100000 in
set_option maxHeartbeats 2000000 in
theorem root_some {D : Nat → Prop} (p r : Nat) (l : List Nat) {xa : Option Addr} {xk : Nat} {w : World} (hx : Fct.at w D (.rw (.slice xa l.length xk) l.length 1 (ncl l))) (hp : 2 ≤ p) (hT : (p : Int) < Top) (hl0 : ∀ f ∈ l, 2 ≤ f ∧ f ≤ p - 1) (hm : l.length ≤ 1000) (hr0 : Pri.RootR p l r) (h00 : 0 < l.length) :
    Calls Tryd.prog 93 #[.int .i64 (p : Nat), .slice xa l.length xk] w fun e w' => e = .returned (.int .i64 (r : Nat)) ∧ Below w.heap.size w w' := by
  have E0 : Hid (Env D w [] [.rw (.slice xa l.length xk) l.length 1 (ncl l)] w) := Lib.hid ((Env.start D w).arg (.rw (.slice xa l.length xk) l.length 1 (ncl l)) hx)
  clear hx
  go_enter Tryd.func93, Tryd.ntmps93
  have hl := Lib.hid hl0
  have hr := Lib.hid hr0
  clear hl0 hr0
  have HT : Hid (LtTop p) := Lib.hid hT
  have hT9 : (p : Int) ≤ 2305843009213693951 := by unfold Top at hT; omega
  have HP := Lib.hid hp
  have hr1 := hr.out.1
  have hr2 := hr.out.2.1
  clear hT hp
  go_wp2_with fail
  have E1 : Hid (Env D w [(w.heap.size, 3, [.int .i64 (p : Nat)])] [.rw (.slice xa l.length xk) l.length 1 (ncl l)] _) := Lib.hid ((E0.out.push 3 [.int .i64 (p : Nat)] (w.heap.size) (by simp)))
  refine (cloneBox_c (E1.out.fc 0 rfl) (by omega) h00).mono ?_
  rintro e w1 ⟨⟨yg, yc, yr, rfl, yb, yl⟩, hb⟩
  have E2 : Hid (Env D w [(yg, 3, (ncl l ++ yr)), (w.heap.size, 3, [.int .i64 (p : Nat)])] [.rw (.slice xa l.length xk) l.length 1 (ncl l)] w1) := Lib.hid (E1.out.gotBox hb yb.out)
  clear E0 E1 hb yb
  obtain ⟨yl1, yl2⟩ := yl.out
  have hcl := compact_len (nl l)
  rw [nl_len] at hcl
  go_wp2_with fail
  refine (compactE (n := l.length) (nl_len l).symm E2.out yl1 (by omega)).mono ?_
  rintro e wq ⟨rfl, yr2, E90⟩
  clear E2
  obtain ⟨zs, hzs⟩ : ∃ zs, Lib.compact (nl l) = zs := ⟨_, rfl⟩
  rw [hzs] at E90 hcl ⊢
  have HZ : Hid (InP p zs) := Lib.hid (by intro x hx; rw [← hzs] at hx; obtain ⟨f, hf, rfl⟩ := List.mem_map.1 (Pri.mem_compact.1 hx); obtain ⟨h1, h2⟩ := hl.out f hf; have := HP.out; omega)
  have HA9 : Hid (∀ s, zs.any (Pri.small p s) = !Pri.rok p l s) := Lib.hid (fun s => by rw [← hzs, Pri.any_compact, Pri.any_small])
  have hfr := Lib.hid (E90.out.freezeI zs (cap := yc) (by omega) (by omega))
  clear hzs E90
  have E91 : Hid (Env D w [(w.heap.size, 3, [.int .i64 (p : Nat)])] [.rw (.slice (some ⟨yg, 0, none⟩) zs.length yc) zs.length 1 (icl zs), .rw (.slice xa l.length xk) l.length 1 (ncl l)] _) := Lib.hid hfr.out
  clear hfr
  go_wp2_with fail
  have E92 : Hid (Env D w [(wq.heap.size, 3, [.int .i64 1]), (w.heap.size, 3, [.int .i64 (p : Nat)])] [.rw (.slice (some ⟨yg, 0, none⟩) zs.length yc) zs.length 1 (icl zs), .rw (.slice xa l.length xk) l.length 1 (ncl l)] _) := Lib.hid ((E91.out.push 3 [.int .i64 1] (wq.heap.size) (by simp)))
  clear E91
  generalize wq.alloc (.cells #[.int .i64 1] 3) = w2 at *
  go_loopg [6] (p - 1) (fun gk s6 wr => ∃ (k gr : Nat), s6 = .pointer (some ⟨gr, 0, none⟩) ∧ Hid (Env D w [(gr, 3, [.int .i64 (k : Int)]), (w.heap.size, 3, [.int .i64 (p : Nat)])] [.rw (.slice (some ⟨yg, 0, none⟩) zs.length yc) zs.length 1 (icl zs), .rw (.slice xa l.length xk) l.length 1 (ncl l)] wr) ∧ Hid (1 ≤ k ∧ k ≤ r ∧ gk = p - k))
  case atStart => exact ⟨1, _, rfl, Lib.hid E92.out, Lib.hid ⟨by omega, by omega, rfl⟩⟩
  case round =>
    clear E92
    obtain ⟨k, gr, rfl, EL, HA⟩ := hrel
    obtain ⟨a1, a2, a3⟩ := HA.out
    clear HA
    by_cases hy : k = r
    · have HI : Hid (zs.any (Pri.small p k) = false) := Lib.hid (by rw [HA9.out, hy, hr.out.2.2.1]; rfl)
      subst hy
      go_wp2_with fail
      refine (rtC zs p k (gr) (w.heap.size) (Fct.any (EL.out.fc 0 rfl)) ⟨⟨(EL.out.bx 0 rfl).lt, trivial⟩, (EL.out.bx 0 rfl).cell 0 rfl⟩ ⟨⟨(EL.out.bx 1 rfl).lt, trivial⟩, (EL.out.bx 1 rfl).cell 0 rfl⟩ HP.out HT.out (by omega) HZ HI.out (by omega)).mono ?_
      rintro e w3 ⟨rfl, hb⟩
      have E93 : Hid (Env D w [(gr, 3, [.int .i64 (k : Int)]), (w.heap.size, 3, [.int .i64 (p : Nat)])] [.rw (.slice (some ⟨yg, 0, none⟩) zs.length yc) zs.length 1 (icl zs), .rw (.slice xa l.length xk) l.length 1 (ncl l)] w3) := Lib.hid (EL.out.below hb)
      clear EL hb
      have b1 := E93.out.bx 0 rfl
      have c1_0 := b1.cell 0 rfl
      clear b1
      have hfin := Lib.hid E93.out.bel
      go_wp2
      go_ret
      exact ⟨rfl, hfin.out⟩
    have hk : k < r := by omega
    have HI : Hid (zs.any (Pri.small p k) = true) := Lib.hid (by rw [HA9.out, hr.out.2.2.2 k a1 hk]; rfl)
    clear hy
    obtain ⟨k1, hk1⟩ : ∃ k1, k1 = k + 1 := ⟨_, rfl⟩
    have e7 : (k : Int) + 1 = (k1 : Int) := by omega
    have HK1 : Hid (k < k1 ∧ k1 ≤ r) := Lib.hid (by omega)
    clear hk1
    go_wp2_with fail
    refine (rtC zs p k (gr) (w.heap.size) (Fct.any (EL.out.fc 0 rfl)) ⟨⟨(EL.out.bx 0 rfl).lt, trivial⟩, (EL.out.bx 0 rfl).cell 0 rfl⟩ ⟨⟨(EL.out.bx 1 rfl).lt, trivial⟩, (EL.out.bx 1 rfl).cell 0 rfl⟩ HP.out HT.out (by omega) HZ HI.out (by omega)).mono ?_
    rintro e w3 ⟨rfl, hb⟩
    have E93 : Hid (Env D w [(gr, 3, [.int .i64 (k : Int)]), (w.heap.size, 3, [.int .i64 (p : Nat)])] [.rw (.slice (some ⟨yg, 0, none⟩) zs.length yc) zs.length 1 (icl zs), .rw (.slice xa l.length xk) l.length 1 (ncl l)] w3) := Lib.hid (EL.out.below hb)
    clear EL hb
    have b1 := E93.out.bx 0 rfl
    have c1_0 := b1.cell 0 rfl
    clear b1
    have E94 : Hid (Env D w [(w3.heap.size, 3, [.int .i64 (k1 : Int)]), (gr, 3, [.int .i64 (k : Int)]), (w.heap.size, 3, [.int .i64 (p : Nat)])] [.rw (.slice (some ⟨yg, 0, none⟩) zs.length yc) zs.length 1 (icl zs), .rw (.slice xa l.length xk) l.length 1 (ncl l)] _) := Lib.hid ((E93.out.push 3 [.int .i64 (k1 : Int)] (w3.heap.size) (by simp)))
    have EZ := Lib.hid (E94.out.dropAt 1)
    go_wp2
    go_roundg (p - k1)
    case rel => exact ⟨k1, _, rfl, Lib.hid (EZ.out.cast (by simp)), Lib.hid ⟨by have := HK1.out; omega, HK1.out.2, rfl⟩⟩
    case measure => (have := HK1.out; omega)
set_option maxRecDepth 100000 in
set_option maxHeartbeats 2000000 in
theorem root_none {D : Nat → Prop} (p r : Nat) (l : List Nat) {xa : Option Addr} {xk : Nat} {w : World} (hx : Fct.at w D (.rw (.slice xa l.length xk) l.length 1 (ncl l))) (hp : 2 ≤ p) (hT : (p : Int) < Top) (hl0 : ∀ f ∈ l, 2 ≤ f ∧ f ≤ p - 1) (hm : l.length ≤ 1000) (hr0 : Pri.RootR p l r) (h00 : l.length = 0) :
    Calls Tryd.prog 93 #[.int .i64 (p : Nat), .slice xa l.length xk] w fun e w' => e = .returned (.int .i64 (r : Nat)) ∧ Below w.heap.size w w' := by
  have E0 : Hid (Env D w [] [.rw (.slice xa l.length xk) l.length 1 (ncl l)] w) := Lib.hid ((Env.start D w).arg (.rw (.slice xa l.length xk) l.length 1 (ncl l)) hx)
  clear hx
  go_enter Tryd.func93, Tryd.ntmps93
  have hl := Lib.hid hl0
  have hr := Lib.hid hr0
  clear hl0 hr0
  have HT : Hid (LtTop p) := Lib.hid hT
  have hT9 : (p : Int) ≤ 2305843009213693951 := by unfold Top at hT; omega
  have HP := Lib.hid hp
  have hr1 := hr.out.1
  have hr2 := hr.out.2.1
  clear hT hp
  obtain rfl := List.length_eq_zero_iff.1 h00
  clear h00 hm
  go_wp2_with fail
  have E1 : Hid (Env D w [(w.heap.size, 3, [.int .i64 (p : Nat)])] [.rw (.slice xa ([] : List Nat).length xk) ([] : List Nat).length 1 (ncl ([] : List Nat))] _) := Lib.hid ((E0.out.push 3 [.int .i64 (p : Nat)] (w.heap.size) (by simp)))
  refine (cloneN_c (E1.out.fc 0 rfl) (by simp)).mono ?_
  rintro e w1 ⟨⟨ya, yk, rfl, yh⟩, hb⟩
  have E2 : Hid (Env D w [(w.heap.size, 3, [.int .i64 (p : Nat)])] [.rw (.slice ya (([] : List Nat)).length yk) (([] : List Nat)).length 1 (ncl (([] : List Nat))), .rw (.slice xa ([] : List Nat).length xk) ([] : List Nat).length 1 (ncl ([] : List Nat))] w1) := Lib.hid (E1.out.got (E1.out.below hb) (.rw (.slice ya (([] : List Nat)).length yk) (([] : List Nat)).length 1 (ncl (([] : List Nat)))) (Lib.hid (Rw.ge yh.out)).out)
  clear E0 E1 hb
  go_wp2_with fail
  refine (Tryd.slices_Compact_int_empty ya yk _).mono ?_
  rintro e wq ⟨rfl, rfl⟩
  have E91 : Hid (Env D w [(w.heap.size, 3, [.int .i64 (p : Nat)])] [.rw (.slice ya ([] : List Int).length yk) ([] : List Int).length 1 (icl []), .rw (.slice xa ([] : List Nat).length xk) ([] : List Nat).length 1 (ncl ([] : List Nat))] _) := Lib.hid E2.out
  clear E2
  have HZ : Hid (InP p []) := Lib.hid (by intro x hx; cases hx)
  have HA9 : Hid (∀ s, ([] : List Int).any (Pri.small p s) = !Pri.rok p [] s) := Lib.hid (fun s => rfl)
  go_wp2_with fail
  have E92 : Hid (Env D w [(wq.heap.size, 3, [.int .i64 1]), (w.heap.size, 3, [.int .i64 (p : Nat)])] [.rw (.slice ya ([] : List Int).length yk) ([] : List Int).length 1 (icl []), .rw (.slice xa ([] : List Nat).length xk) ([] : List Nat).length 1 (ncl ([] : List Nat))] _) := Lib.hid ((E91.out.push 3 [.int .i64 1] (wq.heap.size) (by simp)))
  clear E91
  generalize wq.alloc (.cells #[.int .i64 1] 3) = w2 at *
  go_loopg [6] (p - 1) (fun gk s6 wr => ∃ (k gr : Nat), s6 = .pointer (some ⟨gr, 0, none⟩) ∧ Hid (Env D w [(gr, 3, [.int .i64 (k : Int)]), (w.heap.size, 3, [.int .i64 (p : Nat)])] [.rw (.slice ya ([] : List Int).length yk) ([] : List Int).length 1 (icl []), .rw (.slice xa ([] : List Nat).length xk) ([] : List Nat).length 1 (ncl ([] : List Nat))] wr) ∧ Hid (1 ≤ k ∧ k ≤ r ∧ gk = p - k))
  case atStart => exact ⟨1, _, rfl, Lib.hid E92.out, Lib.hid ⟨by omega, by omega, rfl⟩⟩
  case round =>
    clear E92
    obtain ⟨k, gr, rfl, EL, HA⟩ := hrel
    obtain ⟨a1, a2, a3⟩ := HA.out
    clear HA
    by_cases hy : k = r
    · have HI : Hid (([] : List Int).any (Pri.small p k) = false) := Lib.hid (by rw [HA9.out, hy, hr.out.2.2.1]; rfl)
      subst hy
      go_wp2_with fail
      refine (rtC ([] : List Int) p k (gr) (w.heap.size) (Fct.any (EL.out.fc 0 rfl)) ⟨⟨(EL.out.bx 0 rfl).lt, trivial⟩, (EL.out.bx 0 rfl).cell 0 rfl⟩ ⟨⟨(EL.out.bx 1 rfl).lt, trivial⟩, (EL.out.bx 1 rfl).cell 0 rfl⟩ HP.out HT.out (by omega) HZ HI.out (by simp)).mono ?_
      rintro e w3 ⟨rfl, hb⟩
      have E93 : Hid (Env D w [(gr, 3, [.int .i64 (k : Int)]), (w.heap.size, 3, [.int .i64 (p : Nat)])] [.rw (.slice ya ([] : List Int).length yk) ([] : List Int).length 1 (icl []), .rw (.slice xa ([] : List Nat).length xk) ([] : List Nat).length 1 (ncl ([] : List Nat))] w3) := Lib.hid (EL.out.below hb)
      clear EL hb
      have b1 := E93.out.bx 0 rfl
      have c1_0 := b1.cell 0 rfl
      clear b1
      have hfin := Lib.hid E93.out.bel
      go_wp2
      go_ret
      exact ⟨rfl, hfin.out⟩
    have hk : k < r := by omega
    have HI : Hid (([] : List Int).any (Pri.small p k) = true) := Lib.hid (by rw [HA9.out, hr.out.2.2.2 k a1 hk]; rfl)
    clear hy
    obtain ⟨k1, hk1⟩ : ∃ k1, k1 = k + 1 := ⟨_, rfl⟩
    have e7 : (k : Int) + 1 = (k1 : Int) := by omega
    have HK1 : Hid (k < k1 ∧ k1 ≤ r) := Lib.hid (by omega)
    clear hk1
    go_wp2_with fail
    refine (rtC ([] : List Int) p k (gr) (w.heap.size) (Fct.any (EL.out.fc 0 rfl)) ⟨⟨(EL.out.bx 0 rfl).lt, trivial⟩, (EL.out.bx 0 rfl).cell 0 rfl⟩ ⟨⟨(EL.out.bx 1 rfl).lt, trivial⟩, (EL.out.bx 1 rfl).cell 0 rfl⟩ HP.out HT.out (by omega) HZ HI.out (by simp)).mono ?_
    rintro e w3 ⟨rfl, hb⟩
    have E93 : Hid (Env D w [(gr, 3, [.int .i64 (k : Int)]), (w.heap.size, 3, [.int .i64 (p : Nat)])] [.rw (.slice ya ([] : List Int).length yk) ([] : List Int).length 1 (icl []), .rw (.slice xa ([] : List Nat).length xk) ([] : List Nat).length 1 (ncl ([] : List Nat))] w3) := Lib.hid (EL.out.below hb)
    clear EL hb
    have b1 := E93.out.bx 0 rfl
    have c1_0 := b1.cell 0 rfl
    clear b1
    have E94 : Hid (Env D w [(w3.heap.size, 3, [.int .i64 (k1 : Int)]), (gr, 3, [.int .i64 (k : Int)]), (w.heap.size, 3, [.int .i64 (p : Nat)])] [.rw (.slice ya ([] : List Int).length yk) ([] : List Int).length 1 (icl []), .rw (.slice xa ([] : List Nat).length xk) ([] : List Nat).length 1 (ncl ([] : List Nat))] _) := Lib.hid ((E93.out.push 3 [.int .i64 (k1 : Int)] (w3.heap.size) (by simp)))
    have EZ := Lib.hid (E94.out.dropAt 1)
    go_wp2
    go_roundg (p - k1)
    case rel => exact ⟨k1, _, rfl, Lib.hid (EZ.out.cast (by simp)), Lib.hid ⟨by have := HK1.out; omega, HK1.out.2, rfl⟩⟩
    case measure => (have := HK1.out; omega)
theorem root_c {D : Nat → Prop} (p r : Nat) (l : List Nat) {xa : Option Addr} {xk : Nat} {w : World} (hx : Fct.at w D (.rw (.slice xa l.length xk) l.length 1 (ncl l))) (hp : 2 ≤ p) (hT : (p : Int) < Top) (hl0 : ∀ f ∈ l, 2 ≤ f ∧ f ≤ p - 1) (hm : l.length ≤ 1000) (hr0 : Pri.RootR p l r) :
    Calls Tryd.prog 93 #[.int .i64 (p : Nat), .slice xa l.length xk] w fun e w' => e = .returned (.int .i64 (r : Nat)) ∧ Below w.heap.size w w' := by
  by_cases h : 0 < l.length
  · exact root_some p r l hx hp hT hl0 hm hr0 h
  · exact root_none p r l hx hp hT hl0 hm hr0 (by omega)
end Go.Proofs.YtinlfogpbologaaDoor

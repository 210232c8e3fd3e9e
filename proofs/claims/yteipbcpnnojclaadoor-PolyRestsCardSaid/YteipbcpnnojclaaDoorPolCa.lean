/- poly: the reference: Twice, Weights. -/
import Derived.Test.YteipbcpnnojclaaDoorPolQ
import Derived.Test.YteipbcpnnojclaaDoorPWord
namespace Go.Proofs.YteipbcpnnojclaaDoor
open Go.RowKit DivMath WordMath
set_option linter.unusedVariables false
set_option linter.unusedSimpArgs false
theorem nodup_pairs {l : List Nat} (h : ∀ i j, j < i → i < l.length → l.getD i 0 ≠ l.getD j 0) : l.Nodup := by
  rw [List.nodup_iff_pairwise_ne, List.pairwise_iff_getElem]
  intro i j hi hj hij e
  exact h j i hij hj (by rw [getD_elem hj, getD_elem hi, e])
theorem not_nodup {l : List Nat} {i j : Nat} (hij : j < i) (hi : i < l.length) (e : l.getD i 0 = l.getD j 0) : ¬ l.Nodup := fun h => by
  rw [getD_elem hi, getD_elem (by omega)] at e
  have := (List.getElem_inj h).1 e
  omega
theorem wr64 (x : Int) : IntKind.i64.wrap x = wrap64 x := by first | rfl | (rw [IntKind.wrap_i64]; rfl) | (rw [IntKind.wrap_i64]; unfold wrap64; omega)
theorem rInvG_c (q a : Nat) (w : World) (ha : (a : Int) < (q : Int)) (hm : (q : Int) < Top) (hg : Nat.gcd a q = 1) :
    Calls Tryd.prog 67 #[.int .i64 a, .int .i64 q] w fun e w' => (∃ r : Nat, Hid (r < q ∧ a * r % q = 1 % q) ∧ e = .returned (.tuple #[.int .i64 (r : Nat), .bool true])) ∧ Below w.heap.size w w' := by
  refine (refInverse_ok a q w ha hm hg).mono ?_
  rintro e w' ⟨⟨r, hr, rfl⟩, n, rfl⟩
  exact ⟨⟨r, Lib.hid hr.out, rfl⟩, below_drewN (Below.refl _ _) _⟩
set_option maxRecDepth 100000 in
set_option maxHeartbeats 2000000 in
theorem rTwice_c {D : Nat → Prop} (l : List Nat) (t : Bool) {xa : Option Addr} {xk : Nat} {w : World} (hx : Fct.at w D (.rw (.slice xa l.length xk) l.length 1 (ncl l))) (hlen : l.length ≤ 1000) (ht0 : t = true ↔ ¬ l.Nodup) :
    Calls Tryd.prog 18 #[.slice xa l.length xk] w fun e w' => e = .returned (.bool t) ∧ Below w.heap.size w w' := by
  have E0 : Hid (Env D w [] [.rw (.slice xa l.length xk) l.length 1 (ncl l)] w) := Lib.hid ((Env.start D w).arg (.rw (.slice xa l.length xk) l.length 1 (ncl l)) hx)
  clear hx
  go_enter Tryd.func18, Tryd.ntmps18
  have HT := Lib.hid ht0
  clear ht0
  go_wp2_with fail
  go_loopg [3] (l.length) (fun gk s3 wr => ∃ (i : Nat), s3 = .int .i64 (i : Int) ∧ Hid (Env D w [] [.rw (.slice xa l.length xk) l.length 1 (ncl l)] wr) ∧ Hid ((i ≤ l.length ∧ gk = l.length - i) ∧ ∀ i2 j2, j2 < i2 → i2 < i → l.getD i2 0 ≠ l.getD j2 0))
  case atStart => exact ⟨0, rfl, Lib.hid E0.out, Lib.hid ⟨⟨Nat.zero_le _, rfl⟩, fun i2 j2 _ h => absurd h (Nat.not_lt_zero _)⟩⟩
  case round =>
    clear E0
    obtain ⟨i, rfl, EL, HA⟩ := hrel
    obtain ⟨⟨a1, a2⟩, a3⟩ := HA.out
    have HS := Lib.hid a3
    clear a3 HA
    by_cases hy : i = l.length
    rotate_left
    · have hi : i < l.length := by omega
      have t6 : decide ((i : Int) < (l.length : Int)) = true := decide_eq_true (by omega)
      have t7 : decide (i < l.length) = true := decide_eq_true hi
      clear hy
      have hi9 : (i : Int) ≤ 999 := by omega
      go_wp2_with fail
      go_loopg [4] (i) (fun gk s4 wr => ∃ (j : Nat), s4 = .int .i64 (j : Int) ∧ Hid (Env D w [] [.rw (.slice xa l.length xk) l.length 1 (ncl l)] wr) ∧ Hid ((j ≤ i ∧ gk = i - j) ∧ ∀ j2, j2 < j → l.getD i 0 ≠ l.getD j2 0))
      case atStart => exact ⟨0, rfl, Lib.hid EL.out, Lib.hid ⟨⟨Nat.zero_le _, rfl⟩, fun j2 h => absurd h (Nat.not_lt_zero _)⟩⟩
      case round =>
        clear EL
        obtain ⟨j, rfl, EL, HA⟩ := hrel
        obtain ⟨⟨b1, b2⟩, b3⟩ := HA.out
        have HI := Lib.hid b3
        clear b3 HA
        by_cases hz : j = i
        rotate_left
        · have hj : j < i := by omega
          have t8 : decide ((j : Int) < (i : Int)) = true := decide_eq_true (by omega)
          have t9 : decide (j < i) = true := decide_eq_true hj
          clear hz
          have hj9 : (j : Int) ≤ 999 := by omega
          have hjl : j < l.length := by omega
          have hjlI : (j : Int) < (l.length : Int) := by omega
          obtain ⟨xab, xao, rfl⟩ := Rw.addr (EL.out.fc 0 rfl) (by omega)
          have E1 : Hid (Env D w [] [.ce xab (xao + i) (.int .i64 (l[i] : Nat)), .rw (.slice (some ⟨xab, xao, none⟩) l.length xk) l.length 1 (ncl l)] _) := Lib.hid (EL.out.elN 0 rfl rfl (i) hi)
          clear EL
          have p0 := (E1.out.fc 0 rfl).2
          have E2 : Hid (Env D w [] [.ce xab (xao + j) (.int .i64 (l[j] : Nat)), .ce xab (xao + i) (.int .i64 (l[i] : Nat)), .rw (.slice (some ⟨xab, xao, none⟩) l.length xk) l.length 1 (ncl l)] _) := Lib.hid (E1.out.elN 1 rfl rfl (j) hjl)
          clear E1
          have v20 := (E2.out.fc 0 rfl).2
          by_cases he : l[i] = l[j]
          · have n1 : (((l[i] : Nat) : Int) == ((l[j] : Nat) : Int)) = true := beq_iff_eq.2 (by exact_mod_cast he)
            have n2 : (l[i] == l[j]) = true := beq_iff_eq.2 he
            obtain rfl : t = true := HT.out.2 (not_nodup hj hi (by rw [getD_elem hi, getD_elem hjl, he]))
            clear he
            go_wp2_with fail
            have E3 : Hid (Env D w [] [.ce xab (xao + j) (.int .i64 (l[j] : Nat)), .ce xab (xao + i) (.int .i64 (l[i] : Nat)), .rw (.slice (some ⟨xab, xao, none⟩) l.length xk) l.length 1 (ncl l)] (wr.drew)) := Lib.hid E2.out.drew
            clear p0 v20 E2
            refine wp_regionU (S := fun w' => w'.cell? ⟨xab, xao + i, none⟩ = some (.int .i64 (l[i] : Nat)) ∧ w'.cell? ⟨xab, xao + j, none⟩ = some (.int .i64 (l[j] : Nat))) [] (by kernel_rfl) (⟨(E3.out.fc 1 rfl).2, (E3.out.fc 0 rfl).2⟩) (fun hHeld => ?_)
            generalize wr.drew = w1 at *
            refine uTake (i := 0) (some 16) (v := ?_) rfl rfl (by kernel_rfl) (by kernel_rfl) (by kernel_rfl) (by kernel_rfl) (fun _ _ _ h => h) (by rfl) (by assumption) ?_ ?_
            rotate_left
            · (intro wS hSw; (try dsimp only at hSw); go_simp; try with_reducible rfl)
            try simp only [Act.put, List.setIfInBounds_toArray, List.set_cons_zero, List.set_cons_succ]
            refine uTake (i := 1) (some 17) (v := ?_) rfl rfl (by kernel_rfl) (by kernel_rfl) (by kernel_rfl) (by kernel_rfl) (fun _ _ _ h => h) (by rfl) (by assumption) ?_ ?_
            rotate_left
            · (intro wS hSw; (try dsimp only at hSw); go_simp; try with_reducible rfl)
            try simp only [Act.put, List.setIfInBounds_toArray, List.set_cons_zero, List.set_cons_succ]
            refine uTake (i := 2) (some 18) (v := ?_) rfl rfl (by kernel_rfl) (by kernel_rfl) (by kernel_rfl) (by kernel_rfl) (fun _ _ _ h => h) (by rfl) (by assumption) ?_ ?_
            rotate_left
            · (intro wS hSw; (try dsimp only at hSw); go_simp; try with_reducible rfl)
            try simp only [Act.put, List.setIfInBounds_toArray, List.set_cons_zero, List.set_cons_succ]
            refine uTake (i := 3) (some 19) (v := ?_) rfl rfl (by kernel_rfl) (by kernel_rfl) (by kernel_rfl) (by kernel_rfl) (fun _ _ _ h => h) (by rfl) (by assumption) ?_ ?_
            rotate_left
            · (intro wS hSw; (try dsimp only at hSw); go_simp; try with_reducible rfl)
            try simp only [Act.put, List.setIfInBounds_toArray, List.set_cons_zero, List.set_cons_succ]
            refine uTake (i := 4) (some 20) (v := ?_) rfl rfl (by kernel_rfl) (by kernel_rfl) (by kernel_rfl) (by kernel_rfl) (fun _ _ _ h => h) (by rfl) (by assumption) ?_ ?_
            rotate_left
            · (intro wS hSw; (try dsimp only at hSw); go_simp; try with_reducible rfl)
            try simp only [Act.put, List.setIfInBounds_toArray, List.set_cons_zero, List.set_cons_succ]
            refine uTake (i := 5) (some 21) (v := ?_) rfl rfl (by kernel_rfl) (by kernel_rfl) (by kernel_rfl) (by kernel_rfl) (fun _ _ _ h => h) (by rfl) (by assumption) ?_ ?_
            rotate_left
            · (intro wS hSw; (try dsimp only at hSw); go_simp; try with_reducible rfl)
            try simp only [Act.put, List.setIfInBounds_toArray, List.set_cons_zero, List.set_cons_succ]
            refine uTake (i := 6) (some 22) (v := ?_) rfl rfl (by kernel_rfl) (by kernel_rfl) (by kernel_rfl) (by kernel_rfl) (fun _ _ _ h => h) (by rfl) (by assumption) ?_ ?_
            rotate_left
            · (intro wS hSw; (try dsimp only at hSw); go_simp; try with_reducible rfl)
            try simp only [Act.put, List.setIfInBounds_toArray, List.set_cons_zero, List.set_cons_succ]
            refine uTake (i := 7) (some 23) (v := ?_) rfl rfl (by kernel_rfl) (by kernel_rfl) (by kernel_rfl) (by kernel_rfl) (fun _ _ _ h => h) (by rfl) (by assumption) ?_ ?_
            rotate_left
            · (intro wS hSw; (try dsimp only at hSw); go_simp; try with_reducible rfl)
            try simp only [Act.put, List.setIfInBounds_toArray, List.set_cons_zero, List.set_cons_succ]
            refine uTake (i := 8) (some 24) (v := ?_) rfl rfl (by kernel_rfl) (by kernel_rfl) (by kernel_rfl) (by kernel_rfl) (fun _ _ _ h => h) (by rfl) (by assumption) ?_ ?_
            rotate_left
            · (intro wS hSw; (try dsimp only at hSw); go_simp; try with_reducible rfl)
            try simp only [Act.put, List.setIfInBounds_toArray, List.set_cons_zero, List.set_cons_succ]
            refine uDone (by kernel_rfl) ?_ _
            have hfin := Lib.hid E3.out.bel
            go_wp2
            go_ret
            exact ⟨rfl, hfin.out⟩
          · have n1 : (((l[i] : Nat) : Int) == ((l[j] : Nat) : Int)) = false := beq_eq_false_iff_ne.2 (fun e => he (by exact_mod_cast e))
            have n2 : (l[i] == l[j]) = false := beq_eq_false_iff_ne.2 he
            have HE := Lib.hid he
            clear he
            have HI2 : Hid (∀ j2, j2 < j + 1 → l.getD i 0 ≠ l.getD j2 0) := Lib.hid (fun j2 h => by
              by_cases e : j2 = j
              · subst e; rw [getD_elem hi, getD_elem hjl]; exact HE.out
              · exact HI.out j2 (by omega))
            go_wp2_with fail
            have E3 : Hid (Env D w [] [.ce xab (xao + j) (.int .i64 (l[j] : Nat)), .ce xab (xao + i) (.int .i64 (l[i] : Nat)), .rw (.slice (some ⟨xab, xao, none⟩) l.length xk) l.length 1 (ncl l)] (wr.drew)) := Lib.hid E2.out.drew
            clear p0 v20 E2
            refine wp_regionU (S := fun w' => w'.cell? ⟨xab, xao + i, none⟩ = some (.int .i64 (l[i] : Nat)) ∧ w'.cell? ⟨xab, xao + j, none⟩ = some (.int .i64 (l[j] : Nat))) [] (by kernel_rfl) (⟨(E3.out.fc 1 rfl).2, (E3.out.fc 0 rfl).2⟩) (fun hHeld => ?_)
            generalize wr.drew = w1 at *
            refine uTake (i := 0) (some 16) (v := ?_) rfl rfl (by kernel_rfl) (by kernel_rfl) (by kernel_rfl) (by kernel_rfl) (fun _ _ _ h => h) (by rfl) (by assumption) ?_ ?_
            rotate_left
            · (intro wS hSw; (try dsimp only at hSw); go_simp; try with_reducible rfl)
            try simp only [Act.put, List.setIfInBounds_toArray, List.set_cons_zero, List.set_cons_succ]
            refine uTake (i := 1) (some 17) (v := ?_) rfl rfl (by kernel_rfl) (by kernel_rfl) (by kernel_rfl) (by kernel_rfl) (fun _ _ _ h => h) (by rfl) (by assumption) ?_ ?_
            rotate_left
            · (intro wS hSw; (try dsimp only at hSw); go_simp; try with_reducible rfl)
            try simp only [Act.put, List.setIfInBounds_toArray, List.set_cons_zero, List.set_cons_succ]
            refine uTake (i := 2) (some 18) (v := ?_) rfl rfl (by kernel_rfl) (by kernel_rfl) (by kernel_rfl) (by kernel_rfl) (fun _ _ _ h => h) (by rfl) (by assumption) ?_ ?_
            rotate_left
            · (intro wS hSw; (try dsimp only at hSw); go_simp; try with_reducible rfl)
            try simp only [Act.put, List.setIfInBounds_toArray, List.set_cons_zero, List.set_cons_succ]
            refine uTake (i := 3) (some 19) (v := ?_) rfl rfl (by kernel_rfl) (by kernel_rfl) (by kernel_rfl) (by kernel_rfl) (fun _ _ _ h => h) (by rfl) (by assumption) ?_ ?_
            rotate_left
            · (intro wS hSw; (try dsimp only at hSw); go_simp; try with_reducible rfl)
            try simp only [Act.put, List.setIfInBounds_toArray, List.set_cons_zero, List.set_cons_succ]
            refine uTake (i := 4) (some 20) (v := ?_) rfl rfl (by kernel_rfl) (by kernel_rfl) (by kernel_rfl) (by kernel_rfl) (fun _ _ _ h => h) (by rfl) (by assumption) ?_ ?_
            rotate_left
            · (intro wS hSw; (try dsimp only at hSw); go_simp; try with_reducible rfl)
            try simp only [Act.put, List.setIfInBounds_toArray, List.set_cons_zero, List.set_cons_succ]
            refine uTake (i := 5) (some 21) (v := ?_) rfl rfl (by kernel_rfl) (by kernel_rfl) (by kernel_rfl) (by kernel_rfl) (fun _ _ _ h => h) (by rfl) (by assumption) ?_ ?_
            rotate_left
            · (intro wS hSw; (try dsimp only at hSw); go_simp; try with_reducible rfl)
            try simp only [Act.put, List.setIfInBounds_toArray, List.set_cons_zero, List.set_cons_succ]
            refine uTake (i := 6) (some 22) (v := ?_) rfl rfl (by kernel_rfl) (by kernel_rfl) (by kernel_rfl) (by kernel_rfl) (fun _ _ _ h => h) (by rfl) (by assumption) ?_ ?_
            rotate_left
            · (intro wS hSw; (try dsimp only at hSw); go_simp; try with_reducible rfl)
            try simp only [Act.put, List.setIfInBounds_toArray, List.set_cons_zero, List.set_cons_succ]
            refine uTake (i := 7) (some 23) (v := ?_) rfl rfl (by kernel_rfl) (by kernel_rfl) (by kernel_rfl) (by kernel_rfl) (fun _ _ _ h => h) (by rfl) (by assumption) ?_ ?_
            rotate_left
            · (intro wS hSw; (try dsimp only at hSw); go_simp; try with_reducible rfl)
            try simp only [Act.put, List.setIfInBounds_toArray, List.set_cons_zero, List.set_cons_succ]
            refine uTake (i := 8) (some 24) (v := ?_) rfl rfl (by kernel_rfl) (by kernel_rfl) (by kernel_rfl) (by kernel_rfl) (fun _ _ _ h => h) (by rfl) (by assumption) ?_ ?_
            rotate_left
            · (intro wS hSw; (try dsimp only at hSw); go_simp; try with_reducible rfl)
            try simp only [Act.put, List.setIfInBounds_toArray, List.set_cons_zero, List.set_cons_succ]
            refine uDone (by kernel_rfl) ?_ _
            have EZ := Lib.hid ((E3.out.forget).forget)
            go_wp2
            go_roundg (i - (j + 1))
            case rel => exact ⟨j + 1, rfl, EZ, Lib.hid ⟨⟨by omega, rfl⟩, HI2.out⟩⟩
            case measure => exact by omega
        have t8 : decide ((j : Int) < (i : Int)) = false := decide_eq_false (by omega)
        have t9 : decide (j < i) = false := decide_eq_false (by omega)
        have HZ := Lib.hid hz
        clear hz
        have HS2 : Hid (∀ i2 j2, j2 < i2 → i2 < i + 1 → l.getD i2 0 ≠ l.getD j2 0) := Lib.hid (fun i2 j2 h h2 => by
          by_cases e : i2 = i
          · rw [e]; exact HI.out j2 (by rw [HZ.out, ← e]; exact h)
          · exact HS.out i2 j2 h (by omega))
        have EZ := Lib.hid EL.out
        go_wp2
        go_roundg (l.length - (i + 1))
        case rel => exact ⟨i + 1, rfl, EZ, Lib.hid ⟨⟨by omega, rfl⟩, HS2.out⟩⟩
        case measure => exact by omega
    have t6 : decide ((i : Int) < (l.length : Int)) = false := decide_eq_false (by omega)
    have t7 : decide (i < l.length) = false := decide_eq_false (by omega)
    obtain rfl : t = false := by rw [Bool.eq_false_iff]; exact fun e => HT.out.1 e (nodup_pairs (by rw [← hy]; exact HS.out))
    have HY := Lib.hid hy
    clear hy
    have hfin := Lib.hid EL.out.bel
    go_wp2
    go_ret
    exact ⟨rfl, hfin.out⟩
set_option maxRecDepth 100000 in
set_option maxHeartbeats 4000000 in
theorem rWeights_c {D : Nat → Prop} (q : Nat) (l : List Nat) (x : Nat) {xa : Option Addr} {xk : Nat} {w : World} (hx : Fct.at w D (.rw (.slice xa l.length xk) l.length 1 (ncl l))) (hqT : (q : Int) < Top) (hq1 : 1 < q) (hlen : l.length ≤ 100) (hr0 : ∀ c ∈ l, c < q) (hxq : (x : Int) < (q : Int)) (hg0 : ∀ i, i < l.length → Nat.gcd (wM q (l.getD i 0) l i l.length) q = 1) :
    Calls Tryd.prog 21 #[.int .i64 (q : Nat), .slice xa l.length xk, .int .i64 (x : Nat)] w fun e w' => (∃ o : List Nat, Hid (o.length = l.length ∧ ∀ i, i < l.length → WR q x l i (o.getD i 0)) ∧ RetI (fun b => w.heap.size ≤ b) o e w') ∧ Below w.heap.size w w' := by
  have E0 : Hid (Env D w [] [.rw (.slice xa l.length xk) l.length 1 (ncl l)] w) := Lib.hid ((Env.start D w).arg (.rw (.slice xa l.length xk) l.length 1 (ncl l)) hx)
  clear hx
  go_enter Tryd.func21, Tryd.ntmps21
  have hr := Lib.hid hr0
  have hg := Lib.hid hg0
  clear hr0 hg0
  have HT := Lib.hid hqT
  have hq9 : (q : Int) ≤ 2305843009213693951 := by unfold Top at hqT; omega
  clear hqT
  have hq0 : ¬ (q = 0) := by omega
  have hqz : ((q : Int) == 0) = false := beq_eq_false_iff_ne.2 (by omega)
  have HQ : Hid (0 < q) := Lib.hid (by omega)
  have H1 : Hid (1 = 1 % q) := Lib.hid (Nat.mod_eq_of_lt hq1).symm
  go_wp2_with fail
  go_loopg [8, 7] (l.length) (fun gk s8 s7 wr => ∃ (i : Nat) (sg : List Bx) (cs : List Value) (va : Option Addr) (vk : Nat) (o : List Nat), s8 = .int .i64 (i : Int) ∧ s7 = .slice va (nl o).length vk ∧ Hid (Env D w (sg) [.rw (.slice xa l.length xk) l.length 1 (ncl l)] wr) ∧ Hid (OI sg cs (.slice va (nl o).length vk) (nl o)) ∧ Hid ((i ≤ l.length ∧ gk = l.length - i) ∧ o.length = i ∧ ∀ j, j < i → WR q x l j (o.getD j 0)))
  case atStart => exact ⟨0, [], [], none, 0, [], rfl, rfl, Lib.hid (E0.out.cast (by simp)), Lib.hid OI.nlnil, Lib.hid ⟨⟨Nat.zero_le _, rfl⟩, rfl, fun j h => absurd h (Nat.not_lt_zero _)⟩⟩
  case round =>
    clear E0
    obtain ⟨i, sg, cs, va, vk, o, rfl, rfl, EL, hO, HA⟩ := hrel
    obtain ⟨⟨a1, a2⟩, a3, a4⟩ := HA.out
    have HOL := Lib.hid a3
    have HS := Lib.hid a4
    clear a3 a4 HA
    by_cases hy : i = l.length
    rotate_left
    · have hi : i < l.length := by omega
      have t6 : decide ((i : Int) < (l.length : Int)) = true := decide_eq_true (by omega)
      have t7 : decide (i < l.length) = true := decide_eq_true hi
      clear hy
      have hi9 : (i : Int) ≤ 99 := by omega
      have hiq : ((l[i] : Nat) : Int) < (q : Int) := Int.ofNat_lt.2 (hr.out _ (List.getElem_mem hi))
      obtain ⟨xab, xao, rfl⟩ := Rw.addr (EL.out.fc 0 rfl) (by omega)
      have E1 : Hid (Env D w (sg) [.ce xab (xao + i) (.int .i64 (l[i] : Nat)), .rw (.slice (some ⟨xab, xao, none⟩) l.length xk) l.length 1 (ncl l)] _) := Lib.hid (EL.out.elN 0 rfl rfl (i) hi)
      clear EL
      have u0 := (E1.out.fc 0 rfl).2
      go_wp2_with fail
      go_loopg [9, 10, 11] (l.length) (fun gk s9 s10 s11 wr => ∃ (o1 u1 k : Nat), s9 = .int .i64 (o1 : Int) ∧ s10 = .int .i64 (u1 : Int) ∧ s11 = .int .i64 (k : Int) ∧ Hid (Env D w (sg) [.ce xab (xao + i) (.int .i64 (l[i] : Nat)), .rw (.slice (some ⟨xab, xao, none⟩) l.length xk) l.length 1 (ncl l)] wr) ∧ Hid ((k ≤ l.length ∧ gk = l.length - k) ∧ o1 = wM q x l i k ∧ u1 = wM q l[i] l i k))
      case atStart => exact ⟨1, 1, 0, rfl, rfl, rfl, Lib.hid E1.out, Lib.hid ⟨⟨Nat.zero_le _, rfl⟩, H1.out, H1.out⟩⟩
      case round =>
        clear u0 E1
        obtain ⟨o1, u1, k, rfl, rfl, rfl, EL, HA⟩ := hrel
        obtain ⟨⟨b1, b2⟩, b3, b4⟩ := HA.out
        have HO1 := Lib.hid b3
        have HU1 := Lib.hid b4
        clear b3 b4 HA
        have ho1 : (o1 : Int) < (q : Int) := by rw [HO1.out]; exact Int.ofNat_lt.2 (wM_lt HQ.out _ _ _ _)
        have hu1 : (u1 : Int) < (q : Int) := by rw [HU1.out]; exact Int.ofNat_lt.2 (wM_lt HQ.out _ _ _ _)
        by_cases hy : k = l.length
        rotate_left
        · have hk : k < l.length := by omega
          have t8 : decide ((k : Int) < (l.length : Int)) = true := decide_eq_true (by omega)
          have t9 : decide (k < l.length) = true := decide_eq_true hk
          clear hy
          have hk9 : (k : Int) ≤ 99 := by omega
          have hkq : ((l[k] : Nat) : Int) < (q : Int) := Int.ofNat_lt.2 (hr.out _ (List.getElem_mem hk))
          have E2 : Hid (Env D w (sg) [.ce xab (xao + k) (.int .i64 (l[k] : Nat)), .ce xab (xao + i) (.int .i64 (l[i] : Nat)), .rw (.slice (some ⟨xab, xao, none⟩) l.length xk) l.length 1 (ncl l)] _) := Lib.hid (EL.out.elN 1 rfl rfl (k) hk)
          clear EL
          have v0 := (E2.out.fc 0 rfl).2
          by_cases hki : k = i
          · have n1 : ((k : Int) == (i : Int)) = true := beq_iff_eq.2 (by omega)
            have n2 : (k == i) = true := beq_iff_eq.2 hki
            have n3 : ((k : Int) != (i : Int)) = false := by rw [bne, n1]; rfl
            have n4 : (k != i) = false := by rw [bne, n2]; rfl
            have HKI := Lib.hid hki
            clear hki
            have EZ := Lib.hid (E2.out.forget)
            go_wp2
            go_roundg (l.length - (k + 1))
            case rel => exact ⟨o1, u1, k + 1, rfl, rfl, rfl, EZ, Lib.hid ⟨⟨by omega, rfl⟩, by rw [wM_same HKI.out]; exact HO1.out, by rw [wM_same HKI.out]; exact HU1.out⟩⟩
            case measure => exact by omega
          · have n1 : ((k : Int) == (i : Int)) = false := beq_eq_false_iff_ne.2 (by omega)
            have n2 : (k == i) = false := beq_eq_false_iff_ne.2 hki
            have n3 : ((k : Int) != (i : Int)) = true := by rw [bne, n1]; rfl
            have n4 : (k != i) = true := by rw [bne, n2]; rfl
            have HKI := Lib.hid hki
            clear hki
            obtain ⟨s1, s1e⟩ : ∃ s1, s1 = x + (q - l[k]) := ⟨_, rfl⟩
            have s1c : (x : Int) + (q : Int) - ((l[k] : Nat) : Int) = (s1 : Int) := by omega
            have s19 : -9223372036854775808 ≤ (s1 : Int) ∧ (s1 : Int) ≤ 9223372036854775807 := by omega
            have s18 : -9223372036854775808 ≤ (x : Int) + (q : Int) ∧ (x : Int) + (q : Int) ≤ 9223372036854775807 := by omega
            have s1b : ∀ z : Int, z = (l[k] : Nat) → wrap64 ((x : Int) + (q : Int) - z) = (s1 : Int) := fun z hz => by rw [hz, s1c]; exact IntWalk.wrap64_in _ s19
            have s1a : ∀ z : Int, z = (q : Int) → wrap64 ((x : Int) + z) = (x : Int) + (q : Int) := fun z hz => by rw [hz]; exact IntWalk.wrap64_in _ s18
            clear s19 s18
            have s1E := Lib.hid s1e
            clear s1e
            have s1q : ((s1 % q : Nat) : Int) < (q : Int) := Int.ofNat_lt.2 (Nat.mod_lt _ HQ.out)
            obtain ⟨yi, hyi⟩ : ∃ yi, yi = l[i] := ⟨_, rfl⟩
            go_wp2_with fail
            refine (refMulB o1 (s1 % q) q _ ho1 s1q HT.out).mono ?_
            rintro e w1 ⟨⟨s2, s2h, rfl⟩, hb⟩
            have E3 : Hid (Env D w (sg) [.ce xab (xao + k) (.int .i64 (l[k] : Nat)), .ce xab (xao + i) (.int .i64 (l[i] : Nat)), .rw (.slice (some ⟨xab, xao, none⟩) l.length xk) l.length 1 (ncl l)] w1) := Lib.hid (E2.out.below hb)
            clear v0 E2 hb
            have s2q : (s2 : Int) < (q : Int) := by rw [s2h.out]; exact Int.ofNat_lt.2 (Nat.mod_lt _ HQ.out)
            go_wp2_with fail
            clear s1a s1b s1c hyi
            obtain ⟨s3, s3e⟩ : ∃ s3, s3 = l[i] + (q - l[k]) := ⟨_, rfl⟩
            have s3c : (l[i] : Int) + (q : Int) - ((l[k] : Nat) : Int) = (s3 : Int) := by omega
            have s39 : -9223372036854775808 ≤ (s3 : Int) ∧ (s3 : Int) ≤ 9223372036854775807 := by omega
            have s38 : -9223372036854775808 ≤ (l[i] : Int) + (q : Int) ∧ (l[i] : Int) + (q : Int) ≤ 9223372036854775807 := by omega
            have s3b : ∀ z : Int, z = (l[k] : Nat) → wrap64 ((l[i] : Int) + (q : Int) - z) = (s3 : Int) := fun z hz => by rw [hz, s3c]; exact IntWalk.wrap64_in _ s39
            have s3a : ∀ z : Int, z = (q : Int) → wrap64 ((l[i] : Int) + z) = (l[i] : Int) + (q : Int) := fun z hz => by rw [hz]; exact IntWalk.wrap64_in _ s38
            clear s39 s38
            have s3E := Lib.hid s3e
            clear s3e
            have s3q : ((s3 % q : Nat) : Int) < (q : Int) := Int.ofNat_lt.2 (Nat.mod_lt _ HQ.out)
            have E4 : Hid (Env D w (sg) [.ce xab (xao + k) (.int .i64 (l[k] : Nat)), .ce xab (xao + i) (.int .i64 (l[i] : Nat)), .rw (.slice (some ⟨xab, xao, none⟩) l.length xk) l.length 1 (ncl l)] (w1.drew)) := Lib.hid E3.out.drew
            clear E3
            refine wp_regionU (S := fun w' => w'.cell? ⟨xab, xao + i, none⟩ = some (.int .i64 (l[i] : Nat)) ∧ w'.cell? ⟨xab, xao + k, none⟩ = some (.int .i64 (l[k] : Nat))) [] (by kernel_rfl) (⟨(E4.out.fc 1 rfl).2, (E4.out.fc 0 rfl).2⟩) (fun hHeld => ?_)
            generalize w1.drew = w2 at *
            refine uTake (i := 0) (some 42) (v := ?_) rfl rfl (by kernel_rfl) (by kernel_rfl) (by kernel_rfl) (by kernel_rfl) (fun _ _ _ h => h) (by rfl) (by assumption) ?_ ?_
            rotate_left
            · (intro wS hSw; (try dsimp only at hSw); go_simp; try with_reducible rfl)
            try simp only [Act.put, List.setIfInBounds_toArray, List.set_cons_zero, List.set_cons_succ]
            refine uTake (i := 1) (some 43) (v := ?_) rfl rfl (by kernel_rfl) (by kernel_rfl) (by kernel_rfl) (by kernel_rfl) (fun _ _ _ h => h) (by rfl) (by assumption) ?_ ?_
            rotate_left
            · (intro wS hSw; (try dsimp only at hSw); go_simp; try with_reducible rfl)
            try simp only [Act.put, List.setIfInBounds_toArray, List.set_cons_zero, List.set_cons_succ]
            refine uTake (i := 2) (some 44) (v := ?_) rfl rfl (by kernel_rfl) (by kernel_rfl) (by kernel_rfl) (by kernel_rfl) (fun _ _ _ h => h) (by rfl) (by assumption) ?_ ?_
            rotate_left
            · (intro wS hSw; (try dsimp only at hSw); go_simp; try with_reducible rfl)
            try simp only [Act.put, List.setIfInBounds_toArray, List.set_cons_zero, List.set_cons_succ]
            refine uTake (i := 3) (some 45) (v := ?_) rfl rfl (by kernel_rfl) (by kernel_rfl) (by kernel_rfl) (by kernel_rfl) (fun _ _ _ h => h) (by rfl) (by assumption) ?_ ?_
            rotate_left
            · (intro wS hSw; (try dsimp only at hSw); go_simp; try with_reducible rfl)
            try simp only [Act.put, List.setIfInBounds_toArray, List.set_cons_zero, List.set_cons_succ]
            refine uTake (i := 4) (some 46) (v := ?_) rfl rfl (by kernel_rfl) (by kernel_rfl) (by kernel_rfl) (by kernel_rfl) (fun _ _ _ h => h) (by rfl) (by assumption) ?_ ?_
            rotate_left
            · (intro wS hSw; (try dsimp only at hSw); go_simp; try with_reducible rfl)
            try simp only [Act.put, List.setIfInBounds_toArray, List.set_cons_zero, List.set_cons_succ]
            refine uTake (i := 5) (some 47) (v := ?_) rfl rfl (by kernel_rfl) (by kernel_rfl) (by kernel_rfl) (by kernel_rfl) (fun _ _ _ h => h) (by rfl) (by assumption) ?_ ?_
            rotate_left
            · (intro wS hSw; (try dsimp only at hSw); go_simp; try with_reducible rfl)
            try simp only [Act.put, List.setIfInBounds_toArray, List.set_cons_zero, List.set_cons_succ]
            refine uTake (i := 6) (some 48) (v := ?_) rfl rfl (by kernel_rfl) (by kernel_rfl) (by kernel_rfl) (by kernel_rfl) (fun _ _ _ h => h) (by rfl) (by assumption) ?_ ?_
            rotate_left
            · (intro wS hSw; (try dsimp only at hSw); go_simp; try with_reducible rfl)
            try simp only [Act.put, List.setIfInBounds_toArray, List.set_cons_zero, List.set_cons_succ]
            refine uTake (i := 7) (some 49) (v := ?_) rfl rfl (by kernel_rfl) (by kernel_rfl) (by kernel_rfl) (by kernel_rfl) (fun _ _ _ h => h) (by rfl) (by assumption) ?_ ?_
            rotate_left
            · (intro wS hSw; (try dsimp only at hSw); go_simp; try with_reducible rfl)
            try simp only [Act.put, List.setIfInBounds_toArray, List.set_cons_zero, List.set_cons_succ]
            refine uTake (i := 8) (some 50) (v := ?_) rfl rfl (by kernel_rfl) (by kernel_rfl) (by kernel_rfl) (by kernel_rfl) (fun _ _ _ h => h) (by rfl) (by assumption) ?_ ?_
            rotate_left
            · (intro wS hSw; (try dsimp only at hSw); go_simp; try with_reducible rfl)
            try simp only [Act.put, List.setIfInBounds_toArray, List.set_cons_zero, List.set_cons_succ]
            refine uTake (i := 9) (some 51) (v := ?_) rfl rfl (by kernel_rfl) (by kernel_rfl) (by kernel_rfl) (by kernel_rfl) (fun _ _ _ h => h) (by rfl) (by assumption) ?_ ?_
            rotate_left
            · (intro wS hSw; (try dsimp only at hSw); go_simp; try with_reducible rfl)
            try simp only [Act.put, List.setIfInBounds_toArray, List.set_cons_zero, List.set_cons_succ]
            refine uTake (i := 10) (some 52) (v := ?_) rfl rfl (by kernel_rfl) (by kernel_rfl) (by kernel_rfl) (by kernel_rfl) (fun _ _ _ h => h) (by rfl) (by assumption) ?_ ?_
            rotate_left
            · (intro wS hSw; (try dsimp only at hSw); go_simp; try with_reducible rfl)
            try simp only [Act.put, List.setIfInBounds_toArray, List.set_cons_zero, List.set_cons_succ]
            refine uTake (i := 11) (some 53) (v := .int .i64 (s3 : Int)) rfl rfl (by kernel_rfl) (by kernel_rfl) (by kernel_rfl) (by kernel_rfl) (fun _ _ _ h => h) (by rfl) (by assumption) ?_ ?_
            · (intro wS hSw; (try dsimp only at hSw); go_simp; have h1 := s3a _ rfl; have h2 := s3b _ rfl; rw [← h1] at h2; rw [wr64, wr64]; exact h2)
            try simp only [Act.put, List.setIfInBounds_toArray, List.set_cons_zero, List.set_cons_succ]
            refine uTake (i := 12) (some 54) (v := ?_) rfl rfl (by kernel_rfl) (by kernel_rfl) (by kernel_rfl) (by kernel_rfl) (fun _ _ _ h => h) (by rfl) (by assumption) ?_ ?_
            rotate_left
            · (intro wS hSw; (try dsimp only at hSw); go_simp; try with_reducible rfl)
            try simp only [Act.put, List.setIfInBounds_toArray, List.set_cons_zero, List.set_cons_succ]
            refine uTake (i := 13) (some 55) (v := .int .i64 ((s3 % q : Nat) : Int)) rfl rfl (by kernel_rfl) (by kernel_rfl) (by kernel_rfl) (by kernel_rfl) (fun _ _ _ h => h) (by rfl) (by assumption) ?_ ?_
            · (intro wS hSw; (try dsimp only at hSw); go_simp; first | rfl | exact Int.tmod_eq_emod_of_nonneg (by omega))
            try simp only [Act.put, List.setIfInBounds_toArray, List.set_cons_zero, List.set_cons_succ]
            refine uTake (i := 14) (some 56) (v := ?_) rfl rfl (by kernel_rfl) (by kernel_rfl) (by kernel_rfl) (by kernel_rfl) (fun _ _ _ h => h) (by rfl) (by assumption) ?_ ?_
            rotate_left
            · (intro wS hSw; (try dsimp only at hSw); go_simp; try with_reducible rfl)
            try simp only [Act.put, List.setIfInBounds_toArray, List.set_cons_zero, List.set_cons_succ]
            refine uReady (rs := [15]) (by kernel_rfl) (by simp) ?_
            refine ReadyU.cons rfl (fun KK hKK => ?_) ReadyU.nil
            go_simp
            refine (refMulB u1 (s3 % q) q _ hu1 s3q HT.out).mono ?_
            rintro e w3 ⟨⟨s4, s4h, rfl⟩, hb⟩
            have E5 : Hid (Env D w (sg) [.ce xab (xao + k) (.int .i64 (l[k] : Nat)), .ce xab (xao + i) (.int .i64 (l[i] : Nat)), .rw (.slice (some ⟨xab, xao, none⟩) l.length xk) l.length 1 (ncl l)] w3) := Lib.hid (E4.out.below hb)
            clear E4 hb
            have s4q : (s4 : Int) < (q : Int) := by rw [s4h.out]; exact Int.ofNat_lt.2 (Nat.mod_lt _ HQ.out)
            (try dsimp only)
            clear hHeld
            refine hKK.out _ _ (⟨(E5.out.fc 1 rfl).2, (E5.out.fc 0 rfl).2⟩) (fun hHeld => ?_)
            clear hKK KK
            try simp only [Act.put, List.setIfInBounds_toArray, List.set_cons_zero, List.set_cons_succ]
            refine uTake (i := 16) (some 10) (v := ?_) rfl rfl (by kernel_rfl) (by kernel_rfl) (by kernel_rfl) (by kernel_rfl) (fun _ _ _ h => h) (by rfl) (by assumption) ?_ ?_
            rotate_left
            · (intro wS hSw; (try dsimp only at hSw); go_simp; try with_reducible rfl)
            try simp only [Act.put, List.setIfInBounds_toArray, List.set_cons_zero, List.set_cons_succ]
            refine uDone (by kernel_rfl) ?_ _
            have EZ := Lib.hid (E5.out.forget)
            go_wp2
            go_roundg (l.length - (k + 1))
            case rel => exact ⟨s2, s4, k + 1, rfl, rfl, rfl, EZ, Lib.hid ⟨⟨by omega, rfl⟩, wM_step (s := s1 % q) HKI.out hk (by rw [s1E.out]) (by rw [← HO1.out]; exact s2h.out), wM_step (s := s3 % q) HKI.out hk (by rw [s3E.out]) (by rw [← HU1.out]; exact s4h.out)⟩⟩
            case measure => exact by omega
        have t8 : decide ((k : Int) < (l.length : Int)) = false := decide_eq_false (by omega)
        have t9 : decide (k < l.length) = false := decide_eq_false (by omega)
        have HK := Lib.hid hy
        clear hy
        have HGD : Hid (l.getD i 0 = l[i]) := Lib.hid (getD_elem hi)
        have HGC : Hid (Nat.gcd u1 q = 1) := Lib.hid (by have h := hg.out i hi; rw [HGD.out, ← HK.out] at h; rw [HU1.out]; exact h)
        have hol : (nl o).length + 1 ≤ 1000000 := by rw [nl_len, HOL.out]; omega
        have HOL2 := Lib.hid hol
        clear hol
        go_wp2_with fail
        refine (rInvG_c q u1 _ hu1 HT.out HGC.out).mono ?_
        rintro e w1 ⟨⟨r1, r1h, rfl⟩, hb⟩
        have E2 : Hid (Env D w (sg) [.ce xab (xao + i) (.int .i64 (l[i] : Nat)), .rw (.slice (some ⟨xab, xao, none⟩) l.length xk) l.length 1 (ncl l)] w1) := Lib.hid (EL.out.below hb)
        clear EL hb
        have r1q : (r1 : Int) < (q : Int) := Int.ofNat_lt.2 r1h.out.1
        go_wp2_with fail
        refine (refMulB o1 r1 q _ ho1 r1q HT.out).mono ?_
        rintro e w2 ⟨⟨r2, r2h, rfl⟩, hb⟩
        have E3 : Hid (Env D w (sg) [.ce xab (xao + i) (.int .i64 (l[i] : Nat)), .rw (.slice (some ⟨xab, xao, none⟩) l.length xk) l.length 1 (ncl l)] w2) := Lib.hid (E2.out.below hb)
        clear E2 hb
        have E4 : Hid (Env D w ((w2.heap.size, 3, [.int .i64 (r2 : Nat)]) :: sg) [.ce xab (xao + i) (.int .i64 (l[i] : Nat)), .rw (.slice (some ⟨xab, xao, none⟩) l.length xk) l.length 1 (ncl l)] _) := Lib.hid ((E3.out.push 3 [.int .i64 (r2 : Nat)] (w2.heap.size) (by simp)))
        go_wp2_with (at_builtin; refine wpl_app1 (c := 1) tiI rfl _ _ rfl E4.out (A := [(w2.heap.size, 3, [.int .i64 (r2 : Nat)])]) (sg := sg) (B' := []) (F := ((w2.heap.size, 3, [.int .i64 (r2 : Nat)]) :: sg)) (by simp) (hO.out.os rfl) rfl rfl (SrcN.int (E4.out.bx 0 rfl)) HOL2.out ?_)
        intro zg zp zc w3 zH zT zE
        have zO := Lib.hid (OI.app (x := ((r2 : Nat) : Int)) (g' := zg) (cs' := zc) (cap' := zp) hO.out rfl (by simpa using zH.out) (by simpa using zT.out))
        have E5 : Hid (Env D w ((w2.heap.size, 3, [.int .i64 (r2 : Nat)]) :: [(zg, 3, zc)]) [.ce xab (xao + i) (.int .i64 (l[i] : Nat)), .rw (.slice (some ⟨xab, xao, none⟩) l.length xk) l.length 1 (ncl l)] w3) := Lib.hid (zE.out.cast (by simp))
        clear E3 E4 zE zH zT hO
        have HWR : Hid (WR q x l i r2) := Lib.hid ⟨r1, r1h.out.1, by rw [HGD.out, ← HK.out, ← HU1.out]; exact r1h.out.2, by rw [← HK.out, ← HO1.out]; exact r2h.out⟩
        have EZ := Lib.hid ((E5.out.drop).forget)
        have OZ := Lib.hid (OI.snoc (x := r2) zO.out)
        go_wp2
        go_roundg (l.length - (i + 1))
        case rel => exact ⟨i + 1, [(zg, 3, zc)], zc, some ⟨zg, 0, none⟩, zp, o ++ [r2], rfl, OI.v, EZ, OZ, Lib.hid ⟨⟨by omega, rfl⟩, by rw [List.length_append, HOL.out]; rfl, WR_snoc HOL.out HS.out HWR.out⟩⟩
        case measure => exact by omega
    have t6 : decide ((i : Int) < (l.length : Int)) = false := decide_eq_false (by omega)
    have t7 : decide (i < l.length) = false := decide_eq_false (by omega)
    have HD : Hid (o.length = l.length ∧ ∀ j, j < l.length → WR q x l j (o.getD j 0)) := Lib.hid ⟨by rw [HOL.out, hy], by rw [← hy]; exact HS.out⟩
    have HY := Lib.hid hy
    clear hy
    have hres := Lib.hid (hO.out.rwN EL.out (by intro p hp; exact hp))
    have hbel := Lib.hid EL.out.bel
    go_wp2
    go_ret
    refine ⟨⟨o, HD, va, vk, by rw [nl_len]; rfl, Lib.hid ?_⟩, hbel.out⟩
    have h := hres.out
    rw [nl_len] at h
    exact h
end Go.Proofs.YteipbcpnnojclaaDoor

/- specieref14: plus, times, dot, Vector. -/
import Derived.Test.YtinlfogpbologaaDoorMatA
namespace Go.Proofs.YtinlfogpbologaaDoor
open Go.RowKit DivMath WordMath
set_option linter.unusedVariables false
set_option linter.unusedSimpArgs false
set_option maxHeartbeats 400000 in
theorem rplus_c (q a b : Nat) (w : World) (ha : (a : Int) < (q : Int)) (hb : (b : Int) < (q : Int)) (hm : (q : Int) < Top) :
    Calls Tryd.prog 123 #[.int .i64 q, .int .i64 a, .int .i64 b] w fun e w' => RetN (fun r => r = (a + b) % q) e ∧ Below w.heap.size w w' := by
  have hq9 : (q : Int) ≤ 2305843009213693951 := by unfold Top at hm; omega
  have e1 : wrap64 ((a : Int) + (b : Int)) = ((a + b : Nat) : Int) := wrap64_add a b (by omega)
  have hq0 : ¬ (q = 0) := by omega
  have hqz : ((q : Int) == 0) = false := beq_eq_false_iff_ne.2 (by omega)
  obtain ⟨s, hs⟩ : ∃ s, s = a + b := ⟨_, rfl⟩
  rw [← hs] at e1
  have e3 : (a : Int) + (b : Int) = (s : Int) := by omega
  have HS := Lib.hid hs
  clear hs hm
  go_enter Tryd.func123, Tryd.ntmps123
  go_wp2
  go_ret
  exact ⟨⟨s % q, Lib.hid (by rw [HS.out]), by rfl⟩, Below.refl _ _⟩
set_option maxHeartbeats 400000 in
theorem rtimes_c (q a b : Nat) (w : World) (ha : (a : Int) < (q : Int)) (hb : (b : Int) < (q : Int)) (hm : (q : Int) < Top) :
    Calls Tryd.prog 124 #[.int .i64 q, .int .i64 a, .int .i64 b] w fun e w' => RetN (fun r => r = a * b % q) e ∧ Below w.heap.size w w' := by
  go_enter Tryd.func124, Tryd.ntmps124
  go_wp2_with fail
  refine (refMulB a b q w ha hb hm).mono ?_
  rintro e w1 ⟨⟨r, hr, rfl⟩, hB⟩
  go_wp2
  go_ret
  exact ⟨⟨r, hr, rfl⟩, hB⟩
set_option maxRecDepth 100000 in
set_option maxHeartbeats 2000000 in
theorem rdot_c {D : Nat → Prop} (q : Nat) (a b : List Nat) {xa ya : Option Addr} {xk yk : Nat} {w : World} (hx : Fct.at w D (.rw (.slice xa a.length xk) a.length 1 (ncl a))) (hy : Fct.at w D (.rw (.slice ya b.length yk) b.length 1 (ncl b))) (hq : 0 < q) (hqT : (q : Int) < Top) (ha0 : ∀ c ∈ a, c < q) (hb0 : ∀ c ∈ b, c < q) (hab : a.length ≤ b.length) (hlen : a.length ≤ 1000) :
    Calls Tryd.prog 87 #[.int .i64 (q : Nat), .slice xa a.length xk, .slice ya b.length yk] w fun e w' => e = .returned (.int .i64 (dotN q a b a.length : Nat)) ∧ Below w.heap.size w w' := by
  have E0 : Hid (Env D w [] [.rw (.slice ya b.length yk) b.length 1 (ncl b), .rw (.slice xa a.length xk) a.length 1 (ncl a)] w) := Lib.hid (((Env.start D w).arg (.rw (.slice xa a.length xk) a.length 1 (ncl a)) hx).arg (.rw (.slice ya b.length yk) b.length 1 (ncl b)) hy)
  clear hx hy
  go_enter Tryd.func87, Tryd.ntmps87
  have ha := Lib.hid ha0
  have hb := Lib.hid hb0
  clear ha0 hb0
  have HT := Lib.hid hqT
  clear hqT
  have HQ := Lib.hid hq
  have HAB := Lib.hid hab
  clear hab
  go_wp2_with fail
  go_loopg [8, 7] (a.length) (fun gk s8 s7 wr => ∃ (k s : Nat), s8 = .int .i64 (k : Int) ∧ s7 = .int .i64 (s : Int) ∧ Hid (Env D w [] [.rw (.slice ya b.length yk) b.length 1 (ncl b), .rw (.slice xa a.length xk) a.length 1 (ncl a)] wr) ∧ Hid ((k ≤ a.length ∧ gk = a.length - k) ∧ s = dotN q a b k))
  case atStart => exact ⟨0, 0, rfl, rfl, Lib.hid E0.out, Lib.hid ⟨⟨Nat.zero_le _, rfl⟩, rfl⟩⟩
  case round =>
    clear E0
    obtain ⟨k, s, rfl, rfl, EL, HA⟩ := hrel
    obtain ⟨⟨a1, a2⟩, a3⟩ := HA.out
    have HS := Lib.hid a3
    clear a3 HA
    by_cases hy : k = a.length
    rotate_left
    · have hk : k < a.length := by omega
      have t6 : decide ((k : Int) < (a.length : Int)) = true := decide_eq_true (by omega)
      have t7 : decide (k < a.length) = true := decide_eq_true hk
      clear hy
      have hk9 : (k : Int) ≤ 999 := by omega
      have hkb : k < b.length := by have := HAB.out; omega
      have d1 : ((k : Int) < (b.length : Int)) := by omega
      have hsq : (s : Int) < (q : Int) := by rw [HS.out]; exact Int.ofNat_lt.2 (dotN_lt HQ.out _ _ _)
      have hxq : ((a[k] : Nat) : Int) < (q : Int) := Int.ofNat_lt.2 (ha.out _ (List.getElem_mem hk))
      have hyq : ((b[k] : Nat) : Int) < (q : Int) := Int.ofNat_lt.2 (hb.out _ (List.getElem_mem hkb))
      obtain ⟨xab, xao, rfl⟩ := Rw.addr (EL.out.fc 1 rfl) (by omega)
      have E1 : Hid (Env D w [] [.ce xab (xao + k) (.int .i64 (a[k] : Nat)), .rw (.slice ya b.length yk) b.length 1 (ncl b), .rw (.slice (some ⟨xab, xao, none⟩) a.length xk) a.length 1 (ncl a)] _) := Lib.hid (EL.out.elN 1 rfl rfl (k) hk)
      clear EL
      have p0 := (E1.out.fc 0 rfl).2
      obtain ⟨yab, yao, rfl⟩ := Rw.addr (E1.out.fc 1 rfl) (by omega)
      have E2 : Hid (Env D w [] [.ce yab (yao + k) (.int .i64 (b[k] : Nat)), .ce xab (xao + k) (.int .i64 (a[k] : Nat)), .rw (.slice (some ⟨yab, yao, none⟩) b.length yk) b.length 1 (ncl b), .rw (.slice (some ⟨xab, xao, none⟩) a.length xk) a.length 1 (ncl a)] _) := Lib.hid (E1.out.elN 1 rfl rfl (k) hkb)
      clear E1
      have o0 := (E2.out.fc 0 rfl).2
      go_wp2_with fail
      have E3 : Hid (Env D w [] [.ce yab (yao + k) (.int .i64 (b[k] : Nat)), .ce xab (xao + k) (.int .i64 (a[k] : Nat)), .rw (.slice (some ⟨yab, yao, none⟩) b.length yk) b.length 1 (ncl b), .rw (.slice (some ⟨xab, xao, none⟩) a.length xk) a.length 1 (ncl a)] (wr.drew)) := Lib.hid E2.out.drew
      clear p0 o0 E2
      refine wp_regionU (S := fun w' => w'.cell? ⟨xab, xao + k, none⟩ = some (.int .i64 (a[k] : Nat)) ∧ w'.cell? ⟨yab, yao + k, none⟩ = some (.int .i64 (b[k] : Nat))) [] (by kernel_rfl) (⟨(E3.out.fc 1 rfl).2, (E3.out.fc 0 rfl).2⟩) (fun hHeld => ?_)
      generalize wr.drew = w1 at *
      refine uTake (i := 0) (some 15) (v := ?_) rfl rfl (by kernel_rfl) (by kernel_rfl) (by kernel_rfl) (by kernel_rfl) (fun _ _ _ h => h) (by rfl) (by assumption) ?_ ?_
      rotate_left
      · (intro wS hSw; (try dsimp only at hSw); go_simp; try with_reducible rfl)
      try simp only [Act.put, List.setIfInBounds_toArray, List.set_cons_zero, List.set_cons_succ]
      refine uTake (i := 1) (some 16) (v := ?_) rfl rfl (by kernel_rfl) (by kernel_rfl) (by kernel_rfl) (by kernel_rfl) (fun _ _ _ h => h) (by rfl) (by assumption) ?_ ?_
      rotate_left
      · (intro wS hSw; (try dsimp only at hSw); go_simp; try with_reducible rfl)
      try simp only [Act.put, List.setIfInBounds_toArray, List.set_cons_zero, List.set_cons_succ]
      refine uTake (i := 2) (some 17) (v := ?_) rfl rfl (by kernel_rfl) (by kernel_rfl) (by kernel_rfl) (by kernel_rfl) (fun _ _ _ h => h) (by rfl) (by assumption) ?_ ?_
      rotate_left
      · (intro wS hSw; (try dsimp only at hSw); go_simp; try with_reducible rfl)
      try simp only [Act.put, List.setIfInBounds_toArray, List.set_cons_zero, List.set_cons_succ]
      refine uTake (i := 3) (some 18) (v := ?_) rfl rfl (by kernel_rfl) (by kernel_rfl) (by kernel_rfl) (by kernel_rfl) (fun _ _ _ h => h) (by rfl) (by assumption) ?_ ?_
      rotate_left
      · (intro wS hSw; (try dsimp only at hSw); go_simp; try with_reducible rfl)
      try simp only [Act.put, List.setIfInBounds_toArray, List.set_cons_zero, List.set_cons_succ]
      refine uTake (i := 4) (some 19) (v := ?_) rfl rfl (by kernel_rfl) (by kernel_rfl) (by kernel_rfl) (by kernel_rfl) (fun _ _ _ h => h) (by rfl) (by assumption) ?_ ?_
      rotate_left
      · (intro wS hSw; (try dsimp only at hSw); go_simp; try with_reducible rfl)
      try simp only [Act.put, List.setIfInBounds_toArray, List.set_cons_zero, List.set_cons_succ]
      refine uTake (i := 5) (some 20) (v := ?_) rfl rfl (by kernel_rfl) (by kernel_rfl) (by kernel_rfl) (by kernel_rfl) (fun _ _ _ h => h) (by rfl) (by assumption) ?_ ?_
      rotate_left
      · (intro wS hSw; (try dsimp only at hSw); go_simp; try with_reducible rfl)
      try simp only [Act.put, List.setIfInBounds_toArray, List.set_cons_zero, List.set_cons_succ]
      refine uTake (i := 6) (some 21) (v := ?_) rfl rfl (by kernel_rfl) (by kernel_rfl) (by kernel_rfl) (by kernel_rfl) (fun _ _ _ h => h) (by rfl) (by assumption) ?_ ?_
      rotate_left
      · (intro wS hSw; (try dsimp only at hSw); go_simp; try with_reducible rfl)
      try simp only [Act.put, List.setIfInBounds_toArray, List.set_cons_zero, List.set_cons_succ]
      refine uTake (i := 7) (some 22) (v := ?_) rfl rfl (by kernel_rfl) (by kernel_rfl) (by kernel_rfl) (by kernel_rfl) (fun _ _ _ h => h) (by rfl) (by assumption) ?_ ?_
      rotate_left
      · (intro wS hSw; (try dsimp only at hSw); go_simp; try with_reducible rfl)
      try simp only [Act.put, List.setIfInBounds_toArray, List.set_cons_zero, List.set_cons_succ]
      refine uTake (i := 8) (some 23) (v := ?_) rfl rfl (by kernel_rfl) (by kernel_rfl) (by kernel_rfl) (by kernel_rfl) (fun _ _ _ h => h) (by rfl) (by assumption) ?_ ?_
      rotate_left
      · (intro wS hSw; (try dsimp only at hSw); go_simp; try with_reducible rfl)
      try simp only [Act.put, List.setIfInBounds_toArray, List.set_cons_zero, List.set_cons_succ]
      refine uTake (i := 9) (some 24) (v := ?_) rfl rfl (by kernel_rfl) (by kernel_rfl) (by kernel_rfl) (by kernel_rfl) (fun _ _ _ h => h) (by rfl) (by assumption) ?_ ?_
      rotate_left
      · (intro wS hSw; (try dsimp only at hSw); go_simp; try with_reducible rfl)
      try simp only [Act.put, List.setIfInBounds_toArray, List.set_cons_zero, List.set_cons_succ]
      refine uTake (i := 10) (some 25) (v := ?_) rfl rfl (by kernel_rfl) (by kernel_rfl) (by kernel_rfl) (by kernel_rfl) (fun _ _ _ h => h) (by rfl) (by assumption) ?_ ?_
      rotate_left
      · (intro wS hSw; (try dsimp only at hSw); go_simp; try with_reducible rfl)
      try simp only [Act.put, List.setIfInBounds_toArray, List.set_cons_zero, List.set_cons_succ]
      refine uReady (rs := [11]) (by kernel_rfl) (by simp) ?_
      refine ReadyU.cons rfl (fun KK hKK => ?_) ReadyU.nil
      go_simp
      refine (rtimes_c q a[k] b[k] _ hxq hyq HT.out).mono ?_
      rintro e w2 ⟨⟨m1, m1h, rfl⟩, hb⟩
      have E4 : Hid (Env D w [] [.ce yab (yao + k) (.int .i64 (b[k] : Nat)), .ce xab (xao + k) (.int .i64 (a[k] : Nat)), .rw (.slice (some ⟨yab, yao, none⟩) b.length yk) b.length 1 (ncl b), .rw (.slice (some ⟨xab, xao, none⟩) a.length xk) a.length 1 (ncl a)] w2) := Lib.hid (E3.out.below hb)
      clear E3 hb
      have m1q : (m1 : Int) < (q : Int) := by rw [m1h.out]; exact Int.ofNat_lt.2 (Nat.mod_lt _ HQ.out)
      (try dsimp only)
      clear hHeld
      refine hKK.out _ _ (⟨(E4.out.fc 1 rfl).2, (E4.out.fc 0 rfl).2⟩) (fun hHeld => ?_)
      clear hKK KK
      try simp only [Act.put, List.setIfInBounds_toArray, List.set_cons_zero, List.set_cons_succ]
      refine uReady (rs := [12]) (by kernel_rfl) (by simp) ?_
      refine ReadyU.cons rfl (fun KK hKK => ?_) ReadyU.nil
      go_simp
      refine (rplus_c q s m1 _ hsq m1q HT.out).mono ?_
      rintro e w3 ⟨⟨m2, m2h, rfl⟩, hb⟩
      have E5 : Hid (Env D w [] [.ce yab (yao + k) (.int .i64 (b[k] : Nat)), .ce xab (xao + k) (.int .i64 (a[k] : Nat)), .rw (.slice (some ⟨yab, yao, none⟩) b.length yk) b.length 1 (ncl b), .rw (.slice (some ⟨xab, xao, none⟩) a.length xk) a.length 1 (ncl a)] w3) := Lib.hid (E4.out.below hb)
      clear E4 hb
      (try dsimp only)
      clear hHeld
      refine hKK.out _ _ (⟨(E5.out.fc 1 rfl).2, (E5.out.fc 0 rfl).2⟩) (fun hHeld => ?_)
      clear hKK KK
      try simp only [Act.put, List.setIfInBounds_toArray, List.set_cons_zero, List.set_cons_succ]
      refine uTake (i := 13) (some 7) (v := ?_) rfl rfl (by kernel_rfl) (by kernel_rfl) (by kernel_rfl) (by kernel_rfl) (fun _ _ _ h => h) (by rfl) (by assumption) ?_ ?_
      rotate_left
      · (intro wS hSw; (try dsimp only at hSw); go_simp; try with_reducible rfl)
      try simp only [Act.put, List.setIfInBounds_toArray, List.set_cons_zero, List.set_cons_succ]
      refine uDone (by kernel_rfl) ?_ _
      have HD : Hid (m2 = dotN q a b (k + 1)) := Lib.hid (by rw [m2h.out, m1h.out, HS.out]; show _ = (dotN q a b k + a.getD k 0 * b.getD k 0 % q) % q; rw [getD_elem hk, getD_elem hkb])
      have EZ := Lib.hid ((E5.out.forget).forget)
      go_wp2
      go_roundg (a.length - (k + 1))
      case rel => exact ⟨k + 1, m2, rfl, rfl, EZ, Lib.hid ⟨⟨by omega, rfl⟩, HD.out⟩⟩
      case measure => exact by omega
    have t6 : decide ((k : Int) < (a.length : Int)) = false := decide_eq_false (by omega)
    have t7 : decide (k < a.length) = false := decide_eq_false (by omega)
    obtain rfl : s = dotN q a b a.length := by rw [HS.out, hy]
    have HY := Lib.hid hy
    clear hy
    have hfin := Lib.hid EL.out.bel
    go_wp2
    go_ret
    exact ⟨rfl, hfin.out⟩
set_option maxRecDepth 100000 in
set_option maxHeartbeats 1000000 in
theorem rVector_c {D : Nat → Prop} (q : Int) (l : List Int) {xa : Option Addr} {xk : Nat} {w : World} (hx : Fct.at w D (.rw (.slice xa l.length xk) l.length 1 (icl l))) {t : Bool} (ht0 : l.all (resB q) = t) (hm : l.length ≤ 1000000) :
    Calls Tryd.prog 35 #[.int .i64 q, .slice xa l.length xk] w fun e w' => e = .returned (.bool t) ∧ Below w.heap.size w w' := by
  have E0 : Hid (Env D w [] [.rw (.slice xa l.length xk) l.length 1 (icl l)] w) := Lib.hid ((Env.start D w).arg (.rw (.slice xa l.length xk) l.length 1 (icl l)) hx)
  clear hx
  go_enter Tryd.func35, Tryd.ntmps35
  have ht := Lib.hid ht0
  clear ht0
  go_wp2_with fail
  go_loopg [5] (l.length) (fun gk s5 wr => ∃ (k : Nat), s5 = .int .i64 (k : Int) ∧ Hid (Env D w [] [.rw (.slice xa l.length xk) l.length 1 (icl l)] wr) ∧ Hid ((k ≤ l.length ∧ gk = l.length - k) ∧ ∀ j (h : j < l.length), j < k → resB q l[j] = true))
  case atStart => exact ⟨0, rfl, Lib.hid E0.out, Lib.hid ⟨⟨Nat.zero_le _, rfl⟩, fun j _ h => absurd h (Nat.not_lt_zero _)⟩⟩
  case round =>
    clear E0
    obtain ⟨k, rfl, EL, HA⟩ := hrel
    obtain ⟨⟨a1, a2⟩, a3⟩ := HA.out
    have HS := Lib.hid a3
    clear a3 HA
    by_cases hy : k = l.length
    rotate_left
    · have hk : k < l.length := by omega
      have t6 : decide ((k : Int) < (l.length : Int)) = true := decide_eq_true (by omega)
      have t7 : decide (k < l.length) = true := decide_eq_true hk
      clear hy
      obtain ⟨xab, xao, rfl⟩ := Rw.addr (EL.out.fc 0 rfl) (by omega)
      have E1 : Hid (Env D w [] [.ce xab (xao + k) (.int .i64 l[k]), .rw (.slice (some ⟨xab, xao, none⟩) l.length xk) l.length 1 (icl l)] _) := Lib.hid (EL.out.elI 0 rfl rfl (k) hk)
      clear EL
      have u0 := (E1.out.fc 0 rfl).2
      have HF : Hid (resB q l[k] = false → t = false) := Lib.hid (fun h => by rw [← ht.out, List.all_eq_false]; exact ⟨l[k], List.getElem_mem hk, by rw [h]; simp⟩)
      by_cases h1 : l[k] < 0
      · have d1 : decide (l[k] < 0) = true := decide_eq_true h1
        obtain rfl : t = false := HF.out (by unfold resB; rw [decide_eq_false (by omega)]; rfl)
        clear h1
        have hfin := Lib.hid E1.out.bel
        go_wp2
        go_ret
        exact ⟨rfl, hfin.out⟩
      have d1 : decide (l[k] < 0) = false := decide_eq_false h1
      by_cases h2 : q ≤ l[k]
      · have d2 : decide (q ≤ l[k]) = true := decide_eq_true h2
        obtain rfl : t = false := HF.out (by unfold resB; rw [decide_eq_false (show ¬ l[k] < q by omega), Bool.and_false])
        clear h1 h2
        have hfin := Lib.hid E1.out.bel
        go_wp2
        go_ret
        exact ⟨rfl, hfin.out⟩
      have d2 : decide (q ≤ l[k]) = false := decide_eq_false h2
      have HR : Hid (resB q l[k] = true) := Lib.hid (by unfold resB; rw [decide_eq_true (by omega), decide_eq_true (by omega)]; rfl)
      clear h1 h2
      have EZ := Lib.hid (E1.out.forget)
      go_wp2
      go_roundg (l.length - (k + 1))
      case rel => exact ⟨k + 1, rfl, EZ, Lib.hid ⟨⟨by omega, rfl⟩, fun j h hj => by by_cases e : j = k; (· subst e; exact HR.out); exact HS.out j h (by omega)⟩⟩
      case measure => exact by omega
    have t6 : decide ((k : Int) < (l.length : Int)) = false := decide_eq_false (by omega)
    have t7 : decide (k < l.length) = false := decide_eq_false (by omega)
    obtain rfl : t = true := by rw [← ht.out, List.all_eq_true]; intro x hx; obtain ⟨j, hj, rfl⟩ := List.getElem_of_mem hx; exact HS.out j hj (by omega)
    have HY := Lib.hid hy
    clear hy
    have hfin := Lib.hid EL.out.bel
    go_wp2
    go_ret
    exact ⟨rfl, hfin.out⟩
end Go.Proofs.YtinlfogpbologaaDoor

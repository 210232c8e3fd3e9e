/- poly: Weights. -/
import Derived.Test.YtinlfogpbologaaDoorPolX
namespace Go.Proofs.YtinlfogpbologaaDoor
open Go.RowKit DivMath WordMath
set_option linter.unusedVariables false
set_option linter.unusedSimpArgs false
theorem getD_elem {l : List Nat} {i : Nat} (h : i < l.length) : l.getD i 0 = l[i] := by rw [List.getD_eq_getElem?_getD, List.getElem?_eq_getElem h]; rfl
/-- the product of x - l[j] over the places j below k, but i -/
def wM (q x : Nat) (l : List Nat) (i : Nat) : Nat → Nat
  | 0 => 1 % q
  | k + 1 => if k = i then wM q x l i k else wM q x l i k * ((x + (q - l.getD k 0)) % q) % q
theorem wM_lt {q : Nat} (hq : 0 < q) (x : Nat) (l : List Nat) (i : Nat) : ∀ k, wM q x l i k < q
  | 0 => Nat.mod_lt _ hq
  | k + 1 => by unfold wM; split; exact wM_lt hq x l i k; exact Nat.mod_lt _ hq
theorem wM_same {q x : Nat} {l : List Nat} {i k : Nat} (h : k = i) : wM q x l i (k + 1) = wM q x l i k := by
  show (if k = i then _ else _) = _
  rw [if_pos h]
theorem wM_step {q x : Nat} {l : List Nat} {i k : Nat} (h : ¬ k = i) (hk : k < l.length) {r s : Nat} (hs : s = (x + (q - l[k])) % q) (hr : r = wM q x l i k * s % q) : r = wM q x l i (k + 1) := by
  show _ = (if k = i then _ else _)
  rw [if_neg h, hr, hs, getD_elem hk]
/-- v is the weight of place i at x -/
def WR (q x : Nat) (l : List Nat) (i v : Nat) : Prop := ∃ r, r < q ∧ wM q (l.getD i 0) l i l.length * r % q = 1 % q ∧ v = wM q x l i l.length * r % q
theorem WR_snoc {q x : Nat} {l o : List Nat} {i v : Nat} (ho : o.length = i) (h : ∀ j, j < i → WR q x l j (o.getD j 0)) (hv : WR q x l i v) : ∀ j, j < i + 1 → WR q x l j ((o ++ [v]).getD j 0) := fun j hj => by
  by_cases e : j = i
  · subst e
    rw [getD_elem (by simp; omega), List.getElem_append_right (by omega)]
    simpa using hv
  · have hji : j < i := by omega
    have e2 : (o ++ [v]).getD j 0 = o.getD j 0 := by
      rw [getD_elem (by simp; omega), getD_elem (by omega), List.getElem_append_left]
    rw [e2]; exact h j hji
set_option maxRecDepth 100000 in
set_option maxHeartbeats 4000000 in
theorem Weights_ok {D : Nat → Prop} (q : Nat) (l : List Nat) (x : Nat) {xa : Option Addr} {xk : Nat} {w : World} (hx : Fct.at w D (.rw (.slice xa l.length xk) l.length 1 (ncl l))) (hl0 : Laid w) (hqT : (q : Int) < Top) (hq1 : 1 < q) (hf0 : fieldB q = true) (hlen : l.length ≤ 100) (hr0 : ∀ c ∈ l, c < q) (hxq : (x : Int) < (q : Int)) (hd0 : l.Nodup) (hg0 : ∀ i, i < l.length → Nat.gcd (wM q (l.getD i 0) l i l.length) q = 1) :
    Calls Tryd.prog 57 #[.int .i64 (q : Nat), .slice xa l.length xk, .int .i64 (x : Nat)] w fun e w' => (∃ o : List Nat, Hid (o.length = l.length ∧ ∀ i, i < l.length → WR q x l i (o.getD i 0)) ∧ RetIE (fun b => w.heap.size ≤ b) o 0 e w') ∧ Below w.heap.size w w' := by
  have E0 : Hid (Env D w [] [.rw (.slice xa l.length xk) l.length 1 (ncl l)] w) := Lib.hid ((Env.start D w).arg (.rw (.slice xa l.length xk) l.length 1 (ncl l)) hx)
  clear hx
  go_enter Tryd.func57, Tryd.ntmps57
  have hl := Lib.hid hl0
  have hf := Lib.hid hf0
  have hr := Lib.hid hr0
  have hd := Lib.hid hd0
  have hg := Lib.hid hg0
  clear hl0 hf0 hr0 hd0 hg0
  have HT := Lib.hid hqT
  have hq9 : (q : Int) ≤ 2305843009213693951 := by unfold Top at hqT; omega
  clear hqT
  have hq0 : ¬ (q = 0) := by omega
  have hqz : ((q : Int) == 0) = false := beq_eq_false_iff_ne.2 (by omega)
  have HQ : Hid (0 < q) := Lib.hid (by omega)
  have HQ9 := Lib.hid hq9
  have HXS : Hid (∀ c ∈ [x], c < q) := Lib.hid (fun c hc => by rw [List.mem_singleton.1 hc]; exact Int.ofNat_lt.1 hxq)
  have E1 : Hid (Env D w [(w.heap.size, 3, [.int .i64 (x : Nat)])] [.rw (.slice xa l.length xk) l.length 1 (ncl l)] _) := Lib.hid ((E0.out.push 3 [.int .i64 (x : Nat)] (w.heap.size) (by simp)))
  go_wp2_with fail
  refine (check_ok q l [x] (Rw.tr (E1.out.fc 0 rfl)) (Rw.box1 (E1.out.bx 0 rfl)) (hl.out.below E1.out.bel) (by have := HQ9.out; omega) hf.out hlen (by simp) hr.out HXS.out hd.out).mono ?_
  rintro e w1 ⟨rfl, hb⟩
  have E2 : Hid (Env D w [(w.heap.size, 3, [.int .i64 (x : Nat)])] [.rw (.slice xa l.length xk) l.length 1 (ncl l)] w1) := Lib.hid (E1.out.below hb)
  clear E0 E1 hb
  go_wp2_with fail
  go_loopg [26, 9] (l.length) (fun gk s26 s9 wr => ∃ (i : Nat) (sg : List Bx) (cs : List Value) (va : Option Addr) (vk : Nat) (o : List Nat), s26 = .int .i64 (i : Int) ∧ s9 = .slice va (nl o).length vk ∧ Hid (Env D w ((w.heap.size, 3, [.int .i64 (x : Nat)]) :: sg) [.rw (.slice xa l.length xk) l.length 1 (ncl l)] wr) ∧ Hid (OI sg cs (.slice va (nl o).length vk) (nl o)) ∧ Hid ((i ≤ l.length ∧ gk = l.length - i) ∧ o.length = i ∧ ∀ j, j < i → WR q x l j (o.getD j 0)))
  case atStart => exact ⟨0, [], [], none, 0, [], rfl, rfl, Lib.hid (E2.out.cast (by simp)), Lib.hid OI.nlnil, Lib.hid ⟨⟨Nat.zero_le _, rfl⟩, rfl, fun j h => absurd h (Nat.not_lt_zero _)⟩⟩
  case round =>
    clear E2
    obtain ⟨i, sg, cs, va, vk, o, rfl, rfl, EL, hO, HA⟩ := hrel
    obtain ⟨⟨a1, a2⟩, a3, a4⟩ := HA.out
    have HOL := Lib.hid a3
    have HS := Lib.hid a4
    clear a3 a4 HA
    by_cases hy : i = l.length
    rotate_left
    · have hi : i < l.length := by omega
      have t6 : decide ((i : Int) < (l.length : Int)) = true := decide_eq_true (by omega)
      have t7 : decide (i < l.length) = true := decide_eq_true hi
      clear hy
      have hi9 : (i : Int) ≤ 99 := by omega
      have hiq : ((l[i] : Nat) : Int) < (q : Int) := Int.ofNat_lt.2 (hr.out _ (List.getElem_mem hi))
      obtain ⟨xab, xao, rfl⟩ := Rw.addr (EL.out.fc 0 rfl) (by omega)
      have E3 : Hid (Env D w ((w.heap.size, 3, [.int .i64 (x : Nat)]) :: sg) [.ce xab (xao + i) (.int .i64 (l[i] : Nat)), .rw (.slice (some ⟨xab, xao, none⟩) l.length xk) l.length 1 (ncl l)] _) := Lib.hid (EL.out.elN 0 rfl rfl (i) hi)
      clear EL
      have u0 := (E3.out.fc 0 rfl).2
      go_wp2_with fail
      have E4 : Hid (Env D w ((w.heap.size, 3, [.int .i64 (x : Nat)]) :: sg) [.ce xab (xao + i) (.int .i64 (l[i] : Nat)), .rw (.slice (some ⟨xab, xao, none⟩) l.length xk) l.length 1 (ncl l)] (wr.drew)) := Lib.hid E3.out.drew
      clear u0 E3
      refine wp_regionU (S := fun w' => True) [] (by kernel_rfl) (trivial) (fun hHeld => ?_)
      generalize wr.drew = w2 at *
      refine uTake (i := 0) (some 31) (v := ?_) rfl rfl (by kernel_rfl) (by kernel_rfl) (by kernel_rfl) (by kernel_rfl) (fun _ _ _ h => h) (by rfl) (by assumption) ?_ ?_
      rotate_left
      · (intro wS hSw; (try dsimp only at hSw); go_simp; try with_reducible rfl)
      try simp only [Act.put, List.setIfInBounds_toArray, List.set_cons_zero, List.set_cons_succ]
      refine uTake (i := 1) (some 32) (v := .int .i64 ((1 % q : Nat) : Int)) rfl rfl (by kernel_rfl) (by kernel_rfl) (by kernel_rfl) (by kernel_rfl) (fun _ _ _ h => h) (by rfl) (by assumption) ?_ ?_
      · (intro wS hSw; (try dsimp only at hSw); go_simp; exact Int.tmod_eq_emod_of_nonneg (by omega))
      try simp only [Act.put, List.setIfInBounds_toArray, List.set_cons_zero, List.set_cons_succ]
      refine uTake (i := 2) (some 33) (v := ?_) rfl rfl (by kernel_rfl) (by kernel_rfl) (by kernel_rfl) (by kernel_rfl) (fun _ _ _ h => h) (by rfl) (by assumption) ?_ ?_
      rotate_left
      · (intro wS hSw; (try dsimp only at hSw); go_simp; try with_reducible rfl)
      try simp only [Act.put, List.setIfInBounds_toArray, List.set_cons_zero, List.set_cons_succ]
      refine uTake (i := 3) (some 34) (v := .int .i64 ((1 % q : Nat) : Int)) rfl rfl (by kernel_rfl) (by kernel_rfl) (by kernel_rfl) (by kernel_rfl) (fun _ _ _ h => h) (by rfl) (by assumption) ?_ ?_
      · (intro wS hSw; (try dsimp only at hSw); go_simp; exact Int.tmod_eq_emod_of_nonneg (by omega))
      try simp only [Act.put, List.setIfInBounds_toArray, List.set_cons_zero, List.set_cons_succ]
      refine uTake (i := 4) (some 12) (v := ?_) rfl rfl (by kernel_rfl) (by kernel_rfl) (by kernel_rfl) (by kernel_rfl) (fun _ _ _ h => h) (by rfl) (by assumption) ?_ ?_
      rotate_left
      · (intro wS hSw; (try dsimp only at hSw); go_simp; try with_reducible rfl)
      try simp only [Act.put, List.setIfInBounds_toArray, List.set_cons_zero, List.set_cons_succ]
      refine uTake (i := 5) (some 13) (v := ?_) rfl rfl (by kernel_rfl) (by kernel_rfl) (by kernel_rfl) (by kernel_rfl) (fun _ _ _ h => h) (by rfl) (by assumption) ?_ ?_
      rotate_left
      · (intro wS hSw; (try dsimp only at hSw); go_simp; try with_reducible rfl)
      try simp only [Act.put, List.setIfInBounds_toArray, List.set_cons_zero, List.set_cons_succ]
      refine uDone (by kernel_rfl) ?_ _
      go_wp2_with fail
      go_loopg [37, 12, 13] (l.length) (fun gk s37 s12 s13 wr => ∃ (k o1 u1 : Nat), s37 = .int .i64 (k : Int) ∧ s12 = .int .i64 (o1 : Int) ∧ s13 = .int .i64 (u1 : Int) ∧ Hid (Env D w ((w.heap.size, 3, [.int .i64 (x : Nat)]) :: sg) [.ce xab (xao + i) (.int .i64 (l[i] : Nat)), .rw (.slice (some ⟨xab, xao, none⟩) l.length xk) l.length 1 (ncl l)] wr) ∧ Hid ((k ≤ l.length ∧ gk = l.length - k) ∧ o1 = wM q x l i k ∧ u1 = wM q l[i] l i k))
      case atStart => exact ⟨0, 1 % q, 1 % q, rfl, rfl, rfl, Lib.hid E4.out, Lib.hid ⟨⟨Nat.zero_le _, rfl⟩, rfl, rfl⟩⟩
      case round =>
        clear E4
        obtain ⟨k, o1, u1, rfl, rfl, rfl, EL, HA⟩ := hrel
        obtain ⟨⟨b1, b2⟩, b3, b4⟩ := HA.out
        have HO1 := Lib.hid b3
        have HU1 := Lib.hid b4
        clear b3 b4 HA
        have ho1 : (o1 : Int) < (q : Int) := by rw [HO1.out]; exact Int.ofNat_lt.2 (wM_lt HQ.out _ _ _ _)
        have hu1 : (u1 : Int) < (q : Int) := by rw [HU1.out]; exact Int.ofNat_lt.2 (wM_lt HQ.out _ _ _ _)
        by_cases hy : k = l.length
        rotate_left
        · have hk : k < l.length := by omega
          have t8 : decide ((k : Int) < (l.length : Int)) = true := decide_eq_true (by omega)
          have t9 : decide (k < l.length) = true := decide_eq_true hk
          clear hy
          have hk9 : (k : Int) ≤ 99 := by omega
          have hkq : ((l[k] : Nat) : Int) < (q : Int) := Int.ofNat_lt.2 (hr.out _ (List.getElem_mem hk))
          have E5 : Hid (Env D w ((w.heap.size, 3, [.int .i64 (x : Nat)]) :: sg) [.ce xab (xao + k) (.int .i64 (l[k] : Nat)), .ce xab (xao + i) (.int .i64 (l[i] : Nat)), .rw (.slice (some ⟨xab, xao, none⟩) l.length xk) l.length 1 (ncl l)] _) := Lib.hid (EL.out.elN 1 rfl rfl (k) hk)
          clear EL
          have v0 := (E5.out.fc 0 rfl).2
          by_cases hki : k = i
          · have n1 : ((k : Int) == (i : Int)) = true := beq_iff_eq.2 (by omega)
            have n2 : (k == i) = true := beq_iff_eq.2 hki
            have n3 : ((k : Int) != (i : Int)) = false := by rw [bne, n1]; rfl
            have n4 : (k != i) = false := by rw [bne, n2]; rfl
            have HKI := Lib.hid hki
            clear hki
            have EZ := Lib.hid (E5.out.forget)
            go_wp2
            go_roundg (l.length - (k + 1))
            case rel => exact ⟨k + 1, o1, u1, rfl, rfl, rfl, EZ, Lib.hid ⟨⟨by omega, rfl⟩, by rw [wM_same HKI.out]; exact HO1.out, by rw [wM_same HKI.out]; exact HU1.out⟩⟩
            case measure => exact by omega
          · have n1 : ((k : Int) == (i : Int)) = false := beq_eq_false_iff_ne.2 (by omega)
            have n2 : (k == i) = false := beq_eq_false_iff_ne.2 hki
            have n3 : ((k : Int) != (i : Int)) = true := by rw [bne, n1]; rfl
            have n4 : (k != i) = true := by rw [bne, n2]; rfl
            have HKI := Lib.hid hki
            clear hki
            go_wp2_with fail
            refine (polsub_c q x l[k] _ hxq hkq HT.out).mono ?_
            rintro e w3 ⟨⟨s1, s1h, rfl⟩, hb⟩
            have E6 : Hid (Env D w ((w.heap.size, 3, [.int .i64 (x : Nat)]) :: sg) [.ce xab (xao + k) (.int .i64 (l[k] : Nat)), .ce xab (xao + i) (.int .i64 (l[i] : Nat)), .rw (.slice (some ⟨xab, xao, none⟩) l.length xk) l.length 1 (ncl l)] w3) := Lib.hid (E5.out.below hb)
            clear v0 E5 hb
            have s1q : (s1 : Int) < (q : Int) := by rw [s1h.out]; exact Int.ofNat_lt.2 (Nat.mod_lt _ HQ.out)
            go_wp2_with fail
            refine (polmulB q o1 s1 _ ho1 s1q HT.out).mono ?_
            rintro e w4 ⟨⟨s2, s2h, rfl⟩, hb⟩
            have E7 : Hid (Env D w ((w.heap.size, 3, [.int .i64 (x : Nat)]) :: sg) [.ce xab (xao + k) (.int .i64 (l[k] : Nat)), .ce xab (xao + i) (.int .i64 (l[i] : Nat)), .rw (.slice (some ⟨xab, xao, none⟩) l.length xk) l.length 1 (ncl l)] w4) := Lib.hid (E6.out.below hb)
            clear E6 hb
            have s2q : (s2 : Int) < (q : Int) := by rw [s2h.out]; exact Int.ofNat_lt.2 (Nat.mod_lt _ HQ.out)
            go_wp2_with fail
            refine (polsub_c q l[i] l[k] _ hiq hkq HT.out).mono ?_
            rintro e w5 ⟨⟨s3, s3h, rfl⟩, hb⟩
            have E8 : Hid (Env D w ((w.heap.size, 3, [.int .i64 (x : Nat)]) :: sg) [.ce xab (xao + k) (.int .i64 (l[k] : Nat)), .ce xab (xao + i) (.int .i64 (l[i] : Nat)), .rw (.slice (some ⟨xab, xao, none⟩) l.length xk) l.length 1 (ncl l)] w5) := Lib.hid (E7.out.below hb)
            clear E7 hb
            have s3q : (s3 : Int) < (q : Int) := by rw [s3h.out]; exact Int.ofNat_lt.2 (Nat.mod_lt _ HQ.out)
            go_wp2_with fail
            refine (polmulB q u1 s3 _ hu1 s3q HT.out).mono ?_
            rintro e w6 ⟨⟨s4, s4h, rfl⟩, hb⟩
            have E9 : Hid (Env D w ((w.heap.size, 3, [.int .i64 (x : Nat)]) :: sg) [.ce xab (xao + k) (.int .i64 (l[k] : Nat)), .ce xab (xao + i) (.int .i64 (l[i] : Nat)), .rw (.slice (some ⟨xab, xao, none⟩) l.length xk) l.length 1 (ncl l)] w6) := Lib.hid (E8.out.below hb)
            clear E8 hb
            have s4q : (s4 : Int) < (q : Int) := by rw [s4h.out]; exact Int.ofNat_lt.2 (Nat.mod_lt _ HQ.out)
            have EZ := Lib.hid (E9.out.forget)
            go_wp2
            go_roundg (l.length - (k + 1))
            case rel => exact ⟨k + 1, s2, s4, rfl, rfl, rfl, EZ, Lib.hid ⟨⟨by omega, rfl⟩, wM_step HKI.out hk s1h.out (by rw [← HO1.out]; exact s2h.out), wM_step HKI.out hk s3h.out (by rw [← HU1.out]; exact s4h.out)⟩⟩
            case measure => exact by omega
        have t8 : decide ((k : Int) < (l.length : Int)) = false := decide_eq_false (by omega)
        have t9 : decide (k < l.length) = false := decide_eq_false (by omega)
        have HK := Lib.hid hy
        clear hy
        have HGD : Hid (l.getD i 0 = l[i]) := Lib.hid (getD_elem hi)
        have HGC : Hid (Nat.gcd u1 q = 1) := Lib.hid (by have h := hg.out i hi; rw [HGD.out, ← HK.out] at h; rw [HU1.out]; exact h)
        have hol : (nl o).length + 1 ≤ 1000000 := by rw [nl_len, HOL.out]; omega
        have HOL2 := Lib.hid hol
        clear hol
        go_wp2_with fail
        refine (polinv_c q u1 _ hu1 HT.out HGC.out).mono ?_
        rintro e w3 ⟨⟨r1, r1h, rfl⟩, hb⟩
        have E5 : Hid (Env D w ((w.heap.size, 3, [.int .i64 (x : Nat)]) :: sg) [.ce xab (xao + i) (.int .i64 (l[i] : Nat)), .rw (.slice (some ⟨xab, xao, none⟩) l.length xk) l.length 1 (ncl l)] w3) := Lib.hid (EL.out.below hb)
        clear EL hb
        have r1q : (r1 : Int) < (q : Int) := Int.ofNat_lt.2 r1h.out.1
        go_wp2_with fail
        refine (polmulB q o1 r1 _ ho1 r1q HT.out).mono ?_
        rintro e w4 ⟨⟨r2, r2h, rfl⟩, hb⟩
        have E6 : Hid (Env D w ((w.heap.size, 3, [.int .i64 (x : Nat)]) :: sg) [.ce xab (xao + i) (.int .i64 (l[i] : Nat)), .rw (.slice (some ⟨xab, xao, none⟩) l.length xk) l.length 1 (ncl l)] w4) := Lib.hid (E5.out.below hb)
        clear E5 hb
        have E7 : Hid (Env D w ((w4.heap.size, 3, [.int .i64 (r2 : Nat)]) :: (w.heap.size, 3, [.int .i64 (x : Nat)]) :: sg) [.ce xab (xao + i) (.int .i64 (l[i] : Nat)), .rw (.slice (some ⟨xab, xao, none⟩) l.length xk) l.length 1 (ncl l)] _) := Lib.hid ((E6.out.push 3 [.int .i64 (r2 : Nat)] (w4.heap.size) (by simp)))
        go_wp2_with (at_builtin; refine wpl_app1 (c := 1) tiI rfl _ _ rfl E7.out (A := [(w4.heap.size, 3, [.int .i64 (r2 : Nat)]), (w.heap.size, 3, [.int .i64 (x : Nat)])]) (sg := sg) (B' := []) (F := ((w4.heap.size, 3, [.int .i64 (r2 : Nat)]) :: (w.heap.size, 3, [.int .i64 (x : Nat)]) :: sg)) (by simp) (hO.out.os rfl) rfl rfl (SrcN.int (E7.out.bx 0 rfl)) HOL2.out ?_)
        intro zg zp zc w5 zH zT zE
        have zO := Lib.hid (OI.app (x := ((r2 : Nat) : Int)) (g' := zg) (cs' := zc) (cap' := zp) hO.out rfl (by simpa using zH.out) (by simpa using zT.out))
        have E8 : Hid (Env D w ((w4.heap.size, 3, [.int .i64 (r2 : Nat)]) :: (w.heap.size, 3, [.int .i64 (x : Nat)]) :: [(zg, 3, zc)]) [.ce xab (xao + i) (.int .i64 (l[i] : Nat)), .rw (.slice (some ⟨xab, xao, none⟩) l.length xk) l.length 1 (ncl l)] w5) := Lib.hid (zE.out.cast (by simp))
        clear E6 E7 zE zH zT hO
        have HWR : Hid (WR q x l i r2) := Lib.hid ⟨r1, r1h.out.1, by rw [HGD.out, ← HK.out, ← HU1.out]; exact r1h.out.2, by rw [← HK.out, ← HO1.out]; exact r2h.out⟩
        have EZ := Lib.hid ((E8.out.drop).forget)
        have OZ := Lib.hid (OI.snoc (x := r2) zO.out)
        go_wp2
        go_roundg (l.length - (i + 1))
        case rel => exact ⟨i + 1, [(zg, 3, zc)], zc, some ⟨zg, 0, none⟩, zp, o ++ [r2], rfl, OI.v, EZ, OZ, Lib.hid ⟨⟨by omega, rfl⟩, by rw [List.length_append, HOL.out]; rfl, WR_snoc HOL.out HS.out HWR.out⟩⟩
        case measure => exact by omega
    have t6 : decide ((i : Int) < (l.length : Int)) = false := decide_eq_false (by omega)
    have t7 : decide (i < l.length) = false := decide_eq_false (by omega)
    have HD : Hid (o.length = l.length ∧ ∀ j, j < l.length → WR q x l j (o.getD j 0)) := Lib.hid ⟨by rw [HOL.out, hy], by rw [← hy]; exact HS.out⟩
    have HY := Lib.hid hy
    clear hy
    have hres := Lib.hid (hO.out.rwN EL.out (by intro p hp; exact List.mem_cons_of_mem _ hp))
    have hbel := Lib.hid EL.out.bel
    go_wp2
    go_ret2
    refine ⟨⟨o, HD, va, vk, by rw [nl_len]; rfl, Lib.hid ?_⟩, hbel.out⟩
    have h := hres.out
    rw [nl_len] at h
    exact h
end Go.Proofs.YtinlfogpbologaaDoor

/- poly: Interpolate. -/
import Derived.Test.YtinlfogpbologaaDoorPolY
import Derived.Test.YtinlfogpbologaaDoorPolT
namespace Go.Proofs.YtinlfogpbologaaDoor
open Go.RowKit DivMath WordMath
set_option linter.unusedVariables false
set_option linter.unusedSimpArgs false
theorem mulL_le (q : Nat) (a b : List Nat) : (mulL q a b).length ≤ a.length + b.length - 1 := by
  unfold mulL; split
  · simp
  · rw [mulTo_len]; exact Nat.le_refl _
theorem mulL_lt {q : Nat} (hq : 0 < q) (a b : List Nat) : ∀ c ∈ mulL q a b, c < q := by
  unfold mulL; split
  · intro c hc; cases hc
  · exact mulTo_lt hq a b _
/-- the polynomials of Newton's way, behind k points: the sum so far and the product of the factors -/
def ItR (q : Nat) (a b : List Nat) : Nat → List Nat → List Nat → Prop
  | 0, u, v => u = [] ∧ v = [1]
  | k + 1, u, v => ∃ u0 v0 r, ItR q a b k u0 v0 ∧ r < q ∧ evN q (a.getD k 0) v0 * r % q = 1 % q ∧ u = trimN (addL q u0 (trimN (mulL q [((b.getD k 0 + (q - evN q (a.getD k 0) u0)) % q) * r % q] v0))) ∧ v = trimN (mulL q v0 [(0 + (q - a.getD k 0)) % q, 1])
theorem ItR_len {q : Nat} (hq : 1 < q) {a b : List Nat} : ∀ {k u v}, ItR q a b k u v → (u.length ≤ k ∧ v.length ≤ k + 1) ∧ (∀ c ∈ u, c < q) ∧ ∀ c ∈ v, c < q
  | 0, u, v, h => by
    obtain ⟨rfl, rfl⟩ := h
    refine ⟨⟨Nat.le_refl _, Nat.le_refl _⟩, by simp, fun c hc => by rw [List.mem_singleton.1 hc]; exact hq⟩
  | k + 1, u, v, h => by
    obtain ⟨u0, v0, r, h1, h2, h3, rfl, rfl⟩ := h
    obtain ⟨⟨l1, l2⟩, b1, b2⟩ := ItR_len hq h1
    refine ⟨⟨?_, ?_⟩, trimN_lt (addL_lt (by omega) _ _), trimN_lt (mulL_lt (by omega) _ _)⟩
    · refine Nat.le_trans (trimN_len _) ?_
      rw [addL_len]
      have e1 := trimN_len (mulL q [((b.getD k 0 + (q - evN q (a.getD k 0) u0)) % q) * r % q] v0)
      have e2 := mulL_le q [((b.getD k 0 + (q - evN q (a.getD k 0) u0)) % q) * r % q] v0
      simp only [List.length_singleton] at e2
      omega
    · refine Nat.le_trans (trimN_len _) ?_
      have e2 := mulL_le q v0 [(0 + (q - a.getD k 0)) % q, 1]
      simp only [List.length_cons, List.length_nil] at e2
      omega
theorem Env.freezeN {D0 : Nat → Prop} {w W : World} {F : List Bx} {G : List Fct} {g : Nat} {T : TypeId} (l : List Nat) (E : Env D0 w ((g, T, ncl l) :: F) G W) (hn : l.length ≤ 1000000) : Env D0 w F (.rw (.slice (some ⟨g, 0, none⟩) l.length l.length) l.length 1 (ncl l) :: G) W := by
  have hB := E.box.1
  refine E.drop.note _ ⟨some ⟨g, 0, none⟩, l.length, rfl, Nat.le_refl _, by omega, ncl_len l, ncl_one l, fun _ => ⟨g, 0, rfl, ⟨hB.lt, fun p hp => E.box.2.1 p hp, .inr hB.1⟩, fun i u hu => ?_⟩⟩
  rw [Nat.zero_add]; exact hB.cell i hu
set_option maxRecDepth 100000 in
set_option maxHeartbeats 4000000 in
theorem Interpolate_ok {D : Nat → Prop} (q : Nat) (a b : List Nat) {xa ya : Option Addr} {xk yk : Nat} {w : World} (hx : Fct.at w D (.rw (.slice xa a.length xk) a.length 1 (ncl a))) (hy : Fct.at w D (.rw (.slice ya b.length yk) b.length 1 (ncl b))) (hl0 : Laid w) (hqT : (q : Int) < Top) (hq1 : 1 < q) (hf0 : fieldB q = true) (hab : a.length = b.length) (hlen : a.length ≤ 100) (hr0 : ∀ c ∈ a, c < q) (hs0 : ∀ c ∈ b, c < q) (hd0 : a.Nodup) (hg0 : ∀ k u v, k < a.length → ItR q a b k u v → Nat.gcd (evN q (a.getD k 0) v) q = 1) :
    Calls Tryd.prog 58 #[.int .i64 (q : Nat), .slice xa a.length xk, .slice ya b.length yk] w fun e w' => (∃ u v : List Nat, Hid (ItR q a b a.length u v) ∧ RetIE (fun _ => True) u 0 e w') ∧ Below w.heap.size w w' := by
  have E0 : Hid (Env D w [] [.rw (.slice ya b.length yk) b.length 1 (ncl b), .rw (.slice xa a.length xk) a.length 1 (ncl a)] w) := Lib.hid (((Env.start D w).arg (.rw (.slice xa a.length xk) a.length 1 (ncl a)) hx).arg (.rw (.slice ya b.length yk) b.length 1 (ncl b)) hy)
  clear hx hy
  go_enter Tryd.func58, Tryd.ntmps58
  have hl := Lib.hid hl0
  have hf := Lib.hid hf0
  have hr := Lib.hid hr0
  have hs := Lib.hid hs0
  have hd := Lib.hid hd0
  have hg := Lib.hid hg0
  clear hl0 hf0 hr0 hs0 hd0 hg0
  have HT := Lib.hid hqT
  have hq9 : (q : Int) ≤ 2305843009213693951 := by unfold Top at hqT; omega
  clear hqT
  have HQ : Hid (0 < q) := Lib.hid (by omega)
  have HQ1 := Lib.hid hq1
  have HQ9 := Lib.hid hq9
  have n1 : ((a.length : Int) == (b.length : Int)) = true := beq_iff_eq.2 (by omega)
  have n2 : (a.length == b.length) = true := beq_iff_eq.2 hab
  have n3 : ((a.length : Int) != (b.length : Int)) = false := by rw [bne, n1]; rfl
  have n4 : (a.length != b.length) = false := by rw [bne, n2]; rfl
  have HAB := Lib.hid hab
  clear hab
  go_wp2_with fail
  refine (check_ok q a b (E0.out.fc 1 rfl) (E0.out.fc 0 rfl) (hl.out.below E0.out.bel) (by have := HQ9.out; omega) hf.out hlen (by have := HAB.out; omega) hr.out hs.out hd.out).mono ?_
  rintro e w1 ⟨rfl, hb⟩
  have E1 : Hid (Env D w [] [.rw (.slice ya b.length yk) b.length 1 (ncl b), .rw (.slice xa a.length xk) a.length 1 (ncl a)] w1) := Lib.hid (E0.out.below hb)
  clear E0 hb
  go_wp2_with fail
  have E2 : Hid (Env D w [(w1.heap.size, 3, [.int .i64 1])] [.rw (.slice ya b.length yk) b.length 1 (ncl b), .rw (.slice xa a.length xk) a.length 1 (ncl a)] _) := Lib.hid ((E1.out.push 3 [.int .i64 1] (w1.heap.size) (by simp)))
  have E3 : Hid (Env D w [] [.rw (.slice none ([] : List Nat).length 0) ([] : List Nat).length 1 (ncl []), .rw (.slice (some ⟨w1.heap.size, 0, none⟩) [1].length [1].length) [1].length 1 (ncl [1]), .rw (.slice ya b.length yk) b.length 1 (ncl b), .rw (.slice xa a.length xk) a.length 1 (ncl a)] (w1.alloc (.cells #[.int .i64 1] 3))) := Lib.hid ((Env.freezeN [1] E2.out (by simp)).note _ (Rw.nil _ _ _))
  go_loopg [29, 9, 10] (a.length) (fun gk s29 s9 s10 wr => ∃ (k : Nat) (ua : Option Addr) (uk : Nat) (u : List Nat) (va : Option Addr) (vk : Nat) (v : List Nat), s29 = .int .i64 (k : Int) ∧ s9 = .slice ua u.length uk ∧ s10 = .slice va v.length vk ∧ Hid (Env D w [] [.rw (.slice ua u.length uk) u.length 1 (ncl u), .rw (.slice va v.length vk) v.length 1 (ncl v), .rw (.slice ya b.length yk) b.length 1 (ncl b), .rw (.slice xa a.length xk) a.length 1 (ncl a)] wr) ∧ Hid ((k ≤ a.length ∧ gk = a.length - k) ∧ ItR q a b k u v))
  case atStart => exact ⟨0, none, 0, [], some ⟨w1.heap.size, 0, none⟩, 1, [1], rfl, rfl, rfl, Lib.hid E3.out, Lib.hid ⟨⟨Nat.zero_le _, rfl⟩, rfl, rfl⟩⟩
  case round =>
    clear E1 E2 E3
    obtain ⟨k, ua, uk, u, va, vk, v, rfl, rfl, rfl, EL, HA⟩ := hrel
    obtain ⟨⟨a1, a2⟩, a3⟩ := HA.out
    have HS := Lib.hid a3
    clear a3 HA
    by_cases hy : k = a.length
    rotate_left
    · have hk : k < a.length := by omega
      have t6 : decide ((k : Int) < (a.length : Int)) = true := decide_eq_true (by omega)
      have t7 : decide (k < a.length) = true := decide_eq_true hk
      clear hy
      have hk9 : (k : Int) ≤ 99 := by omega
      have hkb : k < b.length := by have := HAB.out; omega
      have HL := Lib.hid (ItR_len HQ1.out HS.out)
      have hxq : ((a[k] : Nat) : Int) < (q : Int) := Int.ofNat_lt.2 (hr.out _ (List.getElem_mem hk))
      have hyq : ((b[k] : Nat) : Int) < (q : Int) := Int.ofNat_lt.2 (hs.out _ (List.getElem_mem hkb))
      have heu : ((evN q a[k] u : Nat) : Int) < (q : Int) := Int.ofNat_lt.2 (evN_lt HQ.out _)
      have hev : ((evN q a[k] v : Nat) : Int) < (q : Int) := Int.ofNat_lt.2 (evN_lt HQ.out _)
      have HGA : Hid (a.getD k 0 = a[k]) := Lib.hid (getD_elem hk)
      have HGB : Hid (b.getD k 0 = b[k]) := Lib.hid (getD_elem hkb)
      have HGC : Hid (Nat.gcd (evN q a[k] v) q = 1) := Lib.hid (by have h := hg.out k u v hk HS.out; rw [HGA.out] at h; exact h)
      obtain ⟨xab, xao, rfl⟩ := Rw.addr (EL.out.fc 3 rfl) (by omega)
      have E4 : Hid (Env D w [] [.ce xab (xao + k) (.int .i64 (a[k] : Nat)), .rw (.slice ua u.length uk) u.length 1 (ncl u), .rw (.slice va v.length vk) v.length 1 (ncl v), .rw (.slice ya b.length yk) b.length 1 (ncl b), .rw (.slice (some ⟨xab, xao, none⟩) a.length xk) a.length 1 (ncl a)] _) := Lib.hid (EL.out.elN 3 rfl rfl (k) hk)
      clear EL
      have p0 := (E4.out.fc 0 rfl).2
      obtain ⟨yab, yao, rfl⟩ := Rw.addr (E4.out.fc 3 rfl) (by omega)
      have E5 : Hid (Env D w [] [.ce yab (yao + k) (.int .i64 (b[k] : Nat)), .ce xab (xao + k) (.int .i64 (a[k] : Nat)), .rw (.slice ua u.length uk) u.length 1 (ncl u), .rw (.slice va v.length vk) v.length 1 (ncl v), .rw (.slice (some ⟨yab, yao, none⟩) b.length yk) b.length 1 (ncl b), .rw (.slice (some ⟨xab, xao, none⟩) a.length xk) a.length 1 (ncl a)] _) := Lib.hid (E4.out.elN 3 rfl rfl (k) hkb)
      clear E4
      have o0 := (E5.out.fc 0 rfl).2
      go_wp2_with fail
      have E6 : Hid (Env D w [] [.ce yab (yao + k) (.int .i64 (b[k] : Nat)), .ce xab (xao + k) (.int .i64 (a[k] : Nat)), .rw (.slice ua u.length uk) u.length 1 (ncl u), .rw (.slice va v.length vk) v.length 1 (ncl v), .rw (.slice (some ⟨yab, yao, none⟩) b.length yk) b.length 1 (ncl b), .rw (.slice (some ⟨xab, xao, none⟩) a.length xk) a.length 1 (ncl a)] (wr.drew)) := Lib.hid E5.out.drew
      clear p0 o0 E5
      refine wp_regionU (S := fun w' => w'.cell? ⟨yab, yao + k, none⟩ = some (.int .i64 (b[k] : Nat))) [] (by kernel_rfl) ((E6.out.fc 0 rfl).2) (fun hHeld => ?_)
      generalize wr.drew = w2 at *
      refine uTake (i := 0) (some 34) (v := ?_) rfl rfl (by kernel_rfl) (by kernel_rfl) (by kernel_rfl) (by kernel_rfl) (fun _ _ _ h => h) (by rfl) (by assumption) ?_ ?_
      rotate_left
      · (intro wS hSw; (try dsimp only at hSw); go_simp; try with_reducible rfl)
      try simp only [Act.put, List.setIfInBounds_toArray, List.set_cons_zero, List.set_cons_succ]
      refine uTake (i := 1) (some 35) (v := ?_) rfl rfl (by kernel_rfl) (by kernel_rfl) (by kernel_rfl) (by kernel_rfl) (fun _ _ _ h => h) (by rfl) (by assumption) ?_ ?_
      rotate_left
      · (intro wS hSw; (try dsimp only at hSw); go_simp; try with_reducible rfl)
      try simp only [Act.put, List.setIfInBounds_toArray, List.set_cons_zero, List.set_cons_succ]
      refine uTake (i := 2) (some 36) (v := ?_) rfl rfl (by kernel_rfl) (by kernel_rfl) (by kernel_rfl) (by kernel_rfl) (fun _ _ _ h => h) (by rfl) (by assumption) ?_ ?_
      rotate_left
      · (intro wS hSw; (try dsimp only at hSw); go_simp; try with_reducible rfl)
      try simp only [Act.put, List.setIfInBounds_toArray, List.set_cons_zero, List.set_cons_succ]
      refine uTake (i := 3) (some 37) (v := ?_) rfl rfl (by kernel_rfl) (by kernel_rfl) (by kernel_rfl) (by kernel_rfl) (fun _ _ _ h => h) (by rfl) (by assumption) ?_ ?_
      rotate_left
      · (intro wS hSw; (try dsimp only at hSw); go_simp; try with_reducible rfl)
      try simp only [Act.put, List.setIfInBounds_toArray, List.set_cons_zero, List.set_cons_succ]
      refine uTake (i := 4) (some 38) (v := ?_) rfl rfl (by kernel_rfl) (by kernel_rfl) (by kernel_rfl) (by kernel_rfl) (fun _ _ _ h => h) (by rfl) (by assumption) ?_ ?_
      rotate_left
      · (intro wS hSw; (try dsimp only at hSw); go_simp; try with_reducible rfl)
      try simp only [Act.put, List.setIfInBounds_toArray, List.set_cons_zero, List.set_cons_succ]
      refine uTake (i := 5) (some 39) (v := ?_) rfl rfl (by kernel_rfl) (by kernel_rfl) (by kernel_rfl) (by kernel_rfl) (fun _ _ _ h => h) (by rfl) (by assumption) ?_ ?_
      rotate_left
      · (intro wS hSw; (try dsimp only at hSw); go_simp; try with_reducible rfl)
      try simp only [Act.put, List.setIfInBounds_toArray, List.set_cons_zero, List.set_cons_succ]
      refine uTake (i := 6) (some 40) (v := ?_) rfl rfl (by kernel_rfl) (by kernel_rfl) (by kernel_rfl) (by kernel_rfl) (fun _ _ _ h => h) (by rfl) (by assumption) ?_ ?_
      rotate_left
      · (intro wS hSw; (try dsimp only at hSw); go_simp; try with_reducible rfl)
      try simp only [Act.put, List.setIfInBounds_toArray, List.set_cons_zero, List.set_cons_succ]
      refine uTake (i := 7) (some 41) (v := ?_) rfl rfl (by kernel_rfl) (by kernel_rfl) (by kernel_rfl) (by kernel_rfl) (fun _ _ _ h => h) (by rfl) (by assumption) ?_ ?_
      rotate_left
      · (intro wS hSw; (try dsimp only at hSw); go_simp; try with_reducible rfl)
      try simp only [Act.put, List.setIfInBounds_toArray, List.set_cons_zero, List.set_cons_succ]
      refine uTake (i := 8) (some 42) (v := ?_) rfl rfl (by kernel_rfl) (by kernel_rfl) (by kernel_rfl) (by kernel_rfl) (fun _ _ _ h => h) (by rfl) (by assumption) ?_ ?_
      rotate_left
      · (intro wS hSw; (try dsimp only at hSw); go_simp; try with_reducible rfl)
      try simp only [Act.put, List.setIfInBounds_toArray, List.set_cons_zero, List.set_cons_succ]
      refine uTake (i := 11) (some 45) (v := ?_) rfl rfl (by kernel_rfl) (by kernel_rfl) (by kernel_rfl) (by kernel_rfl) (fun _ _ _ h => h) (by rfl) (by assumption) ?_ ?_
      rotate_left
      · (intro wS hSw; (try dsimp only at hSw); go_simp; try with_reducible rfl)
      try simp only [Act.put, List.setIfInBounds_toArray, List.set_cons_zero, List.set_cons_succ]
      refine uTake (i := 12) (some 46) (v := ?_) rfl rfl (by kernel_rfl) (by kernel_rfl) (by kernel_rfl) (by kernel_rfl) (fun _ _ _ h => h) (by rfl) (by assumption) ?_ ?_
      rotate_left
      · (intro wS hSw; (try dsimp only at hSw); go_simp; try with_reducible rfl)
      try simp only [Act.put, List.setIfInBounds_toArray, List.set_cons_zero, List.set_cons_succ]
      refine uTake (i := 13) (some 47) (v := ?_) rfl rfl (by kernel_rfl) (by kernel_rfl) (by kernel_rfl) (by kernel_rfl) (fun _ _ _ h => h) (by rfl) (by assumption) ?_ ?_
      rotate_left
      · (intro wS hSw; (try dsimp only at hSw); go_simp; try with_reducible rfl)
      try simp only [Act.put, List.setIfInBounds_toArray, List.set_cons_zero, List.set_cons_succ]
      refine uTake (i := 14) (some 48) (v := ?_) rfl rfl (by kernel_rfl) (by kernel_rfl) (by kernel_rfl) (by kernel_rfl) (fun _ _ _ h => h) (by rfl) (by assumption) ?_ ?_
      rotate_left
      · (intro wS hSw; (try dsimp only at hSw); go_simp; try with_reducible rfl)
      try simp only [Act.put, List.setIfInBounds_toArray, List.set_cons_zero, List.set_cons_succ]
      refine uReady (rs := [9]) (by kernel_rfl) (by simp) ?_
      refine ReadyU.cons rfl (fun KK hKK => ?_) ReadyU.nil
      go_simp
      refine (eval_c (E6.out.fc 2 rfl) HL.out.2.1 hxq HT.out (by have := HL.out.1; omega)).mono ?_
      rintro e w3 ⟨rfl, hb⟩
      have E7 : Hid (Env D w [] [.ce yab (yao + k) (.int .i64 (b[k] : Nat)), .ce xab (xao + k) (.int .i64 (a[k] : Nat)), .rw (.slice ua u.length uk) u.length 1 (ncl u), .rw (.slice va v.length vk) v.length 1 (ncl v), .rw (.slice (some ⟨yab, yao, none⟩) b.length yk) b.length 1 (ncl b), .rw (.slice (some ⟨xab, xao, none⟩) a.length xk) a.length 1 (ncl a)] w3) := Lib.hid (E6.out.below hb)
      clear E6 hb
      (try dsimp only)
      clear hHeld
      refine hKK.out _ _ ((E7.out.fc 0 rfl).2) (fun hHeld => ?_)
      clear hKK KK
      try simp only [Act.put, List.setIfInBounds_toArray, List.set_cons_zero, List.set_cons_succ]
      refine uReady (rs := [10]) (by kernel_rfl) (by simp) ?_
      refine ReadyU.cons rfl (fun KK hKK => ?_) ReadyU.nil
      go_simp
      refine (polsub_c q b[k] (evN q a[k] u) _ hyq heu HT.out).mono ?_
      rintro e w4 ⟨⟨s1, s1h, rfl⟩, hb⟩
      have E8 : Hid (Env D w [] [.ce yab (yao + k) (.int .i64 (b[k] : Nat)), .ce xab (xao + k) (.int .i64 (a[k] : Nat)), .rw (.slice ua u.length uk) u.length 1 (ncl u), .rw (.slice va v.length vk) v.length 1 (ncl v), .rw (.slice (some ⟨yab, yao, none⟩) b.length yk) b.length 1 (ncl b), .rw (.slice (some ⟨xab, xao, none⟩) a.length xk) a.length 1 (ncl a)] w4) := Lib.hid (E7.out.below hb)
      clear E7 hb
      have s1q : (s1 : Int) < (q : Int) := by rw [s1h.out]; exact Int.ofNat_lt.2 (Nat.mod_lt _ HQ.out)
      (try dsimp only)
      clear hHeld
      refine hKK.out _ _ ((E8.out.fc 0 rfl).2) (fun hHeld => ?_)
      clear hKK KK
      try simp only [Act.put, List.setIfInBounds_toArray, List.set_cons_zero, List.set_cons_succ]
      refine uReady (rs := [15]) (by kernel_rfl) (by simp) ?_
      refine ReadyU.cons rfl (fun KK hKK => ?_) ReadyU.nil
      go_simp
      refine (eval_c (E8.out.fc 3 rfl) HL.out.2.2 hxq HT.out (by have := HL.out.1; omega)).mono ?_
      rintro e w5 ⟨rfl, hb⟩
      have E9 : Hid (Env D w [] [.ce yab (yao + k) (.int .i64 (b[k] : Nat)), .ce xab (xao + k) (.int .i64 (a[k] : Nat)), .rw (.slice ua u.length uk) u.length 1 (ncl u), .rw (.slice va v.length vk) v.length 1 (ncl v), .rw (.slice (some ⟨yab, yao, none⟩) b.length yk) b.length 1 (ncl b), .rw (.slice (some ⟨xab, xao, none⟩) a.length xk) a.length 1 (ncl a)] w5) := Lib.hid (E8.out.below hb)
      clear E8 hb
      (try dsimp only)
      clear hHeld
      refine hKK.out _ _ ((E9.out.fc 0 rfl).2) (fun hHeld => ?_)
      clear hKK KK
      try simp only [Act.put, List.setIfInBounds_toArray, List.set_cons_zero, List.set_cons_succ]
      refine uReady (rs := [16]) (by kernel_rfl) (by simp) ?_
      refine ReadyU.cons rfl (fun KK hKK => ?_) ReadyU.nil
      go_simp
      refine (polinv_c q (evN q a[k] v) _ hev HT.out HGC.out).mono ?_
      rintro e w6 ⟨⟨r1, r1h, rfl⟩, hb⟩
      have E10 : Hid (Env D w [] [.ce yab (yao + k) (.int .i64 (b[k] : Nat)), .ce xab (xao + k) (.int .i64 (a[k] : Nat)), .rw (.slice ua u.length uk) u.length 1 (ncl u), .rw (.slice va v.length vk) v.length 1 (ncl v), .rw (.slice (some ⟨yab, yao, none⟩) b.length yk) b.length 1 (ncl b), .rw (.slice (some ⟨xab, xao, none⟩) a.length xk) a.length 1 (ncl a)] w6) := Lib.hid (E9.out.below hb)
      clear E9 hb
      have r1q : (r1 : Int) < (q : Int) := Int.ofNat_lt.2 r1h.out.1
      (try dsimp only)
      clear hHeld
      refine hKK.out _ _ ((E10.out.fc 0 rfl).2) (fun hHeld => ?_)
      clear hKK KK
      try simp only [Act.put, List.setIfInBounds_toArray, List.set_cons_zero, List.set_cons_succ]
      refine uReady (rs := [17]) (by kernel_rfl) (by simp) ?_
      refine ReadyU.cons rfl (fun KK hKK => ?_) ReadyU.nil
      go_simp
      refine (polmulB q s1 r1 _ s1q r1q HT.out).mono ?_
      rintro e w7 ⟨⟨c1, c1h, rfl⟩, hb⟩
      have E11 : Hid (Env D w [] [.ce yab (yao + k) (.int .i64 (b[k] : Nat)), .ce xab (xao + k) (.int .i64 (a[k] : Nat)), .rw (.slice ua u.length uk) u.length 1 (ncl u), .rw (.slice va v.length vk) v.length 1 (ncl v), .rw (.slice (some ⟨yab, yao, none⟩) b.length yk) b.length 1 (ncl b), .rw (.slice (some ⟨xab, xao, none⟩) a.length xk) a.length 1 (ncl a)] w7) := Lib.hid (E10.out.below hb)
      clear E10 hb
      have c1q : (c1 : Int) < (q : Int) := by rw [c1h.out]; exact Int.ofNat_lt.2 (Nat.mod_lt _ HQ.out)
      (try dsimp only)
      clear hHeld
      refine hKK.out _ _ ((E11.out.fc 0 rfl).2) (fun hHeld => ?_)
      clear hKK KK
      try simp only [Act.put, List.setIfInBounds_toArray, List.set_cons_zero, List.set_cons_succ]
      refine uTake (i := 18) (some 13) (v := ?_) rfl rfl (by kernel_rfl) (by kernel_rfl) (by kernel_rfl) (by kernel_rfl) (fun _ _ _ h => h) (by rfl) (by assumption) ?_ ?_
      rotate_left
      · (intro wS hSw; (try dsimp only at hSw); go_simp; try with_reducible rfl)
      try simp only [Act.put, List.setIfInBounds_toArray, List.set_cons_zero, List.set_cons_succ]
      refine uDone (by kernel_rfl) ?_ _
      have E12 : Hid (Env D w [(w7.heap.size, 3, [.int .i64 (c1 : Nat)])] [.ce yab (yao + k) (.int .i64 (b[k] : Nat)), .ce xab (xao + k) (.int .i64 (a[k] : Nat)), .rw (.slice ua u.length uk) u.length 1 (ncl u), .rw (.slice va v.length vk) v.length 1 (ncl v), .rw (.slice (some ⟨yab, yao, none⟩) b.length yk) b.length 1 (ncl b), .rw (.slice (some ⟨xab, xao, none⟩) a.length xk) a.length 1 (ncl a)] _) := Lib.hid ((E11.out.push 3 [.int .i64 (c1 : Nat)] (w7.heap.size) (by simp)))
      go_wp2_with fail
      refine (product_c q [c1] v (Rw.boxP (o := [c1]) (E12.out.bx 0 rfl) (Nat.le_refl _) (by simp)) (Rw.tr (E12.out.fc 3 rfl)) HQ.out HT.out (fun c hc => by rw [List.mem_singleton.1 hc, c1h.out]; exact Nat.mod_lt _ HQ.out) HL.out.2.2 (by simp) (by have := HL.out.1; omega)).mono ?_
      rintro e w8 ⟨⟨ma, mk, rfl, mh⟩, hb⟩
      have E13 : Hid (Env D w [(w7.heap.size, 3, [.int .i64 (c1 : Nat)])] [.rw (.slice ma (trimN (mulL q [c1] v)).length mk) (trimN (mulL q [c1] v)).length 1 (ncl (trimN (mulL q [c1] v))), .ce yab (yao + k) (.int .i64 (b[k] : Nat)), .ce xab (xao + k) (.int .i64 (a[k] : Nat)), .rw (.slice ua u.length uk) u.length 1 (ncl u), .rw (.slice va v.length vk) v.length 1 (ncl v), .rw (.slice (some ⟨yab, yao, none⟩) b.length yk) b.length 1 (ncl b), .rw (.slice (some ⟨xab, xao, none⟩) a.length xk) a.length 1 (ncl a)] w8) := Lib.hid (E12.out.got (E12.out.below hb) (.rw (.slice ma (trimN (mulL q [c1] v)).length mk) (trimN (mulL q [c1] v)).length 1 (ncl (trimN (mulL q [c1] v)))) (Lib.hid (Rw.ge mh.out)).out)
      clear E11 E12 hb
      go_wp2_with fail
      refine (sum_c q u (trimN (mulL q [c1] v)) (E13.out.fc 3 rfl) (E13.out.fc 0 rfl) HQ.out HT.out HL.out.2.1 (trimN_lt (mulL_lt HQ.out _ _)) (by have := HL.out.1; omega) (Nat.le_trans (trimN_len _) (Nat.le_trans (mulL_le _ _ _) (by have := HL.out.1; simp only [List.length_cons, List.length_nil]; omega)))).mono ?_
      rintro e w9 ⟨⟨za, zk, rfl, zh⟩, hb⟩
      have E14 : Hid (Env D w [(w7.heap.size, 3, [.int .i64 (c1 : Nat)])] [.rw (.slice za (trimN (addL q u (trimN (mulL q [c1] v)))).length zk) (trimN (addL q u (trimN (mulL q [c1] v)))).length 1 (ncl (trimN (addL q u (trimN (mulL q [c1] v))))), .rw (.slice ma (trimN (mulL q [c1] v)).length mk) (trimN (mulL q [c1] v)).length 1 (ncl (trimN (mulL q [c1] v))), .ce yab (yao + k) (.int .i64 (b[k] : Nat)), .ce xab (xao + k) (.int .i64 (a[k] : Nat)), .rw (.slice ua u.length uk) u.length 1 (ncl u), .rw (.slice va v.length vk) v.length 1 (ncl v), .rw (.slice (some ⟨yab, yao, none⟩) b.length yk) b.length 1 (ncl b), .rw (.slice (some ⟨xab, xao, none⟩) a.length xk) a.length 1 (ncl a)] w9) := Lib.hid (E13.out.got (E13.out.below hb) (.rw (.slice za (trimN (addL q u (trimN (mulL q [c1] v)))).length zk) (trimN (addL q u (trimN (mulL q [c1] v)))).length 1 (ncl (trimN (addL q u (trimN (mulL q [c1] v)))))) (Lib.hid (Rw.ge zh.out)).out)
      clear E13 hb
      go_wp2_with fail
      refine (polsub_c q 0 a[k] _ (by have := HQ.out; omega) hxq HT.out).mono ?_
      rintro e w10 ⟨⟨s2, s2h, rfl⟩, hb⟩
      have E15 : Hid (Env D w [(w7.heap.size, 3, [.int .i64 (c1 : Nat)])] [.rw (.slice za (trimN (addL q u (trimN (mulL q [c1] v)))).length zk) (trimN (addL q u (trimN (mulL q [c1] v)))).length 1 (ncl (trimN (addL q u (trimN (mulL q [c1] v))))), .rw (.slice ma (trimN (mulL q [c1] v)).length mk) (trimN (mulL q [c1] v)).length 1 (ncl (trimN (mulL q [c1] v))), .ce yab (yao + k) (.int .i64 (b[k] : Nat)), .ce xab (xao + k) (.int .i64 (a[k] : Nat)), .rw (.slice ua u.length uk) u.length 1 (ncl u), .rw (.slice va v.length vk) v.length 1 (ncl v), .rw (.slice (some ⟨yab, yao, none⟩) b.length yk) b.length 1 (ncl b), .rw (.slice (some ⟨xab, xao, none⟩) a.length xk) a.length 1 (ncl a)] w10) := Lib.hid (E14.out.below hb)
      clear E14 hb
      have s2q : (s2 : Int) < (q : Int) := by rw [s2h.out]; exact Int.ofNat_lt.2 (Nat.mod_lt _ HQ.out)
      have E16 : Hid (Env D w [(w10.heap.size, 3, [.int .i64 (s2 : Nat), .int .i64 1]), (w7.heap.size, 3, [.int .i64 (c1 : Nat)])] [.rw (.slice za (trimN (addL q u (trimN (mulL q [c1] v)))).length zk) (trimN (addL q u (trimN (mulL q [c1] v)))).length 1 (ncl (trimN (addL q u (trimN (mulL q [c1] v))))), .rw (.slice ma (trimN (mulL q [c1] v)).length mk) (trimN (mulL q [c1] v)).length 1 (ncl (trimN (mulL q [c1] v))), .ce yab (yao + k) (.int .i64 (b[k] : Nat)), .ce xab (xao + k) (.int .i64 (a[k] : Nat)), .rw (.slice ua u.length uk) u.length 1 (ncl u), .rw (.slice va v.length vk) v.length 1 (ncl v), .rw (.slice (some ⟨yab, yao, none⟩) b.length yk) b.length 1 (ncl b), .rw (.slice (some ⟨xab, xao, none⟩) a.length xk) a.length 1 (ncl a)] _) := Lib.hid ((E15.out.push 3 [.int .i64 (s2 : Nat), .int .i64 1] (w10.heap.size) (by simp)))
      go_wp2_with fail
      refine (product_c q v [s2, 1] (Rw.tr (E16.out.fc 5 rfl)) (Rw.boxP (o := [s2, 1]) (E16.out.bx 0 rfl) (Nat.le_refl _) (by simp)) HQ.out HT.out HL.out.2.2 (fun c hc => by rcases List.mem_cons.1 hc with h | h; (· rw [h, s2h.out]; exact Nat.mod_lt _ HQ.out); rw [List.mem_singleton.1 h]; exact HQ1.out) (by have := HL.out.1; omega) (by simp)).mono ?_
      rintro e w11 ⟨⟨ta, tk, rfl, th⟩, hb⟩
      have E17 : Hid (Env D w [(w10.heap.size, 3, [.int .i64 (s2 : Nat), .int .i64 1]), (w7.heap.size, 3, [.int .i64 (c1 : Nat)])] [.rw (.slice ta (trimN (mulL q v [s2, 1])).length tk) (trimN (mulL q v [s2, 1])).length 1 (ncl (trimN (mulL q v [s2, 1]))), .rw (.slice za (trimN (addL q u (trimN (mulL q [c1] v)))).length zk) (trimN (addL q u (trimN (mulL q [c1] v)))).length 1 (ncl (trimN (addL q u (trimN (mulL q [c1] v))))), .rw (.slice ma (trimN (mulL q [c1] v)).length mk) (trimN (mulL q [c1] v)).length 1 (ncl (trimN (mulL q [c1] v))), .ce yab (yao + k) (.int .i64 (b[k] : Nat)), .ce xab (xao + k) (.int .i64 (a[k] : Nat)), .rw (.slice ua u.length uk) u.length 1 (ncl u), .rw (.slice va v.length vk) v.length 1 (ncl v), .rw (.slice (some ⟨yab, yao, none⟩) b.length yk) b.length 1 (ncl b), .rw (.slice (some ⟨xab, xao, none⟩) a.length xk) a.length 1 (ncl a)] w11) := Lib.hid (E16.out.got (E16.out.below hb) (.rw (.slice ta (trimN (mulL q v [s2, 1])).length tk) (trimN (mulL q v [s2, 1])).length 1 (ncl (trimN (mulL q v [s2, 1])))) (Lib.hid (Rw.ge th.out)).out)
      clear E15 E16 hb
      have HIT : Hid (ItR q a b (k + 1) (trimN (addL q u (trimN (mulL q [c1] v)))) (trimN (mulL q v [s2, 1]))) := Lib.hid ⟨u, v, r1, HS.out, r1h.out.1, by rw [HGA.out]; exact r1h.out.2, by rw [c1h.out, s1h.out, HGA.out, HGB.out], by rw [s2h.out, HGA.out]⟩
      have EY := Lib.hid ((E17.out.drop).drop)
      have EZ := Lib.hid (⟨EY.out.bel, EY.out.box, EY.out.fc 1 rfl, EY.out.fc 0 rfl, EY.out.fc 7 rfl, EY.out.fc 8 rfl, trivial⟩ : Env D w [] [.rw (.slice za (trimN (addL q u (trimN (mulL q [c1] v)))).length zk) (trimN (addL q u (trimN (mulL q [c1] v)))).length 1 (ncl (trimN (addL q u (trimN (mulL q [c1] v))))), .rw (.slice ta (trimN (mulL q v [s2, 1])).length tk) (trimN (mulL q v [s2, 1])).length 1 (ncl (trimN (mulL q v [s2, 1]))), .rw (.slice (some ⟨yab, yao, none⟩) b.length yk) b.length 1 (ncl b), .rw (.slice (some ⟨xab, xao, none⟩) a.length xk) a.length 1 (ncl a)] _)
      go_wp2
      go_roundg (a.length - (k + 1))
      case rel => exact ⟨k + 1, za, zk, trimN (addL q u (trimN (mulL q [c1] v))), ta, tk, trimN (mulL q v [s2, 1]), rfl, rfl, rfl, EZ, Lib.hid ⟨⟨by omega, rfl⟩, HIT.out⟩⟩
      case measure => exact by omega
    have t6 : decide ((k : Int) < (a.length : Int)) = false := decide_eq_false (by omega)
    have t7 : decide (k < a.length) = false := decide_eq_false (by omega)
    have HD : Hid (ItR q a b a.length u v) := Lib.hid (by rw [← hy]; exact HS.out)
    have HY := Lib.hid hy
    clear hy
    have hres := Lib.hid (Rw.tr (EL.out.fc 0 rfl))
    have hbel := Lib.hid EL.out.bel
    go_wp2
    go_ret2
    exact ⟨⟨u, v, HD, ua, uk, rfl, hres⟩, hbel.out⟩
end Go.Proofs.YtinlfogpbologaaDoor

/- specieref13: Mul. -/
import Derived.Test.YtinlfogpbologaaDoorPolU
namespace Go.Proofs.YtinlfogpbologaaDoor
open Go.RowKit DivMath WordMath
set_option linter.unusedVariables false
set_option linter.unusedSimpArgs false
set_option maxRecDepth 100000 in
set_option maxHeartbeats 4000000 in
theorem rprod_a {D : Nat → Prop} (q : Nat) (a b : List Nat) {xa ya : Option Addr} {xk yk : Nat} {w : World} (hx : Fct.at w D (.rw (.slice xa a.length xk) a.length 1 (ncl a))) (hy : Fct.at w D (.rw (.slice ya b.length yk) b.length 1 (ncl b))) (hq : 0 < q) (hqT : (q : Int) < Top) (ha0 : ∀ c ∈ a, c < q) (hb0 : ∀ c ∈ b, c < q) (hla : a.length ≤ 1000) (hlb : b.length ≤ 1000) (hz : a.length = 0) :
    Calls Tryd.prog 27 #[.int .i64 (q : Nat), .slice xa a.length xk, .slice ya b.length yk] w fun e w' => e = .returned (.slice none 0 0) ∧ Below w.heap.size w w' := by
  have E0 : Hid (Env D w [] [.rw (.slice ya b.length yk) b.length 1 (ncl b), .rw (.slice xa a.length xk) a.length 1 (ncl a)] w) := Lib.hid (((Env.start D w).arg (.rw (.slice xa a.length xk) a.length 1 (ncl a)) hx).arg (.rw (.slice ya b.length yk) b.length 1 (ncl b)) hy)
  clear hx hy
  go_enter Tryd.func27, Tryd.ntmps27
  have ha := Lib.hid ha0
  have hb := Lib.hid hb0
  clear ha0 hb0
  have HT := Lib.hid hqT
  have hq9 : (q : Int) ≤ 2305843009213693951 := by unfold Top at hqT; omega
  clear hqT
  have hq0 : ¬ (q = 0) := by omega
  have hqz : ((q : Int) == 0) = false := by simp; omega
  obtain rfl := List.length_eq_zero_iff.1 hz
  have d0 : (((([] : List Nat).length : Nat) : Int) == 0) = true := rfl
  have hfin := Lib.hid E0.out.bel
  go_wp2
  go_ret
  exact ⟨rfl, hfin.out⟩
set_option maxRecDepth 100000 in
set_option maxHeartbeats 4000000 in
theorem rprod_b {D : Nat → Prop} (q : Nat) (a b : List Nat) {xa ya : Option Addr} {xk yk : Nat} {w : World} (hx : Fct.at w D (.rw (.slice xa a.length xk) a.length 1 (ncl a))) (hy : Fct.at w D (.rw (.slice ya b.length yk) b.length 1 (ncl b))) (hq : 0 < q) (hqT : (q : Int) < Top) (ha0 : ∀ c ∈ a, c < q) (hb0 : ∀ c ∈ b, c < q) (hla : a.length ≤ 1000) (hlb : b.length ≤ 1000) (hz : 0 < a.length) (hz2 : b.length = 0) :
    Calls Tryd.prog 27 #[.int .i64 (q : Nat), .slice xa a.length xk, .slice ya b.length yk] w fun e w' => e = .returned (.slice none 0 0) ∧ Below w.heap.size w w' := by
  have E0 : Hid (Env D w [] [.rw (.slice ya b.length yk) b.length 1 (ncl b), .rw (.slice xa a.length xk) a.length 1 (ncl a)] w) := Lib.hid (((Env.start D w).arg (.rw (.slice xa a.length xk) a.length 1 (ncl a)) hx).arg (.rw (.slice ya b.length yk) b.length 1 (ncl b)) hy)
  clear hx hy
  go_enter Tryd.func27, Tryd.ntmps27
  have ha := Lib.hid ha0
  have hb := Lib.hid hb0
  clear ha0 hb0
  have HT := Lib.hid hqT
  have hq9 : (q : Int) ≤ 2305843009213693951 := by unfold Top at hqT; omega
  clear hqT
  have hq0 : ¬ (q = 0) := by omega
  have hqz : ((q : Int) == 0) = false := by simp; omega
  have d0 : ((a.length : Int) == 0) = false := beq_eq_false_iff_ne.2 (by omega)
  obtain rfl := List.length_eq_zero_iff.1 hz2
  have d1 : (((([] : List Nat).length : Nat) : Int) == 0) = true := rfl
  have hfin := Lib.hid E0.out.bel
  go_wp2
  go_ret
  exact ⟨rfl, hfin.out⟩
set_option maxRecDepth 100000 in
set_option maxHeartbeats 4000000 in
theorem rprod_c {D : Nat → Prop} (q : Nat) (a b : List Nat) {xa ya : Option Addr} {xk yk : Nat} {w : World} (hx : Fct.at w D (.rw (.slice xa a.length xk) a.length 1 (ncl a))) (hy : Fct.at w D (.rw (.slice ya b.length yk) b.length 1 (ncl b))) (hq : 0 < q) (hqT : (q : Int) < Top) (ha0 : ∀ c ∈ a, c < q) (hb0 : ∀ c ∈ b, c < q) (hla : a.length ≤ 1000) (hlb : b.length ≤ 1000) (hz : 0 < a.length) (hz2 : 0 < b.length) :
    Calls Tryd.prog 27 #[.int .i64 (q : Nat), .slice xa a.length xk, .slice ya b.length yk] w fun e w' => RetI (fun b => w.heap.size ≤ b) (trimN (mulTo q a b a.length)) e w' ∧ Below w.heap.size w w' := by
  have E0 : Hid (Env D w [] [.rw (.slice ya b.length yk) b.length 1 (ncl b), .rw (.slice xa a.length xk) a.length 1 (ncl a)] w) := Lib.hid (((Env.start D w).arg (.rw (.slice xa a.length xk) a.length 1 (ncl a)) hx).arg (.rw (.slice ya b.length yk) b.length 1 (ncl b)) hy)
  clear hx hy
  go_enter Tryd.func27, Tryd.ntmps27
  have ha := Lib.hid ha0
  have hb := Lib.hid hb0
  clear ha0 hb0
  have HT := Lib.hid hqT
  have hq9 : (q : Int) ≤ 2305843009213693951 := by unfold Top at hqT; omega
  clear hqT
  have hq0 : ¬ (q = 0) := by omega
  have hqz : ((q : Int) == 0) = false := by simp; omega
  have d0 : ((a.length : Int) == 0) = false := beq_eq_false_iff_ne.2 (by omega)
  have d1 : ((b.length : Int) == 0) = false := beq_eq_false_iff_ne.2 (by omega)
  have d0n : (a.length == 0) = false := beq_eq_false_iff_ne.2 (by omega)
  have d1n : (b.length == 0) = false := beq_eq_false_iff_ne.2 (by omega)
  have ws : wrap64 ((a.length : Int) + (b.length : Int)) = ((a.length + b.length : Nat) : Int) := by rw [IntWalk.wrap64_in _ (by omega)]; rfl
  have ws2 : wrap64 (((a.length + b.length : Nat) : Int) - 1) = ((a.length + b.length - 1 : Nat) : Int) := by rw [IntWalk.wrap64_in _ (by omega)]; omega
  have ws3 : wrap64 ((a.length : Int) + (b.length : Int) - 1) = ((a.length + b.length - 1 : Nat) : Int) := by rw [IntWalk.wrap64_in _ (by omega)]; omega
  obtain ⟨n, hn⟩ : ∃ n, n = a.length + b.length - 1 := ⟨_, rfl⟩
  rw [← hn] at ws2 ws3
  have hn9 : n ≤ 2000 := by omega
  have HN := Lib.hid hn
  clear hn
  have ws4 : (a.length : Int) + (b.length : Int) - 1 = (n : Int) := by have := HN.out; omega
  go_wp2_with (at_make; refine wpl_makeI rfl _ _ rfl E0.out n rfl rfl (by omega) ?_)
  intro wm pg Em0
  have Em : Hid (Env D w [(pg, 3, ncl (List.replicate n 0))] [.rw (.slice ya b.length yk) b.length 1 (ncl b), .rw (.slice xa a.length xk) a.length 1 (ncl a)] wm) := Lib.hid (by have h := Em0.out; rw [ncl_rep] at h; exact h)
  clear Em0 E0
  go_wp2_with fail
  go_loopg [8] (a.length) (fun gk s8 wr => ∃ (i : Nat) (o : List Nat), s8 = .int .i64 (i : Int) ∧ Hid (Env D w [(pg, 3, (ncl o))] [.rw (.slice ya b.length yk) b.length 1 (ncl b), .rw (.slice xa a.length xk) a.length 1 (ncl a)] wr) ∧ Hid ((i ≤ a.length ∧ gk = a.length - i) ∧ o = mulTo q a b i))
  case atStart => exact ⟨0, List.replicate n 0, rfl, Lib.hid Em.out, Lib.hid ⟨⟨Nat.zero_le _, rfl⟩, by rw [HN.out]; rfl⟩⟩
  case round =>
    clear Em
    obtain ⟨i, o, rfl, EL, HA⟩ := hrel
    obtain ⟨⟨a1, a2⟩, a3⟩ := HA.out
    have HS := Lib.hid a3
    clear a3 HA
    have hol : o.length = n := by rw [HS.out, HN.out]; exact mulTo_len q a b i
    have HOL := Lib.hid hol
    clear hol
    by_cases hy : i = a.length
    rotate_left
    · have hi : i < a.length := by omega
      have hi9 : (i : Int) ≤ 999 := by omega
      have t6 : decide ((i : Int) < (a.length : Int)) = true := decide_eq_true (by omega)
      have t7 : decide (i < a.length) = true := decide_eq_true hi
      clear hy
      go_wp2_with fail
      go_loopg [9] (b.length) (fun gk s9 wr => ∃ (k : Nat) (p : List Nat), s9 = .int .i64 (k : Int) ∧ Hid (Env D w [(pg, 3, (ncl p))] [.rw (.slice ya b.length yk) b.length 1 (ncl b), .rw (.slice xa a.length xk) a.length 1 (ncl a)] wr) ∧ Hid ((k ≤ b.length ∧ gk = b.length - k) ∧ p = mulRow q a b i k o))
      case atStart => exact ⟨0, o, rfl, Lib.hid EL.out, Lib.hid ⟨⟨Nat.zero_le _, rfl⟩, rfl⟩⟩
      case round =>
        clear EL
        obtain ⟨k, p, rfl, EL, HA⟩ := hrel
        obtain ⟨⟨b1, b2⟩, b3⟩ := HA.out
        have HP := Lib.hid b3
        clear b3 HA
        have hpl : p.length = n := by rw [HP.out, mulRow_len]; exact HOL.out
        have HPL := Lib.hid hpl
        clear hpl
        by_cases hy : k = b.length
        rotate_left
        · have hk : k < b.length := by omega
          have t8 : decide ((k : Int) < (b.length : Int)) = true := decide_eq_true (by omega)
          have t9 : decide (k < b.length) = true := decide_eq_true hk
          clear hy
          have hk9 : (k : Int) ≤ 999 := by omega
          have hik : i + k < p.length := by rw [HPL.out, HN.out]; omega
          have hin : ((i : Int) + (k : Int)) < (n : Int) := by have := HPL.out; omega
          have hinn : i + k < n := by have := HPL.out; omega
          have hik9 : i + k ≤ 9223372036854775807 := by omega
          have HIK9 := Lib.hid hik9
          clear hik9
          have h0ik : Hid ((0 : Int) ≤ (i : Int) + (k : Int)) := Lib.hid (by omega)
          have htn : Hid (((i : Int) + (k : Int)).toNat = i + k) := Lib.hid rfl
          have wik : wrap64 ((i : Int) + (k : Int)) = ((i + k : Nat) : Int) := wrap64_add i k HIK9.out
          have wik2 : IntKind.i64.wrap ((i : Int) + (k : Int)) = ((i + k : Nat) : Int) := wrapI_add i k HIK9.out
          have hpq : p[i + k] < q := (by rw [HP.out]; exact mulRow_lt hq a b i k o (by rw [HS.out]; exact mulTo_lt hq a b i) : ∀ c ∈ p, c < q) _ (List.getElem_mem hik)
          have haq : ((a[i] : Nat) : Int) < (q : Int) := Int.ofNat_lt.2 (ha.out _ (List.getElem_mem hi))
          have hbq : ((b[k] : Nat) : Int) < (q : Int) := Int.ofNat_lt.2 (hb.out _ (List.getElem_mem hk))
          have hpi : ((p[i + k] : Nat) : Int) < (q : Int) := Int.ofNat_lt.2 hpq
          have HPQ := Lib.hid hpq
          clear hpq
          obtain ⟨xab, xao, rfl⟩ := Rw.addr (EL.out.fc 1 rfl) (by omega)
          have E1 : Hid (Env D w [(pg, 3, (ncl p))] [.ce xab (xao + i) (.int .i64 (a[i] : Nat)), .rw (.slice ya b.length yk) b.length 1 (ncl b), .rw (.slice (some ⟨xab, xao, none⟩) a.length xk) a.length 1 (ncl a)] _) := Lib.hid (EL.out.elN 1 rfl rfl (i) hi)
          clear EL
          have u0 := (E1.out.fc 0 rfl).2
          obtain ⟨yab, yao, rfl⟩ := Rw.addr (E1.out.fc 1 rfl) (by omega)
          have E2 : Hid (Env D w [(pg, 3, (ncl p))] [.ce yab (yao + k) (.int .i64 (b[k] : Nat)), .ce xab (xao + i) (.int .i64 (a[i] : Nat)), .rw (.slice (some ⟨yab, yao, none⟩) b.length yk) b.length 1 (ncl b), .rw (.slice (some ⟨xab, xao, none⟩) a.length xk) a.length 1 (ncl a)] _) := Lib.hid (E1.out.elN 1 rfl rfl (k) hk)
          clear E1
          have v0 := (E2.out.fc 0 rfl).2
          go_wp2_with fail
          have E3 : Hid (Env D w [(pg, 3, (ncl p))] [.ce yab (yao + k) (.int .i64 (b[k] : Nat)), .ce xab (xao + i) (.int .i64 (a[i] : Nat)), .rw (.slice (some ⟨yab, yao, none⟩) b.length yk) b.length 1 (ncl b), .rw (.slice (some ⟨xab, xao, none⟩) a.length xk) a.length 1 (ncl a)] (wr.drew)) := Lib.hid E2.out.drew
          clear u0 v0 E2
          refine wp_regionU (S := fun w' => w'.cell? ⟨pg, i + k, none⟩ = some (.int .i64 (p[i + k] : Nat)) ∧ w'.cell? ⟨xab, xao + i, none⟩ = some (.int .i64 (a[i] : Nat)) ∧ w'.cell? ⟨yab, yao + k, none⟩ = some (.int .i64 (b[k] : Nat))) [24] (by kernel_rfl) (⟨(E3.out.bx 0 rfl).cell (i + k) (ncl_get p (i + k) hik), (E3.out.fc 1 rfl).2, (E3.out.fc 0 rfl).2⟩) (fun hHeld => ?_)
          generalize wr.drew = w1 at *
          refine uTake (i := 0) (some 37) (v := ?_) rfl rfl (by kernel_rfl) (by kernel_rfl) (by kernel_rfl) (by kernel_rfl) (fun _ _ _ h => h) (by rfl) (by assumption) ?_ ?_
          rotate_left
          · (intro wS hSw; (try dsimp only at hSw); go_simp; try with_reducible rfl)
          try simp only [Act.put, List.setIfInBounds_toArray, List.set_cons_zero, List.set_cons_succ]
          refine uTake (i := 1) (some 38) (v := ?_) rfl rfl (by kernel_rfl) (by kernel_rfl) (by kernel_rfl) (by kernel_rfl) (fun _ _ _ h => h) (by rfl) (by assumption) ?_ ?_
          rotate_left
          · (intro wS hSw; (try dsimp only at hSw); go_simp; try with_reducible rfl)
          try simp only [Act.put, List.setIfInBounds_toArray, List.set_cons_zero, List.set_cons_succ]
          refine uTake (i := 2) (some 39) (v := ?_) rfl rfl (by kernel_rfl) (by kernel_rfl) (by kernel_rfl) (by kernel_rfl) (fun _ _ _ h => h) (by rfl) (by assumption) ?_ ?_
          rotate_left
          · (intro wS hSw; (try dsimp only at hSw); go_simp; try with_reducible rfl)
          try simp only [Act.put, List.setIfInBounds_toArray, List.set_cons_zero, List.set_cons_succ]
          refine uTake (i := 3) (some 40) (v := ?_) rfl rfl (by kernel_rfl) (by kernel_rfl) (by kernel_rfl) (by kernel_rfl) (fun _ _ _ h => h) (by rfl) (by assumption) ?_ ?_
          rotate_left
          · (intro wS hSw; (try dsimp only at hSw); go_simp; try with_reducible rfl)
          try simp only [Act.put, List.setIfInBounds_toArray, List.set_cons_zero, List.set_cons_succ]
          refine uTake (i := 4) (some 41) (v := ?_) rfl rfl (by kernel_rfl) (by kernel_rfl) (by kernel_rfl) (by kernel_rfl) (fun _ _ _ h => h) (by rfl) (by assumption) ?_ ?_
          rotate_left
          · (intro wS hSw; (try dsimp only at hSw); go_simp; try with_reducible rfl)
          try simp only [Act.put, List.setIfInBounds_toArray, List.set_cons_zero, List.set_cons_succ]
          refine uTake (i := 5) (some 42) (v := ?_) rfl rfl (by kernel_rfl) (by kernel_rfl) (by kernel_rfl) (by kernel_rfl) (fun _ _ _ h => h) (by rfl) (by assumption) ?_ ?_
          rotate_left
          · (intro wS hSw; (try dsimp only at hSw); go_simp; try with_reducible rfl)
          try simp only [Act.put, List.setIfInBounds_toArray, List.set_cons_zero, List.set_cons_succ]
          refine uTake (i := 6) (some 43) (v := ?_) rfl rfl (by kernel_rfl) (by kernel_rfl) (by kernel_rfl) (by kernel_rfl) (fun _ _ _ h => h) (by rfl) (by assumption) ?_ ?_
          rotate_left
          · (intro wS hSw; (try dsimp only at hSw); go_simp; try with_reducible rfl)
          try simp only [Act.put, List.setIfInBounds_toArray, List.set_cons_zero, List.set_cons_succ]
          refine uTake (i := 7) (some 44) (v := ?_) rfl rfl (by kernel_rfl) (by kernel_rfl) (by kernel_rfl) (by kernel_rfl) (fun _ _ _ h => h) (by rfl) (by assumption) ?_ ?_
          rotate_left
          · (intro wS hSw; (try dsimp only at hSw); go_simp; try with_reducible rfl)
          try simp only [Act.put, List.setIfInBounds_toArray, List.set_cons_zero, List.set_cons_succ]
          refine uTake (i := 8) (some 45) (v := .pointer (some ⟨pg, i + k, none⟩)) rfl rfl (by kernel_rfl) (by kernel_rfl) (by kernel_rfl) (by kernel_rfl) (fun _ _ _ h => h) (by rfl) (by assumption) ?_ ?_
          · (intro wS hSw; (try dsimp only at hSw); go_simp; rw [if_pos h0ik.out, htn.out])
          try simp only [Act.put, List.setIfInBounds_toArray, List.set_cons_zero, List.set_cons_succ]
          refine uTake (i := 9) (some 46) (v := ?_) rfl rfl (by kernel_rfl) (by kernel_rfl) (by kernel_rfl) (by kernel_rfl) (fun _ _ _ h => h) (by rfl) (by assumption) ?_ ?_
          rotate_left
          · (intro wS hSw; (try dsimp only at hSw); go_simp; try with_reducible rfl)
          try simp only [Act.put, List.setIfInBounds_toArray, List.set_cons_zero, List.set_cons_succ]
          refine uTake (i := 10) (some 47) (v := ?_) rfl rfl (by kernel_rfl) (by kernel_rfl) (by kernel_rfl) (by kernel_rfl) (fun _ _ _ h => h) (by rfl) (by assumption) ?_ ?_
          rotate_left
          · (intro wS hSw; (try dsimp only at hSw); go_simp; try with_reducible rfl)
          try simp only [Act.put, List.setIfInBounds_toArray, List.set_cons_zero, List.set_cons_succ]
          refine uTake (i := 11) (some 48) (v := ?_) rfl rfl (by kernel_rfl) (by kernel_rfl) (by kernel_rfl) (by kernel_rfl) (fun _ _ _ h => h) (by rfl) (by assumption) ?_ ?_
          rotate_left
          · (intro wS hSw; (try dsimp only at hSw); go_simp; try with_reducible rfl)
          try simp only [Act.put, List.setIfInBounds_toArray, List.set_cons_zero, List.set_cons_succ]
          refine uTake (i := 12) (some 49) (v := ?_) rfl rfl (by kernel_rfl) (by kernel_rfl) (by kernel_rfl) (by kernel_rfl) (fun _ _ _ h => h) (by rfl) (by assumption) ?_ ?_
          rotate_left
          · (intro wS hSw; (try dsimp only at hSw); go_simp; try with_reducible rfl)
          try simp only [Act.put, List.setIfInBounds_toArray, List.set_cons_zero, List.set_cons_succ]
          refine uTake (i := 13) (some 50) (v := ?_) rfl rfl (by kernel_rfl) (by kernel_rfl) (by kernel_rfl) (by kernel_rfl) (fun _ _ _ h => h) (by rfl) (by assumption) ?_ ?_
          rotate_left
          · (intro wS hSw; (try dsimp only at hSw); go_simp; try with_reducible rfl)
          try simp only [Act.put, List.setIfInBounds_toArray, List.set_cons_zero, List.set_cons_succ]
          refine uTake (i := 14) (some 51) (v := ?_) rfl rfl (by kernel_rfl) (by kernel_rfl) (by kernel_rfl) (by kernel_rfl) (fun _ _ _ h => h) (by rfl) (by assumption) ?_ ?_
          rotate_left
          · (intro wS hSw; (try dsimp only at hSw); go_simp; try with_reducible rfl)
          try simp only [Act.put, List.setIfInBounds_toArray, List.set_cons_zero, List.set_cons_succ]
          refine uTake (i := 15) (some 52) (v := ?_) rfl rfl (by kernel_rfl) (by kernel_rfl) (by kernel_rfl) (by kernel_rfl) (fun _ _ _ h => h) (by rfl) (by assumption) ?_ ?_
          rotate_left
          · (intro wS hSw; (try dsimp only at hSw); go_simp; try with_reducible rfl)
          try simp only [Act.put, List.setIfInBounds_toArray, List.set_cons_zero, List.set_cons_succ]
          refine uTake (i := 16) (some 53) (v := ?_) rfl rfl (by kernel_rfl) (by kernel_rfl) (by kernel_rfl) (by kernel_rfl) (fun _ _ _ h => h) (by rfl) (by assumption) ?_ ?_
          rotate_left
          · (intro wS hSw; (try dsimp only at hSw); go_simp; try with_reducible rfl)
          try simp only [Act.put, List.setIfInBounds_toArray, List.set_cons_zero, List.set_cons_succ]
          refine uTake (i := 17) (some 54) (v := ?_) rfl rfl (by kernel_rfl) (by kernel_rfl) (by kernel_rfl) (by kernel_rfl) (fun _ _ _ h => h) (by rfl) (by assumption) ?_ ?_
          rotate_left
          · (intro wS hSw; (try dsimp only at hSw); go_simp; try with_reducible rfl)
          try simp only [Act.put, List.setIfInBounds_toArray, List.set_cons_zero, List.set_cons_succ]
          refine uTake (i := 18) (some 55) (v := ?_) rfl rfl (by kernel_rfl) (by kernel_rfl) (by kernel_rfl) (by kernel_rfl) (fun _ _ _ h => h) (by rfl) (by assumption) ?_ ?_
          rotate_left
          · (intro wS hSw; (try dsimp only at hSw); go_simp; try with_reducible rfl)
          try simp only [Act.put, List.setIfInBounds_toArray, List.set_cons_zero, List.set_cons_succ]
          refine uTake (i := 21) (some 58) (v := ?_) rfl rfl (by kernel_rfl) (by kernel_rfl) (by kernel_rfl) (by kernel_rfl) (fun _ _ _ h => h) (by rfl) (by assumption) ?_ ?_
          rotate_left
          · (intro wS hSw; (try dsimp only at hSw); go_simp; try with_reducible rfl)
          try simp only [Act.put, List.setIfInBounds_toArray, List.set_cons_zero, List.set_cons_succ]
          refine uReady (rs := [19]) (by kernel_rfl) (by simp) ?_
          refine ReadyU.cons rfl (fun KK hKK => ?_) ReadyU.nil
          go_simp
          refine (refMulB a[i] b[k] q _ haq hbq HT.out).mono ?_
          rintro e w2 ⟨⟨r, rh, rfl⟩, hb⟩
          have E4 : Hid (Env D w [(pg, 3, (ncl p))] [.ce yab (yao + k) (.int .i64 (b[k] : Nat)), .ce xab (xao + i) (.int .i64 (a[i] : Nat)), .rw (.slice (some ⟨yab, yao, none⟩) b.length yk) b.length 1 (ncl b), .rw (.slice (some ⟨xab, xao, none⟩) a.length xk) a.length 1 (ncl a)] w2) := Lib.hid (E3.out.below hb)
          clear E3 hb
          have hrq : (r : Int) < (q : Int) := by rw [rh.out]; exact Int.ofNat_lt.2 (Nat.mod_lt _ hq)
          have hw : IntKind.i64.wrap (((p[i + k] : Nat) : Int) + (r : Int)) = ((p[i + k] + r : Nat) : Int) := wrapI_res hpi hrq hq9
          (try dsimp only)
          clear hHeld
          refine hKK.out _ _ (⟨(E4.out.bx 0 rfl).cell (i + k) (ncl_get p (i + k) hik), (E4.out.fc 1 rfl).2, (E4.out.fc 0 rfl).2⟩) (fun hHeld => ?_)
          clear hKK KK
          try simp only [Act.put, List.setIfInBounds_toArray, List.set_cons_zero, List.set_cons_succ]
          refine uTake (i := 20) (some 57) (v := .int .i64 ((p[i + k] + r : Nat) : Int)) rfl rfl (by kernel_rfl) (by kernel_rfl) (by kernel_rfl) (by kernel_rfl) (fun _ _ _ h => h) (by rfl) (by assumption) ?_ ?_
          · (intro wS hSw; (try dsimp only at hSw); go_simp)
          try simp only [Act.put, List.setIfInBounds_toArray, List.set_cons_zero, List.set_cons_succ]
          refine uTake (i := 22) (some 59) (v := .int .i64 (((p[i + k] + r) % q : Nat) : Int)) rfl rfl (by kernel_rfl) (by kernel_rfl) (by kernel_rfl) (by kernel_rfl) (fun _ _ _ h => h) (by rfl) (by assumption) ?_ ?_
          · (intro wS hSw; (try dsimp only at hSw); go_simp; exact Int.tmod_eq_emod_of_nonneg (by omega))
          try simp only [Act.put, List.setIfInBounds_toArray, List.set_cons_zero, List.set_cons_succ]
          refine uTake (i := 23) (some 60) (v := .pointer (some ⟨pg, i + k, none⟩)) rfl rfl (by kernel_rfl) (by kernel_rfl) (by kernel_rfl) (by kernel_rfl) (fun _ _ _ h => h) (by rfl) (by assumption) ?_ ?_
          · (intro wS hSw; (try dsimp only at hSw); go_simp; rw [if_pos h0ik.out, htn.out])
          try simp only [Act.put, List.setIfInBounds_toArray, List.set_cons_zero, List.set_cons_succ]
          have fz := (E4.out.bx 0 rfl).frozen (i + k)
          refine uReady (rs := [24]) (by kernel_rfl) (by simp) ?_
          refine ReadyU.consU (by kernel_rfl) rfl (fun KK hKK => ?_) ReadyU.nil
          go_simp
          have E5 : Hid (Env D w [(pg, 3, ((ncl p).set (i + k) (.int .i64 ((p[i + k] + r) % q : Nat))))] [.ce yab (yao + k) (.int .i64 (b[k] : Nat)), .ce xab (xao + i) (.int .i64 (a[i] : Nat)), .rw (.slice (some ⟨yab, yao, none⟩) b.length yk) b.length 1 (ncl b), .rw (.slice (some ⟨xab, xao, none⟩) a.length xk) a.length 1 (ncl a)] _) := Lib.hid ((E4.out.set 0 (i + k) (.int .i64 ((p[i + k] + r) % q : Nat)) rfl))
          (try dsimp only)
          (try clear hHeld)
          refine hKK.out _ _ ?_
          clear hKK KK
          try simp only [Act.put, List.setIfInBounds_toArray, List.set_cons_zero, List.set_cons_succ]
          refine uDone (by kernel_rfl) ?_ _
          have E6 : Hid (Env D w [(pg, 3, (ncl (p.set (i + k) ((p[i + k] + r) % q))))] [.ce yab (yao + k) (.int .i64 (b[k] : Nat)), .ce xab (xao + i) (.int .i64 (a[i] : Nat)), .rw (.slice (some ⟨yab, yao, none⟩) b.length yk) b.length 1 (ncl b), .rw (.slice (some ⟨xab, xao, none⟩) a.length xk) a.length 1 (ncl a)] _) := Lib.hid (by have h := E5.out; rw [ncl_set] at h; exact h)
          have HNX := Lib.hid (mulRow_step (q := q) (o0 := o) hi hk (by rw [← HP.out]; exact hik) rh.out)
          have EZ := Lib.hid ((E6.out.forget).forget)
          go_wp2
          go_roundg (b.length - (k + 1))
          case rel => exact ⟨k + 1, p.set (i + k) ((p[i + k] + r) % q), rfl, EZ, Lib.hid ⟨⟨by omega, rfl⟩, by rw [← HNX.out]; congr 1 <;> (first | exact HP.out | (congr 2; exact getElem_congr_coll HP.out))⟩⟩
          case measure => exact by omega
        have t8 : decide ((k : Int) < (b.length : Int)) = false := decide_eq_false (by omega)
        have t9 : decide (k < b.length) = false := decide_eq_false (by omega)
        have HD : Hid (p = mulTo q a b (i + 1)) := Lib.hid (by rw [HP.out, hy, HS.out]; rfl)
        have HY := Lib.hid hy
        clear hy
        have EZ := Lib.hid EL.out
        go_wp2
        go_roundg (a.length - (i + 1))
        case rel => exact ⟨i + 1, p, rfl, EZ, Lib.hid ⟨⟨by omega, rfl⟩, HD.out⟩⟩
        case measure => exact by omega
    have t6 : decide ((i : Int) < (a.length : Int)) = false := decide_eq_false (by omega)
    have t7 : decide (i < a.length) = false := decide_eq_false (by omega)
    have HD : Hid (o = mulTo q a b a.length) := Lib.hid (by rw [HS.out, hy])
    have HY := Lib.hid hy
    clear hy
    have tc := rTrim_c (xa := some ⟨pg, 0, none⟩) (xk := n) (w := wr) o (Rw.boxP (EL.out.bx 0 rfl) (by have := HOL.out; omega) (by omega)) (by have := HOL.out; omega)
    rw [HOL.out] at tc
    have TC := Lib.hid tc
    clear tc
    have hsz := Lib.hid EL.out.bel.size
    go_wp2_with fail
    refine (TC.out).mono ?_
    rintro e w1 ⟨⟨za, zk, rfl, zh⟩, hb⟩
    have E1 : Hid (Env D w [(pg, 3, (ncl o))] [.rw (.slice ya b.length yk) b.length 1 (ncl b), .rw (.slice xa a.length xk) a.length 1 (ncl a)] w1) := Lib.hid (EL.out.below hb)
    clear EL hb
    have hbel := Lib.hid E1.out.bel
    go_wp2
    go_ret
    rw [← HD.out]
    exact ⟨⟨za, zk, rfl, Lib.hid (Rw.from zh.out hsz.out)⟩, hbel.out⟩
theorem rMul_c {D : Nat → Prop} (q : Nat) (a b : List Nat) {xa ya : Option Addr} {xk yk : Nat} {w : World} (hx : Fct.at w D (.rw (.slice xa a.length xk) a.length 1 (ncl a))) (hy : Fct.at w D (.rw (.slice ya b.length yk) b.length 1 (ncl b))) (hq : 0 < q) (hqT : (q : Int) < Top) (ha : ∀ c ∈ a, c < q) (hb : ∀ c ∈ b, c < q) (hla : a.length ≤ 1000) (hlb : b.length ≤ 1000) :
    Calls Tryd.prog 27 #[.int .i64 (q : Nat), .slice xa a.length xk, .slice ya b.length yk] w fun e w' => RetI (fun b => w.heap.size ≤ b) (trimN (mulL q a b)) e w' ∧ Below w.heap.size w w' := by
  unfold mulL
  by_cases h : a.length = 0
  · rw [if_pos (.inl h)]; exact (rprod_a q a b hx hy hq hqT ha hb hla hlb h).mono fun e w' ⟨he, hw⟩ => ⟨⟨none, 0, he, Lib.hid (Rw.nil _ _ _)⟩, hw⟩
  · by_cases h2 : b.length = 0
    · rw [if_pos (.inr h2)]; exact (rprod_b q a b hx hy hq hqT ha hb hla hlb (by omega) h2).mono fun e w' ⟨he, hw⟩ => ⟨⟨none, 0, he, Lib.hid (Rw.nil _ _ _)⟩, hw⟩
    · rw [if_neg (by omega)]; exact rprod_c q a b hx hy hq hqT ha hb hla hlb (by omega) (by omega)
end Go.Proofs.YtinlfogpbologaaDoor

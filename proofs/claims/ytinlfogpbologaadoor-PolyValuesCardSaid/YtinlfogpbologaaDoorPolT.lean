/- specieref13: Eval. -/
import Derived.Test.YtinlfogpbologaaDoorPolS
namespace Go.Proofs.YtinlfogpbologaaDoor
open Go.RowKit DivMath WordMath
set_option linter.unusedVariables false
set_option linter.unusedSimpArgs false
theorem refMulB (a b q : Nat) (w : World) (ha : (a : Int) < (q : Int)) (hb : (b : Int) < (q : Int)) (hm : (q : Int) < Top) :
    Calls Tryd.prog 64 #[.int .i64 a, .int .i64 b, .int .i64 q] w fun e w' => RetN (fun r => r = a * b % q) e ∧ Below w.heap.size w w' :=
  (refMul_c a b q w (by unfold Top at hm; omega) (by unfold Top at hm; omega) (by omega) hm).mono fun e w' ⟨h1, h2⟩ => ⟨h1, h2.below⟩
theorem evN_lt {q x : Nat} (hq : 0 < q) : ∀ l, evN q x l < q
  | [] => hq
  | _ :: _ => Nat.mod_lt _ hq
theorem evN_drop {q x : Nat} {l : List Nat} {d : Nat} (h : d < l.length) : evN q x (l.drop d) = (evN q x (l.drop (d + 1)) * x % q + l[d]) % q := by
  rw [List.drop_eq_getElem_cons h]; rfl
theorem addL_take {q : Nat} {a b : List Nat} {k : Nat} (hk : k < max a.length b.length) {u v : Nat} (hu : a.getD k 0 = u) (hv : b.getD k 0 = v) : (addL q a b).take (k + 1) = (addL q a b).take k ++ [(u + v) % q] := by
  have hl : k < (addL q a b).length := by rw [addL_len]; exact hk
  rw [List.take_succ_eq_append_getElem hl, ← hu, ← hv]
  simp [addL]
theorem getD_lt {q : Nat} (hq : 0 < q) {l : List Nat} (h : ∀ c ∈ l, c < q) (i : Nat) : l.getD i 0 < q := by
  rw [List.getD_eq_getElem?_getD]
  cases hi : l[i]? with
  | none => exact hq
  | some v => exact h v (List.mem_of_getElem? hi)
set_option maxRecDepth 100000 in
set_option maxHeartbeats 400000 in
theorem rEval_c {D : Nat → Prop} (q : Nat) (l : List Nat) (x : Nat) {xa : Option Addr} {xk : Nat} {w : World} (hx : Fct.at w D (.rw (.slice xa l.length xk) l.length 1 (ncl l))) (hl0 : ∀ c ∈ l, c < q) (hxq : (x : Int) < (q : Int)) (hqT : (q : Int) < Top) (hm : l.length ≤ 1000) :
    Calls Tryd.prog 23 #[.int .i64 (q : Nat), .slice xa l.length xk, .int .i64 (x : Nat)] w fun e w' => e = .returned (.int .i64 (evN q x l : Nat)) ∧ Below w.heap.size w w' := by
  have E0 : Hid (Env D w [] [.rw (.slice xa l.length xk) l.length 1 (ncl l)] w) := Lib.hid ((Env.start D w).arg (.rw (.slice xa l.length xk) l.length 1 (ncl l)) hx)
  clear hx
  go_enter Tryd.func23, Tryd.ntmps23
  have hq : 0 < q := by omega
  have hl := Lib.hid hl0
  clear hl0
  have HT := Lib.hid hqT
  have hq9 : (q : Int) ≤ 2305843009213693951 := by unfold Top at hqT; omega
  clear hqT
  have hq0 : ¬ (q = 0) := by omega
  have hqz : ((q : Int) == 0) = false := beq_eq_false_iff_ne.2 (by omega)
  have hr0 : Hid (evN q x l = evN q x (l.drop 0)) := Lib.hid (by rw [List.drop_zero])
  have wl : wrap64 ((l.length : Int) - 1) = (l.length : Int) - 1 := IntWalk.wrap64_in _ (by omega)
  go_wp2_with fail
  go_loopg [7, 8] (l.length) (fun gk s7 s8 wr => ∃ (m : Nat) (i : Int) (y : Nat), s7 = .int .i64 (y : Nat) ∧ s8 = .int .i64 i ∧ Hid (Env D w [] [.rw (.slice xa l.length xk) l.length 1 (ncl l)] wr) ∧ Hid ((i = (m : Int) - 1 ∧ m ≤ l.length ∧ gk = m) ∧ y = evN q x (l.drop m)))
  case atStart => exact ⟨l.length, (l.length : Int) - 1, 0, rfl, rfl, Lib.hid E0.out, Lib.hid ⟨⟨rfl, Nat.le_refl _, rfl⟩, by simp [evN]⟩⟩
  case round =>
    clear E0
    obtain ⟨m, i, y, rfl, rfl, EL, HA⟩ := hrel
    obtain ⟨⟨a0, a1, a2⟩, a3⟩ := HA.out
    have HS := Lib.hid a3
    clear a3 HA
    by_cases hy : m = 0
    rotate_left
    · obtain ⟨d, rfl⟩ : ∃ d, m = d + 1 := ⟨m - 1, by omega⟩
      obtain rfl : i = ((d : Nat) : Int) := by omega
      have hd : d < l.length := by omega
      have hd9 : (d : Int) ≤ 999 := by omega
      have t8 : decide ((0 : Int) ≤ (d : Int)) = true := decide_eq_true (by omega)
      clear hy a0
      have hyq : (y : Int) < (q : Int) := by rw [HS.out]; exact Int.ofNat_lt.2 (evN_lt hq _)
      have hcq : ((l[d] : Nat) : Int) < (q : Int) := Int.ofNat_lt.2 (hl.out _ (List.getElem_mem hd))
      obtain ⟨xab, xao, rfl⟩ := Rw.addr (EL.out.fc 0 rfl) (by omega)
      have E1 : Hid (Env D w [] [.ce xab (xao + d) (.int .i64 (l[d] : Nat)), .rw (.slice (some ⟨xab, xao, none⟩) l.length xk) l.length 1 (ncl l)] _) := Lib.hid (EL.out.elN 0 rfl rfl (d) hd)
      clear EL
      have u0 := (E1.out.fc 0 rfl).2
      go_wp2_with fail
      have E2 : Hid (Env D w [] [.ce xab (xao + d) (.int .i64 (l[d] : Nat)), .rw (.slice (some ⟨xab, xao, none⟩) l.length xk) l.length 1 (ncl l)] (wr.drew)) := Lib.hid E1.out.drew
      clear u0 E1
      refine wp_regionU (S := fun w' => w'.cell? ⟨xab, xao + d, none⟩ = some (.int .i64 (l[d] : Nat))) [] (by kernel_rfl) ((E2.out.fc 0 rfl).2) (fun hHeld => ?_)
      generalize wr.drew = w1 at *
      refine uTake (i := 0) (some 16) (v := ?_) rfl rfl (by kernel_rfl) (by kernel_rfl) (by kernel_rfl) (by kernel_rfl) (fun _ _ _ h => h) (by rfl) (by assumption) ?_ ?_
      rotate_left
      · (intro wS hSw; (try dsimp only at hSw); go_simp; try with_reducible rfl)
      try simp only [Act.put, List.setIfInBounds_toArray, List.set_cons_zero, List.set_cons_succ]
      refine uTake (i := 1) (some 17) (v := ?_) rfl rfl (by kernel_rfl) (by kernel_rfl) (by kernel_rfl) (by kernel_rfl) (fun _ _ _ h => h) (by rfl) (by assumption) ?_ ?_
      rotate_left
      · (intro wS hSw; (try dsimp only at hSw); go_simp; try with_reducible rfl)
      try simp only [Act.put, List.setIfInBounds_toArray, List.set_cons_zero, List.set_cons_succ]
      refine uTake (i := 2) (some 18) (v := ?_) rfl rfl (by kernel_rfl) (by kernel_rfl) (by kernel_rfl) (by kernel_rfl) (fun _ _ _ h => h) (by rfl) (by assumption) ?_ ?_
      rotate_left
      · (intro wS hSw; (try dsimp only at hSw); go_simp; try with_reducible rfl)
      try simp only [Act.put, List.setIfInBounds_toArray, List.set_cons_zero, List.set_cons_succ]
      refine uTake (i := 4) (some 20) (v := ?_) rfl rfl (by kernel_rfl) (by kernel_rfl) (by kernel_rfl) (by kernel_rfl) (fun _ _ _ h => h) (by rfl) (by assumption) ?_ ?_
      rotate_left
      · (intro wS hSw; (try dsimp only at hSw); go_simp; try with_reducible rfl)
      try simp only [Act.put, List.setIfInBounds_toArray, List.set_cons_zero, List.set_cons_succ]
      refine uTake (i := 5) (some 21) (v := ?_) rfl rfl (by kernel_rfl) (by kernel_rfl) (by kernel_rfl) (by kernel_rfl) (fun _ _ _ h => h) (by rfl) (by assumption) ?_ ?_
      rotate_left
      · (intro wS hSw; (try dsimp only at hSw); go_simp; try with_reducible rfl)
      try simp only [Act.put, List.setIfInBounds_toArray, List.set_cons_zero, List.set_cons_succ]
      refine uTake (i := 6) (some 22) (v := ?_) rfl rfl (by kernel_rfl) (by kernel_rfl) (by kernel_rfl) (by kernel_rfl) (fun _ _ _ h => h) (by rfl) (by assumption) ?_ ?_
      rotate_left
      · (intro wS hSw; (try dsimp only at hSw); go_simp; try with_reducible rfl)
      try simp only [Act.put, List.setIfInBounds_toArray, List.set_cons_zero, List.set_cons_succ]
      refine uTake (i := 7) (some 23) (v := ?_) rfl rfl (by kernel_rfl) (by kernel_rfl) (by kernel_rfl) (by kernel_rfl) (fun _ _ _ h => h) (by rfl) (by assumption) ?_ ?_
      rotate_left
      · (intro wS hSw; (try dsimp only at hSw); go_simp; try with_reducible rfl)
      try simp only [Act.put, List.setIfInBounds_toArray, List.set_cons_zero, List.set_cons_succ]
      refine uTake (i := 9) (some 25) (v := ?_) rfl rfl (by kernel_rfl) (by kernel_rfl) (by kernel_rfl) (by kernel_rfl) (fun _ _ _ h => h) (by rfl) (by assumption) ?_ ?_
      rotate_left
      · (intro wS hSw; (try dsimp only at hSw); go_simp; try with_reducible rfl)
      try simp only [Act.put, List.setIfInBounds_toArray, List.set_cons_zero, List.set_cons_succ]
      refine uReady (rs := [3]) (by kernel_rfl) (by simp) ?_
      refine ReadyU.cons rfl (fun KK hKK => ?_) ReadyU.nil
      go_simp
      refine (refMulB y x q _ hyq hxq HT.out).mono ?_
      rintro e w2 ⟨⟨r, rh, rfl⟩, hb⟩
      have E3 : Hid (Env D w [] [.ce xab (xao + d) (.int .i64 (l[d] : Nat)), .rw (.slice (some ⟨xab, xao, none⟩) l.length xk) l.length 1 (ncl l)] w2) := Lib.hid (E2.out.below hb)
      clear E2 hb
      have hrq : (r : Int) < (q : Int) := by rw [rh.out]; exact Int.ofNat_lt.2 (Nat.mod_lt _ hq)
      have hw : IntKind.i64.wrap ((r : Int) + ((l[d] : Nat) : Int)) = ((r + l[d] : Nat) : Int) := wrapI_res hrq hcq hq9
      (try dsimp only)
      clear hHeld
      refine hKK.out _ _ ((E3.out.fc 0 rfl).2) (fun hHeld => ?_)
      clear hKK KK
      try simp only [Act.put, List.setIfInBounds_toArray, List.set_cons_zero, List.set_cons_succ]
      refine uTake (i := 8) (some 24) (v := .int .i64 ((r + l[d] : Nat) : Int)) rfl rfl (by kernel_rfl) (by kernel_rfl) (by kernel_rfl) (by kernel_rfl) (fun _ _ _ h => h) (by rfl) (by assumption) ?_ ?_
      · (intro wS hSw; (try dsimp only at hSw); go_simp)
      try simp only [Act.put, List.setIfInBounds_toArray, List.set_cons_zero, List.set_cons_succ]
      refine uTake (i := 10) (some 26) (v := .int .i64 (((r + l[d]) % q : Nat) : Int)) rfl rfl (by kernel_rfl) (by kernel_rfl) (by kernel_rfl) (by kernel_rfl) (fun _ _ _ h => h) (by rfl) (by assumption) ?_ ?_
      · (intro wS hSw; (try dsimp only at hSw); go_simp; exact Int.tmod_eq_emod_of_nonneg (by omega))
      try simp only [Act.put, List.setIfInBounds_toArray, List.set_cons_zero, List.set_cons_succ]
      refine uTake (i := 11) (some 7) (v := ?_) rfl rfl (by kernel_rfl) (by kernel_rfl) (by kernel_rfl) (by kernel_rfl) (fun _ _ _ h => h) (by rfl) (by assumption) ?_ ?_
      rotate_left
      · (intro wS hSw; (try dsimp only at hSw); go_simp; try with_reducible rfl)
      try simp only [Act.put, List.setIfInBounds_toArray, List.set_cons_zero, List.set_cons_succ]
      refine uDone (by kernel_rfl) ?_ _
      have HN : Hid ((r + l[d]) % q = evN q x (l.drop d)) := Lib.hid (by rw [evN_drop hd, ← HS.out, rh.out])
      have EZ := Lib.hid (E3.out.forget)
      go_wp2
      go_roundg (d)
      case rel => exact ⟨d, (d : Int) - 1, (r + l[d]) % q, by first | rfl | simp, by first | rfl | simp, EZ, Lib.hid ⟨⟨rfl, by omega, rfl⟩, HN.out⟩⟩
      case measure => exact by omega
    obtain rfl : i = -1 := by omega
    obtain rfl : y = evN q x l := by rw [HS.out, hy, List.drop_zero]
    have HY := Lib.hid hy
    clear hy a0
    have hfin := Lib.hid EL.out.bel
    go_wp2
    go_ret
    exact ⟨rfl, hfin.out⟩
end Go.Proofs.YtinlfogpbologaaDoor

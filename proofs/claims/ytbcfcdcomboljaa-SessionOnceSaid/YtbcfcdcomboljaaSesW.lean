/- specieref40: Same and SameSession. -/
import Derived.Test.YtbcfcdcomboljaaSesD
namespace Go.Proofs.Ytbcfcdcomboljaa
open Go.RowKit
set_option linter.unusedVariables false
theorem Bs.open {W : World} {D : Nat → Prop} {v : Value} {l : List Nat} (h : Bs W D v l) (hl : l ≠ []) : ∃ b off j, v = .slice (some ⟨b, off, none⟩) l.length j := by
  obtain ⟨ao, cap, h1, h2, h3, h4, h5, h6⟩ := h
  obtain ⟨b, off, rfl, _⟩ := h5 hl
  exact ⟨b, off, cap, h1⟩
/-- a byte of a list, as a fact -/
theorem Env.elb {D0 : Nat → Prop} {w W : World} {F : List Bx} {G : List Fct} (h : Env D0 w F G W) (i : Nat) {b off n j : Nat} {l : List Nat} (e : G[i]? = some (.bs (.slice (some ⟨b, off, none⟩) n j) l)) (k : Nat) (hk : k < l.length) :
    Env D0 w F (.ce b (off + k) (.int .u8 ((l.getD k 0 : Nat) : Int)) :: G) W := by
  have hm : Bs W (DF D0 w.heap.size F) (.slice (some ⟨b, off, none⟩) n j) l := h.fct.get i e
  obtain ⟨ao, cap, h1, h2, h3, h4, h5, h6⟩ := hm
  obtain ⟨b', off', k1, k2, k3⟩ := h5 (by rintro rfl; simp at hk)
  simp only [Value.slice.injEq] at h1
  obtain ⟨h1, _, _⟩ := h1
  subst h1
  simp only [Option.some.injEq, Addr.mk.injEq, and_true] at k1
  obtain ⟨rfl, rfl⟩ := k1
  exact h.note _ ⟨k2, k3 k hk⟩
set_option maxRecDepth 100000 in
set_option maxHeartbeats 1000000 in
theorem rSame_z0 {D : Nat → Prop} (fr to_ kd nm fz : Int) (body : List Nat) {xa : Option Addr} {xk : Nat} {w : World}  (g : (fr != 0) = true) :
    Calls Try.prog 19 #[.agg #[.int .i64 fr, .int .i64 to_, .int .i64 kd, .int .i64 nm, .slice xa body.length xk], .agg #[.int .i64 0, .int .i64 0, .int .i64 0, .int .i64 0, .slice none 0 0]] w fun e w' => e = .returned (.bool false) ∧ Below w.heap.size w w' := by
  have E0 := Lib.hid (Env.start D w)
  go_enter Try.func19, Try.ntmps19
  have E1 := Lib.hid (((E0.out.push 24 [.int .i64 fr, .int .i64 to_, .int .i64 kd, .int .i64 nm, .slice xa body.length xk] (w.heap.size) (by simp)).push 24 [.int .i64 0, .int .i64 0, .int .i64 0, .int .i64 0, .slice none 0 0] (w.heap.size + 1) (by simp)))
  have hfin := Lib.hid E1.out.bel
  go_wp2
  go_ret
  exact ⟨rfl, hfin.out⟩
set_option maxRecDepth 100000 in
set_option maxHeartbeats 1000000 in
theorem rSame_z1 {D : Nat → Prop} (to_ kd nm fz : Int) (body : List Nat) {xa : Option Addr} {xk : Nat} {w : World}  (g : (to_ != 0) = true) :
    Calls Try.prog 19 #[.agg #[.int .i64 0, .int .i64 to_, .int .i64 kd, .int .i64 nm, .slice xa body.length xk], .agg #[.int .i64 0, .int .i64 0, .int .i64 0, .int .i64 0, .slice none 0 0]] w fun e w' => e = .returned (.bool false) ∧ Below w.heap.size w w' := by
  have E0 := Lib.hid (Env.start D w)
  go_enter Try.func19, Try.ntmps19
  have E1 := Lib.hid (((E0.out.push 24 [.int .i64 0, .int .i64 to_, .int .i64 kd, .int .i64 nm, .slice xa body.length xk] (w.heap.size) (by simp)).push 24 [.int .i64 0, .int .i64 0, .int .i64 0, .int .i64 0, .slice none 0 0] (w.heap.size + 1) (by simp)))
  have hfin := Lib.hid E1.out.bel
  go_wp2
  go_ret
  exact ⟨rfl, hfin.out⟩
set_option maxRecDepth 100000 in
set_option maxHeartbeats 1000000 in
theorem rSame_z2 {D : Nat → Prop} (kd nm fz : Int) (body : List Nat) {xa : Option Addr} {xk : Nat} {w : World}  (g : (kd != 0) = true) :
    Calls Try.prog 19 #[.agg #[.int .i64 0, .int .i64 0, .int .i64 kd, .int .i64 nm, .slice xa body.length xk], .agg #[.int .i64 0, .int .i64 0, .int .i64 0, .int .i64 0, .slice none 0 0]] w fun e w' => e = .returned (.bool false) ∧ Below w.heap.size w w' := by
  have E0 := Lib.hid (Env.start D w)
  go_enter Try.func19, Try.ntmps19
  have E1 := Lib.hid (((E0.out.push 24 [.int .i64 0, .int .i64 0, .int .i64 kd, .int .i64 nm, .slice xa body.length xk] (w.heap.size) (by simp)).push 24 [.int .i64 0, .int .i64 0, .int .i64 0, .int .i64 0, .slice none 0 0] (w.heap.size + 1) (by simp)))
  have hfin := Lib.hid E1.out.bel
  go_wp2
  go_ret
  exact ⟨rfl, hfin.out⟩
set_option maxRecDepth 100000 in
set_option maxHeartbeats 1000000 in
theorem rSame_z3 {D : Nat → Prop} (nm fz : Int) (body : List Nat) {xa : Option Addr} {xk : Nat} {w : World}  (g : (nm != 0) = true) :
    Calls Try.prog 19 #[.agg #[.int .i64 0, .int .i64 0, .int .i64 0, .int .i64 nm, .slice xa body.length xk], .agg #[.int .i64 0, .int .i64 0, .int .i64 0, .int .i64 0, .slice none 0 0]] w fun e w' => e = .returned (.bool false) ∧ Below w.heap.size w w' := by
  have E0 := Lib.hid (Env.start D w)
  go_enter Try.func19, Try.ntmps19
  have E1 := Lib.hid (((E0.out.push 24 [.int .i64 0, .int .i64 0, .int .i64 0, .int .i64 nm, .slice xa body.length xk] (w.heap.size) (by simp)).push 24 [.int .i64 0, .int .i64 0, .int .i64 0, .int .i64 0, .slice none 0 0] (w.heap.size + 1) (by simp)))
  have hfin := Lib.hid E1.out.bel
  go_wp2
  go_ret
  exact ⟨rfl, hfin.out⟩
set_option maxRecDepth 100000 in
set_option maxHeartbeats 1000000 in
theorem rSame_z4 {D : Nat → Prop} (fz : Int) (body : List Nat) {xa : Option Addr} {xk : Nat} {w : World}  (g : ((body.length : Int) != 0) = true) :
    Calls Try.prog 19 #[.agg #[.int .i64 0, .int .i64 0, .int .i64 0, .int .i64 0, .slice xa body.length xk], .agg #[.int .i64 0, .int .i64 0, .int .i64 0, .int .i64 0, .slice none 0 0]] w fun e w' => e = .returned (.bool false) ∧ Below w.heap.size w w' := by
  have E0 := Lib.hid (Env.start D w)
  go_enter Try.func19, Try.ntmps19
  have E1 := Lib.hid (((E0.out.push 24 [.int .i64 0, .int .i64 0, .int .i64 0, .int .i64 0, .slice xa body.length xk] (w.heap.size) (by simp)).push 24 [.int .i64 0, .int .i64 0, .int .i64 0, .int .i64 0, .slice none 0 0] (w.heap.size + 1) (by simp)))
  have hfin := Lib.hid E1.out.bel
  go_wp2
  go_ret
  exact ⟨rfl, hfin.out⟩
set_option maxRecDepth 100000 in
set_option maxHeartbeats 1000000 in
theorem rSame_zz {D : Nat → Prop} {xa : Option Addr} {xk : Nat} {w : World}   :
    Calls Try.prog 19 #[.agg #[.int .i64 0, .int .i64 0, .int .i64 0, .int .i64 0, .slice xa 0 xk], .agg #[.int .i64 0, .int .i64 0, .int .i64 0, .int .i64 0, .slice none 0 0]] w fun e w' => e = .returned (.bool true) ∧ Below w.heap.size w w' := by
  have E0 := Lib.hid (Env.start D w)
  go_enter Try.func19, Try.ntmps19
  go_wp2_with fail
  have E1 := Lib.hid (((E0.out.push 24 [.int .i64 0, .int .i64 0, .int .i64 0, .int .i64 0, .slice xa 0 xk] (w.heap.size) (by simp)).push 24 [.int .i64 0, .int .i64 0, .int .i64 0, .int .i64 0, .slice none 0 0] (w.heap.size + 1) (by simp)))
  refine wp_loop_rounds 1 ?_
  rw [rounds_succ]
  have b1 := E1.out.bx 1 rfl
  have c1_4 := b1.cell 4 rfl
  clear b1
  have hfin := Lib.hid E1.out.bel
  go_wp2
  go_ret
  exact ⟨rfl, hfin.out⟩
theorem rSame_z (M : Msg) {t : Bool} (ht : msgZ M = t) {D : Nat → Prop} {xa : Option Addr} {xk : Nat} {w : World} (hx : Fct.at w D (.bs (.slice xa M.body.length xk) M.body)) :
    Calls Try.prog 19 #[.agg #[.int .i64 M.fr, .int .i64 M.to_, .int .i64 M.kd, .int .i64 M.nm, .slice xa M.body.length xk], .agg #[.int .i64 0, .int .i64 0, .int .i64 0, .int .i64 0, .slice none 0 0]] w fun e w' => e = .returned (.bool t) ∧ Below w.heap.size w w' := by
  obtain ⟨fr, to_, kd, nm, body⟩ := M
  subst ht
  unfold msgZ
  dsimp only at *
  by_cases h0 : fr = 0
  case neg => rw [show (decide (fr = 0)) = false from decide_eq_false h0]; exact rSame_z0 (D := D) fr to_ kd nm 0 body (by simpa using h0)
  subst h0
  by_cases h1 : to_ = 0
  case neg => rw [show (decide (to_ = 0)) = false from decide_eq_false h1]; exact rSame_z1 (D := D) to_ kd nm 0 body (by simpa using h1)
  subst h1
  by_cases h2 : kd = 0
  case neg => rw [show (decide (kd = 0)) = false from decide_eq_false h2]; exact rSame_z2 (D := D) kd nm 0 body (by simpa using h2)
  subst h2
  by_cases h3 : nm = 0
  case neg => rw [show (decide (nm = 0)) = false from decide_eq_false h3]; exact rSame_z3 (D := D) nm 0 body (by simpa using h3)
  subst h3
  by_cases h4 : body.length = 0
  case neg => rw [show (decide (body.length = 0)) = false from decide_eq_false h4]; exact rSame_z4 (D := D) 0 body (by simpa using h4)
  rw [h4]
  exact rSame_zz (D := D)
set_option maxRecDepth 100000 in
set_option maxHeartbeats 1000000 in
theorem rSame_n {D : Nat → Prop} (fr to_ kd nm : Int) {xa ya : Option Addr} {xk yk : Nat} {w : World}   :
    Calls Try.prog 19 #[.agg #[.int .i64 fr, .int .i64 to_, .int .i64 kd, .int .i64 nm, .slice xa 0 xk], .agg #[.int .i64 fr, .int .i64 to_, .int .i64 kd, .int .i64 nm, .slice ya 0 yk]] w fun e w' => e = .returned (.bool true) ∧ Below w.heap.size w w' := by
  have E0 := Lib.hid (Env.start D w)
  go_enter Try.func19, Try.ntmps19
  go_wp2_with fail
  have E1 := Lib.hid (((E0.out.push 24 [.int .i64 fr, .int .i64 to_, .int .i64 kd, .int .i64 nm, .slice xa 0 xk] (w.heap.size) (by simp)).push 24 [.int .i64 fr, .int .i64 to_, .int .i64 kd, .int .i64 nm, .slice ya 0 yk] (w.heap.size + 1) (by simp)))
  refine wp_loop_rounds 1 ?_
  rw [rounds_succ]
  have b1 := E1.out.bx 1 rfl
  have c1_4 := b1.cell 4 rfl
  clear b1
  have hfin := Lib.hid E1.out.bel
  go_wp2
  go_ret
  exact ⟨rfl, hfin.out⟩
set_option maxRecDepth 100000 in
set_option maxHeartbeats 1000000 in
theorem rSame_s {D : Nat → Prop} (fr to_ kd nm : Int) (body : List Nat) {xb xo xk yb yo yk : Nat} {w : World} (hx : Fct.at w D (.bs (.slice (some ⟨xb, xo, none⟩) body.length xk) body)) (hy : Fct.at w D (.bs (.slice (some ⟨yb, yo, none⟩) body.length yk) body)) (hl0 : body.length ≤ 1000000) :
    Calls Try.prog 19 #[.agg #[.int .i64 fr, .int .i64 to_, .int .i64 kd, .int .i64 nm, .slice (some ⟨xb, xo, none⟩) body.length xk], .agg #[.int .i64 fr, .int .i64 to_, .int .i64 kd, .int .i64 nm, .slice (some ⟨yb, yo, none⟩) body.length yk]] w fun e w' => e = .returned (.bool true) ∧ Below w.heap.size w w' := by
  have E0 := Lib.hid (((Env.start D w).arg (.bs (.slice (some ⟨xb, xo, none⟩) body.length xk) body) hx).arg (.bs (.slice (some ⟨yb, yo, none⟩) body.length yk) body) hy)
  clear hx hy
  go_enter Try.func19, Try.ntmps19
  have hl := Lib.hid hl0
  clear hl0
  go_wp2_with fail
  have E1 := Lib.hid (((E0.out.push 24 [.int .i64 fr, .int .i64 to_, .int .i64 kd, .int .i64 nm, .slice (some ⟨xb, xo, none⟩) body.length xk] (w.heap.size) (by simp)).push 24 [.int .i64 fr, .int .i64 to_, .int .i64 kd, .int .i64 nm, .slice (some ⟨yb, yo, none⟩) body.length yk] (w.heap.size + 1) (by simp)))
  go_loopg [5] (body.length) (fun gk s5 wr => ∃ (k : Nat), s5 = .int .i64 (k : Int) ∧ Hid (Env D w [(w.heap.size + 1, 24, [.int .i64 fr, .int .i64 to_, .int .i64 kd, .int .i64 nm, .slice (some ⟨yb, yo, none⟩) body.length yk]), (w.heap.size, 24, [.int .i64 fr, .int .i64 to_, .int .i64 kd, .int .i64 nm, .slice (some ⟨xb, xo, none⟩) body.length xk])] [.bs (.slice (some ⟨yb, yo, none⟩) body.length yk) body, .bs (.slice (some ⟨xb, xo, none⟩) body.length xk) body] wr) ∧ Hid (k ≤ body.length ∧ gk = body.length - k))
  case atStart => exact ⟨0, rfl, Lib.hid E1.out, Lib.hid ⟨Nat.zero_le _, rfl⟩⟩
  case round =>
    clear E0 E1
    obtain ⟨k, rfl, EL, HA⟩ := hrel
    obtain ⟨a1, a2⟩ := HA.out
    clear HA
    by_cases hy : k = body.length
    · have t1 : decide ((k : Int) < (body.length : Int)) = false := decide_eq_false (by omega)
      have b1 := EL.out.bx 1 rfl
      have c1_4 := b1.cell 4 rfl
      clear b1
      have hfin := Lib.hid EL.out.bel
      go_wp2
      go_ret
      exact ⟨rfl, hfin.out⟩
    · have hk : k < body.length := by omega
      have t1 : decide ((k : Int) < (body.length : Int)) = true := decide_eq_true (by omega)
      have a3 := hl.out
      have b1 := EL.out.bx 1 rfl
      have c1_4 := b1.cell 4 rfl
      clear b1
      have E2 := Lib.hid (EL.out.elb 1 rfl k hk)
      clear EL
      have E3 := Lib.hid (E2.out.elb 1 rfl k hk)
      clear E2
      go_wp2_with fail
      have E4 := Lib.hid E3.out.drew
      clear c1_4 E3
      refine wp_region_held_drew (S := fun w' => w'.cell? ⟨w.heap.size, 4, none⟩ = some (.slice (some ⟨xb, xo, none⟩) body.length xk) ∧ w'.cell? ⟨w.heap.size + 1, 4, none⟩ = some (.slice (some ⟨yb, yo, none⟩) body.length yk) ∧ w'.cell? ⟨xb, xo + k, none⟩ = some (.int .u8 ((body.getD k 0 : Nat) : Int)) ∧ w'.cell? ⟨yb, yo + k, none⟩ = some (.int .u8 ((body.getD k 0 : Nat) : Int))) (by kernel_rfl) (⟨((E4.out.bx 1 rfl).cell 4 rfl), ((E4.out.bx 0 rfl).cell 4 rfl), (E4.out.fc 1 rfl).2, (E4.out.fc 0 rfl).2⟩) (fun hHeld => ?_)
      refine takeW (i := 0) (some 48) (v := ?_) rfl rfl (by kernel_rfl) (by kernel_rfl) (by kernel_rfl) (fun _ _ _ h => h) (by rfl) (by assumption) ?_ ?_
      rotate_left
      · (intro wS hSw; (try dsimp only at hSw); go_simp; try with_reducible rfl)
      try simp only [Act.put, List.setIfInBounds_toArray, List.set_cons_zero, List.set_cons_succ]
      refine takeW (i := 1) (some 49) (v := ?_) rfl rfl (by kernel_rfl) (by kernel_rfl) (by kernel_rfl) (fun _ _ _ h => h) (by rfl) (by assumption) ?_ ?_
      rotate_left
      · (intro wS hSw; (try dsimp only at hSw); go_simp; try with_reducible rfl)
      try simp only [Act.put, List.setIfInBounds_toArray, List.set_cons_zero, List.set_cons_succ]
      refine takeW (i := 2) (some 50) (v := ?_) rfl rfl (by kernel_rfl) (by kernel_rfl) (by kernel_rfl) (fun _ _ _ h => h) (by rfl) (by assumption) ?_ ?_
      rotate_left
      · (intro wS hSw; (try dsimp only at hSw); go_simp; try with_reducible rfl)
      try simp only [Act.put, List.setIfInBounds_toArray, List.set_cons_zero, List.set_cons_succ]
      refine takeW (i := 3) (some 51) (v := ?_) rfl rfl (by kernel_rfl) (by kernel_rfl) (by kernel_rfl) (fun _ _ _ h => h) (by rfl) (by assumption) ?_ ?_
      rotate_left
      · (intro wS hSw; (try dsimp only at hSw); go_simp; try with_reducible rfl)
      try simp only [Act.put, List.setIfInBounds_toArray, List.set_cons_zero, List.set_cons_succ]
      refine takeW (i := 4) (some 52) (v := ?_) rfl rfl (by kernel_rfl) (by kernel_rfl) (by kernel_rfl) (fun _ _ _ h => h) (by rfl) (by assumption) ?_ ?_
      rotate_left
      · (intro wS hSw; (try dsimp only at hSw); go_simp; try with_reducible rfl)
      try simp only [Act.put, List.setIfInBounds_toArray, List.set_cons_zero, List.set_cons_succ]
      refine takeW (i := 5) (some 53) (v := ?_) rfl rfl (by kernel_rfl) (by kernel_rfl) (by kernel_rfl) (fun _ _ _ h => h) (by rfl) (by assumption) ?_ ?_
      rotate_left
      · (intro wS hSw; (try dsimp only at hSw); go_simp; try with_reducible rfl)
      try simp only [Act.put, List.setIfInBounds_toArray, List.set_cons_zero, List.set_cons_succ]
      refine takeW (i := 6) (some 54) (v := ?_) rfl rfl (by kernel_rfl) (by kernel_rfl) (by kernel_rfl) (fun _ _ _ h => h) (by rfl) (by assumption) ?_ ?_
      rotate_left
      · (intro wS hSw; (try dsimp only at hSw); go_simp; try with_reducible rfl)
      try simp only [Act.put, List.setIfInBounds_toArray, List.set_cons_zero, List.set_cons_succ]
      refine takeW (i := 7) (some 55) (v := ?_) rfl rfl (by kernel_rfl) (by kernel_rfl) (by kernel_rfl) (fun _ _ _ h => h) (by rfl) (by assumption) ?_ ?_
      rotate_left
      · (intro wS hSw; (try dsimp only at hSw); go_simp; try with_reducible rfl)
      try simp only [Act.put, List.setIfInBounds_toArray, List.set_cons_zero, List.set_cons_succ]
      refine takeW (i := 8) (some 56) (v := ?_) rfl rfl (by kernel_rfl) (by kernel_rfl) (by kernel_rfl) (fun _ _ _ h => h) (by rfl) (by assumption) ?_ ?_
      rotate_left
      · (intro wS hSw; (try dsimp only at hSw); go_simp; try with_reducible rfl)
      try simp only [Act.put, List.setIfInBounds_toArray, List.set_cons_zero, List.set_cons_succ]
      refine takeW (i := 9) (some 57) (v := ?_) rfl rfl (by kernel_rfl) (by kernel_rfl) (by kernel_rfl) (fun _ _ _ h => h) (by rfl) (by assumption) ?_ ?_
      rotate_left
      · (intro wS hSw; (try dsimp only at hSw); go_simp; try with_reducible rfl)
      try simp only [Act.put, List.setIfInBounds_toArray, List.set_cons_zero, List.set_cons_succ]
      refine takeW (i := 10) (some 58) (v := ?_) rfl rfl (by kernel_rfl) (by kernel_rfl) (by kernel_rfl) (fun _ _ _ h => h) (by rfl) (by assumption) ?_ ?_
      rotate_left
      · (intro wS hSw; (try dsimp only at hSw); go_simp; try with_reducible rfl)
      try simp only [Act.put, List.setIfInBounds_toArray, List.set_cons_zero, List.set_cons_succ]
      refine wpAnyH_done (by kernel_rfl) ?_ _
      go_wp2_with fail
      have EZ := Lib.hid ((E4.out.forget).forget)
      go_roundg (body.length - (k + 1))
      case rel => exact ⟨k + 1, rfl, EZ, Lib.hid ⟨by omega, rfl⟩⟩
      case measure => exact by omega
theorem rSame_t (M : Msg) {D : Nat → Prop} {xa ya : Option Addr} {xk yk : Nat} {w : World} (hl : M.body.length ≤ 1000000) (hx : Fct.at w D (.bs (.slice xa M.body.length xk) M.body)) (hy : Fct.at w D (.bs (.slice ya M.body.length yk) M.body)) :
    Calls Try.prog 19 #[.agg #[.int .i64 M.fr, .int .i64 M.to_, .int .i64 M.kd, .int .i64 M.nm, .slice xa M.body.length xk], .agg #[.int .i64 M.fr, .int .i64 M.to_, .int .i64 M.kd, .int .i64 M.nm, .slice ya M.body.length yk]] w fun e w' => e = .returned (.bool true) ∧ Below w.heap.size w w' := by
  obtain ⟨fr, to_, kd, nm, body⟩ := M
  dsimp only at *
  cases body with
  | nil => exact rSame_n (D := D) fr to_ kd nm
  | cons c body =>
    obtain ⟨b, off, j, e⟩ := Bs.open hx (by simp)
    obtain ⟨b', off', j', e'⟩ := Bs.open hy (by simp)
    rw [e] at hx ⊢
    rw [e'] at hy ⊢
    exact rSame_s fr to_ kd nm _ hx hy hl
set_option maxRecDepth 100000 in
set_option maxHeartbeats 1000000 in
theorem rSess_nil {D : Nat → Prop} (nx fr to_ kd nm tr : Int) (wt : Bool) (body : List Nat) (dn : List Msg) {xa ya : Option Addr} {xk yk : Nat} {xd yd : Option Addr} {xj yj : Nat} {w : World} (hx : Fct.at w D (.bs (.slice xa body.length xk) body)) (hy : Fct.at w D (.bs (.slice ya body.length yk) body)) (hl0 : body.length ≤ 1000000) :
    Calls Try.prog 20 #[.agg #[.int .i64 nx, .bool wt, .int .i64 fr, .int .i64 to_, .int .i64 kd, .int .i64 nm, .slice xa body.length xk, .slice xd 0 xj, .int .i64 tr], .agg #[.int .i64 nx, .bool wt, .int .i64 fr, .int .i64 to_, .int .i64 kd, .int .i64 nm, .slice ya body.length yk, .slice yd 0 yj, .int .i64 tr]] w fun e w' => e = .returned (.bool true) ∧ Below w.heap.size w w' := by
  have E0 := Lib.hid (((Env.start D w).arg (.bs (.slice xa body.length xk) body) hx).arg (.bs (.slice ya body.length yk) body) hy)
  clear hx hy
  go_enter Try.func20, Try.ntmps20
  have hl := Lib.hid hl0
  clear hl0
  go_wp2_with fail
  have E1 := Lib.hid (((E0.out.push 27 [.int .i64 nx, .bool wt, .int .i64 fr, .int .i64 to_, .int .i64 kd, .int .i64 nm, .slice xa body.length xk, .slice xd 0 xj, .int .i64 tr] (w.heap.size) (by simp)).push 27 [.int .i64 nx, .bool wt, .int .i64 fr, .int .i64 to_, .int .i64 kd, .int .i64 nm, .slice ya body.length yk, .slice yd 0 yj, .int .i64 tr] (w.heap.size + 1) (by simp)))
  refine (rSame_t ⟨fr, to_, kd, nm, body⟩ hl.out (E1.out.fc 1 rfl) (E1.out.fc 0 rfl)).mono ?_
  rintro e w1 ⟨rfl, hb⟩
  have E2 := Lib.hid (E1.out.below hb)
  clear E0 E1 hb
  have b1 := E2.out.bx 1 rfl
  have c1_7 := b1.cell 7 rfl
  clear b1
  have b2 := E2.out.bx 0 rfl
  have c2_7 := b2.cell 7 rfl
  clear b2
  go_wp2_with fail
  refine wp_loop_rounds 1 ?_
  rw [rounds_succ]
  have hfin := Lib.hid E2.out.bel
  go_wp2
  go_ret
  exact ⟨rfl, hfin.out⟩
set_option maxRecDepth 100000 in
set_option maxHeartbeats 1000000 in
theorem rSess_some {D : Nat → Prop} (nx fr to_ kd nm tr : Int) (wt : Bool) (body : List Nat) (dn : List Msg) {xa ya : Option Addr} {xk yk : Nat} {xb xo xj yb yo yj : Nat} {w : World} (hx : Fct.at w D (.bs (.slice xa body.length xk) body)) (hy : Fct.at w D (.bs (.slice ya body.length yk) body)) (hu : Fct.at w D (.ms (.slice (some ⟨xb, xo, none⟩) dn.length xj) dn)) (hv : Fct.at w D (.ms (.slice (some ⟨yb, yo, none⟩) dn.length yj) dn)) (hl0 : body.length ≤ 1000000) (hd0 : dn.length ≤ 1000000 ∧ ∀ k (h : k < dn.length), dn[k].body.length ≤ 1000000) :
    Calls Try.prog 20 #[.agg #[.int .i64 nx, .bool wt, .int .i64 fr, .int .i64 to_, .int .i64 kd, .int .i64 nm, .slice xa body.length xk, .slice (some ⟨xb, xo, none⟩) dn.length xj, .int .i64 tr], .agg #[.int .i64 nx, .bool wt, .int .i64 fr, .int .i64 to_, .int .i64 kd, .int .i64 nm, .slice ya body.length yk, .slice (some ⟨yb, yo, none⟩) dn.length yj, .int .i64 tr]] w fun e w' => e = .returned (.bool true) ∧ Below w.heap.size w w' := by
  have E0 := Lib.hid (((((Env.start D w).arg (.bs (.slice xa body.length xk) body) hx).arg (.bs (.slice ya body.length yk) body) hy).arg (.ms (.slice (some ⟨xb, xo, none⟩) dn.length xj) dn) hu).arg (.ms (.slice (some ⟨yb, yo, none⟩) dn.length yj) dn) hv)
  clear hx hy hu hv
  go_enter Try.func20, Try.ntmps20
  have hl := Lib.hid hl0
  clear hl0
  have hd := Lib.hid hd0
  clear hd0
  go_wp2_with fail
  have E1 := Lib.hid (((E0.out.push 27 [.int .i64 nx, .bool wt, .int .i64 fr, .int .i64 to_, .int .i64 kd, .int .i64 nm, .slice xa body.length xk, .slice (some ⟨xb, xo, none⟩) dn.length xj, .int .i64 tr] (w.heap.size) (by simp)).push 27 [.int .i64 nx, .bool wt, .int .i64 fr, .int .i64 to_, .int .i64 kd, .int .i64 nm, .slice ya body.length yk, .slice (some ⟨yb, yo, none⟩) dn.length yj, .int .i64 tr] (w.heap.size + 1) (by simp)))
  refine (rSame_t ⟨fr, to_, kd, nm, body⟩ hl.out (E1.out.fc 3 rfl) (E1.out.fc 2 rfl)).mono ?_
  rintro e w1 ⟨rfl, hb⟩
  have E2 := Lib.hid (E1.out.below hb)
  clear E0 E1 hb
  have b1 := E2.out.bx 1 rfl
  have c1_7 := b1.cell 7 rfl
  clear b1
  have b2 := E2.out.bx 0 rfl
  have c2_7 := b2.cell 7 rfl
  clear b2
  go_wp2_with fail
  go_loopg [5] (dn.length) (fun gk s5 wr => ∃ (k : Nat), s5 = .int .i64 (k : Int) ∧ Hid (Env D w [(w.heap.size + 1, 27, [.int .i64 nx, .bool wt, .int .i64 fr, .int .i64 to_, .int .i64 kd, .int .i64 nm, .slice ya body.length yk, .slice (some ⟨yb, yo, none⟩) dn.length yj, .int .i64 tr]), (w.heap.size, 27, [.int .i64 nx, .bool wt, .int .i64 fr, .int .i64 to_, .int .i64 kd, .int .i64 nm, .slice xa body.length xk, .slice (some ⟨xb, xo, none⟩) dn.length xj, .int .i64 tr])] [.ms (.slice (some ⟨yb, yo, none⟩) dn.length yj) dn, .ms (.slice (some ⟨xb, xo, none⟩) dn.length xj) dn, .bs (.slice ya body.length yk) body, .bs (.slice xa body.length xk) body] wr) ∧ Hid (k ≤ dn.length ∧ gk = dn.length - k))
  case atStart => exact ⟨0, rfl, Lib.hid E2.out, Lib.hid ⟨Nat.zero_le _, rfl⟩⟩
  case round =>
    clear c1_7 c2_7 E2
    obtain ⟨k, rfl, EL, HA⟩ := hrel
    obtain ⟨a1, a2⟩ := HA.out
    clear HA
    by_cases hy : k = dn.length
    · have t1 : decide ((k : Int) < (dn.length : Int)) = false := decide_eq_false (by omega)
      have b3 := EL.out.bx 1 rfl
      have c3_7 := b3.cell 7 rfl
      clear b3
      have hfin := Lib.hid EL.out.bel
      go_wp2
      go_ret
      exact ⟨rfl, hfin.out⟩
    · have hk : k < dn.length := by omega
      have t1 : decide ((k : Int) < (dn.length : Int)) = true := decide_eq_true (by omega)
      have a3 := hd.out.1
      have b3 := EL.out.bx 1 rfl
      have c3_7 := b3.cell 7 rfl
      clear b3
      obtain ⟨ua, uk, E30⟩ := EL.out.els 1 rfl (k) hk
      have E3 : Hid (Env D w [(w.heap.size + 1, 27, [.int .i64 nx, .bool wt, .int .i64 fr, .int .i64 to_, .int .i64 kd, .int .i64 nm, .slice ya body.length yk, .slice (some ⟨yb, yo, none⟩) dn.length yj, .int .i64 tr]), (w.heap.size, 27, [.int .i64 nx, .bool wt, .int .i64 fr, .int .i64 to_, .int .i64 kd, .int .i64 nm, .slice xa body.length xk, .slice (some ⟨xb, xo, none⟩) dn.length xj, .int .i64 tr])] [.ce xb (xo + k * 5) (.int .i64 dn[k].fr), .ce xb (xo + k * 5 + 1) (.int .i64 dn[k].to_), .ce xb (xo + k * 5 + 2) (.int .i64 dn[k].kd), .ce xb (xo + k * 5 + 3) (.int .i64 dn[k].nm), .ce xb (xo + k * 5 + 4) (.slice ua dn[k].body.length uk), .bs (.slice ua dn[k].body.length uk) dn[k].body, .ms (.slice (some ⟨yb, yo, none⟩) dn.length yj) dn, .ms (.slice (some ⟨xb, xo, none⟩) dn.length xj) dn, .bs (.slice ya body.length yk) body, .bs (.slice xa body.length xk) body] _) := Lib.hid E30
      clear E30 EL
      obtain ⟨va, vk, E40⟩ := E3.out.els 6 rfl (k) hk
      have E4 : Hid (Env D w [(w.heap.size + 1, 27, [.int .i64 nx, .bool wt, .int .i64 fr, .int .i64 to_, .int .i64 kd, .int .i64 nm, .slice ya body.length yk, .slice (some ⟨yb, yo, none⟩) dn.length yj, .int .i64 tr]), (w.heap.size, 27, [.int .i64 nx, .bool wt, .int .i64 fr, .int .i64 to_, .int .i64 kd, .int .i64 nm, .slice xa body.length xk, .slice (some ⟨xb, xo, none⟩) dn.length xj, .int .i64 tr])] [.ce yb (yo + k * 5) (.int .i64 dn[k].fr), .ce yb (yo + k * 5 + 1) (.int .i64 dn[k].to_), .ce yb (yo + k * 5 + 2) (.int .i64 dn[k].kd), .ce yb (yo + k * 5 + 3) (.int .i64 dn[k].nm), .ce yb (yo + k * 5 + 4) (.slice va dn[k].body.length vk), .bs (.slice va dn[k].body.length vk) dn[k].body, .ce xb (xo + k * 5) (.int .i64 dn[k].fr), .ce xb (xo + k * 5 + 1) (.int .i64 dn[k].to_), .ce xb (xo + k * 5 + 2) (.int .i64 dn[k].kd), .ce xb (xo + k * 5 + 3) (.int .i64 dn[k].nm), .ce xb (xo + k * 5 + 4) (.slice ua dn[k].body.length uk), .bs (.slice ua dn[k].body.length uk) dn[k].body, .ms (.slice (some ⟨yb, yo, none⟩) dn.length yj) dn, .ms (.slice (some ⟨xb, xo, none⟩) dn.length xj) dn, .bs (.slice ya body.length yk) body, .bs (.slice xa body.length xk) body] _) := Lib.hid E40
      clear E40 E3
      go_wp2_with fail
      have E5 := Lib.hid E4.out.drew
      clear c3_7 E4
      refine wp_region_held_drew (S := fun w' => w'.cell? ⟨w.heap.size, 7, none⟩ = some (.slice (some ⟨xb, xo, none⟩) dn.length xj) ∧ w'.cell? ⟨w.heap.size + 1, 7, none⟩ = some (.slice (some ⟨yb, yo, none⟩) dn.length yj) ∧ w'.cell? ⟨xb, xo + k * 5, none⟩ = some (.int .i64 dn[k].fr) ∧ w'.cell? ⟨xb, xo + k * 5 + 1, none⟩ = some (.int .i64 dn[k].to_) ∧ w'.cell? ⟨xb, xo + k * 5 + 2, none⟩ = some (.int .i64 dn[k].kd) ∧ w'.cell? ⟨xb, xo + k * 5 + 3, none⟩ = some (.int .i64 dn[k].nm) ∧ w'.cell? ⟨xb, xo + k * 5 + 4, none⟩ = some (.slice ua dn[k].body.length uk) ∧ w'.cell? ⟨yb, yo + k * 5, none⟩ = some (.int .i64 dn[k].fr) ∧ w'.cell? ⟨yb, yo + k * 5 + 1, none⟩ = some (.int .i64 dn[k].to_) ∧ w'.cell? ⟨yb, yo + k * 5 + 2, none⟩ = some (.int .i64 dn[k].kd) ∧ w'.cell? ⟨yb, yo + k * 5 + 3, none⟩ = some (.int .i64 dn[k].nm) ∧ w'.cell? ⟨yb, yo + k * 5 + 4, none⟩ = some (.slice va dn[k].body.length vk)) (by kernel_rfl) (⟨((E5.out.bx 1 rfl).cell 7 rfl), ((E5.out.bx 0 rfl).cell 7 rfl), (E5.out.fc 6 rfl).2, (E5.out.fc 7 rfl).2, (E5.out.fc 8 rfl).2, (E5.out.fc 9 rfl).2, (E5.out.fc 10 rfl).2, (E5.out.fc 0 rfl).2, (E5.out.fc 1 rfl).2, (E5.out.fc 2 rfl).2, (E5.out.fc 3 rfl).2, (E5.out.fc 4 rfl).2⟩) (fun hHeld => ?_)
      refine takeW (i := 0) (some 49) (v := ?_) rfl rfl (by kernel_rfl) (by kernel_rfl) (by kernel_rfl) (fun _ _ _ h => h) (by rfl) (by assumption) ?_ ?_
      rotate_left
      · (intro wS hSw; (try dsimp only at hSw); go_simp; try with_reducible rfl)
      try simp only [Act.put, List.setIfInBounds_toArray, List.set_cons_zero, List.set_cons_succ]
      refine takeW (i := 1) (some 50) (v := ?_) rfl rfl (by kernel_rfl) (by kernel_rfl) (by kernel_rfl) (fun _ _ _ h => h) (by rfl) (by assumption) ?_ ?_
      rotate_left
      · (intro wS hSw; (try dsimp only at hSw); go_simp; try with_reducible rfl)
      try simp only [Act.put, List.setIfInBounds_toArray, List.set_cons_zero, List.set_cons_succ]
      refine takeW (i := 2) (some 51) (v := ?_) rfl rfl (by kernel_rfl) (by kernel_rfl) (by kernel_rfl) (fun _ _ _ h => h) (by rfl) (by assumption) ?_ ?_
      rotate_left
      · (intro wS hSw; (try dsimp only at hSw); go_simp; try with_reducible rfl)
      try simp only [Act.put, List.setIfInBounds_toArray, List.set_cons_zero, List.set_cons_succ]
      refine takeW (i := 3) (some 52) (v := ?_) rfl rfl (by kernel_rfl) (by kernel_rfl) (by kernel_rfl) (fun _ _ _ h => h) (by rfl) (by assumption) ?_ ?_
      rotate_left
      · (intro wS hSw; (try dsimp only at hSw); go_simp; try with_reducible rfl)
      try simp only [Act.put, List.setIfInBounds_toArray, List.set_cons_zero, List.set_cons_succ]
      refine takeW (i := 4) (some 53) (v := ?_) rfl rfl (by kernel_rfl) (by kernel_rfl) (by kernel_rfl) (fun _ _ _ h => h) (by rfl) (by assumption) ?_ ?_
      rotate_left
      · (intro wS hSw; (try dsimp only at hSw); go_simp; try with_reducible rfl)
      try simp only [Act.put, List.setIfInBounds_toArray, List.set_cons_zero, List.set_cons_succ]
      refine takeW (i := 5) (some 54) (v := ?_) rfl rfl (by kernel_rfl) (by kernel_rfl) (by kernel_rfl) (fun _ _ _ h => h) (by rfl) (by assumption) ?_ ?_
      rotate_left
      · (intro wS hSw; (try dsimp only at hSw); go_simp; try with_reducible rfl)
      try simp only [Act.put, List.setIfInBounds_toArray, List.set_cons_zero, List.set_cons_succ]
      refine takeW (i := 6) (some 55) (v := ?_) rfl rfl (by kernel_rfl) (by kernel_rfl) (by kernel_rfl) (fun _ _ _ h => h) (by rfl) (by assumption) ?_ ?_
      rotate_left
      · (intro wS hSw; (try dsimp only at hSw); go_simp; try with_reducible rfl)
      try simp only [Act.put, List.setIfInBounds_toArray, List.set_cons_zero, List.set_cons_succ]
      refine takeW (i := 7) (some 56) (v := ?_) rfl rfl (by kernel_rfl) (by kernel_rfl) (by kernel_rfl) (fun _ _ _ h => h) (by rfl) (by assumption) ?_ ?_
      rotate_left
      · (intro wS hSw; (try dsimp only at hSw); go_simp; try with_reducible rfl)
      try simp only [Act.put, List.setIfInBounds_toArray, List.set_cons_zero, List.set_cons_succ]
      refine takeW (i := 8) (some 57) (v := ?_) rfl rfl (by kernel_rfl) (by kernel_rfl) (by kernel_rfl) (fun _ _ _ h => h) (by rfl) (by assumption) ?_ ?_
      rotate_left
      · (intro wS hSw; (try dsimp only at hSw); go_simp; try with_reducible rfl)
      try simp only [Act.put, List.setIfInBounds_toArray, List.set_cons_zero, List.set_cons_succ]
      refine takeW (i := 9) (some 58) (v := ?_) rfl rfl (by kernel_rfl) (by kernel_rfl) (by kernel_rfl) (fun _ _ _ h => h) (by rfl) (by assumption) ?_ ?_
      rotate_left
      · (intro wS hSw; (try dsimp only at hSw); go_simp; try with_reducible rfl)
      try simp only [Act.put, List.setIfInBounds_toArray, List.set_cons_zero, List.set_cons_succ]
      refine wpAnyH_ready (rs := [10]) (by kernel_rfl) (by simp) ?_
      refine AllReadyH.cons rfl (fun KK hKK => ?_) AllReadyH.nil
      go_simp
      refine (rSame_t dn[k] (hd.out.2 k hk) (E5.out.fc 11 rfl) (E5.out.fc 5 rfl)).mono ?_
      rintro e w2 ⟨rfl, hbr⟩
      have E6 := Lib.hid (E5.out.below hbr)
      clear E5 hbr
      (try dsimp only)
      clear hHeld
      refine hKK.out _ _ (⟨((E6.out.bx 1 rfl).cell 7 rfl), ((E6.out.bx 0 rfl).cell 7 rfl), (E6.out.fc 6 rfl).2, (E6.out.fc 7 rfl).2, (E6.out.fc 8 rfl).2, (E6.out.fc 9 rfl).2, (E6.out.fc 10 rfl).2, (E6.out.fc 0 rfl).2, (E6.out.fc 1 rfl).2, (E6.out.fc 2 rfl).2, (E6.out.fc 3 rfl).2, (E6.out.fc 4 rfl).2⟩) (fun hHeld => ?_)
      clear hKK KK
      try simp only [Act.put, List.setIfInBounds_toArray, List.set_cons_zero, List.set_cons_succ]
      refine takeW (i := 11) (some 60) (v := ?_) rfl rfl (by kernel_rfl) (by kernel_rfl) (by kernel_rfl) (fun _ _ _ h => h) (by rfl) (by assumption) ?_ ?_
      rotate_left
      · (intro wS hSw; (try dsimp only at hSw); go_simp; try with_reducible rfl)
      try simp only [Act.put, List.setIfInBounds_toArray, List.set_cons_zero, List.set_cons_succ]
      refine wpAnyH_done (by kernel_rfl) ?_ _
      have EZ := Lib.hid ((((((((((((E6.out.forget).forget).forget).forget).forget).forget).forget).forget).forget).forget).forget).forget)
      go_wp2
      go_roundg (dn.length - (k + 1))
      case rel => exact ⟨k + 1, rfl, EZ, Lib.hid ⟨by omega, rfl⟩⟩
      case measure => exact by omega
/-- a session whose lists are not too long -/
def Fair (S : Ses) : Prop := S.rq.body.length ≤ 1000000 ∧ S.dn.length ≤ 1000000 ∧ ∀ k (h : k < S.dn.length), S.dn[k].body.length ≤ 1000000
theorem rSess_t (S : Ses) {D : Nat → Prop} {xa ya xd yd : Option Addr} {xk yk xj yj : Nat} {w : World} (hl : Fair S) (hx : Fct.at w D (.bs (.slice xa S.rq.body.length xk) S.rq.body)) (hu : Fct.at w D (.ms (.slice xd S.dn.length xj) S.dn)) (hy : Fct.at w D (.bs (.slice ya S.rq.body.length yk) S.rq.body)) (hv : Fct.at w D (.ms (.slice yd S.dn.length yj) S.dn)) :
    Calls Try.prog 20 #[.agg #[.int .i64 S.nx, .bool S.wt, .int .i64 S.rq.fr, .int .i64 S.rq.to_, .int .i64 S.rq.kd, .int .i64 S.rq.nm, .slice xa S.rq.body.length xk, .slice xd S.dn.length xj, .int .i64 S.tr], .agg #[.int .i64 S.nx, .bool S.wt, .int .i64 S.rq.fr, .int .i64 S.rq.to_, .int .i64 S.rq.kd, .int .i64 S.rq.nm, .slice ya S.rq.body.length yk, .slice yd S.dn.length yj, .int .i64 S.tr]] w fun e w' => e = .returned (.bool true) ∧ Below w.heap.size w w' := by
  obtain ⟨nx, wt, ⟨fr, to_, kd, nm, body⟩, dn, tr⟩ := S
  dsimp only [Fair] at *
  cases dn with
  | nil => exact rSess_nil nx fr to_ kd nm tr wt body [] hx hy hl.1
  | cons d dn =>
    obtain ⟨b, off, j, e⟩ := Ms.open hu (by simp)
    obtain ⟨b', off', j', e'⟩ := Ms.open hv (by simp)
    rw [e] at hu ⊢
    rw [e'] at hv ⊢
    exact rSess_some nx fr to_ kd nm tr wt body _ hx hy hu hv hl.1 hl.2
end Go.Proofs.Ytbcfcdcomboljaa

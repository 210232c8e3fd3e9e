/- poly: the examples of layer 13. -/
import Derived.Test.YtinlfogpbologaaDoorPolZ
namespace Go.Proofs.YtinlfogpbologaaDoor
open Go.RowKit DivMath WordMath
set_option linter.unusedVariables false
set_option linter.unusedSimpArgs false
theorem field11 : fieldB 11 = true := by decide +kernel
theorem valid11 : validB ((11 : Nat) : Int) [nl [3, 2]] = true := by decide +kernel
theorem ex_eval {D : Nat → Prop} {xa : Option Addr} {xk : Nat} {w : World} (hx : Fct.at w D (.rw (.slice xa [3, 2].length xk) [3, 2].length 1 (ncl [3, 2]))) (hl : Laid w) :
    Calls Tryd.prog 16 #[.int .i64 11, .slice xa 2 xk, .int .i64 2] w fun e w' => e = .returned (.tuple #[.int .i64 7, .int .i64 0]) ∧ Below w.heap.size w w' :=
  Eval_ok 11 [3, 2] 2 hx hl (by unfold Top; omega) valid11 (by simp) (by decide) (by omega)
theorem wts_eq : ∀ o : List Nat, o.length = 2 → (∀ i, i < 2 → WR 11 0 [1, 2] i (o.getD i 0)) → o = [2, 10] := by
  intro o h1 h2
  match o, h1 with
  | [x, y], _ =>
    obtain ⟨r, hr, hr2, hx⟩ := h2 0 (by omega)
    obtain ⟨s, hs, hs2, hy⟩ := h2 1 (by omega)
    have e1 : ∀ r, r < 11 → wM 11 ([1, 2].getD 0 0) [1, 2] 0 [1, 2].length * r % 11 = 1 % 11 → wM 11 0 [1, 2] 0 [1, 2].length * r % 11 = 2 := by decide
    have e2 : ∀ r, r < 11 → wM 11 ([1, 2].getD 1 0) [1, 2] 1 [1, 2].length * r % 11 = 1 % 11 → wM 11 0 [1, 2] 1 [1, 2].length * r % 11 = 10 := by decide
    rw [e1 r hr hr2] at hx
    rw [e2 s hs hs2] at hy
    simp at hx hy
    rw [hx, hy]
theorem ex_wts {D : Nat → Prop} {xa : Option Addr} {xk : Nat} {w : World} (hx : Fct.at w D (.rw (.slice xa [1, 2].length xk) [1, 2].length 1 (ncl [1, 2]))) (hl : Laid w) :
    Calls Tryd.prog 57 #[.int .i64 11, .slice xa 2 xk, .int .i64 0] w fun e w' => RetIE (fun b => w.heap.size ≤ b) [2, 10] 0 e w' ∧ Below w.heap.size w w' :=
  (Weights_ok 11 [1, 2] 0 hx hl (by unfold Top; omega) (by omega) field11 (by simp) (by decide) (by omega) (by decide) (by decide)).mono fun e w' ⟨⟨o, ho, hr⟩, hb⟩ => by
    obtain rfl := wts_eq o ho.out.1 ho.out.2
    exact ⟨hr, hb⟩
theorem itp0 {u v : List Nat} (h : ItR 11 [1, 2] [5, 7] 1 u v) : u = [5] ∧ v = [10, 1] := by
  obtain ⟨u0, v0, r, ⟨rfl, rfl⟩, hr, he, rfl, rfl⟩ := h
  have e : ∀ r, r < 11 → evN 11 ([1, 2].getD 0 0) [1] * r % 11 = 1 % 11 → r = 1 := by decide
  obtain rfl := e r hr he
  decide
theorem itp1 {u v : List Nat} (h : ItR 11 [1, 2] [5, 7] 2 u v) : u = [3, 2] := by
  obtain ⟨u0, v0, r, h0, hr, he, rfl, rfl⟩ := h
  obtain ⟨rfl, rfl⟩ := itp0 h0
  have e : ∀ r, r < 11 → evN 11 ([1, 2].getD 1 0) [10, 1] * r % 11 = 1 % 11 → r = 1 := by decide
  obtain rfl := e r hr he
  decide
theorem itpg : ∀ k u v, k < [1, 2].length → ItR 11 [1, 2] [5, 7] k u v → Nat.gcd (evN 11 ([1, 2].getD k 0) v) 11 = 1 := by
  intro k u v hk h
  match k, hk with
  | 0, _ => obtain ⟨rfl, rfl⟩ := h; decide
  | 1, _ => obtain ⟨rfl, rfl⟩ := itp0 h; decide
theorem ex_itp {D : Nat → Prop} {xa ya : Option Addr} {xk yk : Nat} {w : World} (hx : Fct.at w D (.rw (.slice xa [1, 2].length xk) [1, 2].length 1 (ncl [1, 2]))) (hy : Fct.at w D (.rw (.slice ya [5, 7].length yk) [5, 7].length 1 (ncl [5, 7]))) (hl : Laid w) :
    Calls Tryd.prog 58 #[.int .i64 11, .slice xa 2 xk, .slice ya 2 yk] w fun e w' => RetIE (fun _ => True) [3, 2] 0 e w' ∧ Below w.heap.size w w' :=
  (Interpolate_ok 11 [1, 2] [5, 7] hx hy hl (by unfold Top; omega) (by omega) field11 rfl (by simp) (by decide) (by decide) (by decide) itpg).mono fun e w' ⟨⟨u, v, hu, hr⟩, hb⟩ => by
    obtain rfl := itp1 hu.out
    exact ⟨hr, hb⟩
set_option maxRecDepth 100000 in
set_option maxHeartbeats 4000000 in
theorem awake13_c  {w : World}  (hl0 : Laid w) :
    Calls Tryd.prog 15 #[] w fun e w' => e = .returned (.bool true) ∧ Below w.heap.size w w' := by
  have E0 : Hid (Env (fun _ : Nat => True) w [] [] w) := Lib.hid (Env.start (fun _ : Nat => True) w)
  go_enter Tryd.func15, Tryd.ntmps15
  have hl := Lib.hid hl0
  clear hl0
  have E1 : Hid (Env (fun _ : Nat => True) w [(w.heap.size, 3, [.int .i64 3, .int .i64 2])] [] _) := Lib.hid ((E0.out.push 3 [.int .i64 3, .int .i64 2] (w.heap.size) (by simp)))
  go_wp2_with fail
  refine (ex_eval (Rw.boxP (o := [3, 2]) (E1.out.bx 0 rfl) (Nat.le_refl _) (by simp)) (hl.out.below E1.out.bel)).mono ?_
  rintro e w1 ⟨rfl, hb⟩
  have E2 : Hid (Env (fun _ : Nat => True) w [(w.heap.size, 3, [.int .i64 3, .int .i64 2])] [] w1) := Lib.hid (E1.out.below hb)
  clear E0 E1 hb
  have E3 : Hid (Env (fun _ : Nat => True) w [(w1.heap.size, 3, [.int .i64 1, .int .i64 2]), (w.heap.size, 3, [.int .i64 3, .int .i64 2])] [] _) := Lib.hid ((E2.out.push 3 [.int .i64 1, .int .i64 2] (w1.heap.size) (by simp)))
  go_wp2_with fail
  refine (ex_wts (Rw.boxP (o := [1, 2]) (E3.out.bx 0 rfl) (Nat.le_refl _) (by simp)) (hl.out.below E3.out.bel)).mono ?_
  rintro e w2 ⟨⟨ya, yk, rfl, yh⟩, hb⟩
  have E4 : Hid (Env (fun _ : Nat => True) w [(w1.heap.size, 3, [.int .i64 1, .int .i64 2]), (w.heap.size, 3, [.int .i64 3, .int .i64 2])] [.rw (.slice ya ([2, 10]).length yk) ([2, 10]).length 1 (ncl ([2, 10]))] w2) := Lib.hid (E3.out.got (E3.out.below hb) (.rw (.slice ya ([2, 10]).length yk) ([2, 10]).length 1 (ncl ([2, 10]))) (Lib.hid (Rw.ge yh.out)).out)
  clear E2 E3 hb
  have E5 : Hid (Env (fun _ : Nat => True) w [(w2.heap.size + 1, 3, [.int .i64 5, .int .i64 7]), (w2.heap.size, 3, [.int .i64 1, .int .i64 2]), (w1.heap.size, 3, [.int .i64 1, .int .i64 2]), (w.heap.size, 3, [.int .i64 3, .int .i64 2])] [.rw (.slice ya ([2, 10]).length yk) ([2, 10]).length 1 (ncl ([2, 10]))] _) := Lib.hid (((E4.out.push 3 [.int .i64 1, .int .i64 2] (w2.heap.size) (by simp)).push 3 [.int .i64 5, .int .i64 7] (w2.heap.size + 1) (by simp)))
  go_wp2_with fail
  refine (ex_itp (Rw.boxP (o := [1, 2]) (E5.out.bx 1 rfl) (Nat.le_refl _) (by simp)) (Rw.boxP (o := [5, 7]) (E5.out.bx 0 rfl) (Nat.le_refl _) (by simp)) (hl.out.below E5.out.bel)).mono ?_
  rintro e w3 ⟨⟨za, zk, rfl, zh⟩, hb⟩
  have E6 : Hid (Env (fun _ : Nat => True) w [(w2.heap.size + 1, 3, [.int .i64 5, .int .i64 7]), (w2.heap.size, 3, [.int .i64 1, .int .i64 2]), (w1.heap.size, 3, [.int .i64 1, .int .i64 2]), (w.heap.size, 3, [.int .i64 3, .int .i64 2])] [.rw (.slice ya ([2, 10]).length yk) ([2, 10]).length 1 (ncl ([2, 10]))] w3) := Lib.hid (E5.out.below hb)
  clear E4 E5 hb
  have E7 : Hid (Env (fun _ : Nat => True) w [] [.rw (.slice za [3, 2].length zk) [3, 2].length 1 (ncl [3, 2]), .rw (.slice ya ([2, 10]).length yk) ([2, 10]).length 1 (ncl ([2, 10]))] _) := Lib.hid ((E6.out.drop.drop.drop.drop).note _ (Rw.turn zh.out (Nat.le_refl _) (fun b _ _ => ⟨by simp, .inl trivial⟩) (fun _ _ _ _ => rfl)))
  clear E6 zh
  have E8 : Hid (Env (fun _ : Nat => True) w [(w3.heap.size, 3, [.int .i64 2, .int .i64 10])] [.rw (.slice za [3, 2].length zk) [3, 2].length 1 (ncl [3, 2]), .rw (.slice ya ([2, 10]).length yk) ([2, 10]).length 1 (ncl ([2, 10]))] _) := Lib.hid ((E7.out.push 3 [.int .i64 2, .int .i64 10] (w3.heap.size) (by simp)))
  go_wp2_with fail
  refine (equalN_c (t := true) (a := [2, 10]) (b := [2, 10]) (Rw.tr (E8.out.fc 1 rfl)) (Rw.boxP (o := [2, 10]) (E8.out.bx 0 rfl) (Nat.le_refl _) (by simp)) (by simp) (by simp) (by decide)).mono ?_
  rintro e w4 ⟨rfl, hb⟩
  have E9 : Hid (Env (fun _ : Nat => True) w [(w3.heap.size, 3, [.int .i64 2, .int .i64 10])] [.rw (.slice za [3, 2].length zk) [3, 2].length 1 (ncl [3, 2]), .rw (.slice ya ([2, 10]).length yk) ([2, 10]).length 1 (ncl ([2, 10]))] w4) := Lib.hid (E8.out.below hb)
  clear E7 E8 hb
  have E10 : Hid (Env (fun _ : Nat => True) w [(w4.heap.size, 3, [.int .i64 3, .int .i64 2]), (w3.heap.size, 3, [.int .i64 2, .int .i64 10])] [.rw (.slice za [3, 2].length zk) [3, 2].length 1 (ncl [3, 2]), .rw (.slice ya ([2, 10]).length yk) ([2, 10]).length 1 (ncl ([2, 10]))] _) := Lib.hid ((E9.out.push 3 [.int .i64 3, .int .i64 2] (w4.heap.size) (by simp)))
  go_wp2_with fail
  refine (equalN_c (t := true) (a := [3, 2]) (b := [3, 2]) (Rw.tr (E10.out.fc 0 rfl)) (Rw.boxP (o := [3, 2]) (E10.out.bx 0 rfl) (Nat.le_refl _) (by simp)) (by simp) (by simp) (by decide)).mono ?_
  rintro e w5 ⟨rfl, hb⟩
  have E11 : Hid (Env (fun _ : Nat => True) w [(w4.heap.size, 3, [.int .i64 3, .int .i64 2]), (w3.heap.size, 3, [.int .i64 2, .int .i64 10])] [.rw (.slice za [3, 2].length zk) [3, 2].length 1 (ncl [3, 2]), .rw (.slice ya ([2, 10]).length yk) ([2, 10]).length 1 (ncl ([2, 10]))] w5) := Lib.hid (E10.out.below hb)
  clear E9 E10 hb
  have hfin := Lib.hid E11.out.bel
  go_wp2
  go_ret
  exact ⟨rfl, hfin.out⟩
end Go.Proofs.YtinlfogpbologaaDoor

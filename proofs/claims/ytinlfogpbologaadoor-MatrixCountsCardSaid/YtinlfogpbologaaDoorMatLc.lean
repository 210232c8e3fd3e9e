/- specielaw14: awake. -/
import Derived.Test.YtinlfogpbologaaDoorMatLb
import Derived.Test.YtinlfogpbologaaDoorMatT
import Derived.Test.YtinlfogpbologaaDoorMatQ
import Derived.Test.YtinlfogpbologaaDoorMatR
namespace Go.Proofs.YtinlfogpbologaaDoor
open Go.RowKit DivMath WordMath
set_option linter.unusedVariables false
set_option linter.unusedSimpArgs false
theorem Env.noteT {w W : World} {G : List Fct} (E : Env (fun _ : Nat => True) w [] G W) (f : Fct) {D : Nat → Prop} (h : f.at W D) : Env (fun _ : Nat => True) w [] (f :: G) W := E.note f (Fct.turn h (Nat.le_refl _) (fun b _ _ => ⟨by simp, .inl trivial⟩) (fun _ _ _ _ => rfl))
/-- headers and rows in boxes -/
theorem Mx.lit1 {W : World} {B B1 g g1 : Nat} {T T1 : TypeId} {r : List Nat} (hB : Box B g T [.slice (some ⟨g1, 0, none⟩) r.length r.length] W) (h1 : Box B1 g1 T1 (ncl r) W) (hl : r.length ≤ 1000) : Mx W (fun _ => True) (.slice (some ⟨g, 0, none⟩) 1 1) ([r].map nl) := by
  refine ⟨_, 1, rfl, Nat.le_refl _, by omega, fun _ => ⟨g, 0, rfl, ⟨hB.lt, trivial⟩, fun i l e => ?_⟩⟩
  have hi : i < 1 := by have := (List.getElem?_eq_some_iff.1 e).1; simpa using this
  obtain rfl : i = 0 := by omega
  obtain rfl : nl r = l := by simpa using e
  refine ⟨_, hB.cell 0 rfl, ?_⟩
  rw [nl_len]
  exact Rw.boxP h1 (Nat.le_refl _) (by omega)
theorem Mx.lit2 {W : World} {B B1 B2 g g1 g2 : Nat} {T T1 T2 : TypeId} {r s : List Nat} (hB : Box B g T [.slice (some ⟨g1, 0, none⟩) r.length r.length, .slice (some ⟨g2, 0, none⟩) s.length s.length] W) (h1 : Box B1 g1 T1 (ncl r) W) (h2 : Box B2 g2 T2 (ncl s) W) (hl : r.length ≤ 1000) (hs : s.length ≤ 1000) : Mx W (fun _ => True) (.slice (some ⟨g, 0, none⟩) 2 2) ([r, s].map nl) := by
  refine ⟨_, 2, rfl, Nat.le_refl _, by omega, fun _ => ⟨g, 0, rfl, ⟨hB.lt, trivial⟩, fun i l e => ?_⟩⟩
  have hi : i < 2 := by have := (List.getElem?_eq_some_iff.1 e).1; simpa using this
  rcases (by omega : i = 0 ∨ i = 1) with rfl | rfl
  · obtain rfl : nl r = l := by simpa using e
    refine ⟨_, hB.cell 0 rfl, ?_⟩
    rw [nl_len]
    exact Rw.boxP h1 (Nat.le_refl _) (by omega)
  · obtain rfl : nl s = l := by simpa using e
    refine ⟨_, hB.cell 1 rfl, ?_⟩
    rw [nl_len]
    exact Rw.boxP h2 (Nat.le_refl _) (by omega)
theorem field5 : fieldB 5 = true := by decide +kernel
theorem mvA : MvI 5 2 [[1, 2], [2, 4]] := ⟨by unfold ResM; decide, by omega, by unfold Top; omega, field5, by decide, by decide, by decide, by decide⟩
theorem mvC : MvI 5 2 [[1, 2], [3, 4]] := ⟨by unfold ResM; decide, by omega, by unfold Top; omega, field5, by decide, by decide, by decide, by decide⟩
theorem red1 : redN 5 (sysL [[1, 2], [2, 4]] [3, 1]) 2 = ([[1, 2, 3], [0, 0, 0]], [0]) := by decide +kernel
theorem red2 : redN 5 (sysL [[1, 2], [2, 4]] [3, 2]) 2 = ([[1, 2, 3], [0, 0, 1]], [0]) := by decide +kernel
theorem red3 : redN 5 (invL [[1, 2], [3, 4]]) 2 = ([[1, 0, 3, 1], [0, 1, 4, 2]], [0, 1]) := by decide +kernel
section
variable {D : Nat → Prop} {xa ya : Option Addr} {xk yk : Nat} {w : World}
theorem ex_solve (hx : Fct.at w D (.mx (.slice xa 2 xk) ([[1, 2], [2, 4]].map nl))) (hy : Fct.at w D (.rw (.slice ya 2 yk) 2 1 (ncl [3, 1]))) (hl : Laid w) :
    Calls Tryd.prog 32 #[.int .i64 5, .slice xa 2 xk, .slice ya 2 yk] w fun e w' => RetXK (fun b => D b ∨ w.heap.size ≤ b) [3, 0] [[3, 1]] 0 e w' ∧ Below w.heap.size w w' := by
  have h := Solve_f 5 2 [[1, 2], [2, 4]] _ [3, 1] _ hx hy hl mvA rfl (by decide) red1 (by decide)
  have e1 : partV 2 [0] [[1, 2, 3], [0, 0, 0]] [0].length = [3, 0] := by decide
  have e2 : kerL 5 2 [0] [[1, 2, 3], [0, 0, 0]] 2 = [[3, 1]] := by decide
  rw [e1, e2] at h
  exact h
theorem ex_none (hx : Fct.at w D (.mx (.slice xa 2 xk) ([[1, 2], [2, 4]].map nl))) (hy : Fct.at w D (.rw (.slice ya 2 yk) 2 1 (ncl [3, 2]))) (hl : Laid w) :
    Calls Tryd.prog 32 #[.int .i64 5, .slice xa 2 xk, .slice ya 2 yk] w fun e w' => e = .returned (.tuple #[.slice none 0 0, .slice none 0 0, .int .i64 7]) ∧ Below w.heap.size w w' :=
  Solve_t 5 2 [[1, 2], [2, 4]] _ [3, 2] _ hx hy hl mvA rfl (by decide) red2 (by decide)
theorem ex_count (hx : Fct.at w D (.mx (.slice xa 2 xk) ([[1, 2], [2, 4]].map nl))) (hy : Fct.at w D (.rw (.slice ya 2 yk) 2 1 (ncl [3, 1]))) (hl : Laid w) :
    Calls Tryd.prog 33 #[.int .i64 5, .slice xa 2 xk, .slice ya 2 yk] w fun e w' => e = .returned (.tuple #[.int .i64 5, .int .i64 0]) ∧ Below w.heap.size w w' := by
  have h := Count_f 5 2 [[1, 2], [2, 4]] _ [3, 1] _ hx hy hl mvA rfl (by decide) red1 (by decide)
  have e1 : cntL 5 (2 - [0].length) = some 5 := by decide
  rw [e1] at h
  exact h
theorem ex_inv (hx : Fct.at w D (.mx (.slice xa 2 xk) ([[1, 2], [3, 4]].map nl))) (hl : Laid w) :
    Calls Tryd.prog 39 #[.int .i64 5, .slice xa 2 xk] w fun e w' => RetMfE (fun b => D b ∨ w.heap.size ≤ b) [[3, 1], [4, 2]] 0 e w' ∧ Below w.heap.size w w' :=
  Inverse_f 5 [[1, 2], [3, 4]] _ _ hx hl mvC red3 (by decide)
end
set_option maxRecDepth 100000 in
set_option maxHeartbeats 4000000 in
theorem awake14_c  {w : World}  (hl0 : Laid w) :
    Calls Tryd.prog 30 #[] w fun e w' => e = .returned (.bool true) ∧ Below w.heap.size w w' := by
  have E0 : Hid (Env (fun _ : Nat => True) w [] [] w) := Lib.hid (Env.start (fun _ : Nat => True) w)
  go_enter Tryd.func30, Tryd.ntmps30
  have hl := Lib.hid hl0
  clear hl0
  have E1 : Hid (Env (fun _ : Nat => True) w [(w.heap.size + 1 + 1, 22, [.slice (some ⟨w.heap.size, 0, none⟩) 2 2, .slice (some ⟨w.heap.size + 1, 0, none⟩) 2 2]), (w.heap.size + 1, 3, [.int .i64 2, .int .i64 4]), (w.heap.size, 3, [.int .i64 1, .int .i64 2])] [] _) := Lib.hid ((((E0.out.push 3 [.int .i64 1, .int .i64 2] (w.heap.size) (by simp)).push 3 [.int .i64 2, .int .i64 4] (w.heap.size + 1) (by simp)).push 22 [.slice (some ⟨w.heap.size, 0, none⟩) 2 2, .slice (some ⟨w.heap.size + 1, 0, none⟩) 2 2] (w.heap.size + 1 + 1) (by simp)))
  have E2 : Hid (Env (fun _ : Nat => True) w [] [.mx (.slice (some ⟨w.heap.size + 1 + 1, 0, none⟩) 2 2) ([[1, 2], [2, 4]].map nl)] _) := Lib.hid (Env.noteT E1.out.drop.drop.drop (.mx (.slice (some ⟨w.heap.size + 1 + 1, 0, none⟩) 2 2) ([[1, 2], [2, 4]].map nl)) (Mx.lit2 (r := [1, 2]) (s := [2, 4]) (E1.out.bx 0 rfl) (E1.out.bx 2 rfl) (E1.out.bx 1 rfl) (by decide) (by decide)))
  have E3 : Hid (Env (fun _ : Nat => True) w [(w.heap.size + 1 + 1 + 1, 3, [.int .i64 3, .int .i64 1])] [.mx (.slice (some ⟨w.heap.size + 1 + 1, 0, none⟩) 2 2) ([[1, 2], [2, 4]].map nl)] _) := Lib.hid ((E2.out.push 3 [.int .i64 3, .int .i64 1] (w.heap.size + 1 + 1 + 1) (by simp)))
  have E4 : Hid (Env (fun _ : Nat => True) w [] [.rw (.slice (some ⟨w.heap.size + 1 + 1 + 1, 0, none⟩) 2 2) 2 1 (ncl [3, 1]), .mx (.slice (some ⟨w.heap.size + 1 + 1, 0, none⟩) 2 2) ([[1, 2], [2, 4]].map nl)] _) := Lib.hid (Env.noteT E3.out.drop (.rw (.slice (some ⟨w.heap.size + 1 + 1 + 1, 0, none⟩) 2 2) 2 1 (ncl [3, 1])) (Rw.boxP (o := [3, 1]) (E3.out.bx 0 rfl) (Nat.le_refl _) (by decide)))
  go_wp2_with fail
  refine (ex_solve (E4.out.fc 1 rfl) (E4.out.fc 0 rfl) (hl.out.below E4.out.bel)).mono ?_
  rintro e w1 ⟨⟨va, vk, ua, uk, rfl, vh, uh⟩, hb⟩
  have E5 : Hid (Env (fun _ : Nat => True) w [] [.mx (.slice ua ([ [3, 1] ] : List (List Nat)).length uk) ([ [3, 1] ].map nl), .rw (.slice va ([3, 0] : List Nat).length vk) ([3, 0] : List Nat).length 1 (ncl [3, 0]), .rw (.slice (some ⟨w.heap.size + 1 + 1 + 1, 0, none⟩) 2 2) 2 1 (ncl [3, 1]), .mx (.slice (some ⟨w.heap.size + 1 + 1, 0, none⟩) 2 2) ([[1, 2], [2, 4]].map nl)] w1) := Lib.hid (E4.out.got (E4.out.got (E4.out.below hb) (.rw (.slice va ([3, 0] : List Nat).length vk) ([3, 0] : List Nat).length 1 (ncl [3, 0])) vh.out) (.mx (.slice ua ([ [3, 1] ] : List (List Nat)).length uk) ([ [3, 1] ].map nl)) uh.out)
  clear E0 E1 E2 E3 E4 hb vh uh
  have E6 : Hid (Env (fun _ : Nat => True) w [(w1.heap.size, 3, [.int .i64 3, .int .i64 2])] [.mx (.slice ua ([ [3, 1] ] : List (List Nat)).length uk) ([ [3, 1] ].map nl), .rw (.slice va ([3, 0] : List Nat).length vk) ([3, 0] : List Nat).length 1 (ncl [3, 0]), .rw (.slice (some ⟨w.heap.size + 1 + 1 + 1, 0, none⟩) 2 2) 2 1 (ncl [3, 1]), .mx (.slice (some ⟨w.heap.size + 1 + 1, 0, none⟩) 2 2) ([[1, 2], [2, 4]].map nl)] _) := Lib.hid ((E5.out.push 3 [.int .i64 3, .int .i64 2] (w1.heap.size) (by simp)))
  have E7 : Hid (Env (fun _ : Nat => True) w [] [.rw (.slice (some ⟨w1.heap.size, 0, none⟩) 2 2) 2 1 (ncl [3, 2]), .mx (.slice ua ([ [3, 1] ] : List (List Nat)).length uk) ([ [3, 1] ].map nl), .rw (.slice va ([3, 0] : List Nat).length vk) ([3, 0] : List Nat).length 1 (ncl [3, 0]), .rw (.slice (some ⟨w.heap.size + 1 + 1 + 1, 0, none⟩) 2 2) 2 1 (ncl [3, 1]), .mx (.slice (some ⟨w.heap.size + 1 + 1, 0, none⟩) 2 2) ([[1, 2], [2, 4]].map nl)] _) := Lib.hid (Env.noteT E6.out.drop (.rw (.slice (some ⟨w1.heap.size, 0, none⟩) 2 2) 2 1 (ncl [3, 2])) (Rw.boxP (o := [3, 2]) (E6.out.bx 0 rfl) (Nat.le_refl _) (by decide)))
  go_wp2_with fail
  refine (ex_none (E7.out.fc 4 rfl) (E7.out.fc 0 rfl) (hl.out.below E7.out.bel)).mono ?_
  rintro e w2 ⟨rfl, hb⟩
  have E8 : Hid (Env (fun _ : Nat => True) w [] [.rw (.slice (some ⟨w1.heap.size, 0, none⟩) 2 2) 2 1 (ncl [3, 2]), .mx (.slice ua ([ [3, 1] ] : List (List Nat)).length uk) ([ [3, 1] ].map nl), .rw (.slice va ([3, 0] : List Nat).length vk) ([3, 0] : List Nat).length 1 (ncl [3, 0]), .rw (.slice (some ⟨w.heap.size + 1 + 1 + 1, 0, none⟩) 2 2) 2 1 (ncl [3, 1]), .mx (.slice (some ⟨w.heap.size + 1 + 1, 0, none⟩) 2 2) ([[1, 2], [2, 4]].map nl)] w2) := Lib.hid (E7.out.below hb)
  clear E5 E6 E7 hb
  have E9 : Hid (Env (fun _ : Nat => True) w [(w2.heap.size, 3, [.int .i64 3, .int .i64 1])] [.rw (.slice (some ⟨w1.heap.size, 0, none⟩) 2 2) 2 1 (ncl [3, 2]), .mx (.slice ua ([ [3, 1] ] : List (List Nat)).length uk) ([ [3, 1] ].map nl), .rw (.slice va ([3, 0] : List Nat).length vk) ([3, 0] : List Nat).length 1 (ncl [3, 0]), .rw (.slice (some ⟨w.heap.size + 1 + 1 + 1, 0, none⟩) 2 2) 2 1 (ncl [3, 1]), .mx (.slice (some ⟨w.heap.size + 1 + 1, 0, none⟩) 2 2) ([[1, 2], [2, 4]].map nl)] _) := Lib.hid ((E8.out.push 3 [.int .i64 3, .int .i64 1] (w2.heap.size) (by simp)))
  have E10 : Hid (Env (fun _ : Nat => True) w [] [.rw (.slice (some ⟨w2.heap.size, 0, none⟩) 2 2) 2 1 (ncl [3, 1]), .rw (.slice (some ⟨w1.heap.size, 0, none⟩) 2 2) 2 1 (ncl [3, 2]), .mx (.slice ua ([ [3, 1] ] : List (List Nat)).length uk) ([ [3, 1] ].map nl), .rw (.slice va ([3, 0] : List Nat).length vk) ([3, 0] : List Nat).length 1 (ncl [3, 0]), .rw (.slice (some ⟨w.heap.size + 1 + 1 + 1, 0, none⟩) 2 2) 2 1 (ncl [3, 1]), .mx (.slice (some ⟨w.heap.size + 1 + 1, 0, none⟩) 2 2) ([[1, 2], [2, 4]].map nl)] _) := Lib.hid (Env.noteT E9.out.drop (.rw (.slice (some ⟨w2.heap.size, 0, none⟩) 2 2) 2 1 (ncl [3, 1])) (Rw.boxP (o := [3, 1]) (E9.out.bx 0 rfl) (Nat.le_refl _) (by decide)))
  go_wp2_with fail
  refine (ex_count (E10.out.fc 5 rfl) (E10.out.fc 0 rfl) (hl.out.below E10.out.bel)).mono ?_
  rintro e w3 ⟨rfl, hb⟩
  have E11 : Hid (Env (fun _ : Nat => True) w [] [.rw (.slice (some ⟨w2.heap.size, 0, none⟩) 2 2) 2 1 (ncl [3, 1]), .rw (.slice (some ⟨w1.heap.size, 0, none⟩) 2 2) 2 1 (ncl [3, 2]), .mx (.slice ua ([ [3, 1] ] : List (List Nat)).length uk) ([ [3, 1] ].map nl), .rw (.slice va ([3, 0] : List Nat).length vk) ([3, 0] : List Nat).length 1 (ncl [3, 0]), .rw (.slice (some ⟨w.heap.size + 1 + 1 + 1, 0, none⟩) 2 2) 2 1 (ncl [3, 1]), .mx (.slice (some ⟨w.heap.size + 1 + 1, 0, none⟩) 2 2) ([[1, 2], [2, 4]].map nl)] w3) := Lib.hid (E10.out.below hb)
  clear E8 E9 E10 hb
  have E12 : Hid (Env (fun _ : Nat => True) w [(w3.heap.size + 1 + 1, 22, [.slice (some ⟨w3.heap.size, 0, none⟩) 2 2, .slice (some ⟨w3.heap.size + 1, 0, none⟩) 2 2]), (w3.heap.size + 1, 3, [.int .i64 3, .int .i64 4]), (w3.heap.size, 3, [.int .i64 1, .int .i64 2])] [.rw (.slice (some ⟨w2.heap.size, 0, none⟩) 2 2) 2 1 (ncl [3, 1]), .rw (.slice (some ⟨w1.heap.size, 0, none⟩) 2 2) 2 1 (ncl [3, 2]), .mx (.slice ua ([ [3, 1] ] : List (List Nat)).length uk) ([ [3, 1] ].map nl), .rw (.slice va ([3, 0] : List Nat).length vk) ([3, 0] : List Nat).length 1 (ncl [3, 0]), .rw (.slice (some ⟨w.heap.size + 1 + 1 + 1, 0, none⟩) 2 2) 2 1 (ncl [3, 1]), .mx (.slice (some ⟨w.heap.size + 1 + 1, 0, none⟩) 2 2) ([[1, 2], [2, 4]].map nl)] _) := Lib.hid ((((E11.out.push 3 [.int .i64 1, .int .i64 2] (w3.heap.size) (by simp)).push 3 [.int .i64 3, .int .i64 4] (w3.heap.size + 1) (by simp)).push 22 [.slice (some ⟨w3.heap.size, 0, none⟩) 2 2, .slice (some ⟨w3.heap.size + 1, 0, none⟩) 2 2] (w3.heap.size + 1 + 1) (by simp)))
  have E13 : Hid (Env (fun _ : Nat => True) w [] [.mx (.slice (some ⟨w3.heap.size + 1 + 1, 0, none⟩) 2 2) ([[1, 2], [3, 4]].map nl), .rw (.slice (some ⟨w2.heap.size, 0, none⟩) 2 2) 2 1 (ncl [3, 1]), .rw (.slice (some ⟨w1.heap.size, 0, none⟩) 2 2) 2 1 (ncl [3, 2]), .mx (.slice ua ([ [3, 1] ] : List (List Nat)).length uk) ([ [3, 1] ].map nl), .rw (.slice va ([3, 0] : List Nat).length vk) ([3, 0] : List Nat).length 1 (ncl [3, 0]), .rw (.slice (some ⟨w.heap.size + 1 + 1 + 1, 0, none⟩) 2 2) 2 1 (ncl [3, 1]), .mx (.slice (some ⟨w.heap.size + 1 + 1, 0, none⟩) 2 2) ([[1, 2], [2, 4]].map nl)] _) := Lib.hid (Env.noteT E12.out.drop.drop.drop (.mx (.slice (some ⟨w3.heap.size + 1 + 1, 0, none⟩) 2 2) ([[1, 2], [3, 4]].map nl)) (Mx.lit2 (r := [1, 2]) (s := [3, 4]) (E12.out.bx 0 rfl) (E12.out.bx 2 rfl) (E12.out.bx 1 rfl) (by decide) (by decide)))
  go_wp2_with fail
  refine (ex_inv (E13.out.fc 0 rfl) (hl.out.below E13.out.bel)).mono ?_
  rintro e w4 ⟨⟨ia, ik, rfl, ih⟩, hb⟩
  have E14 : Hid (Env (fun _ : Nat => True) w [] [.mx (.slice ia ([ [3, 1], [4, 2] ] : List (List Nat)).length ik) ([ [3, 1], [4, 2] ].map nl), .mx (.slice (some ⟨w3.heap.size + 1 + 1, 0, none⟩) 2 2) ([[1, 2], [3, 4]].map nl), .rw (.slice (some ⟨w2.heap.size, 0, none⟩) 2 2) 2 1 (ncl [3, 1]), .rw (.slice (some ⟨w1.heap.size, 0, none⟩) 2 2) 2 1 (ncl [3, 2]), .mx (.slice ua ([ [3, 1] ] : List (List Nat)).length uk) ([ [3, 1] ].map nl), .rw (.slice va ([3, 0] : List Nat).length vk) ([3, 0] : List Nat).length 1 (ncl [3, 0]), .rw (.slice (some ⟨w.heap.size + 1 + 1 + 1, 0, none⟩) 2 2) 2 1 (ncl [3, 1]), .mx (.slice (some ⟨w.heap.size + 1 + 1, 0, none⟩) 2 2) ([[1, 2], [2, 4]].map nl)] w4) := Lib.hid (E13.out.got (E13.out.below hb) (.mx (.slice ia ([ [3, 1], [4, 2] ] : List (List Nat)).length ik) ([ [3, 1], [4, 2] ].map nl)) ih.out)
  clear E11 E12 E13 hb ih
  have E15 : Hid (Env (fun _ : Nat => True) w [(w4.heap.size, 3, [.int .i64 3, .int .i64 0])] [.mx (.slice ia ([ [3, 1], [4, 2] ] : List (List Nat)).length ik) ([ [3, 1], [4, 2] ].map nl), .mx (.slice (some ⟨w3.heap.size + 1 + 1, 0, none⟩) 2 2) ([[1, 2], [3, 4]].map nl), .rw (.slice (some ⟨w2.heap.size, 0, none⟩) 2 2) 2 1 (ncl [3, 1]), .rw (.slice (some ⟨w1.heap.size, 0, none⟩) 2 2) 2 1 (ncl [3, 2]), .mx (.slice ua ([ [3, 1] ] : List (List Nat)).length uk) ([ [3, 1] ].map nl), .rw (.slice va ([3, 0] : List Nat).length vk) ([3, 0] : List Nat).length 1 (ncl [3, 0]), .rw (.slice (some ⟨w.heap.size + 1 + 1 + 1, 0, none⟩) 2 2) 2 1 (ncl [3, 1]), .mx (.slice (some ⟨w.heap.size + 1 + 1, 0, none⟩) 2 2) ([[1, 2], [2, 4]].map nl)] _) := Lib.hid ((E14.out.push 3 [.int .i64 3, .int .i64 0] (w4.heap.size) (by simp)))
  have E16 : Hid (Env (fun _ : Nat => True) w [] [.rw (.slice (some ⟨w4.heap.size, 0, none⟩) 2 2) 2 1 (ncl [3, 0]), .mx (.slice ia ([ [3, 1], [4, 2] ] : List (List Nat)).length ik) ([ [3, 1], [4, 2] ].map nl), .mx (.slice (some ⟨w3.heap.size + 1 + 1, 0, none⟩) 2 2) ([[1, 2], [3, 4]].map nl), .rw (.slice (some ⟨w2.heap.size, 0, none⟩) 2 2) 2 1 (ncl [3, 1]), .rw (.slice (some ⟨w1.heap.size, 0, none⟩) 2 2) 2 1 (ncl [3, 2]), .mx (.slice ua ([ [3, 1] ] : List (List Nat)).length uk) ([ [3, 1] ].map nl), .rw (.slice va ([3, 0] : List Nat).length vk) ([3, 0] : List Nat).length 1 (ncl [3, 0]), .rw (.slice (some ⟨w.heap.size + 1 + 1 + 1, 0, none⟩) 2 2) 2 1 (ncl [3, 1]), .mx (.slice (some ⟨w.heap.size + 1 + 1, 0, none⟩) 2 2) ([[1, 2], [2, 4]].map nl)] _) := Lib.hid (Env.noteT E15.out.drop (.rw (.slice (some ⟨w4.heap.size, 0, none⟩) 2 2) 2 1 (ncl [3, 0])) (Rw.boxP (o := [3, 0]) (E15.out.bx 0 rfl) (Nat.le_refl _) (by decide)))
  go_wp2_with fail
  refine (equalN_c (t := true) (a := [3, 0]) (b := [3, 0]) (E16.out.fc 6 rfl) (E16.out.fc 0 rfl) (by decide) (by decide) (by decide)).mono ?_
  rintro e w5 ⟨rfl, hb⟩
  have E17 : Hid (Env (fun _ : Nat => True) w [] [.rw (.slice (some ⟨w4.heap.size, 0, none⟩) 2 2) 2 1 (ncl [3, 0]), .mx (.slice ia ([ [3, 1], [4, 2] ] : List (List Nat)).length ik) ([ [3, 1], [4, 2] ].map nl), .mx (.slice (some ⟨w3.heap.size + 1 + 1, 0, none⟩) 2 2) ([[1, 2], [3, 4]].map nl), .rw (.slice (some ⟨w2.heap.size, 0, none⟩) 2 2) 2 1 (ncl [3, 1]), .rw (.slice (some ⟨w1.heap.size, 0, none⟩) 2 2) 2 1 (ncl [3, 2]), .mx (.slice ua ([ [3, 1] ] : List (List Nat)).length uk) ([ [3, 1] ].map nl), .rw (.slice va ([3, 0] : List Nat).length vk) ([3, 0] : List Nat).length 1 (ncl [3, 0]), .rw (.slice (some ⟨w.heap.size + 1 + 1 + 1, 0, none⟩) 2 2) 2 1 (ncl [3, 1]), .mx (.slice (some ⟨w.heap.size + 1 + 1, 0, none⟩) 2 2) ([[1, 2], [2, 4]].map nl)] w5) := Lib.hid (E16.out.below hb)
  clear E14 E15 E16 hb
  have E18 : Hid (Env (fun _ : Nat => True) w [(w5.heap.size + 1, 22, [.slice (some ⟨w5.heap.size, 0, none⟩) 2 2]), (w5.heap.size, 3, [.int .i64 3, .int .i64 1])] [.rw (.slice (some ⟨w4.heap.size, 0, none⟩) 2 2) 2 1 (ncl [3, 0]), .mx (.slice ia ([ [3, 1], [4, 2] ] : List (List Nat)).length ik) ([ [3, 1], [4, 2] ].map nl), .mx (.slice (some ⟨w3.heap.size + 1 + 1, 0, none⟩) 2 2) ([[1, 2], [3, 4]].map nl), .rw (.slice (some ⟨w2.heap.size, 0, none⟩) 2 2) 2 1 (ncl [3, 1]), .rw (.slice (some ⟨w1.heap.size, 0, none⟩) 2 2) 2 1 (ncl [3, 2]), .mx (.slice ua ([ [3, 1] ] : List (List Nat)).length uk) ([ [3, 1] ].map nl), .rw (.slice va ([3, 0] : List Nat).length vk) ([3, 0] : List Nat).length 1 (ncl [3, 0]), .rw (.slice (some ⟨w.heap.size + 1 + 1 + 1, 0, none⟩) 2 2) 2 1 (ncl [3, 1]), .mx (.slice (some ⟨w.heap.size + 1 + 1, 0, none⟩) 2 2) ([[1, 2], [2, 4]].map nl)] _) := Lib.hid (((E17.out.push 3 [.int .i64 3, .int .i64 1] (w5.heap.size) (by simp)).push 22 [.slice (some ⟨w5.heap.size, 0, none⟩) 2 2] (w5.heap.size + 1) (by simp)))
  have E19 : Hid (Env (fun _ : Nat => True) w [] [.mx (.slice (some ⟨w5.heap.size + 1, 0, none⟩) 1 1) ([ [3, 1] ].map nl), .rw (.slice (some ⟨w4.heap.size, 0, none⟩) 2 2) 2 1 (ncl [3, 0]), .mx (.slice ia ([ [3, 1], [4, 2] ] : List (List Nat)).length ik) ([ [3, 1], [4, 2] ].map nl), .mx (.slice (some ⟨w3.heap.size + 1 + 1, 0, none⟩) 2 2) ([[1, 2], [3, 4]].map nl), .rw (.slice (some ⟨w2.heap.size, 0, none⟩) 2 2) 2 1 (ncl [3, 1]), .rw (.slice (some ⟨w1.heap.size, 0, none⟩) 2 2) 2 1 (ncl [3, 2]), .mx (.slice ua ([ [3, 1] ] : List (List Nat)).length uk) ([ [3, 1] ].map nl), .rw (.slice va ([3, 0] : List Nat).length vk) ([3, 0] : List Nat).length 1 (ncl [3, 0]), .rw (.slice (some ⟨w.heap.size + 1 + 1 + 1, 0, none⟩) 2 2) 2 1 (ncl [3, 1]), .mx (.slice (some ⟨w.heap.size + 1 + 1, 0, none⟩) 2 2) ([[1, 2], [2, 4]].map nl)] _) := Lib.hid (Env.noteT E18.out.drop.drop (.mx (.slice (some ⟨w5.heap.size + 1, 0, none⟩) 1 1) ([ [3, 1] ].map nl)) (Mx.lit1 (r := [3, 1]) (E18.out.bx 0 rfl) (E18.out.bx 1 rfl) (by decide)))
  go_wp2_with fail
  refine (rSame_c (t := true) ([ [3, 1] ].map nl) ([ [3, 1] ].map nl) (E19.out.fc 6 rfl) (E19.out.fc 0 rfl) (by decide) (by decide) (by decide)).mono ?_
  rintro e w6 ⟨rfl, hb⟩
  have E20 : Hid (Env (fun _ : Nat => True) w [] [.mx (.slice (some ⟨w5.heap.size + 1, 0, none⟩) 1 1) ([ [3, 1] ].map nl), .rw (.slice (some ⟨w4.heap.size, 0, none⟩) 2 2) 2 1 (ncl [3, 0]), .mx (.slice ia ([ [3, 1], [4, 2] ] : List (List Nat)).length ik) ([ [3, 1], [4, 2] ].map nl), .mx (.slice (some ⟨w3.heap.size + 1 + 1, 0, none⟩) 2 2) ([[1, 2], [3, 4]].map nl), .rw (.slice (some ⟨w2.heap.size, 0, none⟩) 2 2) 2 1 (ncl [3, 1]), .rw (.slice (some ⟨w1.heap.size, 0, none⟩) 2 2) 2 1 (ncl [3, 2]), .mx (.slice ua ([ [3, 1] ] : List (List Nat)).length uk) ([ [3, 1] ].map nl), .rw (.slice va ([3, 0] : List Nat).length vk) ([3, 0] : List Nat).length 1 (ncl [3, 0]), .rw (.slice (some ⟨w.heap.size + 1 + 1 + 1, 0, none⟩) 2 2) 2 1 (ncl [3, 1]), .mx (.slice (some ⟨w.heap.size + 1 + 1, 0, none⟩) 2 2) ([[1, 2], [2, 4]].map nl)] w6) := Lib.hid (E19.out.below hb)
  clear E17 E18 E19 hb
  have E21 : Hid (Env (fun _ : Nat => True) w [(w6.heap.size + 1 + 1, 22, [.slice (some ⟨w6.heap.size, 0, none⟩) 2 2, .slice (some ⟨w6.heap.size + 1, 0, none⟩) 2 2]), (w6.heap.size + 1, 3, [.int .i64 4, .int .i64 2]), (w6.heap.size, 3, [.int .i64 3, .int .i64 1])] [.mx (.slice (some ⟨w5.heap.size + 1, 0, none⟩) 1 1) ([ [3, 1] ].map nl), .rw (.slice (some ⟨w4.heap.size, 0, none⟩) 2 2) 2 1 (ncl [3, 0]), .mx (.slice ia ([ [3, 1], [4, 2] ] : List (List Nat)).length ik) ([ [3, 1], [4, 2] ].map nl), .mx (.slice (some ⟨w3.heap.size + 1 + 1, 0, none⟩) 2 2) ([[1, 2], [3, 4]].map nl), .rw (.slice (some ⟨w2.heap.size, 0, none⟩) 2 2) 2 1 (ncl [3, 1]), .rw (.slice (some ⟨w1.heap.size, 0, none⟩) 2 2) 2 1 (ncl [3, 2]), .mx (.slice ua ([ [3, 1] ] : List (List Nat)).length uk) ([ [3, 1] ].map nl), .rw (.slice va ([3, 0] : List Nat).length vk) ([3, 0] : List Nat).length 1 (ncl [3, 0]), .rw (.slice (some ⟨w.heap.size + 1 + 1 + 1, 0, none⟩) 2 2) 2 1 (ncl [3, 1]), .mx (.slice (some ⟨w.heap.size + 1 + 1, 0, none⟩) 2 2) ([[1, 2], [2, 4]].map nl)] _) := Lib.hid ((((E20.out.push 3 [.int .i64 3, .int .i64 1] (w6.heap.size) (by simp)).push 3 [.int .i64 4, .int .i64 2] (w6.heap.size + 1) (by simp)).push 22 [.slice (some ⟨w6.heap.size, 0, none⟩) 2 2, .slice (some ⟨w6.heap.size + 1, 0, none⟩) 2 2] (w6.heap.size + 1 + 1) (by simp)))
  have E22 : Hid (Env (fun _ : Nat => True) w [] [.mx (.slice (some ⟨w6.heap.size + 1 + 1, 0, none⟩) 2 2) ([[3, 1], [4, 2]].map nl), .mx (.slice (some ⟨w5.heap.size + 1, 0, none⟩) 1 1) ([ [3, 1] ].map nl), .rw (.slice (some ⟨w4.heap.size, 0, none⟩) 2 2) 2 1 (ncl [3, 0]), .mx (.slice ia ([ [3, 1], [4, 2] ] : List (List Nat)).length ik) ([ [3, 1], [4, 2] ].map nl), .mx (.slice (some ⟨w3.heap.size + 1 + 1, 0, none⟩) 2 2) ([[1, 2], [3, 4]].map nl), .rw (.slice (some ⟨w2.heap.size, 0, none⟩) 2 2) 2 1 (ncl [3, 1]), .rw (.slice (some ⟨w1.heap.size, 0, none⟩) 2 2) 2 1 (ncl [3, 2]), .mx (.slice ua ([ [3, 1] ] : List (List Nat)).length uk) ([ [3, 1] ].map nl), .rw (.slice va ([3, 0] : List Nat).length vk) ([3, 0] : List Nat).length 1 (ncl [3, 0]), .rw (.slice (some ⟨w.heap.size + 1 + 1 + 1, 0, none⟩) 2 2) 2 1 (ncl [3, 1]), .mx (.slice (some ⟨w.heap.size + 1 + 1, 0, none⟩) 2 2) ([[1, 2], [2, 4]].map nl)] _) := Lib.hid (Env.noteT E21.out.drop.drop.drop (.mx (.slice (some ⟨w6.heap.size + 1 + 1, 0, none⟩) 2 2) ([[3, 1], [4, 2]].map nl)) (Mx.lit2 (r := [3, 1]) (s := [4, 2]) (E21.out.bx 0 rfl) (E21.out.bx 2 rfl) (E21.out.bx 1 rfl) (by decide) (by decide)))
  go_wp2_with fail
  refine (rSame_c (t := true) ([ [3, 1], [4, 2] ].map nl) ([ [3, 1], [4, 2] ].map nl) (E22.out.fc 3 rfl) (E22.out.fc 0 rfl) (by decide) (by decide) (by decide)).mono ?_
  rintro e w7 ⟨rfl, hb⟩
  have E23 : Hid (Env (fun _ : Nat => True) w [] [.mx (.slice (some ⟨w6.heap.size + 1 + 1, 0, none⟩) 2 2) ([[3, 1], [4, 2]].map nl), .mx (.slice (some ⟨w5.heap.size + 1, 0, none⟩) 1 1) ([ [3, 1] ].map nl), .rw (.slice (some ⟨w4.heap.size, 0, none⟩) 2 2) 2 1 (ncl [3, 0]), .mx (.slice ia ([ [3, 1], [4, 2] ] : List (List Nat)).length ik) ([ [3, 1], [4, 2] ].map nl), .mx (.slice (some ⟨w3.heap.size + 1 + 1, 0, none⟩) 2 2) ([[1, 2], [3, 4]].map nl), .rw (.slice (some ⟨w2.heap.size, 0, none⟩) 2 2) 2 1 (ncl [3, 1]), .rw (.slice (some ⟨w1.heap.size, 0, none⟩) 2 2) 2 1 (ncl [3, 2]), .mx (.slice ua ([ [3, 1] ] : List (List Nat)).length uk) ([ [3, 1] ].map nl), .rw (.slice va ([3, 0] : List Nat).length vk) ([3, 0] : List Nat).length 1 (ncl [3, 0]), .rw (.slice (some ⟨w.heap.size + 1 + 1 + 1, 0, none⟩) 2 2) 2 1 (ncl [3, 1]), .mx (.slice (some ⟨w.heap.size + 1 + 1, 0, none⟩) 2 2) ([[1, 2], [2, 4]].map nl)] w7) := Lib.hid (E22.out.below hb)
  clear E20 E21 E22 hb
  have hfin := Lib.hid E23.out.bel
  go_wp2
  go_ret
  exact ⟨rfl, hfin.out⟩
end Go.Proofs.YtinlfogpbologaaDoor

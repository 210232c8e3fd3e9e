/- prime.nat, one, the closure of right. -/
import Derived.Test.YtinlfogpbologaaDoorPriN
namespace Go.Proofs.YtinlfogpbologaaDoor
open Go.RowKit DivMath WordMath
set_option linter.unusedVariables false
set_option linter.unusedSimpArgs false
set_option maxRecDepth 100000 in
set_option maxHeartbeats 1000000 in
theorem nat1 (N : Nat) {w : World}  (hN0 : One N) :
    Calls Tryd.prog 125 #[.int .i64 (N : Nat)] w fun e w' => RetA1 (fun b => w.heap.size ≤ b) N e w' ∧ Below w.heap.size w w' := by
  have E0 : Hid (Env (fun _ => False) w [] [] w) := Lib.hid (Env.start (fun _ => False) w)
  go_enter Tryd.func125, Tryd.ntmps125
  have hN := Lib.hid hN0
  clear hN0
  go_wp2_with fail
  have E1 : Hid (Env (fun _ => False) w [(w.heap.size, 96, [.slice none 0 0])] [] _) := Lib.hid ((E0.out.push 96 [.slice none 0 0] (w.heap.size) (by simp)))
  refine (of1 hN.out).mono ?_
  rintro e w1 ⟨⟨ya, yk, rfl, yh⟩, hb⟩
  have E2 : Hid (Env (fun _ => False) w [(w.heap.size, 96, [.slice none 0 0])] [.rw (.slice ya 1 yk) 1 1 (wd N)] w1) := Lib.hid (E1.out.got (E1.out.below hb) (.rw (.slice ya 1 yk) 1 1 (wd N)) (Lib.hid (Rw.ge yh.out)).out)
  clear E0 E1 hb
  have E3 : Hid (Env (fun _ => False) w [(w1.heap.size, 96, [.slice ya 1 yk]), (w.heap.size, 96, [.slice none 0 0])] [.rw (.slice ya 1 yk) 1 1 (wd N)] _) := Lib.hid ((E2.out.push 96 [.slice ya 1 yk] (w1.heap.size) (by simp)))
  have b1 := E3.out.bx 1 rfl
  have c1_0 := b1.cell 0 rfl
  have f1_0 := b1.frozen 0
  clear b1
  go_wp2
  have E4 : Hid (Env (fun _ => False) w [(w1.heap.size, 96, [.slice ya 1 yk]), (w.heap.size, 96, [.slice ya 1 yk])] [.rw (.slice ya 1 yk) 1 1 (wd N)] _) := Lib.hid ((E3.out.set 1 0 (.slice ya 1 yk) rfl))
  have hfin := E4.out
  have q2 := (hfin.bx 1 rfl).cell 0 rfl
  exact bodyPost_ret (v := .agg #[.slice ya 1 yk]) (by simp [results, Tryd.results125, go_sem, q2]) rfl ⟨⟨ya, yk, rfl, Lib.hid (Rw.from2 (hfin.out 0 rfl))⟩, hfin.bel⟩
set_option maxRecDepth 100000 in
set_option maxHeartbeats 1000000 in
theorem one1 (N R X : Nat) {xa ya za ua : Option Addr} {xk yk zn zk uk : Nat} {w : World} (hx : Fct.at w (fun _ => True) (.rw (.slice xa 1 xk) 1 1 (wd N))) (hy : Fct.at w (fun _ => True) (.rw (.slice ya 1 yk) 1 1 (wd R))) (hu : Fct.at w (fun _ => True) (.rw (.slice ua 1 uk) 1 1 (wd X))) (S : Nat) (hS0 : R ^ X % N = S) (h00 : One S) (hN0 : One N) (hR0 : One R) (hX0 : One X) (hlt : R < N) {t : Bool} (ht0 : decide (S = 1) = t) :
    Calls Tryd.prog 149 #[.agg #[.slice xa 1 xk, .slice ya 1 yk, .slice za zn zk], .agg #[.slice ua 1 uk]] w fun e w' => e = .returned (.bool t) ∧ Below w.heap.size w w' := by
  have E0 : Hid (Env (fun _ => True) w [] [.rw (.slice ua 1 uk) 1 1 (wd X), .rw (.slice ya 1 yk) 1 1 (wd R), .rw (.slice xa 1 xk) 1 1 (wd N)] w) := Lib.hid ((((Env.start (fun _ => True) w).arg (.rw (.slice xa 1 xk) 1 1 (wd N)) hx).arg (.rw (.slice ya 1 yk) 1 1 (wd R)) hy).arg (.rw (.slice ua 1 uk) 1 1 (wd X)) hu)
  clear hx hy hu
  go_enter Tryd.func149, Tryd.ntmps149
  have hS := Lib.hid hS0
  have h0 := Lib.hid h00
  have hN := Lib.hid hN0
  have hR := Lib.hid hR0
  have hX := Lib.hid hX0
  have ht := Lib.hid ht0
  clear hS0 h00 hN0 hR0 hX0 ht0
  obtain ⟨c, hc⟩ : ∃ c, Nn.NatMath.cmp S 1 = c := ⟨_, rfl⟩
  have HC := Lib.hid hc
  have t1 : (c == 0) = t := by rw [← hc, Nn.NatMath.cmp_zero_iff, ht.out]
  clear hc
  have hlt2 := Lib.hid hlt
  clear hlt
  go_wp2_with fail
  have E1 : Hid (Env (fun _ => True) w [(w.heap.size + 1, 96, [.slice ua 1 uk]), (w.heap.size, 99, [.slice xa 1 xk, .slice ya 1 yk, .slice za zn zk])] [.rw (.slice ua 1 uk) 1 1 (wd X), .rw (.slice ya 1 yk) 1 1 (wd R), .rw (.slice xa 1 xk) 1 1 (wd N)] _) := Lib.hid (((E0.out.push 99 [.slice xa 1 xk, .slice ya 1 yk, .slice za zn zk] (w.heap.size) (by simp)).push 96 [.slice ua 1 uk] (w.heap.size + 1) (by simp)))
  refine (pow1 hS.out h0.out hR.out hX.out hN.out hlt2.out (E1.out.fc 1 rfl) (E1.out.fc 0 rfl) (E1.out.fc 2 rfl)).mono ?_
  rintro e w1 ⟨⟨va, vk, rfl, vh⟩, hb⟩
  have E2 : Hid (Env (fun _ => True) w [(w.heap.size + 1, 96, [.slice ua 1 uk]), (w.heap.size, 99, [.slice xa 1 xk, .slice ya 1 yk, .slice za zn zk])] [.rw (.slice va 1 vk) 1 1 (wd S), .rw (.slice ua 1 uk) 1 1 (wd X), .rw (.slice ya 1 yk) 1 1 (wd R), .rw (.slice xa 1 xk) 1 1 (wd N)] w1) := Lib.hid (E1.out.gotW hb vh.out (by intro p hp u hu; simp at hp; rcases hp with rfl | rfl <;> (simp at hu; (try rcases hu with rfl | rfl | rfl) <;> (try subst hu) <;> exact ⟨_, _, _, rfl⟩)))
  clear E0 E1 hb vh
  go_wp2_with fail
  have E3 : Hid (Env (fun _ => True) w [(w1.heap.size, 96, [.slice va 1 vk]), (w.heap.size + 1, 96, [.slice ua 1 uk]), (w.heap.size, 99, [.slice xa 1 xk, .slice ya 1 yk, .slice za zn zk])] [.rw (.slice va 1 vk) 1 1 (wd S), .rw (.slice ua 1 uk) 1 1 (wd X), .rw (.slice ya 1 yk) 1 1 (wd R), .rw (.slice xa 1 xk) 1 1 (wd N)] _) := Lib.hid ((E2.out.push 96 [.slice va 1 vk] (w1.heap.size) (by simp)))
  clear E2
  generalize w1.alloc (.cells #[.slice va 1 vk] 96) = w2 at *
  have E4 : Hid (Env (fun _ => True) w [(w1.heap.size, 96, [.slice va 1 vk]), (w.heap.size + 1, 96, [.slice ua 1 uk]), (w.heap.size, 99, [.slice xa 1 xk, .slice ya 1 yk, .slice za zn zk])] [.rw (.slice va 1 vk) 1 1 (wd S), .rw (.slice ua 1 uk) 1 1 (wd X), .rw (.slice ya 1 yk) 1 1 (wd R), .rw (.slice xa 1 xk) 1 1 (wd N)] (w2.drew)) := Lib.hid E3.out.drew
  clear E3
  refine wp_regionU (S := fun w' => w'.cell? ⟨w1.heap.size, 0, none⟩ = some (.slice va 1 vk)) [] (by kernel_rfl) (((E4.out.bx 0 rfl).cell 0 rfl)) (fun hHeld => ?_)
  generalize w2.drew = w3 at *
  refine uTake (i := 0) (some 16) (v := ?_) rfl rfl (by kernel_rfl) (by kernel_rfl) (by kernel_rfl) (by kernel_rfl) (fun _ _ _ h => h) (by rfl) (by assumption) ?_ ?_
  rotate_left
  · (intro wS hSw; (try dsimp only at hSw); go_simp; try with_reducible rfl)
  try simp only [Act.put, List.setIfInBounds_toArray, List.set_cons_zero, List.set_cons_succ]
  refine uTake (i := 1) (some 17) (v := ?_) rfl rfl (by kernel_rfl) (by kernel_rfl) (by kernel_rfl) (by kernel_rfl) (fun _ _ _ h => h) (by rfl) (by assumption) ?_ ?_
  rotate_left
  · (intro wS hSw; (try dsimp only at hSw); go_simp; try with_reducible rfl)
  try simp only [Act.put, List.setIfInBounds_toArray, List.set_cons_zero, List.set_cons_succ]
  refine uTake (i := 2) (some 18) (v := ?_) rfl rfl (by kernel_rfl) (by kernel_rfl) (by kernel_rfl) (by kernel_rfl) (fun _ _ _ h => h) (by rfl) (by assumption) ?_ ?_
  rotate_left
  · (intro wS hSw; (try dsimp only at hSw); go_simp; try with_reducible rfl)
  try simp only [Act.put, List.setIfInBounds_toArray, List.set_cons_zero, List.set_cons_succ]
  refine uTake (i := 3) (some 19) (v := ?_) rfl rfl (by kernel_rfl) (by kernel_rfl) (by kernel_rfl) (by kernel_rfl) (fun _ _ _ h => h) (by rfl) (by assumption) ?_ ?_
  rotate_left
  · (intro wS hSw; (try dsimp only at hSw); go_simp; try with_reducible rfl)
  try simp only [Act.put, List.setIfInBounds_toArray, List.set_cons_zero, List.set_cons_succ]
  refine uReady (rs := [4]) (by kernel_rfl) (by simp) ?_
  refine ReadyU.cons rfl (fun KK hKK => ?_) ReadyU.nil
  go_simp
  refine (nat1 1 ⟨by decide, by decide⟩).mono ?_
  rintro e w4 ⟨⟨ia, ik, rfl, ih⟩, hb⟩
  have E5 : Hid (Env (fun _ => True) w [(w1.heap.size, 96, [.slice va 1 vk]), (w.heap.size + 1, 96, [.slice ua 1 uk]), (w.heap.size, 99, [.slice xa 1 xk, .slice ya 1 yk, .slice za zn zk])] [.rw (.slice ia 1 ik) 1 1 (wd 1), .rw (.slice va 1 vk) 1 1 (wd S), .rw (.slice ua 1 uk) 1 1 (wd X), .rw (.slice ya 1 yk) 1 1 (wd R), .rw (.slice xa 1 xk) 1 1 (wd N)] w4) := Lib.hid (E4.out.got (E4.out.below hb) (.rw (.slice ia 1 ik) 1 1 (wd 1)) (Lib.hid (Rw.ge ih.out)).out)
  clear E4 hb
  (try dsimp only)
  clear hHeld
  refine hKK.out _ _ (((E5.out.bx 0 rfl).cell 0 rfl)) (fun hHeld => ?_)
  clear hKK KK
  try simp only [Act.put, List.setIfInBounds_toArray, List.set_cons_zero, List.set_cons_succ]
  refine uReady (rs := [5]) (by kernel_rfl) (by simp) ?_
  refine ReadyU.cons rfl (fun KK hKK => ?_) ReadyU.nil
  go_simp
  refine (cmp1 HC.out h0.out ⟨by decide, by decide⟩ (E5.out.fc 1 rfl) (E5.out.fc 0 rfl)).mono ?_
  rintro e w5 ⟨rfl, hb⟩
  have E6 : Hid (Env (fun _ => True) w [(w1.heap.size, 96, [.slice va 1 vk]), (w.heap.size + 1, 96, [.slice ua 1 uk]), (w.heap.size, 99, [.slice xa 1 xk, .slice ya 1 yk, .slice za zn zk])] [.rw (.slice ia 1 ik) 1 1 (wd 1), .rw (.slice va 1 vk) 1 1 (wd S), .rw (.slice ua 1 uk) 1 1 (wd X), .rw (.slice ya 1 yk) 1 1 (wd R), .rw (.slice xa 1 xk) 1 1 (wd N)] w5) := Lib.hid (E5.out.below hb)
  clear E5 hb
  (try dsimp only)
  clear hHeld
  refine hKK.out _ _ (((E6.out.bx 0 rfl).cell 0 rfl)) (fun hHeld => ?_)
  clear hKK KK
  try simp only [Act.put, List.setIfInBounds_toArray, List.set_cons_zero, List.set_cons_succ]
  refine uTake (i := 6) (some 22) (v := ?_) rfl rfl (by kernel_rfl) (by kernel_rfl) (by kernel_rfl) (by kernel_rfl) (fun _ _ _ h => h) (by rfl) (by assumption) ?_ ?_
  rotate_left
  · (intro wS hSw; (try dsimp only at hSw); go_simp; try with_reducible rfl)
  try simp only [Act.put, List.setIfInBounds_toArray, List.set_cons_zero, List.set_cons_succ]
  refine uTake (i := 7) (some 23) (v := ?_) rfl rfl (by kernel_rfl) (by kernel_rfl) (by kernel_rfl) (by kernel_rfl) (fun _ _ _ h => h) (by rfl) (by assumption) ?_ ?_
  rotate_left
  · (intro wS hSw; (try dsimp only at hSw); go_simp; try with_reducible rfl)
  try simp only [Act.put, List.setIfInBounds_toArray, List.set_cons_zero, List.set_cons_succ]
  refine uTake (i := 8) (some 4) (v := ?_) rfl rfl (by kernel_rfl) (by kernel_rfl) (by kernel_rfl) (by kernel_rfl) (fun _ _ _ h => h) (by rfl) (by assumption) ?_ ?_
  rotate_left
  · (intro wS hSw; (try dsimp only at hSw); go_simp; try with_reducible rfl)
  try simp only [Act.put, List.setIfInBounds_toArray, List.set_cons_zero, List.set_cons_succ]
  refine uDone (by kernel_rfl) ?_ _
  have hfin := Lib.hid E6.out.bel
  go_wp2
  go_ret
  exact ⟨rfl, hfin.out⟩
set_option maxRecDepth 100000 in
set_option maxHeartbeats 1000000 in
theorem right1 {D : Nat → Prop} (N R L M q : Nat) (g1 g2 : Nat) {xa ya za la pa qa sa : Option Addr} {xk yk zn zk lk pk qn qk sn sk : Nat} {w : World} (hx : Fct.at w D (.rw (.slice xa 1 xk) 1 1 (wd N))) (hy : Fct.at w D (.rw (.slice ya 1 yk) 1 1 (wd R))) (hl : Fct.at w D (.rw (.slice la 1 lk) 1 1 (wd L))) (hp : Fct.at w D (.rw (.slice pa 1 pk) 1 1 (wd M))) (h1 : Fct.at w D (.ce g1 0 (.slice la 1 lk))) (h20 : Fct.at w D (.ce g2 0 (.slice xa 1 xk))) (h21 : Fct.at w D (.ce g2 1 (.slice ya 1 yk))) (h22 : Fct.at w D (.ce g2 2 (.slice za zn zk))) (S : Nat) (hq0 : L / M = q) (hS0 : R ^ q % N = S) (h00 : One S) (hN0 : One N) (hR0 : One R) (hL0 : One L) (hM0 : One M) (hQ0 : One q) (hlt : R < N) {t : Bool} (ht0 : decide (S = 1) = t) :
    Calls Tryd.prog 151 #[.agg #[.slice pa 1 pk, .slice qa qn qk, .slice sa sn sk], .pointer (some ⟨g1, 0, none⟩), .pointer (some ⟨g2, 0, none⟩)] w fun e w' => e = .returned (.bool t) ∧ Below w.heap.size w w' := by
  have E0 : Hid (Env D w [] [.ce g2 2 (.slice za zn zk), .ce g2 1 (.slice ya 1 yk), .ce g2 0 (.slice xa 1 xk), .ce g1 0 (.slice la 1 lk), .rw (.slice pa 1 pk) 1 1 (wd M), .rw (.slice la 1 lk) 1 1 (wd L), .rw (.slice ya 1 yk) 1 1 (wd R), .rw (.slice xa 1 xk) 1 1 (wd N)] w) := Lib.hid (((((((((Env.start D w).arg (.rw (.slice xa 1 xk) 1 1 (wd N)) hx).arg (.rw (.slice ya 1 yk) 1 1 (wd R)) hy).arg (.rw (.slice la 1 lk) 1 1 (wd L)) hl).arg (.rw (.slice pa 1 pk) 1 1 (wd M)) hp).arg (.ce g1 0 (.slice la 1 lk)) h1).arg (.ce g2 0 (.slice xa 1 xk)) h20).arg (.ce g2 1 (.slice ya 1 yk)) h21).arg (.ce g2 2 (.slice za zn zk)) h22)
  clear hx hy hl hp h1 h20 h21 h22
  go_enter Tryd.func151, Tryd.ntmps151
  have hS := Lib.hid hS0
  have h0 := Lib.hid h00
  have hN := Lib.hid hN0
  have hR := Lib.hid hR0
  have hL := Lib.hid hL0
  have hM := Lib.hid hM0
  have hQ := Lib.hid hQ0
  have ht := Lib.hid ht0
  have hq := Lib.hid hq0
  clear hS0 h00 hN0 hR0 hL0 hM0 hQ0 ht0 hq0
  have hlt2 := Lib.hid hlt
  clear hlt
  have E1 : Hid (Env D w [(w.heap.size, 99, [.slice pa 1 pk, .slice qa qn qk, .slice sa sn sk])] [.ce g2 2 (.slice za zn zk), .ce g2 1 (.slice ya 1 yk), .ce g2 0 (.slice xa 1 xk), .ce g1 0 (.slice la 1 lk), .rw (.slice pa 1 pk) 1 1 (wd M), .rw (.slice la 1 lk) 1 1 (wd L), .rw (.slice ya 1 yk) 1 1 (wd R), .rw (.slice xa 1 xk) 1 1 (wd N)] _) := Lib.hid ((E0.out.push 99 [.slice pa 1 pk, .slice qa qn qk, .slice sa sn sk] (w.heap.size) (by simp)))
  have z1 := (E1.out.fc 3 rfl).2
  have b2 := E1.out.bx 0 rfl
  have c2_0 := b2.cell 0 rfl
  clear b2
  go_wp2_with fail
  refine (div1 hq.out hQ.out hL.out hM.out (E1.out.fc 5 rfl) (E1.out.fc 4 rfl)).mono ?_
  rintro e w1 ⟨⟨ua, uk, va, vn, vk, rfl, uh⟩, hb⟩
  have E2 : Hid (Env D w [(w.heap.size, 99, [.slice pa 1 pk, .slice qa qn qk, .slice sa sn sk])] [.rw (.slice ua 1 uk) 1 1 (wd q), .ce g2 2 (.slice za zn zk), .ce g2 1 (.slice ya 1 yk), .ce g2 0 (.slice xa 1 xk), .ce g1 0 (.slice la 1 lk), .rw (.slice pa 1 pk) 1 1 (wd M), .rw (.slice la 1 lk) 1 1 (wd L), .rw (.slice ya 1 yk) 1 1 (wd R), .rw (.slice xa 1 xk) 1 1 (wd N)] w1) := Lib.hid (E1.out.got (E1.out.below hb) (.rw (.slice ua 1 uk) 1 1 (wd q)) (Lib.hid (Rw.ge uh.out)).out)
  clear z1 c2_0 E0 E1 hb
  have E3 : Hid (Env D w [(w1.heap.size + 1, 96, [.slice va vn vk]), (w1.heap.size, 96, [.slice ua 1 uk]), (w.heap.size, 99, [.slice pa 1 pk, .slice qa qn qk, .slice sa sn sk])] [.rw (.slice ua 1 uk) 1 1 (wd q), .ce g2 2 (.slice za zn zk), .ce g2 1 (.slice ya 1 yk), .ce g2 0 (.slice xa 1 xk), .ce g1 0 (.slice la 1 lk), .rw (.slice pa 1 pk) 1 1 (wd M), .rw (.slice la 1 lk) 1 1 (wd L), .rw (.slice ya 1 yk) 1 1 (wd R), .rw (.slice xa 1 xk) 1 1 (wd N)] _) := Lib.hid (((E2.out.push 96 [.slice ua 1 uk] (w1.heap.size) (by simp)).push 96 [.slice va vn vk] (w1.heap.size + 1) (by simp)))
  have z3 := (E3.out.fc 3 rfl).2
  have z4 := (E3.out.fc 2 rfl).2
  have z5 := (E3.out.fc 1 rfl).2
  have b6 := E3.out.bx 1 rfl
  have c6_0 := b6.cell 0 rfl
  clear b6
  go_wp2_with fail
  refine (one1 N R q (Fct.any (E3.out.fc 8 rfl)) (Fct.any (E3.out.fc 7 rfl)) (Fct.any (E3.out.fc 0 rfl)) S hS.out h0.out hN.out hR.out hQ.out hlt2.out ht.out).mono ?_
  rintro e w2 ⟨rfl, hb⟩
  have E4 : Hid (Env D w [(w1.heap.size + 1, 96, [.slice va vn vk]), (w1.heap.size, 96, [.slice ua 1 uk]), (w.heap.size, 99, [.slice pa 1 pk, .slice qa qn qk, .slice sa sn sk])] [.rw (.slice ua 1 uk) 1 1 (wd q), .ce g2 2 (.slice za zn zk), .ce g2 1 (.slice ya 1 yk), .ce g2 0 (.slice xa 1 xk), .ce g1 0 (.slice la 1 lk), .rw (.slice pa 1 pk) 1 1 (wd M), .rw (.slice la 1 lk) 1 1 (wd L), .rw (.slice ya 1 yk) 1 1 (wd R), .rw (.slice xa 1 xk) 1 1 (wd N)] w2) := Lib.hid (E3.out.below hb)
  clear z3 z4 z5 c6_0 E2 E3 hb
  have hfin := Lib.hid E4.out.bel
  go_wp2
  go_ret
  exact ⟨rfl, hfin.out⟩
end Go.Proofs.YtinlfogpbologaaDoor

/- specieref14: Solve. -/
import Derived.Test.YtinlfogpbologaaDoorMatV
import Derived.Test.YtinlfogpbologaaDoorMatW
namespace Go.Proofs.YtinlfogpbologaaDoor
open Go.RowKit DivMath WordMath
set_option linter.unusedVariables false
set_option linter.unusedSimpArgs false
/-- what the reference's Solve hands back -/
def RetSol (D : Nat → Prop) (t : Bool) (X : List Nat) (K : List (List Nat)) (e : Ending) (w' : World) : Prop := (t = true ∧ e = .returned (.tuple #[.slice none 0 0, .slice none 0 0, .bool false])) ∨ (t = false ∧ ∃ xa xk ka kk, e = .returned (.tuple #[.slice xa X.length xk, .slice ka K.length kk, .bool true]) ∧ Hid (Rw w' D (.slice xa X.length xk) X.length 1 (ncl X)) ∧ Hid (Mx w' D (.slice ka K.length kk) (K.map nl)))
set_option maxRecDepth 100000 in
set_option maxHeartbeats 8000000 in
theorem rSolve_c {D : Nat → Prop} (q n : Nat) (L M : List (List Nat)) (b P : List Nat) {xa ya : Option Addr} {xk yk : Nat} {w : World} (hx : Fct.at w D (.mx (.slice xa L.length xk) (L.map nl))) (hy : Fct.at w D (.rw (.slice ya b.length yk) b.length 1 (ncl b))) (hv0 : MvI q n L) (hne0 : b.length = L.length) (hs00 : ∀ c ∈ b, c < q) (hR0 : redN q (sysL L b) n = (M, P)) {t : Bool} (ht0 : noneB n (M, P) = t) :
    Calls Tryd.prog 36 #[.int .i64 (q : Nat), .slice xa L.length xk, .slice ya b.length yk] w fun e w' => RetSol (fun b => D b ∨ w.heap.size ≤ b) t (partV n P M P.length) (kerL q n P M n) e w' ∧ Below w.heap.size w w' := by
  have E0 : Hid (Env D w [] [.rw (.slice ya b.length yk) b.length 1 (ncl b), .mx (.slice xa L.length xk) (L.map nl)] w) := Lib.hid (((Env.start D w).arg (.mx (.slice xa L.length xk) (L.map nl)) hx).arg (.rw (.slice ya b.length yk) b.length 1 (ncl b)) hy)
  clear hx hy
  go_enter Tryd.func36, Tryd.ntmps36
  have hsq := Lib.hid hs00
  have hv := Lib.hid hv0
  have hne := Lib.hid hne0
  have hR := Lib.hid hR0
  have ht := Lib.hid ht0
  clear hv0 hne0 hR0 ht0
  clear hs00
  have m30 := hv.out.m30
  have n30 := hv.out.n30
  go_wp2_with fail
  go_loopg [10, 9] (L.length) (fun gk s10 s9 wr => ∃ (k : Nat) (tg : List Bx) (ts : List Value) (ta : Option Addr) (tk : Nat) (hs : List Value) (O : List (List Nat)), s10 = .int .i64 (k : Int) ∧ s9 = .slice ta O.length tk ∧ Hid (Env D w tg [.gn (gRows hs O), .rw (.slice ya b.length yk) b.length 1 (ncl b), .mx (.slice xa L.length xk) (L.map nl)] wr) ∧ Hid (OM tg ts (.slice ta O.length tk) hs O.length) ∧ Hid ((k ≤ L.length ∧ gk = L.length - k) ∧ O = (sysL L b).take k))
  case atStart => exact ⟨0, [], [], none, 0, [], [], rfl, rfl, Lib.hid ((E0.out.note (.gn (gRows [] [])) gRows.nil).cast (by simp)), Lib.hid OM.nil, Lib.hid ⟨⟨Nat.zero_le _, rfl⟩, rfl⟩⟩
  case round =>
    clear E0
    obtain ⟨k, tg, ts, ta, tk, hs, O, rfl, rfl, EL, hM, HA⟩ := hrel
    obtain ⟨⟨a1, a2⟩, a3⟩ := HA.out
    have HP := Lib.hid a3
    clear a3 HA
    have HOL : Hid (O.length = k) := Lib.hid (by rw [HP.out, List.length_take, sysL_len]; omega)
    by_cases hy : k < L.length
    · have hk := hy
      have t6 : decide ((k : Int) < (L.length : Int)) = true := decide_eq_true (by omega)
      have t6n : decide (k < L.length) = true := decide_eq_true (by omega)
      have hkI : (k : Int) < (L.length : Int) := by omega
      clear hy
      have hkb : k < b.length := by rw [hne.out]; exact hk
      have hkbI : (k : Int) < (b.length : Int) := by omega
      have hol : O.length ≤ 1000 := by rw [HOL.out]; omega
      go_upto_region 5 with (fail)
      obtain ⟨xab, xao, rfl⟩ := Mx.addrN (EL.out.fc 2 rfl) hk
      obtain ⟨ua, uk, E10⟩ := EL.out.elMN 2 rfl (k) hk
      have E1 : Hid (Env D w tg [.ce xab (xao + k) (.slice ua L[k].length uk), .rw (.slice ua L[k].length uk) L[k].length 1 (ncl L[k]), .gn (gRows hs O), .rw (.slice ya b.length yk) b.length 1 (ncl b), .mx (.slice (some ⟨xab, xao, none⟩) L.length xk) (L.map nl)] _) := Lib.hid E10
      clear E10 EL
      obtain ⟨yab, yao, rfl⟩ := Rw.addr (E1.out.fc 3 rfl) (by omega)
      have E2 : Hid (Env D w tg [.ce yab (yao + k) (.int .i64 (b[k] : Nat)), .ce xab (xao + k) (.slice ua L[k].length uk), .rw (.slice ua L[k].length uk) L[k].length 1 (ncl L[k]), .gn (gRows hs O), .rw (.slice (some ⟨yab, yao, none⟩) b.length yk) b.length 1 (ncl b), .mx (.slice (some ⟨xab, xao, none⟩) L.length xk) (L.map nl)] _) := Lib.hid (E1.out.elN 3 rfl rfl (k) hkb)
      clear E1
      have v0 := (E2.out.fc 0 rfl).2
      have HRK : Hid (L[k].length = n) := Lib.hid (hv.out.res _ (List.getElem_mem hk)).1
      go_wp2_with fail
      have E3 : Hid (Env D w tg [.ce yab (yao + k) (.int .i64 (b[k] : Nat)), .ce xab (xao + k) (.slice ua L[k].length uk), .rw (.slice ua L[k].length uk) L[k].length 1 (ncl L[k]), .gn (gRows hs O), .rw (.slice (some ⟨yab, yao, none⟩) b.length yk) b.length 1 (ncl b), .mx (.slice (some ⟨xab, xao, none⟩) L.length xk) (L.map nl)] (wr.drew)) := Lib.hid E2.out.drew
      clear v0 E2
      refine wp_regionU (S := fun w' => w'.cell? ⟨xab, xao + k, none⟩ = some (.slice ua L[k].length uk) ∧ w'.cell? ⟨yab, yao + k, none⟩ = some (.int .i64 (b[k] : Nat))) [] (by kernel_rfl) (⟨(E3.out.fc 1 rfl).2, (E3.out.fc 0 rfl).2⟩) (fun hHeld => ?_)
      generalize wr.drew = w1 at *
      refine uTake (i := 0) (some 27) (v := ?_) rfl rfl (by kernel_rfl) (by kernel_rfl) (by kernel_rfl) (by kernel_rfl) (fun _ _ _ h => h) (by rfl) (by assumption) ?_ ?_
      rotate_left
      · (intro wS hSw; (try dsimp only at hSw); go_simp; try with_reducible rfl)
      try simp only [Act.put, List.setIfInBounds_toArray, List.set_cons_zero, List.set_cons_succ]
      refine uTake (i := 2) (some 29) (v := ?_) rfl rfl (by kernel_rfl) (by kernel_rfl) (by kernel_rfl) (by kernel_rfl) (fun _ _ _ h => h) (by rfl) (by assumption) ?_ ?_
      rotate_left
      · (intro wS hSw; (try dsimp only at hSw); go_simp; try with_reducible rfl)
      try simp only [Act.put, List.setIfInBounds_toArray, List.set_cons_zero, List.set_cons_succ]
      refine uTake (i := 3) (some 30) (v := ?_) rfl rfl (by kernel_rfl) (by kernel_rfl) (by kernel_rfl) (by kernel_rfl) (fun _ _ _ h => h) (by rfl) (by assumption) ?_ ?_
      rotate_left
      · (intro wS hSw; (try dsimp only at hSw); go_simp; try with_reducible rfl)
      try simp only [Act.put, List.setIfInBounds_toArray, List.set_cons_zero, List.set_cons_succ]
      refine uTake (i := 4) (some 31) (v := ?_) rfl rfl (by kernel_rfl) (by kernel_rfl) (by kernel_rfl) (by kernel_rfl) (fun _ _ _ h => h) (by rfl) (by assumption) ?_ ?_
      rotate_left
      · (intro wS hSw; (try dsimp only at hSw); go_simp; try with_reducible rfl)
      try simp only [Act.put, List.setIfInBounds_toArray, List.set_cons_zero, List.set_cons_succ]
      refine uTake (i := 5) (some 32) (v := ?_) rfl rfl (by kernel_rfl) (by kernel_rfl) (by kernel_rfl) (by kernel_rfl) (fun _ _ _ h => h) (by rfl) (by assumption) ?_ ?_
      rotate_left
      · (intro wS hSw; (try dsimp only at hSw); go_simp; try with_reducible rfl)
      try simp only [Act.put, List.setIfInBounds_toArray, List.set_cons_zero, List.set_cons_succ]
      refine uTake (i := 7) (some 34) (v := ?_) rfl rfl (by kernel_rfl) (by kernel_rfl) (by kernel_rfl) (by kernel_rfl) (fun _ _ _ h => h) (by rfl) (by assumption) ?_ ?_
      rotate_left
      · (intro wS hSw; (try dsimp only at hSw); go_simp; try with_reducible rfl)
      try simp only [Act.put, List.setIfInBounds_toArray, List.set_cons_zero, List.set_cons_succ]
      refine uTake (i := 8) (some 35) (v := ?_) rfl rfl (by kernel_rfl) (by kernel_rfl) (by kernel_rfl) (by kernel_rfl) (fun _ _ _ h => h) (by rfl) (by assumption) ?_ ?_
      rotate_left
      · (intro wS hSw; (try dsimp only at hSw); go_simp; try with_reducible rfl)
      try simp only [Act.put, List.setIfInBounds_toArray, List.set_cons_zero, List.set_cons_succ]
      refine uTake (i := 9) (some 36) (v := ?_) rfl rfl (by kernel_rfl) (by kernel_rfl) (by kernel_rfl) (by kernel_rfl) (fun _ _ _ h => h) (by rfl) (by assumption) ?_ ?_
      rotate_left
      · (intro wS hSw; (try dsimp only at hSw); go_simp; try with_reducible rfl)
      try simp only [Act.put, List.setIfInBounds_toArray, List.set_cons_zero, List.set_cons_succ]
      refine uTake (i := 10) (some 37) (v := ?_) rfl rfl (by kernel_rfl) (by kernel_rfl) (by kernel_rfl) (by kernel_rfl) (fun _ _ _ h => h) (by rfl) (by assumption) ?_ ?_
      rotate_left
      · (intro wS hSw; (try dsimp only at hSw); go_simp; try with_reducible rfl)
      try simp only [Act.put, List.setIfInBounds_toArray, List.set_cons_zero, List.set_cons_succ]
      refine uReady (rs := [1, 11]) (by kernel_rfl) (by simp) ?_
      refine (ReadyU.cons rfl (fun KK hKK => ?_) (ReadyU.cons rfl (fun KK hKK => ?_) ReadyU.nil))
      · skip
        go_simp
        have E4 : Hid (Env D w ((w1.heap.size, 3, []) :: tg) [.ce yab (yao + k) (.int .i64 (b[k] : Nat)), .ce xab (xao + k) (.slice ua L[k].length uk), .rw (.slice ua L[k].length uk) L[k].length 1 (ncl L[k]), .gn (gRows hs O), .rw (.slice (some ⟨yab, yao, none⟩) b.length yk) b.length 1 (ncl b), .mx (.slice (some ⟨xab, xao, none⟩) L.length xk) (L.map nl)] _) := Lib.hid ((E3.out.push 3 [] (w1.heap.size) (by simp)))
        (try dsimp only)
        clear hHeld
        refine hKK.out _ _ (⟨(E4.out.fc 1 rfl).2, (E4.out.fc 0 rfl).2⟩) (fun hHeld => ?_)
        clear hKK KK
        try simp only [Act.put, List.setIfInBounds_toArray, List.set_cons_zero, List.set_cons_succ]
        clear E3
        generalize w1.alloc (.cells #[] 3) = w2 at *
        refine uReady (rs := [6, 11]) (by kernel_rfl) (by simp) ?_
        refine (ReadyU.cons rfl (fun KK hKK => ?_) (ReadyU.cons rfl (fun KK hKK => ?_) ReadyU.nil))
        · skip
          refine op_appN (c := uk) tiI (some 33) rfl rfl (.tmp 28) (.tmp 32) rfl E4.out (A := []) (sg := [(w1.heap.size, 3, [])]) (B' := tg) (n := 0) (by first | rfl | simp) (.inr ⟨w1.heap.size, 0, rfl, rfl, Nat.le_refl _, by omega, rfl⟩) (by simp [Act.eval, Act.put]) (by simp [Act.eval, Act.put]; done) (Rw.src (E4.out.fc 2 rfl)) (by have := HRK.out; omega) ?_
          intro xs xv xc w3 xO xT xE
          (try simp only [Nat.zero_add] at xO xT)
          obtain ⟨ra, rk, rfl⟩ := xO.out.len
          have E5 : Hid (Env D w (tg ++ xs) [.ce yab (yao + k) (.int .i64 (b[k] : Nat)), .ce xab (xao + k) (.slice ua L[k].length uk), .rw (.slice ua L[k].length uk) L[k].length 1 (ncl L[k]), .gn (gRows hs O), .rw (.slice (some ⟨yab, yao, none⟩) b.length yk) b.length 1 (ncl b), .mx (.slice (some ⟨xab, xao, none⟩) L.length xk) (L.map nl)] w3) := Lib.hid ((xE.out.perm (List.Perm.append_left [] (List.perm_append_comm (l₁ := xs) (l₂ := tg)))).cast (by first | rfl | simp))
          clear E4 xE
          (try dsimp only)
          clear hHeld
          refine hKK.out _ _ (⟨(E5.out.fc 1 rfl).2, (E5.out.fc 0 rfl).2⟩) (fun hHeld => ?_)
          clear hKK KK
          try simp only [Act.put, List.setIfInBounds_toArray, List.set_cons_zero, List.set_cons_succ]
          refine uReady (rs := [11]) (by kernel_rfl) (by simp) ?_
          refine ReadyU.cons rfl (fun KK hKK => ?_) ReadyU.nil
          go_simp
          have E6 : Hid (Env D w ((w3.heap.size, 3, [.int .i64 (b[k] : Nat)]) :: (tg ++ xs)) [.ce yab (yao + k) (.int .i64 (b[k] : Nat)), .ce xab (xao + k) (.slice ua L[k].length uk), .rw (.slice ua L[k].length uk) L[k].length 1 (ncl L[k]), .gn (gRows hs O), .rw (.slice (some ⟨yab, yao, none⟩) b.length yk) b.length 1 (ncl b), .mx (.slice (some ⟨xab, xao, none⟩) L.length xk) (L.map nl)] _) := Lib.hid ((E5.out.push 3 [.int .i64 (b[k] : Nat)] (w3.heap.size) (by simp)))
          (try dsimp only)
          clear hHeld
          refine hKK.out _ _ (⟨(E6.out.fc 1 rfl).2, (E6.out.fc 0 rfl).2⟩) (fun hHeld => ?_)
          clear hKK KK
          try simp only [Act.put, List.setIfInBounds_toArray, List.set_cons_zero, List.set_cons_succ]
          clear E5
          generalize w3.alloc (.cells #[.int .i64 (b[k] : Nat)] 3) = w4 at *
          refine uReady (rs := [12]) (by kernel_rfl) (by simp) ?_
          refine ReadyU.cons rfl (fun KK hKK => ?_) ReadyU.nil
          refine op_app1 (c := 1) tiI (some 39) rfl rfl (.tmp 33) (.tmp 38) rfl E6.out (A := ((w3.heap.size, 3, [.int .i64 (b[k] : Nat)]) :: tg)) (sg := xs) (B' := []) (by simp) xO.out (by simp [Act.eval, Act.put]) (by simp [Act.eval, Act.put]; done) (SrcN.int (E6.out.bx 0 rfl)) (by have := HRK.out; omega) ?_
          intro zg zp zc w5 zH zT zE
          have E7 : Hid (Env D w ((w3.heap.size, 3, [.int .i64 (b[k] : Nat)]) :: tg) [.rw (.slice (some ⟨zg, 0, none⟩) (L[k].length + 1) zp) (L[k].length + 1) 1 (ncl (L[k] ++ [b[k]])), .ce yab (yao + k) (.int .i64 (b[k] : Nat)), .ce xab (xao + k) (.slice ua L[k].length uk), .rw (.slice ua L[k].length uk) L[k].length 1 (ncl L[k]), .gn (gRows hs O), .rw (.slice (some ⟨yab, yao, none⟩) b.length yk) b.length 1 (ncl b), .mx (.slice (some ⟨xab, xao, none⟩) L.length xk) (L.map nl)] w5) := Lib.hid (Env.cast (Env.freezeOS (A := ((w3.heap.size, 3, [.int .i64 (b[k] : Nat)]) :: tg)) (sg := [(zg, 3, zc)]) (B := []) (zE.out.cast (by simp)) (.inr ⟨zg, zp, rfl, rfl, zH.out.1, zH.out.2.1, zH.out.2.2⟩) (xs := ncl (L[k] ++ [b[k]])) (by have h := zT.out; rw [h]; have h2 := xT.out; simp only [Nat.mul_one] at h2 ⊢; rw [h2]; simp [ncl, nl, icl]) (ncl_one _)) (by simp))
          clear E6 zE
          (try dsimp only)
          clear hHeld
          refine hKK.out _ _ (⟨(E7.out.fc 2 rfl).2, (E7.out.fc 1 rfl).2⟩) (fun hHeld => ?_)
          clear hKK KK
          try simp only [Act.put, List.setIfInBounds_toArray, List.set_cons_zero, List.set_cons_succ]
          refine uReady (rs := [13]) (by kernel_rfl) (by simp) ?_
          refine ReadyU.cons rfl (fun KK hKK => ?_) ReadyU.nil
          go_simp
          have E8 : Hid (Env D w ((w5.heap.size, 22, [.slice (some ⟨zg, 0, none⟩) (L[k].length + 1) zp]) :: (w3.heap.size, 3, [.int .i64 (b[k] : Nat)]) :: tg) [.rw (.slice (some ⟨zg, 0, none⟩) (L[k].length + 1) zp) (L[k].length + 1) 1 (ncl (L[k] ++ [b[k]])), .ce yab (yao + k) (.int .i64 (b[k] : Nat)), .ce xab (xao + k) (.slice ua L[k].length uk), .rw (.slice ua L[k].length uk) L[k].length 1 (ncl L[k]), .gn (gRows hs O), .rw (.slice (some ⟨yab, yao, none⟩) b.length yk) b.length 1 (ncl b), .mx (.slice (some ⟨xab, xao, none⟩) L.length xk) (L.map nl)] _) := Lib.hid ((E7.out.push 22 [.slice (some ⟨zg, 0, none⟩) (L[k].length + 1) zp] (w5.heap.size) (by simp)))
          (try dsimp only)
          clear hHeld
          refine hKK.out _ _ (⟨(E8.out.fc 2 rfl).2, (E8.out.fc 1 rfl).2⟩) (fun hHeld => ?_)
          clear hKK KK
          try simp only [Act.put, List.setIfInBounds_toArray, List.set_cons_zero, List.set_cons_succ]
          clear E7
          generalize w5.alloc (.cells #[.slice (some ⟨zg, 0, none⟩) (L[k].length + 1) zp] 22) = w6 at *
          refine uReady (rs := [14]) (by kernel_rfl) (by simp) ?_
          refine ReadyU.cons rfl (fun KK hKK => ?_) ReadyU.nil
          refine op_app1 (c := 1) tiR (some 41) rfl rfl (.tmp 27) (.tmp 40) rfl E8.out (A := [(w5.heap.size, 22, [.slice (some ⟨zg, 0, none⟩) (L[k].length + 1) zp]), (w3.heap.size, 3, [.int .i64 (b[k] : Nat)])]) (sg := tg) (B' := []) (by simp) hM.out.1 (by simp [Act.eval, Act.put]) (by simp [Act.eval, Act.put]; done) (SrcN.one (E8.out.bx 0 rfl) rfl) (by omega) ?_
          intro yg yp yc w7 yH yT yE
          have yM := Lib.hid (OM.app (x := Value.slice (some ⟨zg, 0, none⟩) (L[k].length + 1) zp) (g' := yg) hM.out (by simpa using yH.out) (by simpa using yT.out))
          have E9 : Hid (Env D w ((w5.heap.size, 22, [.slice (some ⟨zg, 0, none⟩) (L[k].length + 1) zp]) :: (w3.heap.size, 3, [.int .i64 (b[k] : Nat)]) :: [(yg, 22, yc)]) [.gn (gRows (hs ++ [Value.slice (some ⟨zg, 0, none⟩) (L[k].length + 1) zp]) (O ++ [L[k] ++ [b[k]]])), .rw (.slice (some ⟨zg, 0, none⟩) (L[k].length + 1) zp) (L[k].length + 1) 1 (ncl (L[k] ++ [b[k]])), .ce yab (yao + k) (.int .i64 (b[k] : Nat)), .ce xab (xao + k) (.slice ua L[k].length uk), .rw (.slice ua L[k].length uk) L[k].length 1 (ncl L[k]), .gn (gRows hs O), .rw (.slice (some ⟨yab, yao, none⟩) b.length yk) b.length 1 (ncl b), .mx (.slice (some ⟨xab, xao, none⟩) L.length xk) (L.map nl)] w7) := Lib.hid ((yE.out.note (.gn (gRows (hs ++ [Value.slice (some ⟨zg, 0, none⟩) (L[k].length + 1) zp]) (O ++ [L[k] ++ [b[k]]]))) (by have hl : (L[k] ++ [b[k]]).length = L[k].length + 1 := (by simp); have h2 : Rw w7 _ (.slice (some ⟨zg, 0, none⟩) (L[k] ++ [b[k]]).length zp) (L[k] ++ [b[k]]).length 1 (ncl (L[k] ++ [b[k]])) := (by rw [hl]; exact yE.out.fc 0 rfl); have h := gRows.app (yE.out.fc 4 rfl) h2; rw [hl] at h; exact h)).cast (by first | rfl | simp))
          clear E8 yE yH yT
          (try dsimp only)
          clear hHeld
          refine hKK.out _ _ (⟨(E9.out.fc 3 rfl).2, (E9.out.fc 2 rfl).2⟩) (fun hHeld => ?_)
          clear hKK KK
          try simp only [Act.put, List.setIfInBounds_toArray, List.set_cons_zero, List.set_cons_succ]
          refine uTake (i := 15) (some 9) (v := ?_) rfl rfl (by kernel_rfl) (by kernel_rfl) (by kernel_rfl) (by kernel_rfl) (fun _ _ _ h => h) (by rfl) (by assumption) ?_ ?_
          rotate_left
          · (intro wS hSw; (try dsimp only at hSw); go_simp; try with_reducible rfl)
          try simp only [Act.put, List.setIfInBounds_toArray, List.set_cons_zero, List.set_cons_succ]
          refine uDone (by kernel_rfl) ?_ _
          have hZ := E9.out.drop.drop
          have EZ : Hid (Env D w _ [.gn (gRows (hs ++ [Value.slice (some ⟨zg, 0, none⟩) (L[k].length + 1) zp]) (O ++ [L[k] ++ [b[k]]])), .rw (.slice (some ⟨yab, yao, none⟩) b.length yk) b.length 1 (ncl b), .mx (.slice (some ⟨xab, xao, none⟩) L.length xk) (L.map nl)] _) := Lib.hid ⟨hZ.bel, hZ.box, ⟨hZ.fc 0 rfl, ⟨hZ.fc 6 rfl, ⟨hZ.fc 7 rfl, trivial⟩⟩⟩⟩
          clear hZ
          go_wp2
          go_roundg (L.length - (k + 1))
          case rel => exact ⟨k + 1, [(yg, 22, yc)], yc, some ⟨yg, 0, none⟩, yp, _, O ++ [L[k] ++ [b[k]]], rfl, by simp, Lib.hid (EZ.out.cast (by simp)), Lib.hid (by rw [List.length_append, List.length_singleton]; exact yM.out), Lib.hid ⟨⟨by omega, rfl⟩, by rw [HP.out, List.take_add_one, sysL_get hk hkb]; rfl⟩⟩
          case measure => exact by omega
        · skip
          go_simp
          have E5 : Hid (Env D w ((w2.heap.size, 3, [.int .i64 (b[k] : Nat)]) :: (w1.heap.size, 3, []) :: tg) [.ce yab (yao + k) (.int .i64 (b[k] : Nat)), .ce xab (xao + k) (.slice ua L[k].length uk), .rw (.slice ua L[k].length uk) L[k].length 1 (ncl L[k]), .gn (gRows hs O), .rw (.slice (some ⟨yab, yao, none⟩) b.length yk) b.length 1 (ncl b), .mx (.slice (some ⟨xab, xao, none⟩) L.length xk) (L.map nl)] _) := Lib.hid ((E4.out.push 3 [.int .i64 (b[k] : Nat)] (w2.heap.size) (by simp)))
          (try dsimp only)
          clear hHeld
          refine hKK.out _ _ (⟨(E5.out.fc 1 rfl).2, (E5.out.fc 0 rfl).2⟩) (fun hHeld => ?_)
          clear hKK KK
          try simp only [Act.put, List.setIfInBounds_toArray, List.set_cons_zero, List.set_cons_succ]
          clear E4
          generalize w2.alloc (.cells #[.int .i64 (b[k] : Nat)] 3) = w3 at *
          refine uReady (rs := [6]) (by kernel_rfl) (by simp) ?_
          refine ReadyU.cons rfl (fun KK hKK => ?_) ReadyU.nil
          refine op_appN (c := uk) tiI (some 33) rfl rfl (.tmp 28) (.tmp 32) rfl E5.out (A := [(w2.heap.size, 3, [.int .i64 (b[k] : Nat)])]) (sg := [(w1.heap.size, 3, [])]) (B' := tg) (n := 0) (by first | rfl | simp) (.inr ⟨w1.heap.size, 0, rfl, rfl, Nat.le_refl _, by omega, rfl⟩) (by simp [Act.eval, Act.put]) (by simp [Act.eval, Act.put]; done) (Rw.src (E5.out.fc 2 rfl)) (by have := HRK.out; omega) ?_
          intro xs xv xc w4 xO xT xE
          (try simp only [Nat.zero_add] at xO xT)
          obtain ⟨ra, rk, rfl⟩ := xO.out.len
          have E6 : Hid (Env D w ((w2.heap.size, 3, [.int .i64 (b[k] : Nat)]) :: (tg ++ xs)) [.ce yab (yao + k) (.int .i64 (b[k] : Nat)), .ce xab (xao + k) (.slice ua L[k].length uk), .rw (.slice ua L[k].length uk) L[k].length 1 (ncl L[k]), .gn (gRows hs O), .rw (.slice (some ⟨yab, yao, none⟩) b.length yk) b.length 1 (ncl b), .mx (.slice (some ⟨xab, xao, none⟩) L.length xk) (L.map nl)] w4) := Lib.hid ((xE.out.perm (List.Perm.append_left [(w2.heap.size, 3, [.int .i64 (b[k] : Nat)])] (List.perm_append_comm (l₁ := xs) (l₂ := tg)))).cast (by first | rfl | simp))
          clear E5 xE
          (try dsimp only)
          clear hHeld
          refine hKK.out _ _ (⟨(E6.out.fc 1 rfl).2, (E6.out.fc 0 rfl).2⟩) (fun hHeld => ?_)
          clear hKK KK
          try simp only [Act.put, List.setIfInBounds_toArray, List.set_cons_zero, List.set_cons_succ]
          refine uReady (rs := [12]) (by kernel_rfl) (by simp) ?_
          refine ReadyU.cons rfl (fun KK hKK => ?_) ReadyU.nil
          refine op_app1 (c := 1) tiI (some 39) rfl rfl (.tmp 33) (.tmp 38) rfl E6.out (A := ((w2.heap.size, 3, [.int .i64 (b[k] : Nat)]) :: tg)) (sg := xs) (B' := []) (by simp) xO.out (by simp [Act.eval, Act.put]) (by simp [Act.eval, Act.put]; done) (SrcN.int (E6.out.bx 0 rfl)) (by have := HRK.out; omega) ?_
          intro zg zp zc w5 zH zT zE
          have E7 : Hid (Env D w ((w2.heap.size, 3, [.int .i64 (b[k] : Nat)]) :: tg) [.rw (.slice (some ⟨zg, 0, none⟩) (L[k].length + 1) zp) (L[k].length + 1) 1 (ncl (L[k] ++ [b[k]])), .ce yab (yao + k) (.int .i64 (b[k] : Nat)), .ce xab (xao + k) (.slice ua L[k].length uk), .rw (.slice ua L[k].length uk) L[k].length 1 (ncl L[k]), .gn (gRows hs O), .rw (.slice (some ⟨yab, yao, none⟩) b.length yk) b.length 1 (ncl b), .mx (.slice (some ⟨xab, xao, none⟩) L.length xk) (L.map nl)] w5) := Lib.hid (Env.cast (Env.freezeOS (A := ((w2.heap.size, 3, [.int .i64 (b[k] : Nat)]) :: tg)) (sg := [(zg, 3, zc)]) (B := []) (zE.out.cast (by simp)) (.inr ⟨zg, zp, rfl, rfl, zH.out.1, zH.out.2.1, zH.out.2.2⟩) (xs := ncl (L[k] ++ [b[k]])) (by have h := zT.out; rw [h]; have h2 := xT.out; simp only [Nat.mul_one] at h2 ⊢; rw [h2]; simp [ncl, nl, icl]) (ncl_one _)) (by simp))
          clear E6 zE
          (try dsimp only)
          clear hHeld
          refine hKK.out _ _ (⟨(E7.out.fc 2 rfl).2, (E7.out.fc 1 rfl).2⟩) (fun hHeld => ?_)
          clear hKK KK
          try simp only [Act.put, List.setIfInBounds_toArray, List.set_cons_zero, List.set_cons_succ]
          refine uReady (rs := [13]) (by kernel_rfl) (by simp) ?_
          refine ReadyU.cons rfl (fun KK hKK => ?_) ReadyU.nil
          go_simp
          have E8 : Hid (Env D w ((w5.heap.size, 22, [.slice (some ⟨zg, 0, none⟩) (L[k].length + 1) zp]) :: (w2.heap.size, 3, [.int .i64 (b[k] : Nat)]) :: tg) [.rw (.slice (some ⟨zg, 0, none⟩) (L[k].length + 1) zp) (L[k].length + 1) 1 (ncl (L[k] ++ [b[k]])), .ce yab (yao + k) (.int .i64 (b[k] : Nat)), .ce xab (xao + k) (.slice ua L[k].length uk), .rw (.slice ua L[k].length uk) L[k].length 1 (ncl L[k]), .gn (gRows hs O), .rw (.slice (some ⟨yab, yao, none⟩) b.length yk) b.length 1 (ncl b), .mx (.slice (some ⟨xab, xao, none⟩) L.length xk) (L.map nl)] _) := Lib.hid ((E7.out.push 22 [.slice (some ⟨zg, 0, none⟩) (L[k].length + 1) zp] (w5.heap.size) (by simp)))
          (try dsimp only)
          clear hHeld
          refine hKK.out _ _ (⟨(E8.out.fc 2 rfl).2, (E8.out.fc 1 rfl).2⟩) (fun hHeld => ?_)
          clear hKK KK
          try simp only [Act.put, List.setIfInBounds_toArray, List.set_cons_zero, List.set_cons_succ]
          clear E7
          generalize w5.alloc (.cells #[.slice (some ⟨zg, 0, none⟩) (L[k].length + 1) zp] 22) = w6 at *
          refine uReady (rs := [14]) (by kernel_rfl) (by simp) ?_
          refine ReadyU.cons rfl (fun KK hKK => ?_) ReadyU.nil
          refine op_app1 (c := 1) tiR (some 41) rfl rfl (.tmp 27) (.tmp 40) rfl E8.out (A := [(w5.heap.size, 22, [.slice (some ⟨zg, 0, none⟩) (L[k].length + 1) zp]), (w2.heap.size, 3, [.int .i64 (b[k] : Nat)])]) (sg := tg) (B' := []) (by simp) hM.out.1 (by simp [Act.eval, Act.put]) (by simp [Act.eval, Act.put]; done) (SrcN.one (E8.out.bx 0 rfl) rfl) (by omega) ?_
          intro yg yp yc w7 yH yT yE
          have yM := Lib.hid (OM.app (x := Value.slice (some ⟨zg, 0, none⟩) (L[k].length + 1) zp) (g' := yg) hM.out (by simpa using yH.out) (by simpa using yT.out))
          have E9 : Hid (Env D w ((w5.heap.size, 22, [.slice (some ⟨zg, 0, none⟩) (L[k].length + 1) zp]) :: (w2.heap.size, 3, [.int .i64 (b[k] : Nat)]) :: [(yg, 22, yc)]) [.gn (gRows (hs ++ [Value.slice (some ⟨zg, 0, none⟩) (L[k].length + 1) zp]) (O ++ [L[k] ++ [b[k]]])), .rw (.slice (some ⟨zg, 0, none⟩) (L[k].length + 1) zp) (L[k].length + 1) 1 (ncl (L[k] ++ [b[k]])), .ce yab (yao + k) (.int .i64 (b[k] : Nat)), .ce xab (xao + k) (.slice ua L[k].length uk), .rw (.slice ua L[k].length uk) L[k].length 1 (ncl L[k]), .gn (gRows hs O), .rw (.slice (some ⟨yab, yao, none⟩) b.length yk) b.length 1 (ncl b), .mx (.slice (some ⟨xab, xao, none⟩) L.length xk) (L.map nl)] w7) := Lib.hid ((yE.out.note (.gn (gRows (hs ++ [Value.slice (some ⟨zg, 0, none⟩) (L[k].length + 1) zp]) (O ++ [L[k] ++ [b[k]]]))) (by have hl : (L[k] ++ [b[k]]).length = L[k].length + 1 := (by simp); have h2 : Rw w7 _ (.slice (some ⟨zg, 0, none⟩) (L[k] ++ [b[k]]).length zp) (L[k] ++ [b[k]]).length 1 (ncl (L[k] ++ [b[k]])) := (by rw [hl]; exact yE.out.fc 0 rfl); have h := gRows.app (yE.out.fc 4 rfl) h2; rw [hl] at h; exact h)).cast (by first | rfl | simp))
          clear E8 yE yH yT
          (try dsimp only)
          clear hHeld
          refine hKK.out _ _ (⟨(E9.out.fc 3 rfl).2, (E9.out.fc 2 rfl).2⟩) (fun hHeld => ?_)
          clear hKK KK
          try simp only [Act.put, List.setIfInBounds_toArray, List.set_cons_zero, List.set_cons_succ]
          refine uTake (i := 15) (some 9) (v := ?_) rfl rfl (by kernel_rfl) (by kernel_rfl) (by kernel_rfl) (by kernel_rfl) (fun _ _ _ h => h) (by rfl) (by assumption) ?_ ?_
          rotate_left
          · (intro wS hSw; (try dsimp only at hSw); go_simp; try with_reducible rfl)
          try simp only [Act.put, List.setIfInBounds_toArray, List.set_cons_zero, List.set_cons_succ]
          refine uDone (by kernel_rfl) ?_ _
          have hZ := E9.out.drop.drop
          have EZ : Hid (Env D w _ [.gn (gRows (hs ++ [Value.slice (some ⟨zg, 0, none⟩) (L[k].length + 1) zp]) (O ++ [L[k] ++ [b[k]]])), .rw (.slice (some ⟨yab, yao, none⟩) b.length yk) b.length 1 (ncl b), .mx (.slice (some ⟨xab, xao, none⟩) L.length xk) (L.map nl)] _) := Lib.hid ⟨hZ.bel, hZ.box, ⟨hZ.fc 0 rfl, ⟨hZ.fc 6 rfl, ⟨hZ.fc 7 rfl, trivial⟩⟩⟩⟩
          clear hZ
          go_wp2
          go_roundg (L.length - (k + 1))
          case rel => exact ⟨k + 1, [(yg, 22, yc)], yc, some ⟨yg, 0, none⟩, yp, _, O ++ [L[k] ++ [b[k]]], rfl, by simp, Lib.hid (EZ.out.cast (by simp)), Lib.hid (by rw [List.length_append, List.length_singleton]; exact yM.out), Lib.hid ⟨⟨by omega, rfl⟩, by rw [HP.out, List.take_add_one, sysL_get hk hkb]; rfl⟩⟩
          case measure => exact by omega
      · skip
        go_simp
        have E4 : Hid (Env D w ((w1.heap.size, 3, [.int .i64 (b[k] : Nat)]) :: tg) [.ce yab (yao + k) (.int .i64 (b[k] : Nat)), .ce xab (xao + k) (.slice ua L[k].length uk), .rw (.slice ua L[k].length uk) L[k].length 1 (ncl L[k]), .gn (gRows hs O), .rw (.slice (some ⟨yab, yao, none⟩) b.length yk) b.length 1 (ncl b), .mx (.slice (some ⟨xab, xao, none⟩) L.length xk) (L.map nl)] _) := Lib.hid ((E3.out.push 3 [.int .i64 (b[k] : Nat)] (w1.heap.size) (by simp)))
        (try dsimp only)
        clear hHeld
        refine hKK.out _ _ (⟨(E4.out.fc 1 rfl).2, (E4.out.fc 0 rfl).2⟩) (fun hHeld => ?_)
        clear hKK KK
        try simp only [Act.put, List.setIfInBounds_toArray, List.set_cons_zero, List.set_cons_succ]
        clear E3
        generalize w1.alloc (.cells #[.int .i64 (b[k] : Nat)] 3) = w2 at *
        refine uReady (rs := [1]) (by kernel_rfl) (by simp) ?_
        refine ReadyU.cons rfl (fun KK hKK => ?_) ReadyU.nil
        go_simp
        have E5 : Hid (Env D w ((w2.heap.size, 3, []) :: (w1.heap.size, 3, [.int .i64 (b[k] : Nat)]) :: tg) [.ce yab (yao + k) (.int .i64 (b[k] : Nat)), .ce xab (xao + k) (.slice ua L[k].length uk), .rw (.slice ua L[k].length uk) L[k].length 1 (ncl L[k]), .gn (gRows hs O), .rw (.slice (some ⟨yab, yao, none⟩) b.length yk) b.length 1 (ncl b), .mx (.slice (some ⟨xab, xao, none⟩) L.length xk) (L.map nl)] _) := Lib.hid ((E4.out.push 3 [] (w2.heap.size) (by simp)))
        (try dsimp only)
        clear hHeld
        refine hKK.out _ _ (⟨(E5.out.fc 1 rfl).2, (E5.out.fc 0 rfl).2⟩) (fun hHeld => ?_)
        clear hKK KK
        try simp only [Act.put, List.setIfInBounds_toArray, List.set_cons_zero, List.set_cons_succ]
        clear E4
        generalize w2.alloc (.cells #[] 3) = w3 at *
        refine uReady (rs := [6]) (by kernel_rfl) (by simp) ?_
        refine ReadyU.cons rfl (fun KK hKK => ?_) ReadyU.nil
        refine op_appN (c := uk) tiI (some 33) rfl rfl (.tmp 28) (.tmp 32) rfl E5.out (A := []) (sg := [(w2.heap.size, 3, [])]) (B' := ((w1.heap.size, 3, [.int .i64 (b[k] : Nat)]) :: tg)) (n := 0) (by first | rfl | simp) (.inr ⟨w2.heap.size, 0, rfl, rfl, Nat.le_refl _, by omega, rfl⟩) (by simp [Act.eval, Act.put]) (by simp [Act.eval, Act.put]; done) (Rw.src (E5.out.fc 2 rfl)) (by have := HRK.out; omega) ?_
        intro xs xv xc w4 xO xT xE
        (try simp only [Nat.zero_add] at xO xT)
        obtain ⟨ra, rk, rfl⟩ := xO.out.len
        have E6 : Hid (Env D w ((w1.heap.size, 3, [.int .i64 (b[k] : Nat)]) :: (tg ++ xs)) [.ce yab (yao + k) (.int .i64 (b[k] : Nat)), .ce xab (xao + k) (.slice ua L[k].length uk), .rw (.slice ua L[k].length uk) L[k].length 1 (ncl L[k]), .gn (gRows hs O), .rw (.slice (some ⟨yab, yao, none⟩) b.length yk) b.length 1 (ncl b), .mx (.slice (some ⟨xab, xao, none⟩) L.length xk) (L.map nl)] w4) := Lib.hid ((xE.out.perm (List.Perm.append_left [] (List.perm_append_comm (l₁ := xs) (l₂ := ((w1.heap.size, 3, [.int .i64 (b[k] : Nat)]) :: tg))))).cast (by first | rfl | simp))
        clear E5 xE
        (try dsimp only)
        clear hHeld
        refine hKK.out _ _ (⟨(E6.out.fc 1 rfl).2, (E6.out.fc 0 rfl).2⟩) (fun hHeld => ?_)
        clear hKK KK
        try simp only [Act.put, List.setIfInBounds_toArray, List.set_cons_zero, List.set_cons_succ]
        refine uReady (rs := [12]) (by kernel_rfl) (by simp) ?_
        refine ReadyU.cons rfl (fun KK hKK => ?_) ReadyU.nil
        refine op_app1 (c := 1) tiI (some 39) rfl rfl (.tmp 33) (.tmp 38) rfl E6.out (A := ((w1.heap.size, 3, [.int .i64 (b[k] : Nat)]) :: tg)) (sg := xs) (B' := []) (by simp) xO.out (by simp [Act.eval, Act.put]) (by simp [Act.eval, Act.put]; done) (SrcN.int (E6.out.bx 0 rfl)) (by have := HRK.out; omega) ?_
        intro zg zp zc w5 zH zT zE
        have E7 : Hid (Env D w ((w1.heap.size, 3, [.int .i64 (b[k] : Nat)]) :: tg) [.rw (.slice (some ⟨zg, 0, none⟩) (L[k].length + 1) zp) (L[k].length + 1) 1 (ncl (L[k] ++ [b[k]])), .ce yab (yao + k) (.int .i64 (b[k] : Nat)), .ce xab (xao + k) (.slice ua L[k].length uk), .rw (.slice ua L[k].length uk) L[k].length 1 (ncl L[k]), .gn (gRows hs O), .rw (.slice (some ⟨yab, yao, none⟩) b.length yk) b.length 1 (ncl b), .mx (.slice (some ⟨xab, xao, none⟩) L.length xk) (L.map nl)] w5) := Lib.hid (Env.cast (Env.freezeOS (A := ((w1.heap.size, 3, [.int .i64 (b[k] : Nat)]) :: tg)) (sg := [(zg, 3, zc)]) (B := []) (zE.out.cast (by simp)) (.inr ⟨zg, zp, rfl, rfl, zH.out.1, zH.out.2.1, zH.out.2.2⟩) (xs := ncl (L[k] ++ [b[k]])) (by have h := zT.out; rw [h]; have h2 := xT.out; simp only [Nat.mul_one] at h2 ⊢; rw [h2]; simp [ncl, nl, icl]) (ncl_one _)) (by simp))
        clear E6 zE
        (try dsimp only)
        clear hHeld
        refine hKK.out _ _ (⟨(E7.out.fc 2 rfl).2, (E7.out.fc 1 rfl).2⟩) (fun hHeld => ?_)
        clear hKK KK
        try simp only [Act.put, List.setIfInBounds_toArray, List.set_cons_zero, List.set_cons_succ]
        refine uReady (rs := [13]) (by kernel_rfl) (by simp) ?_
        refine ReadyU.cons rfl (fun KK hKK => ?_) ReadyU.nil
        go_simp
        have E8 : Hid (Env D w ((w5.heap.size, 22, [.slice (some ⟨zg, 0, none⟩) (L[k].length + 1) zp]) :: (w1.heap.size, 3, [.int .i64 (b[k] : Nat)]) :: tg) [.rw (.slice (some ⟨zg, 0, none⟩) (L[k].length + 1) zp) (L[k].length + 1) 1 (ncl (L[k] ++ [b[k]])), .ce yab (yao + k) (.int .i64 (b[k] : Nat)), .ce xab (xao + k) (.slice ua L[k].length uk), .rw (.slice ua L[k].length uk) L[k].length 1 (ncl L[k]), .gn (gRows hs O), .rw (.slice (some ⟨yab, yao, none⟩) b.length yk) b.length 1 (ncl b), .mx (.slice (some ⟨xab, xao, none⟩) L.length xk) (L.map nl)] _) := Lib.hid ((E7.out.push 22 [.slice (some ⟨zg, 0, none⟩) (L[k].length + 1) zp] (w5.heap.size) (by simp)))
        (try dsimp only)
        clear hHeld
        refine hKK.out _ _ (⟨(E8.out.fc 2 rfl).2, (E8.out.fc 1 rfl).2⟩) (fun hHeld => ?_)
        clear hKK KK
        try simp only [Act.put, List.setIfInBounds_toArray, List.set_cons_zero, List.set_cons_succ]
        clear E7
        generalize w5.alloc (.cells #[.slice (some ⟨zg, 0, none⟩) (L[k].length + 1) zp] 22) = w6 at *
        refine uReady (rs := [14]) (by kernel_rfl) (by simp) ?_
        refine ReadyU.cons rfl (fun KK hKK => ?_) ReadyU.nil
        refine op_app1 (c := 1) tiR (some 41) rfl rfl (.tmp 27) (.tmp 40) rfl E8.out (A := [(w5.heap.size, 22, [.slice (some ⟨zg, 0, none⟩) (L[k].length + 1) zp]), (w1.heap.size, 3, [.int .i64 (b[k] : Nat)])]) (sg := tg) (B' := []) (by simp) hM.out.1 (by simp [Act.eval, Act.put]) (by simp [Act.eval, Act.put]; done) (SrcN.one (E8.out.bx 0 rfl) rfl) (by omega) ?_
        intro yg yp yc w7 yH yT yE
        have yM := Lib.hid (OM.app (x := Value.slice (some ⟨zg, 0, none⟩) (L[k].length + 1) zp) (g' := yg) hM.out (by simpa using yH.out) (by simpa using yT.out))
        have E9 : Hid (Env D w ((w5.heap.size, 22, [.slice (some ⟨zg, 0, none⟩) (L[k].length + 1) zp]) :: (w1.heap.size, 3, [.int .i64 (b[k] : Nat)]) :: [(yg, 22, yc)]) [.gn (gRows (hs ++ [Value.slice (some ⟨zg, 0, none⟩) (L[k].length + 1) zp]) (O ++ [L[k] ++ [b[k]]])), .rw (.slice (some ⟨zg, 0, none⟩) (L[k].length + 1) zp) (L[k].length + 1) 1 (ncl (L[k] ++ [b[k]])), .ce yab (yao + k) (.int .i64 (b[k] : Nat)), .ce xab (xao + k) (.slice ua L[k].length uk), .rw (.slice ua L[k].length uk) L[k].length 1 (ncl L[k]), .gn (gRows hs O), .rw (.slice (some ⟨yab, yao, none⟩) b.length yk) b.length 1 (ncl b), .mx (.slice (some ⟨xab, xao, none⟩) L.length xk) (L.map nl)] w7) := Lib.hid ((yE.out.note (.gn (gRows (hs ++ [Value.slice (some ⟨zg, 0, none⟩) (L[k].length + 1) zp]) (O ++ [L[k] ++ [b[k]]]))) (by have hl : (L[k] ++ [b[k]]).length = L[k].length + 1 := (by simp); have h2 : Rw w7 _ (.slice (some ⟨zg, 0, none⟩) (L[k] ++ [b[k]]).length zp) (L[k] ++ [b[k]]).length 1 (ncl (L[k] ++ [b[k]])) := (by rw [hl]; exact yE.out.fc 0 rfl); have h := gRows.app (yE.out.fc 4 rfl) h2; rw [hl] at h; exact h)).cast (by first | rfl | simp))
        clear E8 yE yH yT
        (try dsimp only)
        clear hHeld
        refine hKK.out _ _ (⟨(E9.out.fc 3 rfl).2, (E9.out.fc 2 rfl).2⟩) (fun hHeld => ?_)
        clear hKK KK
        try simp only [Act.put, List.setIfInBounds_toArray, List.set_cons_zero, List.set_cons_succ]
        refine uTake (i := 15) (some 9) (v := ?_) rfl rfl (by kernel_rfl) (by kernel_rfl) (by kernel_rfl) (by kernel_rfl) (fun _ _ _ h => h) (by rfl) (by assumption) ?_ ?_
        rotate_left
        · (intro wS hSw; (try dsimp only at hSw); go_simp; try with_reducible rfl)
        try simp only [Act.put, List.setIfInBounds_toArray, List.set_cons_zero, List.set_cons_succ]
        refine uDone (by kernel_rfl) ?_ _
        have hZ := E9.out.drop.drop
        have EZ : Hid (Env D w _ [.gn (gRows (hs ++ [Value.slice (some ⟨zg, 0, none⟩) (L[k].length + 1) zp]) (O ++ [L[k] ++ [b[k]]])), .rw (.slice (some ⟨yab, yao, none⟩) b.length yk) b.length 1 (ncl b), .mx (.slice (some ⟨xab, xao, none⟩) L.length xk) (L.map nl)] _) := Lib.hid ⟨hZ.bel, hZ.box, ⟨hZ.fc 0 rfl, ⟨hZ.fc 6 rfl, ⟨hZ.fc 7 rfl, trivial⟩⟩⟩⟩
        clear hZ
        go_wp2
        go_roundg (L.length - (k + 1))
        case rel => exact ⟨k + 1, [(yg, 22, yc)], yc, some ⟨yg, 0, none⟩, yp, _, O ++ [L[k] ++ [b[k]]], rfl, by simp, Lib.hid (EZ.out.cast (by simp)), Lib.hid (by rw [List.length_append, List.length_singleton]; exact yM.out), Lib.hid ⟨⟨by omega, rfl⟩, by rw [HP.out, List.take_add_one, sysL_get hk hkb]; rfl⟩⟩
        case measure => exact by omega
    have t6 : decide ((k : Int) < (L.length : Int)) = false := decide_eq_false (by omega)
    have t6n : decide (k < L.length) = false := decide_eq_false (by omega)
    have HOS : Hid (O = sysL L b) := Lib.hid (by rw [HP.out]; exact List.take_of_length_le (by rw [sysL_len]; omega))
    have HOL2 : Hid (O.length = L.length) := Lib.hid (by rw [HOS.out, sysL_len])
    clear hy
    go_upto_region 6 with (fail)
    have E1 : Hid (Env D w [] [.mx (.slice ta O.length tk) (O.map nl), .gn (gRows hs O), .rw (.slice ya b.length yk) b.length 1 (ncl b), .mx (.slice xa L.length xk) (L.map nl)] _) := Lib.hid ((Env.freezeOM (A := []) (sg := tg) (B := []) (EL.out.cast (by first | rfl | simp)) hM.out 0 rfl).cast (by first | rfl | simp))
    clear EL
    clear t6 t6n a1 a2
    have hz : 0 < L.length := hv.out.m1
    have hzI : (0 : Int) < (L.length : Int) := by omega
    have HL0 : Hid (L[0].length = n) := Lib.hid (hv.out.res _ (List.getElem_mem hz)).1
    obtain ⟨xab, xao, rfl⟩ := Mx.addrN (E1.out.fc 3 rfl) hz
    obtain ⟨ua, uk, E20⟩ := E1.out.elMN 3 rfl (0) hz
    have E2 : Hid (Env D w [] [.ce xab (xao) (.slice ua L[0].length uk), .rw (.slice ua L[0].length uk) L[0].length 1 (ncl L[0]), .mx (.slice ta O.length tk) (O.map nl), .gn (gRows hs O), .rw (.slice ya b.length yk) b.length 1 (ncl b), .mx (.slice (some ⟨xab, xao, none⟩) L.length xk) (L.map nl)] _) := Lib.hid E20
    clear E20 E1
    have u0 := (E2.out.fc 0 rfl).2
    have hl0 := HL0.out
    go_upto_region 7 with (fail)
    clear hl0
    have HRO : Hid (ResM q (n + 1) O) := Lib.hid (by rw [HOS.out]; exact sysL_res hv.out.res hsq.out hne.out)
    have HRO2 : Hid (redN q O n = (M, P)) := Lib.hid (by rw [HOS.out]; exact hR.out)
    have HO1 : Hid (1 ≤ O.length ∧ O.length ≤ 30) := Lib.hid (by rw [HOL2.out]; exact ⟨hv.out.m1, hv.out.m30⟩)
    go_wp2_with fail
    refine (rReduce_c q (n + 1) n O M P (E2.out.fc 2 rfl) hv.out.q2 hv.out.qT HRO.out (Nat.le_succ n) HO1.out.1 HO1.out.2 (by omega) HRO2.out).mono ?_
    rintro e w1 ⟨⟨ea, ek, pa, pk, rfl, mH, pH⟩, hb⟩
    have E3 : Hid (Env D w [] [.rw (.slice pa P.length pk) P.length 1 (ncl P), .mx (.slice ea M.length ek) (M.map nl), .ce xab (xao) (.slice ua L[0].length uk), .rw (.slice ua L[0].length uk) L[0].length 1 (ncl L[0]), .mx (.slice ta O.length tk) (O.map nl), .gn (gRows hs O), .rw (.slice ya b.length yk) b.length 1 (ncl b), .mx (.slice (some ⟨xab, xao, none⟩) L.length xk) (L.map nl)] w1) := Lib.hid (E2.out.got (E2.out.got (E2.out.below hb) (.mx (.slice ea M.length ek) (M.map nl)) mH.out) (.rw (.slice pa P.length pk) P.length 1 (ncl P)) pH.out)
    clear u0 E2 hb mH pH
    have HI := Lib.hid (SysI.of hv.out hne.out hsq.out hR.out)
    go_wp2_with fail
    have HI := Lib.hid (SysI.of hv.out hne.out hsq.out hR.out)
    have HML : Hid (M.length = L.length) := Lib.hid HI.out.len
    have hpm : P.length ≤ M.length := by rw [HML.out]; exact HI.out.few
    have hpn : P.length ≤ n := HI.out.fewn
    have hml30 : M.length ≤ 30 := by rw [HML.out]; exact m30
    go_loopg [14] (M.length - P.length) (fun gk s14 wr => ∃ (i : Nat), s14 = .int .i64 (i : Int) ∧ Hid (Env D w [] [.rw (.slice pa P.length pk) P.length 1 (ncl P), .mx (.slice ea M.length ek) (M.map nl), .ce xab (xao) (.slice ua L[0].length uk), .rw (.slice ua L[0].length uk) L[0].length 1 (ncl L[0]), .mx (.slice ta O.length tk) (O.map nl), .gn (gRows hs O), .rw (.slice ya b.length yk) b.length 1 (ncl b), .mx (.slice (some ⟨xab, xao, none⟩) L.length xk) (L.map nl)] wr) ∧ Hid ((P.length ≤ i ∧ i ≤ M.length ∧ gk = M.length - i) ∧ ∀ j, P.length ≤ j → j < i → (M.getD j []).getD n 0 = 0))
    case atStart => exact ⟨P.length, rfl, Lib.hid E3.out, Lib.hid ⟨⟨Nat.le_refl _, hpm, rfl⟩, fun j h1 h2 => absurd h2 (by omega)⟩⟩
    case round =>
      clear E3
      obtain ⟨i, rfl, EL, HA⟩ := hrel
      obtain ⟨⟨a1, a2, a3⟩, a4⟩ := HA.out
      have HZ := Lib.hid a4
      clear a4 HA
      by_cases hy : i < M.length
      · have hi := hy
        have t6 : decide ((i : Int) < (M.length : Int)) = true := decide_eq_true (by omega)
        have t6n : decide (i < M.length) = true := decide_eq_true (by omega)
        have hiI : (i : Int) < (M.length : Int) := by omega
        clear hy
        go_upto_region 11 with (fail)
        have HMR : Hid (M[i].length = n + 1 ∧ ∀ y ∈ M[i], y < q) := Lib.hid (HI.out.res _ (List.getElem_mem hi))
        obtain ⟨eab, eao, rfl⟩ := Mx.addrN (EL.out.fc 1 rfl) hi
        obtain ⟨ma, mk, E40⟩ := EL.out.elMN 1 rfl (i) hi
        have E4 : Hid (Env D w [] [.ce eab (eao + i) (.slice ma M[i].length mk), .rw (.slice ma M[i].length mk) M[i].length 1 (ncl M[i]), .rw (.slice pa P.length pk) P.length 1 (ncl P), .mx (.slice (some ⟨eab, eao, none⟩) M.length ek) (M.map nl), .ce xab (xao) (.slice ua L[0].length uk), .rw (.slice ua L[0].length uk) L[0].length 1 (ncl L[0]), .mx (.slice ta O.length tk) (O.map nl), .gn (gRows hs O), .rw (.slice ya b.length yk) b.length 1 (ncl b), .mx (.slice (some ⟨xab, xao, none⟩) L.length xk) (L.map nl)] _) := Lib.hid E40
        clear E40 EL
        have m0 := (E4.out.fc 0 rfl).2
        have hnm : n < M[i].length := by rw [HMR.out.1]; omega
        have hnmI : (n : Int) < (M[i].length : Int) := by omega
        obtain ⟨mab, mao, rfl⟩ := Rw.addr (E4.out.fc 1 rfl) (by omega)
        have E5 : Hid (Env D w [] [.ce mab (mao + n) (.int .i64 (M[i][n] : Nat)), .ce eab (eao + i) (.slice (some ⟨mab, mao, none⟩) M[i].length mk), .rw (.slice (some ⟨mab, mao, none⟩) M[i].length mk) M[i].length 1 (ncl M[i]), .rw (.slice pa P.length pk) P.length 1 (ncl P), .mx (.slice (some ⟨eab, eao, none⟩) M.length ek) (M.map nl), .ce xab (xao) (.slice ua L[0].length uk), .rw (.slice ua L[0].length uk) L[0].length 1 (ncl L[0]), .mx (.slice ta O.length tk) (O.map nl), .gn (gRows hs O), .rw (.slice ya b.length yk) b.length 1 (ncl b), .mx (.slice (some ⟨xab, xao, none⟩) L.length xk) (L.map nl)] _) := Lib.hid (E4.out.elN 1 rfl rfl (n) hnm)
        clear E4
        have v0 := (E5.out.fc 0 rfl).2
        by_cases hb : M[i][n] = 0
        · have e1 : (((M[i][n] : Nat) : Int) != 0) = false := by rw [hb]; rfl
          have e1n : (M[i][n] != 0) = false := by rw [hb]; rfl
          have HN : Hid (∀ j, P.length ≤ j → j < i + 1 → (M.getD j []).getD n 0 = 0) := Lib.hid (fun j h1 h2 => by by_cases e : j = i; (· rw [e, getL_elem hi, getD_elem hnm]; exact hb); exact HZ.out j h1 (by omega))
          clear hb
          have EZ := Lib.hid (((E5.out.forget).forget).forget)
          go_wp2
          go_roundg (M.length - (i + 1))
          case rel => exact ⟨i + 1, rfl, EZ, Lib.hid ⟨⟨by omega, by omega, rfl⟩, HN.out⟩⟩
          case measure => exact by omega
        have e1 : (((M[i][n] : Nat) : Int) != 0) = true := by rw [bne_iff_ne]; omega
        have e1n : (M[i][n] != 0) = true := by rw [bne_iff_ne]; exact hb
        have HTT : Hid (t = true) := Lib.hid (by rw [← ht.out]; exact noneB_yes (s := (M, P)) (k := i - P.length) (by simp only; omega) (by simp only; rw [show P.length + (i - P.length) = i from by omega, getL_elem hi, getD_elem hnm]; exact hb))
        clear hb
        have hfin := Lib.hid E5.out.bel
        go_wp2
        refine bodyPost_ret (results_tmp3 rfl _ _ _) rfl ?_
        exact ⟨.inl ⟨HTT.out, rfl⟩, hfin.out⟩
      have t6 : decide ((i : Int) < (M.length : Int)) = false := decide_eq_false (by omega)
      have t6n : decide (i < M.length) = false := decide_eq_false (by omega)
      have HTF : Hid (t = false) := Lib.hid (by rw [← ht.out]; exact noneB_no (k := 0) (s := (M, P)) (fun j hj => HZ.out _ (by simp only; omega) (by simp only at hj ⊢; omega)))
      clear hy
      go_upto_region 13 with (fail)
      have E4 : Hid (Env D w [] [.rw (.slice pa P.length pk) P.length 1 (ncl P), .mx (.slice ea M.length ek) (M.map nl)] _) := Lib.hid (by have hZ := EL.out; exact ⟨hZ.bel, hZ.box, ⟨hZ.fc 0 rfl, ⟨hZ.fc 1 rfl, trivial⟩⟩⟩)
      clear EL
      clear t6 t6n a1 a2 a3
      go_wp2_with (at_make; refine wpl_makeI rfl _ _ rfl E4.out n rfl rfl (by omega) ?_)
      intro w2 xg xgE
      have E5 : Hid (Env D w [(xg, 3, (ncl (List.replicate n 0)))] [.rw (.slice pa P.length pk) P.length 1 (ncl P), .mx (.slice ea M.length ek) (M.map nl)] w2) := Lib.hid (by have h := xgE.out; rw [ncl_rep] at h; exact h.cast (by first | rfl | simp))
      clear E4 xgE
      go_wp2_with fail
      go_loopg [16] (P.length) (fun gk s16 wr => ∃ (i : Nat), s16 = .int .i64 (i : Int) ∧ Hid (Env D w [(xg, 3, (ncl (partV n P M i)))] [.rw (.slice pa P.length pk) P.length 1 (ncl P), .mx (.slice ea M.length ek) (M.map nl)] wr) ∧ Hid (i ≤ P.length ∧ gk = P.length - i))
      case atStart => exact ⟨0, rfl, Lib.hid E5.out, Lib.hid ⟨Nat.zero_le _, rfl⟩⟩
      case round =>
        clear E5
        obtain ⟨i, rfl, EL, HA⟩ := hrel
        obtain ⟨c1, c2⟩ := HA.out
        clear HA
        by_cases hy : i < P.length
        · have hi := hy
          have t6 : decide ((i : Int) < (P.length : Int)) = true := decide_eq_true (by omega)
          have t6n : decide (i < P.length) = true := decide_eq_true (by omega)
          have hiI : (i : Int) < (P.length : Int) := by omega
          clear hy
          go_upto_region 17 with (fail)
          have him : i < M.length := by omega
          have himI : (i : Int) < (M.length : Int) := by omega
          have HMR : Hid (M[i].length = n + 1 ∧ ∀ y ∈ M[i], y < q) := Lib.hid (HI.out.res _ (List.getElem_mem him))
          have HPI : Hid (P[i] < n) := Lib.hid (HI.out.lt _ (List.getElem_mem hi))
          have hpi := HPI.out
          have hpiI : ((P[i] : Nat) : Int) < (n : Int) := Int.ofNat_lt.2 hpi
          obtain ⟨pab, pao, rfl⟩ := Rw.addr (EL.out.fc 0 rfl) (by omega)
          have E6 : Hid (Env D w [(xg, 3, (ncl (partV n P M i)))] [.ce pab (pao + i) (.int .i64 (P[i] : Nat)), .rw (.slice (some ⟨pab, pao, none⟩) P.length pk) P.length 1 (ncl P), .mx (.slice ea M.length ek) (M.map nl)] _) := Lib.hid (EL.out.elN 0 rfl rfl (i) hi)
          clear EL
          have p0 := (E6.out.fc 0 rfl).2
          obtain ⟨eab, eao, rfl⟩ := Mx.addrN (E6.out.fc 2 rfl) him
          obtain ⟨ma, mk, E70⟩ := E6.out.elMN 2 rfl (i) him
          have E7 : Hid (Env D w [(xg, 3, (ncl (partV n P M i)))] [.ce eab (eao + i) (.slice ma M[i].length mk), .rw (.slice ma M[i].length mk) M[i].length 1 (ncl M[i]), .ce pab (pao + i) (.int .i64 (P[i] : Nat)), .rw (.slice (some ⟨pab, pao, none⟩) P.length pk) P.length 1 (ncl P), .mx (.slice (some ⟨eab, eao, none⟩) M.length ek) (M.map nl)] _) := Lib.hid E70
          clear E70 E6
          have m0 := (E7.out.fc 0 rfl).2
          have hkm : n < M[i].length := by rw [HMR.out.1]; omega
          have hkmI : (n : Int) < (M[i].length : Int) := by omega
          obtain ⟨mab, mao, rfl⟩ := Rw.addr (E7.out.fc 1 rfl) (by omega)
          have E8 : Hid (Env D w [(xg, 3, (ncl (partV n P M i)))] [.ce mab (mao + n) (.int .i64 (M[i][n] : Nat)), .ce eab (eao + i) (.slice (some ⟨mab, mao, none⟩) M[i].length mk), .rw (.slice (some ⟨mab, mao, none⟩) M[i].length mk) M[i].length 1 (ncl M[i]), .ce pab (pao + i) (.int .i64 (P[i] : Nat)), .rw (.slice (some ⟨pab, pao, none⟩) P.length pk) P.length 1 (ncl P), .mx (.slice (some ⟨eab, eao, none⟩) M.length ek) (M.map nl)] _) := Lib.hid (E7.out.elN 1 rfl rfl (n) hkm)
          clear E7
          have v0 := (E8.out.fc 0 rfl).2
          have hpst := Lib.hid (partV_step (n := n) hi him hkm)
          go_wp2_with fail
          have E9 : Hid (Env D w [(xg, 3, (ncl (partV n P M i)))] [.ce mab (mao + n) (.int .i64 (M[i][n] : Nat)), .ce eab (eao + i) (.slice (some ⟨mab, mao, none⟩) M[i].length mk), .rw (.slice (some ⟨mab, mao, none⟩) M[i].length mk) M[i].length 1 (ncl M[i]), .ce pab (pao + i) (.int .i64 (P[i] : Nat)), .rw (.slice (some ⟨pab, pao, none⟩) P.length pk) P.length 1 (ncl P), .mx (.slice (some ⟨eab, eao, none⟩) M.length ek) (M.map nl)] (wr.drew)) := Lib.hid E8.out.drew
          clear p0 m0 v0 E8
          refine wp_regionU (S := fun w' => w'.cell? ⟨pab, pao + i, none⟩ = some (.int .i64 (P[i] : Nat)) ∧ w'.cell? ⟨eab, eao + i, none⟩ = some (.slice (some ⟨mab, mao, none⟩) M[i].length mk) ∧ w'.cell? ⟨mab, mao + n, none⟩ = some (.int .i64 (M[i][n] : Nat))) [13] (by kernel_rfl) (⟨(E9.out.fc 3 rfl).2, (E9.out.fc 1 rfl).2, (E9.out.fc 0 rfl).2⟩) (fun hHeld => ?_)
          generalize wr.drew = w3 at *
          refine uTake (i := 0) (some 77) (v := ?_) rfl rfl (by kernel_rfl) (by kernel_rfl) (by kernel_rfl) (by kernel_rfl) (fun _ _ _ h => h) (by rfl) (by assumption) ?_ ?_
          rotate_left
          · (intro wS hSw; (try dsimp only at hSw); go_simp; try with_reducible rfl)
          try simp only [Act.put, List.setIfInBounds_toArray, List.set_cons_zero, List.set_cons_succ]
          refine uTake (i := 1) (some 78) (v := ?_) rfl rfl (by kernel_rfl) (by kernel_rfl) (by kernel_rfl) (by kernel_rfl) (fun _ _ _ h => h) (by rfl) (by assumption) ?_ ?_
          rotate_left
          · (intro wS hSw; (try dsimp only at hSw); go_simp; try with_reducible rfl)
          try simp only [Act.put, List.setIfInBounds_toArray, List.set_cons_zero, List.set_cons_succ]
          refine uTake (i := 2) (some 79) (v := ?_) rfl rfl (by kernel_rfl) (by kernel_rfl) (by kernel_rfl) (by kernel_rfl) (fun _ _ _ h => h) (by rfl) (by assumption) ?_ ?_
          rotate_left
          · (intro wS hSw; (try dsimp only at hSw); go_simp; try with_reducible rfl)
          try simp only [Act.put, List.setIfInBounds_toArray, List.set_cons_zero, List.set_cons_succ]
          refine uTake (i := 3) (some 80) (v := ?_) rfl rfl (by kernel_rfl) (by kernel_rfl) (by kernel_rfl) (by kernel_rfl) (fun _ _ _ h => h) (by rfl) (by assumption) ?_ ?_
          rotate_left
          · (intro wS hSw; (try dsimp only at hSw); go_simp; try with_reducible rfl)
          try simp only [Act.put, List.setIfInBounds_toArray, List.set_cons_zero, List.set_cons_succ]
          refine uTake (i := 4) (some 81) (v := ?_) rfl rfl (by kernel_rfl) (by kernel_rfl) (by kernel_rfl) (by kernel_rfl) (fun _ _ _ h => h) (by rfl) (by assumption) ?_ ?_
          rotate_left
          · (intro wS hSw; (try dsimp only at hSw); go_simp; try with_reducible rfl)
          try simp only [Act.put, List.setIfInBounds_toArray, List.set_cons_zero, List.set_cons_succ]
          refine uTake (i := 5) (some 82) (v := ?_) rfl rfl (by kernel_rfl) (by kernel_rfl) (by kernel_rfl) (by kernel_rfl) (fun _ _ _ h => h) (by rfl) (by assumption) ?_ ?_
          rotate_left
          · (intro wS hSw; (try dsimp only at hSw); go_simp; try with_reducible rfl)
          try simp only [Act.put, List.setIfInBounds_toArray, List.set_cons_zero, List.set_cons_succ]
          refine uTake (i := 6) (some 83) (v := ?_) rfl rfl (by kernel_rfl) (by kernel_rfl) (by kernel_rfl) (by kernel_rfl) (fun _ _ _ h => h) (by rfl) (by assumption) ?_ ?_
          rotate_left
          · (intro wS hSw; (try dsimp only at hSw); go_simp; try with_reducible rfl)
          try simp only [Act.put, List.setIfInBounds_toArray, List.set_cons_zero, List.set_cons_succ]
          refine uTake (i := 7) (some 84) (v := ?_) rfl rfl (by kernel_rfl) (by kernel_rfl) (by kernel_rfl) (by kernel_rfl) (fun _ _ _ h => h) (by rfl) (by assumption) ?_ ?_
          rotate_left
          · (intro wS hSw; (try dsimp only at hSw); go_simp; try with_reducible rfl)
          try simp only [Act.put, List.setIfInBounds_toArray, List.set_cons_zero, List.set_cons_succ]
          refine uTake (i := 8) (some 85) (v := ?_) rfl rfl (by kernel_rfl) (by kernel_rfl) (by kernel_rfl) (by kernel_rfl) (fun _ _ _ h => h) (by rfl) (by assumption) ?_ ?_
          rotate_left
          · (intro wS hSw; (try dsimp only at hSw); go_simp; try with_reducible rfl)
          try simp only [Act.put, List.setIfInBounds_toArray, List.set_cons_zero, List.set_cons_succ]
          refine uTake (i := 9) (some 86) (v := ?_) rfl rfl (by kernel_rfl) (by kernel_rfl) (by kernel_rfl) (by kernel_rfl) (fun _ _ _ h => h) (by rfl) (by assumption) ?_ ?_
          rotate_left
          · (intro wS hSw; (try dsimp only at hSw); go_simp; try with_reducible rfl)
          try simp only [Act.put, List.setIfInBounds_toArray, List.set_cons_zero, List.set_cons_succ]
          refine uTake (i := 10) (some 87) (v := ?_) rfl rfl (by kernel_rfl) (by kernel_rfl) (by kernel_rfl) (by kernel_rfl) (fun _ _ _ h => h) (by rfl) (by assumption) ?_ ?_
          rotate_left
          · (intro wS hSw; (try dsimp only at hSw); go_simp; try with_reducible rfl)
          try simp only [Act.put, List.setIfInBounds_toArray, List.set_cons_zero, List.set_cons_succ]
          refine uTake (i := 11) (some 88) (v := ?_) rfl rfl (by kernel_rfl) (by kernel_rfl) (by kernel_rfl) (by kernel_rfl) (fun _ _ _ h => h) (by rfl) (by assumption) ?_ ?_
          rotate_left
          · (intro wS hSw; (try dsimp only at hSw); go_simp; try with_reducible rfl)
          try simp only [Act.put, List.setIfInBounds_toArray, List.set_cons_zero, List.set_cons_succ]
          refine uTake (i := 12) (some 89) (v := ?_) rfl rfl (by kernel_rfl) (by kernel_rfl) (by kernel_rfl) (by kernel_rfl) (fun _ _ _ h => h) (by rfl) (by assumption) ?_ ?_
          rotate_left
          · (intro wS hSw; (try dsimp only at hSw); go_simp; try with_reducible rfl)
          try simp only [Act.put, List.setIfInBounds_toArray, List.set_cons_zero, List.set_cons_succ]
          obtain ⟨xv, hxv⟩ : ∃ v, (ncl (partV n P M i))[P[i]]? = some v := by have h := partV_len (n := n) (P := P) (M := M) i; have h2 := HPI.out; exact ⟨_, List.getElem?_eq_getElem (show P[i] < (ncl (partV n P M i)).length by rw [ncl_len, h]; omega)⟩
          have bg := E9.out.bx 0 rfl
          have c1 := bg.cell (P[i]) (hxv)
          have c2 := bg.frozen (P[i])
          clear bg
          clear hxv
          refine uReady (rs := [13]) (by kernel_rfl) (by simp) ?_
          refine ReadyU.consU (by kernel_rfl) rfl (fun KK hKK => ?_) ReadyU.nil
          go_simp
          have E10 : Hid (Env D w [(xg, 3, (((ncl (partV n P M i))).set (P[i]) (.int .i64 (M[i][n] : Nat))))] [.ce mab (mao + n) (.int .i64 (M[i][n] : Nat)), .ce eab (eao + i) (.slice (some ⟨mab, mao, none⟩) M[i].length mk), .rw (.slice (some ⟨mab, mao, none⟩) M[i].length mk) M[i].length 1 (ncl M[i]), .ce pab (pao + i) (.int .i64 (P[i] : Nat)), .rw (.slice (some ⟨pab, pao, none⟩) P.length pk) P.length 1 (ncl P), .mx (.slice (some ⟨eab, eao, none⟩) M.length ek) (M.map nl)] _) := Lib.hid ((E9.out.set 0 (P[i]) (.int .i64 (M[i][n] : Nat)) rfl))
          (try dsimp only)
          (try clear hHeld)
          refine hKK.out _ _ ?_
          clear hKK KK
          try simp only [Act.put, List.setIfInBounds_toArray, List.set_cons_zero, List.set_cons_succ]
          refine uDone (by kernel_rfl) ?_ _
          have E11 : Hid (Env D w [(xg, 3, (ncl (partV n P M (i + 1))))] [.ce mab (mao + n) (.int .i64 (M[i][n] : Nat)), .ce eab (eao + i) (.slice (some ⟨mab, mao, none⟩) M[i].length mk), .rw (.slice (some ⟨mab, mao, none⟩) M[i].length mk) M[i].length 1 (ncl M[i]), .ce pab (pao + i) (.int .i64 (P[i] : Nat)), .rw (.slice (some ⟨pab, pao, none⟩) P.length pk) P.length 1 (ncl P), .mx (.slice (some ⟨eab, eao, none⟩) M.length ek) (M.map nl)] _) := Lib.hid (by have h := E10.out; rw [hpst.out] at h; exact h)
          have EZ := Lib.hid ((((E11.out.forget).forget).forget).forget)
          go_wp2
          go_roundg (P.length - (i + 1))
          case rel => exact ⟨i + 1, rfl, EZ, Lib.hid ⟨by omega, rfl⟩⟩
          case measure => exact by omega
        have t6 : decide ((i : Int) < (P.length : Int)) = false := decide_eq_false (by omega)
        have t6n : decide (i < P.length) = false := decide_eq_false (by omega)
        have HY : Hid (i = P.length) := Lib.hid (by omega)
        clear hy
        go_upto_region 18 with (fail)
        have E6 : Hid (Env D w [] [.rw (.slice (some ⟨xg, 0, none⟩) n n) n 1 (ncl (partV n P M P.length)), .rw (.slice pa P.length pk) P.length 1 (ncl P), .mx (.slice ea M.length ek) (M.map nl)] _) := Lib.hid (by have h := EL.out; rw [HY.out] at h; exact Env.freezeNn _ h (partV_len _) (by omega))
        go_wp2_with fail
        go_loopg [18, 17] (n) (fun gk s18 s17 wr => ∃ (f : Nat) (tg : List Bx) (ts : List Value) (ta : Option Addr) (tk : Nat) (hs : List Value) (O : List (List Nat)), s18 = .int .i64 (f : Int) ∧ s17 = .slice ta O.length tk ∧ Hid (Env D w tg [.gn (gRows hs O), .rw (.slice (some ⟨xg, 0, none⟩) n n) n 1 (ncl (partV n P M P.length)), .rw (.slice pa P.length pk) P.length 1 (ncl P), .mx (.slice ea M.length ek) (M.map nl)] wr) ∧ Hid (OM tg ts (.slice ta O.length tk) hs O.length) ∧ Hid ((f ≤ n ∧ gk = n - f) ∧ O = kerL q n P M f))
        case atStart => exact ⟨0, [], [], none, 0, [], [], rfl, rfl, Lib.hid ((E6.out.note (.gn (gRows [] [])) gRows.nil).cast (by simp)), Lib.hid OM.nil, Lib.hid ⟨⟨Nat.zero_le _, rfl⟩, rfl⟩⟩
        case round =>
          clear EL E6
          obtain ⟨f, tg, ts, ta, tk, hs, O, rfl, rfl, EL, hM, HA⟩ := hrel
          obtain ⟨⟨b1, b2⟩, b3⟩ := HA.out
          have HPO := Lib.hid b3
          clear b3 HA
          have hol : O.length ≤ 30 := by rw [HPO.out]; exact Nat.le_trans (kerL_len_le _) (by omega)
          by_cases hy : f = n
          · skip
            have t7 : decide ((f : Int) < (n : Int)) = false := decide_eq_false (by omega)
            have t7n : decide (f < n) = false := decide_eq_false (by omega)
            have HD : Hid (O = kerL q n P M n) := Lib.hid (by rw [HPO.out, hy])
            clear hy
            have hbel := Lib.hid EL.out.bel
            go_wp2
            refine bodyPost_ret (results_tmp3 rfl _ _ _) rfl ?_
            have EF := Env.freezeOM (A := []) (sg := tg) (B := []) (EL.out.cast (by first | rfl | simp)) hM.out 0 rfl
            have h1 : Fct.at _ _ _ := EF.out 0 rfl
            have h2 : Fct.at _ _ _ := EF.out 2 rfl
            rw [HD.out] at h1
            have hpl := partV_len (n := n) (P := P) (M := M) P.length
            refine ⟨.inr ⟨HTF.out, some ⟨xg, 0, none⟩, n, ta, tk, by rw [hpl, ← HD.out]; rfl, Lib.hid (by rw [hpl]; exact h2), Lib.hid h1⟩, hbel.out⟩
          have hf : f < n := by omega
          have t7 : decide ((f : Int) < (n : Int)) = true := decide_eq_true (by omega)
          have t7n : decide (f < n) = true := decide_eq_true (by omega)
          have hfI : (f : Int) < (n : Int) := by omega
          clear hy
          go_upto_region 22 with (fail)
          obtain ⟨pc, hpc⟩ : ∃ t, P.contains f = t := ⟨_, rfl⟩
          have HPC := Lib.hid hpc
          clear hpc
          cases pc with
          | true =>
            go_wp2_with fail
            refine (rpivot_c P f (EL.out.fc 2 rfl) (by omega)).mono ?_
            rintro e w3 ⟨⟨pr, rfl, rh⟩, hb⟩
            have E7 : Hid (Env D w tg [.gn (gRows hs O), .rw (.slice (some ⟨xg, 0, none⟩) n n) n 1 (ncl (partV n P M P.length)), .rw (.slice pa P.length pk) P.length 1 (ncl P), .mx (.slice ea M.length ek) (M.map nl)] w3) := Lib.hid (EL.out.below hb)
            clear EL hb
            have rt : decide (0 ≤ pr) = true := rh.trans HPC.out; have rs : 0 ≤ pr := of_decide_eq_true rt; have rs2 : decide (pr < 0) = false := decide_eq_false (by omega); clear rh
            have EZ := Lib.hid (E7.out)
            go_wp2
            go_roundg (n - (f + 1))
            case rel => exact ⟨f + 1, tg, ts, ta, tk, hs, O, rfl, rfl, EZ, hM, Lib.hid ⟨⟨by omega, rfl⟩, by rw [kerL_skip HPC.out]; exact HPO.out⟩⟩
            case measure => exact by omega
          | false =>
            go_wp2_with fail
            refine (rpivot_c P f (EL.out.fc 2 rfl) (by omega)).mono ?_
            rintro e w3 ⟨⟨pr, rfl, rh⟩, hb⟩
            have E7 : Hid (Env D w tg [.gn (gRows hs O), .rw (.slice (some ⟨xg, 0, none⟩) n n) n 1 (ncl (partV n P M P.length)), .rw (.slice pa P.length pk) P.length 1 (ncl P), .mx (.slice ea M.length ek) (M.map nl)] w3) := Lib.hid (EL.out.below hb)
            clear EL hb
            have rt : decide (0 ≤ pr) = false := rh.trans HPC.out; have rs : ¬ (0 ≤ pr) := of_decide_eq_false rt; have rs2 : decide (pr < 0) = true := decide_eq_true (by omega); clear rh
            go_upto_region 23 with (fail)
            go_wp2_with (at_make; refine wpl_makeI rfl _ _ rfl E7.out n rfl rfl (by omega) ?_)
            intro w4 vg vgE
            have E8 : Hid (Env D w ((vg, 3, (ncl (List.replicate n 0))) :: tg) [.gn (gRows hs O), .rw (.slice (some ⟨xg, 0, none⟩) n n) n 1 (ncl (partV n P M P.length)), .rw (.slice pa P.length pk) P.length 1 (ncl P), .mx (.slice ea M.length ek) (M.map nl)] w4) := Lib.hid (by have h := vgE.out; rw [ncl_rep] at h; exact h.cast (by first | rfl | simp))
            clear E7 vgE
            go_upto_region 24 with (fail)
            obtain ⟨xv, hxv⟩ : ∃ v, (ncl (List.replicate n 0))[f]? = some v := ⟨_, List.getElem?_eq_getElem (by rw [ncl_len, List.length_replicate]; omega)⟩
            have bg := E8.out.bx 0 rfl
            have c1 := bg.cell (f) (hxv)
            have c2 := bg.frozen (f)
            clear bg
            clear hxv
            have hk0 : Hid ((ncl (List.replicate n 0)).set f (.int .i64 ((1 : Nat) : Int)) = ncl (kerV q n P M f 0)) := Lib.hid (ncl_set _ _ _)
            have E9 : Hid (Env D w ((vg, 3, (((ncl (List.replicate n 0))).set (f) (.int .i64 1))) :: tg) [.gn (gRows hs O), .rw (.slice (some ⟨xg, 0, none⟩) n n) n 1 (ncl (partV n P M P.length)), .rw (.slice pa P.length pk) P.length 1 (ncl P), .mx (.slice ea M.length ek) (M.map nl)] _) := Lib.hid ((E8.out.set 0 f (.int .i64 1) rfl))
            have E10 : Hid (Env D w ((vg, 3, (ncl (kerV q n P M f 0))) :: tg) [.gn (gRows hs O), .rw (.slice (some ⟨xg, 0, none⟩) n n) n 1 (ncl (partV n P M P.length)), .rw (.slice pa P.length pk) P.length 1 (ncl P), .mx (.slice ea M.length ek) (M.map nl)] _) := Lib.hid (by have h := E9.out; rw [show (ncl (List.replicate n 0)).set f (.int .i64 1) = ncl (kerV q n P M f 0) from hk0.out] at h; exact h)
            go_wp2_with fail
            clear t7 t7n
            rename World => wo
            go_loopg [20] (P.length) (fun gk s20 wr => ∃ (i : Nat), s20 = .int .i64 (i : Int) ∧ Hid (Env D w ((vg, 3, (ncl (kerV q n P M f i))) :: tg) [.gn (gRows hs O), .rw (.slice (some ⟨xg, 0, none⟩) n n) n 1 (ncl (partV n P M P.length)), .rw (.slice pa P.length pk) P.length 1 (ncl P), .mx (.slice ea M.length ek) (M.map nl)] wr) ∧ Hid (i ≤ P.length ∧ gk = P.length - i))
            case atStart => exact ⟨0, rfl, Lib.hid E10.out, Lib.hid ⟨Nat.zero_le _, rfl⟩⟩
            case round =>
              clear c1 c2 E8 E9 E10
              obtain ⟨i, rfl, EL, HA⟩ := hrel
              obtain ⟨c3, c4⟩ := HA.out
              clear HA
              by_cases hy : i < P.length
              · have hi := hy
                have t8 : decide ((i : Int) < (P.length : Int)) = true := decide_eq_true (by omega)
                have t8n : decide (i < P.length) = true := decide_eq_true (by omega)
                have hiI : (i : Int) < (P.length : Int) := by omega
                clear hy
                go_upto_region 28 with (fail)
                have him : i < M.length := by omega
                have himI : (i : Int) < (M.length : Int) := by omega
                have HMR : Hid (M[i].length = n + 1 ∧ ∀ y ∈ M[i], y < q) := Lib.hid (HI.out.res _ (List.getElem_mem him))
                have HPI : Hid (P[i] < n) := Lib.hid (HI.out.lt _ (List.getElem_mem hi))
                have hpi := HPI.out
                have hpiI : ((P[i] : Nat) : Int) < (n : Int) := Int.ofNat_lt.2 hpi
                obtain ⟨pab, pao, rfl⟩ := Rw.addr (EL.out.fc 2 rfl) (by omega)
                have E11 : Hid (Env D w ((vg, 3, (ncl (kerV q n P M f i))) :: tg) [.ce pab (pao + i) (.int .i64 (P[i] : Nat)), .gn (gRows hs O), .rw (.slice (some ⟨xg, 0, none⟩) n n) n 1 (ncl (partV n P M P.length)), .rw (.slice (some ⟨pab, pao, none⟩) P.length pk) P.length 1 (ncl P), .mx (.slice ea M.length ek) (M.map nl)] _) := Lib.hid (EL.out.elN 2 rfl rfl (i) hi)
                clear EL
                have p0 := (E11.out.fc 0 rfl).2
                obtain ⟨eab, eao, rfl⟩ := Mx.addrN (E11.out.fc 4 rfl) him
                obtain ⟨ma, mk, E120⟩ := E11.out.elMN 4 rfl (i) him
                have E12 : Hid (Env D w ((vg, 3, (ncl (kerV q n P M f i))) :: tg) [.ce eab (eao + i) (.slice ma M[i].length mk), .rw (.slice ma M[i].length mk) M[i].length 1 (ncl M[i]), .ce pab (pao + i) (.int .i64 (P[i] : Nat)), .gn (gRows hs O), .rw (.slice (some ⟨xg, 0, none⟩) n n) n 1 (ncl (partV n P M P.length)), .rw (.slice (some ⟨pab, pao, none⟩) P.length pk) P.length 1 (ncl P), .mx (.slice (some ⟨eab, eao, none⟩) M.length ek) (M.map nl)] _) := Lib.hid E120
                clear E120 E11
                have m0 := (E12.out.fc 0 rfl).2
                have hkm : f < M[i].length := by rw [HMR.out.1]; omega
                have hkmI : (f : Int) < (M[i].length : Int) := by omega
                obtain ⟨mab, mao, rfl⟩ := Rw.addr (E12.out.fc 1 rfl) (by omega)
                have E13 : Hid (Env D w ((vg, 3, (ncl (kerV q n P M f i))) :: tg) [.ce mab (mao + f) (.int .i64 (M[i][f] : Nat)), .ce eab (eao + i) (.slice (some ⟨mab, mao, none⟩) M[i].length mk), .rw (.slice (some ⟨mab, mao, none⟩) M[i].length mk) M[i].length 1 (ncl M[i]), .ce pab (pao + i) (.int .i64 (P[i] : Nat)), .gn (gRows hs O), .rw (.slice (some ⟨xg, 0, none⟩) n n) n 1 (ncl (partV n P M P.length)), .rw (.slice (some ⟨pab, pao, none⟩) P.length pk) P.length 1 (ncl P), .mx (.slice (some ⟨eab, eao, none⟩) M.length ek) (M.map nl)] _) := Lib.hid (E12.out.elN 1 rfl rfl (f) hkm)
                clear E12
                have v0 := (E13.out.fc 0 rfl).2
                have hmq : ((M[i][f] : Nat) : Int) < (q : Int) := Int.ofNat_lt.2 (HMR.out.2 _ (List.getElem_mem hkm))
                have hq9 : (q : Int) ≤ 2305843009213693952 := by have := hv.out.qT; unfold Top at this; omega
                have hqp : 0 < q := by have := hv.out.q2; omega
                have hq0n : ¬ (q = 0) := by omega
                have hpst := Lib.hid (kerV_step (q := q) (n := n) (r := (q - M[i][f]) % q) hi him hkm rfl)
                go_wp2_with fail
                have E14 : Hid (Env D w ((vg, 3, (ncl (kerV q n P M f i))) :: tg) [.ce mab (mao + f) (.int .i64 (M[i][f] : Nat)), .ce eab (eao + i) (.slice (some ⟨mab, mao, none⟩) M[i].length mk), .rw (.slice (some ⟨mab, mao, none⟩) M[i].length mk) M[i].length 1 (ncl M[i]), .ce pab (pao + i) (.int .i64 (P[i] : Nat)), .gn (gRows hs O), .rw (.slice (some ⟨xg, 0, none⟩) n n) n 1 (ncl (partV n P M P.length)), .rw (.slice (some ⟨pab, pao, none⟩) P.length pk) P.length 1 (ncl P), .mx (.slice (some ⟨eab, eao, none⟩) M.length ek) (M.map nl)] (wr.drew)) := Lib.hid E13.out.drew
                clear p0 m0 v0 E13
                refine wp_regionU (S := fun w' => w'.cell? ⟨pab, pao + i, none⟩ = some (.int .i64 (P[i] : Nat)) ∧ w'.cell? ⟨eab, eao + i, none⟩ = some (.slice (some ⟨mab, mao, none⟩) M[i].length mk) ∧ w'.cell? ⟨mab, mao + f, none⟩ = some (.int .i64 (M[i][f] : Nat))) [17] (by kernel_rfl) (⟨(E14.out.fc 3 rfl).2, (E14.out.fc 1 rfl).2, (E14.out.fc 0 rfl).2⟩) (fun hHeld => ?_)
                generalize wr.drew = w5 at *
                refine uTake (i := 0) (some 110) (v := ?_) rfl rfl (by kernel_rfl) (by kernel_rfl) (by kernel_rfl) (by kernel_rfl) (fun _ _ _ h => h) (by rfl) (by assumption) ?_ ?_
                rotate_left
                · (intro wS hSw; (try dsimp only at hSw); go_simp; try with_reducible rfl)
                try simp only [Act.put, List.setIfInBounds_toArray, List.set_cons_zero, List.set_cons_succ]
                refine uTake (i := 1) (some 111) (v := ?_) rfl rfl (by kernel_rfl) (by kernel_rfl) (by kernel_rfl) (by kernel_rfl) (fun _ _ _ h => h) (by rfl) (by assumption) ?_ ?_
                rotate_left
                · (intro wS hSw; (try dsimp only at hSw); go_simp; try with_reducible rfl)
                try simp only [Act.put, List.setIfInBounds_toArray, List.set_cons_zero, List.set_cons_succ]
                refine uTake (i := 2) (some 112) (v := ?_) rfl rfl (by kernel_rfl) (by kernel_rfl) (by kernel_rfl) (by kernel_rfl) (fun _ _ _ h => h) (by rfl) (by assumption) ?_ ?_
                rotate_left
                · (intro wS hSw; (try dsimp only at hSw); go_simp; try with_reducible rfl)
                try simp only [Act.put, List.setIfInBounds_toArray, List.set_cons_zero, List.set_cons_succ]
                refine uTake (i := 3) (some 113) (v := ?_) rfl rfl (by kernel_rfl) (by kernel_rfl) (by kernel_rfl) (by kernel_rfl) (fun _ _ _ h => h) (by rfl) (by assumption) ?_ ?_
                rotate_left
                · (intro wS hSw; (try dsimp only at hSw); go_simp; try with_reducible rfl)
                try simp only [Act.put, List.setIfInBounds_toArray, List.set_cons_zero, List.set_cons_succ]
                refine uTake (i := 4) (some 114) (v := ?_) rfl rfl (by kernel_rfl) (by kernel_rfl) (by kernel_rfl) (by kernel_rfl) (fun _ _ _ h => h) (by rfl) (by assumption) ?_ ?_
                rotate_left
                · (intro wS hSw; (try dsimp only at hSw); go_simp; try with_reducible rfl)
                try simp only [Act.put, List.setIfInBounds_toArray, List.set_cons_zero, List.set_cons_succ]
                refine uTake (i := 5) (some 115) (v := ?_) rfl rfl (by kernel_rfl) (by kernel_rfl) (by kernel_rfl) (by kernel_rfl) (fun _ _ _ h => h) (by rfl) (by assumption) ?_ ?_
                rotate_left
                · (intro wS hSw; (try dsimp only at hSw); go_simp; try with_reducible rfl)
                try simp only [Act.put, List.setIfInBounds_toArray, List.set_cons_zero, List.set_cons_succ]
                refine uTake (i := 6) (some 116) (v := ?_) rfl rfl (by kernel_rfl) (by kernel_rfl) (by kernel_rfl) (by kernel_rfl) (fun _ _ _ h => h) (by rfl) (by assumption) ?_ ?_
                rotate_left
                · (intro wS hSw; (try dsimp only at hSw); go_simp; try with_reducible rfl)
                try simp only [Act.put, List.setIfInBounds_toArray, List.set_cons_zero, List.set_cons_succ]
                refine uTake (i := 7) (some 117) (v := ?_) rfl rfl (by kernel_rfl) (by kernel_rfl) (by kernel_rfl) (by kernel_rfl) (fun _ _ _ h => h) (by rfl) (by assumption) ?_ ?_
                rotate_left
                · (intro wS hSw; (try dsimp only at hSw); go_simp; try with_reducible rfl)
                try simp only [Act.put, List.setIfInBounds_toArray, List.set_cons_zero, List.set_cons_succ]
                refine uTake (i := 8) (some 118) (v := ?_) rfl rfl (by kernel_rfl) (by kernel_rfl) (by kernel_rfl) (by kernel_rfl) (fun _ _ _ h => h) (by rfl) (by assumption) ?_ ?_
                rotate_left
                · (intro wS hSw; (try dsimp only at hSw); go_simp; try with_reducible rfl)
                try simp only [Act.put, List.setIfInBounds_toArray, List.set_cons_zero, List.set_cons_succ]
                refine uTake (i := 9) (some 119) (v := ?_) rfl rfl (by kernel_rfl) (by kernel_rfl) (by kernel_rfl) (by kernel_rfl) (fun _ _ _ h => h) (by rfl) (by assumption) ?_ ?_
                rotate_left
                · (intro wS hSw; (try dsimp only at hSw); go_simp; try with_reducible rfl)
                try simp only [Act.put, List.setIfInBounds_toArray, List.set_cons_zero, List.set_cons_succ]
                refine uTake (i := 10) (some 120) (v := ?_) rfl rfl (by kernel_rfl) (by kernel_rfl) (by kernel_rfl) (by kernel_rfl) (fun _ _ _ h => h) (by rfl) (by assumption) ?_ ?_
                rotate_left
                · (intro wS hSw; (try dsimp only at hSw); go_simp; try with_reducible rfl)
                try simp only [Act.put, List.setIfInBounds_toArray, List.set_cons_zero, List.set_cons_succ]
                refine uTake (i := 11) (some 121) (v := ?_) rfl rfl (by kernel_rfl) (by kernel_rfl) (by kernel_rfl) (by kernel_rfl) (fun _ _ _ h => h) (by rfl) (by assumption) ?_ ?_
                rotate_left
                · (intro wS hSw; (try dsimp only at hSw); go_simp; try with_reducible rfl)
                try simp only [Act.put, List.setIfInBounds_toArray, List.set_cons_zero, List.set_cons_succ]
                refine uTake (i := 12) (some 122) (v := ?_) rfl rfl (by kernel_rfl) (by kernel_rfl) (by kernel_rfl) (by kernel_rfl) (fun _ _ _ h => h) (by rfl) (by assumption) ?_ ?_
                rotate_left
                · (intro wS hSw; (try dsimp only at hSw); go_simp; try with_reducible rfl)
                try simp only [Act.put, List.setIfInBounds_toArray, List.set_cons_zero, List.set_cons_succ]
                refine uTake (i := 13) (some 123) (v := .int .i64 ((q - M[i][f] : Nat) : Int)) rfl rfl (by kernel_rfl) (by kernel_rfl) (by kernel_rfl) (by kernel_rfl) (fun _ _ _ h => h) (by rfl) (by assumption) ?_ ?_
                · (intro wS hSw; (try dsimp only at hSw); go_simp; rw [IntKind.wrap_i64]; omega)
                try simp only [Act.put, List.setIfInBounds_toArray, List.set_cons_zero, List.set_cons_succ]
                refine uTake (i := 14) (some 124) (v := ?_) rfl rfl (by kernel_rfl) (by kernel_rfl) (by kernel_rfl) (by kernel_rfl) (fun _ _ _ h => h) (by rfl) (by assumption) ?_ ?_
                rotate_left
                · (intro wS hSw; (try dsimp only at hSw); go_simp; try with_reducible rfl)
                try simp only [Act.put, List.setIfInBounds_toArray, List.set_cons_zero, List.set_cons_succ]
                refine uTake (i := 15) (some 125) (v := .int .i64 (((q - M[i][f]) % q : Nat) : Int)) rfl rfl (by kernel_rfl) (by kernel_rfl) (by kernel_rfl) (by kernel_rfl) (fun _ _ _ h => h) (by rfl) (by assumption) ?_ ?_
                · (intro wS hSw; (try dsimp only at hSw); go_simp; first | (rw [if_neg hq0n, Int.tmod_eq_emod_of_nonneg (Int.natCast_nonneg _)]) | (exact Int.tmod_eq_emod_of_nonneg (Int.natCast_nonneg _)))
                try simp only [Act.put, List.setIfInBounds_toArray, List.set_cons_zero, List.set_cons_succ]
                refine uTake (i := 16) (some 126) (v := ?_) rfl rfl (by kernel_rfl) (by kernel_rfl) (by kernel_rfl) (by kernel_rfl) (fun _ _ _ h => h) (by rfl) (by assumption) ?_ ?_
                rotate_left
                · (intro wS hSw; (try dsimp only at hSw); go_simp; try with_reducible rfl)
                try simp only [Act.put, List.setIfInBounds_toArray, List.set_cons_zero, List.set_cons_succ]
                obtain ⟨xv, hxv⟩ : ∃ v, (ncl (kerV q n P M f i))[P[i]]? = some v := by have h := kerV_len (q := q) (n := n) (P := P) (M := M) (f := f) i; have h2 := HPI.out; exact ⟨_, List.getElem?_eq_getElem (show P[i] < (ncl (kerV q n P M f i)).length by rw [ncl_len, h]; omega)⟩
                have bg := E14.out.bx 0 rfl
                have c1 := bg.cell (P[i]) (hxv)
                have c2 := bg.frozen (P[i])
                clear bg
                clear hxv
                refine uReady (rs := [17]) (by kernel_rfl) (by simp) ?_
                refine ReadyU.consU (by kernel_rfl) rfl (fun KK hKK => ?_) ReadyU.nil
                go_simp
                have E15 : Hid (Env D w ((vg, 3, (((ncl (kerV q n P M f i))).set (P[i]) (.int .i64 (((q - M[i][f]) % q : Nat) : Int)))) :: tg) [.ce mab (mao + f) (.int .i64 (M[i][f] : Nat)), .ce eab (eao + i) (.slice (some ⟨mab, mao, none⟩) M[i].length mk), .rw (.slice (some ⟨mab, mao, none⟩) M[i].length mk) M[i].length 1 (ncl M[i]), .ce pab (pao + i) (.int .i64 (P[i] : Nat)), .gn (gRows hs O), .rw (.slice (some ⟨xg, 0, none⟩) n n) n 1 (ncl (partV n P M P.length)), .rw (.slice (some ⟨pab, pao, none⟩) P.length pk) P.length 1 (ncl P), .mx (.slice (some ⟨eab, eao, none⟩) M.length ek) (M.map nl)] _) := Lib.hid ((E14.out.set 0 (P[i]) (.int .i64 (((q - M[i][f]) % q : Nat) : Int)) rfl))
                (try dsimp only)
                (try clear hHeld)
                refine hKK.out _ _ ?_
                clear hKK KK
                try simp only [Act.put, List.setIfInBounds_toArray, List.set_cons_zero, List.set_cons_succ]
                refine uDone (by kernel_rfl) ?_ _
                have E16 : Hid (Env D w ((vg, 3, (ncl (kerV q n P M f (i + 1)))) :: tg) [.ce mab (mao + f) (.int .i64 (M[i][f] : Nat)), .ce eab (eao + i) (.slice (some ⟨mab, mao, none⟩) M[i].length mk), .rw (.slice (some ⟨mab, mao, none⟩) M[i].length mk) M[i].length 1 (ncl M[i]), .ce pab (pao + i) (.int .i64 (P[i] : Nat)), .gn (gRows hs O), .rw (.slice (some ⟨xg, 0, none⟩) n n) n 1 (ncl (partV n P M P.length)), .rw (.slice (some ⟨pab, pao, none⟩) P.length pk) P.length 1 (ncl P), .mx (.slice (some ⟨eab, eao, none⟩) M.length ek) (M.map nl)] _) := Lib.hid (by have h := E15.out; rw [hpst.out] at h; exact h)
                have EZ := Lib.hid ((((E16.out.forget).forget).forget).forget)
                go_wp2
                go_roundg (P.length - (i + 1))
                case rel => exact ⟨i + 1, rfl, EZ, Lib.hid ⟨by omega, rfl⟩⟩
                case measure => exact by omega
              have t8 : decide ((i : Int) < (P.length : Int)) = false := decide_eq_false (by omega)
              have t8n : decide (i < P.length) = false := decide_eq_false (by omega)
              have HY2 : Hid (i = P.length) := Lib.hid (by omega)
              clear hy
              go_upto_region 29 with (fail)
              have E11 : Hid (Env D w tg [.rw (.slice (some ⟨vg, 0, none⟩) n n) n 1 (ncl (kerV q n P M f P.length)), .gn (gRows hs O), .rw (.slice (some ⟨xg, 0, none⟩) n n) n 1 (ncl (partV n P M P.length)), .rw (.slice pa P.length pk) P.length 1 (ncl P), .mx (.slice ea M.length ek) (M.map nl)] _) := Lib.hid (by have h := EL.out; rw [HY2.out] at h; exact Env.freezeNn _ h (kerV_len _) (by omega))
              obtain ⟨kv, hkv⟩ : ∃ v, kerV q n P M f P.length = v := ⟨_, rfl⟩
              have HKV := Lib.hid hkv
              have HKL : Hid (kv.length = n) := Lib.hid (by rw [← hkv]; exact kerV_len _)
              clear hkv
              have E12 : Hid (Env D w tg [.rw (.slice (some ⟨vg, 0, none⟩) kv.length n) kv.length 1 (ncl kv), .gn (gRows hs O), .rw (.slice (some ⟨xg, 0, none⟩) n n) n 1 (ncl (partV n P M P.length)), .rw (.slice pa P.length pk) P.length 1 (ncl P), .mx (.slice ea M.length ek) (M.map nl)] _) := Lib.hid (by rw [HKL.out]; have h := E11.out; rw [HKV.out] at h; exact h)
              have E13 : Hid (Env D w ((wr.heap.size, 22, [.slice (some ⟨vg, 0, none⟩) n n]) :: tg) [.rw (.slice (some ⟨vg, 0, none⟩) kv.length n) kv.length 1 (ncl kv), .gn (gRows hs O), .rw (.slice (some ⟨xg, 0, none⟩) n n) n 1 (ncl (partV n P M P.length)), .rw (.slice pa P.length pk) P.length 1 (ncl P), .mx (.slice ea M.length ek) (M.map nl)] _) := Lib.hid ((E12.out.push 22 [.slice (some ⟨vg, 0, none⟩) n n] (wr.heap.size) (by simp)))
              go_wp2_with (at_builtin; refine wpl_app1 (c := 1) tiR rfl _ _ rfl E13.out (A := [(wr.heap.size, 22, [.slice (some ⟨vg, 0, none⟩) n n])]) (sg := tg) (B' := []) (by simp) hM.out.1 rfl rfl (SrcN.one (E13.out.bx 0 rfl) rfl) (by omega) ?_)
              intro yg yp yc w5 yH yT yE
              have yM := Lib.hid (OM.app (x := Value.slice (some ⟨vg, 0, none⟩) n n) (g' := yg) hM.out (by simpa using yH.out) (by simpa using yT.out))
              have E14 : Hid (Env D w ((wr.heap.size, 22, [.slice (some ⟨vg, 0, none⟩) n n]) :: [(yg, 22, yc)]) [.gn (gRows (hs ++ [Value.slice (some ⟨vg, 0, none⟩) n n]) (O ++ [kv])), .rw (.slice (some ⟨vg, 0, none⟩) kv.length n) kv.length 1 (ncl kv), .gn (gRows hs O), .rw (.slice (some ⟨xg, 0, none⟩) n n) n 1 (ncl (partV n P M P.length)), .rw (.slice pa P.length pk) P.length 1 (ncl P), .mx (.slice ea M.length ek) (M.map nl)] w5) := Lib.hid ((yE.out.note (.gn (gRows (hs ++ [Value.slice (some ⟨vg, 0, none⟩) n n]) (O ++ [kv]))) (by have h := gRows.app (yE.out.fc 1 rfl) (yE.out.fc 0 rfl); rw [HKL.out] at h; exact h)).cast (by first | rfl | simp))
              clear EL E11 E12 E13 yE yH yT
              have hZ := E14.out.drop
              have EZ : Hid (Env D w _ [.gn (gRows (hs ++ [Value.slice (some ⟨vg, 0, none⟩) n n]) (O ++ [kv])), .rw (.slice (some ⟨xg, 0, none⟩) n n) n 1 (ncl (partV n P M P.length)), .rw (.slice pa P.length pk) P.length 1 (ncl P), .mx (.slice ea M.length ek) (M.map nl)] _) := Lib.hid ⟨hZ.bel, hZ.box, ⟨hZ.fc 0 rfl, ⟨hZ.fc 3 rfl, ⟨hZ.fc 4 rfl, ⟨hZ.fc 5 rfl, trivial⟩⟩⟩⟩⟩
              clear hZ
              go_wp2
              go_roundg (n - (f + 1))
              case rel => exact ⟨f + 1, [(yg, 22, yc)], yc, some ⟨yg, 0, none⟩, yp, _, O ++ [kv], rfl, by simp, Lib.hid (EZ.out.cast (by simp)), Lib.hid (by rw [List.length_append, List.length_singleton]; exact yM.out), Lib.hid ⟨⟨by omega, rfl⟩, by rw [kerL_add HPC.out, HPO.out, HKV.out]⟩⟩
              case measure => exact by omega
end Go.Proofs.YtinlfogpbologaaDoor

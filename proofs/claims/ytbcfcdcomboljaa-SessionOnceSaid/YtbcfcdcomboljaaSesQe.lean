/- specieref40.Valid, part e -/
import Derived.Test.YtbcfcdcomboljaaSesU
import Derived.Test.YtbcfcdcomboljaaSesW
namespace Go.Proofs.Ytbcfcdcomboljaa
open Go.RowKit
set_option linter.unusedVariables false
set_option maxRecDepth 100000 in
set_option maxHeartbeats 1000000 in
theorem rValid_eb1 {D : Nat → Prop} (nx fr to_ kd nm tr : Int) (body : List Nat) (dn : List Msg) {xa : Option Addr} {xk : Nat} {da : Option Addr} {dj : Nat} {w : World} (hx : Fct.at w D (.bs (.slice xa body.length xk) body)) (hh0 : 0 ≤ nx ∧ nx ≤ 1073741824 ∧ dn.length ≤ 1000) (hm0 : msgZ ⟨fr, to_, kd, nm, body⟩ = false) :
    Calls Try.prog 22 #[.agg #[.int .i64 nx, .bool false, .int .i64 fr, .int .i64 to_, .int .i64 kd, .int .i64 nm, .slice xa body.length xk, .slice da dn.length dj, .int .i64 tr]] w fun e w' => e = .returned (.bool false) ∧ Below w.heap.size w w' := by
  have E0 := Lib.hid ((Env.start D w).arg (.bs (.slice xa body.length xk) body) hx)
  clear hx
  go_enter Try.func22, Try.ntmps22
  have hh := Lib.hid hh0
  clear hh0
  have hm := Lib.hid hm0
  clear hm0
  go_wp2_with fail
  all_goals (try (exfalso; have := hh.out; omega))
  have E1 := Lib.hid ((E0.out.push 27 [.int .i64 nx, .bool false, .int .i64 fr, .int .i64 to_, .int .i64 kd, .int .i64 nm, .slice xa body.length xk, .slice da dn.length dj, .int .i64 tr] (w.heap.size) (by simp)))
  refine (rSame_z ⟨fr, to_, kd, nm, body⟩ hm.out (E1.out.fc 0 rfl)).mono ?_
  rintro e w1 ⟨rfl, hb⟩
  have E2 := Lib.hid (E1.out.below hb)
  clear E0 E1 hb
  have b1 := E2.out.bx 0 rfl
  have c1_8 := b1.cell 8 rfl
  clear b1
  have hfin := Lib.hid E2.out.bel
  go_wp2
  all_goals (go_ret; exact ⟨rfl, hfin.out⟩)
set_option maxRecDepth 100000 in
set_option maxHeartbeats 1000000 in
theorem rValid_eb2 {D : Nat → Prop} (nx fr to_ kd nm tr : Int) (body : List Nat) (dn : List Msg) {xa : Option Addr} {xk : Nat} {da : Option Addr} {dj : Nat} {w : World} (hx : Fct.at w D (.bs (.slice xa body.length xk) body)) (hh0 : 0 ≤ nx ∧ nx ≤ 1073741824 ∧ dn.length ≤ 1000) (hm0 : msgZ ⟨fr, to_, kd, nm, body⟩ = true) (hr0 : ¬ (tr = 0)) :
    Calls Try.prog 22 #[.agg #[.int .i64 nx, .bool false, .int .i64 fr, .int .i64 to_, .int .i64 kd, .int .i64 nm, .slice xa body.length xk, .slice da dn.length dj, .int .i64 tr]] w fun e w' => e = .returned (.bool false) ∧ Below w.heap.size w w' := by
  have E0 := Lib.hid ((Env.start D w).arg (.bs (.slice xa body.length xk) body) hx)
  clear hx
  go_enter Try.func22, Try.ntmps22
  have hh := Lib.hid hh0
  clear hh0
  have hm := Lib.hid hm0
  clear hm0
  have hr := Lib.hid hr0
  clear hr0
  go_wp2_with fail
  all_goals (try (exfalso; have := hh.out; omega))
  have E1 := Lib.hid ((E0.out.push 27 [.int .i64 nx, .bool false, .int .i64 fr, .int .i64 to_, .int .i64 kd, .int .i64 nm, .slice xa body.length xk, .slice da dn.length dj, .int .i64 tr] (w.heap.size) (by simp)))
  refine (rSame_z ⟨fr, to_, kd, nm, body⟩ hm.out (E1.out.fc 0 rfl)).mono ?_
  rintro e w1 ⟨rfl, hb⟩
  have E2 := Lib.hid (E1.out.below hb)
  clear E0 E1 hb
  have b1 := E2.out.bx 0 rfl
  have c1_8 := b1.cell 8 rfl
  clear b1
  have htr : (tr != 0) = true := by simpa using hr.out
  have hfin := Lib.hid E2.out.bel
  go_wp2
  all_goals (go_ret; exact ⟨rfl, hfin.out⟩)
set_option maxRecDepth 100000 in
set_option maxHeartbeats 1000000 in
theorem rValid_en {D : Nat → Prop} (nx fr to_ kd nm tr : Int) (body : List Nat) (dn : List Msg) {xa : Option Addr} {xk : Nat} {da : Option Addr} {dj : Nat} {w : World} (hx : Fct.at w D (.bs (.slice xa body.length xk) body)) (hh0 : 0 ≤ nx ∧ nx ≤ 1073741824) (hm0 : msgZ ⟨fr, to_, kd, nm, body⟩ = true) (hr0 : tr = 0) :
    Calls Try.prog 22 #[.agg #[.int .i64 nx, .bool false, .int .i64 fr, .int .i64 to_, .int .i64 kd, .int .i64 nm, .slice xa body.length xk, .slice da 0 dj, .int .i64 tr]] w fun e w' => e = .returned (.bool true) ∧ Below w.heap.size w w' := by
  have E0 := Lib.hid ((Env.start D w).arg (.bs (.slice xa body.length xk) body) hx)
  clear hx
  go_enter Try.func22, Try.ntmps22
  have hh := Lib.hid hh0
  clear hh0
  have hm := Lib.hid hm0
  clear hm0
  have hr := Lib.hid hr0
  clear hr0
  go_wp2_with fail
  all_goals (try (exfalso; have := hh.out; omega))
  have E1 := Lib.hid ((E0.out.push 27 [.int .i64 nx, .bool false, .int .i64 fr, .int .i64 to_, .int .i64 kd, .int .i64 nm, .slice xa body.length xk, .slice da 0 dj, .int .i64 tr] (w.heap.size) (by simp)))
  refine (rSame_z ⟨fr, to_, kd, nm, body⟩ hm.out (E1.out.fc 0 rfl)).mono ?_
  rintro e w1 ⟨rfl, hb⟩
  have E2 := Lib.hid (E1.out.below hb)
  clear E0 E1 hb
  have b1 := E2.out.bx 0 rfl
  have c1_8 := b1.cell 8 rfl
  clear b1
  have htr : (tr != 0) = false := by simpa using hr.out
  go_wp2_with fail
  all_goals (try (exfalso; have := hh.out; have := hr.out; omega))
  refine wp_loop_rounds 1 ?_
  rw [rounds_succ]
  have b2 := E2.out.bx 0 rfl
  have c2_7 := b2.cell 7 rfl
  clear b2
  have hfin := Lib.hid E2.out.bel
  go_wp2
  go_ret
  exact ⟨rfl, hfin.out⟩
set_option maxRecDepth 100000 in
set_option maxHeartbeats 1000000 in
theorem rValid_eg {D : Nat → Prop} (nx fr to_ kd nm tr : Int) (body : List Nat) (dn : List Msg) {xa : Option Addr} {xk : Nat} {db df dj : Nat} {w : World} (hx : Fct.at w D (.bs (.slice xa body.length xk) body)) (hy : Fct.at w D (.ms (.slice (some ⟨db, df, none⟩) dn.length dj) dn)) (hh0 : 0 ≤ nx ∧ nx ≤ 1073741824 ∧ dn.length ≤ 1000) (hm0 : msgZ ⟨fr, to_, kd, nm, body⟩ = true) (hr0 : tr = 0) (hu0 : UpTo dn dn.length) :
    Calls Try.prog 22 #[.agg #[.int .i64 nx, .bool false, .int .i64 fr, .int .i64 to_, .int .i64 kd, .int .i64 nm, .slice xa body.length xk, .slice (some ⟨db, df, none⟩) dn.length dj, .int .i64 tr]] w fun e w' => e = .returned (.bool true) ∧ Below w.heap.size w w' := by
  have E0 := Lib.hid (((Env.start D w).arg (.bs (.slice xa body.length xk) body) hx).arg (.ms (.slice (some ⟨db, df, none⟩) dn.length dj) dn) hy)
  clear hx hy
  go_enter Try.func22, Try.ntmps22
  have hh := Lib.hid hh0
  clear hh0
  have hm := Lib.hid hm0
  clear hm0
  have hr := Lib.hid hr0
  clear hr0
  have hu := Lib.hid hu0
  clear hu0
  go_wp2_with fail
  all_goals (try (exfalso; have := hh.out; omega))
  have E1 := Lib.hid ((E0.out.push 27 [.int .i64 nx, .bool false, .int .i64 fr, .int .i64 to_, .int .i64 kd, .int .i64 nm, .slice xa body.length xk, .slice (some ⟨db, df, none⟩) dn.length dj, .int .i64 tr] (w.heap.size) (by simp)))
  refine (rSame_z ⟨fr, to_, kd, nm, body⟩ hm.out (E1.out.fc 1 rfl)).mono ?_
  rintro e w1 ⟨rfl, hb⟩
  have E2 := Lib.hid (E1.out.below hb)
  clear E0 E1 hb
  have b1 := E2.out.bx 0 rfl
  have c1_8 := b1.cell 8 rfl
  clear b1
  have htr : (tr != 0) = false := by simpa using hr.out
  go_wp2_with fail
  all_goals (try (exfalso; have := hh.out; have := hr.out; omega))
  go_loopg [3] (dn.length) (fun gk s3 wr => ∃ (k : Nat), s3 = .int .i64 (k : Int) ∧ Hid (Env D w [(w.heap.size, 27, [.int .i64 nx, .bool false, .int .i64 fr, .int .i64 to_, .int .i64 kd, .int .i64 nm, .slice xa body.length xk, .slice (some ⟨db, df, none⟩) dn.length dj, .int .i64 tr])] [.ms (.slice (some ⟨db, df, none⟩) dn.length dj) dn, .bs (.slice xa body.length xk) body] wr) ∧ Hid (k ≤ dn.length ∧ gk = dn.length - k))
  case atStart => exact ⟨0, rfl, Lib.hid E2.out, Lib.hid ⟨Nat.zero_le _, rfl⟩⟩
  case round =>
    clear c1_8 E2
    obtain ⟨k, rfl, EL, HA⟩ := hrel
    obtain ⟨a1, a2⟩ := HA.out
    clear HA
    by_cases hy : k = dn.length
    · have t1 : decide ((k : Int) < (dn.length : Int)) = false := decide_eq_false (by omega)
      have b2 := EL.out.bx 0 rfl
      have c2_7 := b2.cell 7 rfl
      clear b2
      have hfin := Lib.hid EL.out.bel
      go_wp2
      go_ret
      exact ⟨rfl, hfin.out⟩
    · have hk : k < dn.length := by omega
      have hokk := Lib.hid (hu.out k hk hk).1
      have t1 : decide ((k : Int) < (dn.length : Int)) = true := decide_eq_true (by omega)
      have a3 := hh.out.2.2
      have b2 := EL.out.bx 0 rfl
      have c2_7 := b2.cell 7 rfl
      clear b2
      obtain ⟨ua, uk, E30⟩ := EL.out.els 0 rfl (k) hk
      have E3 : Hid (Env D w [(w.heap.size, 27, [.int .i64 nx, .bool false, .int .i64 fr, .int .i64 to_, .int .i64 kd, .int .i64 nm, .slice xa body.length xk, .slice (some ⟨db, df, none⟩) dn.length dj, .int .i64 tr])] [.ce db (df + k * 5) (.int .i64 dn[k].fr), .ce db (df + k * 5 + 1) (.int .i64 dn[k].to_), .ce db (df + k * 5 + 2) (.int .i64 dn[k].kd), .ce db (df + k * 5 + 3) (.int .i64 dn[k].nm), .ce db (df + k * 5 + 4) (.slice ua dn[k].body.length uk), .bs (.slice ua dn[k].body.length uk) dn[k].body, .ms (.slice (some ⟨db, df, none⟩) dn.length dj) dn, .bs (.slice xa body.length xk) body] _) := Lib.hid E30
      clear E30 EL
      by_cases h0 : k = 0
      · have t2 : decide ((0 : Int) < (k : Int)) = false := decide_eq_false (by omega)
        have t4 : decide (0 < k) = false := decide_eq_false (by omega)
        clear h0
        go_wp2_with fail
        have E4 := Lib.hid E3.out.drew
        clear c2_7 E3
        refine wp_region_held_drew (S := fun w' => w'.cell? ⟨w.heap.size, 7, none⟩ = some (.slice (some ⟨db, df, none⟩) dn.length dj) ∧ w'.cell? ⟨db, df + k * 5, none⟩ = some (.int .i64 dn[k].fr) ∧ w'.cell? ⟨db, df + k * 5 + 1, none⟩ = some (.int .i64 dn[k].to_) ∧ w'.cell? ⟨db, df + k * 5 + 2, none⟩ = some (.int .i64 dn[k].kd) ∧ w'.cell? ⟨db, df + k * 5 + 3, none⟩ = some (.int .i64 dn[k].nm) ∧ w'.cell? ⟨db, df + k * 5 + 4, none⟩ = some (.slice ua dn[k].body.length uk)) (by kernel_rfl) (⟨((E4.out.bx 0 rfl).cell 7 rfl), (E4.out.fc 0 rfl).2, (E4.out.fc 1 rfl).2, (E4.out.fc 2 rfl).2, (E4.out.fc 3 rfl).2, (E4.out.fc 4 rfl).2⟩) (fun hHeld => ?_)
        refine takeW (i := 0) (some 60) (v := ?_) rfl rfl (by kernel_rfl) (by kernel_rfl) (by kernel_rfl) (fun _ _ _ h => h) (by rfl) (by assumption) ?_ ?_
        rotate_left
        · (intro wS hSw; (try dsimp only at hSw); go_simp; try with_reducible rfl)
        try simp only [Act.put, List.setIfInBounds_toArray, List.set_cons_zero, List.set_cons_succ]
        refine takeW (i := 1) (some 61) (v := ?_) rfl rfl (by kernel_rfl) (by kernel_rfl) (by kernel_rfl) (fun _ _ _ h => h) (by rfl) (by assumption) ?_ ?_
        rotate_left
        · (intro wS hSw; (try dsimp only at hSw); go_simp; try with_reducible rfl)
        try simp only [Act.put, List.setIfInBounds_toArray, List.set_cons_zero, List.set_cons_succ]
        refine takeW (i := 2) (some 62) (v := ?_) rfl rfl (by kernel_rfl) (by kernel_rfl) (by kernel_rfl) (fun _ _ _ h => h) (by rfl) (by assumption) ?_ ?_
        rotate_left
        · (intro wS hSw; (try dsimp only at hSw); go_simp; try with_reducible rfl)
        try simp only [Act.put, List.setIfInBounds_toArray, List.set_cons_zero, List.set_cons_succ]
        refine takeW (i := 3) (some 63) (v := ?_) rfl rfl (by kernel_rfl) (by kernel_rfl) (by kernel_rfl) (fun _ _ _ h => h) (by rfl) (by assumption) ?_ ?_
        rotate_left
        · (intro wS hSw; (try dsimp only at hSw); go_simp; try with_reducible rfl)
        try simp only [Act.put, List.setIfInBounds_toArray, List.set_cons_zero, List.set_cons_succ]
        refine takeW (i := 4) (some 64) (v := ?_) rfl rfl (by kernel_rfl) (by kernel_rfl) (by kernel_rfl) (fun _ _ _ h => h) (by rfl) (by assumption) ?_ ?_
        rotate_left
        · (intro wS hSw; (try dsimp only at hSw); go_simp; try with_reducible rfl)
        try simp only [Act.put, List.setIfInBounds_toArray, List.set_cons_zero, List.set_cons_succ]
        refine wpAnyH_ready (rs := [5]) (by kernel_rfl) (by simp) ?_
        refine AllReadyH.cons rfl (fun KK hKK => ?_) AllReadyH.nil
        go_simp
        refine (rMessage_v dn[k] hokk.out _ _ _).mono ?_
        rintro e w2 ⟨rfl, hbr⟩
        have E5 := Lib.hid (E4.out.below hbr)
        clear E4 hbr
        (try dsimp only)
        clear hHeld
        refine hKK.out _ _ (⟨((E5.out.bx 0 rfl).cell 7 rfl), (E5.out.fc 0 rfl).2, (E5.out.fc 1 rfl).2, (E5.out.fc 2 rfl).2, (E5.out.fc 3 rfl).2, (E5.out.fc 4 rfl).2⟩) (fun hHeld => ?_)
        clear hKK KK
        try simp only [Act.put, List.setIfInBounds_toArray, List.set_cons_zero, List.set_cons_succ]
        refine takeW (i := 6) (some 66) (v := ?_) rfl rfl (by kernel_rfl) (by kernel_rfl) (by kernel_rfl) (fun _ _ _ h => h) (by rfl) (by assumption) ?_ ?_
        rotate_left
        · (intro wS hSw; (try dsimp only at hSw); go_simp; try with_reducible rfl)
        try simp only [Act.put, List.setIfInBounds_toArray, List.set_cons_zero, List.set_cons_succ]
        refine takeW (i := 7) (some 67) (v := ?_) rfl rfl (by kernel_rfl) (by kernel_rfl) (by kernel_rfl) (fun _ _ _ h => h) (by rfl) (by assumption) ?_ ?_
        rotate_left
        · (intro wS hSw; (try dsimp only at hSw); go_simp; try with_reducible rfl)
        try simp only [Act.put, List.setIfInBounds_toArray, List.set_cons_zero, List.set_cons_succ]
        refine takeW (i := 8) (some 68) (v := ?_) rfl rfl (by kernel_rfl) (by kernel_rfl) (by kernel_rfl) (fun _ _ _ h => h) (by rfl) (by assumption) ?_ ?_
        rotate_left
        · (intro wS hSw; (try dsimp only at hSw); go_simp; try with_reducible rfl)
        try simp only [Act.put, List.setIfInBounds_toArray, List.set_cons_zero, List.set_cons_succ]
        refine takeW (i := 9) (some 69) (v := .bool false) rfl rfl (by kernel_rfl) (by kernel_rfl) (by kernel_rfl) (fun _ _ _ h => h) (by rfl) (by assumption) ?_ ?_
        · (intro wS hSw; (try dsimp only at hSw); go_simp; (try simp); (try omega))
        try simp only [Act.put, List.setIfInBounds_toArray, List.set_cons_zero, List.set_cons_succ]
        refine takeW (i := 10) (some 70) (v := ?_) rfl rfl (by kernel_rfl) (by kernel_rfl) (by kernel_rfl) (fun _ _ _ h => h) (by rfl) (by assumption) ?_ ?_
        rotate_left
        · (intro wS hSw; (try dsimp only at hSw); go_simp; try with_reducible rfl)
        try simp only [Act.put, List.setIfInBounds_toArray, List.set_cons_zero, List.set_cons_succ]
        refine takeU (i := 11) (some 71) rfl rfl (by kernel_rfl) (by kernel_rfl) (by kernel_rfl) (fun _ _ _ h => h) (by rfl) (by assumption) ?_
        try simp only [Act.put, List.setIfInBounds_toArray, List.set_cons_zero, List.set_cons_succ]
        refine takeU (i := 12) (some 72) rfl rfl (by kernel_rfl) (by kernel_rfl) (by kernel_rfl) (fun _ _ _ h => h) (by rfl) (by assumption) ?_
        try simp only [Act.put, List.setIfInBounds_toArray, List.set_cons_zero, List.set_cons_succ]
        refine takeU (i := 13) (some 73) rfl rfl (by kernel_rfl) (by kernel_rfl) (by kernel_rfl) (fun _ _ _ h => h) (by rfl) (by assumption) ?_
        try simp only [Act.put, List.setIfInBounds_toArray, List.set_cons_zero, List.set_cons_succ]
        refine takeU (i := 14) (some 74) rfl rfl (by kernel_rfl) (by kernel_rfl) (by kernel_rfl) (fun _ _ _ h => h) (by rfl) (by assumption) ?_
        try simp only [Act.put, List.setIfInBounds_toArray, List.set_cons_zero, List.set_cons_succ]
        refine takeU (i := 15) (some 75) rfl rfl (by kernel_rfl) (by kernel_rfl) (by kernel_rfl) (fun _ _ _ h => h) (by rfl) (by assumption) ?_
        try simp only [Act.put, List.setIfInBounds_toArray, List.set_cons_zero, List.set_cons_succ]
        refine takeU (i := 16) (some 76) rfl rfl (by kernel_rfl) (by kernel_rfl) (by kernel_rfl) (fun _ _ _ h => h) (by rfl) (by assumption) ?_
        try simp only [Act.put, List.setIfInBounds_toArray, List.set_cons_zero, List.set_cons_succ]
        refine takeU (i := 17) (some 77) rfl rfl (by kernel_rfl) (by kernel_rfl) (by kernel_rfl) (fun _ _ _ h => h) (by rfl) (by assumption) ?_
        try simp only [Act.put, List.setIfInBounds_toArray, List.set_cons_zero, List.set_cons_succ]
        refine takeU (i := 18) (some 78) rfl rfl (by kernel_rfl) (by kernel_rfl) (by kernel_rfl) (fun _ _ _ h => h) (by rfl) (by assumption) ?_
        try simp only [Act.put, List.setIfInBounds_toArray, List.set_cons_zero, List.set_cons_succ]
        refine takeU (i := 19) (some 79) rfl rfl (by kernel_rfl) (by kernel_rfl) (by kernel_rfl) (fun _ _ _ h => h) (by rfl) (by assumption) ?_
        try simp only [Act.put, List.setIfInBounds_toArray, List.set_cons_zero, List.set_cons_succ]
        refine takeU (i := 20) (some 80) rfl rfl (by kernel_rfl) (by kernel_rfl) (by kernel_rfl) (fun _ _ _ h => h) (by rfl) (by assumption) ?_
        try simp only [Act.put, List.setIfInBounds_toArray, List.set_cons_zero, List.set_cons_succ]
        refine takeU (i := 21) (some 81) rfl rfl (by kernel_rfl) (by kernel_rfl) (by kernel_rfl) (fun _ _ _ h => h) (by rfl) (by assumption) ?_
        try simp only [Act.put, List.setIfInBounds_toArray, List.set_cons_zero, List.set_cons_succ]
        refine takeU (i := 22) (some 82) rfl rfl (by kernel_rfl) (by kernel_rfl) (by kernel_rfl) (fun _ _ _ h => h) (by rfl) (by assumption) ?_
        try simp only [Act.put, List.setIfInBounds_toArray, List.set_cons_zero, List.set_cons_succ]
        refine takeU (i := 23) (some 83) rfl rfl (by kernel_rfl) (by kernel_rfl) (by kernel_rfl) (fun _ _ _ h => h) (by rfl) (by assumption) ?_
        try simp only [Act.put, List.setIfInBounds_toArray, List.set_cons_zero, List.set_cons_succ]
        refine takeU (i := 24) (some 84) rfl rfl (by kernel_rfl) (by kernel_rfl) (by kernel_rfl) (fun _ _ _ h => h) (by rfl) (by assumption) ?_
        try simp only [Act.put, List.setIfInBounds_toArray, List.set_cons_zero, List.set_cons_succ]
        refine takeW (i := 25) (some 85) (v := ?_) rfl rfl (by kernel_rfl) (by kernel_rfl) (by kernel_rfl) (fun _ _ _ h => h) (by rfl) (by assumption) ?_ ?_
        rotate_left
        · (intro wS hSw; (try dsimp only at hSw); go_simp; try with_reducible rfl)
        try simp only [Act.put, List.setIfInBounds_toArray, List.set_cons_zero, List.set_cons_succ]
        refine takeW (i := 26) (some 86) (v := ?_) rfl rfl (by kernel_rfl) (by kernel_rfl) (by kernel_rfl) (fun _ _ _ h => h) (by rfl) (by assumption) ?_ ?_
        rotate_left
        · (intro wS hSw; (try dsimp only at hSw); go_simp; try with_reducible rfl)
        try simp only [Act.put, List.setIfInBounds_toArray, List.set_cons_zero, List.set_cons_succ]
        refine wpAnyH_done (by kernel_rfl) ?_ _
        have EZ := Lib.hid ((((((E5.out.forget).forget).forget).forget).forget).forget)
        go_wp2
        go_roundg (dn.length - (k + 1))
        case rel => exact ⟨k + 1, rfl, EZ, Lib.hid ⟨by omega, rfl⟩⟩
        case measure => exact by omega
      · obtain ⟨j, HJ⟩ : ∃ j, Hid (k = j + 1) := ⟨k - 1, Lib.hid (by omega)⟩
        have hj : j < dn.length := by have := HJ.out; omega
        have t2 : decide ((0 : Int) < (k : Int)) = true := decide_eq_true (by omega)
        have t4 : decide (0 < k) = true := decide_eq_true (by omega)
        have t5 : 0 < k := by omega
        clear h0
        have ej : ((k : Int) - 1) = (j : Int) := by have := HJ.out; omega
        have ew : IntKind.i64.wrap (j : Int) = (j : Int) := by rw [IntKind.wrap_i64]; omega
        have t3 : decide (dn[k].to_ ≤ dn[j].to_) = false := decide_eq_false (by have := (hu.out k hk hk).2 j hj HJ.out; omega)
        go_wp2_with fail
        have E4 := Lib.hid E3.out.drew
        clear c2_7 E3
        refine wp_region_held_drew (S := fun w' => w'.cell? ⟨w.heap.size, 7, none⟩ = some (.slice (some ⟨db, df, none⟩) dn.length dj) ∧ w'.cell? ⟨db, df + k * 5, none⟩ = some (.int .i64 dn[k].fr) ∧ w'.cell? ⟨db, df + k * 5 + 1, none⟩ = some (.int .i64 dn[k].to_) ∧ w'.cell? ⟨db, df + k * 5 + 2, none⟩ = some (.int .i64 dn[k].kd) ∧ w'.cell? ⟨db, df + k * 5 + 3, none⟩ = some (.int .i64 dn[k].nm) ∧ w'.cell? ⟨db, df + k * 5 + 4, none⟩ = some (.slice ua dn[k].body.length uk) ∧ w'.cell? ⟨db, df + j * 5 + 1, none⟩ = some (.int .i64 dn[j].to_)) (by kernel_rfl) (⟨((E4.out.bx 0 rfl).cell 7 rfl), (E4.out.fc 0 rfl).2, (E4.out.fc 1 rfl).2, (E4.out.fc 2 rfl).2, (E4.out.fc 3 rfl).2, (E4.out.fc 4 rfl).2, (Ms.el (E4.out.fc 6 rfl) j hj).2.1⟩) (fun hHeld => ?_)
        refine takeW (i := 0) (some 60) (v := ?_) rfl rfl (by kernel_rfl) (by kernel_rfl) (by kernel_rfl) (fun _ _ _ h => h) (by rfl) (by assumption) ?_ ?_
        rotate_left
        · (intro wS hSw; (try dsimp only at hSw); go_simp; try with_reducible rfl)
        try simp only [Act.put, List.setIfInBounds_toArray, List.set_cons_zero, List.set_cons_succ]
        refine takeW (i := 1) (some 61) (v := ?_) rfl rfl (by kernel_rfl) (by kernel_rfl) (by kernel_rfl) (fun _ _ _ h => h) (by rfl) (by assumption) ?_ ?_
        rotate_left
        · (intro wS hSw; (try dsimp only at hSw); go_simp; try with_reducible rfl)
        try simp only [Act.put, List.setIfInBounds_toArray, List.set_cons_zero, List.set_cons_succ]
        refine takeW (i := 2) (some 62) (v := ?_) rfl rfl (by kernel_rfl) (by kernel_rfl) (by kernel_rfl) (fun _ _ _ h => h) (by rfl) (by assumption) ?_ ?_
        rotate_left
        · (intro wS hSw; (try dsimp only at hSw); go_simp; try with_reducible rfl)
        try simp only [Act.put, List.setIfInBounds_toArray, List.set_cons_zero, List.set_cons_succ]
        refine takeW (i := 3) (some 63) (v := ?_) rfl rfl (by kernel_rfl) (by kernel_rfl) (by kernel_rfl) (fun _ _ _ h => h) (by rfl) (by assumption) ?_ ?_
        rotate_left
        · (intro wS hSw; (try dsimp only at hSw); go_simp; try with_reducible rfl)
        try simp only [Act.put, List.setIfInBounds_toArray, List.set_cons_zero, List.set_cons_succ]
        refine takeW (i := 4) (some 64) (v := ?_) rfl rfl (by kernel_rfl) (by kernel_rfl) (by kernel_rfl) (fun _ _ _ h => h) (by rfl) (by assumption) ?_ ?_
        rotate_left
        · (intro wS hSw; (try dsimp only at hSw); go_simp; try with_reducible rfl)
        try simp only [Act.put, List.setIfInBounds_toArray, List.set_cons_zero, List.set_cons_succ]
        refine wpAnyH_ready (rs := [5]) (by kernel_rfl) (by simp) ?_
        refine AllReadyH.cons rfl (fun KK hKK => ?_) AllReadyH.nil
        go_simp
        refine (rMessage_v dn[k] hokk.out _ _ _).mono ?_
        rintro e w2 ⟨rfl, hbr⟩
        have E5 := Lib.hid (E4.out.below hbr)
        clear E4 hbr
        (try dsimp only)
        clear hHeld
        refine hKK.out _ _ (⟨((E5.out.bx 0 rfl).cell 7 rfl), (E5.out.fc 0 rfl).2, (E5.out.fc 1 rfl).2, (E5.out.fc 2 rfl).2, (E5.out.fc 3 rfl).2, (E5.out.fc 4 rfl).2, (Ms.el (E5.out.fc 6 rfl) j hj).2.1⟩) (fun hHeld => ?_)
        clear hKK KK
        try simp only [Act.put, List.setIfInBounds_toArray, List.set_cons_zero, List.set_cons_succ]
        refine takeW (i := 6) (some 66) (v := ?_) rfl rfl (by kernel_rfl) (by kernel_rfl) (by kernel_rfl) (fun _ _ _ h => h) (by rfl) (by assumption) ?_ ?_
        rotate_left
        · (intro wS hSw; (try dsimp only at hSw); go_simp; try with_reducible rfl)
        try simp only [Act.put, List.setIfInBounds_toArray, List.set_cons_zero, List.set_cons_succ]
        refine takeW (i := 7) (some 67) (v := ?_) rfl rfl (by kernel_rfl) (by kernel_rfl) (by kernel_rfl) (fun _ _ _ h => h) (by rfl) (by assumption) ?_ ?_
        rotate_left
        · (intro wS hSw; (try dsimp only at hSw); go_simp; try with_reducible rfl)
        try simp only [Act.put, List.setIfInBounds_toArray, List.set_cons_zero, List.set_cons_succ]
        refine takeW (i := 8) (some 68) (v := ?_) rfl rfl (by kernel_rfl) (by kernel_rfl) (by kernel_rfl) (fun _ _ _ h => h) (by rfl) (by assumption) ?_ ?_
        rotate_left
        · (intro wS hSw; (try dsimp only at hSw); go_simp; try with_reducible rfl)
        try simp only [Act.put, List.setIfInBounds_toArray, List.set_cons_zero, List.set_cons_succ]
        refine takeW (i := 9) (some 69) (v := .bool true) rfl rfl (by kernel_rfl) (by kernel_rfl) (by kernel_rfl) (fun _ _ _ h => h) (by rfl) (by assumption) ?_ ?_
        · (intro wS hSw; (try dsimp only at hSw); go_simp; (try simp); (try omega))
        try simp only [Act.put, List.setIfInBounds_toArray, List.set_cons_zero, List.set_cons_succ]
        refine takeW (i := 10) (some 70) (v := ?_) rfl rfl (by kernel_rfl) (by kernel_rfl) (by kernel_rfl) (fun _ _ _ h => h) (by rfl) (by assumption) ?_ ?_
        rotate_left
        · (intro wS hSw; (try dsimp only at hSw); go_simp; try with_reducible rfl)
        try simp only [Act.put, List.setIfInBounds_toArray, List.set_cons_zero, List.set_cons_succ]
        refine takeW (i := 11) (some 71) (v := ?_) rfl rfl (by kernel_rfl) (by kernel_rfl) (by kernel_rfl) (fun _ _ _ h => h) (by rfl) (by assumption) ?_ ?_
        rotate_left
        · (intro wS hSw; (try dsimp only at hSw); go_simp; try with_reducible rfl)
        try simp only [Act.put, List.setIfInBounds_toArray, List.set_cons_zero, List.set_cons_succ]
        refine takeW (i := 12) (some 72) (v := ?_) rfl rfl (by kernel_rfl) (by kernel_rfl) (by kernel_rfl) (fun _ _ _ h => h) (by rfl) (by assumption) ?_ ?_
        rotate_left
        · (intro wS hSw; (try dsimp only at hSw); go_simp; try with_reducible rfl)
        try simp only [Act.put, List.setIfInBounds_toArray, List.set_cons_zero, List.set_cons_succ]
        refine takeW (i := 13) (some 73) (v := ?_) rfl rfl (by kernel_rfl) (by kernel_rfl) (by kernel_rfl) (fun _ _ _ h => h) (by rfl) (by assumption) ?_ ?_
        rotate_left
        · (intro wS hSw; (try dsimp only at hSw); go_simp; try with_reducible rfl)
        try simp only [Act.put, List.setIfInBounds_toArray, List.set_cons_zero, List.set_cons_succ]
        refine takeW (i := 14) (some 74) (v := ?_) rfl rfl (by kernel_rfl) (by kernel_rfl) (by kernel_rfl) (fun _ _ _ h => h) (by rfl) (by assumption) ?_ ?_
        rotate_left
        · (intro wS hSw; (try dsimp only at hSw); go_simp; try with_reducible rfl)
        try simp only [Act.put, List.setIfInBounds_toArray, List.set_cons_zero, List.set_cons_succ]
        refine takeW (i := 15) (some 75) (v := ?_) rfl rfl (by kernel_rfl) (by kernel_rfl) (by kernel_rfl) (fun _ _ _ h => h) (by rfl) (by assumption) ?_ ?_
        rotate_left
        · (intro wS hSw; (try dsimp only at hSw); go_simp; try with_reducible rfl)
        try simp only [Act.put, List.setIfInBounds_toArray, List.set_cons_zero, List.set_cons_succ]
        refine takeW (i := 16) (some 76) (v := ?_) rfl rfl (by kernel_rfl) (by kernel_rfl) (by kernel_rfl) (fun _ _ _ h => h) (by rfl) (by assumption) ?_ ?_
        rotate_left
        · (intro wS hSw; (try dsimp only at hSw); go_simp; try with_reducible rfl)
        try simp only [Act.put, List.setIfInBounds_toArray, List.set_cons_zero, List.set_cons_succ]
        refine takeW (i := 17) (some 77) (v := ?_) rfl rfl (by kernel_rfl) (by kernel_rfl) (by kernel_rfl) (fun _ _ _ h => h) (by rfl) (by assumption) ?_ ?_
        rotate_left
        · (intro wS hSw; (try dsimp only at hSw); go_simp; try with_reducible rfl)
        try simp only [Act.put, List.setIfInBounds_toArray, List.set_cons_zero, List.set_cons_succ]
        refine takeW (i := 18) (some 78) (v := ?_) rfl rfl (by kernel_rfl) (by kernel_rfl) (by kernel_rfl) (fun _ _ _ h => h) (by rfl) (by assumption) ?_ ?_
        rotate_left
        · (intro wS hSw; (try dsimp only at hSw); go_simp; try with_reducible rfl)
        try simp only [Act.put, List.setIfInBounds_toArray, List.set_cons_zero, List.set_cons_succ]
        refine takeW (i := 19) (some 79) (v := ?_) rfl rfl (by kernel_rfl) (by kernel_rfl) (by kernel_rfl) (fun _ _ _ h => h) (by rfl) (by assumption) ?_ ?_
        rotate_left
        · (intro wS hSw; (try dsimp only at hSw); go_simp; try with_reducible rfl)
        try simp only [Act.put, List.setIfInBounds_toArray, List.set_cons_zero, List.set_cons_succ]
        refine takeW (i := 20) (some 80) (v := ?_) rfl rfl (by kernel_rfl) (by kernel_rfl) (by kernel_rfl) (fun _ _ _ h => h) (by rfl) (by assumption) ?_ ?_
        rotate_left
        · (intro wS hSw; (try dsimp only at hSw); go_simp; try with_reducible rfl)
        try simp only [Act.put, List.setIfInBounds_toArray, List.set_cons_zero, List.set_cons_succ]
        refine takeW (i := 21) (some 81) (v := ?_) rfl rfl (by kernel_rfl) (by kernel_rfl) (by kernel_rfl) (fun _ _ _ h => h) (by rfl) (by assumption) ?_ ?_
        rotate_left
        · (intro wS hSw; (try dsimp only at hSw); go_simp; try with_reducible rfl)
        try simp only [Act.put, List.setIfInBounds_toArray, List.set_cons_zero, List.set_cons_succ]
        refine takeW (i := 22) (some 82) (v := ?_) rfl rfl (by kernel_rfl) (by kernel_rfl) (by kernel_rfl) (fun _ _ _ h => h) (by rfl) (by assumption) ?_ ?_
        rotate_left
        · (intro wS hSw; (try dsimp only at hSw); go_simp; try with_reducible rfl)
        try simp only [Act.put, List.setIfInBounds_toArray, List.set_cons_zero, List.set_cons_succ]
        refine takeW (i := 23) (some 83) (v := ?_) rfl rfl (by kernel_rfl) (by kernel_rfl) (by kernel_rfl) (fun _ _ _ h => h) (by rfl) (by assumption) ?_ ?_
        rotate_left
        · (intro wS hSw; (try dsimp only at hSw); go_simp; try with_reducible rfl)
        try simp only [Act.put, List.setIfInBounds_toArray, List.set_cons_zero, List.set_cons_succ]
        refine takeW (i := 24) (some 84) (v := ?_) rfl rfl (by kernel_rfl) (by kernel_rfl) (by kernel_rfl) (fun _ _ _ h => h) (by rfl) (by assumption) ?_ ?_
        rotate_left
        · (intro wS hSw; (try dsimp only at hSw); go_simp; try with_reducible rfl)
        try simp only [Act.put, List.setIfInBounds_toArray, List.set_cons_zero, List.set_cons_succ]
        refine takeW (i := 25) (some 85) (v := ?_) rfl rfl (by kernel_rfl) (by kernel_rfl) (by kernel_rfl) (fun _ _ _ h => h) (by rfl) (by assumption) ?_ ?_
        rotate_left
        · (intro wS hSw; (try dsimp only at hSw); go_simp; try with_reducible rfl)
        try simp only [Act.put, List.setIfInBounds_toArray, List.set_cons_zero, List.set_cons_succ]
        refine takeW (i := 26) (some 86) (v := ?_) rfl rfl (by kernel_rfl) (by kernel_rfl) (by kernel_rfl) (fun _ _ _ h => h) (by rfl) (by assumption) ?_ ?_
        rotate_left
        · (intro wS hSw; (try dsimp only at hSw); go_simp; try with_reducible rfl)
        try simp only [Act.put, List.setIfInBounds_toArray, List.set_cons_zero, List.set_cons_succ]
        refine wpAnyH_done (by kernel_rfl) ?_ _
        have EZ := Lib.hid ((((((E5.out.forget).forget).forget).forget).forget).forget)
        go_wp2
        go_roundg (dn.length - (k + 1))
        case rel => exact ⟨k + 1, rfl, EZ, Lib.hid ⟨by omega, rfl⟩⟩
        case measure => exact by omega
set_option maxRecDepth 100000 in
set_option maxHeartbeats 1000000 in
theorem rValid_el1 {D : Nat → Prop} (nx fr to_ kd nm tr : Int) (body : List Nat) (dn : List Msg) {xa : Option Addr} {xk : Nat} {db df dj : Nat} {kb : Nat} {w : World} (hx : Fct.at w D (.bs (.slice xa body.length xk) body)) (hy : Fct.at w D (.ms (.slice (some ⟨db, df, none⟩) dn.length dj) dn)) (hh0 : 0 ≤ nx ∧ nx ≤ 1073741824 ∧ dn.length ≤ 1000) (hm0 : msgZ ⟨fr, to_, kd, nm, body⟩ = true) (hr0 : tr = 0) (hb90 : ∃ h : kb < dn.length, UpTo dn kb ∧ msgOk dn[kb] = false) :
    Calls Try.prog 22 #[.agg #[.int .i64 nx, .bool false, .int .i64 fr, .int .i64 to_, .int .i64 kd, .int .i64 nm, .slice xa body.length xk, .slice (some ⟨db, df, none⟩) dn.length dj, .int .i64 tr]] w fun e w' => e = .returned (.bool false) ∧ Below w.heap.size w w' := by
  have E0 := Lib.hid (((Env.start D w).arg (.bs (.slice xa body.length xk) body) hx).arg (.ms (.slice (some ⟨db, df, none⟩) dn.length dj) dn) hy)
  clear hx hy
  go_enter Try.func22, Try.ntmps22
  have hh := Lib.hid hh0
  clear hh0
  have hm := Lib.hid hm0
  clear hm0
  have hr := Lib.hid hr0
  clear hr0
  have hb9 := Lib.hid hb90
  clear hb90
  go_wp2_with fail
  all_goals (try (exfalso; have := hh.out; omega))
  have E1 := Lib.hid ((E0.out.push 27 [.int .i64 nx, .bool false, .int .i64 fr, .int .i64 to_, .int .i64 kd, .int .i64 nm, .slice xa body.length xk, .slice (some ⟨db, df, none⟩) dn.length dj, .int .i64 tr] (w.heap.size) (by simp)))
  refine (rSame_z ⟨fr, to_, kd, nm, body⟩ hm.out (E1.out.fc 1 rfl)).mono ?_
  rintro e w1 ⟨rfl, hb⟩
  have E2 := Lib.hid (E1.out.below hb)
  clear E0 E1 hb
  have b1 := E2.out.bx 0 rfl
  have c1_8 := b1.cell 8 rfl
  clear b1
  have htr : (tr != 0) = false := by simpa using hr.out
  go_wp2_with fail
  all_goals (try (exfalso; have := hh.out; have := hr.out; omega))
  go_loopg [3] (dn.length) (fun gk s3 wr => ∃ (k : Nat), s3 = .int .i64 (k : Int) ∧ Hid (Env D w [(w.heap.size, 27, [.int .i64 nx, .bool false, .int .i64 fr, .int .i64 to_, .int .i64 kd, .int .i64 nm, .slice xa body.length xk, .slice (some ⟨db, df, none⟩) dn.length dj, .int .i64 tr])] [.ms (.slice (some ⟨db, df, none⟩) dn.length dj) dn, .bs (.slice xa body.length xk) body] wr) ∧ Hid (k ≤ kb ∧ gk = dn.length - k))
  case atStart => exact ⟨0, rfl, Lib.hid E2.out, Lib.hid ⟨Nat.zero_le _, rfl⟩⟩
  case round =>
    clear c1_8 E2
    obtain ⟨k, rfl, EL, HA⟩ := hrel
    obtain ⟨a1, a2⟩ := HA.out
    clear HA
    have HB := hb9.out
    obtain ⟨hkb, hup, hbad⟩ := HB
    have hup := Lib.hid hup
    have hbad := Lib.hid hbad
    by_cases hy : k = kb
    · have hk : k < dn.length := by omega
      have HE := Lib.hid hy
      have hkk : dn[k] = dn[kb] := by simp only [hy]
      clear hy
      have hokk : Hid (msgOk dn[k] = false) := Lib.hid (by rw [hkk]; exact hbad.out)
      clear hkk
      have t1 : decide ((k : Int) < (dn.length : Int)) = true := decide_eq_true (by omega)
      have a3 := hh.out.2.2
      have b2 := EL.out.bx 0 rfl
      have c2_7 := b2.cell 7 rfl
      clear b2
      obtain ⟨ua, uk, E30⟩ := EL.out.els 0 rfl (k) hk
      have E3 : Hid (Env D w [(w.heap.size, 27, [.int .i64 nx, .bool false, .int .i64 fr, .int .i64 to_, .int .i64 kd, .int .i64 nm, .slice xa body.length xk, .slice (some ⟨db, df, none⟩) dn.length dj, .int .i64 tr])] [.ce db (df + k * 5) (.int .i64 dn[k].fr), .ce db (df + k * 5 + 1) (.int .i64 dn[k].to_), .ce db (df + k * 5 + 2) (.int .i64 dn[k].kd), .ce db (df + k * 5 + 3) (.int .i64 dn[k].nm), .ce db (df + k * 5 + 4) (.slice ua dn[k].body.length uk), .bs (.slice ua dn[k].body.length uk) dn[k].body, .ms (.slice (some ⟨db, df, none⟩) dn.length dj) dn, .bs (.slice xa body.length xk) body] _) := Lib.hid E30
      clear E30 EL
      go_wp2_with fail
      have E4 := Lib.hid E3.out.drew
      clear c2_7 E3
      refine wp_region_held_drew (S := fun w' => w'.cell? ⟨w.heap.size, 7, none⟩ = some (.slice (some ⟨db, df, none⟩) dn.length dj) ∧ w'.cell? ⟨db, df + k * 5, none⟩ = some (.int .i64 dn[k].fr) ∧ w'.cell? ⟨db, df + k * 5 + 1, none⟩ = some (.int .i64 dn[k].to_) ∧ w'.cell? ⟨db, df + k * 5 + 2, none⟩ = some (.int .i64 dn[k].kd) ∧ w'.cell? ⟨db, df + k * 5 + 3, none⟩ = some (.int .i64 dn[k].nm) ∧ w'.cell? ⟨db, df + k * 5 + 4, none⟩ = some (.slice ua dn[k].body.length uk)) (by kernel_rfl) (⟨((E4.out.bx 0 rfl).cell 7 rfl), (E4.out.fc 0 rfl).2, (E4.out.fc 1 rfl).2, (E4.out.fc 2 rfl).2, (E4.out.fc 3 rfl).2, (E4.out.fc 4 rfl).2⟩) (fun hHeld => ?_)
      refine takeW (i := 0) (some 60) (v := ?_) rfl rfl (by kernel_rfl) (by kernel_rfl) (by kernel_rfl) (fun _ _ _ h => h) (by rfl) (by assumption) ?_ ?_
      rotate_left
      · (intro wS hSw; (try dsimp only at hSw); go_simp; try with_reducible rfl)
      try simp only [Act.put, List.setIfInBounds_toArray, List.set_cons_zero, List.set_cons_succ]
      refine takeW (i := 1) (some 61) (v := ?_) rfl rfl (by kernel_rfl) (by kernel_rfl) (by kernel_rfl) (fun _ _ _ h => h) (by rfl) (by assumption) ?_ ?_
      rotate_left
      · (intro wS hSw; (try dsimp only at hSw); go_simp; try with_reducible rfl)
      try simp only [Act.put, List.setIfInBounds_toArray, List.set_cons_zero, List.set_cons_succ]
      refine takeW (i := 2) (some 62) (v := ?_) rfl rfl (by kernel_rfl) (by kernel_rfl) (by kernel_rfl) (fun _ _ _ h => h) (by rfl) (by assumption) ?_ ?_
      rotate_left
      · (intro wS hSw; (try dsimp only at hSw); go_simp; try with_reducible rfl)
      try simp only [Act.put, List.setIfInBounds_toArray, List.set_cons_zero, List.set_cons_succ]
      refine takeW (i := 3) (some 63) (v := ?_) rfl rfl (by kernel_rfl) (by kernel_rfl) (by kernel_rfl) (fun _ _ _ h => h) (by rfl) (by assumption) ?_ ?_
      rotate_left
      · (intro wS hSw; (try dsimp only at hSw); go_simp; try with_reducible rfl)
      try simp only [Act.put, List.setIfInBounds_toArray, List.set_cons_zero, List.set_cons_succ]
      refine takeW (i := 4) (some 64) (v := ?_) rfl rfl (by kernel_rfl) (by kernel_rfl) (by kernel_rfl) (fun _ _ _ h => h) (by rfl) (by assumption) ?_ ?_
      rotate_left
      · (intro wS hSw; (try dsimp only at hSw); go_simp; try with_reducible rfl)
      try simp only [Act.put, List.setIfInBounds_toArray, List.set_cons_zero, List.set_cons_succ]
      refine wpAnyH_ready (rs := [5]) (by kernel_rfl) (by simp) ?_
      refine AllReadyH.cons rfl (fun KK hKK => ?_) AllReadyH.nil
      go_simp
      refine (rMessage_v dn[k] hokk.out _ _ _).mono ?_
      rintro e w2 ⟨rfl, hbr⟩
      have E5 := Lib.hid (E4.out.below hbr)
      clear E4 hbr
      (try dsimp only)
      clear hHeld
      refine hKK.out _ _ (⟨((E5.out.bx 0 rfl).cell 7 rfl), (E5.out.fc 0 rfl).2, (E5.out.fc 1 rfl).2, (E5.out.fc 2 rfl).2, (E5.out.fc 3 rfl).2, (E5.out.fc 4 rfl).2⟩) (fun hHeld => ?_)
      clear hKK KK
      try simp only [Act.put, List.setIfInBounds_toArray, List.set_cons_zero, List.set_cons_succ]
      refine takeW (i := 6) (some 66) (v := ?_) rfl rfl (by kernel_rfl) (by kernel_rfl) (by kernel_rfl) (fun _ _ _ h => h) (by rfl) (by assumption) ?_ ?_
      rotate_left
      · (intro wS hSw; (try dsimp only at hSw); go_simp; try with_reducible rfl)
      try simp only [Act.put, List.setIfInBounds_toArray, List.set_cons_zero, List.set_cons_succ]
      refine takeW (i := 7) (some 67) (v := ?_) rfl rfl (by kernel_rfl) (by kernel_rfl) (by kernel_rfl) (fun _ _ _ h => h) (by rfl) (by assumption) ?_ ?_
      rotate_left
      · (intro wS hSw; (try dsimp only at hSw); go_simp; try with_reducible rfl)
      try simp only [Act.put, List.setIfInBounds_toArray, List.set_cons_zero, List.set_cons_succ]
      refine takeU (i := 8) (some 68) rfl rfl (by kernel_rfl) (by kernel_rfl) (by kernel_rfl) (fun _ _ _ h => h) (by rfl) (by assumption) ?_
      try simp only [Act.put, List.setIfInBounds_toArray, List.set_cons_zero, List.set_cons_succ]
      refine takeU (i := 9) (some 69) rfl rfl (by kernel_rfl) (by kernel_rfl) (by kernel_rfl) (fun _ _ _ h => h) (by rfl) (by assumption) ?_
      try simp only [Act.put, List.setIfInBounds_toArray, List.set_cons_zero, List.set_cons_succ]
      refine takeU (i := 10) (some 70) rfl rfl (by kernel_rfl) (by kernel_rfl) (by kernel_rfl) (fun _ _ _ h => h) (by rfl) (by assumption) ?_
      try simp only [Act.put, List.setIfInBounds_toArray, List.set_cons_zero, List.set_cons_succ]
      refine takeU (i := 11) (some 71) rfl rfl (by kernel_rfl) (by kernel_rfl) (by kernel_rfl) (fun _ _ _ h => h) (by rfl) (by assumption) ?_
      try simp only [Act.put, List.setIfInBounds_toArray, List.set_cons_zero, List.set_cons_succ]
      refine takeU (i := 12) (some 72) rfl rfl (by kernel_rfl) (by kernel_rfl) (by kernel_rfl) (fun _ _ _ h => h) (by rfl) (by assumption) ?_
      try simp only [Act.put, List.setIfInBounds_toArray, List.set_cons_zero, List.set_cons_succ]
      refine takeU (i := 13) (some 73) rfl rfl (by kernel_rfl) (by kernel_rfl) (by kernel_rfl) (fun _ _ _ h => h) (by rfl) (by assumption) ?_
      try simp only [Act.put, List.setIfInBounds_toArray, List.set_cons_zero, List.set_cons_succ]
      refine takeU (i := 14) (some 74) rfl rfl (by kernel_rfl) (by kernel_rfl) (by kernel_rfl) (fun _ _ _ h => h) (by rfl) (by assumption) ?_
      try simp only [Act.put, List.setIfInBounds_toArray, List.set_cons_zero, List.set_cons_succ]
      refine takeU (i := 15) (some 75) rfl rfl (by kernel_rfl) (by kernel_rfl) (by kernel_rfl) (fun _ _ _ h => h) (by rfl) (by assumption) ?_
      try simp only [Act.put, List.setIfInBounds_toArray, List.set_cons_zero, List.set_cons_succ]
      refine takeU (i := 16) (some 76) rfl rfl (by kernel_rfl) (by kernel_rfl) (by kernel_rfl) (fun _ _ _ h => h) (by rfl) (by assumption) ?_
      try simp only [Act.put, List.setIfInBounds_toArray, List.set_cons_zero, List.set_cons_succ]
      refine takeU (i := 17) (some 77) rfl rfl (by kernel_rfl) (by kernel_rfl) (by kernel_rfl) (fun _ _ _ h => h) (by rfl) (by assumption) ?_
      try simp only [Act.put, List.setIfInBounds_toArray, List.set_cons_zero, List.set_cons_succ]
      refine takeU (i := 18) (some 78) rfl rfl (by kernel_rfl) (by kernel_rfl) (by kernel_rfl) (fun _ _ _ h => h) (by rfl) (by assumption) ?_
      try simp only [Act.put, List.setIfInBounds_toArray, List.set_cons_zero, List.set_cons_succ]
      refine takeU (i := 19) (some 79) rfl rfl (by kernel_rfl) (by kernel_rfl) (by kernel_rfl) (fun _ _ _ h => h) (by rfl) (by assumption) ?_
      try simp only [Act.put, List.setIfInBounds_toArray, List.set_cons_zero, List.set_cons_succ]
      refine takeU (i := 20) (some 80) rfl rfl (by kernel_rfl) (by kernel_rfl) (by kernel_rfl) (fun _ _ _ h => h) (by rfl) (by assumption) ?_
      try simp only [Act.put, List.setIfInBounds_toArray, List.set_cons_zero, List.set_cons_succ]
      refine takeU (i := 21) (some 81) rfl rfl (by kernel_rfl) (by kernel_rfl) (by kernel_rfl) (fun _ _ _ h => h) (by rfl) (by assumption) ?_
      try simp only [Act.put, List.setIfInBounds_toArray, List.set_cons_zero, List.set_cons_succ]
      refine takeU (i := 22) (some 82) rfl rfl (by kernel_rfl) (by kernel_rfl) (by kernel_rfl) (fun _ _ _ h => h) (by rfl) (by assumption) ?_
      try simp only [Act.put, List.setIfInBounds_toArray, List.set_cons_zero, List.set_cons_succ]
      refine takeU (i := 23) (some 83) rfl rfl (by kernel_rfl) (by kernel_rfl) (by kernel_rfl) (fun _ _ _ h => h) (by rfl) (by assumption) ?_
      try simp only [Act.put, List.setIfInBounds_toArray, List.set_cons_zero, List.set_cons_succ]
      refine takeU (i := 24) (some 84) rfl rfl (by kernel_rfl) (by kernel_rfl) (by kernel_rfl) (fun _ _ _ h => h) (by rfl) (by assumption) ?_
      try simp only [Act.put, List.setIfInBounds_toArray, List.set_cons_zero, List.set_cons_succ]
      refine takeU (i := 25) (some 85) rfl rfl (by kernel_rfl) (by kernel_rfl) (by kernel_rfl) (fun _ _ _ h => h) (by rfl) (by assumption) ?_
      try simp only [Act.put, List.setIfInBounds_toArray, List.set_cons_zero, List.set_cons_succ]
      refine takeW (i := 26) (some 86) (v := ?_) rfl rfl (by kernel_rfl) (by kernel_rfl) (by kernel_rfl) (fun _ _ _ h => h) (by rfl) (by assumption) ?_ ?_
      rotate_left
      · (intro wS hSw; (try dsimp only at hSw); go_simp; try with_reducible rfl)
      try simp only [Act.put, List.setIfInBounds_toArray, List.set_cons_zero, List.set_cons_succ]
      refine wpAnyH_done (by kernel_rfl) ?_ _
      have hfin := Lib.hid E5.out.bel
      go_wp2
      go_ret
      exact ⟨rfl, hfin.out⟩
    · have hk : k < dn.length := by omega
      have hokk := Lib.hid (hup.out k hk (by omega)).1
      have t1 : decide ((k : Int) < (dn.length : Int)) = true := decide_eq_true (by omega)
      have a3 := hh.out.2.2
      have b2 := EL.out.bx 0 rfl
      have c2_7 := b2.cell 7 rfl
      clear b2
      obtain ⟨ua, uk, E30⟩ := EL.out.els 0 rfl (k) hk
      have E3 : Hid (Env D w [(w.heap.size, 27, [.int .i64 nx, .bool false, .int .i64 fr, .int .i64 to_, .int .i64 kd, .int .i64 nm, .slice xa body.length xk, .slice (some ⟨db, df, none⟩) dn.length dj, .int .i64 tr])] [.ce db (df + k * 5) (.int .i64 dn[k].fr), .ce db (df + k * 5 + 1) (.int .i64 dn[k].to_), .ce db (df + k * 5 + 2) (.int .i64 dn[k].kd), .ce db (df + k * 5 + 3) (.int .i64 dn[k].nm), .ce db (df + k * 5 + 4) (.slice ua dn[k].body.length uk), .bs (.slice ua dn[k].body.length uk) dn[k].body, .ms (.slice (some ⟨db, df, none⟩) dn.length dj) dn, .bs (.slice xa body.length xk) body] _) := Lib.hid E30
      clear E30 EL
      by_cases h0 : k = 0
      · have t2 : decide ((0 : Int) < (k : Int)) = false := decide_eq_false (by omega)
        have t4 : decide (0 < k) = false := decide_eq_false (by omega)
        clear h0
        go_wp2_with fail
        have E4 := Lib.hid E3.out.drew
        clear c2_7 E3
        refine wp_region_held_drew (S := fun w' => w'.cell? ⟨w.heap.size, 7, none⟩ = some (.slice (some ⟨db, df, none⟩) dn.length dj) ∧ w'.cell? ⟨db, df + k * 5, none⟩ = some (.int .i64 dn[k].fr) ∧ w'.cell? ⟨db, df + k * 5 + 1, none⟩ = some (.int .i64 dn[k].to_) ∧ w'.cell? ⟨db, df + k * 5 + 2, none⟩ = some (.int .i64 dn[k].kd) ∧ w'.cell? ⟨db, df + k * 5 + 3, none⟩ = some (.int .i64 dn[k].nm) ∧ w'.cell? ⟨db, df + k * 5 + 4, none⟩ = some (.slice ua dn[k].body.length uk)) (by kernel_rfl) (⟨((E4.out.bx 0 rfl).cell 7 rfl), (E4.out.fc 0 rfl).2, (E4.out.fc 1 rfl).2, (E4.out.fc 2 rfl).2, (E4.out.fc 3 rfl).2, (E4.out.fc 4 rfl).2⟩) (fun hHeld => ?_)
        refine takeW (i := 0) (some 60) (v := ?_) rfl rfl (by kernel_rfl) (by kernel_rfl) (by kernel_rfl) (fun _ _ _ h => h) (by rfl) (by assumption) ?_ ?_
        rotate_left
        · (intro wS hSw; (try dsimp only at hSw); go_simp; try with_reducible rfl)
        try simp only [Act.put, List.setIfInBounds_toArray, List.set_cons_zero, List.set_cons_succ]
        refine takeW (i := 1) (some 61) (v := ?_) rfl rfl (by kernel_rfl) (by kernel_rfl) (by kernel_rfl) (fun _ _ _ h => h) (by rfl) (by assumption) ?_ ?_
        rotate_left
        · (intro wS hSw; (try dsimp only at hSw); go_simp; try with_reducible rfl)
        try simp only [Act.put, List.setIfInBounds_toArray, List.set_cons_zero, List.set_cons_succ]
        refine takeW (i := 2) (some 62) (v := ?_) rfl rfl (by kernel_rfl) (by kernel_rfl) (by kernel_rfl) (fun _ _ _ h => h) (by rfl) (by assumption) ?_ ?_
        rotate_left
        · (intro wS hSw; (try dsimp only at hSw); go_simp; try with_reducible rfl)
        try simp only [Act.put, List.setIfInBounds_toArray, List.set_cons_zero, List.set_cons_succ]
        refine takeW (i := 3) (some 63) (v := ?_) rfl rfl (by kernel_rfl) (by kernel_rfl) (by kernel_rfl) (fun _ _ _ h => h) (by rfl) (by assumption) ?_ ?_
        rotate_left
        · (intro wS hSw; (try dsimp only at hSw); go_simp; try with_reducible rfl)
        try simp only [Act.put, List.setIfInBounds_toArray, List.set_cons_zero, List.set_cons_succ]
        refine takeW (i := 4) (some 64) (v := ?_) rfl rfl (by kernel_rfl) (by kernel_rfl) (by kernel_rfl) (fun _ _ _ h => h) (by rfl) (by assumption) ?_ ?_
        rotate_left
        · (intro wS hSw; (try dsimp only at hSw); go_simp; try with_reducible rfl)
        try simp only [Act.put, List.setIfInBounds_toArray, List.set_cons_zero, List.set_cons_succ]
        refine wpAnyH_ready (rs := [5]) (by kernel_rfl) (by simp) ?_
        refine AllReadyH.cons rfl (fun KK hKK => ?_) AllReadyH.nil
        go_simp
        refine (rMessage_v dn[k] hokk.out _ _ _).mono ?_
        rintro e w2 ⟨rfl, hbr⟩
        have E5 := Lib.hid (E4.out.below hbr)
        clear E4 hbr
        (try dsimp only)
        clear hHeld
        refine hKK.out _ _ (⟨((E5.out.bx 0 rfl).cell 7 rfl), (E5.out.fc 0 rfl).2, (E5.out.fc 1 rfl).2, (E5.out.fc 2 rfl).2, (E5.out.fc 3 rfl).2, (E5.out.fc 4 rfl).2⟩) (fun hHeld => ?_)
        clear hKK KK
        try simp only [Act.put, List.setIfInBounds_toArray, List.set_cons_zero, List.set_cons_succ]
        refine takeW (i := 6) (some 66) (v := ?_) rfl rfl (by kernel_rfl) (by kernel_rfl) (by kernel_rfl) (fun _ _ _ h => h) (by rfl) (by assumption) ?_ ?_
        rotate_left
        · (intro wS hSw; (try dsimp only at hSw); go_simp; try with_reducible rfl)
        try simp only [Act.put, List.setIfInBounds_toArray, List.set_cons_zero, List.set_cons_succ]
        refine takeW (i := 7) (some 67) (v := ?_) rfl rfl (by kernel_rfl) (by kernel_rfl) (by kernel_rfl) (fun _ _ _ h => h) (by rfl) (by assumption) ?_ ?_
        rotate_left
        · (intro wS hSw; (try dsimp only at hSw); go_simp; try with_reducible rfl)
        try simp only [Act.put, List.setIfInBounds_toArray, List.set_cons_zero, List.set_cons_succ]
        refine takeW (i := 8) (some 68) (v := ?_) rfl rfl (by kernel_rfl) (by kernel_rfl) (by kernel_rfl) (fun _ _ _ h => h) (by rfl) (by assumption) ?_ ?_
        rotate_left
        · (intro wS hSw; (try dsimp only at hSw); go_simp; try with_reducible rfl)
        try simp only [Act.put, List.setIfInBounds_toArray, List.set_cons_zero, List.set_cons_succ]
        refine takeW (i := 9) (some 69) (v := .bool false) rfl rfl (by kernel_rfl) (by kernel_rfl) (by kernel_rfl) (fun _ _ _ h => h) (by rfl) (by assumption) ?_ ?_
        · (intro wS hSw; (try dsimp only at hSw); go_simp; (try simp); (try omega))
        try simp only [Act.put, List.setIfInBounds_toArray, List.set_cons_zero, List.set_cons_succ]
        refine takeW (i := 10) (some 70) (v := ?_) rfl rfl (by kernel_rfl) (by kernel_rfl) (by kernel_rfl) (fun _ _ _ h => h) (by rfl) (by assumption) ?_ ?_
        rotate_left
        · (intro wS hSw; (try dsimp only at hSw); go_simp; try with_reducible rfl)
        try simp only [Act.put, List.setIfInBounds_toArray, List.set_cons_zero, List.set_cons_succ]
        refine takeU (i := 11) (some 71) rfl rfl (by kernel_rfl) (by kernel_rfl) (by kernel_rfl) (fun _ _ _ h => h) (by rfl) (by assumption) ?_
        try simp only [Act.put, List.setIfInBounds_toArray, List.set_cons_zero, List.set_cons_succ]
        refine takeU (i := 12) (some 72) rfl rfl (by kernel_rfl) (by kernel_rfl) (by kernel_rfl) (fun _ _ _ h => h) (by rfl) (by assumption) ?_
        try simp only [Act.put, List.setIfInBounds_toArray, List.set_cons_zero, List.set_cons_succ]
        refine takeU (i := 13) (some 73) rfl rfl (by kernel_rfl) (by kernel_rfl) (by kernel_rfl) (fun _ _ _ h => h) (by rfl) (by assumption) ?_
        try simp only [Act.put, List.setIfInBounds_toArray, List.set_cons_zero, List.set_cons_succ]
        refine takeU (i := 14) (some 74) rfl rfl (by kernel_rfl) (by kernel_rfl) (by kernel_rfl) (fun _ _ _ h => h) (by rfl) (by assumption) ?_
        try simp only [Act.put, List.setIfInBounds_toArray, List.set_cons_zero, List.set_cons_succ]
        refine takeU (i := 15) (some 75) rfl rfl (by kernel_rfl) (by kernel_rfl) (by kernel_rfl) (fun _ _ _ h => h) (by rfl) (by assumption) ?_
        try simp only [Act.put, List.setIfInBounds_toArray, List.set_cons_zero, List.set_cons_succ]
        refine takeU (i := 16) (some 76) rfl rfl (by kernel_rfl) (by kernel_rfl) (by kernel_rfl) (fun _ _ _ h => h) (by rfl) (by assumption) ?_
        try simp only [Act.put, List.setIfInBounds_toArray, List.set_cons_zero, List.set_cons_succ]
        refine takeU (i := 17) (some 77) rfl rfl (by kernel_rfl) (by kernel_rfl) (by kernel_rfl) (fun _ _ _ h => h) (by rfl) (by assumption) ?_
        try simp only [Act.put, List.setIfInBounds_toArray, List.set_cons_zero, List.set_cons_succ]
        refine takeU (i := 18) (some 78) rfl rfl (by kernel_rfl) (by kernel_rfl) (by kernel_rfl) (fun _ _ _ h => h) (by rfl) (by assumption) ?_
        try simp only [Act.put, List.setIfInBounds_toArray, List.set_cons_zero, List.set_cons_succ]
        refine takeU (i := 19) (some 79) rfl rfl (by kernel_rfl) (by kernel_rfl) (by kernel_rfl) (fun _ _ _ h => h) (by rfl) (by assumption) ?_
        try simp only [Act.put, List.setIfInBounds_toArray, List.set_cons_zero, List.set_cons_succ]
        refine takeU (i := 20) (some 80) rfl rfl (by kernel_rfl) (by kernel_rfl) (by kernel_rfl) (fun _ _ _ h => h) (by rfl) (by assumption) ?_
        try simp only [Act.put, List.setIfInBounds_toArray, List.set_cons_zero, List.set_cons_succ]
        refine takeU (i := 21) (some 81) rfl rfl (by kernel_rfl) (by kernel_rfl) (by kernel_rfl) (fun _ _ _ h => h) (by rfl) (by assumption) ?_
        try simp only [Act.put, List.setIfInBounds_toArray, List.set_cons_zero, List.set_cons_succ]
        refine takeU (i := 22) (some 82) rfl rfl (by kernel_rfl) (by kernel_rfl) (by kernel_rfl) (fun _ _ _ h => h) (by rfl) (by assumption) ?_
        try simp only [Act.put, List.setIfInBounds_toArray, List.set_cons_zero, List.set_cons_succ]
        refine takeU (i := 23) (some 83) rfl rfl (by kernel_rfl) (by kernel_rfl) (by kernel_rfl) (fun _ _ _ h => h) (by rfl) (by assumption) ?_
        try simp only [Act.put, List.setIfInBounds_toArray, List.set_cons_zero, List.set_cons_succ]
        refine takeU (i := 24) (some 84) rfl rfl (by kernel_rfl) (by kernel_rfl) (by kernel_rfl) (fun _ _ _ h => h) (by rfl) (by assumption) ?_
        try simp only [Act.put, List.setIfInBounds_toArray, List.set_cons_zero, List.set_cons_succ]
        refine takeW (i := 25) (some 85) (v := ?_) rfl rfl (by kernel_rfl) (by kernel_rfl) (by kernel_rfl) (fun _ _ _ h => h) (by rfl) (by assumption) ?_ ?_
        rotate_left
        · (intro wS hSw; (try dsimp only at hSw); go_simp; try with_reducible rfl)
        try simp only [Act.put, List.setIfInBounds_toArray, List.set_cons_zero, List.set_cons_succ]
        refine takeW (i := 26) (some 86) (v := ?_) rfl rfl (by kernel_rfl) (by kernel_rfl) (by kernel_rfl) (fun _ _ _ h => h) (by rfl) (by assumption) ?_ ?_
        rotate_left
        · (intro wS hSw; (try dsimp only at hSw); go_simp; try with_reducible rfl)
        try simp only [Act.put, List.setIfInBounds_toArray, List.set_cons_zero, List.set_cons_succ]
        refine wpAnyH_done (by kernel_rfl) ?_ _
        have EZ := Lib.hid ((((((E5.out.forget).forget).forget).forget).forget).forget)
        go_wp2
        go_roundg (dn.length - (k + 1))
        case rel => exact ⟨k + 1, rfl, EZ, Lib.hid ⟨by omega, rfl⟩⟩
        case measure => exact by omega
      · obtain ⟨j, HJ⟩ : ∃ j, Hid (k = j + 1) := ⟨k - 1, Lib.hid (by omega)⟩
        have hj : j < dn.length := by have := HJ.out; omega
        have t2 : decide ((0 : Int) < (k : Int)) = true := decide_eq_true (by omega)
        have t4 : decide (0 < k) = true := decide_eq_true (by omega)
        have t5 : 0 < k := by omega
        clear h0
        have ej : ((k : Int) - 1) = (j : Int) := by have := HJ.out; omega
        have ew : IntKind.i64.wrap (j : Int) = (j : Int) := by rw [IntKind.wrap_i64]; omega
        have t3 : decide (dn[k].to_ ≤ dn[j].to_) = false := decide_eq_false (by have := (hup.out k hk (by omega)).2 j hj HJ.out; omega)
        go_wp2_with fail
        have E4 := Lib.hid E3.out.drew
        clear c2_7 E3
        refine wp_region_held_drew (S := fun w' => w'.cell? ⟨w.heap.size, 7, none⟩ = some (.slice (some ⟨db, df, none⟩) dn.length dj) ∧ w'.cell? ⟨db, df + k * 5, none⟩ = some (.int .i64 dn[k].fr) ∧ w'.cell? ⟨db, df + k * 5 + 1, none⟩ = some (.int .i64 dn[k].to_) ∧ w'.cell? ⟨db, df + k * 5 + 2, none⟩ = some (.int .i64 dn[k].kd) ∧ w'.cell? ⟨db, df + k * 5 + 3, none⟩ = some (.int .i64 dn[k].nm) ∧ w'.cell? ⟨db, df + k * 5 + 4, none⟩ = some (.slice ua dn[k].body.length uk) ∧ w'.cell? ⟨db, df + j * 5 + 1, none⟩ = some (.int .i64 dn[j].to_)) (by kernel_rfl) (⟨((E4.out.bx 0 rfl).cell 7 rfl), (E4.out.fc 0 rfl).2, (E4.out.fc 1 rfl).2, (E4.out.fc 2 rfl).2, (E4.out.fc 3 rfl).2, (E4.out.fc 4 rfl).2, (Ms.el (E4.out.fc 6 rfl) j hj).2.1⟩) (fun hHeld => ?_)
        refine takeW (i := 0) (some 60) (v := ?_) rfl rfl (by kernel_rfl) (by kernel_rfl) (by kernel_rfl) (fun _ _ _ h => h) (by rfl) (by assumption) ?_ ?_
        rotate_left
        · (intro wS hSw; (try dsimp only at hSw); go_simp; try with_reducible rfl)
        try simp only [Act.put, List.setIfInBounds_toArray, List.set_cons_zero, List.set_cons_succ]
        refine takeW (i := 1) (some 61) (v := ?_) rfl rfl (by kernel_rfl) (by kernel_rfl) (by kernel_rfl) (fun _ _ _ h => h) (by rfl) (by assumption) ?_ ?_
        rotate_left
        · (intro wS hSw; (try dsimp only at hSw); go_simp; try with_reducible rfl)
        try simp only [Act.put, List.setIfInBounds_toArray, List.set_cons_zero, List.set_cons_succ]
        refine takeW (i := 2) (some 62) (v := ?_) rfl rfl (by kernel_rfl) (by kernel_rfl) (by kernel_rfl) (fun _ _ _ h => h) (by rfl) (by assumption) ?_ ?_
        rotate_left
        · (intro wS hSw; (try dsimp only at hSw); go_simp; try with_reducible rfl)
        try simp only [Act.put, List.setIfInBounds_toArray, List.set_cons_zero, List.set_cons_succ]
        refine takeW (i := 3) (some 63) (v := ?_) rfl rfl (by kernel_rfl) (by kernel_rfl) (by kernel_rfl) (fun _ _ _ h => h) (by rfl) (by assumption) ?_ ?_
        rotate_left
        · (intro wS hSw; (try dsimp only at hSw); go_simp; try with_reducible rfl)
        try simp only [Act.put, List.setIfInBounds_toArray, List.set_cons_zero, List.set_cons_succ]
        refine takeW (i := 4) (some 64) (v := ?_) rfl rfl (by kernel_rfl) (by kernel_rfl) (by kernel_rfl) (fun _ _ _ h => h) (by rfl) (by assumption) ?_ ?_
        rotate_left
        · (intro wS hSw; (try dsimp only at hSw); go_simp; try with_reducible rfl)
        try simp only [Act.put, List.setIfInBounds_toArray, List.set_cons_zero, List.set_cons_succ]
        refine wpAnyH_ready (rs := [5]) (by kernel_rfl) (by simp) ?_
        refine AllReadyH.cons rfl (fun KK hKK => ?_) AllReadyH.nil
        go_simp
        refine (rMessage_v dn[k] hokk.out _ _ _).mono ?_
        rintro e w2 ⟨rfl, hbr⟩
        have E5 := Lib.hid (E4.out.below hbr)
        clear E4 hbr
        (try dsimp only)
        clear hHeld
        refine hKK.out _ _ (⟨((E5.out.bx 0 rfl).cell 7 rfl), (E5.out.fc 0 rfl).2, (E5.out.fc 1 rfl).2, (E5.out.fc 2 rfl).2, (E5.out.fc 3 rfl).2, (E5.out.fc 4 rfl).2, (Ms.el (E5.out.fc 6 rfl) j hj).2.1⟩) (fun hHeld => ?_)
        clear hKK KK
        try simp only [Act.put, List.setIfInBounds_toArray, List.set_cons_zero, List.set_cons_succ]
        refine takeW (i := 6) (some 66) (v := ?_) rfl rfl (by kernel_rfl) (by kernel_rfl) (by kernel_rfl) (fun _ _ _ h => h) (by rfl) (by assumption) ?_ ?_
        rotate_left
        · (intro wS hSw; (try dsimp only at hSw); go_simp; try with_reducible rfl)
        try simp only [Act.put, List.setIfInBounds_toArray, List.set_cons_zero, List.set_cons_succ]
        refine takeW (i := 7) (some 67) (v := ?_) rfl rfl (by kernel_rfl) (by kernel_rfl) (by kernel_rfl) (fun _ _ _ h => h) (by rfl) (by assumption) ?_ ?_
        rotate_left
        · (intro wS hSw; (try dsimp only at hSw); go_simp; try with_reducible rfl)
        try simp only [Act.put, List.setIfInBounds_toArray, List.set_cons_zero, List.set_cons_succ]
        refine takeW (i := 8) (some 68) (v := ?_) rfl rfl (by kernel_rfl) (by kernel_rfl) (by kernel_rfl) (fun _ _ _ h => h) (by rfl) (by assumption) ?_ ?_
        rotate_left
        · (intro wS hSw; (try dsimp only at hSw); go_simp; try with_reducible rfl)
        try simp only [Act.put, List.setIfInBounds_toArray, List.set_cons_zero, List.set_cons_succ]
        refine takeW (i := 9) (some 69) (v := .bool true) rfl rfl (by kernel_rfl) (by kernel_rfl) (by kernel_rfl) (fun _ _ _ h => h) (by rfl) (by assumption) ?_ ?_
        · (intro wS hSw; (try dsimp only at hSw); go_simp; (try simp); (try omega))
        try simp only [Act.put, List.setIfInBounds_toArray, List.set_cons_zero, List.set_cons_succ]
        refine takeW (i := 10) (some 70) (v := ?_) rfl rfl (by kernel_rfl) (by kernel_rfl) (by kernel_rfl) (fun _ _ _ h => h) (by rfl) (by assumption) ?_ ?_
        rotate_left
        · (intro wS hSw; (try dsimp only at hSw); go_simp; try with_reducible rfl)
        try simp only [Act.put, List.setIfInBounds_toArray, List.set_cons_zero, List.set_cons_succ]
        refine takeW (i := 11) (some 71) (v := ?_) rfl rfl (by kernel_rfl) (by kernel_rfl) (by kernel_rfl) (fun _ _ _ h => h) (by rfl) (by assumption) ?_ ?_
        rotate_left
        · (intro wS hSw; (try dsimp only at hSw); go_simp; try with_reducible rfl)
        try simp only [Act.put, List.setIfInBounds_toArray, List.set_cons_zero, List.set_cons_succ]
        refine takeW (i := 12) (some 72) (v := ?_) rfl rfl (by kernel_rfl) (by kernel_rfl) (by kernel_rfl) (fun _ _ _ h => h) (by rfl) (by assumption) ?_ ?_
        rotate_left
        · (intro wS hSw; (try dsimp only at hSw); go_simp; try with_reducible rfl)
        try simp only [Act.put, List.setIfInBounds_toArray, List.set_cons_zero, List.set_cons_succ]
        refine takeW (i := 13) (some 73) (v := ?_) rfl rfl (by kernel_rfl) (by kernel_rfl) (by kernel_rfl) (fun _ _ _ h => h) (by rfl) (by assumption) ?_ ?_
        rotate_left
        · (intro wS hSw; (try dsimp only at hSw); go_simp; try with_reducible rfl)
        try simp only [Act.put, List.setIfInBounds_toArray, List.set_cons_zero, List.set_cons_succ]
        refine takeW (i := 14) (some 74) (v := ?_) rfl rfl (by kernel_rfl) (by kernel_rfl) (by kernel_rfl) (fun _ _ _ h => h) (by rfl) (by assumption) ?_ ?_
        rotate_left
        · (intro wS hSw; (try dsimp only at hSw); go_simp; try with_reducible rfl)
        try simp only [Act.put, List.setIfInBounds_toArray, List.set_cons_zero, List.set_cons_succ]
        refine takeW (i := 15) (some 75) (v := ?_) rfl rfl (by kernel_rfl) (by kernel_rfl) (by kernel_rfl) (fun _ _ _ h => h) (by rfl) (by assumption) ?_ ?_
        rotate_left
        · (intro wS hSw; (try dsimp only at hSw); go_simp; try with_reducible rfl)
        try simp only [Act.put, List.setIfInBounds_toArray, List.set_cons_zero, List.set_cons_succ]
        refine takeW (i := 16) (some 76) (v := ?_) rfl rfl (by kernel_rfl) (by kernel_rfl) (by kernel_rfl) (fun _ _ _ h => h) (by rfl) (by assumption) ?_ ?_
        rotate_left
        · (intro wS hSw; (try dsimp only at hSw); go_simp; try with_reducible rfl)
        try simp only [Act.put, List.setIfInBounds_toArray, List.set_cons_zero, List.set_cons_succ]
        refine takeW (i := 17) (some 77) (v := ?_) rfl rfl (by kernel_rfl) (by kernel_rfl) (by kernel_rfl) (fun _ _ _ h => h) (by rfl) (by assumption) ?_ ?_
        rotate_left
        · (intro wS hSw; (try dsimp only at hSw); go_simp; try with_reducible rfl)
        try simp only [Act.put, List.setIfInBounds_toArray, List.set_cons_zero, List.set_cons_succ]
        refine takeW (i := 18) (some 78) (v := ?_) rfl rfl (by kernel_rfl) (by kernel_rfl) (by kernel_rfl) (fun _ _ _ h => h) (by rfl) (by assumption) ?_ ?_
        rotate_left
        · (intro wS hSw; (try dsimp only at hSw); go_simp; try with_reducible rfl)
        try simp only [Act.put, List.setIfInBounds_toArray, List.set_cons_zero, List.set_cons_succ]
        refine takeW (i := 19) (some 79) (v := ?_) rfl rfl (by kernel_rfl) (by kernel_rfl) (by kernel_rfl) (fun _ _ _ h => h) (by rfl) (by assumption) ?_ ?_
        rotate_left
        · (intro wS hSw; (try dsimp only at hSw); go_simp; try with_reducible rfl)
        try simp only [Act.put, List.setIfInBounds_toArray, List.set_cons_zero, List.set_cons_succ]
        refine takeW (i := 20) (some 80) (v := ?_) rfl rfl (by kernel_rfl) (by kernel_rfl) (by kernel_rfl) (fun _ _ _ h => h) (by rfl) (by assumption) ?_ ?_
        rotate_left
        · (intro wS hSw; (try dsimp only at hSw); go_simp; try with_reducible rfl)
        try simp only [Act.put, List.setIfInBounds_toArray, List.set_cons_zero, List.set_cons_succ]
        refine takeW (i := 21) (some 81) (v := ?_) rfl rfl (by kernel_rfl) (by kernel_rfl) (by kernel_rfl) (fun _ _ _ h => h) (by rfl) (by assumption) ?_ ?_
        rotate_left
        · (intro wS hSw; (try dsimp only at hSw); go_simp; try with_reducible rfl)
        try simp only [Act.put, List.setIfInBounds_toArray, List.set_cons_zero, List.set_cons_succ]
        refine takeW (i := 22) (some 82) (v := ?_) rfl rfl (by kernel_rfl) (by kernel_rfl) (by kernel_rfl) (fun _ _ _ h => h) (by rfl) (by assumption) ?_ ?_
        rotate_left
        · (intro wS hSw; (try dsimp only at hSw); go_simp; try with_reducible rfl)
        try simp only [Act.put, List.setIfInBounds_toArray, List.set_cons_zero, List.set_cons_succ]
        refine takeW (i := 23) (some 83) (v := ?_) rfl rfl (by kernel_rfl) (by kernel_rfl) (by kernel_rfl) (fun _ _ _ h => h) (by rfl) (by assumption) ?_ ?_
        rotate_left
        · (intro wS hSw; (try dsimp only at hSw); go_simp; try with_reducible rfl)
        try simp only [Act.put, List.setIfInBounds_toArray, List.set_cons_zero, List.set_cons_succ]
        refine takeW (i := 24) (some 84) (v := ?_) rfl rfl (by kernel_rfl) (by kernel_rfl) (by kernel_rfl) (fun _ _ _ h => h) (by rfl) (by assumption) ?_ ?_
        rotate_left
        · (intro wS hSw; (try dsimp only at hSw); go_simp; try with_reducible rfl)
        try simp only [Act.put, List.setIfInBounds_toArray, List.set_cons_zero, List.set_cons_succ]
        refine takeW (i := 25) (some 85) (v := ?_) rfl rfl (by kernel_rfl) (by kernel_rfl) (by kernel_rfl) (fun _ _ _ h => h) (by rfl) (by assumption) ?_ ?_
        rotate_left
        · (intro wS hSw; (try dsimp only at hSw); go_simp; try with_reducible rfl)
        try simp only [Act.put, List.setIfInBounds_toArray, List.set_cons_zero, List.set_cons_succ]
        refine takeW (i := 26) (some 86) (v := ?_) rfl rfl (by kernel_rfl) (by kernel_rfl) (by kernel_rfl) (fun _ _ _ h => h) (by rfl) (by assumption) ?_ ?_
        rotate_left
        · (intro wS hSw; (try dsimp only at hSw); go_simp; try with_reducible rfl)
        try simp only [Act.put, List.setIfInBounds_toArray, List.set_cons_zero, List.set_cons_succ]
        refine wpAnyH_done (by kernel_rfl) ?_ _
        have EZ := Lib.hid ((((((E5.out.forget).forget).forget).forget).forget).forget)
        go_wp2
        go_roundg (dn.length - (k + 1))
        case rel => exact ⟨k + 1, rfl, EZ, Lib.hid ⟨by omega, rfl⟩⟩
        case measure => exact by omega
set_option maxRecDepth 100000 in
set_option maxHeartbeats 1000000 in
theorem rValid_el2 {D : Nat → Prop} (nx fr to_ kd nm tr : Int) (body : List Nat) (dn : List Msg) {xa : Option Addr} {xk : Nat} {db df dj : Nat} {kb : Nat} {w : World} (hx : Fct.at w D (.bs (.slice xa body.length xk) body)) (hy : Fct.at w D (.ms (.slice (some ⟨db, df, none⟩) dn.length dj) dn)) (hh0 : 0 ≤ nx ∧ nx ≤ 1073741824 ∧ dn.length ≤ 1000) (hm0 : msgZ ⟨fr, to_, kd, nm, body⟩ = true) (hr0 : tr = 0) (hb90 : ∃ h : kb < dn.length, UpTo dn kb ∧ msgOk dn[kb] = true ∧ ∃ j, ∃ h' : j < dn.length, kb = j + 1 ∧ dn[kb].to_ ≤ dn[j].to_) :
    Calls Try.prog 22 #[.agg #[.int .i64 nx, .bool false, .int .i64 fr, .int .i64 to_, .int .i64 kd, .int .i64 nm, .slice xa body.length xk, .slice (some ⟨db, df, none⟩) dn.length dj, .int .i64 tr]] w fun e w' => e = .returned (.bool false) ∧ Below w.heap.size w w' := by
  have E0 := Lib.hid (((Env.start D w).arg (.bs (.slice xa body.length xk) body) hx).arg (.ms (.slice (some ⟨db, df, none⟩) dn.length dj) dn) hy)
  clear hx hy
  go_enter Try.func22, Try.ntmps22
  have hh := Lib.hid hh0
  clear hh0
  have hm := Lib.hid hm0
  clear hm0
  have hr := Lib.hid hr0
  clear hr0
  have hb9 := Lib.hid hb90
  clear hb90
  go_wp2_with fail
  all_goals (try (exfalso; have := hh.out; omega))
  have E1 := Lib.hid ((E0.out.push 27 [.int .i64 nx, .bool false, .int .i64 fr, .int .i64 to_, .int .i64 kd, .int .i64 nm, .slice xa body.length xk, .slice (some ⟨db, df, none⟩) dn.length dj, .int .i64 tr] (w.heap.size) (by simp)))
  refine (rSame_z ⟨fr, to_, kd, nm, body⟩ hm.out (E1.out.fc 1 rfl)).mono ?_
  rintro e w1 ⟨rfl, hb⟩
  have E2 := Lib.hid (E1.out.below hb)
  clear E0 E1 hb
  have b1 := E2.out.bx 0 rfl
  have c1_8 := b1.cell 8 rfl
  clear b1
  have htr : (tr != 0) = false := by simpa using hr.out
  go_wp2_with fail
  all_goals (try (exfalso; have := hh.out; have := hr.out; omega))
  go_loopg [3] (dn.length) (fun gk s3 wr => ∃ (k : Nat), s3 = .int .i64 (k : Int) ∧ Hid (Env D w [(w.heap.size, 27, [.int .i64 nx, .bool false, .int .i64 fr, .int .i64 to_, .int .i64 kd, .int .i64 nm, .slice xa body.length xk, .slice (some ⟨db, df, none⟩) dn.length dj, .int .i64 tr])] [.ms (.slice (some ⟨db, df, none⟩) dn.length dj) dn, .bs (.slice xa body.length xk) body] wr) ∧ Hid (k ≤ kb ∧ gk = dn.length - k))
  case atStart => exact ⟨0, rfl, Lib.hid E2.out, Lib.hid ⟨Nat.zero_le _, rfl⟩⟩
  case round =>
    clear c1_8 E2
    obtain ⟨k, rfl, EL, HA⟩ := hrel
    obtain ⟨a1, a2⟩ := HA.out
    clear HA
    have HB := hb9.out
    obtain ⟨hkb, hup, hbad⟩ := HB
    have hup := Lib.hid hup
    have hbad := Lib.hid hbad
    by_cases hy : k = kb
    · have hk : k < dn.length := by omega
      have HE := Lib.hid hy
      have hkk : dn[k] = dn[kb] := by simp only [hy]
      clear hy
      have hokk : Hid (msgOk dn[k] = true) := Lib.hid (by rw [hkk]; exact hbad.out.1)
      have HKK := Lib.hid hkk
      clear hkk
      have t1 : decide ((k : Int) < (dn.length : Int)) = true := decide_eq_true (by omega)
      have a3 := hh.out.2.2
      have b2 := EL.out.bx 0 rfl
      have c2_7 := b2.cell 7 rfl
      clear b2
      obtain ⟨ua, uk, E30⟩ := EL.out.els 0 rfl (k) hk
      have E3 : Hid (Env D w [(w.heap.size, 27, [.int .i64 nx, .bool false, .int .i64 fr, .int .i64 to_, .int .i64 kd, .int .i64 nm, .slice xa body.length xk, .slice (some ⟨db, df, none⟩) dn.length dj, .int .i64 tr])] [.ce db (df + k * 5) (.int .i64 dn[k].fr), .ce db (df + k * 5 + 1) (.int .i64 dn[k].to_), .ce db (df + k * 5 + 2) (.int .i64 dn[k].kd), .ce db (df + k * 5 + 3) (.int .i64 dn[k].nm), .ce db (df + k * 5 + 4) (.slice ua dn[k].body.length uk), .bs (.slice ua dn[k].body.length uk) dn[k].body, .ms (.slice (some ⟨db, df, none⟩) dn.length dj) dn, .bs (.slice xa body.length xk) body] _) := Lib.hid E30
      clear E30 EL
      obtain ⟨j, hj, HJ0, ht3⟩ := hbad.out.2
      have HJ : Hid (k = j + 1) := Lib.hid (by have := HE.out; omega)
      clear HJ0
      have t3 : decide (dn[k].to_ ≤ dn[j].to_) = true := decide_eq_true (by rw [HKK.out]; exact ht3)
      clear ht3
      have t2 : decide ((0 : Int) < (k : Int)) = true := decide_eq_true (by have := HJ.out; omega)
      have t4 : decide (0 < k) = true := decide_eq_true (by have := HJ.out; omega)
      have t5 : 0 < k := by have := HJ.out; omega
      have ej : ((k : Int) - 1) = (j : Int) := by have := HJ.out; omega
      have ew : IntKind.i64.wrap (j : Int) = (j : Int) := by rw [IntKind.wrap_i64]; omega
      go_wp2_with fail
      have E4 := Lib.hid E3.out.drew
      clear c2_7 E3
      refine wp_region_held_drew (S := fun w' => w'.cell? ⟨w.heap.size, 7, none⟩ = some (.slice (some ⟨db, df, none⟩) dn.length dj) ∧ w'.cell? ⟨db, df + k * 5, none⟩ = some (.int .i64 dn[k].fr) ∧ w'.cell? ⟨db, df + k * 5 + 1, none⟩ = some (.int .i64 dn[k].to_) ∧ w'.cell? ⟨db, df + k * 5 + 2, none⟩ = some (.int .i64 dn[k].kd) ∧ w'.cell? ⟨db, df + k * 5 + 3, none⟩ = some (.int .i64 dn[k].nm) ∧ w'.cell? ⟨db, df + k * 5 + 4, none⟩ = some (.slice ua dn[k].body.length uk) ∧ w'.cell? ⟨db, df + j * 5 + 1, none⟩ = some (.int .i64 dn[j].to_)) (by kernel_rfl) (⟨((E4.out.bx 0 rfl).cell 7 rfl), (E4.out.fc 0 rfl).2, (E4.out.fc 1 rfl).2, (E4.out.fc 2 rfl).2, (E4.out.fc 3 rfl).2, (E4.out.fc 4 rfl).2, (Ms.el (E4.out.fc 6 rfl) j hj).2.1⟩) (fun hHeld => ?_)
      refine takeW (i := 0) (some 60) (v := ?_) rfl rfl (by kernel_rfl) (by kernel_rfl) (by kernel_rfl) (fun _ _ _ h => h) (by rfl) (by assumption) ?_ ?_
      rotate_left
      · (intro wS hSw; (try dsimp only at hSw); go_simp; try with_reducible rfl)
      try simp only [Act.put, List.setIfInBounds_toArray, List.set_cons_zero, List.set_cons_succ]
      refine takeW (i := 1) (some 61) (v := ?_) rfl rfl (by kernel_rfl) (by kernel_rfl) (by kernel_rfl) (fun _ _ _ h => h) (by rfl) (by assumption) ?_ ?_
      rotate_left
      · (intro wS hSw; (try dsimp only at hSw); go_simp; try with_reducible rfl)
      try simp only [Act.put, List.setIfInBounds_toArray, List.set_cons_zero, List.set_cons_succ]
      refine takeW (i := 2) (some 62) (v := ?_) rfl rfl (by kernel_rfl) (by kernel_rfl) (by kernel_rfl) (fun _ _ _ h => h) (by rfl) (by assumption) ?_ ?_
      rotate_left
      · (intro wS hSw; (try dsimp only at hSw); go_simp; try with_reducible rfl)
      try simp only [Act.put, List.setIfInBounds_toArray, List.set_cons_zero, List.set_cons_succ]
      refine takeW (i := 3) (some 63) (v := ?_) rfl rfl (by kernel_rfl) (by kernel_rfl) (by kernel_rfl) (fun _ _ _ h => h) (by rfl) (by assumption) ?_ ?_
      rotate_left
      · (intro wS hSw; (try dsimp only at hSw); go_simp; try with_reducible rfl)
      try simp only [Act.put, List.setIfInBounds_toArray, List.set_cons_zero, List.set_cons_succ]
      refine takeW (i := 4) (some 64) (v := ?_) rfl rfl (by kernel_rfl) (by kernel_rfl) (by kernel_rfl) (fun _ _ _ h => h) (by rfl) (by assumption) ?_ ?_
      rotate_left
      · (intro wS hSw; (try dsimp only at hSw); go_simp; try with_reducible rfl)
      try simp only [Act.put, List.setIfInBounds_toArray, List.set_cons_zero, List.set_cons_succ]
      refine wpAnyH_ready (rs := [5]) (by kernel_rfl) (by simp) ?_
      refine AllReadyH.cons rfl (fun KK hKK => ?_) AllReadyH.nil
      go_simp
      refine (rMessage_v dn[k] hokk.out _ _ _).mono ?_
      rintro e w2 ⟨rfl, hbr⟩
      have E5 := Lib.hid (E4.out.below hbr)
      clear E4 hbr
      (try dsimp only)
      clear hHeld
      refine hKK.out _ _ (⟨((E5.out.bx 0 rfl).cell 7 rfl), (E5.out.fc 0 rfl).2, (E5.out.fc 1 rfl).2, (E5.out.fc 2 rfl).2, (E5.out.fc 3 rfl).2, (E5.out.fc 4 rfl).2, (Ms.el (E5.out.fc 6 rfl) j hj).2.1⟩) (fun hHeld => ?_)
      clear hKK KK
      try simp only [Act.put, List.setIfInBounds_toArray, List.set_cons_zero, List.set_cons_succ]
      refine takeW (i := 6) (some 66) (v := ?_) rfl rfl (by kernel_rfl) (by kernel_rfl) (by kernel_rfl) (fun _ _ _ h => h) (by rfl) (by assumption) ?_ ?_
      rotate_left
      · (intro wS hSw; (try dsimp only at hSw); go_simp; try with_reducible rfl)
      try simp only [Act.put, List.setIfInBounds_toArray, List.set_cons_zero, List.set_cons_succ]
      refine takeW (i := 7) (some 67) (v := ?_) rfl rfl (by kernel_rfl) (by kernel_rfl) (by kernel_rfl) (fun _ _ _ h => h) (by rfl) (by assumption) ?_ ?_
      rotate_left
      · (intro wS hSw; (try dsimp only at hSw); go_simp; try with_reducible rfl)
      try simp only [Act.put, List.setIfInBounds_toArray, List.set_cons_zero, List.set_cons_succ]
      refine takeW (i := 8) (some 68) (v := ?_) rfl rfl (by kernel_rfl) (by kernel_rfl) (by kernel_rfl) (fun _ _ _ h => h) (by rfl) (by assumption) ?_ ?_
      rotate_left
      · (intro wS hSw; (try dsimp only at hSw); go_simp; try with_reducible rfl)
      try simp only [Act.put, List.setIfInBounds_toArray, List.set_cons_zero, List.set_cons_succ]
      refine takeW (i := 9) (some 69) (v := .bool true) rfl rfl (by kernel_rfl) (by kernel_rfl) (by kernel_rfl) (fun _ _ _ h => h) (by rfl) (by assumption) ?_ ?_
      · (intro wS hSw; (try dsimp only at hSw); go_simp; (try simp); (try omega))
      try simp only [Act.put, List.setIfInBounds_toArray, List.set_cons_zero, List.set_cons_succ]
      refine takeW (i := 10) (some 70) (v := ?_) rfl rfl (by kernel_rfl) (by kernel_rfl) (by kernel_rfl) (fun _ _ _ h => h) (by rfl) (by assumption) ?_ ?_
      rotate_left
      · (intro wS hSw; (try dsimp only at hSw); go_simp; try with_reducible rfl)
      try simp only [Act.put, List.setIfInBounds_toArray, List.set_cons_zero, List.set_cons_succ]
      refine takeW (i := 11) (some 71) (v := ?_) rfl rfl (by kernel_rfl) (by kernel_rfl) (by kernel_rfl) (fun _ _ _ h => h) (by rfl) (by assumption) ?_ ?_
      rotate_left
      · (intro wS hSw; (try dsimp only at hSw); go_simp; try with_reducible rfl)
      try simp only [Act.put, List.setIfInBounds_toArray, List.set_cons_zero, List.set_cons_succ]
      refine takeW (i := 12) (some 72) (v := ?_) rfl rfl (by kernel_rfl) (by kernel_rfl) (by kernel_rfl) (fun _ _ _ h => h) (by rfl) (by assumption) ?_ ?_
      rotate_left
      · (intro wS hSw; (try dsimp only at hSw); go_simp; try with_reducible rfl)
      try simp only [Act.put, List.setIfInBounds_toArray, List.set_cons_zero, List.set_cons_succ]
      refine takeW (i := 13) (some 73) (v := ?_) rfl rfl (by kernel_rfl) (by kernel_rfl) (by kernel_rfl) (fun _ _ _ h => h) (by rfl) (by assumption) ?_ ?_
      rotate_left
      · (intro wS hSw; (try dsimp only at hSw); go_simp; try with_reducible rfl)
      try simp only [Act.put, List.setIfInBounds_toArray, List.set_cons_zero, List.set_cons_succ]
      refine takeW (i := 14) (some 74) (v := ?_) rfl rfl (by kernel_rfl) (by kernel_rfl) (by kernel_rfl) (fun _ _ _ h => h) (by rfl) (by assumption) ?_ ?_
      rotate_left
      · (intro wS hSw; (try dsimp only at hSw); go_simp; try with_reducible rfl)
      try simp only [Act.put, List.setIfInBounds_toArray, List.set_cons_zero, List.set_cons_succ]
      refine takeW (i := 15) (some 75) (v := ?_) rfl rfl (by kernel_rfl) (by kernel_rfl) (by kernel_rfl) (fun _ _ _ h => h) (by rfl) (by assumption) ?_ ?_
      rotate_left
      · (intro wS hSw; (try dsimp only at hSw); go_simp; try with_reducible rfl)
      try simp only [Act.put, List.setIfInBounds_toArray, List.set_cons_zero, List.set_cons_succ]
      refine takeW (i := 16) (some 76) (v := ?_) rfl rfl (by kernel_rfl) (by kernel_rfl) (by kernel_rfl) (fun _ _ _ h => h) (by rfl) (by assumption) ?_ ?_
      rotate_left
      · (intro wS hSw; (try dsimp only at hSw); go_simp; try with_reducible rfl)
      try simp only [Act.put, List.setIfInBounds_toArray, List.set_cons_zero, List.set_cons_succ]
      refine takeW (i := 17) (some 77) (v := ?_) rfl rfl (by kernel_rfl) (by kernel_rfl) (by kernel_rfl) (fun _ _ _ h => h) (by rfl) (by assumption) ?_ ?_
      rotate_left
      · (intro wS hSw; (try dsimp only at hSw); go_simp; try with_reducible rfl)
      try simp only [Act.put, List.setIfInBounds_toArray, List.set_cons_zero, List.set_cons_succ]
      refine takeW (i := 18) (some 78) (v := ?_) rfl rfl (by kernel_rfl) (by kernel_rfl) (by kernel_rfl) (fun _ _ _ h => h) (by rfl) (by assumption) ?_ ?_
      rotate_left
      · (intro wS hSw; (try dsimp only at hSw); go_simp; try with_reducible rfl)
      try simp only [Act.put, List.setIfInBounds_toArray, List.set_cons_zero, List.set_cons_succ]
      refine takeW (i := 19) (some 79) (v := ?_) rfl rfl (by kernel_rfl) (by kernel_rfl) (by kernel_rfl) (fun _ _ _ h => h) (by rfl) (by assumption) ?_ ?_
      rotate_left
      · (intro wS hSw; (try dsimp only at hSw); go_simp; try with_reducible rfl)
      try simp only [Act.put, List.setIfInBounds_toArray, List.set_cons_zero, List.set_cons_succ]
      refine takeW (i := 20) (some 80) (v := ?_) rfl rfl (by kernel_rfl) (by kernel_rfl) (by kernel_rfl) (fun _ _ _ h => h) (by rfl) (by assumption) ?_ ?_
      rotate_left
      · (intro wS hSw; (try dsimp only at hSw); go_simp; try with_reducible rfl)
      try simp only [Act.put, List.setIfInBounds_toArray, List.set_cons_zero, List.set_cons_succ]
      refine takeW (i := 21) (some 81) (v := ?_) rfl rfl (by kernel_rfl) (by kernel_rfl) (by kernel_rfl) (fun _ _ _ h => h) (by rfl) (by assumption) ?_ ?_
      rotate_left
      · (intro wS hSw; (try dsimp only at hSw); go_simp; try with_reducible rfl)
      try simp only [Act.put, List.setIfInBounds_toArray, List.set_cons_zero, List.set_cons_succ]
      refine takeW (i := 22) (some 82) (v := ?_) rfl rfl (by kernel_rfl) (by kernel_rfl) (by kernel_rfl) (fun _ _ _ h => h) (by rfl) (by assumption) ?_ ?_
      rotate_left
      · (intro wS hSw; (try dsimp only at hSw); go_simp; try with_reducible rfl)
      try simp only [Act.put, List.setIfInBounds_toArray, List.set_cons_zero, List.set_cons_succ]
      refine takeW (i := 23) (some 83) (v := ?_) rfl rfl (by kernel_rfl) (by kernel_rfl) (by kernel_rfl) (fun _ _ _ h => h) (by rfl) (by assumption) ?_ ?_
      rotate_left
      · (intro wS hSw; (try dsimp only at hSw); go_simp; try with_reducible rfl)
      try simp only [Act.put, List.setIfInBounds_toArray, List.set_cons_zero, List.set_cons_succ]
      refine takeW (i := 24) (some 84) (v := ?_) rfl rfl (by kernel_rfl) (by kernel_rfl) (by kernel_rfl) (fun _ _ _ h => h) (by rfl) (by assumption) ?_ ?_
      rotate_left
      · (intro wS hSw; (try dsimp only at hSw); go_simp; try with_reducible rfl)
      try simp only [Act.put, List.setIfInBounds_toArray, List.set_cons_zero, List.set_cons_succ]
      refine takeW (i := 25) (some 85) (v := ?_) rfl rfl (by kernel_rfl) (by kernel_rfl) (by kernel_rfl) (fun _ _ _ h => h) (by rfl) (by assumption) ?_ ?_
      rotate_left
      · (intro wS hSw; (try dsimp only at hSw); go_simp; try with_reducible rfl)
      try simp only [Act.put, List.setIfInBounds_toArray, List.set_cons_zero, List.set_cons_succ]
      refine takeW (i := 26) (some 86) (v := ?_) rfl rfl (by kernel_rfl) (by kernel_rfl) (by kernel_rfl) (fun _ _ _ h => h) (by rfl) (by assumption) ?_ ?_
      rotate_left
      · (intro wS hSw; (try dsimp only at hSw); go_simp; try with_reducible rfl)
      try simp only [Act.put, List.setIfInBounds_toArray, List.set_cons_zero, List.set_cons_succ]
      refine wpAnyH_done (by kernel_rfl) ?_ _
      have hfin := Lib.hid E5.out.bel
      go_wp2
      go_ret
      exact ⟨rfl, hfin.out⟩
    · have hk : k < dn.length := by omega
      have hokk := Lib.hid (hup.out k hk (by omega)).1
      have t1 : decide ((k : Int) < (dn.length : Int)) = true := decide_eq_true (by omega)
      have a3 := hh.out.2.2
      have b2 := EL.out.bx 0 rfl
      have c2_7 := b2.cell 7 rfl
      clear b2
      obtain ⟨ua, uk, E30⟩ := EL.out.els 0 rfl (k) hk
      have E3 : Hid (Env D w [(w.heap.size, 27, [.int .i64 nx, .bool false, .int .i64 fr, .int .i64 to_, .int .i64 kd, .int .i64 nm, .slice xa body.length xk, .slice (some ⟨db, df, none⟩) dn.length dj, .int .i64 tr])] [.ce db (df + k * 5) (.int .i64 dn[k].fr), .ce db (df + k * 5 + 1) (.int .i64 dn[k].to_), .ce db (df + k * 5 + 2) (.int .i64 dn[k].kd), .ce db (df + k * 5 + 3) (.int .i64 dn[k].nm), .ce db (df + k * 5 + 4) (.slice ua dn[k].body.length uk), .bs (.slice ua dn[k].body.length uk) dn[k].body, .ms (.slice (some ⟨db, df, none⟩) dn.length dj) dn, .bs (.slice xa body.length xk) body] _) := Lib.hid E30
      clear E30 EL
      by_cases h0 : k = 0
      · have t2 : decide ((0 : Int) < (k : Int)) = false := decide_eq_false (by omega)
        have t4 : decide (0 < k) = false := decide_eq_false (by omega)
        clear h0
        go_wp2_with fail
        have E4 := Lib.hid E3.out.drew
        clear c2_7 E3
        refine wp_region_held_drew (S := fun w' => w'.cell? ⟨w.heap.size, 7, none⟩ = some (.slice (some ⟨db, df, none⟩) dn.length dj) ∧ w'.cell? ⟨db, df + k * 5, none⟩ = some (.int .i64 dn[k].fr) ∧ w'.cell? ⟨db, df + k * 5 + 1, none⟩ = some (.int .i64 dn[k].to_) ∧ w'.cell? ⟨db, df + k * 5 + 2, none⟩ = some (.int .i64 dn[k].kd) ∧ w'.cell? ⟨db, df + k * 5 + 3, none⟩ = some (.int .i64 dn[k].nm) ∧ w'.cell? ⟨db, df + k * 5 + 4, none⟩ = some (.slice ua dn[k].body.length uk)) (by kernel_rfl) (⟨((E4.out.bx 0 rfl).cell 7 rfl), (E4.out.fc 0 rfl).2, (E4.out.fc 1 rfl).2, (E4.out.fc 2 rfl).2, (E4.out.fc 3 rfl).2, (E4.out.fc 4 rfl).2⟩) (fun hHeld => ?_)
        refine takeW (i := 0) (some 60) (v := ?_) rfl rfl (by kernel_rfl) (by kernel_rfl) (by kernel_rfl) (fun _ _ _ h => h) (by rfl) (by assumption) ?_ ?_
        rotate_left
        · (intro wS hSw; (try dsimp only at hSw); go_simp; try with_reducible rfl)
        try simp only [Act.put, List.setIfInBounds_toArray, List.set_cons_zero, List.set_cons_succ]
        refine takeW (i := 1) (some 61) (v := ?_) rfl rfl (by kernel_rfl) (by kernel_rfl) (by kernel_rfl) (fun _ _ _ h => h) (by rfl) (by assumption) ?_ ?_
        rotate_left
        · (intro wS hSw; (try dsimp only at hSw); go_simp; try with_reducible rfl)
        try simp only [Act.put, List.setIfInBounds_toArray, List.set_cons_zero, List.set_cons_succ]
        refine takeW (i := 2) (some 62) (v := ?_) rfl rfl (by kernel_rfl) (by kernel_rfl) (by kernel_rfl) (fun _ _ _ h => h) (by rfl) (by assumption) ?_ ?_
        rotate_left
        · (intro wS hSw; (try dsimp only at hSw); go_simp; try with_reducible rfl)
        try simp only [Act.put, List.setIfInBounds_toArray, List.set_cons_zero, List.set_cons_succ]
        refine takeW (i := 3) (some 63) (v := ?_) rfl rfl (by kernel_rfl) (by kernel_rfl) (by kernel_rfl) (fun _ _ _ h => h) (by rfl) (by assumption) ?_ ?_
        rotate_left
        · (intro wS hSw; (try dsimp only at hSw); go_simp; try with_reducible rfl)
        try simp only [Act.put, List.setIfInBounds_toArray, List.set_cons_zero, List.set_cons_succ]
        refine takeW (i := 4) (some 64) (v := ?_) rfl rfl (by kernel_rfl) (by kernel_rfl) (by kernel_rfl) (fun _ _ _ h => h) (by rfl) (by assumption) ?_ ?_
        rotate_left
        · (intro wS hSw; (try dsimp only at hSw); go_simp; try with_reducible rfl)
        try simp only [Act.put, List.setIfInBounds_toArray, List.set_cons_zero, List.set_cons_succ]
        refine wpAnyH_ready (rs := [5]) (by kernel_rfl) (by simp) ?_
        refine AllReadyH.cons rfl (fun KK hKK => ?_) AllReadyH.nil
        go_simp
        refine (rMessage_v dn[k] hokk.out _ _ _).mono ?_
        rintro e w2 ⟨rfl, hbr⟩
        have E5 := Lib.hid (E4.out.below hbr)
        clear E4 hbr
        (try dsimp only)
        clear hHeld
        refine hKK.out _ _ (⟨((E5.out.bx 0 rfl).cell 7 rfl), (E5.out.fc 0 rfl).2, (E5.out.fc 1 rfl).2, (E5.out.fc 2 rfl).2, (E5.out.fc 3 rfl).2, (E5.out.fc 4 rfl).2⟩) (fun hHeld => ?_)
        clear hKK KK
        try simp only [Act.put, List.setIfInBounds_toArray, List.set_cons_zero, List.set_cons_succ]
        refine takeW (i := 6) (some 66) (v := ?_) rfl rfl (by kernel_rfl) (by kernel_rfl) (by kernel_rfl) (fun _ _ _ h => h) (by rfl) (by assumption) ?_ ?_
        rotate_left
        · (intro wS hSw; (try dsimp only at hSw); go_simp; try with_reducible rfl)
        try simp only [Act.put, List.setIfInBounds_toArray, List.set_cons_zero, List.set_cons_succ]
        refine takeW (i := 7) (some 67) (v := ?_) rfl rfl (by kernel_rfl) (by kernel_rfl) (by kernel_rfl) (fun _ _ _ h => h) (by rfl) (by assumption) ?_ ?_
        rotate_left
        · (intro wS hSw; (try dsimp only at hSw); go_simp; try with_reducible rfl)
        try simp only [Act.put, List.setIfInBounds_toArray, List.set_cons_zero, List.set_cons_succ]
        refine takeW (i := 8) (some 68) (v := ?_) rfl rfl (by kernel_rfl) (by kernel_rfl) (by kernel_rfl) (fun _ _ _ h => h) (by rfl) (by assumption) ?_ ?_
        rotate_left
        · (intro wS hSw; (try dsimp only at hSw); go_simp; try with_reducible rfl)
        try simp only [Act.put, List.setIfInBounds_toArray, List.set_cons_zero, List.set_cons_succ]
        refine takeW (i := 9) (some 69) (v := .bool false) rfl rfl (by kernel_rfl) (by kernel_rfl) (by kernel_rfl) (fun _ _ _ h => h) (by rfl) (by assumption) ?_ ?_
        · (intro wS hSw; (try dsimp only at hSw); go_simp; (try simp); (try omega))
        try simp only [Act.put, List.setIfInBounds_toArray, List.set_cons_zero, List.set_cons_succ]
        refine takeW (i := 10) (some 70) (v := ?_) rfl rfl (by kernel_rfl) (by kernel_rfl) (by kernel_rfl) (fun _ _ _ h => h) (by rfl) (by assumption) ?_ ?_
        rotate_left
        · (intro wS hSw; (try dsimp only at hSw); go_simp; try with_reducible rfl)
        try simp only [Act.put, List.setIfInBounds_toArray, List.set_cons_zero, List.set_cons_succ]
        refine takeU (i := 11) (some 71) rfl rfl (by kernel_rfl) (by kernel_rfl) (by kernel_rfl) (fun _ _ _ h => h) (by rfl) (by assumption) ?_
        try simp only [Act.put, List.setIfInBounds_toArray, List.set_cons_zero, List.set_cons_succ]
        refine takeU (i := 12) (some 72) rfl rfl (by kernel_rfl) (by kernel_rfl) (by kernel_rfl) (fun _ _ _ h => h) (by rfl) (by assumption) ?_
        try simp only [Act.put, List.setIfInBounds_toArray, List.set_cons_zero, List.set_cons_succ]
        refine takeU (i := 13) (some 73) rfl rfl (by kernel_rfl) (by kernel_rfl) (by kernel_rfl) (fun _ _ _ h => h) (by rfl) (by assumption) ?_
        try simp only [Act.put, List.setIfInBounds_toArray, List.set_cons_zero, List.set_cons_succ]
        refine takeU (i := 14) (some 74) rfl rfl (by kernel_rfl) (by kernel_rfl) (by kernel_rfl) (fun _ _ _ h => h) (by rfl) (by assumption) ?_
        try simp only [Act.put, List.setIfInBounds_toArray, List.set_cons_zero, List.set_cons_succ]
        refine takeU (i := 15) (some 75) rfl rfl (by kernel_rfl) (by kernel_rfl) (by kernel_rfl) (fun _ _ _ h => h) (by rfl) (by assumption) ?_
        try simp only [Act.put, List.setIfInBounds_toArray, List.set_cons_zero, List.set_cons_succ]
        refine takeU (i := 16) (some 76) rfl rfl (by kernel_rfl) (by kernel_rfl) (by kernel_rfl) (fun _ _ _ h => h) (by rfl) (by assumption) ?_
        try simp only [Act.put, List.setIfInBounds_toArray, List.set_cons_zero, List.set_cons_succ]
        refine takeU (i := 17) (some 77) rfl rfl (by kernel_rfl) (by kernel_rfl) (by kernel_rfl) (fun _ _ _ h => h) (by rfl) (by assumption) ?_
        try simp only [Act.put, List.setIfInBounds_toArray, List.set_cons_zero, List.set_cons_succ]
        refine takeU (i := 18) (some 78) rfl rfl (by kernel_rfl) (by kernel_rfl) (by kernel_rfl) (fun _ _ _ h => h) (by rfl) (by assumption) ?_
        try simp only [Act.put, List.setIfInBounds_toArray, List.set_cons_zero, List.set_cons_succ]
        refine takeU (i := 19) (some 79) rfl rfl (by kernel_rfl) (by kernel_rfl) (by kernel_rfl) (fun _ _ _ h => h) (by rfl) (by assumption) ?_
        try simp only [Act.put, List.setIfInBounds_toArray, List.set_cons_zero, List.set_cons_succ]
        refine takeU (i := 20) (some 80) rfl rfl (by kernel_rfl) (by kernel_rfl) (by kernel_rfl) (fun _ _ _ h => h) (by rfl) (by assumption) ?_
        try simp only [Act.put, List.setIfInBounds_toArray, List.set_cons_zero, List.set_cons_succ]
        refine takeU (i := 21) (some 81) rfl rfl (by kernel_rfl) (by kernel_rfl) (by kernel_rfl) (fun _ _ _ h => h) (by rfl) (by assumption) ?_
        try simp only [Act.put, List.setIfInBounds_toArray, List.set_cons_zero, List.set_cons_succ]
        refine takeU (i := 22) (some 82) rfl rfl (by kernel_rfl) (by kernel_rfl) (by kernel_rfl) (fun _ _ _ h => h) (by rfl) (by assumption) ?_
        try simp only [Act.put, List.setIfInBounds_toArray, List.set_cons_zero, List.set_cons_succ]
        refine takeU (i := 23) (some 83) rfl rfl (by kernel_rfl) (by kernel_rfl) (by kernel_rfl) (fun _ _ _ h => h) (by rfl) (by assumption) ?_
        try simp only [Act.put, List.setIfInBounds_toArray, List.set_cons_zero, List.set_cons_succ]
        refine takeU (i := 24) (some 84) rfl rfl (by kernel_rfl) (by kernel_rfl) (by kernel_rfl) (fun _ _ _ h => h) (by rfl) (by assumption) ?_
        try simp only [Act.put, List.setIfInBounds_toArray, List.set_cons_zero, List.set_cons_succ]
        refine takeW (i := 25) (some 85) (v := ?_) rfl rfl (by kernel_rfl) (by kernel_rfl) (by kernel_rfl) (fun _ _ _ h => h) (by rfl) (by assumption) ?_ ?_
        rotate_left
        · (intro wS hSw; (try dsimp only at hSw); go_simp; try with_reducible rfl)
        try simp only [Act.put, List.setIfInBounds_toArray, List.set_cons_zero, List.set_cons_succ]
        refine takeW (i := 26) (some 86) (v := ?_) rfl rfl (by kernel_rfl) (by kernel_rfl) (by kernel_rfl) (fun _ _ _ h => h) (by rfl) (by assumption) ?_ ?_
        rotate_left
        · (intro wS hSw; (try dsimp only at hSw); go_simp; try with_reducible rfl)
        try simp only [Act.put, List.setIfInBounds_toArray, List.set_cons_zero, List.set_cons_succ]
        refine wpAnyH_done (by kernel_rfl) ?_ _
        have EZ := Lib.hid ((((((E5.out.forget).forget).forget).forget).forget).forget)
        go_wp2
        go_roundg (dn.length - (k + 1))
        case rel => exact ⟨k + 1, rfl, EZ, Lib.hid ⟨by omega, rfl⟩⟩
        case measure => exact by omega
      · obtain ⟨j, HJ⟩ : ∃ j, Hid (k = j + 1) := ⟨k - 1, Lib.hid (by omega)⟩
        have hj : j < dn.length := by have := HJ.out; omega
        have t2 : decide ((0 : Int) < (k : Int)) = true := decide_eq_true (by omega)
        have t4 : decide (0 < k) = true := decide_eq_true (by omega)
        have t5 : 0 < k := by omega
        clear h0
        have ej : ((k : Int) - 1) = (j : Int) := by have := HJ.out; omega
        have ew : IntKind.i64.wrap (j : Int) = (j : Int) := by rw [IntKind.wrap_i64]; omega
        have t3 : decide (dn[k].to_ ≤ dn[j].to_) = false := decide_eq_false (by have := (hup.out k hk (by omega)).2 j hj HJ.out; omega)
        go_wp2_with fail
        have E4 := Lib.hid E3.out.drew
        clear c2_7 E3
        refine wp_region_held_drew (S := fun w' => w'.cell? ⟨w.heap.size, 7, none⟩ = some (.slice (some ⟨db, df, none⟩) dn.length dj) ∧ w'.cell? ⟨db, df + k * 5, none⟩ = some (.int .i64 dn[k].fr) ∧ w'.cell? ⟨db, df + k * 5 + 1, none⟩ = some (.int .i64 dn[k].to_) ∧ w'.cell? ⟨db, df + k * 5 + 2, none⟩ = some (.int .i64 dn[k].kd) ∧ w'.cell? ⟨db, df + k * 5 + 3, none⟩ = some (.int .i64 dn[k].nm) ∧ w'.cell? ⟨db, df + k * 5 + 4, none⟩ = some (.slice ua dn[k].body.length uk) ∧ w'.cell? ⟨db, df + j * 5 + 1, none⟩ = some (.int .i64 dn[j].to_)) (by kernel_rfl) (⟨((E4.out.bx 0 rfl).cell 7 rfl), (E4.out.fc 0 rfl).2, (E4.out.fc 1 rfl).2, (E4.out.fc 2 rfl).2, (E4.out.fc 3 rfl).2, (E4.out.fc 4 rfl).2, (Ms.el (E4.out.fc 6 rfl) j hj).2.1⟩) (fun hHeld => ?_)
        refine takeW (i := 0) (some 60) (v := ?_) rfl rfl (by kernel_rfl) (by kernel_rfl) (by kernel_rfl) (fun _ _ _ h => h) (by rfl) (by assumption) ?_ ?_
        rotate_left
        · (intro wS hSw; (try dsimp only at hSw); go_simp; try with_reducible rfl)
        try simp only [Act.put, List.setIfInBounds_toArray, List.set_cons_zero, List.set_cons_succ]
        refine takeW (i := 1) (some 61) (v := ?_) rfl rfl (by kernel_rfl) (by kernel_rfl) (by kernel_rfl) (fun _ _ _ h => h) (by rfl) (by assumption) ?_ ?_
        rotate_left
        · (intro wS hSw; (try dsimp only at hSw); go_simp; try with_reducible rfl)
        try simp only [Act.put, List.setIfInBounds_toArray, List.set_cons_zero, List.set_cons_succ]
        refine takeW (i := 2) (some 62) (v := ?_) rfl rfl (by kernel_rfl) (by kernel_rfl) (by kernel_rfl) (fun _ _ _ h => h) (by rfl) (by assumption) ?_ ?_
        rotate_left
        · (intro wS hSw; (try dsimp only at hSw); go_simp; try with_reducible rfl)
        try simp only [Act.put, List.setIfInBounds_toArray, List.set_cons_zero, List.set_cons_succ]
        refine takeW (i := 3) (some 63) (v := ?_) rfl rfl (by kernel_rfl) (by kernel_rfl) (by kernel_rfl) (fun _ _ _ h => h) (by rfl) (by assumption) ?_ ?_
        rotate_left
        · (intro wS hSw; (try dsimp only at hSw); go_simp; try with_reducible rfl)
        try simp only [Act.put, List.setIfInBounds_toArray, List.set_cons_zero, List.set_cons_succ]
        refine takeW (i := 4) (some 64) (v := ?_) rfl rfl (by kernel_rfl) (by kernel_rfl) (by kernel_rfl) (fun _ _ _ h => h) (by rfl) (by assumption) ?_ ?_
        rotate_left
        · (intro wS hSw; (try dsimp only at hSw); go_simp; try with_reducible rfl)
        try simp only [Act.put, List.setIfInBounds_toArray, List.set_cons_zero, List.set_cons_succ]
        refine wpAnyH_ready (rs := [5]) (by kernel_rfl) (by simp) ?_
        refine AllReadyH.cons rfl (fun KK hKK => ?_) AllReadyH.nil
        go_simp
        refine (rMessage_v dn[k] hokk.out _ _ _).mono ?_
        rintro e w2 ⟨rfl, hbr⟩
        have E5 := Lib.hid (E4.out.below hbr)
        clear E4 hbr
        (try dsimp only)
        clear hHeld
        refine hKK.out _ _ (⟨((E5.out.bx 0 rfl).cell 7 rfl), (E5.out.fc 0 rfl).2, (E5.out.fc 1 rfl).2, (E5.out.fc 2 rfl).2, (E5.out.fc 3 rfl).2, (E5.out.fc 4 rfl).2, (Ms.el (E5.out.fc 6 rfl) j hj).2.1⟩) (fun hHeld => ?_)
        clear hKK KK
        try simp only [Act.put, List.setIfInBounds_toArray, List.set_cons_zero, List.set_cons_succ]
        refine takeW (i := 6) (some 66) (v := ?_) rfl rfl (by kernel_rfl) (by kernel_rfl) (by kernel_rfl) (fun _ _ _ h => h) (by rfl) (by assumption) ?_ ?_
        rotate_left
        · (intro wS hSw; (try dsimp only at hSw); go_simp; try with_reducible rfl)
        try simp only [Act.put, List.setIfInBounds_toArray, List.set_cons_zero, List.set_cons_succ]
        refine takeW (i := 7) (some 67) (v := ?_) rfl rfl (by kernel_rfl) (by kernel_rfl) (by kernel_rfl) (fun _ _ _ h => h) (by rfl) (by assumption) ?_ ?_
        rotate_left
        · (intro wS hSw; (try dsimp only at hSw); go_simp; try with_reducible rfl)
        try simp only [Act.put, List.setIfInBounds_toArray, List.set_cons_zero, List.set_cons_succ]
        refine takeW (i := 8) (some 68) (v := ?_) rfl rfl (by kernel_rfl) (by kernel_rfl) (by kernel_rfl) (fun _ _ _ h => h) (by rfl) (by assumption) ?_ ?_
        rotate_left
        · (intro wS hSw; (try dsimp only at hSw); go_simp; try with_reducible rfl)
        try simp only [Act.put, List.setIfInBounds_toArray, List.set_cons_zero, List.set_cons_succ]
        refine takeW (i := 9) (some 69) (v := .bool true) rfl rfl (by kernel_rfl) (by kernel_rfl) (by kernel_rfl) (fun _ _ _ h => h) (by rfl) (by assumption) ?_ ?_
        · (intro wS hSw; (try dsimp only at hSw); go_simp; (try simp); (try omega))
        try simp only [Act.put, List.setIfInBounds_toArray, List.set_cons_zero, List.set_cons_succ]
        refine takeW (i := 10) (some 70) (v := ?_) rfl rfl (by kernel_rfl) (by kernel_rfl) (by kernel_rfl) (fun _ _ _ h => h) (by rfl) (by assumption) ?_ ?_
        rotate_left
        · (intro wS hSw; (try dsimp only at hSw); go_simp; try with_reducible rfl)
        try simp only [Act.put, List.setIfInBounds_toArray, List.set_cons_zero, List.set_cons_succ]
        refine takeW (i := 11) (some 71) (v := ?_) rfl rfl (by kernel_rfl) (by kernel_rfl) (by kernel_rfl) (fun _ _ _ h => h) (by rfl) (by assumption) ?_ ?_
        rotate_left
        · (intro wS hSw; (try dsimp only at hSw); go_simp; try with_reducible rfl)
        try simp only [Act.put, List.setIfInBounds_toArray, List.set_cons_zero, List.set_cons_succ]
        refine takeW (i := 12) (some 72) (v := ?_) rfl rfl (by kernel_rfl) (by kernel_rfl) (by kernel_rfl) (fun _ _ _ h => h) (by rfl) (by assumption) ?_ ?_
        rotate_left
        · (intro wS hSw; (try dsimp only at hSw); go_simp; try with_reducible rfl)
        try simp only [Act.put, List.setIfInBounds_toArray, List.set_cons_zero, List.set_cons_succ]
        refine takeW (i := 13) (some 73) (v := ?_) rfl rfl (by kernel_rfl) (by kernel_rfl) (by kernel_rfl) (fun _ _ _ h => h) (by rfl) (by assumption) ?_ ?_
        rotate_left
        · (intro wS hSw; (try dsimp only at hSw); go_simp; try with_reducible rfl)
        try simp only [Act.put, List.setIfInBounds_toArray, List.set_cons_zero, List.set_cons_succ]
        refine takeW (i := 14) (some 74) (v := ?_) rfl rfl (by kernel_rfl) (by kernel_rfl) (by kernel_rfl) (fun _ _ _ h => h) (by rfl) (by assumption) ?_ ?_
        rotate_left
        · (intro wS hSw; (try dsimp only at hSw); go_simp; try with_reducible rfl)
        try simp only [Act.put, List.setIfInBounds_toArray, List.set_cons_zero, List.set_cons_succ]
        refine takeW (i := 15) (some 75) (v := ?_) rfl rfl (by kernel_rfl) (by kernel_rfl) (by kernel_rfl) (fun _ _ _ h => h) (by rfl) (by assumption) ?_ ?_
        rotate_left
        · (intro wS hSw; (try dsimp only at hSw); go_simp; try with_reducible rfl)
        try simp only [Act.put, List.setIfInBounds_toArray, List.set_cons_zero, List.set_cons_succ]
        refine takeW (i := 16) (some 76) (v := ?_) rfl rfl (by kernel_rfl) (by kernel_rfl) (by kernel_rfl) (fun _ _ _ h => h) (by rfl) (by assumption) ?_ ?_
        rotate_left
        · (intro wS hSw; (try dsimp only at hSw); go_simp; try with_reducible rfl)
        try simp only [Act.put, List.setIfInBounds_toArray, List.set_cons_zero, List.set_cons_succ]
        refine takeW (i := 17) (some 77) (v := ?_) rfl rfl (by kernel_rfl) (by kernel_rfl) (by kernel_rfl) (fun _ _ _ h => h) (by rfl) (by assumption) ?_ ?_
        rotate_left
        · (intro wS hSw; (try dsimp only at hSw); go_simp; try with_reducible rfl)
        try simp only [Act.put, List.setIfInBounds_toArray, List.set_cons_zero, List.set_cons_succ]
        refine takeW (i := 18) (some 78) (v := ?_) rfl rfl (by kernel_rfl) (by kernel_rfl) (by kernel_rfl) (fun _ _ _ h => h) (by rfl) (by assumption) ?_ ?_
        rotate_left
        · (intro wS hSw; (try dsimp only at hSw); go_simp; try with_reducible rfl)
        try simp only [Act.put, List.setIfInBounds_toArray, List.set_cons_zero, List.set_cons_succ]
        refine takeW (i := 19) (some 79) (v := ?_) rfl rfl (by kernel_rfl) (by kernel_rfl) (by kernel_rfl) (fun _ _ _ h => h) (by rfl) (by assumption) ?_ ?_
        rotate_left
        · (intro wS hSw; (try dsimp only at hSw); go_simp; try with_reducible rfl)
        try simp only [Act.put, List.setIfInBounds_toArray, List.set_cons_zero, List.set_cons_succ]
        refine takeW (i := 20) (some 80) (v := ?_) rfl rfl (by kernel_rfl) (by kernel_rfl) (by kernel_rfl) (fun _ _ _ h => h) (by rfl) (by assumption) ?_ ?_
        rotate_left
        · (intro wS hSw; (try dsimp only at hSw); go_simp; try with_reducible rfl)
        try simp only [Act.put, List.setIfInBounds_toArray, List.set_cons_zero, List.set_cons_succ]
        refine takeW (i := 21) (some 81) (v := ?_) rfl rfl (by kernel_rfl) (by kernel_rfl) (by kernel_rfl) (fun _ _ _ h => h) (by rfl) (by assumption) ?_ ?_
        rotate_left
        · (intro wS hSw; (try dsimp only at hSw); go_simp; try with_reducible rfl)
        try simp only [Act.put, List.setIfInBounds_toArray, List.set_cons_zero, List.set_cons_succ]
        refine takeW (i := 22) (some 82) (v := ?_) rfl rfl (by kernel_rfl) (by kernel_rfl) (by kernel_rfl) (fun _ _ _ h => h) (by rfl) (by assumption) ?_ ?_
        rotate_left
        · (intro wS hSw; (try dsimp only at hSw); go_simp; try with_reducible rfl)
        try simp only [Act.put, List.setIfInBounds_toArray, List.set_cons_zero, List.set_cons_succ]
        refine takeW (i := 23) (some 83) (v := ?_) rfl rfl (by kernel_rfl) (by kernel_rfl) (by kernel_rfl) (fun _ _ _ h => h) (by rfl) (by assumption) ?_ ?_
        rotate_left
        · (intro wS hSw; (try dsimp only at hSw); go_simp; try with_reducible rfl)
        try simp only [Act.put, List.setIfInBounds_toArray, List.set_cons_zero, List.set_cons_succ]
        refine takeW (i := 24) (some 84) (v := ?_) rfl rfl (by kernel_rfl) (by kernel_rfl) (by kernel_rfl) (fun _ _ _ h => h) (by rfl) (by assumption) ?_ ?_
        rotate_left
        · (intro wS hSw; (try dsimp only at hSw); go_simp; try with_reducible rfl)
        try simp only [Act.put, List.setIfInBounds_toArray, List.set_cons_zero, List.set_cons_succ]
        refine takeW (i := 25) (some 85) (v := ?_) rfl rfl (by kernel_rfl) (by kernel_rfl) (by kernel_rfl) (fun _ _ _ h => h) (by rfl) (by assumption) ?_ ?_
        rotate_left
        · (intro wS hSw; (try dsimp only at hSw); go_simp; try with_reducible rfl)
        try simp only [Act.put, List.setIfInBounds_toArray, List.set_cons_zero, List.set_cons_succ]
        refine takeW (i := 26) (some 86) (v := ?_) rfl rfl (by kernel_rfl) (by kernel_rfl) (by kernel_rfl) (fun _ _ _ h => h) (by rfl) (by assumption) ?_ ?_
        rotate_left
        · (intro wS hSw; (try dsimp only at hSw); go_simp; try with_reducible rfl)
        try simp only [Act.put, List.setIfInBounds_toArray, List.set_cons_zero, List.set_cons_succ]
        refine wpAnyH_done (by kernel_rfl) ?_ _
        have EZ := Lib.hid ((((((E5.out.forget).forget).forget).forget).forget).forget)
        go_wp2
        go_roundg (dn.length - (k + 1))
        case rel => exact ⟨k + 1, rfl, EZ, Lib.hid ⟨by omega, rfl⟩⟩
        case measure => exact by omega
end Go.Proofs.Ytbcfcdcomboljaa

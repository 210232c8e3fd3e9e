/- voucher: the law VoucherLinks. -/
import Derived.Test.YtikopkkebdobdaaGreatDoorVrK
import Derived.Test.YtikopkkebdobdaaGreatDoorVrE
namespace Go.Proofs.YtikopkkebdobdaaGreatDoor
open Go.RowKit
set_option linter.unusedVariables false
set_option linter.unusedSimpArgs false
set_option maxRecDepth 100000 in
set_option maxHeartbeats 8000000 in
theorem VoucherLinks_t {lN lE l1 l2 l3 : List Nat} {na ea ba sa ta : Option Addr} {nk ek bk sk tk : Nat} {R : Nat} {c : Int} {w : World} (hn : Nn.Sl w (.slice na lN.length nk) lN) (he : Nn.Sl w (.slice ea lE.length ek) lE) (hx : Nn.Sl w (.slice ba l1.length bk) l1) (hy : Nn.Sl w (.slice sa l2.length sk) l2) (hz : Nn.Sl w (.slice ta l3.length tk) l3) (hl0 : Laid w) (hk0 : LinkOk lN lE l1 l2 l3 R c) (ht0 : [lN, lE, l1, l2, l3].any big = true) :
    Calls Tryz.prog 3 #[.agg #[.slice na lN.length nk, .slice ea lE.length ek], .agg #[.slice ba l1.length bk], .agg #[.slice sa l2.length sk], .agg #[.slice ta l3.length tk]] w fun e w' => e = .returned (.bool true) ∧ Below w.heap.size w w' := by
  have E0 := Lib.hid ((((((Env.start (fun _ => True) w).argS hn).argS he).argS hx).argS hy).argS hz)
  clear hn he hx hy hz
  go_enter Tryz.func3, Tryz.ntmps3
  have hl := Lib.hid hl0
  have hk := Lib.hid hk0
  have ht := Lib.hid ht0
  clear hl0 hk0 ht0
  go_wp2_with fail
  have E1 : Hid (Env (fun _ => True) w [(w.heap.size + 1 + 1 + 1, 24, [.slice ta l3.length tk]), (w.heap.size + 1 + 1, 24, [.slice sa l2.length sk]), (w.heap.size + 1, 24, [.slice ba l1.length bk]), (w.heap.size, 26, [.slice na lN.length nk, .slice ea lE.length ek])] [.gn (gS (.slice ta l3.length tk) l3), .gn (gS (.slice sa l2.length sk) l2), .gn (gS (.slice ba l1.length bk) l1), .gn (gS (.slice ea lE.length ek) lE), .gn (gS (.slice na lN.length nk) lN)] _) := Lib.hid (((((E0.out.push 26 [.slice na lN.length nk, .slice ea lE.length ek] (w.heap.size) (by simp)).push 24 [.slice ba l1.length bk] (w.heap.size + 1) (by simp)).push 24 [.slice sa l2.length sk] (w.heap.size + 1 + 1) (by simp)).push 24 [.slice ta l3.length tk] (w.heap.size + 1 + 1 + 1) (by simp)))
  refine (awake24_c (hl.out.below E1.out.bel)).mono ?_
  rintro e w1 ⟨rfl, hb⟩
  have E2 := Lib.hid (E1.out.below hb)
  clear E0 E1 hb
  have b1 := E2.out.bx 3 rfl
  have c1_0 := b1.cell 0 rfl
  clear b1
  have b2 := E2.out.bx 3 rfl
  have c2_1 := b2.cell 1 rfl
  clear b2
  have b3 := E2.out.bx 2 rfl
  have c3_0 := b3.cell 0 rfl
  clear b3
  have b4 := E2.out.bx 1 rfl
  have c4_0 := b4.cell 0 rfl
  clear b4
  have b5 := E2.out.bx 0 rfl
  have c5_0 := b5.cell 0 rfl
  clear b5
  have E3 : Hid (Env (fun _ => True) w [(w1.heap.size, 24, [.slice na lN.length nk, .slice ea lE.length ek, .slice ba l1.length bk, .slice sa l2.length sk, .slice ta l3.length tk]), (w.heap.size + 1 + 1 + 1, 24, [.slice ta l3.length tk]), (w.heap.size + 1 + 1, 24, [.slice sa l2.length sk]), (w.heap.size + 1, 24, [.slice ba l1.length bk]), (w.heap.size, 26, [.slice na lN.length nk, .slice ea lE.length ek])] [.gn (gS (.slice ta l3.length tk) l3), .gn (gS (.slice sa l2.length sk) l2), .gn (gS (.slice ba l1.length bk) l1), .gn (gS (.slice ea lE.length ek) lE), .gn (gS (.slice na lN.length nk) lN)] _) := Lib.hid ((E2.out.push 24 [.slice na lN.length nk, .slice ea lE.length ek, .slice ba l1.length bk, .slice sa l2.length sk, .slice ta l3.length tk] (w1.heap.size) (by simp)))
  go_wp2_with fail
  refine (great_c [lN, lE, l1, l2, l3] (xb := w1.heap.size) (xo := 0) (xk := 5) (gNs.box (E3.out.bx 0 rfl) ⟨(gS.sl (E3.out.fc 4 rfl)), ⟨(gS.sl (E3.out.fc 3 rfl)), ⟨(gS.sl (E3.out.fc 2 rfl)), ⟨(gS.sl (E3.out.fc 1 rfl)), ⟨(gS.sl (E3.out.fc 0 rfl)), trivial⟩⟩⟩⟩⟩) (t := true) ht.out (by simp)).mono ?_
  rintro e w2 ⟨rfl, hb⟩
  have E4 := Lib.hid (E3.out.below hb)
  clear c1_0 c2_1 c3_0 c4_0 c5_0 E2 E3 hb
  have hfin := Lib.hid E4.out.bel
  go_wp2
  go_ret
  exact ⟨rfl, hfin.out⟩
set_option maxRecDepth 100000 in
set_option maxHeartbeats 8000000 in
theorem VoucherLinks_f {lN lE l1 l2 l3 : List Nat} {na ea ba sa ta : Option Addr} {nk ek bk sk tk : Nat} {R : Nat} {c : Int} {w : World} (hn : Nn.Sl w (.slice na lN.length nk) lN) (he : Nn.Sl w (.slice ea lE.length ek) lE) (hx : Nn.Sl w (.slice ba l1.length bk) l1) (hy : Nn.Sl w (.slice sa l2.length sk) l2) (hz : Nn.Sl w (.slice ta l3.length tk) l3) (hl0 : Laid w) (hk0 : LinkOk lN lE l1 l2 l3 R c) (ht0 : [lN, lE, l1, l2, l3].any big = false) :
    Calls Tryz.prog 3 #[.agg #[.slice na lN.length nk, .slice ea lE.length ek], .agg #[.slice ba l1.length bk], .agg #[.slice sa l2.length sk], .agg #[.slice ta l3.length tk]] w fun e w' => e = .returned (.bool true) ∧ Below w.heap.size w w' := by
  have E0 := Lib.hid ((((((Env.start (fun _ => True) w).argS hn).argS he).argS hx).argS hy).argS hz)
  clear hn he hx hy hz
  go_enter Tryz.func3, Tryz.ntmps3
  have hl := Lib.hid hl0
  have hk := Lib.hid hk0
  have ht := Lib.hid ht0
  clear hl0 hk0 ht0
  go_wp2_with fail
  have E1 : Hid (Env (fun _ => True) w [(w.heap.size + 1 + 1 + 1, 24, [.slice ta l3.length tk]), (w.heap.size + 1 + 1, 24, [.slice sa l2.length sk]), (w.heap.size + 1, 24, [.slice ba l1.length bk]), (w.heap.size, 26, [.slice na lN.length nk, .slice ea lE.length ek])] [.gn (gS (.slice ta l3.length tk) l3), .gn (gS (.slice sa l2.length sk) l2), .gn (gS (.slice ba l1.length bk) l1), .gn (gS (.slice ea lE.length ek) lE), .gn (gS (.slice na lN.length nk) lN)] _) := Lib.hid (((((E0.out.push 26 [.slice na lN.length nk, .slice ea lE.length ek] (w.heap.size) (by simp)).push 24 [.slice ba l1.length bk] (w.heap.size + 1) (by simp)).push 24 [.slice sa l2.length sk] (w.heap.size + 1 + 1) (by simp)).push 24 [.slice ta l3.length tk] (w.heap.size + 1 + 1 + 1) (by simp)))
  refine (awake24_c (hl.out.below E1.out.bel)).mono ?_
  rintro e w1 ⟨rfl, hb⟩
  have E2 := Lib.hid (E1.out.below hb)
  clear E0 E1 hb
  have b1 := E2.out.bx 3 rfl
  have c1_0 := b1.cell 0 rfl
  clear b1
  have b2 := E2.out.bx 3 rfl
  have c2_1 := b2.cell 1 rfl
  clear b2
  have b3 := E2.out.bx 2 rfl
  have c3_0 := b3.cell 0 rfl
  clear b3
  have b4 := E2.out.bx 1 rfl
  have c4_0 := b4.cell 0 rfl
  clear b4
  have b5 := E2.out.bx 0 rfl
  have c5_0 := b5.cell 0 rfl
  clear b5
  have E3 : Hid (Env (fun _ => True) w [(w1.heap.size, 24, [.slice na lN.length nk, .slice ea lE.length ek, .slice ba l1.length bk, .slice sa l2.length sk, .slice ta l3.length tk]), (w.heap.size + 1 + 1 + 1, 24, [.slice ta l3.length tk]), (w.heap.size + 1 + 1, 24, [.slice sa l2.length sk]), (w.heap.size + 1, 24, [.slice ba l1.length bk]), (w.heap.size, 26, [.slice na lN.length nk, .slice ea lE.length ek])] [.gn (gS (.slice ta l3.length tk) l3), .gn (gS (.slice sa l2.length sk) l2), .gn (gS (.slice ba l1.length bk) l1), .gn (gS (.slice ea lE.length ek) lE), .gn (gS (.slice na lN.length nk) lN)] _) := Lib.hid ((E2.out.push 24 [.slice na lN.length nk, .slice ea lE.length ek, .slice ba l1.length bk, .slice sa l2.length sk, .slice ta l3.length tk] (w1.heap.size) (by simp)))
  go_wp2_with fail
  refine (great_c [lN, lE, l1, l2, l3] (xb := w1.heap.size) (xo := 0) (xk := 5) (gNs.box (E3.out.bx 0 rfl) ⟨(gS.sl (E3.out.fc 4 rfl)), ⟨(gS.sl (E3.out.fc 3 rfl)), ⟨(gS.sl (E3.out.fc 2 rfl)), ⟨(gS.sl (E3.out.fc 1 rfl)), ⟨(gS.sl (E3.out.fc 0 rfl)), trivial⟩⟩⟩⟩⟩) (t := false) ht.out (by simp)).mono ?_
  rintro e w2 ⟨rfl, hb⟩
  have E4 := Lib.hid (E3.out.below hb)
  clear c1_0 c2_1 c3_0 c4_0 c5_0 E2 E3 hb
  have b6 := E4.out.bx 4 rfl
  have c6_0 := b6.cell 0 rfl
  have c6_1 := b6.cell 1 rfl
  clear b6
  have b7 := E4.out.bx 3 rfl
  have c7_0 := b7.cell 0 rfl
  clear b7
  have b8 := E4.out.bx 2 rfl
  have c8_0 := b8.cell 0 rfl
  clear b8
  have b9 := E4.out.bx 1 rfl
  have c9_0 := b9.cell 0 rfl
  clear b9
  go_wp2_with fail
  refine ((hk.out.2 _ _ _ _ _ _ (gS.sl (E4.out.fc 4 rfl)) (gS.sl (E4.out.fc 3 rfl)) (gS.sl (E4.out.fc 2 rfl)) (gS.sl (E4.out.fc 1 rfl)) (gS.sl (E4.out.fc 0 rfl))).1).mono ?_
  rintro e w3 ⟨⟨ua, uk, rfl, uh⟩, hb⟩
  have E5 := Lib.hid ((E4.out.below hb).noteS uh.out rfl)
  clear c6_0 c6_1 c7_0 c8_0 c9_0 E4 hb uh
  have E6 : Hid (Env (fun _ => True) w [(w3.heap.size, 24, [.slice ua (Nn.NatMath.len R) uk]), (w1.heap.size, 24, [.slice na lN.length nk, .slice ea lE.length ek, .slice ba l1.length bk, .slice sa l2.length sk, .slice ta l3.length tk]), (w.heap.size + 1 + 1 + 1, 24, [.slice ta l3.length tk]), (w.heap.size + 1 + 1, 24, [.slice sa l2.length sk]), (w.heap.size + 1, 24, [.slice ba l1.length bk]), (w.heap.size, 26, [.slice na lN.length nk, .slice ea lE.length ek])] [.gn (gS (.slice ua (Nn.NatMath.len R) uk) (Nn.NatMath.digs R)), .gn (gS (.slice ta l3.length tk) l3), .gn (gS (.slice sa l2.length sk) l2), .gn (gS (.slice ba l1.length bk) l1), .gn (gS (.slice ea lE.length ek) lE), .gn (gS (.slice na lN.length nk) lN)] _) := Lib.hid ((E5.out.push 24 [.slice ua (Nn.NatMath.len R) uk] (w3.heap.size) (by simp)))
  have b10 := E6.out.bx 5 rfl
  have c10_0 := b10.cell 0 rfl
  have c10_1 := b10.cell 1 rfl
  clear b10
  have b11 := E6.out.bx 4 rfl
  have c11_0 := b11.cell 0 rfl
  clear b11
  have b12 := E6.out.bx 3 rfl
  have c12_0 := b12.cell 0 rfl
  clear b12
  have b13 := E6.out.bx 2 rfl
  have c13_0 := b13.cell 0 rfl
  clear b13
  go_wp2_with fail
  refine ((hk.out.2 _ _ _ _ _ _ (gS.sl (E6.out.fc 5 rfl)) (gS.sl (E6.out.fc 4 rfl)) (gS.sl (E6.out.fc 3 rfl)) (gS.sl (E6.out.fc 2 rfl)) (gS.sl (E6.out.fc 1 rfl))).2).mono ?_
  rintro e w4 ⟨⟨va, vk, rfl, vh⟩, hb⟩
  have E7 := Lib.hid ((E6.out.below hb).noteS vh.out rfl)
  clear c10_0 c10_1 c11_0 c12_0 c13_0 E5 E6 hb vh
  have E8 : Hid (Env (fun _ => True) w [(w4.heap.size, 24, [.slice va (Nn.NatMath.len R) vk]), (w3.heap.size, 24, [.slice ua (Nn.NatMath.len R) uk]), (w1.heap.size, 24, [.slice na lN.length nk, .slice ea lE.length ek, .slice ba l1.length bk, .slice sa l2.length sk, .slice ta l3.length tk]), (w.heap.size + 1 + 1 + 1, 24, [.slice ta l3.length tk]), (w.heap.size + 1 + 1, 24, [.slice sa l2.length sk]), (w.heap.size + 1, 24, [.slice ba l1.length bk]), (w.heap.size, 26, [.slice na lN.length nk, .slice ea lE.length ek])] [.gn (gS (.slice va (Nn.NatMath.len R) vk) (Nn.NatMath.digs R)), .gn (gS (.slice ua (Nn.NatMath.len R) uk) (Nn.NatMath.digs R)), .gn (gS (.slice ta l3.length tk) l3), .gn (gS (.slice sa l2.length sk) l2), .gn (gS (.slice ba l1.length bk) l1), .gn (gS (.slice ea lE.length ek) lE), .gn (gS (.slice na lN.length nk) lN)] _) := Lib.hid ((E7.out.push 24 [.slice va (Nn.NatMath.len R) vk] (w4.heap.size) (by simp)))
  have b14 := E8.out.bx 1 rfl
  have c14_0 := b14.cell 0 rfl
  clear b14
  have b15 := E8.out.bx 0 rfl
  have c15_0 := b15.cell 0 rfl
  clear b15
  go_wp2_with fail
  refine (same_c R c (gS.sl (E8.out.fc 1 rfl)) (gS.sl (E8.out.fc 0 rfl)) hk.out.1).mono ?_
  rintro e w5 ⟨rfl, hb⟩
  have E9 := Lib.hid (E8.out.below hb)
  clear c14_0 c15_0 E7 E8 hb
  have hfin := Lib.hid E9.out.bel
  go_wp2
  go_ret
  exact ⟨rfl, hfin.out⟩
theorem VoucherLinks_walk {w : World} {lN lE l1 l2 l3 : List Nat} {na ea ba sa ta : Option Addr} {nk ek bk sk tk : Nat} (hn : Nn.Sl w (.slice na lN.length nk) lN) (he : Nn.Sl w (.slice ea lE.length ek) lE) (hx : Nn.Sl w (.slice ba l1.length bk) l1) (hy : Nn.Sl w (.slice sa l2.length sk) l2) (hz : Nn.Sl w (.slice ta l3.length tk) l3) (hl : Laid w) :
    Calls Tryz.prog 3 #[.agg #[.slice na lN.length nk, .slice ea lE.length ek], .agg #[.slice ba l1.length bk], .agg #[.slice sa l2.length sk], .agg #[.slice ta l3.length tk]] w fun e w' => e = .returned (.bool true) ∧ Below w.heap.size w w' := by
  obtain ⟨R, c, hk⟩ := link_both hn he hx hy hz
  cases ht : [lN, lE, l1, l2, l3].any big with
  | true => exact VoucherLinks_t hn he hx hy hz hl hk ht
  | false => exact VoucherLinks_f hn he hx hy hz hl hk ht
end Go.Proofs.YtikopkkebdobdaaGreatDoor

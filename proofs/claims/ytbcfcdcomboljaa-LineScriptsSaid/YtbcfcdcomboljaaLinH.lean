/- line: the copy of a line. -/
import Derived.Test.YtbcfcdcomboljaaLinG
import Derived.Deep.DeepCutAuto
import Derived.Test.YtbcfcdcomboljaaReg4
namespace Go.Proofs.Ytbcfcdcomboljaa
open Go.RowKit
set_option linter.unusedVariables false
set_option linter.unusedSimpArgs false

set_option maxRecDepth 100000 in
set_option maxHeartbeats 1000000 in
theorem cloned_c {D : Nat → Prop} (l : Lin) {xa xb xc : Option Addr} {xj xk xm : Nat} {w : World} (h1 : Fct.at w D (.ms (.slice xa l.L.length xj) l.L)) (h2 : Fct.at w D (.rw (.slice xb l.ats.length xk) l.ats.length 1 (icl l.ats))) (h3 : Fct.at w D (.rw (.slice xc l.ft.length xm) l.ft.length 2 (fcl l.ft))) (hl0 : l.L.length ≤ 100000 ∧ l.ats.length ≤ 100000 ∧ l.ft.length ≤ 100000) (hd0 : ∀ k (h : k < l.L.length), l.L[k].body.length ≤ 1000000) :
    Calls Try.prog 61 #[.agg #[.int .i64 l.nw, .slice xa l.L.length xj, .slice xb l.ats.length xk, .slice xc l.ft.length xm]] w fun e w' => RetLO D w.heap.size l e w' ∧ Below w.heap.size w w' := by
  have E0 := Lib.hid ((((Env.start D w).arg (.ms (.slice xa l.L.length xj) l.L) h1).arg (.rw (.slice xb l.ats.length xk) l.ats.length 1 (icl l.ats)) h2).arg (.rw (.slice xc l.ft.length xm) l.ft.length 2 (fcl l.ft)) h3)
  clear h1 h2 h3
  go_enter Try.func61, Try.ntmps61
  have hl := Lib.hid hl0
  have hd := Lib.hid hd0
  clear hl0 hd0
  go_upto_region 1 with (fail)
  have E1 := Lib.hid (((E0.out.push 64 [.int .i64 l.nw, .slice xa l.L.length xj, .slice xb l.ats.length xk, .slice xc l.ft.length xm] (w.heap.size) (by simp)).push 64 [.int .i64 0, .slice none 0 0, .slice none 0 0, .slice none 0 0] (w.heap.size + 1) (by simp)))
  clear E0
  generalize (w.alloc (.cells #[.int .i64 l.nw, .slice xa l.L.length xj, .slice xb l.ats.length xk, .slice xc l.ft.length xm] 64)).alloc (.cells #[.int .i64 0, .slice none 0 0, .slice none 0 0, .slice none 0 0] 64) = w1 at *
  go_cut [3] (fun s3 wx => ∃ gO ias iac iaa iak fta ftk, s3 = .pointer (some ⟨gO, 0, none⟩) ∧ Hid (Env D w ((gO, 64, [.int .i64 l.nw, .slice none 0 0, .slice iaa l.ats.length iak, .slice fta l.ft.length ftk]) :: (w.heap.size + 1, 64, [.int .i64 0, .slice none 0 0, .slice none 0 0, .slice none 0 0]) :: (w.heap.size, 64, [.int .i64 l.nw, .slice xa l.L.length xj, .slice xb l.ats.length xk, .slice xc l.ft.length xm]) :: ias) [.rw (.slice fta l.ft.length ftk) l.ft.length 2 (fcl l.ft), .rw (.slice xc l.ft.length xm) l.ft.length 2 (fcl l.ft), .rw (.slice xb l.ats.length xk) l.ats.length 1 (icl l.ats), .ms (.slice xa l.L.length xj) l.L] wx) ∧ Hid (OI ias iac (.slice iaa l.ats.length iak) l.ats))
  case first =>
    have E2 := Lib.hid E1.out.drew
    clear E1
    refine wp_regionU (S := fun w' => w'.cell? ⟨w.heap.size, 0, none⟩ = some (.int .i64 l.nw) ∧ w'.cell? ⟨w.heap.size, 2, none⟩ = some (.slice xb l.ats.length xk) ∧ w'.cell? ⟨w.heap.size, 3, none⟩ = some (.slice xc l.ft.length xm)) [] (by kernel_rfl) (⟨((E2.out.bx 1 rfl).cell 0 rfl), ((E2.out.bx 1 rfl).cell 2 rfl), ((E2.out.bx 1 rfl).cell 3 rfl)⟩) (fun hHeld => ?_)
    generalize w1.drew = w2 at *
    refine uTake (i := 0) (some 6) (v := ?_) rfl rfl (by kernel_rfl) (by kernel_rfl) (by kernel_rfl) (by kernel_rfl) (fun _ _ _ h => h) (by rfl) (by assumption) ?_ ?_
    rotate_left
    · (intro wS hSw; (try dsimp only at hSw); go_simp; try with_reducible rfl)
    try simp only [Act.put, List.setIfInBounds_toArray, List.set_cons_zero, List.set_cons_succ]
    refine uTake (i := 1) (some 7) (v := ?_) rfl rfl (by kernel_rfl) (by kernel_rfl) (by kernel_rfl) (by kernel_rfl) (fun _ _ _ h => h) (by rfl) (by assumption) ?_ ?_
    rotate_left
    · (intro wS hSw; (try dsimp only at hSw); go_simp; try with_reducible rfl)
    try simp only [Act.put, List.setIfInBounds_toArray, List.set_cons_zero, List.set_cons_succ]
    refine uTake (i := 2) (some 8) (v := ?_) rfl rfl (by kernel_rfl) (by kernel_rfl) (by kernel_rfl) (by kernel_rfl) (fun _ _ _ h => h) (by rfl) (by assumption) ?_ ?_
    rotate_left
    · (intro wS hSw; (try dsimp only at hSw); go_simp; try with_reducible rfl)
    try simp only [Act.put, List.setIfInBounds_toArray, List.set_cons_zero, List.set_cons_succ]
    refine uTake (i := 3) (some 9) (v := ?_) rfl rfl (by kernel_rfl) (by kernel_rfl) (by kernel_rfl) (by kernel_rfl) (fun _ _ _ h => h) (by rfl) (by assumption) ?_ ?_
    rotate_left
    · (intro wS hSw; (try dsimp only at hSw); go_simp; try with_reducible rfl)
    try simp only [Act.put, List.setIfInBounds_toArray, List.set_cons_zero, List.set_cons_succ]
    refine uTake (i := 5) (some 11) (v := ?_) rfl rfl (by kernel_rfl) (by kernel_rfl) (by kernel_rfl) (by kernel_rfl) (fun _ _ _ h => h) (by rfl) (by assumption) ?_ ?_
    rotate_left
    · (intro wS hSw; (try dsimp only at hSw); go_simp; try with_reducible rfl)
    try simp only [Act.put, List.setIfInBounds_toArray, List.set_cons_zero, List.set_cons_succ]
    refine uTake (i := 6) (some 12) (v := ?_) rfl rfl (by kernel_rfl) (by kernel_rfl) (by kernel_rfl) (by kernel_rfl) (fun _ _ _ h => h) (by rfl) (by assumption) ?_ ?_
    rotate_left
    · (intro wS hSw; (try dsimp only at hSw); go_simp; try with_reducible rfl)
    try simp only [Act.put, List.setIfInBounds_toArray, List.set_cons_zero, List.set_cons_succ]
    refine uReady (rs := [4, 9]) (by kernel_rfl) (by simp) ?_
    refine (ReadyU.cons rfl (fun KK hKK => ?_) (ReadyU.cons rfl (fun KK hKK => ?_) ReadyU.nil))
    · skip
      go_simp
      refine (cloneI_own (E2.out.fc 1 rfl) (by have := hl.out; omega)).mono ?_
      rintro e w3 ⟨⟨ias, iac, iav, rfl, iaO, iaH⟩, hb⟩
      obtain ⟨iaa, iak, rfl⟩ := iaO.out.1.len
      have E3 : Hid (Env D w ((w.heap.size + 1, 64, [.int .i64 0, .slice none 0 0, .slice none 0 0, .slice none 0 0]) :: (w.heap.size, 64, [.int .i64 l.nw, .slice xa l.L.length xj, .slice xb l.ats.length xk, .slice xc l.ft.length xm]) :: ias) [.rw (.slice xc l.ft.length xm) l.ft.length 2 (fcl l.ft), .rw (.slice xb l.ats.length xk) l.ats.length 1 (icl l.ats), .ms (.slice xa l.L.length xj) l.L] w3) := Lib.hid ((E2.out.gotSeg hb iaH.out).cast (by simp))
      clear E2 hb iaH
      (try dsimp only)
      clear hHeld
      refine hKK.out _ _ (⟨((E3.out.bx 1 rfl).cell 0 rfl), ((E3.out.bx 1 rfl).cell 2 rfl), ((E3.out.bx 1 rfl).cell 3 rfl)⟩) (fun hHeld => ?_)
      clear hKK KK
      try simp only [Act.put, List.setIfInBounds_toArray, List.set_cons_zero, List.set_cons_succ]
      refine uReady (rs := [7, 9]) (by kernel_rfl) (by simp) ?_
      refine (ReadyU.cons rfl (fun KK hKK => ?_) (ReadyU.cons rfl (fun KK hKK => ?_) ReadyU.nil))
      · skip
        go_simp
        refine (cloneF_c (E3.out.fc 0 rfl) (by have := hl.out; omega)).mono ?_
        rintro e w4 ⟨⟨fta, ftk, rfl, fth⟩, hb⟩
        have E4 := Lib.hid (E3.out.got (E3.out.below hb) (.rw (.slice fta l.ft.length ftk) l.ft.length 2 (fcl l.ft)) fth.out)
        clear E3 hb fth
        (try dsimp only)
        clear hHeld
        refine hKK.out _ _ (⟨((E4.out.bx 1 rfl).cell 0 rfl), ((E4.out.bx 1 rfl).cell 2 rfl), ((E4.out.bx 1 rfl).cell 3 rfl)⟩) (fun hHeld => ?_)
        clear hKK KK
        try simp only [Act.put, List.setIfInBounds_toArray, List.set_cons_zero, List.set_cons_succ]
        refine uTake (i := 8) (some 14) (v := ?_) rfl rfl (by kernel_rfl) (by kernel_rfl) (by kernel_rfl) (by kernel_rfl) (fun _ _ _ h => h) (by rfl) (by assumption) ?_ ?_
        rotate_left
        · (intro wS hSw; (try dsimp only at hSw); go_simp; try with_reducible rfl)
        try simp only [Act.put, List.setIfInBounds_toArray, List.set_cons_zero, List.set_cons_succ]
        refine uReady (rs := [9]) (by kernel_rfl) (by simp) ?_
        refine ReadyU.cons rfl (fun KK hKK => ?_) ReadyU.nil
        go_simp
        have E5 := Lib.hid ((E4.out.push 64 [.int .i64 0, .slice none 0 0, .slice none 0 0, .slice none 0 0] (w4.heap.size) (by simp)))
        (try dsimp only)
        clear hHeld
        refine hKK.out _ _ (⟨((E5.out.bx 2 rfl).cell 0 rfl), ((E5.out.bx 2 rfl).cell 2 rfl), ((E5.out.bx 2 rfl).cell 3 rfl)⟩) (fun hHeld => ?_)
        clear hKK KK
        try simp only [Act.put, List.setIfInBounds_toArray, List.set_cons_zero, List.set_cons_succ]
        clear E4
        generalize w4.alloc (.cells #[.int .i64 0, .slice none 0 0, .slice none 0 0, .slice none 0 0] 64) = w5 at *
        have b1 := E5.out.bx 0 rfl
        have c1_0 := b1.cell 0 rfl
        have c1_1 := b1.cell 1 rfl
        have c1_2 := b1.cell 2 rfl
        have c1_3 := b1.cell 3 rfl
        have f1_0 := b1.frozen 0
        have f1_1 := b1.frozen 1
        have f1_2 := b1.frozen 2
        have f1_3 := b1.frozen 3
        clear b1
        refine uReady (rs := [10]) (by kernel_rfl) (by simp) ?_
        refine ReadyU.cons rfl (fun KK hKK => ?_) ReadyU.nil
        go_simp
        have E6 : Hid (Env D w ((w4.heap.size, 64, [.int .i64 l.nw, .slice none 0 0, .slice iaa l.ats.length iak, .slice fta l.ft.length ftk]) :: (w.heap.size + 1, 64, [.int .i64 0, .slice none 0 0, .slice none 0 0, .slice none 0 0]) :: (w.heap.size, 64, [.int .i64 l.nw, .slice xa l.L.length xj, .slice xb l.ats.length xk, .slice xc l.ft.length xm]) :: ias) [.rw (.slice fta l.ft.length ftk) l.ft.length 2 (fcl l.ft), .rw (.slice xc l.ft.length xm) l.ft.length 2 (fcl l.ft), .rw (.slice xb l.ats.length xk) l.ats.length 1 (icl l.ats), .ms (.slice xa l.L.length xj) l.L] _) := Lib.hid (((((E5.out.set 0 0 (.int .i64 l.nw) rfl).set 0 1 (.slice none 0 0) rfl).set 0 2 (.slice iaa l.ats.length iak) rfl).set 0 3 (.slice fta l.ft.length ftk) rfl))
        (try dsimp only)
        clear hHeld
        refine hKK.out _ _ (⟨((E6.out.bx 2 rfl).cell 0 rfl), ((E6.out.bx 2 rfl).cell 2 rfl), ((E6.out.bx 2 rfl).cell 3 rfl)⟩) (fun hHeld => ?_)
        clear hKK KK
        try simp only [Act.put, List.setIfInBounds_toArray, List.set_cons_zero, List.set_cons_succ]
        refine uDone (by kernel_rfl) ?_ _
        go_wp2_with fail
        go_meet
        exact ⟨w4.heap.size, ias, iac, iaa, iak, fta, ftk, rfl, Lib.hid E6.out, iaO⟩
      · skip
        go_simp
        have E4 := Lib.hid ((E3.out.push 64 [.int .i64 0, .slice none 0 0, .slice none 0 0, .slice none 0 0] (w3.heap.size) (by simp)))
        (try dsimp only)
        clear hHeld
        refine hKK.out _ _ (⟨((E4.out.bx 2 rfl).cell 0 rfl), ((E4.out.bx 2 rfl).cell 2 rfl), ((E4.out.bx 2 rfl).cell 3 rfl)⟩) (fun hHeld => ?_)
        clear hKK KK
        try simp only [Act.put, List.setIfInBounds_toArray, List.set_cons_zero, List.set_cons_succ]
        clear E3
        generalize w3.alloc (.cells #[.int .i64 0, .slice none 0 0, .slice none 0 0, .slice none 0 0] 64) = w4 at *
        refine uReady (rs := [7]) (by kernel_rfl) (by simp) ?_
        refine ReadyU.cons rfl (fun KK hKK => ?_) ReadyU.nil
        go_simp
        refine (cloneF_c (E4.out.fc 0 rfl) (by have := hl.out; omega)).mono ?_
        rintro e w5 ⟨⟨fta, ftk, rfl, fth⟩, hb⟩
        have E5 := Lib.hid (E4.out.got (E4.out.below hb) (.rw (.slice fta l.ft.length ftk) l.ft.length 2 (fcl l.ft)) fth.out)
        clear E4 hb fth
        (try dsimp only)
        clear hHeld
        refine hKK.out _ _ (⟨((E5.out.bx 2 rfl).cell 0 rfl), ((E5.out.bx 2 rfl).cell 2 rfl), ((E5.out.bx 2 rfl).cell 3 rfl)⟩) (fun hHeld => ?_)
        clear hKK KK
        try simp only [Act.put, List.setIfInBounds_toArray, List.set_cons_zero, List.set_cons_succ]
        refine uTake (i := 8) (some 14) (v := ?_) rfl rfl (by kernel_rfl) (by kernel_rfl) (by kernel_rfl) (by kernel_rfl) (fun _ _ _ h => h) (by rfl) (by assumption) ?_ ?_
        rotate_left
        · (intro wS hSw; (try dsimp only at hSw); go_simp; try with_reducible rfl)
        try simp only [Act.put, List.setIfInBounds_toArray, List.set_cons_zero, List.set_cons_succ]
        have b1 := E5.out.bx 0 rfl
        have c1_0 := b1.cell 0 rfl
        have c1_1 := b1.cell 1 rfl
        have c1_2 := b1.cell 2 rfl
        have c1_3 := b1.cell 3 rfl
        have f1_0 := b1.frozen 0
        have f1_1 := b1.frozen 1
        have f1_2 := b1.frozen 2
        have f1_3 := b1.frozen 3
        clear b1
        refine uReady (rs := [10]) (by kernel_rfl) (by simp) ?_
        refine ReadyU.cons rfl (fun KK hKK => ?_) ReadyU.nil
        go_simp
        have E6 : Hid (Env D w ((w3.heap.size, 64, [.int .i64 l.nw, .slice none 0 0, .slice iaa l.ats.length iak, .slice fta l.ft.length ftk]) :: (w.heap.size + 1, 64, [.int .i64 0, .slice none 0 0, .slice none 0 0, .slice none 0 0]) :: (w.heap.size, 64, [.int .i64 l.nw, .slice xa l.L.length xj, .slice xb l.ats.length xk, .slice xc l.ft.length xm]) :: ias) [.rw (.slice fta l.ft.length ftk) l.ft.length 2 (fcl l.ft), .rw (.slice xc l.ft.length xm) l.ft.length 2 (fcl l.ft), .rw (.slice xb l.ats.length xk) l.ats.length 1 (icl l.ats), .ms (.slice xa l.L.length xj) l.L] _) := Lib.hid (((((E5.out.set 0 0 (.int .i64 l.nw) rfl).set 0 1 (.slice none 0 0) rfl).set 0 2 (.slice iaa l.ats.length iak) rfl).set 0 3 (.slice fta l.ft.length ftk) rfl))
        (try dsimp only)
        clear hHeld
        refine hKK.out _ _ (⟨((E6.out.bx 2 rfl).cell 0 rfl), ((E6.out.bx 2 rfl).cell 2 rfl), ((E6.out.bx 2 rfl).cell 3 rfl)⟩) (fun hHeld => ?_)
        clear hKK KK
        try simp only [Act.put, List.setIfInBounds_toArray, List.set_cons_zero, List.set_cons_succ]
        refine uDone (by kernel_rfl) ?_ _
        go_wp2_with fail
        go_meet
        exact ⟨w3.heap.size, ias, iac, iaa, iak, fta, ftk, rfl, Lib.hid E6.out, iaO⟩
    · skip
      go_simp
      have E3 := Lib.hid ((E2.out.push 64 [.int .i64 0, .slice none 0 0, .slice none 0 0, .slice none 0 0] (w2.heap.size) (by simp)))
      (try dsimp only)
      clear hHeld
      refine hKK.out _ _ (⟨((E3.out.bx 2 rfl).cell 0 rfl), ((E3.out.bx 2 rfl).cell 2 rfl), ((E3.out.bx 2 rfl).cell 3 rfl)⟩) (fun hHeld => ?_)
      clear hKK KK
      try simp only [Act.put, List.setIfInBounds_toArray, List.set_cons_zero, List.set_cons_succ]
      clear E2
      generalize w2.alloc (.cells #[.int .i64 0, .slice none 0 0, .slice none 0 0, .slice none 0 0] 64) = w3 at *
      refine uReady (rs := [4]) (by kernel_rfl) (by simp) ?_
      refine ReadyU.cons rfl (fun KK hKK => ?_) ReadyU.nil
      go_simp
      refine (cloneI_own (E3.out.fc 1 rfl) (by have := hl.out; omega)).mono ?_
      rintro e w4 ⟨⟨ias, iac, iav, rfl, iaO, iaH⟩, hb⟩
      obtain ⟨iaa, iak, rfl⟩ := iaO.out.1.len
      have E4 : Hid (Env D w ((w2.heap.size, 64, [.int .i64 0, .slice none 0 0, .slice none 0 0, .slice none 0 0]) :: (w.heap.size + 1, 64, [.int .i64 0, .slice none 0 0, .slice none 0 0, .slice none 0 0]) :: (w.heap.size, 64, [.int .i64 l.nw, .slice xa l.L.length xj, .slice xb l.ats.length xk, .slice xc l.ft.length xm]) :: ias) [.rw (.slice xc l.ft.length xm) l.ft.length 2 (fcl l.ft), .rw (.slice xb l.ats.length xk) l.ats.length 1 (icl l.ats), .ms (.slice xa l.L.length xj) l.L] w4) := Lib.hid ((E3.out.gotSeg hb iaH.out).cast (by simp))
      clear E3 hb iaH
      (try dsimp only)
      clear hHeld
      refine hKK.out _ _ (⟨((E4.out.bx 2 rfl).cell 0 rfl), ((E4.out.bx 2 rfl).cell 2 rfl), ((E4.out.bx 2 rfl).cell 3 rfl)⟩) (fun hHeld => ?_)
      clear hKK KK
      try simp only [Act.put, List.setIfInBounds_toArray, List.set_cons_zero, List.set_cons_succ]
      refine uReady (rs := [7]) (by kernel_rfl) (by simp) ?_
      refine ReadyU.cons rfl (fun KK hKK => ?_) ReadyU.nil
      go_simp
      refine (cloneF_c (E4.out.fc 0 rfl) (by have := hl.out; omega)).mono ?_
      rintro e w5 ⟨⟨fta, ftk, rfl, fth⟩, hb⟩
      have E5 := Lib.hid (E4.out.got (E4.out.below hb) (.rw (.slice fta l.ft.length ftk) l.ft.length 2 (fcl l.ft)) fth.out)
      clear E4 hb fth
      (try dsimp only)
      clear hHeld
      refine hKK.out _ _ (⟨((E5.out.bx 2 rfl).cell 0 rfl), ((E5.out.bx 2 rfl).cell 2 rfl), ((E5.out.bx 2 rfl).cell 3 rfl)⟩) (fun hHeld => ?_)
      clear hKK KK
      try simp only [Act.put, List.setIfInBounds_toArray, List.set_cons_zero, List.set_cons_succ]
      refine uTake (i := 8) (some 14) (v := ?_) rfl rfl (by kernel_rfl) (by kernel_rfl) (by kernel_rfl) (by kernel_rfl) (fun _ _ _ h => h) (by rfl) (by assumption) ?_ ?_
      rotate_left
      · (intro wS hSw; (try dsimp only at hSw); go_simp; try with_reducible rfl)
      try simp only [Act.put, List.setIfInBounds_toArray, List.set_cons_zero, List.set_cons_succ]
      have b1 := E5.out.bx 0 rfl
      have c1_0 := b1.cell 0 rfl
      have c1_1 := b1.cell 1 rfl
      have c1_2 := b1.cell 2 rfl
      have c1_3 := b1.cell 3 rfl
      have f1_0 := b1.frozen 0
      have f1_1 := b1.frozen 1
      have f1_2 := b1.frozen 2
      have f1_3 := b1.frozen 3
      clear b1
      refine uReady (rs := [10]) (by kernel_rfl) (by simp) ?_
      refine ReadyU.cons rfl (fun KK hKK => ?_) ReadyU.nil
      go_simp
      have E6 : Hid (Env D w ((w2.heap.size, 64, [.int .i64 l.nw, .slice none 0 0, .slice iaa l.ats.length iak, .slice fta l.ft.length ftk]) :: (w.heap.size + 1, 64, [.int .i64 0, .slice none 0 0, .slice none 0 0, .slice none 0 0]) :: (w.heap.size, 64, [.int .i64 l.nw, .slice xa l.L.length xj, .slice xb l.ats.length xk, .slice xc l.ft.length xm]) :: ias) [.rw (.slice fta l.ft.length ftk) l.ft.length 2 (fcl l.ft), .rw (.slice xc l.ft.length xm) l.ft.length 2 (fcl l.ft), .rw (.slice xb l.ats.length xk) l.ats.length 1 (icl l.ats), .ms (.slice xa l.L.length xj) l.L] _) := Lib.hid (((((E5.out.set 0 0 (.int .i64 l.nw) rfl).set 0 1 (.slice none 0 0) rfl).set 0 2 (.slice iaa l.ats.length iak) rfl).set 0 3 (.slice fta l.ft.length ftk) rfl))
      (try dsimp only)
      clear hHeld
      refine hKK.out _ _ (⟨((E6.out.bx 2 rfl).cell 0 rfl), ((E6.out.bx 2 rfl).cell 2 rfl), ((E6.out.bx 2 rfl).cell 3 rfl)⟩) (fun hHeld => ?_)
      clear hKK KK
      try simp only [Act.put, List.setIfInBounds_toArray, List.set_cons_zero, List.set_cons_succ]
      refine uDone (by kernel_rfl) ?_ _
      go_wp2_with fail
      go_meet
      exact ⟨w2.heap.size, ias, iac, iaa, iak, fta, ftk, rfl, Lib.hid E6.out, iaO⟩
  case rest =>
    obtain ⟨gO, ias, iac, iaa, iak, fta, ftk, rfl, E7, iaO⟩ := hcut
    clear E1
    have b2 := E7.out.bx 2 rfl
    have c2_1 := b2.cell 1 rfl
    clear b2
    go_wp2_with fail
    go_loopg [18] (l.L.length) (fun gk s18 wr => ∃ (k : Nat) (sgL : List Bx) (csL : List Value) (la : Option Addr) (lj : Nat), s18 = .int .i64 (k : Int) ∧ Hid (Env D w ((gO, 64, [.int .i64 l.nw, .slice la k lj, .slice iaa l.ats.length iak, .slice fta l.ft.length ftk]) :: (w.heap.size + 1, 64, [.int .i64 0, .slice none 0 0, .slice none 0 0, .slice none 0 0]) :: (w.heap.size, 64, [.int .i64 l.nw, .slice xa l.L.length xj, .slice xb l.ats.length xk, .slice xc l.ft.length xm]) :: (ias ++ sgL)) [.mc csL (l.L.take k), .rw (.slice fta l.ft.length ftk) l.ft.length 2 (fcl l.ft), .rw (.slice xc l.ft.length xm) l.ft.length 2 (fcl l.ft), .rw (.slice xb l.ats.length xk) l.ats.length 1 (icl l.ats), .ms (.slice xa l.L.length xj) l.L] wr) ∧ Hid (LS sgL csL (.slice la k lj) (l.L.take k)) ∧ Hid (k ≤ l.L.length ∧ gk = l.L.length - k))
    case atStart => exact ⟨0, [], [], none, 0, rfl, Lib.hid ((E7.out.note _ (mc_nil _ _)).cast (by simp)), Lib.hid LS.nil, Lib.hid ⟨Nat.zero_le _, rfl⟩⟩
    case round =>
      clear c2_1 E7
      obtain ⟨k, sgL, csL, la, lj, rfl, EL, hLS, HA⟩ := hrel
      obtain ⟨a1, a2⟩ := HA.out
      clear HA
      by_cases hy : k = l.L.length
      · have t1 : decide ((k : Int) < (l.L.length : Int)) = false := decide_eq_false (by omega)
        have t2 : decide (k < l.L.length) = false := decide_eq_false (by omega)
        have b3 := EL.out.bx 0 rfl
        have c3_0 := b3.cell 0 rfl
        have c3_1 := b3.cell 1 rfl
        have c3_2 := b3.cell 2 rfl
        have c3_3 := b3.cell 3 rfl
        clear b3
        have b4 := EL.out.bx 1 rfl
        have c4_0 := b4.cell 0 rfl
        have c4_1 := b4.cell 1 rfl
        have c4_2 := b4.cell 2 rfl
        have c4_3 := b4.cell 3 rfl
        have f4_0 := b4.frozen 0
        have f4_1 := b4.frozen 1
        have f4_2 := b4.frozen 2
        have f4_3 := b4.frozen 3
        clear b4
        have HY := Lib.hid hy
        clear hy
        go_wp2
        have E8 : Hid (Env D w ((gO, 64, [.int .i64 l.nw, .slice la k lj, .slice iaa l.ats.length iak, .slice fta l.ft.length ftk]) :: (w.heap.size + 1, 64, [.int .i64 l.nw, .slice la k lj, .slice iaa l.ats.length iak, .slice fta l.ft.length ftk]) :: (w.heap.size, 64, [.int .i64 l.nw, .slice xa l.L.length xj, .slice xb l.ats.length xk, .slice xc l.ft.length xm]) :: (ias ++ sgL)) [.mc csL (l.L.take k), .rw (.slice fta l.ft.length ftk) l.ft.length 2 (fcl l.ft), .rw (.slice xc l.ft.length xm) l.ft.length 2 (fcl l.ft), .rw (.slice xb l.ats.length xk) l.ats.length 1 (icl l.ats), .ms (.slice xa l.L.length xj) l.L] _) := Lib.hid (((((EL.out.set 1 0 (.int .i64 l.nw) rfl).set 1 1 (.slice la k lj) rfl).set 1 2 (.slice iaa l.ats.length iak) rfl).set 1 3 (.slice fta l.ft.length ftk) rfl))
        have hfin := E8.out
        have q0 := (hfin.bx 1 rfl).cell 0 rfl
        have q1 := (hfin.bx 1 rfl).cell 1 rfl
        have q2 := (hfin.bx 1 rfl).cell 2 rfl
        have q3 := (hfin.bx 1 rfl).cell 3 rfl
        have hy := HY.out
        subst hy
        have htk : l.L.take l.L.length = l.L := List.take_length
        have hy9 : (1 : Nat) = 1 := rfl
        refine bodyPost_ret (v := .agg #[.int .i64 l.nw, .slice la l.L.length lj, .slice iaa l.ats.length iak, .slice fta l.ft.length ftk]) (by simp [results, Try.results61, go_sem, q0, q1, q2, q3]) rfl ?_
        exact ⟨⟨ias, iac, iaa, iak, sgL, csL, la, lj, fta, ftk, rfl, iaO, by rw [htk] at hLS; exact hLS, Lib.hid (Env.heldS (A := [(gO, 64, [.int .i64 l.nw, .slice la l.L.length lj, .slice iaa l.ats.length iak, .slice fta l.ft.length ftk]), (w.heap.size + 1, 64, [.int .i64 l.nw, .slice la l.L.length lj, .slice iaa l.ats.length iak, .slice fta l.ft.length ftk]), (w.heap.size, 64, [.int .i64 l.nw, .slice xa l.L.length xj, .slice xb l.ats.length xk, .slice xc l.ft.length xm])]) hfin), Lib.hid (Env.outS (A := [(gO, 64, [.int .i64 l.nw, .slice la l.L.length lj, .slice iaa l.ats.length iak, .slice fta l.ft.length ftk]), (w.heap.size + 1, 64, [.int .i64 l.nw, .slice la l.L.length lj, .slice iaa l.ats.length iak, .slice fta l.ft.length ftk]), (w.heap.size, 64, [.int .i64 l.nw, .slice xa l.L.length xj, .slice xb l.ats.length xk, .slice xc l.ft.length xm])]) hfin 1 rfl), Lib.hid (by have := Env.outS (A := [(gO, 64, [.int .i64 l.nw, .slice la l.L.length lj, .slice iaa l.ats.length iak, .slice fta l.ft.length ftk]), (w.heap.size + 1, 64, [.int .i64 l.nw, .slice la l.L.length lj, .slice iaa l.ats.length iak, .slice fta l.ft.length ftk]), (w.heap.size, 64, [.int .i64 l.nw, .slice xa l.L.length xj, .slice xb l.ats.length xk, .slice xc l.ft.length xm])]) hfin 0 rfl; rw [htk] at this; exact this)⟩, hfin.bel⟩
      · have hk : k < l.L.length := by omega
        have t1 : decide ((k : Int) < (l.L.length : Int)) = true := decide_eq_true (by omega)
        have t2 : decide (k < l.L.length) = true := decide_eq_true hk
        have hlen : (l.L.take k).length = k := by rw [List.length_take]; omega
        have HLEN := Lib.hid hlen
        clear hlen
        have a3 := hl.out.1
        obtain ⟨xab, xao, rfl⟩ := Ms.addr (EL.out.fc 4 rfl) hk
        obtain ⟨ua, uk, E80⟩ := EL.out.els 4 rfl (k) hk
        have E8 : Hid (Env D w ((gO, 64, [.int .i64 l.nw, .slice la k lj, .slice iaa l.ats.length iak, .slice fta l.ft.length ftk]) :: (w.heap.size + 1, 64, [.int .i64 0, .slice none 0 0, .slice none 0 0, .slice none 0 0]) :: (w.heap.size, 64, [.int .i64 l.nw, .slice (some ⟨xab, xao, none⟩) l.L.length xj, .slice xb l.ats.length xk, .slice xc l.ft.length xm]) :: (ias ++ sgL)) [.ce xab (xao + k * 5) (.int .i64 l.L[k].fr), .ce xab (xao + k * 5 + 1) (.int .i64 l.L[k].to_), .ce xab (xao + k * 5 + 2) (.int .i64 l.L[k].kd), .ce xab (xao + k * 5 + 3) (.int .i64 l.L[k].nm), .ce xab (xao + k * 5 + 4) (.slice ua l.L[k].body.length uk), .bs (.slice ua l.L[k].body.length uk) l.L[k].body, .mc csL (l.L.take k), .rw (.slice fta l.ft.length ftk) l.ft.length 2 (fcl l.ft), .rw (.slice xc l.ft.length xm) l.ft.length 2 (fcl l.ft), .rw (.slice xb l.ats.length xk) l.ats.length 1 (icl l.ats), .ms (.slice (some ⟨xab, xao, none⟩) l.L.length xj) l.L] _) := Lib.hid E80
        clear E80 EL
        have u0 := (E8.out.fc 0 rfl).2
        have u1 := (E8.out.fc 1 rfl).2
        have u2 := (E8.out.fc 2 rfl).2
        have u3 := (E8.out.fc 3 rfl).2
        have u4 := (E8.out.fc 4 rfl).2
        go_wp2_with fail
        have E9 := Lib.hid ((E8.out.push 24 [.int .i64 l.L[k].fr, .int .i64 l.L[k].to_, .int .i64 l.L[k].kd, .int .i64 l.L[k].nm, .slice ua l.L[k].body.length uk] (wr.heap.size) (by simp)))
        clear u0 u1 u2 u3 u4 E8
        generalize wr.alloc (.cells #[.int .i64 l.L[k].fr, .int .i64 l.L[k].to_, .int .i64 l.L[k].kd, .int .i64 l.L[k].nm, .slice ua l.L[k].body.length uk] 24) = w6 at *
        have E10 := Lib.hid E9.out.drew
        clear E9
        refine wp_regionU (S := fun w' => w'.cell? ⟨gO, 1, none⟩ = some (.slice la k lj) ∧ w'.cell? ⟨wr.heap.size, 0, none⟩ = some (.int .i64 l.L[k].fr) ∧ w'.cell? ⟨wr.heap.size, 1, none⟩ = some (.int .i64 l.L[k].to_) ∧ w'.cell? ⟨wr.heap.size, 2, none⟩ = some (.int .i64 l.L[k].kd) ∧ w'.cell? ⟨wr.heap.size, 3, none⟩ = some (.int .i64 l.L[k].nm) ∧ w'.cell? ⟨wr.heap.size, 4, none⟩ = some (.slice ua l.L[k].body.length uk)) [7] (by kernel_rfl) (⟨((E10.out.bx 1 rfl).cell 1 rfl), ((E10.out.bx 0 rfl).cell 0 rfl), ((E10.out.bx 0 rfl).cell 1 rfl), ((E10.out.bx 0 rfl).cell 2 rfl), ((E10.out.bx 0 rfl).cell 3 rfl), ((E10.out.bx 0 rfl).cell 4 rfl)⟩) (fun hHeld => ?_)
        generalize w6.drew = w7 at *
        refine uTake (i := 0) (some 22) (v := ?_) rfl rfl (by kernel_rfl) (by kernel_rfl) (by kernel_rfl) (by kernel_rfl) (fun _ _ _ h => h) (by rfl) (by assumption) ?_ ?_
        rotate_left
        · (intro wS hSw; (try dsimp only at hSw); go_simp; try with_reducible rfl)
        try simp only [Act.put, List.setIfInBounds_toArray, List.set_cons_zero, List.set_cons_succ]
        refine uTake (i := 1) (some 23) (v := ?_) rfl rfl (by kernel_rfl) (by kernel_rfl) (by kernel_rfl) (by kernel_rfl) (fun _ _ _ h => h) (by rfl) (by assumption) ?_ ?_
        rotate_left
        · (intro wS hSw; (try dsimp only at hSw); go_simp; try with_reducible rfl)
        try simp only [Act.put, List.setIfInBounds_toArray, List.set_cons_zero, List.set_cons_succ]
        refine uTake (i := 2) (some 24) (v := ?_) rfl rfl (by kernel_rfl) (by kernel_rfl) (by kernel_rfl) (by kernel_rfl) (fun _ _ _ h => h) (by rfl) (by assumption) ?_ ?_
        rotate_left
        · (intro wS hSw; (try dsimp only at hSw); go_simp; try with_reducible rfl)
        try simp only [Act.put, List.setIfInBounds_toArray, List.set_cons_zero, List.set_cons_succ]
        refine uReady (rs := [3]) (by kernel_rfl) (by simp) ?_
        refine ReadyU.cons rfl (fun KK hKK => ?_) ReadyU.nil
        go_simp
        refine (copied_c l.L[k] (E10.out.fc 5 rfl) (hd.out k hk)).mono ?_
        rintro e w8 ⟨⟨nba, nbk, rfl, hnb⟩, hb⟩
        have E11 := Lib.hid (E10.out.got (E10.out.below hb) (.bs (.slice nba l.L[k].body.length nbk) l.L[k].body) hnb.out)
        clear E10 hb hnb
        (try dsimp only)
        clear hHeld
        refine hKK.out _ _ (⟨((E11.out.bx 1 rfl).cell 1 rfl), ((E11.out.bx 0 rfl).cell 0 rfl), ((E11.out.bx 0 rfl).cell 1 rfl), ((E11.out.bx 0 rfl).cell 2 rfl), ((E11.out.bx 0 rfl).cell 3 rfl), ((E11.out.bx 0 rfl).cell 4 rfl)⟩) (fun hHeld => ?_)
        clear hKK KK
        try simp only [Act.put, List.setIfInBounds_toArray, List.set_cons_zero, List.set_cons_succ]
        refine uReady (rs := [4]) (by kernel_rfl) (by simp) ?_
        refine ReadyU.cons rfl (fun KK hKK => ?_) ReadyU.nil
        go_simp
        have E12 := Lib.hid ((E11.out.push 24 [.int .i64 l.L[k].fr, .int .i64 l.L[k].to_, .int .i64 l.L[k].kd, .int .i64 l.L[k].nm, .slice nba l.L[k].body.length nbk] (w8.heap.size) (by simp)))
        (try dsimp only)
        clear hHeld
        refine hKK.out _ _ (⟨((E12.out.bx 2 rfl).cell 1 rfl), ((E12.out.bx 1 rfl).cell 0 rfl), ((E12.out.bx 1 rfl).cell 1 rfl), ((E12.out.bx 1 rfl).cell 2 rfl), ((E12.out.bx 1 rfl).cell 3 rfl), ((E12.out.bx 1 rfl).cell 4 rfl)⟩) (fun hHeld => ?_)
        clear hKK KK
        try simp only [Act.put, List.setIfInBounds_toArray, List.set_cons_zero, List.set_cons_succ]
        clear E11
        generalize w8.alloc (.cells #[.int .i64 l.L[k].fr, .int .i64 l.L[k].to_, .int .i64 l.L[k].kd, .int .i64 l.L[k].nm, .slice nba l.L[k].body.length nbk] 24) = w9 at *
        refine uReady (rs := [5]) (by kernel_rfl) (by simp) ?_
        refine ReadyU.cons rfl (fun KK hKK => ?_) ReadyU.nil
        refine op_app1 (c := 1) tiM (some 27) rfl rfl (.tmp 23) (.tmp 26) rfl E12.out (A := ((w8.heap.size, 24, [.int .i64 l.L[k].fr, .int .i64 l.L[k].to_, .int .i64 l.L[k].kd, .int .i64 l.L[k].nm, .slice nba l.L[k].body.length nbk]) :: (wr.heap.size, 24, [.int .i64 l.L[k].fr, .int .i64 l.L[k].to_, .int .i64 l.L[k].kd, .int .i64 l.L[k].nm, .slice ua l.L[k].body.length uk]) :: (gO, 64, [.int .i64 l.nw, .slice la k lj, .slice iaa l.ats.length iak, .slice fta l.ft.length ftk]) :: (w.heap.size + 1, 64, [.int .i64 0, .slice none 0 0, .slice none 0 0, .slice none 0 0]) :: (w.heap.size, 64, [.int .i64 l.nw, .slice (some ⟨xab, xao, none⟩) l.L.length xj, .slice xb l.ats.length xk, .slice xc l.ft.length xm]) :: ias)) (sg := sgL) (B' := []) (F := ((w8.heap.size, 24, [.int .i64 l.L[k].fr, .int .i64 l.L[k].to_, .int .i64 l.L[k].kd, .int .i64 l.L[k].nm, .slice nba l.L[k].body.length nbk]) :: (wr.heap.size, 24, [.int .i64 l.L[k].fr, .int .i64 l.L[k].to_, .int .i64 l.L[k].kd, .int .i64 l.L[k].nm, .slice ua l.L[k].body.length uk]) :: (gO, 64, [.int .i64 l.nw, .slice la k lj, .slice iaa l.ats.length iak, .slice fta l.ft.length ftk]) :: (w.heap.size + 1, 64, [.int .i64 0, .slice none 0 0, .slice none 0 0, .slice none 0 0]) :: (w.heap.size, 64, [.int .i64 l.nw, .slice (some ⟨xab, xao, none⟩) l.L.length xj, .slice xb l.ats.length xk, .slice xc l.ft.length xm]) :: (ias ++ sgL))) (by simp) (hLS.out.os HLEN.out) (by simp [Act.eval, Act.put]) (by simp [Act.eval, Act.put]; done) (SrcN.msg l.L[k] (E12.out.bx 0 rfl)) (by omega) ?_
        intro yg yp yc w10 yH yT yE
        obtain ⟨yO0, yM⟩ := LS.app (g' := yg) hLS.out HLEN.out yH.out yT.out (yE.out.fc 7 rfl) (yE.out.fc 0 rfl)
        have yO := Lib.hid yO0
        have E13 : Hid (Env D w ((w8.heap.size, 24, [.int .i64 l.L[k].fr, .int .i64 l.L[k].to_, .int .i64 l.L[k].kd, .int .i64 l.L[k].nm, .slice nba l.L[k].body.length nbk]) :: (wr.heap.size, 24, [.int .i64 l.L[k].fr, .int .i64 l.L[k].to_, .int .i64 l.L[k].kd, .int .i64 l.L[k].nm, .slice ua l.L[k].body.length uk]) :: (gO, 64, [.int .i64 l.nw, .slice la k lj, .slice iaa l.ats.length iak, .slice fta l.ft.length ftk]) :: (w.heap.size + 1, 64, [.int .i64 0, .slice none 0 0, .slice none 0 0, .slice none 0 0]) :: (w.heap.size, 64, [.int .i64 l.nw, .slice (some ⟨xab, xao, none⟩) l.L.length xj, .slice xb l.ats.length xk, .slice xc l.ft.length xm]) :: (ias ++ [(yg, 24, yc)])) [.mc yc (l.L.take k ++ [l.L[k]]), .bs (.slice nba l.L[k].body.length nbk) l.L[k].body, .ce xab (xao + k * 5) (.int .i64 l.L[k].fr), .ce xab (xao + k * 5 + 1) (.int .i64 l.L[k].to_), .ce xab (xao + k * 5 + 2) (.int .i64 l.L[k].kd), .ce xab (xao + k * 5 + 3) (.int .i64 l.L[k].nm), .ce xab (xao + k * 5 + 4) (.slice ua l.L[k].body.length uk), .bs (.slice ua l.L[k].body.length uk) l.L[k].body, .mc csL (l.L.take k), .rw (.slice fta l.ft.length ftk) l.ft.length 2 (fcl l.ft), .rw (.slice xc l.ft.length xm) l.ft.length 2 (fcl l.ft), .rw (.slice xb l.ats.length xk) l.ats.length 1 (icl l.ats), .ms (.slice (some ⟨xab, xao, none⟩) l.L.length xj) l.L] w10) := Lib.hid ((yE.out.note _ yM).cast (by simp))
        clear E12 yE yM yO0 yH yT hLS
        (try dsimp only)
        clear hHeld
        refine hKK.out _ _ (⟨((E13.out.bx 2 rfl).cell 1 rfl), ((E13.out.bx 1 rfl).cell 0 rfl), ((E13.out.bx 1 rfl).cell 1 rfl), ((E13.out.bx 1 rfl).cell 2 rfl), ((E13.out.bx 1 rfl).cell 3 rfl), ((E13.out.bx 1 rfl).cell 4 rfl)⟩) (fun hHeld => ?_)
        clear hKK KK
        try simp only [Act.put, List.setIfInBounds_toArray, List.set_cons_zero, List.set_cons_succ]
        refine uTake (i := 6) (some 28) (v := ?_) rfl rfl (by kernel_rfl) (by kernel_rfl) (by kernel_rfl) (by kernel_rfl) (fun _ _ _ h => h) (by rfl) (by assumption) ?_ ?_
        rotate_left
        · (intro wS hSw; (try dsimp only at hSw); go_simp; try with_reducible rfl)
        try simp only [Act.put, List.setIfInBounds_toArray, List.set_cons_zero, List.set_cons_succ]
        have b3 := E13.out.bx 2 rfl
        have c3_1 := b3.cell 1 rfl
        have f3_1 := b3.frozen 1
        clear b3
        refine uReady (rs := [7]) (by kernel_rfl) (by simp) ?_
        refine ReadyU.consU (by kernel_rfl) rfl (fun KK hKK => ?_) ReadyU.nil
        go_simp
        have E14 : Hid (Env D w ((w8.heap.size, 24, [.int .i64 l.L[k].fr, .int .i64 l.L[k].to_, .int .i64 l.L[k].kd, .int .i64 l.L[k].nm, .slice nba l.L[k].body.length nbk]) :: (wr.heap.size, 24, [.int .i64 l.L[k].fr, .int .i64 l.L[k].to_, .int .i64 l.L[k].kd, .int .i64 l.L[k].nm, .slice ua l.L[k].body.length uk]) :: (gO, 64, [.int .i64 l.nw, .slice (some ⟨yg, 0, none⟩) (k + 1) yp, .slice iaa l.ats.length iak, .slice fta l.ft.length ftk]) :: (w.heap.size + 1, 64, [.int .i64 0, .slice none 0 0, .slice none 0 0, .slice none 0 0]) :: (w.heap.size, 64, [.int .i64 l.nw, .slice (some ⟨xab, xao, none⟩) l.L.length xj, .slice xb l.ats.length xk, .slice xc l.ft.length xm]) :: (ias ++ [(yg, 24, yc)])) [.mc yc (l.L.take k ++ [l.L[k]]), .bs (.slice nba l.L[k].body.length nbk) l.L[k].body, .ce xab (xao + k * 5) (.int .i64 l.L[k].fr), .ce xab (xao + k * 5 + 1) (.int .i64 l.L[k].to_), .ce xab (xao + k * 5 + 2) (.int .i64 l.L[k].kd), .ce xab (xao + k * 5 + 3) (.int .i64 l.L[k].nm), .ce xab (xao + k * 5 + 4) (.slice ua l.L[k].body.length uk), .bs (.slice ua l.L[k].body.length uk) l.L[k].body, .mc csL (l.L.take k), .rw (.slice fta l.ft.length ftk) l.ft.length 2 (fcl l.ft), .rw (.slice xc l.ft.length xm) l.ft.length 2 (fcl l.ft), .rw (.slice xb l.ats.length xk) l.ats.length 1 (icl l.ats), .ms (.slice (some ⟨xab, xao, none⟩) l.L.length xj) l.L] _) := Lib.hid ((E13.out.set 2 1 (.slice (some ⟨yg, 0, none⟩) (k + 1) yp) rfl))
        (try dsimp only)
        (try clear hHeld)
        refine hKK.out _ _ ?_
        clear hKK KK
        try simp only [Act.put, List.setIfInBounds_toArray, List.set_cons_zero, List.set_cons_succ]
        refine uDone (by kernel_rfl) ?_ _
        have htk : l.L.take k ++ [l.L[k]] = l.L.take (k + 1) := by rw [List.take_succ_eq_append_getElem hk]
        have hZ := ((E14.out.drop).drop)
        have EZ : Hid (Env D w ((gO, 64, [.int .i64 l.nw, .slice (some ⟨yg, 0, none⟩) (k + 1) yp, .slice iaa l.ats.length iak, .slice fta l.ft.length ftk]) :: (w.heap.size + 1, 64, [.int .i64 0, .slice none 0 0, .slice none 0 0, .slice none 0 0]) :: (w.heap.size, 64, [.int .i64 l.nw, .slice (some ⟨xab, xao, none⟩) l.L.length xj, .slice xb l.ats.length xk, .slice xc l.ft.length xm]) :: (ias ++ [(yg, 24, yc)])) [.mc yc (l.L.take (k + 1)), .rw (.slice fta l.ft.length ftk) l.ft.length 2 (fcl l.ft), .rw (.slice xc l.ft.length xm) l.ft.length 2 (fcl l.ft), .rw (.slice xb l.ats.length xk) l.ats.length 1 (icl l.ats), .ms (.slice (some ⟨xab, xao, none⟩) l.L.length xj) l.L] _) := Lib.hid ⟨hZ.bel, hZ.box, ⟨by have h9 := hZ.fc 0 rfl; rw [htk] at h9; exact h9, hZ.fc 9 rfl, ⟨hZ.fc 10 rfl, ⟨hZ.fc 11 rfl, ⟨hZ.fc 12 rfl, trivial⟩⟩⟩⟩⟩
        rw [htk] at yO
        clear hZ htk
        go_wp2
        go_roundg (l.L.length - (k + 1))
        case rel => exact ⟨k + 1, _, _, _, _, rfl, EZ, yO, Lib.hid ⟨by omega, rfl⟩⟩
        case measure => exact by omega
end Go.Proofs.Ytbcfcdcomboljaa

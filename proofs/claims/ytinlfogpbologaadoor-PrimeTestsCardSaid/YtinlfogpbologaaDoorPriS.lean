/- count, Size, of certificates with 0, 1 and 2 parts. -/
import Derived.Test.YtinlfogpbologaaDoorPriP
namespace Go.Proofs.YtinlfogpbologaaDoor
open Go.RowKit DivMath WordMath
set_option linter.unusedVariables false
set_option linter.unusedSimpArgs false
set_option maxRecDepth 100000 in
set_option maxHeartbeats 2000000 in
theorem count_0 {D : Nat → Prop} (l0 : Int) {xna xra xza : Option Addr} {xnk xrk xzk : Nat} {w : World}  (hl : 0 ≤ l0 ∧ l0 ≤ 1000) :
    Calls Tryd.prog 127 #[.agg #[.slice xna 1 xnk, .slice xra 1 xrk, .slice xza 0 xzk], .int .i64 l0] w fun e w' => e = .returned (.int .i64 1) ∧ Below w.heap.size w w' := by
  have E0 := Lib.hid (Env.start D w)
  go_enter Tryd.func127, Tryd.ntmps127
  go_wp2_with fail
  have E1 : Hid (Env D w [(w.heap.size, 99, [.slice xna 1 xnk, .slice xra 1 xrk, .slice xza 0 xzk])] [] _) := Lib.hid ((E0.out.push 99 [.slice xna 1 xnk, .slice xra 1 xrk, .slice xza 0 xzk] (w.heap.size) (by simp)))
  refine wp_loop_rounds 1 ?_
  rw [rounds_succ]
  have hfin := Lib.hid E1.out.bel
  go_wp2
  go_ret
  exact ⟨rfl, hfin.out⟩
set_option maxRecDepth 100000 in
set_option maxHeartbeats 1000000 in
theorem Size_0 {D : Nat → Prop} {xna xra xza : Option Addr} {xnk xrk xzk : Nat} {w : World}   :
    Calls Tryd.prog 91 #[.agg #[.slice xna 1 xnk, .slice xra 1 xrk, .slice xza 0 xzk]] w fun e w' => e = .returned (.int .i64 1) ∧ Below w.heap.size w w' := by
  have E0 := Lib.hid (Env.start D w)
  go_enter Tryd.func91, Tryd.ntmps91
  go_wp2_with fail
  have E1 : Hid (Env D w [(w.heap.size, 99, [.slice xna 1 xnk, .slice xra 1 xrk, .slice xza 0 xzk])] [] _) := Lib.hid ((E0.out.push 99 [.slice xna 1 xnk, .slice xra 1 xrk, .slice xza 0 xzk] (w.heap.size) (by simp)))
  refine (count_0 (D := D) 1000  (by omega)).mono ?_
  rintro e w1 ⟨rfl, hb⟩
  have E2 := Lib.hid (E1.out.below hb)
  clear E0 E1 hb
  have hfin := Lib.hid E2.out.bel
  go_wp2
  go_ret
  exact ⟨rfl, hfin.out⟩
set_option maxRecDepth 100000 in
set_option maxHeartbeats 2000000 in
theorem count_1 {D : Nat → Prop} (l0 : Int) {xna xra xza pna pra pza : Option Addr} {xnk xrk xzk pnk prk pzk : Nat} {w : World} (hxz : Fct.at w D (.rw (.slice xza 1 xzk) 1 3 [.slice pna 1 pnk, .slice pra 1 prk, .slice pza 0 pzk])) (hl : 1 ≤ l0 ∧ l0 ≤ 1000) :
    Calls Tryd.prog 127 #[.agg #[.slice xna 1 xnk, .slice xra 1 xrk, .slice xza 1 xzk], .int .i64 l0] w fun e w' => e = .returned (.int .i64 2) ∧ Below w.heap.size w w' := by
  have E0 := Lib.hid ((Env.start D w).arg (.rw (.slice xza 1 xzk) 1 3 [.slice pna 1 pnk, .slice pra 1 prk, .slice pza 0 pzk]) hxz)
  clear hxz
  go_enter Tryd.func127, Tryd.ntmps127
  obtain ⟨xzb, xzo, rfl⟩ := Rw.addr (E0.out.fc 0 rfl) (by omega)
  go_wp2_with fail
  have E1 : Hid (Env D w [(w.heap.size, 99, [.slice xna 1 xnk, .slice xra 1 xrk, .slice (some ⟨xzb, xzo, none⟩) 1 xzk])] [.rw (.slice (some ⟨xzb, xzo, none⟩) 1 xzk) 1 3 [.slice pna 1 pnk, .slice pra 1 prk, .slice pza 0 pzk]] _) := Lib.hid ((E0.out.push 99 [.slice xna 1 xnk, .slice xra 1 xrk, .slice (some ⟨xzb, xzo, none⟩) 1 xzk] (w.heap.size) (by simp)))
  refine wp_loop_rounds 2 ?_
  rw [rounds_succ]
  have t0 : decide (l0 < 1) = false := decide_eq_false (by omega)
  obtain ⟨l1, hl0⟩ : ∃ l, l = l0 - 1 := ⟨_, rfl⟩
  have e0 : l0 - 1 = l1 := hl0.symm
  have d0 := Lib.hid hl0
  have i0 : 0 ≤ l1 ∧ l1 ≤ 1000 := by omega
  clear hl0
  have E2 : Hid (Env D w [(w.heap.size, 99, [.slice xna 1 xnk, .slice xra 1 xrk, .slice (some ⟨xzb, xzo, none⟩) 1 xzk])] [.ce xzb xzo (.slice pna 1 pnk), .ce xzb (xzo + 1) (.slice pra 1 prk), .ce xzb (xzo + 2) (.slice pza 0 pzk), .rw (.slice (some ⟨xzb, xzo, none⟩) 1 xzk) 1 3 [.slice pna 1 pnk, .slice pra 1 prk, .slice pza 0 pzk]] _) := Lib.hid (E1.out.el3 0 rfl (by omega) (a := 0) (c := 1) (d := 2) rfl rfl rfl)
  clear E1
  have u0_0 := (E2.out.fc 0 rfl).2
  have u0_1 := (E2.out.fc 1 rfl).2
  have u0_2 := (E2.out.fc 2 rfl).2
  go_wp2_with fail
  have E3 : Hid (Env D w [(w.heap.size + 1, 99, [.slice pna 1 pnk, .slice pra 1 prk, .slice pza 0 pzk]), (w.heap.size, 99, [.slice xna 1 xnk, .slice xra 1 xrk, .slice (some ⟨xzb, xzo, none⟩) 1 xzk])] [.ce xzb xzo (.slice pna 1 pnk), .ce xzb (xzo + 1) (.slice pra 1 prk), .ce xzb (xzo + 2) (.slice pza 0 pzk), .rw (.slice (some ⟨xzb, xzo, none⟩) 1 xzk) 1 3 [.slice pna 1 pnk, .slice pra 1 prk, .slice pza 0 pzk]] _) := Lib.hid ((E2.out.push 99 [.slice pna 1 pnk, .slice pra 1 prk, .slice pza 0 pzk] (w.heap.size + 1) (by simp)))
  refine (count_0 (D := D) l1  i0).mono ?_
  rintro e w1 ⟨rfl, hb⟩
  have E4 := Lib.hid (E3.out.below hb)
  clear u0_0 u0_1 u0_2 E0 E2 E3 hb
  go_wp2_with fail
  rw [rounds_succ]
  have hfin := Lib.hid E4.out.bel
  go_wp2
  go_ret
  exact ⟨rfl, hfin.out⟩
set_option maxRecDepth 100000 in
set_option maxHeartbeats 1000000 in
theorem Size_1 {D : Nat → Prop} {xna xra xza pna pra pza : Option Addr} {xnk xrk xzk pnk prk pzk : Nat} {w : World} (hxz : Fct.at w D (.rw (.slice xza 1 xzk) 1 3 [.slice pna 1 pnk, .slice pra 1 prk, .slice pza 0 pzk]))  :
    Calls Tryd.prog 91 #[.agg #[.slice xna 1 xnk, .slice xra 1 xrk, .slice xza 1 xzk]] w fun e w' => e = .returned (.int .i64 2) ∧ Below w.heap.size w w' := by
  have E0 := Lib.hid ((Env.start D w).arg (.rw (.slice xza 1 xzk) 1 3 [.slice pna 1 pnk, .slice pra 1 prk, .slice pza 0 pzk]) hxz)
  clear hxz
  go_enter Tryd.func91, Tryd.ntmps91
  go_wp2_with fail
  have E1 : Hid (Env D w [(w.heap.size, 99, [.slice xna 1 xnk, .slice xra 1 xrk, .slice xza 1 xzk])] [.rw (.slice xza 1 xzk) 1 3 [.slice pna 1 pnk, .slice pra 1 prk, .slice pza 0 pzk]] _) := Lib.hid ((E0.out.push 99 [.slice xna 1 xnk, .slice xra 1 xrk, .slice xza 1 xzk] (w.heap.size) (by simp)))
  refine (count_1 1000 (E1.out.fc 0 rfl) (by omega)).mono ?_
  rintro e w1 ⟨rfl, hb⟩
  have E2 := Lib.hid (E1.out.below hb)
  clear E0 E1 hb
  have hfin := Lib.hid E2.out.bel
  go_wp2
  go_ret
  exact ⟨rfl, hfin.out⟩
set_option maxRecDepth 100000 in
set_option maxHeartbeats 2000000 in
theorem count_2 {D : Nat → Prop} (l0 : Int) {xna xra xza pna pra pza qna qra qza sna sra sza : Option Addr} {xnk xrk xzk pnk prk pzk qnk qrk qzk snk srk szk : Nat} {w : World} (hxz : Fct.at w D (.rw (.slice xza 2 xzk) 2 3 [.slice pna 1 pnk, .slice pra 1 prk, .slice pza 0 pzk, .slice qna 1 qnk, .slice qra 1 qrk, .slice qza 1 qzk])) (hqz : Fct.at w D (.rw (.slice qza 1 qzk) 1 3 [.slice sna 1 snk, .slice sra 1 srk, .slice sza 0 szk])) (hl : 3 ≤ l0 ∧ l0 ≤ 1000) :
    Calls Tryd.prog 127 #[.agg #[.slice xna 1 xnk, .slice xra 1 xrk, .slice xza 2 xzk], .int .i64 l0] w fun e w' => e = .returned (.int .i64 4) ∧ Below w.heap.size w w' := by
  have E0 := Lib.hid (((Env.start D w).arg (.rw (.slice xza 2 xzk) 2 3 [.slice pna 1 pnk, .slice pra 1 prk, .slice pza 0 pzk, .slice qna 1 qnk, .slice qra 1 qrk, .slice qza 1 qzk]) hxz).arg (.rw (.slice qza 1 qzk) 1 3 [.slice sna 1 snk, .slice sra 1 srk, .slice sza 0 szk]) hqz)
  clear hxz hqz
  go_enter Tryd.func127, Tryd.ntmps127
  obtain ⟨xzb, xzo, rfl⟩ := Rw.addr (E0.out.fc 1 rfl) (by omega)
  go_wp2_with fail
  have E1 : Hid (Env D w [(w.heap.size, 99, [.slice xna 1 xnk, .slice xra 1 xrk, .slice (some ⟨xzb, xzo, none⟩) 2 xzk])] [.rw (.slice qza 1 qzk) 1 3 [.slice sna 1 snk, .slice sra 1 srk, .slice sza 0 szk], .rw (.slice (some ⟨xzb, xzo, none⟩) 2 xzk) 2 3 [.slice pna 1 pnk, .slice pra 1 prk, .slice pza 0 pzk, .slice qna 1 qnk, .slice qra 1 qrk, .slice qza 1 qzk]] _) := Lib.hid ((E0.out.push 99 [.slice xna 1 xnk, .slice xra 1 xrk, .slice (some ⟨xzb, xzo, none⟩) 2 xzk] (w.heap.size) (by simp)))
  refine wp_loop_rounds 3 ?_
  rw [rounds_succ]
  have t0 : decide (l0 < 1) = false := decide_eq_false (by omega)
  obtain ⟨l1, hl0⟩ : ∃ l, l = l0 - 1 := ⟨_, rfl⟩
  have e0 : l0 - 1 = l1 := hl0.symm
  have d0 := Lib.hid hl0
  have i0 : 0 ≤ l1 ∧ l1 ≤ 1000 := by omega
  clear hl0
  have E2 : Hid (Env D w [(w.heap.size, 99, [.slice xna 1 xnk, .slice xra 1 xrk, .slice (some ⟨xzb, xzo, none⟩) 2 xzk])] [.ce xzb xzo (.slice pna 1 pnk), .ce xzb (xzo + 1) (.slice pra 1 prk), .ce xzb (xzo + 2) (.slice pza 0 pzk), .rw (.slice qza 1 qzk) 1 3 [.slice sna 1 snk, .slice sra 1 srk, .slice sza 0 szk], .rw (.slice (some ⟨xzb, xzo, none⟩) 2 xzk) 2 3 [.slice pna 1 pnk, .slice pra 1 prk, .slice pza 0 pzk, .slice qna 1 qnk, .slice qra 1 qrk, .slice qza 1 qzk]] _) := Lib.hid (E1.out.el3 1 rfl (by omega) (a := 0) (c := 1) (d := 2) rfl rfl rfl)
  clear E1
  have u0_0 := (E2.out.fc 0 rfl).2
  have u0_1 := (E2.out.fc 1 rfl).2
  have u0_2 := (E2.out.fc 2 rfl).2
  go_wp2_with fail
  have E3 : Hid (Env D w [(w.heap.size + 1, 99, [.slice pna 1 pnk, .slice pra 1 prk, .slice pza 0 pzk]), (w.heap.size, 99, [.slice xna 1 xnk, .slice xra 1 xrk, .slice (some ⟨xzb, xzo, none⟩) 2 xzk])] [.ce xzb xzo (.slice pna 1 pnk), .ce xzb (xzo + 1) (.slice pra 1 prk), .ce xzb (xzo + 2) (.slice pza 0 pzk), .rw (.slice qza 1 qzk) 1 3 [.slice sna 1 snk, .slice sra 1 srk, .slice sza 0 szk], .rw (.slice (some ⟨xzb, xzo, none⟩) 2 xzk) 2 3 [.slice pna 1 pnk, .slice pra 1 prk, .slice pza 0 pzk, .slice qna 1 qnk, .slice qra 1 qrk, .slice qza 1 qzk]] _) := Lib.hid ((E2.out.push 99 [.slice pna 1 pnk, .slice pra 1 prk, .slice pza 0 pzk] (w.heap.size + 1) (by simp)))
  refine (count_0 (D := D) l1  i0).mono ?_
  rintro e w1 ⟨rfl, hb⟩
  have E4 := Lib.hid (E3.out.below hb)
  clear u0_0 u0_1 u0_2 E0 E2 E3 hb
  go_wp2_with fail
  rw [rounds_succ]
  have t1 : decide (l0 < 2) = false := decide_eq_false (by omega)
  obtain ⟨l2, hl1⟩ : ∃ l, l = l0 - 2 := ⟨_, rfl⟩
  have e1 : l0 - 2 = l2 := hl1.symm
  have d1 := Lib.hid hl1
  have i1 : 1 ≤ l2 ∧ l2 ≤ 1000 := by omega
  clear hl1
  have E5 : Hid (Env D w [(w.heap.size + 1, 99, [.slice pna 1 pnk, .slice pra 1 prk, .slice pza 0 pzk]), (w.heap.size, 99, [.slice xna 1 xnk, .slice xra 1 xrk, .slice (some ⟨xzb, xzo, none⟩) 2 xzk])] [.ce xzb (xzo + 3) (.slice qna 1 qnk), .ce xzb (xzo + 4) (.slice qra 1 qrk), .ce xzb (xzo + 5) (.slice qza 1 qzk), .ce xzb xzo (.slice pna 1 pnk), .ce xzb (xzo + 1) (.slice pra 1 prk), .ce xzb (xzo + 2) (.slice pza 0 pzk), .rw (.slice qza 1 qzk) 1 3 [.slice sna 1 snk, .slice sra 1 srk, .slice sza 0 szk], .rw (.slice (some ⟨xzb, xzo, none⟩) 2 xzk) 2 3 [.slice pna 1 pnk, .slice pra 1 prk, .slice pza 0 pzk, .slice qna 1 qnk, .slice qra 1 qrk, .slice qza 1 qzk]] _) := Lib.hid (E4.out.el3 4 rfl (by omega) (a := 3) (c := 4) (d := 5) rfl rfl rfl)
  clear E4
  have u1_0 := (E5.out.fc 0 rfl).2
  have u1_1 := (E5.out.fc 1 rfl).2
  have u1_2 := (E5.out.fc 2 rfl).2
  go_wp2_with fail
  have E6 : Hid (Env D w [(w1.heap.size, 99, [.slice qna 1 qnk, .slice qra 1 qrk, .slice qza 1 qzk]), (w.heap.size + 1, 99, [.slice pna 1 pnk, .slice pra 1 prk, .slice pza 0 pzk]), (w.heap.size, 99, [.slice xna 1 xnk, .slice xra 1 xrk, .slice (some ⟨xzb, xzo, none⟩) 2 xzk])] [.ce xzb (xzo + 3) (.slice qna 1 qnk), .ce xzb (xzo + 4) (.slice qra 1 qrk), .ce xzb (xzo + 5) (.slice qza 1 qzk), .ce xzb xzo (.slice pna 1 pnk), .ce xzb (xzo + 1) (.slice pra 1 prk), .ce xzb (xzo + 2) (.slice pza 0 pzk), .rw (.slice qza 1 qzk) 1 3 [.slice sna 1 snk, .slice sra 1 srk, .slice sza 0 szk], .rw (.slice (some ⟨xzb, xzo, none⟩) 2 xzk) 2 3 [.slice pna 1 pnk, .slice pra 1 prk, .slice pza 0 pzk, .slice qna 1 qnk, .slice qra 1 qrk, .slice qza 1 qzk]] _) := Lib.hid ((E5.out.push 99 [.slice qna 1 qnk, .slice qra 1 qrk, .slice qza 1 qzk] (w1.heap.size) (by simp)))
  refine (count_1 l2 (E6.out.fc 6 rfl) i1).mono ?_
  rintro e w2 ⟨rfl, hb⟩
  have E7 := Lib.hid (E6.out.below hb)
  clear u1_0 u1_1 u1_2 E5 E6 hb
  go_wp2_with fail
  rw [rounds_succ]
  have hfin := Lib.hid E7.out.bel
  go_wp2
  go_ret
  exact ⟨rfl, hfin.out⟩
set_option maxRecDepth 100000 in
set_option maxHeartbeats 1000000 in
theorem Size_2 {D : Nat → Prop} {xna xra xza pna pra pza qna qra qza sna sra sza : Option Addr} {xnk xrk xzk pnk prk pzk qnk qrk qzk snk srk szk : Nat} {w : World} (hxz : Fct.at w D (.rw (.slice xza 2 xzk) 2 3 [.slice pna 1 pnk, .slice pra 1 prk, .slice pza 0 pzk, .slice qna 1 qnk, .slice qra 1 qrk, .slice qza 1 qzk])) (hqz : Fct.at w D (.rw (.slice qza 1 qzk) 1 3 [.slice sna 1 snk, .slice sra 1 srk, .slice sza 0 szk]))  :
    Calls Tryd.prog 91 #[.agg #[.slice xna 1 xnk, .slice xra 1 xrk, .slice xza 2 xzk]] w fun e w' => e = .returned (.int .i64 4) ∧ Below w.heap.size w w' := by
  have E0 := Lib.hid (((Env.start D w).arg (.rw (.slice xza 2 xzk) 2 3 [.slice pna 1 pnk, .slice pra 1 prk, .slice pza 0 pzk, .slice qna 1 qnk, .slice qra 1 qrk, .slice qza 1 qzk]) hxz).arg (.rw (.slice qza 1 qzk) 1 3 [.slice sna 1 snk, .slice sra 1 srk, .slice sza 0 szk]) hqz)
  clear hxz hqz
  go_enter Tryd.func91, Tryd.ntmps91
  go_wp2_with fail
  have E1 : Hid (Env D w [(w.heap.size, 99, [.slice xna 1 xnk, .slice xra 1 xrk, .slice xza 2 xzk])] [.rw (.slice qza 1 qzk) 1 3 [.slice sna 1 snk, .slice sra 1 srk, .slice sza 0 szk], .rw (.slice xza 2 xzk) 2 3 [.slice pna 1 pnk, .slice pra 1 prk, .slice pza 0 pzk, .slice qna 1 qnk, .slice qra 1 qrk, .slice qza 1 qzk]] _) := Lib.hid ((E0.out.push 99 [.slice xna 1 xnk, .slice xra 1 xrk, .slice xza 2 xzk] (w.heap.size) (by simp)))
  refine (count_2 1000 (E1.out.fc 1 rfl) (E1.out.fc 0 rfl) (by omega)).mono ?_
  rintro e w1 ⟨rfl, hb⟩
  have E2 := Lib.hid (E1.out.below hb)
  clear E0 E1 hb
  have hfin := Lib.hid E2.out.bel
  go_wp2
  go_ret
  exact ⟨rfl, hfin.out⟩
end Go.Proofs.YtinlfogpbologaaDoor

/- line: New, Go. -/
import Derived.Test.YtbcfcdcomboljaaLinV
namespace Go.Proofs.Ytbcfcdcomboljaa
open Go.RowKit
set_option linter.unusedVariables false
set_option linter.unusedSimpArgs false
def L0 : Lin := ⟨0, [], [], []⟩
/-- a line and an error number came back -/
def RetLE (D : Nat → Prop) (l : Lin) (c : Int) (e : Ending) (W : World) : Prop := ∃ v, e = .returned (.tuple #[v, .int .i64 c]) ∧ RetL D l v W
theorem ok_fates {ft : List (Int × Int)} (h : ft.length ≤ 1000) : LinOk ⟨0, [], [], ft⟩ ↔ FatsOk ft :=
  ⟨fun h => h.2.2.2, fun hf => ⟨⟨rfl, rfl, by simp, h⟩, fun i h => by simp at h, fun i h => by simp at h, hf⟩⟩
theorem okOf {p : Prop} (h : p) : p ↔ true = true := ⟨fun _ => rfl, fun _ => h⟩
theorem noOf {p : Prop} (h : ¬ p) : p ↔ false = true := ⟨fun hp => absurd hp h, fun h => by cases h⟩
set_option maxRecDepth 100000 in
set_option maxHeartbeats 1000000 in
theorem New_full {D : Nat → Prop} (ft : List (Int × Int)) {xa : Option Addr} {xk : Nat} {w : World} (hx : Fct.at w D (.rw (.slice xa ft.length xk) ft.length 2 (fcl ft))) (h0 : 1000 < ft.length) :
    Calls Try.prog 33 #[.slice xa ft.length xk] w fun e w' => RetLE (fun b => D b ∨ w.heap.size ≤ b) L0 5 e w' ∧ Below w.heap.size w w' := by
  have E0 := Lib.hid ((Env.start D w).arg (.rw (.slice xa ft.length xk) ft.length 2 (fcl ft)) hx)
  clear hx
  go_enter Try.func33, Try.ntmps33
  have t1 : decide ((1000 : Int) < (ft.length : Int)) = true := decide_eq_true (by omega)
  go_wp2
  have E1 := Lib.hid ((E0.out.push 64 [.int .i64 0, .slice none 0 0, .slice none 0 0, .slice none 0 0] (w.heap.size) (by simp)))
  have hfin := E1.out
  have q1 := (hfin.bx 0 rfl).cell 0 rfl
  have q2 := (hfin.bx 0 rfl).cell 1 rfl
  have q3 := (hfin.bx 0 rfl).cell 2 rfl
  have q4 := (hfin.bx 0 rfl).cell 3 rfl
  exact bodyPost_ret (v := .tuple #[.agg #[.int .i64 0, .slice none 0 0, .slice none 0 0, .slice none 0 0], .int .i64 5]) (by simp [results, Try.results33, go_sem, q1, q2, q3, q4]) rfl ⟨⟨_, rfl, _, _, _, _, _, _, rfl, Lib.hid (Ms.nil _ _), Lib.hid (Rw.nil _ _ _), Lib.hid (Rw.nil _ _ _)⟩, hfin.bel⟩
set_option maxRecDepth 100000 in
set_option maxHeartbeats 1000000 in
theorem New_bad {D : Nat → Prop} (ft : List (Int × Int)) {xa : Option Addr} {xk : Nat} {w : World} (hx : Fct.at w D (.rw (.slice xa ft.length xk) ft.length 2 (fcl ft))) (h0 : ft.length ≤ 1000) (hf0 : ¬ FatsOk ft) :
    Calls Try.prog 33 #[.slice xa ft.length xk] w fun e w' => RetLE (fun b => D b ∨ w.heap.size ≤ b) L0 1 e w' ∧ Below w.heap.size w w' := by
  have E0 := Lib.hid ((Env.start D w).arg (.rw (.slice xa ft.length xk) ft.length 2 (fcl ft)) hx)
  clear hx
  go_enter Try.func33, Try.ntmps33
  have hf := Lib.hid hf0
  clear hf0
  have t1 : decide ((1000 : Int) < (ft.length : Int)) = false := decide_eq_false (by omega)
  go_wp2_with fail
  have E1 := Lib.hid ((E0.out.push 64 [.int .i64 0, .slice none 0 0, .slice none 0 0, .slice none 0 0] (w.heap.size) (by simp)))
  refine (cloneF_c (E1.out.fc 0 rfl) (by omega)).mono ?_
  rintro e w1 ⟨⟨fca, fck, rfl, fch⟩, hb⟩
  have E2 := Lib.hid (E1.out.got (E1.out.below hb) (.rw (.slice fca ft.length fck) ft.length 2 (fcl ft)) fch.out)
  clear E0 E1 hb fch
  have E3 := Lib.hid ((E2.out.push 64 [.int .i64 0, .slice none 0 0, .slice none 0 0, .slice fca ft.length fck] (w1.heap.size) (by simp)))
  have E4 := Lib.hid ((E3.out.note (.ms _ []) (Ms.nil _ _)).note (.rw _ 0 1 []) (Rw.nil _ _ _))
  clear E3
  have b1 := E4.out.bx 0 rfl
  have c1_0 := b1.cell 0 rfl
  have c1_1 := b1.cell 1 rfl
  have c1_2 := b1.cell 2 rfl
  have c1_3 := b1.cell 3 rfl
  clear b1
  go_wp2_with fail
  refine (lValid_c ⟨0, [], [], ft⟩ (E4.out.fc 1 rfl) (E4.out.fc 0 rfl) (E4.out.fc 2 rfl) (noOf (fun h => hf.out ((ok_fates h0).1 h))) (by simp)).mono ?_
  rintro e w2 ⟨rfl, hb⟩
  have E5 := Lib.hid (E4.out.below hb)
  clear c1_0 c1_1 c1_2 c1_3 E2 E4 hb
  have b2 := E5.out.bx 1 rfl
  have c2_0 := b2.cell 0 rfl
  have c2_1 := b2.cell 1 rfl
  have c2_2 := b2.cell 2 rfl
  have c2_3 := b2.cell 3 rfl
  have f2_0 := b2.frozen 0
  have f2_1 := b2.frozen 1
  have f2_2 := b2.frozen 2
  have f2_3 := b2.frozen 3
  clear b2
  go_wp2
  have E6 : Hid (Env D w [(w1.heap.size, 64, [.int .i64 0, .slice none 0 0, .slice none 0 0, .slice fca ft.length fck]), (w.heap.size, 64, [.int .i64 0, .slice none 0 0, .slice none 0 0, .slice none 0 0])] [.rw (.slice none 0 0) 0 1 (icl []), .ms (.slice none 0 0) [], .rw (.slice fca ft.length fck) ft.length 2 (fcl ft), .rw (.slice xa ft.length xk) ft.length 2 (fcl ft)] _) := Lib.hid (((((E5.out.set 1 0 (.int .i64 0) rfl).set 1 1 (.slice none 0 0) rfl).set 1 2 (.slice none 0 0) rfl).set 1 3 (.slice none 0 0) rfl))
  have hfin := E6.out
  have q3 := (hfin.bx 1 rfl).cell 0 rfl
  have q4 := (hfin.bx 1 rfl).cell 1 rfl
  have q5 := (hfin.bx 1 rfl).cell 2 rfl
  have q6 := (hfin.bx 1 rfl).cell 3 rfl
  exact bodyPost_ret (v := .tuple #[.agg #[.int .i64 0, .slice none 0 0, .slice none 0 0, .slice none 0 0], .int .i64 1]) (by simp [results, Try.results33, go_sem, q3, q4, q5, q6]) rfl ⟨⟨_, rfl, _, _, _, _, _, _, rfl, Lib.hid (Ms.nil _ _), Lib.hid (Rw.nil _ _ _), Lib.hid (Rw.nil _ _ _)⟩, hfin.bel⟩
set_option maxRecDepth 100000 in
set_option maxHeartbeats 1000000 in
theorem New_ok {D : Nat → Prop} (ft : List (Int × Int)) {xa : Option Addr} {xk : Nat} {w : World} (hx : Fct.at w D (.rw (.slice xa ft.length xk) ft.length 2 (fcl ft))) (h0 : ft.length ≤ 1000) (hf0 : FatsOk ft) :
    Calls Try.prog 33 #[.slice xa ft.length xk] w fun e w' => RetLE (fun b => D b ∨ w.heap.size ≤ b) ⟨0, [], [], ft⟩ 0 e w' ∧ Below w.heap.size w w' := by
  have E0 := Lib.hid ((Env.start D w).arg (.rw (.slice xa ft.length xk) ft.length 2 (fcl ft)) hx)
  clear hx
  go_enter Try.func33, Try.ntmps33
  have hf := Lib.hid hf0
  clear hf0
  have t1 : decide ((1000 : Int) < (ft.length : Int)) = false := decide_eq_false (by omega)
  go_wp2_with fail
  have E1 := Lib.hid ((E0.out.push 64 [.int .i64 0, .slice none 0 0, .slice none 0 0, .slice none 0 0] (w.heap.size) (by simp)))
  refine (cloneF_c (E1.out.fc 0 rfl) (by omega)).mono ?_
  rintro e w1 ⟨⟨fca, fck, rfl, fch⟩, hb⟩
  have E2 := Lib.hid (E1.out.got (E1.out.below hb) (.rw (.slice fca ft.length fck) ft.length 2 (fcl ft)) fch.out)
  clear E0 E1 hb fch
  have E3 := Lib.hid ((E2.out.push 64 [.int .i64 0, .slice none 0 0, .slice none 0 0, .slice fca ft.length fck] (w1.heap.size) (by simp)))
  have E4 := Lib.hid ((E3.out.note (.ms _ []) (Ms.nil _ _)).note (.rw _ 0 1 []) (Rw.nil _ _ _))
  clear E3
  have b1 := E4.out.bx 0 rfl
  have c1_0 := b1.cell 0 rfl
  have c1_1 := b1.cell 1 rfl
  have c1_2 := b1.cell 2 rfl
  have c1_3 := b1.cell 3 rfl
  clear b1
  go_wp2_with fail
  refine (lValid_c ⟨0, [], [], ft⟩ (E4.out.fc 1 rfl) (E4.out.fc 0 rfl) (E4.out.fc 2 rfl) (okOf ((ok_fates h0).2 hf.out)) (by simp)).mono ?_
  rintro e w2 ⟨rfl, hb⟩
  have E5 := Lib.hid (E4.out.below hb)
  clear c1_0 c1_1 c1_2 c1_3 E2 E4 hb
  have b2 := E5.out.bx 0 rfl
  have c2_0 := b2.cell 0 rfl
  have c2_1 := b2.cell 1 rfl
  have c2_2 := b2.cell 2 rfl
  have c2_3 := b2.cell 3 rfl
  clear b2
  have b3 := E5.out.bx 1 rfl
  have c3_0 := b3.cell 0 rfl
  have c3_1 := b3.cell 1 rfl
  have c3_2 := b3.cell 2 rfl
  have c3_3 := b3.cell 3 rfl
  have f3_0 := b3.frozen 0
  have f3_1 := b3.frozen 1
  have f3_2 := b3.frozen 2
  have f3_3 := b3.frozen 3
  clear b3
  go_wp2
  have E6 : Hid (Env D w [(w1.heap.size, 64, [.int .i64 0, .slice none 0 0, .slice none 0 0, .slice fca ft.length fck]), (w.heap.size, 64, [.int .i64 0, .slice none 0 0, .slice none 0 0, .slice fca ft.length fck])] [.rw (.slice none 0 0) 0 1 (icl []), .ms (.slice none 0 0) [], .rw (.slice fca ft.length fck) ft.length 2 (fcl ft), .rw (.slice xa ft.length xk) ft.length 2 (fcl ft)] _) := Lib.hid (((((E5.out.set 1 0 (.int .i64 0) rfl).set 1 1 (.slice none 0 0) rfl).set 1 2 (.slice none 0 0) rfl).set 1 3 (.slice fca ft.length fck) rfl))
  have hfin := E6.out
  have q4 := (hfin.bx 1 rfl).cell 0 rfl
  have q5 := (hfin.bx 1 rfl).cell 1 rfl
  have q6 := (hfin.bx 1 rfl).cell 2 rfl
  have q7 := (hfin.bx 1 rfl).cell 3 rfl
  exact bodyPost_ret (v := .tuple #[.agg #[.int .i64 0, .slice none 0 0, .slice none 0 0, .slice fca ft.length fck], .int .i64 0]) (by simp [results, Try.results33, go_sem, q4, q5, q6, q7]) rfl ⟨⟨_, rfl, _, _, _, _, _, _, rfl, Lib.hid (Ms.nil _ _), Lib.hid (Rw.nil _ _ _), (Lib.hid (hfin.out 2 rfl))⟩, hfin.bel⟩
set_option maxRecDepth 100000 in
set_option maxHeartbeats 1000000 in
theorem Go_arg {D : Nat → Prop} (l : Lin) (now : Int) {xa xb xc : Option Addr} {xj xk xm : Nat} {w : World} (h1 : Fct.at w D (.ms (.slice xa l.L.length xj) l.L)) (h2 : Fct.at w D (.rw (.slice xb l.ats.length xk) l.ats.length 1 (icl l.ats))) (h3 : Fct.at w D (.rw (.slice xc l.ft.length xm) l.ft.length 2 (fcl l.ft))) (hv0 : ¬ LinOk l) (hlen : l.ats.length ≤ 1000000) :
    Calls Try.prog 37 #[.agg #[.int .i64 l.nw, .slice xa l.L.length xj, .slice xb l.ats.length xk, .slice xc l.ft.length xm], .int .i64 now] w fun e w' => RetLE (fun b => D b ∨ w.heap.size ≤ b) L0 1 e w' ∧ Below w.heap.size w w' := by
  have E0 := Lib.hid ((((Env.start D w).arg (.ms (.slice xa l.L.length xj) l.L) h1).arg (.rw (.slice xb l.ats.length xk) l.ats.length 1 (icl l.ats)) h2).arg (.rw (.slice xc l.ft.length xm) l.ft.length 2 (fcl l.ft)) h3)
  clear h1 h2 h3
  go_enter Try.func37, Try.ntmps37
  have hv := Lib.hid hv0
  clear hv0
  go_wp2_with fail
  have E1 := Lib.hid (((E0.out.push 64 [.int .i64 l.nw, .slice xa l.L.length xj, .slice xb l.ats.length xk, .slice xc l.ft.length xm] (w.heap.size) (by simp)).push 64 [.int .i64 0, .slice none 0 0, .slice none 0 0, .slice none 0 0] (w.heap.size + 1) (by simp)))
  refine (lValid_c l (E1.out.fc 2 rfl) (E1.out.fc 1 rfl) (E1.out.fc 0 rfl) (noOf hv.out) hlen).mono ?_
  rintro e w1 ⟨rfl, hb⟩
  have E2 := Lib.hid (E1.out.below hb)
  clear E0 E1 hb
  have b1 := E2.out.bx 0 rfl
  have c1_0 := b1.cell 0 rfl
  have c1_1 := b1.cell 1 rfl
  have c1_2 := b1.cell 2 rfl
  have c1_3 := b1.cell 3 rfl
  have f1_0 := b1.frozen 0
  have f1_1 := b1.frozen 1
  have f1_2 := b1.frozen 2
  have f1_3 := b1.frozen 3
  clear b1
  go_wp2
  have E3 : Hid (Env D w [(w.heap.size + 1, 64, [.int .i64 0, .slice none 0 0, .slice none 0 0, .slice none 0 0]), (w.heap.size, 64, [.int .i64 l.nw, .slice xa l.L.length xj, .slice xb l.ats.length xk, .slice xc l.ft.length xm])] [.rw (.slice xc l.ft.length xm) l.ft.length 2 (fcl l.ft), .rw (.slice xb l.ats.length xk) l.ats.length 1 (icl l.ats), .ms (.slice xa l.L.length xj) l.L] _) := Lib.hid (((((E2.out.set 0 0 (.int .i64 0) rfl).set 0 1 (.slice none 0 0) rfl).set 0 2 (.slice none 0 0) rfl).set 0 3 (.slice none 0 0) rfl))
  have hfin := E3.out
  have q2 := (hfin.bx 0 rfl).cell 0 rfl
  have q3 := (hfin.bx 0 rfl).cell 1 rfl
  have q4 := (hfin.bx 0 rfl).cell 2 rfl
  have q5 := (hfin.bx 0 rfl).cell 3 rfl
  exact bodyPost_ret (v := .tuple #[.agg #[.int .i64 0, .slice none 0 0, .slice none 0 0, .slice none 0 0], .int .i64 1]) (by simp [results, Try.results37, go_sem, q2, q3, q4, q5]) rfl ⟨⟨_, rfl, _, _, _, _, _, _, rfl, Lib.hid (Ms.nil _ _), Lib.hid (Rw.nil _ _ _), Lib.hid (Rw.nil _ _ _)⟩, hfin.bel⟩
set_option maxRecDepth 100000 in
set_option maxHeartbeats 1000000 in
theorem Go_range {D : Nat → Prop} (l : Lin) (now : Int) {xa xb xc : Option Addr} {xj xk xm : Nat} {w : World} (h1 : Fct.at w D (.ms (.slice xa l.L.length xj) l.L)) (h2 : Fct.at w D (.rw (.slice xb l.ats.length xk) l.ats.length 1 (icl l.ats))) (h3 : Fct.at w D (.rw (.slice xc l.ft.length xm) l.ft.length 2 (fcl l.ft))) (hv0 : LinOk l) (hr0 : wth now 1099511627776 = false) (hlen : l.ats.length ≤ 1000000) :
    Calls Try.prog 37 #[.agg #[.int .i64 l.nw, .slice xa l.L.length xj, .slice xb l.ats.length xk, .slice xc l.ft.length xm], .int .i64 now] w fun e w' => RetLE (fun b => D b ∨ w.heap.size ≤ b) L0 2 e w' ∧ Below w.heap.size w w' := by
  have E0 := Lib.hid ((((Env.start D w).arg (.ms (.slice xa l.L.length xj) l.L) h1).arg (.rw (.slice xb l.ats.length xk) l.ats.length 1 (icl l.ats)) h2).arg (.rw (.slice xc l.ft.length xm) l.ft.length 2 (fcl l.ft)) h3)
  clear h1 h2 h3
  go_enter Try.func37, Try.ntmps37
  have hv := Lib.hid hv0
  have hr := Lib.hid hr0
  clear hv0 hr0
  go_wp2_with fail
  have E1 := Lib.hid (((E0.out.push 64 [.int .i64 l.nw, .slice xa l.L.length xj, .slice xb l.ats.length xk, .slice xc l.ft.length xm] (w.heap.size) (by simp)).push 64 [.int .i64 0, .slice none 0 0, .slice none 0 0, .slice none 0 0] (w.heap.size + 1) (by simp)))
  refine (lValid_c l (E1.out.fc 2 rfl) (E1.out.fc 1 rfl) (E1.out.fc 0 rfl) (okOf hv.out) hlen).mono ?_
  rintro e w1 ⟨rfl, hb⟩
  have E2 := Lib.hid (E1.out.below hb)
  clear E0 E1 hb
  go_wp2_with fail
  refine (within_v hr.out _).mono ?_
  rintro e w2 ⟨rfl, hb⟩
  have E3 := Lib.hid (E2.out.below hb)
  clear E2 hb
  have b1 := E3.out.bx 0 rfl
  have c1_0 := b1.cell 0 rfl
  have c1_1 := b1.cell 1 rfl
  have c1_2 := b1.cell 2 rfl
  have c1_3 := b1.cell 3 rfl
  have f1_0 := b1.frozen 0
  have f1_1 := b1.frozen 1
  have f1_2 := b1.frozen 2
  have f1_3 := b1.frozen 3
  clear b1
  go_wp2
  have E4 : Hid (Env D w [(w.heap.size + 1, 64, [.int .i64 0, .slice none 0 0, .slice none 0 0, .slice none 0 0]), (w.heap.size, 64, [.int .i64 l.nw, .slice xa l.L.length xj, .slice xb l.ats.length xk, .slice xc l.ft.length xm])] [.rw (.slice xc l.ft.length xm) l.ft.length 2 (fcl l.ft), .rw (.slice xb l.ats.length xk) l.ats.length 1 (icl l.ats), .ms (.slice xa l.L.length xj) l.L] _) := Lib.hid (((((E3.out.set 0 0 (.int .i64 0) rfl).set 0 1 (.slice none 0 0) rfl).set 0 2 (.slice none 0 0) rfl).set 0 3 (.slice none 0 0) rfl))
  have hfin := E4.out
  have q2 := (hfin.bx 0 rfl).cell 0 rfl
  have q3 := (hfin.bx 0 rfl).cell 1 rfl
  have q4 := (hfin.bx 0 rfl).cell 2 rfl
  have q5 := (hfin.bx 0 rfl).cell 3 rfl
  exact bodyPost_ret (v := .tuple #[.agg #[.int .i64 0, .slice none 0 0, .slice none 0 0, .slice none 0 0], .int .i64 2]) (by simp [results, Try.results37, go_sem, q2, q3, q4, q5]) rfl ⟨⟨_, rfl, _, _, _, _, _, _, rfl, Lib.hid (Ms.nil _ _), Lib.hid (Rw.nil _ _ _), Lib.hid (Rw.nil _ _ _)⟩, hfin.bel⟩
set_option maxRecDepth 100000 in
set_option maxHeartbeats 1000000 in
theorem Go_time {D : Nat → Prop} (l : Lin) (now : Int) {xa xb xc : Option Addr} {xj xk xm : Nat} {w : World} (h1 : Fct.at w D (.ms (.slice xa l.L.length xj) l.L)) (h2 : Fct.at w D (.rw (.slice xb l.ats.length xk) l.ats.length 1 (icl l.ats))) (h3 : Fct.at w D (.rw (.slice xc l.ft.length xm) l.ft.length 2 (fcl l.ft))) (hv0 : LinOk l) (hr0 : wth now 1099511627776 = true) (ht0 : now < l.nw) (hlen : l.ats.length ≤ 1000000) :
    Calls Try.prog 37 #[.agg #[.int .i64 l.nw, .slice xa l.L.length xj, .slice xb l.ats.length xk, .slice xc l.ft.length xm], .int .i64 now] w fun e w' => RetLE (fun b => D b ∨ w.heap.size ≤ b) L0 15 e w' ∧ Below w.heap.size w w' := by
  have E0 := Lib.hid ((((Env.start D w).arg (.ms (.slice xa l.L.length xj) l.L) h1).arg (.rw (.slice xb l.ats.length xk) l.ats.length 1 (icl l.ats)) h2).arg (.rw (.slice xc l.ft.length xm) l.ft.length 2 (fcl l.ft)) h3)
  clear h1 h2 h3
  go_enter Try.func37, Try.ntmps37
  have hv := Lib.hid hv0
  have hr := Lib.hid hr0
  have ht := Lib.hid ht0
  clear hv0 hr0 ht0
  go_wp2_with fail
  have E1 := Lib.hid (((E0.out.push 64 [.int .i64 l.nw, .slice xa l.L.length xj, .slice xb l.ats.length xk, .slice xc l.ft.length xm] (w.heap.size) (by simp)).push 64 [.int .i64 0, .slice none 0 0, .slice none 0 0, .slice none 0 0] (w.heap.size + 1) (by simp)))
  refine (lValid_c l (E1.out.fc 2 rfl) (E1.out.fc 1 rfl) (E1.out.fc 0 rfl) (okOf hv.out) hlen).mono ?_
  rintro e w1 ⟨rfl, hb⟩
  have E2 := Lib.hid (E1.out.below hb)
  clear E0 E1 hb
  go_wp2_with fail
  refine (within_v hr.out _).mono ?_
  rintro e w2 ⟨rfl, hb⟩
  have E3 := Lib.hid (E2.out.below hb)
  clear E2 hb
  have t1 : decide (now < l.nw) = true := decide_eq_true (by have := ht.out; omega)
  have b1 := E3.out.bx 1 rfl
  have c1_0 := b1.cell 0 rfl
  clear b1
  have b2 := E3.out.bx 0 rfl
  have c2_0 := b2.cell 0 rfl
  have c2_1 := b2.cell 1 rfl
  have c2_2 := b2.cell 2 rfl
  have c2_3 := b2.cell 3 rfl
  have f2_0 := b2.frozen 0
  have f2_1 := b2.frozen 1
  have f2_2 := b2.frozen 2
  have f2_3 := b2.frozen 3
  clear b2
  go_wp2
  have E4 : Hid (Env D w [(w.heap.size + 1, 64, [.int .i64 0, .slice none 0 0, .slice none 0 0, .slice none 0 0]), (w.heap.size, 64, [.int .i64 l.nw, .slice xa l.L.length xj, .slice xb l.ats.length xk, .slice xc l.ft.length xm])] [.rw (.slice xc l.ft.length xm) l.ft.length 2 (fcl l.ft), .rw (.slice xb l.ats.length xk) l.ats.length 1 (icl l.ats), .ms (.slice xa l.L.length xj) l.L] _) := Lib.hid (((((E3.out.set 0 0 (.int .i64 0) rfl).set 0 1 (.slice none 0 0) rfl).set 0 2 (.slice none 0 0) rfl).set 0 3 (.slice none 0 0) rfl))
  have hfin := E4.out
  have q3 := (hfin.bx 0 rfl).cell 0 rfl
  have q4 := (hfin.bx 0 rfl).cell 1 rfl
  have q5 := (hfin.bx 0 rfl).cell 2 rfl
  have q6 := (hfin.bx 0 rfl).cell 3 rfl
  exact bodyPost_ret (v := .tuple #[.agg #[.int .i64 0, .slice none 0 0, .slice none 0 0, .slice none 0 0], .int .i64 15]) (by simp [results, Try.results37, go_sem, q3, q4, q5, q6]) rfl ⟨⟨_, rfl, _, _, _, _, _, _, rfl, Lib.hid (Ms.nil _ _), Lib.hid (Rw.nil _ _ _), Lib.hid (Rw.nil _ _ _)⟩, hfin.bel⟩
set_option maxRecDepth 100000 in
set_option maxHeartbeats 1000000 in
theorem Go_ok {D : Nat → Prop} (l : Lin) (now : Int) {xa xb xc : Option Addr} {xj xk xm : Nat} {w : World} (h1 : Fct.at w D (.ms (.slice xa l.L.length xj) l.L)) (h2 : Fct.at w D (.rw (.slice xb l.ats.length xk) l.ats.length 1 (icl l.ats))) (h3 : Fct.at w D (.rw (.slice xc l.ft.length xm) l.ft.length 2 (fcl l.ft))) (hv0 : LinOk l) (hr0 : wth now 1099511627776 = true) (ht0 : ¬ now < l.nw) (hbig0 : (l.L.length ≤ 100000 ∧ l.ats.length ≤ 100000 ∧ l.ft.length ≤ 100000) ∧ ∀ k (h : k < l.L.length), l.L[k].body.length ≤ 1000000) (hlen : l.ats.length ≤ 1000000) :
    Calls Try.prog 37 #[.agg #[.int .i64 l.nw, .slice xa l.L.length xj, .slice xb l.ats.length xk, .slice xc l.ft.length xm], .int .i64 now] w fun e w' => RetLE (fun b => D b ∨ w.heap.size ≤ b) ⟨now, l.L, l.ats, l.ft⟩ 0 e w' ∧ Below w.heap.size w w' := by
  have E0 := Lib.hid ((((Env.start D w).arg (.ms (.slice xa l.L.length xj) l.L) h1).arg (.rw (.slice xb l.ats.length xk) l.ats.length 1 (icl l.ats)) h2).arg (.rw (.slice xc l.ft.length xm) l.ft.length 2 (fcl l.ft)) h3)
  clear h1 h2 h3
  go_enter Try.func37, Try.ntmps37
  have hv := Lib.hid hv0
  have hr := Lib.hid hr0
  have ht := Lib.hid ht0
  have hbig := Lib.hid hbig0
  clear hv0 hr0 ht0 hbig0
  go_wp2_with fail
  have E1 := Lib.hid (((E0.out.push 64 [.int .i64 l.nw, .slice xa l.L.length xj, .slice xb l.ats.length xk, .slice xc l.ft.length xm] (w.heap.size) (by simp)).push 64 [.int .i64 0, .slice none 0 0, .slice none 0 0, .slice none 0 0] (w.heap.size + 1) (by simp)))
  refine (lValid_c l (E1.out.fc 2 rfl) (E1.out.fc 1 rfl) (E1.out.fc 0 rfl) (okOf hv.out) hlen).mono ?_
  rintro e w1 ⟨rfl, hb⟩
  have E2 := Lib.hid (E1.out.below hb)
  clear E0 E1 hb
  go_wp2_with fail
  refine (within_v hr.out _).mono ?_
  rintro e w2 ⟨rfl, hb⟩
  have E3 := Lib.hid (E2.out.below hb)
  clear E2 hb
  have t1 : decide (now < l.nw) = false := decide_eq_false (by have := ht.out; omega)
  have b1 := E3.out.bx 1 rfl
  have c1_0 := b1.cell 0 rfl
  clear b1
  have b2 := E3.out.bx 1 rfl
  have c2_1 := b2.cell 1 rfl
  have c2_2 := b2.cell 2 rfl
  have c2_3 := b2.cell 3 rfl
  clear b2
  go_wp2_with fail
  refine (cloned_c l (E3.out.fc 2 rfl) (E3.out.fc 1 rfl) (E3.out.fc 0 rfl) (by have := hbig.out; exact this.1) hbig.out.2).mono ?_
  rintro e w3 ⟨⟨sgA, csA, aa, ak, sgL, csL, la, lj, fa, fk, rfl, hOI, hLS, hHe, hFa, hMc⟩, hb⟩
  have E4 : Hid (Env D w ((w.heap.size + 1, 64, [.int .i64 0, .slice none 0 0, .slice none 0 0, .slice none 0 0]) :: (w.heap.size, 64, [.int .i64 l.nw, .slice xa l.L.length xj, .slice xb l.ats.length xk, .slice xc l.ft.length xm]) :: (sgA ++ sgL)) [.mc csL (l.L), .rw (.slice fa l.ft.length fk) l.ft.length 2 (fcl l.ft), .rw (.slice xc l.ft.length xm) l.ft.length 2 (fcl l.ft), .rw (.slice xb l.ats.length xk) l.ats.length 1 (icl l.ats), .ms (.slice xa l.L.length xj) l.L] w3) := Lib.hid ((E3.out.gotSegF (E3.out.gotSegF (E3.out.gotSeg hb hHe.out) (.rw (.slice fa l.ft.length fk) l.ft.length 2 (fcl l.ft)) hFa.out) (.mc csL (l.L)) hMc.out).cast (by simp))
  clear c1_0 c2_1 c2_2 c2_3 E3 hb
  clear hFa hMc hHe
  have E5 := Lib.hid ((E4.out.push 64 [.int .i64 now, .slice la l.L.length lj, .slice aa l.ats.length ak, .slice fa l.ft.length fk] (w3.heap.size) (by simp)))
  have b3 := E5.out.bx 1 rfl
  have c3_0 := b3.cell 0 rfl
  have c3_1 := b3.cell 1 rfl
  have c3_2 := b3.cell 2 rfl
  have c3_3 := b3.cell 3 rfl
  have f3_0 := b3.frozen 0
  have f3_1 := b3.frozen 1
  have f3_2 := b3.frozen 2
  have f3_3 := b3.frozen 3
  clear b3
  go_wp2
  have E6 : Hid (Env D w ((w3.heap.size, 64, [.int .i64 now, .slice la l.L.length lj, .slice aa l.ats.length ak, .slice fa l.ft.length fk]) :: (w.heap.size + 1, 64, [.int .i64 now, .slice la l.L.length lj, .slice aa l.ats.length ak, .slice fa l.ft.length fk]) :: (w.heap.size, 64, [.int .i64 l.nw, .slice xa l.L.length xj, .slice xb l.ats.length xk, .slice xc l.ft.length xm]) :: (sgA ++ sgL)) [.mc csL (l.L), .rw (.slice fa l.ft.length fk) l.ft.length 2 (fcl l.ft), .rw (.slice xc l.ft.length xm) l.ft.length 2 (fcl l.ft), .rw (.slice xb l.ats.length xk) l.ats.length 1 (icl l.ats), .ms (.slice xa l.L.length xj) l.L] _) := Lib.hid (((((E5.out.set 1 0 (.int .i64 now) rfl).set 1 1 (.slice la l.L.length lj) rfl).set 1 2 (.slice aa l.ats.length ak) rfl).set 1 3 (.slice fa l.ft.length fk) rfl))
  have hfin := E6.out
  have q4 := (hfin.bx 1 rfl).cell 0 rfl
  have q5 := (hfin.bx 1 rfl).cell 1 rfl
  have q6 := (hfin.bx 1 rfl).cell 2 rfl
  have q7 := (hfin.bx 1 rfl).cell 3 rfl
  exact bodyPost_ret (v := .tuple #[.agg #[.int .i64 now, .slice la l.L.length lj, .slice aa l.ats.length ak, .slice fa l.ft.length fk], .int .i64 0]) (by simp [results, Try.results37, go_sem, q4, q5, q6, q7]) rfl ⟨⟨_, rfl, _, _, _, _, _, _, rfl, Lib.hid (hLS.out.ms hfin (by intro p hp; simp [hp]) (hfin.fc 0 rfl)), Lib.hid (hOI.out.rw hfin (by intro p hp; simp [hp])), (Lib.hid (hfin.out 1 rfl))⟩, hfin.bel⟩
end Go.Proofs.Ytbcfcdcomboljaa

/- line: Receive. -/
import Derived.Test.YtbcfcdcomboljaaLinSb
namespace Go.Proofs.Ytbcfcdcomboljaa
open Go.RowKit
set_option linter.unusedVariables false
set_option linter.unusedSimpArgs false
/-- a line, a message and an error number came back -/
def RetLME (D : Nat → Prop) (l : Lin) (M : Msg) (c : Int) (e : Ending) (W : World) : Prop := ∃ v ao k, e = .returned (.tuple #[v, .agg #[.int .i64 M.fr, .int .i64 M.to_, .int .i64 M.kd, .int .i64 M.nm, .slice ao M.body.length k], .int .i64 c]) ∧ RetL D l v W ∧ Hid (Bs W D (.slice ao M.body.length k) M.body)
/-- the line without its i-th message -/
def recvL (l : Lin) (i : Nat) : Lin := ⟨l.nw, l.L.eraseIdx i, l.ats.eraseIdx i, l.ft⟩
theorem LS.box {sg : List Bx} {cs : List Value} {la : Option Addr} {n lj : Nat} {L : List Msg} (h : LS sg cs (.slice la n lj) L) (hn : L.length ≠ 0) : ∃ g, sg = [(g, 24, cs)] ∧ la = some ⟨g, 0, none⟩ := by
  rcases h with ⟨_, _, _, rfl⟩ | ⟨g, cap, h1, h2, _⟩
  · simp at hn
  · simp only [Value.slice.injEq] at h2
    exact ⟨g, h1, h2.1⟩
theorem Env.inBox {D0 : Nat → Prop} {w W : World} {F : List Bx} {G : List Fct} (E : Env D0 w F G W) {g : Nat} {T : TypeId} {cs : List Value} (h : (g, T, cs) ∈ F) : Box w.heap.size g T cs W := (held_iff.1 E.box).1 (g, T, cs) h
set_option maxRecDepth 100000 in
set_option maxHeartbeats 1000000 in
theorem Receive_arg {D : Nat → Prop} (l : Lin) (pt : Int) {xa xb xc : Option Addr} {xj xk xm : Nat} {w : World} (h1 : Fct.at w D (.ms (.slice xa l.L.length xj) l.L)) (h2 : Fct.at w D (.rw (.slice xb l.ats.length xk) l.ats.length 1 (icl l.ats))) (h3 : Fct.at w D (.rw (.slice xc l.ft.length xm) l.ft.length 2 (fcl l.ft))) (hv0 : ¬ LinOk l) (hlen : l.ats.length ≤ 1000000) :
    Calls Try.prog 36 #[.agg #[.int .i64 l.nw, .slice xa l.L.length xj, .slice xb l.ats.length xk, .slice xc l.ft.length xm], .int .i64 pt] w fun e w' => RetLME (fun b => D b ∨ w.heap.size ≤ b) L0 M0 1 e w' ∧ Below w.heap.size w w' := by
  have E0 := Lib.hid ((((Env.start D w).arg (.ms (.slice xa l.L.length xj) l.L) h1).arg (.rw (.slice xb l.ats.length xk) l.ats.length 1 (icl l.ats)) h2).arg (.rw (.slice xc l.ft.length xm) l.ft.length 2 (fcl l.ft)) h3)
  clear h1 h2 h3
  go_enter Try.func36, Try.ntmps36
  have hv := Lib.hid hv0
  clear hv0
  go_wp2_with fail
  have E1 := Lib.hid ((((E0.out.push 64 [.int .i64 l.nw, .slice xa l.L.length xj, .slice xb l.ats.length xk, .slice xc l.ft.length xm] (w.heap.size) (by simp)).push 64 [.int .i64 0, .slice none 0 0, .slice none 0 0, .slice none 0 0] (w.heap.size + 1) (by simp)).push 24 [.int .i64 0, .int .i64 0, .int .i64 0, .int .i64 0, .slice none 0 0] (w.heap.size + 1 + 1) (by simp)))
  refine (lValid_c l (E1.out.fc 2 rfl) (E1.out.fc 1 rfl) (E1.out.fc 0 rfl) (noOf hv.out) hlen).mono ?_
  rintro e w1 ⟨rfl, hb⟩
  have E2 := Lib.hid (E1.out.below hb)
  clear E0 E1 hb
  have b1 := E2.out.bx 1 rfl
  have c1_0 := b1.cell 0 rfl
  have c1_1 := b1.cell 1 rfl
  have c1_2 := b1.cell 2 rfl
  have c1_3 := b1.cell 3 rfl
  have f1_0 := b1.frozen 0
  have f1_1 := b1.frozen 1
  have f1_2 := b1.frozen 2
  have f1_3 := b1.frozen 3
  clear b1
  have E3 : Hid (Env D w [(w.heap.size + 1 + 1, 24, [.int .i64 0, .int .i64 0, .int .i64 0, .int .i64 0, .slice none 0 0]), (w.heap.size + 1, 64, [.int .i64 0, .slice none 0 0, .slice none 0 0, .slice none 0 0]), (w.heap.size, 64, [.int .i64 l.nw, .slice xa l.L.length xj, .slice xb l.ats.length xk, .slice xc l.ft.length xm])] [.rw (.slice xc l.ft.length xm) l.ft.length 2 (fcl l.ft), .rw (.slice xb l.ats.length xk) l.ats.length 1 (icl l.ats), .ms (.slice xa l.L.length xj) l.L] _) := Lib.hid (((((E2.out.set 1 0 (.int .i64 0) rfl).set 1 1 (.slice none 0 0) rfl).set 1 2 (.slice none 0 0) rfl).set 1 3 (.slice none 0 0) rfl))
  have b2 := E3.out.bx 0 rfl
  have c2_0 := b2.cell 0 rfl
  have c2_1 := b2.cell 1 rfl
  have c2_2 := b2.cell 2 rfl
  have c2_3 := b2.cell 3 rfl
  have c2_4 := b2.cell 4 rfl
  have f2_0 := b2.frozen 0
  have f2_1 := b2.frozen 1
  have f2_2 := b2.frozen 2
  have f2_3 := b2.frozen 3
  have f2_4 := b2.frozen 4
  clear b2
  have E4 : Hid (Env D w [(w.heap.size + 1 + 1, 24, [.int .i64 0, .int .i64 0, .int .i64 0, .int .i64 0, .slice none 0 0]), (w.heap.size + 1, 64, [.int .i64 0, .slice none 0 0, .slice none 0 0, .slice none 0 0]), (w.heap.size, 64, [.int .i64 l.nw, .slice xa l.L.length xj, .slice xb l.ats.length xk, .slice xc l.ft.length xm])] [.rw (.slice xc l.ft.length xm) l.ft.length 2 (fcl l.ft), .rw (.slice xb l.ats.length xk) l.ats.length 1 (icl l.ats), .ms (.slice xa l.L.length xj) l.L] _) := Lib.hid ((((((E3.out.set 0 0 (.int .i64 0) rfl).set 0 1 (.int .i64 0) rfl).set 0 2 (.int .i64 0) rfl).set 0 3 (.int .i64 0) rfl).set 0 4 (.slice none 0 0) rfl))
  have b3 := E4.out.bx 1 rfl
  have c3_0 := b3.cell 0 rfl
  have c3_1 := b3.cell 1 rfl
  have c3_2 := b3.cell 2 rfl
  have c3_3 := b3.cell 3 rfl
  clear b3
  have b4 := E4.out.bx 0 rfl
  have c4_0 := b4.cell 0 rfl
  have c4_1 := b4.cell 1 rfl
  have c4_2 := b4.cell 2 rfl
  have c4_3 := b4.cell 3 rfl
  have c4_4 := b4.cell 4 rfl
  clear b4
  go_wp2
  have hfin := E4.out
  have q5 := (hfin.bx 1 rfl).cell 0 rfl
  have q6 := (hfin.bx 1 rfl).cell 1 rfl
  have q7 := (hfin.bx 1 rfl).cell 2 rfl
  have q8 := (hfin.bx 1 rfl).cell 3 rfl
  have q9 := (hfin.bx 0 rfl).cell 0 rfl
  have q10 := (hfin.bx 0 rfl).cell 1 rfl
  have q11 := (hfin.bx 0 rfl).cell 2 rfl
  have q12 := (hfin.bx 0 rfl).cell 3 rfl
  have q13 := (hfin.bx 0 rfl).cell 4 rfl
  exact bodyPost_ret (v := .tuple #[.agg #[.int .i64 0, .slice none 0 0, .slice none 0 0, .slice none 0 0], .agg #[.int .i64 0, .int .i64 0, .int .i64 0, .int .i64 0, .slice none 0 0], .int .i64 1]) (by simp [results, Try.results36, go_sem, q5, q6, q7, q8, q9, q10, q11, q12, q13]) rfl ⟨⟨_, none, 0, rfl, ⟨_, _, _, _, _, _, rfl, Lib.hid (Ms.nil _ _), Lib.hid (Rw.nil _ _ _), Lib.hid (Rw.nil _ _ _)⟩, Lib.hid (Bs.nil _ _)⟩, hfin.bel⟩
set_option maxRecDepth 100000 in
set_option maxHeartbeats 1000000 in
theorem Receive_none {D : Nat → Prop} (l : Lin) (pt : Int) {xa xb xc : Option Addr} {xj xk xm : Nat} {w : World} (h1 : Fct.at w D (.ms (.slice xa l.L.length xj) l.L)) (h2 : Fct.at w D (.rw (.slice xb l.ats.length xk) l.ats.length 1 (icl l.ats))) (h3 : Fct.at w D (.rw (.slice xc l.ft.length xm) l.ft.length 2 (fcl l.ft))) (hv0 : LinOk l) (hr0 : FirstIs l pt (-1)) (hlen : l.ats.length ≤ 1000000) :
    Calls Try.prog 36 #[.agg #[.int .i64 l.nw, .slice xa l.L.length xj, .slice xb l.ats.length xk, .slice xc l.ft.length xm], .int .i64 pt] w fun e w' => RetLME (fun b => D b ∨ w.heap.size ≤ b) L0 M0 7 e w' ∧ Below w.heap.size w w' := by
  have E0 := Lib.hid ((((Env.start D w).arg (.ms (.slice xa l.L.length xj) l.L) h1).arg (.rw (.slice xb l.ats.length xk) l.ats.length 1 (icl l.ats)) h2).arg (.rw (.slice xc l.ft.length xm) l.ft.length 2 (fcl l.ft)) h3)
  clear h1 h2 h3
  go_enter Try.func36, Try.ntmps36
  have hv := Lib.hid hv0
  have hr := Lib.hid hr0
  clear hv0 hr0
  obtain ⟨l1, l2⟩ : l.L.length ≤ 1000 ∧ l.ats.length ≤ 1000 := by obtain ⟨⟨_, h1, h2, _⟩, _⟩ := hv.out; omega
  go_wp2_with fail
  have E1 := Lib.hid ((((E0.out.push 64 [.int .i64 l.nw, .slice xa l.L.length xj, .slice xb l.ats.length xk, .slice xc l.ft.length xm] (w.heap.size) (by simp)).push 64 [.int .i64 0, .slice none 0 0, .slice none 0 0, .slice none 0 0] (w.heap.size + 1) (by simp)).push 24 [.int .i64 0, .int .i64 0, .int .i64 0, .int .i64 0, .slice none 0 0] (w.heap.size + 1 + 1) (by simp)))
  refine (lValid_c l (E1.out.fc 2 rfl) (E1.out.fc 1 rfl) (E1.out.fc 0 rfl) (okOf hv.out) hlen).mono ?_
  rintro e w1 ⟨rfl, hb⟩
  have E2 := Lib.hid (E1.out.below hb)
  clear E0 E1 hb
  have b1 := E2.out.bx 2 rfl
  have c1_0 := b1.cell 0 rfl
  have c1_1 := b1.cell 1 rfl
  have c1_2 := b1.cell 2 rfl
  have c1_3 := b1.cell 3 rfl
  clear b1
  go_wp2_with fail
  refine (first_c l pt (E2.out.fc 2 rfl) (E2.out.fc 1 rfl) (E2.out.fc 0 rfl) hr.out hv.out.1.2.1 (by omega)).mono ?_
  rintro e w2 ⟨rfl, hb⟩
  have E3 := Lib.hid (E2.out.below hb)
  clear c1_0 c1_1 c1_2 c1_3 E2 hb
  have b2 := E3.out.bx 1 rfl
  have c2_0 := b2.cell 0 rfl
  have c2_1 := b2.cell 1 rfl
  have c2_2 := b2.cell 2 rfl
  have c2_3 := b2.cell 3 rfl
  have f2_0 := b2.frozen 0
  have f2_1 := b2.frozen 1
  have f2_2 := b2.frozen 2
  have f2_3 := b2.frozen 3
  clear b2
  have E4 : Hid (Env D w [(w.heap.size + 1 + 1, 24, [.int .i64 0, .int .i64 0, .int .i64 0, .int .i64 0, .slice none 0 0]), (w.heap.size + 1, 64, [.int .i64 0, .slice none 0 0, .slice none 0 0, .slice none 0 0]), (w.heap.size, 64, [.int .i64 l.nw, .slice xa l.L.length xj, .slice xb l.ats.length xk, .slice xc l.ft.length xm])] [.rw (.slice xc l.ft.length xm) l.ft.length 2 (fcl l.ft), .rw (.slice xb l.ats.length xk) l.ats.length 1 (icl l.ats), .ms (.slice xa l.L.length xj) l.L] _) := Lib.hid (((((E3.out.set 1 0 (.int .i64 0) rfl).set 1 1 (.slice none 0 0) rfl).set 1 2 (.slice none 0 0) rfl).set 1 3 (.slice none 0 0) rfl))
  have b3 := E4.out.bx 0 rfl
  have c3_0 := b3.cell 0 rfl
  have c3_1 := b3.cell 1 rfl
  have c3_2 := b3.cell 2 rfl
  have c3_3 := b3.cell 3 rfl
  have c3_4 := b3.cell 4 rfl
  have f3_0 := b3.frozen 0
  have f3_1 := b3.frozen 1
  have f3_2 := b3.frozen 2
  have f3_3 := b3.frozen 3
  have f3_4 := b3.frozen 4
  clear b3
  have E5 : Hid (Env D w [(w.heap.size + 1 + 1, 24, [.int .i64 0, .int .i64 0, .int .i64 0, .int .i64 0, .slice none 0 0]), (w.heap.size + 1, 64, [.int .i64 0, .slice none 0 0, .slice none 0 0, .slice none 0 0]), (w.heap.size, 64, [.int .i64 l.nw, .slice xa l.L.length xj, .slice xb l.ats.length xk, .slice xc l.ft.length xm])] [.rw (.slice xc l.ft.length xm) l.ft.length 2 (fcl l.ft), .rw (.slice xb l.ats.length xk) l.ats.length 1 (icl l.ats), .ms (.slice xa l.L.length xj) l.L] _) := Lib.hid ((((((E4.out.set 0 0 (.int .i64 0) rfl).set 0 1 (.int .i64 0) rfl).set 0 2 (.int .i64 0) rfl).set 0 3 (.int .i64 0) rfl).set 0 4 (.slice none 0 0) rfl))
  have b4 := E5.out.bx 1 rfl
  have c4_0 := b4.cell 0 rfl
  have c4_1 := b4.cell 1 rfl
  have c4_2 := b4.cell 2 rfl
  have c4_3 := b4.cell 3 rfl
  clear b4
  have b5 := E5.out.bx 0 rfl
  have c5_0 := b5.cell 0 rfl
  have c5_1 := b5.cell 1 rfl
  have c5_2 := b5.cell 2 rfl
  have c5_3 := b5.cell 3 rfl
  have c5_4 := b5.cell 4 rfl
  clear b5
  go_wp2
  have hfin := E5.out
  have q6 := (hfin.bx 1 rfl).cell 0 rfl
  have q7 := (hfin.bx 1 rfl).cell 1 rfl
  have q8 := (hfin.bx 1 rfl).cell 2 rfl
  have q9 := (hfin.bx 1 rfl).cell 3 rfl
  have q10 := (hfin.bx 0 rfl).cell 0 rfl
  have q11 := (hfin.bx 0 rfl).cell 1 rfl
  have q12 := (hfin.bx 0 rfl).cell 2 rfl
  have q13 := (hfin.bx 0 rfl).cell 3 rfl
  have q14 := (hfin.bx 0 rfl).cell 4 rfl
  exact bodyPost_ret (v := .tuple #[.agg #[.int .i64 0, .slice none 0 0, .slice none 0 0, .slice none 0 0], .agg #[.int .i64 0, .int .i64 0, .int .i64 0, .int .i64 0, .slice none 0 0], .int .i64 7]) (by simp [results, Try.results36, go_sem, q6, q7, q8, q9, q10, q11, q12, q13, q14]) rfl ⟨⟨_, none, 0, rfl, ⟨_, _, _, _, _, _, rfl, Lib.hid (Ms.nil _ _), Lib.hid (Rw.nil _ _ _), Lib.hid (Rw.nil _ _ _)⟩, Lib.hid (Bs.nil _ _)⟩, hfin.bel⟩
set_option maxRecDepth 100000 in
set_option maxHeartbeats 1000000 in
theorem Receive_ok {D : Nat → Prop} (l : Lin) (pt : Int) (i : Nat) (M : Msg) {xa xb xc : Option Addr} {xj xk xm : Nat} {w : World} (h1 : Fct.at w D (.ms (.slice xa l.L.length xj) l.L)) (h2 : Fct.at w D (.rw (.slice xb l.ats.length xk) l.ats.length 1 (icl l.ats))) (h3 : Fct.at w D (.rw (.slice xc l.ft.length xm) l.ft.length 2 (fcl l.ft))) (hv0 : LinOk l) (hr0 : FirstIs l pt (i : Int)) (hbig0 : (l.L.length ≤ 100000 ∧ l.ats.length ≤ 100000 ∧ l.ft.length ≤ 100000) ∧ ∀ k (h : k < l.L.length), l.L[k].body.length ≤ 1000000) (hlen : l.ats.length ≤ 1000000) (hiL : i < l.L.length) (hMi0 : l.L[i] = M) :
    Calls Try.prog 36 #[.agg #[.int .i64 l.nw, .slice xa l.L.length xj, .slice xb l.ats.length xk, .slice xc l.ft.length xm], .int .i64 pt] w fun e w' => RetLME (fun b => D b ∨ w.heap.size ≤ b) (recvL l i) M 0 e w' ∧ Below w.heap.size w w' := by
  have E0 := Lib.hid ((((Env.start D w).arg (.ms (.slice xa l.L.length xj) l.L) h1).arg (.rw (.slice xb l.ats.length xk) l.ats.length 1 (icl l.ats)) h2).arg (.rw (.slice xc l.ft.length xm) l.ft.length 2 (fcl l.ft)) h3)
  clear h1 h2 h3
  go_enter Try.func36, Try.ntmps36
  have hv := Lib.hid hv0
  have hr := Lib.hid hr0
  have hbig := Lib.hid hbig0
  clear hv0 hr0 hbig0
  have hMi := Lib.hid hMi0
  clear hMi0
  obtain ⟨l1, l2⟩ : l.L.length ≤ 1000 ∧ l.ats.length ≤ 1000 := by obtain ⟨⟨_, h1, h2, _⟩, _⟩ := hv.out; omega
  go_wp2_with fail
  have E1 := Lib.hid ((((E0.out.push 64 [.int .i64 l.nw, .slice xa l.L.length xj, .slice xb l.ats.length xk, .slice xc l.ft.length xm] (w.heap.size) (by simp)).push 64 [.int .i64 0, .slice none 0 0, .slice none 0 0, .slice none 0 0] (w.heap.size + 1) (by simp)).push 24 [.int .i64 0, .int .i64 0, .int .i64 0, .int .i64 0, .slice none 0 0] (w.heap.size + 1 + 1) (by simp)))
  refine (lValid_c l (E1.out.fc 2 rfl) (E1.out.fc 1 rfl) (E1.out.fc 0 rfl) (okOf hv.out) hlen).mono ?_
  rintro e w1 ⟨rfl, hb⟩
  have E2 := Lib.hid (E1.out.below hb)
  clear E0 E1 hb
  have b1 := E2.out.bx 2 rfl
  have c1_0 := b1.cell 0 rfl
  have c1_1 := b1.cell 1 rfl
  have c1_2 := b1.cell 2 rfl
  have c1_3 := b1.cell 3 rfl
  clear b1
  go_wp2_with fail
  refine (first_c l pt (E2.out.fc 2 rfl) (E2.out.fc 1 rfl) (E2.out.fc 0 rfl) hr.out hv.out.1.2.1 (by omega)).mono ?_
  rintro e w2 ⟨rfl, hb⟩
  have E3 := Lib.hid (E2.out.below hb)
  clear c1_0 c1_1 c1_2 c1_3 E2 hb
  have t1 : decide ((i : Int) < 0) = false := decide_eq_false (by omega)
  have b2 := E3.out.bx 2 rfl
  have c2_0 := b2.cell 0 rfl
  have c2_1 := b2.cell 1 rfl
  have c2_2 := b2.cell 2 rfl
  have c2_3 := b2.cell 3 rfl
  clear b2
  go_wp2_with fail
  refine (cloned_c l (E3.out.fc 2 rfl) (E3.out.fc 1 rfl) (E3.out.fc 0 rfl) hbig.out.1 hbig.out.2).mono ?_
  rintro e w3 ⟨⟨sgA, csA, aa, ak, sgL, csL, la, lj, fa, fk, rfl, hOI, hLS, hHe, hFa, hMc⟩, hb⟩
  have E4 : Hid (Env D w ((w.heap.size + 1 + 1, 24, [.int .i64 0, .int .i64 0, .int .i64 0, .int .i64 0, .slice none 0 0]) :: (w.heap.size + 1, 64, [.int .i64 0, .slice none 0 0, .slice none 0 0, .slice none 0 0]) :: (w.heap.size, 64, [.int .i64 l.nw, .slice xa l.L.length xj, .slice xb l.ats.length xk, .slice xc l.ft.length xm]) :: (sgA ++ sgL)) [.mc csL (l.L), .rw (.slice fa l.ft.length fk) l.ft.length 2 (fcl l.ft), .rw (.slice xc l.ft.length xm) l.ft.length 2 (fcl l.ft), .rw (.slice xb l.ats.length xk) l.ats.length 1 (icl l.ats), .ms (.slice xa l.L.length xj) l.L] w3) := Lib.hid ((E3.out.gotSegF (E3.out.gotSegF (E3.out.gotSeg hb hHe.out) (.rw (.slice fa l.ft.length fk) l.ft.length 2 (fcl l.ft)) hFa.out) (.mc csL (l.L)) hMc.out).cast (by simp))
  clear c2_0 c2_1 c2_2 c2_3 E3 hb
  clear hFa hMc hHe
  go_upto_region 7 with (fail)
  have E5 := Lib.hid ((E4.out.push 64 [.int .i64 l.nw, .slice la l.L.length lj, .slice aa l.ats.length ak, .slice fa l.ft.length fk] (w3.heap.size) (by simp)))
  clear E4
  generalize w3.alloc (.cells #[.int .i64 l.nw, .slice la l.L.length lj, .slice aa l.ats.length ak, .slice fa l.ft.length fk] 64) = w4 at *
  obtain ⟨m, em⟩ : ∃ m, Hid (l.L.length = m + 1) := ⟨l.L.length - 1, Lib.hid (by omega)⟩
  have em2 : Hid (l.ats.length = m + 1) := Lib.hid (by have := em.out; have := hv.out.1.2.1; omega)
  obtain ⟨lg, rfl, rfl⟩ := hLS.out.box (by omega)
  obtain ⟨m0, m1, m2, m3, ea, ek, m4, hbk⟩ := E5.out.fc 0 rfl i hiL
  rw [hMi.out] at m0 m1 m2 m3 m4 hbk
  have E6 := Lib.hid (E5.out.note (.bs (.slice ea M.body.length ek) M.body) hbk)
  clear E5 hbk
  have hB := E6.out.inBox (g := lg) (T := 24) (cs := csL) (by simp)
  have u0 := hB.cell (i * 5) m0
  have u1 := hB.cell (i * 5 + 1) m1
  have u2 := hB.cell (i * 5 + 2) m2
  have u3 := hB.cell (i * 5 + 3) m3
  have u4 := hB.cell (i * 5 + 4) m4
  clear hB m0 m1 m2 m3 m4
  have ti : decide ((i : Int) < (l.L.length : Int)) = true := decide_eq_true (by omega)
  have ti2 : decide (i < l.L.length) = true := decide_eq_true hiL
  have b3 := E6.out.bx 0 rfl
  have c3_1 := b3.cell 1 rfl
  clear b3
  have wi : IntKind.i64.wrap ((i : Int) + 1) = (i : Int) + 1 := by rw [IntKind.wrap_i64]; omega
  go_wp2_with fail
  have E7 := Lib.hid ((E6.out.push 24 [.int .i64 M.fr, .int .i64 M.to_, .int .i64 M.kd, .int .i64 M.nm, .slice ea M.body.length ek] (w4.heap.size) (by simp)))
  clear u0 u1 u2 u3 u4 c3_1 E6
  generalize w4.alloc (.cells #[.int .i64 M.fr, .int .i64 M.to_, .int .i64 M.kd, .int .i64 M.nm, .slice ea M.body.length ek] 24) = w5 at *
  have E8 := Lib.hid E7.out.drew
  clear E7
  refine wp_regionU (S := fun w' => w'.cell? ⟨w3.heap.size, 1, none⟩ = some (.slice (some ⟨lg, 0, none⟩) l.L.length lj) ∧ w'.cell? ⟨w3.heap.size, 2, none⟩ = some (.slice aa l.ats.length ak)) [8, 9, 10, 13, 14, 15] (by kernel_rfl) (⟨((E8.out.bx 1 rfl).cell 1 rfl), ((E8.out.bx 1 rfl).cell 2 rfl)⟩) (fun hHeld => ?_)
  generalize w5.drew = w6 at *
  refine uPure (i := 8) (some 37) (v := ?_) rfl rfl (by kernel_rfl) (by kernel_rfl) (by kernel_rfl) (by kernel_rfl) (fun _ _ _ h => h) (by rfl) ?_ ?_
  rotate_left
  · (intro wS; go_simp; try with_reducible rfl)
  try simp only [Act.put, List.setIfInBounds_toArray, List.set_cons_zero, List.set_cons_succ]
  refine uPure (i := 9) (some 38) (v := ?_) rfl rfl (by kernel_rfl) (by kernel_rfl) (by kernel_rfl) (by kernel_rfl) (fun _ _ _ h => h) (by rfl) ?_ ?_
  rotate_left
  · (intro wS; go_simp; try with_reducible rfl)
  try simp only [Act.put, List.setIfInBounds_toArray, List.set_cons_zero, List.set_cons_succ]
  refine uPure (i := 10) (some 39) (v := .int .i64 ((i : Int) + 1)) rfl rfl (by kernel_rfl) (by kernel_rfl) (by kernel_rfl) (by kernel_rfl) (fun _ _ _ h => h) (by rfl) ?_ ?_
  · (intro wS; go_simp; try simp [*])
  try simp only [Act.put, List.setIfInBounds_toArray, List.set_cons_zero, List.set_cons_succ]
  refine uTake (i := 0) (some 29) (v := ?_) rfl rfl (by kernel_rfl) (by kernel_rfl) (by kernel_rfl) (by kernel_rfl) (fun _ _ _ h => h) (by rfl) (by assumption) ?_ ?_
  rotate_left
  · (intro wS hSw; (try dsimp only at hSw); go_simp; try with_reducible rfl)
  try simp only [Act.put, List.setIfInBounds_toArray, List.set_cons_zero, List.set_cons_succ]
  refine uTake (i := 1) (some 30) (v := ?_) rfl rfl (by kernel_rfl) (by kernel_rfl) (by kernel_rfl) (by kernel_rfl) (fun _ _ _ h => h) (by rfl) (by assumption) ?_ ?_
  rotate_left
  · (intro wS hSw; (try dsimp only at hSw); go_simp; try with_reducible rfl)
  try simp only [Act.put, List.setIfInBounds_toArray, List.set_cons_zero, List.set_cons_succ]
  refine uTake (i := 2) (some 31) (v := ?_) rfl rfl (by kernel_rfl) (by kernel_rfl) (by kernel_rfl) (by kernel_rfl) (fun _ _ _ h => h) (by rfl) (by assumption) ?_ ?_
  rotate_left
  · (intro wS hSw; (try dsimp only at hSw); go_simp; try with_reducible rfl)
  try simp only [Act.put, List.setIfInBounds_toArray, List.set_cons_zero, List.set_cons_succ]
  refine uTake (i := 3) (some 32) (v := ?_) rfl rfl (by kernel_rfl) (by kernel_rfl) (by kernel_rfl) (by kernel_rfl) (fun _ _ _ h => h) (by rfl) (by assumption) ?_ ?_
  rotate_left
  · (intro wS hSw; (try dsimp only at hSw); go_simp; try with_reducible rfl)
  try simp only [Act.put, List.setIfInBounds_toArray, List.set_cons_zero, List.set_cons_succ]
  refine uTake (i := 4) (some 33) (v := .int .i64 ((i : Int) + 1)) rfl rfl (by kernel_rfl) (by kernel_rfl) (by kernel_rfl) (by kernel_rfl) (fun _ _ _ h => h) (by rfl) (by assumption) ?_ ?_
  · (intro wS hSw; (try dsimp only at hSw); go_simp; try simp [*])
  try simp only [Act.put, List.setIfInBounds_toArray, List.set_cons_zero, List.set_cons_succ]
  refine uTake (i := 6) (some 35) (v := ?_) rfl rfl (by kernel_rfl) (by kernel_rfl) (by kernel_rfl) (by kernel_rfl) (fun _ _ _ h => h) (by rfl) (by assumption) ?_ ?_
  rotate_left
  · (intro wS hSw; (try dsimp only at hSw); go_simp; try with_reducible rfl)
  try simp only [Act.put, List.setIfInBounds_toArray, List.set_cons_zero, List.set_cons_succ]
  refine uTake (i := 7) (some 36) (v := ?_) rfl rfl (by kernel_rfl) (by kernel_rfl) (by kernel_rfl) (by kernel_rfl) (fun _ _ _ h => h) (by rfl) (by assumption) ?_ ?_
  rotate_left
  · (intro wS hSw; (try dsimp only at hSw); go_simp; try with_reducible rfl)
  try simp only [Act.put, List.setIfInBounds_toArray, List.set_cons_zero, List.set_cons_succ]
  refine uReady (rs := [5]) (by kernel_rfl) (by simp) ?_
  refine ReadyU.cons rfl (fun KK hKK => ?_) ReadyU.nil
  go_simp
  refine (deleteL_env (i := i) (m := m) E8.out (A := ((w4.heap.size, 24, [.int .i64 M.fr, .int .i64 M.to_, .int .i64 M.kd, .int .i64 M.nm, .slice ea M.body.length ek]) :: (w3.heap.size, 64, [.int .i64 l.nw, .slice (some ⟨lg, 0, none⟩) l.L.length lj, .slice aa l.ats.length ak, .slice fa l.ft.length fk]) :: (w.heap.size + 1 + 1, 24, [.int .i64 0, .int .i64 0, .int .i64 0, .int .i64 0, .slice none 0 0]) :: (w.heap.size + 1, 64, [.int .i64 0, .slice none 0 0, .slice none 0 0, .slice none 0 0]) :: (w.heap.size, 64, [.int .i64 l.nw, .slice xa l.L.length xj, .slice xb l.ats.length xk, .slice xc l.ft.length xm]) :: sgA)) (sg := [(lg, 24, csL)]) (B' := []) (F := ((w4.heap.size, 24, [.int .i64 M.fr, .int .i64 M.to_, .int .i64 M.kd, .int .i64 M.nm, .slice ea M.body.length ek]) :: (w3.heap.size, 64, [.int .i64 l.nw, .slice (some ⟨lg, 0, none⟩) l.L.length lj, .slice aa l.ats.length ak, .slice fa l.ft.length fk]) :: (w.heap.size + 1 + 1, 24, [.int .i64 0, .int .i64 0, .int .i64 0, .int .i64 0, .slice none 0 0]) :: (w.heap.size + 1, 64, [.int .i64 0, .slice none 0 0, .slice none 0 0, .slice none 0 0]) :: (w.heap.size, 64, [.int .i64 l.nw, .slice xa l.L.length xj, .slice xb l.ats.length xk, .slice xc l.ft.length xm]) :: (sgA ++ [(lg, 24, csL)]))) (by simp) hLS.out (E8.out.fc 1 rfl) em.out (by have := em.out; omega)).mono ?_
  rintro e w7 ⟨yg, yp, yc, rfl, yO, yE⟩
  have E9 : Hid (Env D w ((w4.heap.size, 24, [.int .i64 M.fr, .int .i64 M.to_, .int .i64 M.kd, .int .i64 M.nm, .slice ea M.body.length ek]) :: (w3.heap.size, 64, [.int .i64 l.nw, .slice (some ⟨lg, 0, none⟩) l.L.length lj, .slice aa l.ats.length ak, .slice fa l.ft.length fk]) :: (w.heap.size + 1 + 1, 24, [.int .i64 0, .int .i64 0, .int .i64 0, .int .i64 0, .slice none 0 0]) :: (w.heap.size + 1, 64, [.int .i64 0, .slice none 0 0, .slice none 0 0, .slice none 0 0]) :: (w.heap.size, 64, [.int .i64 l.nw, .slice xa l.L.length xj, .slice xb l.ats.length xk, .slice xc l.ft.length xm]) :: (sgA ++ [(yg, 24, yc)])) [.mc yc (l.L.eraseIdx i), .bs (.slice ea M.body.length ek) M.body, .mc csL (l.L), .rw (.slice fa l.ft.length fk) l.ft.length 2 (fcl l.ft), .rw (.slice xc l.ft.length xm) l.ft.length 2 (fcl l.ft), .rw (.slice xb l.ats.length xk) l.ats.length 1 (icl l.ats), .ms (.slice xa l.L.length xj) l.L] w7) := Lib.hid (yE.out.cast (by simp))
  clear E8 yE
  (try dsimp only)
  clear hHeld
  refine hKK.out _ _ (⟨((E9.out.bx 1 rfl).cell 1 rfl), ((E9.out.bx 1 rfl).cell 2 rfl)⟩) (fun hHeld => ?_)
  clear hKK KK
  try simp only [Act.put, List.setIfInBounds_toArray, List.set_cons_zero, List.set_cons_succ]
  refine uTake (i := 12) (some 41) (v := ?_) rfl rfl (by kernel_rfl) (by kernel_rfl) (by kernel_rfl) (by kernel_rfl) (fun _ _ _ h => h) (by rfl) (by assumption) ?_ ?_
  rotate_left
  · (intro wS hSw; (try dsimp only at hSw); go_simp; try with_reducible rfl)
  try simp only [Act.put, List.setIfInBounds_toArray, List.set_cons_zero, List.set_cons_succ]
  refine uReady (rs := [11]) (by kernel_rfl) (by simp) ?_
  refine ReadyU.cons rfl (fun KK hKK => ?_) ReadyU.nil
  go_simp
  refine (deleteI_env (i := i) (m := m) E9.out (A := [(w4.heap.size, 24, [.int .i64 M.fr, .int .i64 M.to_, .int .i64 M.kd, .int .i64 M.nm, .slice ea M.body.length ek]), (w3.heap.size, 64, [.int .i64 l.nw, .slice (some ⟨lg, 0, none⟩) l.L.length lj, .slice aa l.ats.length ak, .slice fa l.ft.length fk]), (w.heap.size + 1 + 1, 24, [.int .i64 0, .int .i64 0, .int .i64 0, .int .i64 0, .slice none 0 0]), (w.heap.size + 1, 64, [.int .i64 0, .slice none 0 0, .slice none 0 0, .slice none 0 0]), (w.heap.size, 64, [.int .i64 l.nw, .slice xa l.L.length xj, .slice xb l.ats.length xk, .slice xc l.ft.length xm])]) (sg := sgA) (B' := [(yg, 24, yc)]) (F := ((w4.heap.size, 24, [.int .i64 M.fr, .int .i64 M.to_, .int .i64 M.kd, .int .i64 M.nm, .slice ea M.body.length ek]) :: (w3.heap.size, 64, [.int .i64 l.nw, .slice (some ⟨lg, 0, none⟩) l.L.length lj, .slice aa l.ats.length ak, .slice fa l.ft.length fk]) :: (w.heap.size + 1 + 1, 24, [.int .i64 0, .int .i64 0, .int .i64 0, .int .i64 0, .slice none 0 0]) :: (w.heap.size + 1, 64, [.int .i64 0, .slice none 0 0, .slice none 0 0, .slice none 0 0]) :: (w.heap.size, 64, [.int .i64 l.nw, .slice xa l.L.length xj, .slice xb l.ats.length xk, .slice xc l.ft.length xm]) :: (sgA ++ [(yg, 24, yc)]))) (by simp) hOI.out em2.out (by have := em.out; omega)).mono ?_
  rintro e w8 ⟨zg, zp, zc, rfl, zO, zE⟩
  have E10 : Hid (Env D w ((w4.heap.size, 24, [.int .i64 M.fr, .int .i64 M.to_, .int .i64 M.kd, .int .i64 M.nm, .slice ea M.body.length ek]) :: (w3.heap.size, 64, [.int .i64 l.nw, .slice (some ⟨lg, 0, none⟩) l.L.length lj, .slice aa l.ats.length ak, .slice fa l.ft.length fk]) :: (w.heap.size + 1 + 1, 24, [.int .i64 0, .int .i64 0, .int .i64 0, .int .i64 0, .slice none 0 0]) :: (w.heap.size + 1, 64, [.int .i64 0, .slice none 0 0, .slice none 0 0, .slice none 0 0]) :: (w.heap.size, 64, [.int .i64 l.nw, .slice xa l.L.length xj, .slice xb l.ats.length xk, .slice xc l.ft.length xm]) :: ((zg, 3, zc) :: [(yg, 24, yc)])) [.mc yc (l.L.eraseIdx i), .bs (.slice ea M.body.length ek) M.body, .mc csL (l.L), .rw (.slice fa l.ft.length fk) l.ft.length 2 (fcl l.ft), .rw (.slice xc l.ft.length xm) l.ft.length 2 (fcl l.ft), .rw (.slice xb l.ats.length xk) l.ats.length 1 (icl l.ats), .ms (.slice xa l.L.length xj) l.L] w8) := Lib.hid (zE.out.cast (by simp))
  clear E9 zE
  (try dsimp only)
  clear hHeld
  refine hKK.out _ _ (⟨((E10.out.bx 1 rfl).cell 1 rfl), ((E10.out.bx 1 rfl).cell 2 rfl)⟩) (fun hHeld => ?_)
  clear hKK KK
  try simp only [Act.put, List.setIfInBounds_toArray, List.set_cons_zero, List.set_cons_succ]
  have b4 := E10.out.bx 1 rfl
  have c4_1 := b4.cell 1 rfl
  have f4_1 := b4.frozen 1
  clear b4
  refine uReady (rs := [13]) (by kernel_rfl) (by simp) ?_
  refine ReadyU.consU (by kernel_rfl) rfl (fun KK hKK => ?_) ReadyU.nil
  go_simp
  have E11 : Hid (Env D w ((w4.heap.size, 24, [.int .i64 M.fr, .int .i64 M.to_, .int .i64 M.kd, .int .i64 M.nm, .slice ea M.body.length ek]) :: (w3.heap.size, 64, [.int .i64 l.nw, .slice (some ⟨yg, 0, none⟩) (m) yp, .slice aa l.ats.length ak, .slice fa l.ft.length fk]) :: (w.heap.size + 1 + 1, 24, [.int .i64 0, .int .i64 0, .int .i64 0, .int .i64 0, .slice none 0 0]) :: (w.heap.size + 1, 64, [.int .i64 0, .slice none 0 0, .slice none 0 0, .slice none 0 0]) :: (w.heap.size, 64, [.int .i64 l.nw, .slice xa l.L.length xj, .slice xb l.ats.length xk, .slice xc l.ft.length xm]) :: ((zg, 3, zc) :: [(yg, 24, yc)])) [.mc yc (l.L.eraseIdx i), .bs (.slice ea M.body.length ek) M.body, .mc csL (l.L), .rw (.slice fa l.ft.length fk) l.ft.length 2 (fcl l.ft), .rw (.slice xc l.ft.length xm) l.ft.length 2 (fcl l.ft), .rw (.slice xb l.ats.length xk) l.ats.length 1 (icl l.ats), .ms (.slice xa l.L.length xj) l.L] _) := Lib.hid ((E10.out.set 1 1 (.slice (some ⟨yg, 0, none⟩) (m) yp) rfl))
  (try dsimp only)
  (try clear hHeld)
  refine hKK.out _ _ ?_
  clear hKK KK
  try simp only [Act.put, List.setIfInBounds_toArray, List.set_cons_zero, List.set_cons_succ]
  refine uPure (i := 14) (some 42) (v := ?_) rfl rfl (by kernel_rfl) (by kernel_rfl) (by kernel_rfl) (by kernel_rfl) (fun _ _ _ h => h) (by rfl) ?_ ?_
  rotate_left
  · (intro wS; go_simp; try with_reducible rfl)
  try simp only [Act.put, List.setIfInBounds_toArray, List.set_cons_zero, List.set_cons_succ]
  have b5 := E11.out.bx 1 rfl
  have c5_2 := b5.cell 2 rfl
  have f5_2 := b5.frozen 2
  clear b5
  refine uReady (rs := [15]) (by kernel_rfl) (by simp) ?_
  refine ReadyU.consU (by kernel_rfl) rfl (fun KK hKK => ?_) ReadyU.nil
  go_simp
  have E12 : Hid (Env D w ((w4.heap.size, 24, [.int .i64 M.fr, .int .i64 M.to_, .int .i64 M.kd, .int .i64 M.nm, .slice ea M.body.length ek]) :: (w3.heap.size, 64, [.int .i64 l.nw, .slice (some ⟨yg, 0, none⟩) (m) yp, .slice (some ⟨zg, 0, none⟩) (m) zp, .slice fa l.ft.length fk]) :: (w.heap.size + 1 + 1, 24, [.int .i64 0, .int .i64 0, .int .i64 0, .int .i64 0, .slice none 0 0]) :: (w.heap.size + 1, 64, [.int .i64 0, .slice none 0 0, .slice none 0 0, .slice none 0 0]) :: (w.heap.size, 64, [.int .i64 l.nw, .slice xa l.L.length xj, .slice xb l.ats.length xk, .slice xc l.ft.length xm]) :: ((zg, 3, zc) :: [(yg, 24, yc)])) [.mc yc (l.L.eraseIdx i), .bs (.slice ea M.body.length ek) M.body, .mc csL (l.L), .rw (.slice fa l.ft.length fk) l.ft.length 2 (fcl l.ft), .rw (.slice xc l.ft.length xm) l.ft.length 2 (fcl l.ft), .rw (.slice xb l.ats.length xk) l.ats.length 1 (icl l.ats), .ms (.slice xa l.L.length xj) l.L] _) := Lib.hid ((E11.out.set 1 2 (.slice (some ⟨zg, 0, none⟩) (m) zp) rfl))
  (try dsimp only)
  (try clear hHeld)
  refine hKK.out _ _ ?_
  clear hKK KK
  try simp only [Act.put, List.setIfInBounds_toArray, List.set_cons_zero, List.set_cons_succ]
  refine uDone (by kernel_rfl) ?_ _
  go_wp2_with fail
  clear c4_1 f4_1 c5_2 f5_2 E10 E11
  generalize (w8.setCell ⟨w3.heap.size, 1, none⟩ (.slice (some ⟨yg, 0, none⟩) (m) yp)).setCell ⟨w3.heap.size, 2, none⟩ (.slice (some ⟨zg, 0, none⟩) (m) zp) = w9 at *
  have E13 := Lib.hid E12.out.drew
  clear E12
  refine wp_regionU (S := fun w' => w'.cell? ⟨w3.heap.size, 0, none⟩ = some (.int .i64 l.nw) ∧ w'.cell? ⟨w3.heap.size, 1, none⟩ = some (.slice (some ⟨yg, 0, none⟩) (m) yp) ∧ w'.cell? ⟨w3.heap.size, 2, none⟩ = some (.slice (some ⟨zg, 0, none⟩) (m) zp) ∧ w'.cell? ⟨w3.heap.size, 3, none⟩ = some (.slice fa l.ft.length fk) ∧ w'.cell? ⟨w4.heap.size, 0, none⟩ = some (.int .i64 M.fr) ∧ w'.cell? ⟨w4.heap.size, 1, none⟩ = some (.int .i64 M.to_) ∧ w'.cell? ⟨w4.heap.size, 2, none⟩ = some (.int .i64 M.kd) ∧ w'.cell? ⟨w4.heap.size, 3, none⟩ = some (.int .i64 M.nm) ∧ w'.cell? ⟨w4.heap.size, 4, none⟩ = some (.slice ea M.body.length ek)) [] (by kernel_rfl) (⟨((E13.out.bx 1 rfl).cell 0 rfl), ((E13.out.bx 1 rfl).cell 1 rfl), ((E13.out.bx 1 rfl).cell 2 rfl), ((E13.out.bx 1 rfl).cell 3 rfl), ((E13.out.bx 0 rfl).cell 0 rfl), ((E13.out.bx 0 rfl).cell 1 rfl), ((E13.out.bx 0 rfl).cell 2 rfl), ((E13.out.bx 0 rfl).cell 3 rfl), ((E13.out.bx 0 rfl).cell 4 rfl)⟩) (fun hHeld => ?_)
  generalize w9.drew = w10 at *
  refine uTake (i := 0) (some 43) (v := ?_) rfl rfl (by kernel_rfl) (by kernel_rfl) (by kernel_rfl) (by kernel_rfl) (fun _ _ _ h => h) (by rfl) (by assumption) ?_ ?_
  rotate_left
  · (intro wS hSw; (try dsimp only at hSw); go_simp; try with_reducible rfl)
  try simp only [Act.put, List.setIfInBounds_toArray, List.set_cons_zero, List.set_cons_succ]
  refine uTake (i := 1) (some 44) (v := ?_) rfl rfl (by kernel_rfl) (by kernel_rfl) (by kernel_rfl) (by kernel_rfl) (fun _ _ _ h => h) (by rfl) (by assumption) ?_ ?_
  rotate_left
  · (intro wS hSw; (try dsimp only at hSw); go_simp; try with_reducible rfl)
  try simp only [Act.put, List.setIfInBounds_toArray, List.set_cons_zero, List.set_cons_succ]
  have b6 := E13.out.bx 3 rfl
  have c6_0 := b6.cell 0 rfl
  have c6_1 := b6.cell 1 rfl
  have c6_2 := b6.cell 2 rfl
  have c6_3 := b6.cell 3 rfl
  have f6_0 := b6.frozen 0
  have f6_1 := b6.frozen 1
  have f6_2 := b6.frozen 2
  have f6_3 := b6.frozen 3
  clear b6
  refine uReady (rs := [2]) (by kernel_rfl) (by simp) ?_
  refine ReadyU.cons rfl (fun KK hKK => ?_) ReadyU.nil
  go_simp
  have E14 : Hid (Env D w ((w4.heap.size, 24, [.int .i64 M.fr, .int .i64 M.to_, .int .i64 M.kd, .int .i64 M.nm, .slice ea M.body.length ek]) :: (w3.heap.size, 64, [.int .i64 l.nw, .slice (some ⟨yg, 0, none⟩) (m) yp, .slice (some ⟨zg, 0, none⟩) (m) zp, .slice fa l.ft.length fk]) :: (w.heap.size + 1 + 1, 24, [.int .i64 0, .int .i64 0, .int .i64 0, .int .i64 0, .slice none 0 0]) :: (w.heap.size + 1, 64, [.int .i64 l.nw, .slice (some ⟨yg, 0, none⟩) (m) yp, .slice (some ⟨zg, 0, none⟩) (m) zp, .slice fa l.ft.length fk]) :: (w.heap.size, 64, [.int .i64 l.nw, .slice xa l.L.length xj, .slice xb l.ats.length xk, .slice xc l.ft.length xm]) :: ((zg, 3, zc) :: [(yg, 24, yc)])) [.mc yc (l.L.eraseIdx i), .bs (.slice ea M.body.length ek) M.body, .mc csL (l.L), .rw (.slice fa l.ft.length fk) l.ft.length 2 (fcl l.ft), .rw (.slice xc l.ft.length xm) l.ft.length 2 (fcl l.ft), .rw (.slice xb l.ats.length xk) l.ats.length 1 (icl l.ats), .ms (.slice xa l.L.length xj) l.L] _) := Lib.hid (((((E13.out.set 3 0 (.int .i64 l.nw) rfl).set 3 1 (.slice (some ⟨yg, 0, none⟩) (m) yp) rfl).set 3 2 (.slice (some ⟨zg, 0, none⟩) (m) zp) rfl).set 3 3 (.slice fa l.ft.length fk) rfl))
  (try dsimp only)
  clear hHeld
  refine hKK.out _ _ (⟨((E14.out.bx 1 rfl).cell 0 rfl), ((E14.out.bx 1 rfl).cell 1 rfl), ((E14.out.bx 1 rfl).cell 2 rfl), ((E14.out.bx 1 rfl).cell 3 rfl), ((E14.out.bx 0 rfl).cell 0 rfl), ((E14.out.bx 0 rfl).cell 1 rfl), ((E14.out.bx 0 rfl).cell 2 rfl), ((E14.out.bx 0 rfl).cell 3 rfl), ((E14.out.bx 0 rfl).cell 4 rfl)⟩) (fun hHeld => ?_)
  clear hKK KK
  try simp only [Act.put, List.setIfInBounds_toArray, List.set_cons_zero, List.set_cons_succ]
  have b7 := E14.out.bx 2 rfl
  have c7_0 := b7.cell 0 rfl
  have c7_1 := b7.cell 1 rfl
  have c7_2 := b7.cell 2 rfl
  have c7_3 := b7.cell 3 rfl
  have c7_4 := b7.cell 4 rfl
  have f7_0 := b7.frozen 0
  have f7_1 := b7.frozen 1
  have f7_2 := b7.frozen 2
  have f7_3 := b7.frozen 3
  have f7_4 := b7.frozen 4
  clear b7
  refine uReady (rs := [3]) (by kernel_rfl) (by simp) ?_
  refine ReadyU.cons rfl (fun KK hKK => ?_) ReadyU.nil
  go_simp
  have E15 : Hid (Env D w ((w4.heap.size, 24, [.int .i64 M.fr, .int .i64 M.to_, .int .i64 M.kd, .int .i64 M.nm, .slice ea M.body.length ek]) :: (w3.heap.size, 64, [.int .i64 l.nw, .slice (some ⟨yg, 0, none⟩) (m) yp, .slice (some ⟨zg, 0, none⟩) (m) zp, .slice fa l.ft.length fk]) :: (w.heap.size + 1 + 1, 24, [.int .i64 M.fr, .int .i64 M.to_, .int .i64 M.kd, .int .i64 M.nm, .slice ea M.body.length ek]) :: (w.heap.size + 1, 64, [.int .i64 l.nw, .slice (some ⟨yg, 0, none⟩) (m) yp, .slice (some ⟨zg, 0, none⟩) (m) zp, .slice fa l.ft.length fk]) :: (w.heap.size, 64, [.int .i64 l.nw, .slice xa l.L.length xj, .slice xb l.ats.length xk, .slice xc l.ft.length xm]) :: ((zg, 3, zc) :: [(yg, 24, yc)])) [.mc yc (l.L.eraseIdx i), .bs (.slice ea M.body.length ek) M.body, .mc csL (l.L), .rw (.slice fa l.ft.length fk) l.ft.length 2 (fcl l.ft), .rw (.slice xc l.ft.length xm) l.ft.length 2 (fcl l.ft), .rw (.slice xb l.ats.length xk) l.ats.length 1 (icl l.ats), .ms (.slice xa l.L.length xj) l.L] _) := Lib.hid ((((((E14.out.set 2 0 (.int .i64 M.fr) rfl).set 2 1 (.int .i64 M.to_) rfl).set 2 2 (.int .i64 M.kd) rfl).set 2 3 (.int .i64 M.nm) rfl).set 2 4 (.slice ea M.body.length ek) rfl))
  (try dsimp only)
  clear hHeld
  refine hKK.out _ _ (⟨((E15.out.bx 1 rfl).cell 0 rfl), ((E15.out.bx 1 rfl).cell 1 rfl), ((E15.out.bx 1 rfl).cell 2 rfl), ((E15.out.bx 1 rfl).cell 3 rfl), ((E15.out.bx 0 rfl).cell 0 rfl), ((E15.out.bx 0 rfl).cell 1 rfl), ((E15.out.bx 0 rfl).cell 2 rfl), ((E15.out.bx 0 rfl).cell 3 rfl), ((E15.out.bx 0 rfl).cell 4 rfl)⟩) (fun hHeld => ?_)
  clear hKK KK
  try simp only [Act.put, List.setIfInBounds_toArray, List.set_cons_zero, List.set_cons_succ]
  refine uTake (i := 4) (some 6) (v := ?_) rfl rfl (by kernel_rfl) (by kernel_rfl) (by kernel_rfl) (by kernel_rfl) (fun _ _ _ h => h) (by rfl) (by assumption) ?_ ?_
  rotate_left
  · (intro wS hSw; (try dsimp only at hSw); go_simp; try with_reducible rfl)
  try simp only [Act.put, List.setIfInBounds_toArray, List.set_cons_zero, List.set_cons_succ]
  refine uDone (by kernel_rfl) ?_ _
  go_wp2
  have hfin := E15.out
  have q8 := (hfin.bx 3 rfl).cell 0 rfl
  have q9 := (hfin.bx 3 rfl).cell 1 rfl
  have q10 := (hfin.bx 3 rfl).cell 2 rfl
  have q11 := (hfin.bx 3 rfl).cell 3 rfl
  have q12 := (hfin.bx 2 rfl).cell 0 rfl
  have q13 := (hfin.bx 2 rfl).cell 1 rfl
  have q14 := (hfin.bx 2 rfl).cell 2 rfl
  have q15 := (hfin.bx 2 rfl).cell 3 rfl
  have q16 := (hfin.bx 2 rfl).cell 4 rfl
  refine bodyPost_ret (v := .tuple #[.agg #[.int .i64 l.nw, .slice (some ⟨yg, 0, none⟩) m yp, .slice (some ⟨zg, 0, none⟩) m zp, .slice fa l.ft.length fk], .agg #[.int .i64 M.fr, .int .i64 M.to_, .int .i64 M.kd, .int .i64 M.nm, .slice ea M.body.length ek], .int .i64 0]) (by simp [results, Try.results36, go_sem, q8, q9, q10, q11, q12, q13, q14, q15, q16]) rfl ?_
  have hle : (l.L.eraseIdx i).length = m := by rw [List.length_eraseIdx, if_pos hiL]; have := em.out; omega
  have hle2 : (l.ats.eraseIdx i).length = m := by rw [List.length_eraseIdx, if_pos (by have := em.out; have := em2.out; omega)]; have := em2.out; omega
  exact ⟨⟨_, ea, ek, rfl, RetL.mk rfl hle hle2 rfl (yO.out.ms hfin (by intro p hp; simp only [List.mem_singleton] at hp; subst hp; simp) (hfin.fc 0 rfl)) (zO.out.rw hfin (by intro p hp; simp only [List.mem_singleton] at hp; subst hp; simp)) (hfin.out 3 rfl), Lib.hid (hfin.out 1 rfl)⟩, hfin.bel⟩
end Go.Proofs.Ytbcfcdcomboljaa

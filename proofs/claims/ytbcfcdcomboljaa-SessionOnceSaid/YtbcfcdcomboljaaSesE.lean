/- session.copyAll of a session without answers. -/
import Derived.Test.YtbcfcdcomboljaaSesN
namespace Go.Proofs.Ytbcfcdcomboljaa
open Go.RowKit
set_option linter.unusedVariables false
set_option maxHeartbeats 2000000 in
set_option maxRecDepth 100000 in
/-- slices.Clone of a list of no element that is not nil, whatever its address: a row of the call's own comes back -/
theorem cloneM_o {a : Addr} {c : Nat} {w : World} : Calls Try.prog 80 #[.slice (some a) 0 c] w fun e w' => (∃ (g cap : Nat) (cs : List Value), e = .returned (.slice (some ⟨g, 0, none⟩) 0 cap) ∧ (0 ≤ cap ∧ cap ≤ 9223372036854775807 ∧ cs.length = cap * 5) ∧ Box w.heap.size g 24 cs w') ∧ Below w.heap.size w w' := by
  obtain ⟨i0, hi0⟩ : ∃ i0, Try.prog.info? 24 = some i0 := by
    have := Try.infoM
    cases hh : Try.prog.info? 24 with
    | none => rw [hh] at this; simp at this
    | some i => exact ⟨i, rfl⟩
  have hi1 := Try.infoM
  rw [hi0] at hi1
  simp only [Option.map_some, Option.some.injEq, Prod.mk.injEq] at hi1
  obtain ⟨z0, z1, z2⟩ := hi1
  have HI := Lib.hid hi0
  have Z0 := Lib.hid z0; have Z1 := Lib.hid z1; have Z2 := Lib.hid z2
  clear hi0 z0 z1 z2
  have q22 : ∀ (w : World) (a : Option Addr) (n c n' c' : Nat), (binOp .eql 25 (.slice a n c) (.slice none n' c')).run Try.prog w = .ok (.bool a.isNone) w := fun w a n c n' c' => Lib.run_eql_slice_nil w _ _ a n c n' c' Try.underlying25
  go_enter Try.func80, Try.ntmps80
  go_wp2_with (at_builtin; refine wpList_append_own _ rfl _ _ 25 rfl w.heap.size 24 i0 (mzero) 5 56 Try.underlying25 HI.out Z0.out Z1.out Z2.out rfl (by omega) _ _ _ rfl (World.ownsRow_made w #[] 0 (Nat.le_refl _) (Nat.zero_le _) (by simp)) a 0 c [] rfl ?qc1 ?qc2 ?qc3 ?qc4 ?qc5 ?qc6 ?_)
  case qc1 => rfl
  case qc2 => intro j u hj; simp at hj
  case qc3 => intro u hu; simp at hu
  case qc4 => unfold maxLen; omega
  case qc5 => omega
  case qc6 => simp
  intro v' w1 hown hgrow hnil
  have HG := Lib.hid hgrow
  rcases hown.2 with ⟨rfl, _⟩ | ⟨g, cap, cur, rfl, hbg, hg, _, hm, hs, _⟩
  · exact absurd rfl hnil
  · have R1 := Lib.hid hbg; have R2 := Lib.hid hg; have R3 := Lib.hid hm; have R4 := Lib.hid hs
    clear hgrow hown hnil hbg hg hm hs
    go_wp2
    go_ret
    exact ⟨⟨g, cap, cur.toList, rfl, ⟨Nat.zero_le _, by have := R3.out; unfold maxLen at this; omega, by simpa using R4.out⟩, R1.out, by rw [Array.toArray_toList]; exact R2.out⟩, ((Below.refl _ w).alloc (Nat.le_refl _) _).grown HG.out (by simp) (by intro k hk; simp [Value.ownBlock] at hk; omega)⟩

theorem cloneM_nl (n c : Nat) (w : World) : Calls Try.prog 80 #[.slice none n c] w fun e w' => e = .returned (.slice none 0 0) ∧ Below w.heap.size w w' :=
  (AnyE.slices_Clone_nil Try.laysCloneM n c w).mono fun e w' h => ⟨h.1, by rw [h.2]; exact Below.refl _ _⟩
set_option maxRecDepth 100000 in
set_option maxHeartbeats 1000000 in
theorem copyAll_eN {D : Nat → Prop} (nx fr to_ kd nm tr : Int) (wt : Bool) (body : List Nat) {xa : Option Addr} {xk dj : Nat} {w : World} (hx : Fct.at w D (.bs (.slice xa body.length xk) body)) (hl0 : body.length ≤ 1000000) :
    Calls Try.prog 54 #[.agg #[.int .i64 nx, .bool wt, .int .i64 fr, .int .i64 to_, .int .i64 kd, .int .i64 nm, .slice xa body.length xk, .slice none 0 dj, .int .i64 tr]] w fun e w' => (∃ ao k, e = .returned (.agg #[.int .i64 nx, .bool wt, .int .i64 fr, .int .i64 to_, .int .i64 kd, .int .i64 nm, .slice ao body.length k, .slice none 0 0, .int .i64 tr]) ∧ Hid (Bs w' (fun b => D b ∨ w.heap.size ≤ b) (.slice ao body.length k) body)) ∧ Below w.heap.size w w' := by
  have E0 := Lib.hid ((Env.start D w).arg (.bs (.slice xa body.length xk) body) hx)
  clear hx
  go_enter Try.func54, Try.ntmps54
  have hl := Lib.hid hl0
  clear hl0
  go_wp2_with fail
  have E1 := Lib.hid (((E0.out.push 27 [.int .i64 nx, .bool wt, .int .i64 fr, .int .i64 to_, .int .i64 kd, .int .i64 nm, .slice xa body.length xk, .slice none 0 dj, .int .i64 tr] (w.heap.size) (by simp)).push 27 [.int .i64 0, .bool false, .int .i64 0, .int .i64 0, .int .i64 0, .int .i64 0, .slice none 0 0, .slice none 0 0, .int .i64 0] (w.heap.size + 1) (by simp)))
  refine (copyOf_c ⟨fr, to_, kd, nm, body⟩ (E1.out.fc 0 rfl) hl.out).mono ?_
  rintro e w1 ⟨⟨rqa, rqk, rfl, hrq⟩, hb⟩
  have E2 := Lib.hid (E1.out.got (E1.out.below hb) (.bs (.slice rqa body.length rqk) body) hrq.out)
  clear E0 E1 hb hrq
  have b1 := E2.out.bx 1 rfl
  have c1_2 := b1.cell 2 rfl
  have c1_3 := b1.cell 3 rfl
  have c1_4 := b1.cell 4 rfl
  have c1_5 := b1.cell 5 rfl
  have c1_6 := b1.cell 6 rfl
  have f1_2 := b1.frozen 2
  have f1_3 := b1.frozen 3
  have f1_4 := b1.frozen 4
  have f1_5 := b1.frozen 5
  have f1_6 := b1.frozen 6
  clear b1
  have E3 : Hid (Env D w [(w.heap.size + 1, 27, [.int .i64 0, .bool false, .int .i64 0, .int .i64 0, .int .i64 0, .int .i64 0, .slice none 0 0, .slice none 0 0, .int .i64 0]), (w.heap.size, 27, [.int .i64 nx, .bool wt, .int .i64 fr, .int .i64 to_, .int .i64 kd, .int .i64 nm, .slice rqa body.length rqk, .slice none 0 dj, .int .i64 tr])] [.bs (.slice rqa body.length rqk) body, .bs (.slice xa body.length xk) body] _) := Lib.hid ((((((E2.out.set 1 2 (.int .i64 fr) rfl).set 1 3 (.int .i64 to_) rfl).set 1 4 (.int .i64 kd) rfl).set 1 5 (.int .i64 nm) rfl).set 1 6 (.slice rqa body.length rqk) rfl))
  have b2 := E3.out.bx 1 rfl
  have c2_7 := b2.cell 7 rfl
  clear b2
  go_wp2_with fail
  refine (cloneM_nl _ _ _).mono ?_
  rintro e w2 ⟨rfl, hb⟩
  have E4 := Lib.hid (E3.out.below hb)
  clear c1_2 c1_3 c1_4 c1_5 c1_6 f1_2 f1_3 f1_4 f1_5 f1_6 c2_7 E2 E3 hb
  have b3 := E4.out.bx 1 rfl
  have c3_7 := b3.cell 7 rfl
  have f3_7 := b3.frozen 7
  clear b3
  go_wp2_with fail
  have E5 : Hid (Env D w [(w.heap.size + 1, 27, [.int .i64 0, .bool false, .int .i64 0, .int .i64 0, .int .i64 0, .int .i64 0, .slice none 0 0, .slice none 0 0, .int .i64 0]), (w.heap.size, 27, [.int .i64 nx, .bool wt, .int .i64 fr, .int .i64 to_, .int .i64 kd, .int .i64 nm, .slice rqa body.length rqk, .slice none 0 0, .int .i64 tr])] [.bs (.slice rqa body.length rqk) body, .bs (.slice xa body.length xk) body] _) := Lib.hid ((E4.out.set 1 7 (.slice none 0 0) rfl))
  refine wp_loop_rounds 1 ?_
  rw [rounds_succ]
  have b4 := E5.out.bx 1 rfl
  have c4_0 := b4.cell 0 rfl
  have c4_1 := b4.cell 1 rfl
  have c4_2 := b4.cell 2 rfl
  have c4_3 := b4.cell 3 rfl
  have c4_4 := b4.cell 4 rfl
  have c4_5 := b4.cell 5 rfl
  have c4_6 := b4.cell 6 rfl
  have c4_7 := b4.cell 7 rfl
  have c4_8 := b4.cell 8 rfl
  clear b4
  have b5 := E5.out.bx 0 rfl
  have c5_0 := b5.cell 0 rfl
  have c5_1 := b5.cell 1 rfl
  have c5_2 := b5.cell 2 rfl
  have c5_3 := b5.cell 3 rfl
  have c5_4 := b5.cell 4 rfl
  have c5_5 := b5.cell 5 rfl
  have c5_6 := b5.cell 6 rfl
  have c5_7 := b5.cell 7 rfl
  have c5_8 := b5.cell 8 rfl
  have f5_0 := b5.frozen 0
  have f5_1 := b5.frozen 1
  have f5_2 := b5.frozen 2
  have f5_3 := b5.frozen 3
  have f5_4 := b5.frozen 4
  have f5_5 := b5.frozen 5
  have f5_6 := b5.frozen 6
  have f5_7 := b5.frozen 7
  have f5_8 := b5.frozen 8
  clear b5
  go_wp2
  have E6 : Hid (Env D w [(w.heap.size + 1, 27, [.int .i64 nx, .bool wt, .int .i64 fr, .int .i64 to_, .int .i64 kd, .int .i64 nm, .slice rqa body.length rqk, .slice none 0 0, .int .i64 tr]), (w.heap.size, 27, [.int .i64 nx, .bool wt, .int .i64 fr, .int .i64 to_, .int .i64 kd, .int .i64 nm, .slice rqa body.length rqk, .slice none 0 0, .int .i64 tr])] [.bs (.slice rqa body.length rqk) body, .bs (.slice xa body.length xk) body] _) := Lib.hid ((((((((((E5.out.set 0 0 (.int .i64 nx) rfl).set 0 1 (.bool wt) rfl).set 0 2 (.int .i64 fr) rfl).set 0 3 (.int .i64 to_) rfl).set 0 4 (.int .i64 kd) rfl).set 0 5 (.int .i64 nm) rfl).set 0 6 (.slice rqa body.length rqk) rfl).set 0 7 (.slice none 0 0) rfl).set 0 8 (.int .i64 tr) rfl))
  have hfin := E6.out
  have q6 := (hfin.bx 0 rfl).cell 0 rfl
  have q7 := (hfin.bx 0 rfl).cell 1 rfl
  have q8 := (hfin.bx 0 rfl).cell 2 rfl
  have q9 := (hfin.bx 0 rfl).cell 3 rfl
  have q10 := (hfin.bx 0 rfl).cell 4 rfl
  have q11 := (hfin.bx 0 rfl).cell 5 rfl
  have q12 := (hfin.bx 0 rfl).cell 6 rfl
  have q13 := (hfin.bx 0 rfl).cell 7 rfl
  have q14 := (hfin.bx 0 rfl).cell 8 rfl
  exact bodyPost_ret (v := .agg #[.int .i64 nx, .bool wt, .int .i64 fr, .int .i64 to_, .int .i64 kd, .int .i64 nm, .slice rqa body.length rqk, .slice none 0 0, .int .i64 tr]) (by simp [results, Try.results54, go_sem, q6, q7, q8, q9, q10, q11, q12, q13, q14]) rfl ⟨⟨_, _, rfl, (Lib.hid (hfin.out 0 rfl))⟩, hfin.bel⟩
set_option maxRecDepth 100000 in
set_option maxHeartbeats 1000000 in
theorem copyAll_eS {D : Nat → Prop} (nx fr to_ kd nm tr : Int) (wt : Bool) (body : List Nat) {xa : Option Addr} {xk dj : Nat} {da : Addr} {w : World} (hx : Fct.at w D (.bs (.slice xa body.length xk) body)) (hl0 : body.length ≤ 1000000) :
    Calls Try.prog 54 #[.agg #[.int .i64 nx, .bool wt, .int .i64 fr, .int .i64 to_, .int .i64 kd, .int .i64 nm, .slice xa body.length xk, .slice (some da) 0 dj, .int .i64 tr]] w fun e w' => RetSO (fun b => D b ∨ w.heap.size ≤ b) w.heap.size ⟨nx, wt, ⟨fr, to_, kd, nm, body⟩, [], tr⟩ e w' ∧ Below w.heap.size w w' := by
  have E0 := Lib.hid ((Env.start D w).arg (.bs (.slice xa body.length xk) body) hx)
  clear hx
  go_enter Try.func54, Try.ntmps54
  have hl := Lib.hid hl0
  clear hl0
  go_wp2_with fail
  have E1 := Lib.hid (((E0.out.push 27 [.int .i64 nx, .bool wt, .int .i64 fr, .int .i64 to_, .int .i64 kd, .int .i64 nm, .slice xa body.length xk, .slice (some da) 0 dj, .int .i64 tr] (w.heap.size) (by simp)).push 27 [.int .i64 0, .bool false, .int .i64 0, .int .i64 0, .int .i64 0, .int .i64 0, .slice none 0 0, .slice none 0 0, .int .i64 0] (w.heap.size + 1) (by simp)))
  refine (copyOf_c ⟨fr, to_, kd, nm, body⟩ (E1.out.fc 0 rfl) hl.out).mono ?_
  rintro e w1 ⟨⟨rqa, rqk, rfl, hrq⟩, hb⟩
  have E2 := Lib.hid (E1.out.got (E1.out.below hb) (.bs (.slice rqa body.length rqk) body) hrq.out)
  clear E0 E1 hb hrq
  have b1 := E2.out.bx 1 rfl
  have c1_2 := b1.cell 2 rfl
  have c1_3 := b1.cell 3 rfl
  have c1_4 := b1.cell 4 rfl
  have c1_5 := b1.cell 5 rfl
  have c1_6 := b1.cell 6 rfl
  have f1_2 := b1.frozen 2
  have f1_3 := b1.frozen 3
  have f1_4 := b1.frozen 4
  have f1_5 := b1.frozen 5
  have f1_6 := b1.frozen 6
  clear b1
  have E3 : Hid (Env D w [(w.heap.size + 1, 27, [.int .i64 0, .bool false, .int .i64 0, .int .i64 0, .int .i64 0, .int .i64 0, .slice none 0 0, .slice none 0 0, .int .i64 0]), (w.heap.size, 27, [.int .i64 nx, .bool wt, .int .i64 fr, .int .i64 to_, .int .i64 kd, .int .i64 nm, .slice rqa body.length rqk, .slice (some da) 0 dj, .int .i64 tr])] [.bs (.slice rqa body.length rqk) body, .bs (.slice xa body.length xk) body] _) := Lib.hid ((((((E2.out.set 1 2 (.int .i64 fr) rfl).set 1 3 (.int .i64 to_) rfl).set 1 4 (.int .i64 kd) rfl).set 1 5 (.int .i64 nm) rfl).set 1 6 (.slice rqa body.length rqk) rfl))
  have b2 := E3.out.bx 1 rfl
  have c2_7 := b2.cell 7 rfl
  clear b2
  go_wp2_with fail
  refine (cloneM_o).mono ?_
  rintro e w2 ⟨⟨lsg, lsc, lss, rfl, lsh, lsB⟩, hb⟩
  have E4 := Lib.hid (E3.out.gotBox hb lsB)
  clear c1_2 c1_3 c1_4 c1_5 c1_6 f1_2 f1_3 f1_4 f1_5 f1_6 c2_7 E2 E3 hb lsB
  have HC := Lib.hid lsh; clear lsh
  have b3 := E4.out.bx 2 rfl
  have c3_7 := b3.cell 7 rfl
  have f3_7 := b3.frozen 7
  clear b3
  go_wp2_with fail
  have E5 : Hid (Env D w [(lsg, 24, lss), (w.heap.size + 1, 27, [.int .i64 0, .bool false, .int .i64 0, .int .i64 0, .int .i64 0, .int .i64 0, .slice none 0 0, .slice none 0 0, .int .i64 0]), (w.heap.size, 27, [.int .i64 nx, .bool wt, .int .i64 fr, .int .i64 to_, .int .i64 kd, .int .i64 nm, .slice rqa body.length rqk, .slice (some ⟨lsg, 0, none⟩) 0 lsc, .int .i64 tr])] [.bs (.slice rqa body.length rqk) body, .bs (.slice xa body.length xk) body] _) := Lib.hid ((E4.out.set 2 7 (.slice (some ⟨lsg, 0, none⟩) 0 lsc) rfl))
  refine wp_loop_rounds 1 ?_
  rw [rounds_succ]
  have b4 := E5.out.bx 2 rfl
  have c4_0 := b4.cell 0 rfl
  have c4_1 := b4.cell 1 rfl
  have c4_2 := b4.cell 2 rfl
  have c4_3 := b4.cell 3 rfl
  have c4_4 := b4.cell 4 rfl
  have c4_5 := b4.cell 5 rfl
  have c4_6 := b4.cell 6 rfl
  have c4_7 := b4.cell 7 rfl
  have c4_8 := b4.cell 8 rfl
  clear b4
  have b5 := E5.out.bx 1 rfl
  have c5_0 := b5.cell 0 rfl
  have c5_1 := b5.cell 1 rfl
  have c5_2 := b5.cell 2 rfl
  have c5_3 := b5.cell 3 rfl
  have c5_4 := b5.cell 4 rfl
  have c5_5 := b5.cell 5 rfl
  have c5_6 := b5.cell 6 rfl
  have c5_7 := b5.cell 7 rfl
  have c5_8 := b5.cell 8 rfl
  have f5_0 := b5.frozen 0
  have f5_1 := b5.frozen 1
  have f5_2 := b5.frozen 2
  have f5_3 := b5.frozen 3
  have f5_4 := b5.frozen 4
  have f5_5 := b5.frozen 5
  have f5_6 := b5.frozen 6
  have f5_7 := b5.frozen 7
  have f5_8 := b5.frozen 8
  clear b5
  go_wp2
  have E6 : Hid (Env D w [(lsg, 24, lss), (w.heap.size + 1, 27, [.int .i64 nx, .bool wt, .int .i64 fr, .int .i64 to_, .int .i64 kd, .int .i64 nm, .slice rqa body.length rqk, .slice (some ⟨lsg, 0, none⟩) 0 lsc, .int .i64 tr]), (w.heap.size, 27, [.int .i64 nx, .bool wt, .int .i64 fr, .int .i64 to_, .int .i64 kd, .int .i64 nm, .slice rqa body.length rqk, .slice (some ⟨lsg, 0, none⟩) 0 lsc, .int .i64 tr])] [.bs (.slice rqa body.length rqk) body, .bs (.slice xa body.length xk) body] _) := Lib.hid ((((((((((E5.out.set 1 0 (.int .i64 nx) rfl).set 1 1 (.bool wt) rfl).set 1 2 (.int .i64 fr) rfl).set 1 3 (.int .i64 to_) rfl).set 1 4 (.int .i64 kd) rfl).set 1 5 (.int .i64 nm) rfl).set 1 6 (.slice rqa body.length rqk) rfl).set 1 7 (.slice (some ⟨lsg, 0, none⟩) 0 lsc) rfl).set 1 8 (.int .i64 tr) rfl))
  have hfin := E6.out
  have q6 := (hfin.bx 1 rfl).cell 0 rfl
  have q7 := (hfin.bx 1 rfl).cell 1 rfl
  have q8 := (hfin.bx 1 rfl).cell 2 rfl
  have q9 := (hfin.bx 1 rfl).cell 3 rfl
  have q10 := (hfin.bx 1 rfl).cell 4 rfl
  have q11 := (hfin.bx 1 rfl).cell 5 rfl
  have q12 := (hfin.bx 1 rfl).cell 6 rfl
  have q13 := (hfin.bx 1 rfl).cell 7 rfl
  have q14 := (hfin.bx 1 rfl).cell 8 rfl
  exact bodyPost_ret (v := .agg #[.int .i64 nx, .bool wt, .int .i64 fr, .int .i64 to_, .int .i64 kd, .int .i64 nm, .slice rqa body.length rqk, .slice (some ⟨lsg, 0, none⟩) 0 lsc, .int .i64 tr]) (by simp [results, Try.results54, go_sem, q6, q7, q8, q9, q10, q11, q12, q13, q14]) rfl ⟨⟨rqa, rqk, lsg, lsc, lss, rfl, HC.out, hfin.bx 0 rfl, Fct.turn (hfin.fc 0 rfl) (Nat.le_refl _) (fun b _ hd => by obtain ⟨h1, h2⟩ := hd; exact ⟨h2, fun e => h1 _ (List.mem_of_getElem? (i := 0) rfl) e.symm⟩) (fun _ _ _ _ => rfl), fun i h => absurd h (by simp)⟩, hfin.bel⟩
/-- copyAll of a session whose list is not nil: the list that comes back is the call's own -/
theorem copyAll_own (nx fr to_ kd nm tr : Int) (wt : Bool) (body : List Nat) (dn : List Msg) {D : Nat → Prop} {xa : Option Addr} {da : Addr} {xk dj : Nat} {w : World} (hx : Fct.at w D (.bs (.slice xa body.length xk) body)) (hy : Fct.at w D (.ms (.slice (some da) dn.length dj) dn)) (hl : body.length ≤ 1000000) (hd : dn.length ≤ 1000000 ∧ ∀ k (h : k < dn.length), dn[k].body.length ≤ 1000000) :
    Calls Try.prog 54 #[.agg #[.int .i64 nx, .bool wt, .int .i64 fr, .int .i64 to_, .int .i64 kd, .int .i64 nm, .slice xa body.length xk, .slice (some da) dn.length dj, .int .i64 tr]] w fun e w' => RetSO (fun b => D b ∨ w.heap.size ≤ b) w.heap.size ⟨nx, wt, ⟨fr, to_, kd, nm, body⟩, dn, tr⟩ e w' ∧ Below w.heap.size w w' := by
  cases dn with
  | nil => exact copyAll_eS nx fr to_ kd nm tr wt body hx hl
  | cons d dn =>
    obtain ⟨b, off, j, e⟩ := Ms.open hy (by simp)
    rw [e] at hy ⊢
    exact copyAll_some nx fr to_ kd nm tr wt body _ hx hy hl hd
end Go.Proofs.Ytbcfcdcomboljaa

/- session: the copy of a session. -/
import Derived.Test.YtbcfcdcomboljaaSesX
namespace Go.Proofs.Ytbcfcdcomboljaa
open Go.RowKit
set_option linter.unusedVariables false
section
variable {P : Program} {ops : Array Oper} {Q : Exit → Act → World → Prop}
theorem wpAnyH_next {S : World → Prop} {fuel i : Nat} {listed : Array Bool} {a : Act} {w : World} {o : Oper} (hr : Region.ready .any ops listed = [i]) (ho : ops[i]? = some o)
    (h : ∀ K : Act → World → Prop, Shut (∀ a w, S w → wpAnyH P .any ops Q S fuel (listed.setIfInBounds i true) a w → K a w) → if Region.wanted o (yielded ops a.tmps) = true then Oper.wp P o a w K Q else K (a.put o.dst undef) w) :
    wpAnyH P .any ops Q S (fuel + 1) listed a w := by
  refine wpAnyH_all hr (by simp) (fun j hj => ?_)
  obtain rfl : j = i := by simpa using hj
  exact wpOp_step ho (fun K hK => h K (fun a w hS hW => hK a w ⟨hS, hW⟩))
end
/-- a session came back whose list of answers is the call's own (and not empty) -/
def RetSO (D : Nat → Prop) (B : Nat) (S : Ses) (e : Ending) (W : World) : Prop := ∃ ao k g j cs, e = .returned (.agg #[.int .i64 S.nx, .bool S.wt, .int .i64 S.rq.fr, .int .i64 S.rq.to_, .int .i64 S.rq.kd, .int .i64 S.rq.nm, .slice ao S.rq.body.length k, .slice (some ⟨g, 0, none⟩) S.dn.length j, .int .i64 S.tr]) ∧
  (S.dn.length ≤ j ∧ j ≤ 9223372036854775807 ∧ cs.length = j * 5) ∧ Box B g 24 cs W ∧ Fct.at W (fun b => D b ∧ b ≠ g) (.bs (.slice ao S.rq.body.length k) S.rq.body) ∧ Fct.at W (fun b => D b ∧ b ≠ g) (.mc cs S.dn)
theorem RetSO.ret {D : Nat → Prop} {B : Nat} {S : Ses} {e : Ending} {W : World} (h : RetSO (fun b => D b ∨ B ≤ b) B S e W) : RetS (fun b => D b ∨ B ≤ b) S e W := by
  obtain ⟨ao, k, g, j, cs, rfl, ⟨h1, h2, h3⟩, hB, hb, hm⟩ := h
  exact ⟨ao, k, some ⟨g, 0, none⟩, j, rfl, Lib.hid (Fct.turn hb (Nat.le_refl _) (fun _ _ h => h.1) (fun _ _ _ _ => rfl)), Lib.hid (Ms.ofBox hB hm h1 h2 (fun _ h => h.1) (.inr hB.1))⟩
theorem DF.own {D0 : Nat → Prop} {B g : Nat} {F F2 : List Bx} {T : TypeId} {cs : List Value} {b : Nat} (h : DF D0 B (F2 ++ (g, T, cs) :: F) b) : (D0 b ∨ B ≤ b) ∧ b ≠ g := ⟨h.2, fun e => h.1 (g, T, cs) (by simp) e.symm⟩

set_option maxRecDepth 100000 in
set_option maxHeartbeats 1000000 in
theorem copyAll_nil {D : Nat → Prop} (nx fr to_ kd nm tr : Int) (wt : Bool) (body : List Nat) {xa : Option Addr} {xk : Nat} {da : Option Addr} {dj : Nat} {w : World} (hx : Fct.at w D (.bs (.slice xa body.length xk) body)) (hy : Fct.at w D (.ms (.slice da 0 dj) [])) (hl0 : body.length ≤ 1000000) :
    Calls Try.prog 54 #[.agg #[.int .i64 nx, .bool wt, .int .i64 fr, .int .i64 to_, .int .i64 kd, .int .i64 nm, .slice xa body.length xk, .slice da 0 dj, .int .i64 tr]] w fun e w' => RetS (fun b => D b ∨ w.heap.size ≤ b) ⟨nx, wt, ⟨fr, to_, kd, nm, body⟩, [], tr⟩ e w' ∧ Below w.heap.size w w' := by
  have E0 := Lib.hid (((Env.start D w).arg (.bs (.slice xa body.length xk) body) hx).arg (.ms (.slice da 0 dj) []) hy)
  clear hx hy
  go_enter Try.func54, Try.ntmps54
  have hl := Lib.hid hl0
  clear hl0
  go_wp2_with fail
  have E1 := Lib.hid (((E0.out.push 27 [.int .i64 nx, .bool wt, .int .i64 fr, .int .i64 to_, .int .i64 kd, .int .i64 nm, .slice xa body.length xk, .slice da 0 dj, .int .i64 tr] (w.heap.size) (by simp)).push 27 [.int .i64 0, .bool false, .int .i64 0, .int .i64 0, .int .i64 0, .int .i64 0, .slice none 0 0, .slice none 0 0, .int .i64 0] (w.heap.size + 1) (by simp)))
  refine (copyOf_c ⟨fr, to_, kd, nm, body⟩ (E1.out.fc 1 rfl) hl.out).mono ?_
  rintro e w1 ⟨⟨rqa, rqk, rfl, hrq⟩, hb⟩
  have E2 := Lib.hid (E1.out.got (E1.out.below hb) (.bs (.slice rqa body.length rqk) body) hrq.out)
  clear E0 E1 hb hrq
  have b1 := E2.out.bx 1 rfl
  have c1_2 := b1.cell 2 rfl
  have c1_3 := b1.cell 3 rfl
  have c1_4 := b1.cell 4 rfl
  have c1_5 := b1.cell 5 rfl
  have c1_6 := b1.cell 6 rfl
  have f1_2 := b1.frozen 2
  have f1_3 := b1.frozen 3
  have f1_4 := b1.frozen 4
  have f1_5 := b1.frozen 5
  have f1_6 := b1.frozen 6
  clear b1
  have E3 : Hid (Env D w [(w.heap.size + 1, 27, [.int .i64 0, .bool false, .int .i64 0, .int .i64 0, .int .i64 0, .int .i64 0, .slice none 0 0, .slice none 0 0, .int .i64 0]), (w.heap.size, 27, [.int .i64 nx, .bool wt, .int .i64 fr, .int .i64 to_, .int .i64 kd, .int .i64 nm, .slice rqa body.length rqk, .slice da 0 dj, .int .i64 tr])] [.bs (.slice rqa body.length rqk) body, .ms (.slice da 0 dj) [], .bs (.slice xa body.length xk) body] _) := Lib.hid ((((((E2.out.set 1 2 (.int .i64 fr) rfl).set 1 3 (.int .i64 to_) rfl).set 1 4 (.int .i64 kd) rfl).set 1 5 (.int .i64 nm) rfl).set 1 6 (.slice rqa body.length rqk) rfl))
  have b2 := E3.out.bx 1 rfl
  have c2_7 := b2.cell 7 rfl
  clear b2
  go_wp2_with fail
  refine (cloneM_n (E3.out.fc 1 rfl)).mono ?_
  rintro e w2 ⟨⟨lsa, lsk, rfl, hls⟩, hb⟩
  have E4 := Lib.hid (E3.out.got (E3.out.below hb) (.ms (.slice lsa 0 lsk) []) hls.out)
  clear c1_2 c1_3 c1_4 c1_5 c1_6 f1_2 f1_3 f1_4 f1_5 f1_6 c2_7 E2 E3 hb hls
  have b3 := E4.out.bx 1 rfl
  have c3_7 := b3.cell 7 rfl
  have f3_7 := b3.frozen 7
  clear b3
  go_wp2_with fail
  have E5 : Hid (Env D w [(w.heap.size + 1, 27, [.int .i64 0, .bool false, .int .i64 0, .int .i64 0, .int .i64 0, .int .i64 0, .slice none 0 0, .slice none 0 0, .int .i64 0]), (w.heap.size, 27, [.int .i64 nx, .bool wt, .int .i64 fr, .int .i64 to_, .int .i64 kd, .int .i64 nm, .slice rqa body.length rqk, .slice lsa 0 lsk, .int .i64 tr])] [.ms (.slice lsa 0 lsk) [], .bs (.slice rqa body.length rqk) body, .ms (.slice da 0 dj) [], .bs (.slice xa body.length xk) body] _) := Lib.hid ((E4.out.set 1 7 (.slice lsa 0 lsk) rfl))
  refine wp_loop_rounds 1 ?_
  rw [rounds_succ]
  have b4 := E5.out.bx 1 rfl
  have c4_0 := b4.cell 0 rfl
  have c4_1 := b4.cell 1 rfl
  have c4_2 := b4.cell 2 rfl
  have c4_3 := b4.cell 3 rfl
  have c4_4 := b4.cell 4 rfl
  have c4_5 := b4.cell 5 rfl
  have c4_6 := b4.cell 6 rfl
  have c4_7 := b4.cell 7 rfl
  have c4_8 := b4.cell 8 rfl
  clear b4
  have b5 := E5.out.bx 0 rfl
  have c5_0 := b5.cell 0 rfl
  have c5_1 := b5.cell 1 rfl
  have c5_2 := b5.cell 2 rfl
  have c5_3 := b5.cell 3 rfl
  have c5_4 := b5.cell 4 rfl
  have c5_5 := b5.cell 5 rfl
  have c5_6 := b5.cell 6 rfl
  have c5_7 := b5.cell 7 rfl
  have c5_8 := b5.cell 8 rfl
  have f5_0 := b5.frozen 0
  have f5_1 := b5.frozen 1
  have f5_2 := b5.frozen 2
  have f5_3 := b5.frozen 3
  have f5_4 := b5.frozen 4
  have f5_5 := b5.frozen 5
  have f5_6 := b5.frozen 6
  have f5_7 := b5.frozen 7
  have f5_8 := b5.frozen 8
  clear b5
  go_wp2
  have E6 : Hid (Env D w [(w.heap.size + 1, 27, [.int .i64 nx, .bool wt, .int .i64 fr, .int .i64 to_, .int .i64 kd, .int .i64 nm, .slice rqa body.length rqk, .slice lsa 0 lsk, .int .i64 tr]), (w.heap.size, 27, [.int .i64 nx, .bool wt, .int .i64 fr, .int .i64 to_, .int .i64 kd, .int .i64 nm, .slice rqa body.length rqk, .slice lsa 0 lsk, .int .i64 tr])] [.ms (.slice lsa 0 lsk) [], .bs (.slice rqa body.length rqk) body, .ms (.slice da 0 dj) [], .bs (.slice xa body.length xk) body] _) := Lib.hid ((((((((((E5.out.set 0 0 (.int .i64 nx) rfl).set 0 1 (.bool wt) rfl).set 0 2 (.int .i64 fr) rfl).set 0 3 (.int .i64 to_) rfl).set 0 4 (.int .i64 kd) rfl).set 0 5 (.int .i64 nm) rfl).set 0 6 (.slice rqa body.length rqk) rfl).set 0 7 (.slice lsa 0 lsk) rfl).set 0 8 (.int .i64 tr) rfl))
  have hfin := E6.out
  have q6 := (hfin.bx 0 rfl).cell 0 rfl
  have q7 := (hfin.bx 0 rfl).cell 1 rfl
  have q8 := (hfin.bx 0 rfl).cell 2 rfl
  have q9 := (hfin.bx 0 rfl).cell 3 rfl
  have q10 := (hfin.bx 0 rfl).cell 4 rfl
  have q11 := (hfin.bx 0 rfl).cell 5 rfl
  have q12 := (hfin.bx 0 rfl).cell 6 rfl
  have q13 := (hfin.bx 0 rfl).cell 7 rfl
  have q14 := (hfin.bx 0 rfl).cell 8 rfl
  exact bodyPost_ret (v := .agg #[.int .i64 nx, .bool wt, .int .i64 fr, .int .i64 to_, .int .i64 kd, .int .i64 nm, .slice rqa body.length rqk, .slice lsa 0 lsk, .int .i64 tr]) (by simp [results, Try.results54, go_sem, q6, q7, q8, q9, q10, q11, q12, q13, q14]) rfl ⟨⟨_, _, _, _, rfl, (Lib.hid (hfin.out 1 rfl)), (Lib.hid (hfin.out 0 rfl))⟩, hfin.bel⟩
set_option maxRecDepth 100000 in
set_option maxHeartbeats 1000000 in
theorem copyAll_some {D : Nat → Prop} (nx fr to_ kd nm tr : Int) (wt : Bool) (body : List Nat) (dn : List Msg) {xa : Option Addr} {xk : Nat} {db df dj : Nat} {w : World} (hx : Fct.at w D (.bs (.slice xa body.length xk) body)) (hy : Fct.at w D (.ms (.slice (some ⟨db, df, none⟩) dn.length dj) dn)) (hl0 : body.length ≤ 1000000) (hd0 : dn.length ≤ 1000000 ∧ ∀ k (h : k < dn.length), dn[k].body.length ≤ 1000000) :
    Calls Try.prog 54 #[.agg #[.int .i64 nx, .bool wt, .int .i64 fr, .int .i64 to_, .int .i64 kd, .int .i64 nm, .slice xa body.length xk, .slice (some ⟨db, df, none⟩) dn.length dj, .int .i64 tr]] w fun e w' => RetSO (fun b => D b ∨ w.heap.size ≤ b) w.heap.size ⟨nx, wt, ⟨fr, to_, kd, nm, body⟩, dn, tr⟩ e w' ∧ Below w.heap.size w w' := by
  have E0 := Lib.hid (((Env.start D w).arg (.bs (.slice xa body.length xk) body) hx).arg (.ms (.slice (some ⟨db, df, none⟩) dn.length dj) dn) hy)
  clear hx hy
  go_enter Try.func54, Try.ntmps54
  have hl := Lib.hid hl0
  clear hl0
  have hd := Lib.hid hd0
  clear hd0
  go_wp2_with fail
  have E1 := Lib.hid (((E0.out.push 27 [.int .i64 nx, .bool wt, .int .i64 fr, .int .i64 to_, .int .i64 kd, .int .i64 nm, .slice xa body.length xk, .slice (some ⟨db, df, none⟩) dn.length dj, .int .i64 tr] (w.heap.size) (by simp)).push 27 [.int .i64 0, .bool false, .int .i64 0, .int .i64 0, .int .i64 0, .int .i64 0, .slice none 0 0, .slice none 0 0, .int .i64 0] (w.heap.size + 1) (by simp)))
  refine (copyOf_c ⟨fr, to_, kd, nm, body⟩ (E1.out.fc 1 rfl) hl.out).mono ?_
  rintro e w1 ⟨⟨rqa, rqk, rfl, hrq⟩, hb⟩
  have E2 := Lib.hid (E1.out.got (E1.out.below hb) (.bs (.slice rqa body.length rqk) body) hrq.out)
  clear E0 E1 hb hrq
  have b1 := E2.out.bx 1 rfl
  have c1_2 := b1.cell 2 rfl
  have c1_3 := b1.cell 3 rfl
  have c1_4 := b1.cell 4 rfl
  have c1_5 := b1.cell 5 rfl
  have c1_6 := b1.cell 6 rfl
  have f1_2 := b1.frozen 2
  have f1_3 := b1.frozen 3
  have f1_4 := b1.frozen 4
  have f1_5 := b1.frozen 5
  have f1_6 := b1.frozen 6
  clear b1
  have E3 : Hid (Env D w [(w.heap.size + 1, 27, [.int .i64 0, .bool false, .int .i64 0, .int .i64 0, .int .i64 0, .int .i64 0, .slice none 0 0, .slice none 0 0, .int .i64 0]), (w.heap.size, 27, [.int .i64 nx, .bool wt, .int .i64 fr, .int .i64 to_, .int .i64 kd, .int .i64 nm, .slice rqa body.length rqk, .slice (some ⟨db, df, none⟩) dn.length dj, .int .i64 tr])] [.bs (.slice rqa body.length rqk) body, .ms (.slice (some ⟨db, df, none⟩) dn.length dj) dn, .bs (.slice xa body.length xk) body] _) := Lib.hid ((((((E2.out.set 1 2 (.int .i64 fr) rfl).set 1 3 (.int .i64 to_) rfl).set 1 4 (.int .i64 kd) rfl).set 1 5 (.int .i64 nm) rfl).set 1 6 (.slice rqa body.length rqk) rfl))
  have b2 := E3.out.bx 1 rfl
  have c2_7 := b2.cell 7 rfl
  clear b2
  go_wp2_with fail
  refine (cloneM_s (E3.out.fc 1 rfl) hd.out.1).mono ?_
  rintro e w2 ⟨⟨lsg, lsc, lss, rfl, lsh, lsB, lsM⟩, hb⟩
  have E4 := Lib.hid ((E3.out.gotBox hb lsB).gotMc lsB.1 lsM)
  clear c1_2 c1_3 c1_4 c1_5 c1_6 f1_2 f1_3 f1_4 f1_5 f1_6 c2_7 E2 E3 hb lsB lsM
  have b3 := E4.out.bx 2 rfl
  have c3_7 := b3.cell 7 rfl
  have f3_7 := b3.frozen 7
  clear b3
  have HC := Lib.hid lsh
  clear lsh
  go_wp2_with fail
  have E5 : Hid (Env D w [(lsg, 24, lss), (w.heap.size + 1, 27, [.int .i64 0, .bool false, .int .i64 0, .int .i64 0, .int .i64 0, .int .i64 0, .slice none 0 0, .slice none 0 0, .int .i64 0]), (w.heap.size, 27, [.int .i64 nx, .bool wt, .int .i64 fr, .int .i64 to_, .int .i64 kd, .int .i64 nm, .slice rqa body.length rqk, .slice (some ⟨lsg, 0, none⟩) dn.length lsc, .int .i64 tr])] [.mc lss dn, .bs (.slice rqa body.length rqk) body, .ms (.slice (some ⟨db, df, none⟩) dn.length dj) dn, .bs (.slice xa body.length xk) body] _) := Lib.hid ((E4.out.set 2 7 (.slice (some ⟨lsg, 0, none⟩) dn.length lsc) rfl))
  go_loopg [16] (dn.length) (fun gk s16 wr => ∃ (k : Nat) (cs : List Value), s16 = .int .i64 (k : Int) ∧ Hid (Env D w [(lsg, 24, cs), (w.heap.size + 1, 27, [.int .i64 0, .bool false, .int .i64 0, .int .i64 0, .int .i64 0, .int .i64 0, .slice none 0 0, .slice none 0 0, .int .i64 0]), (w.heap.size, 27, [.int .i64 nx, .bool wt, .int .i64 fr, .int .i64 to_, .int .i64 kd, .int .i64 nm, .slice rqa body.length rqk, .slice (some ⟨lsg, 0, none⟩) dn.length lsc, .int .i64 tr])] [.mc cs dn, .bs (.slice rqa body.length rqk) body, .ms (.slice (some ⟨db, df, none⟩) dn.length dj) dn, .bs (.slice xa body.length xk) body] wr) ∧ Hid ((k ≤ dn.length ∧ gk = dn.length - k) ∧ cs.length = lsc * 5))
  case atStart => exact ⟨0, lss, rfl, Lib.hid E5.out, Lib.hid ⟨⟨Nat.zero_le _, rfl⟩, HC.out.2.2⟩⟩
  case round =>
    clear c3_7 f3_7 E4 E5
    obtain ⟨k, cs, rfl, EL, HA⟩ := hrel
    obtain ⟨⟨a1, a2⟩, a4⟩ := HA.out
    clear HA
    have HK := Lib.hid a4
    clear a4
    by_cases hy : k = dn.length
    · have t1 : decide ((k : Int) < (dn.length : Int)) = false := decide_eq_false (by omega)
      have b4 := EL.out.bx 2 rfl
      have c4_0 := b4.cell 0 rfl
      have c4_1 := b4.cell 1 rfl
      have c4_2 := b4.cell 2 rfl
      have c4_3 := b4.cell 3 rfl
      have c4_4 := b4.cell 4 rfl
      have c4_5 := b4.cell 5 rfl
      have c4_6 := b4.cell 6 rfl
      have c4_7 := b4.cell 7 rfl
      have c4_8 := b4.cell 8 rfl
      clear b4
      have b5 := EL.out.bx 1 rfl
      have c5_0 := b5.cell 0 rfl
      have c5_1 := b5.cell 1 rfl
      have c5_2 := b5.cell 2 rfl
      have c5_3 := b5.cell 3 rfl
      have c5_4 := b5.cell 4 rfl
      have c5_5 := b5.cell 5 rfl
      have c5_6 := b5.cell 6 rfl
      have c5_7 := b5.cell 7 rfl
      have c5_8 := b5.cell 8 rfl
      have f5_0 := b5.frozen 0
      have f5_1 := b5.frozen 1
      have f5_2 := b5.frozen 2
      have f5_3 := b5.frozen 3
      have f5_4 := b5.frozen 4
      have f5_5 := b5.frozen 5
      have f5_6 := b5.frozen 6
      have f5_7 := b5.frozen 7
      have f5_8 := b5.frozen 8
      clear b5
      go_wp2
      have E6 : Hid (Env D w [(lsg, 24, cs), (w.heap.size + 1, 27, [.int .i64 nx, .bool wt, .int .i64 fr, .int .i64 to_, .int .i64 kd, .int .i64 nm, .slice rqa body.length rqk, .slice (some ⟨lsg, 0, none⟩) dn.length lsc, .int .i64 tr]), (w.heap.size, 27, [.int .i64 nx, .bool wt, .int .i64 fr, .int .i64 to_, .int .i64 kd, .int .i64 nm, .slice rqa body.length rqk, .slice (some ⟨lsg, 0, none⟩) dn.length lsc, .int .i64 tr])] [.mc cs dn, .bs (.slice rqa body.length rqk) body, .ms (.slice (some ⟨db, df, none⟩) dn.length dj) dn, .bs (.slice xa body.length xk) body] _) := Lib.hid ((((((((((EL.out.set 1 0 (.int .i64 nx) rfl).set 1 1 (.bool wt) rfl).set 1 2 (.int .i64 fr) rfl).set 1 3 (.int .i64 to_) rfl).set 1 4 (.int .i64 kd) rfl).set 1 5 (.int .i64 nm) rfl).set 1 6 (.slice rqa body.length rqk) rfl).set 1 7 (.slice (some ⟨lsg, 0, none⟩) dn.length lsc) rfl).set 1 8 (.int .i64 tr) rfl))
      have hfin := E6.out
      have q6 := (hfin.bx 1 rfl).cell 0 rfl
      have q7 := (hfin.bx 1 rfl).cell 1 rfl
      have q8 := (hfin.bx 1 rfl).cell 2 rfl
      have q9 := (hfin.bx 1 rfl).cell 3 rfl
      have q10 := (hfin.bx 1 rfl).cell 4 rfl
      have q11 := (hfin.bx 1 rfl).cell 5 rfl
      have q12 := (hfin.bx 1 rfl).cell 6 rfl
      have q13 := (hfin.bx 1 rfl).cell 7 rfl
      have q14 := (hfin.bx 1 rfl).cell 8 rfl
      exact bodyPost_ret (v := .agg #[.int .i64 nx, .bool wt, .int .i64 fr, .int .i64 to_, .int .i64 kd, .int .i64 nm, .slice rqa body.length rqk, .slice (some ⟨lsg, 0, none⟩) dn.length lsc, .int .i64 tr]) (by simp [results, Try.results54, go_sem, q6, q7, q8, q9, q10, q11, q12, q13, q14]) rfl ⟨⟨rqa, rqk, lsg, lsc, cs, rfl, ⟨HC.out.1, HC.out.2.1, HK.out⟩, hfin.bx 0 rfl, Fct.turn (hfin.fc 1 rfl) (Nat.le_refl _) (fun b _ hd => by obtain ⟨h1, h2⟩ := hd; exact ⟨h2, fun e => h1 _ (List.mem_of_getElem? (i := 0) rfl) e.symm⟩) (fun _ _ _ _ => rfl), Fct.turn (hfin.fc 0 rfl) (Nat.le_refl _) (fun b _ hd => by obtain ⟨h1, h2⟩ := hd; exact ⟨h2, fun e => h1 _ (List.mem_of_getElem? (i := 0) rfl) e.symm⟩) (fun _ _ _ _ => rfl)⟩, hfin.bel⟩
    · have hk : k < dn.length := by omega
      have t1 : decide ((k : Int) < (dn.length : Int)) = true := decide_eq_true (by omega)
      have a3 := hd.out.1
      obtain ⟨m0, m1, m2, m3, ea, ek, m4, hbk⟩ := EL.out.fc 0 rfl k hk
      have E6 := Lib.hid (EL.out.note (.bs (.slice ea dn[k].body.length ek) dn[k].body) hbk)
      clear EL hbk
      have bl := E6.out.bx 0 rfl
      have u0 := bl.cell (k * 5) m0
      have u1 := bl.cell (k * 5 + 1) m1
      have u2 := bl.cell (k * 5 + 2) m2
      have u3 := bl.cell (k * 5 + 3) m3
      have u4 := bl.cell (k * 5 + 4) m4
      go_wp2_with fail
      have E7 := Lib.hid ((E6.out.push 24 [.int .i64 dn[k].fr, .int .i64 dn[k].to_, .int .i64 dn[k].kd, .int .i64 dn[k].nm, .slice ea dn[k].body.length ek] (wr.heap.size) (by simp)))
      clear u0 u1 u2 u3 u4 bl E6
      generalize wr.alloc (.cells #[.int .i64 dn[k].fr, .int .i64 dn[k].to_, .int .i64 dn[k].kd, .int .i64 dn[k].nm, .slice ea dn[k].body.length ek] 24) = w3 at *
      have E8 := Lib.hid E7.out.drew
      clear E7
      refine wp_region_held_drew (S := fun w' => w'.cell? ⟨w.heap.size, 7, none⟩ = some (.slice (some ⟨lsg, 0, none⟩) dn.length lsc) ∧ w'.cell? ⟨wr.heap.size, 0, none⟩ = some (.int .i64 dn[k].fr) ∧ w'.cell? ⟨wr.heap.size, 1, none⟩ = some (.int .i64 dn[k].to_) ∧ w'.cell? ⟨wr.heap.size, 2, none⟩ = some (.int .i64 dn[k].kd) ∧ w'.cell? ⟨wr.heap.size, 3, none⟩ = some (.int .i64 dn[k].nm) ∧ w'.cell? ⟨wr.heap.size, 4, none⟩ = some (.slice ea dn[k].body.length ek)) (by kernel_rfl) (⟨((E8.out.bx 3 rfl).cell 7 rfl), ((E8.out.bx 0 rfl).cell 0 rfl), ((E8.out.bx 0 rfl).cell 1 rfl), ((E8.out.bx 0 rfl).cell 2 rfl), ((E8.out.bx 0 rfl).cell 3 rfl), ((E8.out.bx 0 rfl).cell 4 rfl)⟩) (fun hHeld => ?_)
      refine takeW (i := 0) (some 21) (v := ?_) rfl rfl (by kernel_rfl) (by kernel_rfl) (by kernel_rfl) (fun _ _ _ h => h) (by rfl) (by assumption) ?_ ?_
      rotate_left
      · (intro wS hSw; (try dsimp only at hSw); go_simp; try with_reducible rfl)
      try simp only [Act.put, List.setIfInBounds_toArray, List.set_cons_zero, List.set_cons_succ]
      refine takeW (i := 1) (some 22) (v := ?_) rfl rfl (by kernel_rfl) (by kernel_rfl) (by kernel_rfl) (fun _ _ _ h => h) (by rfl) (by assumption) ?_ ?_
      rotate_left
      · (intro wS hSw; (try dsimp only at hSw); go_simp; try with_reducible rfl)
      try simp only [Act.put, List.setIfInBounds_toArray, List.set_cons_zero, List.set_cons_succ]
      refine takeW (i := 2) (some 23) (v := ?_) rfl rfl (by kernel_rfl) (by kernel_rfl) (by kernel_rfl) (fun _ _ _ h => h) (by rfl) (by assumption) ?_ ?_
      rotate_left
      · (intro wS hSw; (try dsimp only at hSw); go_simp; try with_reducible rfl)
      try simp only [Act.put, List.setIfInBounds_toArray, List.set_cons_zero, List.set_cons_succ]
      refine takeW (i := 3) (some 24) (v := ?_) rfl rfl (by kernel_rfl) (by kernel_rfl) (by kernel_rfl) (fun _ _ _ h => h) (by rfl) (by assumption) ?_ ?_
      rotate_left
      · (intro wS hSw; (try dsimp only at hSw); go_simp; try with_reducible rfl)
      try simp only [Act.put, List.setIfInBounds_toArray, List.set_cons_zero, List.set_cons_succ]
      refine wpAnyH_ready (rs := [4]) (by kernel_rfl) (by simp) ?_
      refine AllReadyH.cons rfl (fun KK hKK => ?_) AllReadyH.nil
      go_simp
      refine (copyOf_c dn[k] (E8.out.fc 0 rfl) (hd.out.2 k hk)).mono ?_
      rintro e w4 ⟨⟨nba, nbk, rfl, hnb⟩, hbr⟩
      have E9 := Lib.hid (E8.out.got (E8.out.below hbr) (.bs (.slice nba dn[k].body.length nbk) dn[k].body) hnb.out)
      clear E8 hbr hnb
      (try dsimp only)
      clear hHeld
      refine hKK.out _ _ (⟨((E9.out.bx 3 rfl).cell 7 rfl), ((E9.out.bx 0 rfl).cell 0 rfl), ((E9.out.bx 0 rfl).cell 1 rfl), ((E9.out.bx 0 rfl).cell 2 rfl), ((E9.out.bx 0 rfl).cell 3 rfl), ((E9.out.bx 0 rfl).cell 4 rfl)⟩) (fun hHeld => ?_)
      clear hKK KK
      try simp only [Act.put, List.setIfInBounds_toArray, List.set_cons_zero, List.set_cons_succ]
      refine wpAnyH_next (i := 5) (by kernel_rfl) rfl (fun KK hKK => ?_)
      go_simp
      refine hKK.out _ _ (⟨((E9.out.bx 3 rfl).cell 7 rfl), ((E9.out.bx 0 rfl).cell 0 rfl), ((E9.out.bx 0 rfl).cell 1 rfl), ((E9.out.bx 0 rfl).cell 2 rfl), ((E9.out.bx 0 rfl).cell 3 rfl), ((E9.out.bx 0 rfl).cell 4 rfl)⟩) ?_
      clear hKK KK
      have b4 := E9.out.bx 1 rfl
      have c4_0 := b4.cell (k * 5) m0
      have f4_0 := b4.frozen (k * 5)
      have c4_1 := b4.cell (k * 5 + 1) m1
      have f4_1 := b4.frozen (k * 5 + 1)
      have c4_2 := b4.cell (k * 5 + 2) m2
      have f4_2 := b4.frozen (k * 5 + 2)
      have c4_3 := b4.cell (k * 5 + 3) m3
      have f4_3 := b4.frozen (k * 5 + 3)
      have c4_4 := b4.cell (k * 5 + 4) m4
      have f4_4 := b4.frozen (k * 5 + 4)
      clear b4
      refine wpAnyH_next (i := 6) (by kernel_rfl) rfl (fun KK hKK => ?_)
      go_simp
      have E10 : Hid (Env D w [(wr.heap.size, 24, [.int .i64 dn[k].fr, .int .i64 dn[k].to_, .int .i64 dn[k].kd, .int .i64 dn[k].nm, .slice ea dn[k].body.length ek]), (lsg, 24, (((((cs.set (k * 5) (.int .i64 dn[k].fr)).set (k * 5 + 1) (.int .i64 dn[k].to_)).set (k * 5 + 2) (.int .i64 dn[k].kd)).set (k * 5 + 3) (.int .i64 dn[k].nm)).set (k * 5 + 4) (.slice nba dn[k].body.length nbk))), (w.heap.size + 1, 27, [.int .i64 0, .bool false, .int .i64 0, .int .i64 0, .int .i64 0, .int .i64 0, .slice none 0 0, .slice none 0 0, .int .i64 0]), (w.heap.size, 27, [.int .i64 nx, .bool wt, .int .i64 fr, .int .i64 to_, .int .i64 kd, .int .i64 nm, .slice rqa body.length rqk, .slice (some ⟨lsg, 0, none⟩) dn.length lsc, .int .i64 tr])] [.bs (.slice nba dn[k].body.length nbk) dn[k].body, .bs (.slice ea dn[k].body.length ek) dn[k].body, .mc cs dn, .bs (.slice rqa body.length rqk) body, .ms (.slice (some ⟨db, df, none⟩) dn.length dj) dn, .bs (.slice xa body.length xk) body] _) := Lib.hid ((((((E9.out.set 1 (k * 5) (.int .i64 dn[k].fr) rfl).set 1 (k * 5 + 1) (.int .i64 dn[k].to_) rfl).set 1 (k * 5 + 2) (.int .i64 dn[k].kd) rfl).set 1 (k * 5 + 3) (.int .i64 dn[k].nm) rfl).set 1 (k * 5 + 4) (.slice nba dn[k].body.length nbk) rfl))
      refine hKK.out _ _ (⟨((E10.out.bx 3 rfl).cell 7 rfl), ((E10.out.bx 0 rfl).cell 0 rfl), ((E10.out.bx 0 rfl).cell 1 rfl), ((E10.out.bx 0 rfl).cell 2 rfl), ((E10.out.bx 0 rfl).cell 3 rfl), ((E10.out.bx 0 rfl).cell 4 rfl)⟩) ?_
      clear hKK KK
      refine wpAnyH_done (by kernel_rfl) ?_ _
      have hmc := mc_set (E10.out.fc 2 rfl) (by have := HK.out; have := HC.out.1; omega) hk dn[k] (E10.out.fc 0 rfl)
      rw [List.set_getElem_self] at hmc
      have EY : Env D w [(wr.heap.size, 24, [.int .i64 dn[k].fr, .int .i64 dn[k].to_, .int .i64 dn[k].kd, .int .i64 dn[k].nm, .slice ea dn[k].body.length ek]), (lsg, 24, (((((cs.set (k * 5) (.int .i64 dn[k].fr)).set (k * 5 + 1) (.int .i64 dn[k].to_)).set (k * 5 + 2) (.int .i64 dn[k].kd)).set (k * 5 + 3) (.int .i64 dn[k].nm)).set (k * 5 + 4) (.slice nba dn[k].body.length nbk))), (w.heap.size + 1, 27, [.int .i64 0, .bool false, .int .i64 0, .int .i64 0, .int .i64 0, .int .i64 0, .slice none 0 0, .slice none 0 0, .int .i64 0]), (w.heap.size, 27, [.int .i64 nx, .bool wt, .int .i64 fr, .int .i64 to_, .int .i64 kd, .int .i64 nm, .slice rqa body.length rqk, .slice (some ⟨lsg, 0, none⟩) dn.length lsc, .int .i64 tr])] [.mc (((((cs.set (k * 5) (.int .i64 dn[k].fr)).set (k * 5 + 1) (.int .i64 dn[k].to_)).set (k * 5 + 2) (.int .i64 dn[k].kd)).set (k * 5 + 3) (.int .i64 dn[k].nm)).set (k * 5 + 4) (.slice nba dn[k].body.length nbk)) dn, .bs (.slice rqa body.length rqk) body, .ms (.slice (some ⟨db, df, none⟩) dn.length dj) dn, .bs (.slice xa body.length xk) body] _ := ⟨E10.out.bel, E10.out.box, ⟨hmc, ⟨E10.out.fc 3 rfl, ⟨E10.out.fc 4 rfl, ⟨E10.out.fc 5 rfl, trivial⟩⟩⟩⟩⟩
      have EZ := Lib.hid EY.drop
      clear EY
      have HK2 : Hid (((((((cs.set (k * 5) (.int .i64 dn[k].fr)).set (k * 5 + 1) (.int .i64 dn[k].to_)).set (k * 5 + 2) (.int .i64 dn[k].kd)).set (k * 5 + 3) (.int .i64 dn[k].nm)).set (k * 5 + 4) (.slice nba dn[k].body.length nbk))).length = lsc * 5) := Lib.hid (by simpa using HK.out)
      go_wp2
      go_roundg (dn.length - (k + 1))
      case rel => exact ⟨k + 1, _, rfl, EZ, Lib.hid ⟨⟨by omega, rfl⟩, HK2.out⟩⟩
      case measure => exact by omega
theorem copyAll_c {S : Ses} {D : Nat → Prop} {xa da : Option Addr} {xk dj : Nat} {w : World} (hl : S.rq.body.length ≤ 1000000) (hd : S.dn.length ≤ 1000000 ∧ ∀ k (h : k < S.dn.length), S.dn[k].body.length ≤ 1000000) (hx : Fct.at w D (.bs (.slice xa S.rq.body.length xk) S.rq.body)) (hy : Fct.at w D (.ms (.slice da S.dn.length dj) S.dn)) :
    Calls Try.prog 54 #[.agg #[.int .i64 S.nx, .bool S.wt, .int .i64 S.rq.fr, .int .i64 S.rq.to_, .int .i64 S.rq.kd, .int .i64 S.rq.nm, .slice xa S.rq.body.length xk, .slice da S.dn.length dj, .int .i64 S.tr]] w fun e w' => RetS (fun b => D b ∨ w.heap.size ≤ b) S e w' ∧ Below w.heap.size w w' := by
  obtain ⟨nx, wt, ⟨fr, to_, kd, nm, body⟩, dn, tr⟩ := S
  dsimp only at *
  cases dn with
  | nil => exact copyAll_nil nx fr to_ kd nm tr wt body hx hy hl
  | cons d dn =>
    obtain ⟨b, off, j, e⟩ := Ms.open hy (by simp)
    rw [e] at hy ⊢
    exact (copyAll_some nx fr to_ kd nm tr wt body _ hx hy hl hd).mono fun _ _ h => ⟨h.1.ret, h.2⟩
end Go.Proofs.Ytbcfcdcomboljaa

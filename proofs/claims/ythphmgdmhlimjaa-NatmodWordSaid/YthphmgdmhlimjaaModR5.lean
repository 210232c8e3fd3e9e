/- The reference: Over, Inverse, Crt. -/
import Derived.Test.YthphmgdmhlimjaaModR4
import Derived.Test.YthphmgdmhlimjaaMod4
namespace Go.Proofs.Ythphmgdmhlimjaa
open Go.RowKit NatMath
set_option linter.unusedVariables false

set_option maxRecDepth 100000 in
set_option maxHeartbeats 1000000 in
theorem rOver_w (ao : Option Addr) (ca : Nat) (bo : Option Addr) (cb : Nat) (N M : Nat)  (w : World) (ha : Nt w (.slice ao (len N) ca) N) (hb : Nt w (.slice bo (len M) cb) M) (h1 : len N ≤ 2000) (h2 : len M ≤ 2000) (h0 : M ≠ 0) :
    Calls Try.prog 66 #[.agg #[.slice ao (len N) ca], .agg #[.slice bo (len M) cb]] w fun e w' => RetV (N / M) e w' ∧ Below w.heap.size w w' := by
  have CB := Lib.hid (fun W ha => rBits_c (.slice ao (len N) ca) N W ha (by omega))
  have CT := Lib.hid (fun (j : Nat) W (hj : (j : Int) ≤ 9223372036854775807) ha => rBit_c (.slice ao (len N) ca) N j W ha hj)
  have hbe : bl N ≤ 64000 := by have := (len_le_bits (n := N) (k := 2000)).2 h1; omega
  have HS : Hid (OvI N M (bl N) (bl N) 0 0 (bl N)) := Lib.hid (OvI.start N M)
  have HBE : Hid (bl N ≤ 64000) := Lib.hid hbe
  have CP := Lib.hid (fun (u v : Value) (X Y : Nat) W hx hy ha hb => @rPlus_c u v X Y (X + Y) W rfl hx hy ha hb)
  have CL := Lib.hid (fun (v : Value) (X : Nat) (t : Bool) W ht ha hb => @rLess_c v (.slice bo (len M) cb) X M t W ht ha hb)
  have CM := Lib.hid (fun (v : Value) (X : Nat) W hl hx ha hb => @rMinus_c v (.slice bo (len M) cb) X M (X - M) W rfl hl hx ha hb)
  have HN : Hid (len N ≤ 2000 ∧ M ≠ 0 ∧ len M ≤ 2000) := Lib.hid ⟨h1, h0, h2⟩
  clear h1 h0 h2 hbe
  have E0 : Hid (EnvB w [] [(.slice bo (len M) cb, digs M), (.slice ao (len N) ca, digs N)] w) := Lib.hid (((EnvB.start w).numN ha).numN hb)
  clear ha hb
  go_enter Try.func66, Try.ntmps66
  generalize hbl : bl N = n at CB
  have HBL := Lib.hid hbl
  clear hbl
  have hn48 : (n : Int) ≤ 1000000 := by have h1 := HBE.out; rw [HBL.out] at h1; omega
  have hn0 : 0 ≤ (n : Int) := by omega
  go_wp2_with fail
  have E1 : Hid (EnvB w [(w.heap.size + 1 + 1 + 1 + 1, .slice none 0 0), (w.heap.size + 1 + 1 + 1, .slice none 0 0), (w.heap.size + 1 + 1, .slice none 0 0), (w.heap.size + 1, .slice bo (len M) cb), (w.heap.size, .slice ao (len N) ca)] [(.slice bo (len M) cb, digs M), (.slice ao (len N) ca, digs N)] _) := Lib.hid ((((((E0.out.push (.slice ao (len N) ca) 24 ⟨_, _, _, rfl⟩ (w.heap.size) (by simp)).push (.slice bo (len M) cb) 24 ⟨_, _, _, rfl⟩ (w.heap.size + 1) (by simp)).push (.slice none 0 0) 24 ⟨_, _, _, rfl⟩ (w.heap.size + 1 + 1) (by simp)).push (.slice none 0 0) 24 ⟨_, _, _, rfl⟩ (w.heap.size + 1 + 1 + 1) (by simp)).push (.slice none 0 0) 24 ⟨_, _, _, rfl⟩ (w.heap.size + 1 + 1 + 1 + 1) (by simp)))
  refine (CB.out _ (E1.out.nt 1 rfl)).mono ?_
  rintro e w1 ⟨rfl, hb⟩
  have E2 : Hid (EnvB w [(w.heap.size + 1 + 1 + 1 + 1, .slice none 0 0), (w.heap.size + 1 + 1 + 1, .slice none 0 0), (w.heap.size + 1 + 1, .slice none 0 0), (w.heap.size + 1, .slice bo (len M) cb), (w.heap.size, .slice ao (len N) ca)] [(.slice bo (len M) cb, digs M), (.slice ao (len N) ca, digs N)] _) := Lib.hid ((E1.out.below hb))
  clear E1 E0 hb
  have E3 : Hid (EnvB w [(w.heap.size + 1 + 1 + 1 + 1, .slice none 0 0), (w.heap.size + 1 + 1 + 1, .slice none (len 0) 0), (w.heap.size + 1 + 1, .slice none 0 0), (w.heap.size + 1, .slice bo (len M) cb), (w.heap.size, .slice ao (len N) ca)] [(.slice none (len 0) 0, digs 0), (.slice bo (len M) cb, digs M), (.slice ao (len N) ca, digs N)] _) := Lib.hid (by have hz := (E2.out.numN (Nt.zero _ : Nt _ _ 0)); simp only [len_zero] at hz ⊢; exact hz)
  have E4 : Hid (EnvB w [(w.heap.size + 1 + 1 + 1 + 1, .slice none (len 0) 0), (w.heap.size + 1 + 1 + 1, .slice none (len 0) 0), (w.heap.size + 1 + 1, .slice none 0 0), (w.heap.size + 1, .slice bo (len M) cb), (w.heap.size, .slice ao (len N) ca)] [(.slice none (len 0) 0, digs 0), (.slice bo (len M) cb, digs M), (.slice ao (len N) ca, digs N)] _) := Lib.hid (by have hz := E3.out; simp only [len_zero] at hz ⊢; exact hz)
  go_wp2_with fail
  go_loopg [7] (n) (fun gk s7 wr => ∃ (k Q R : Nat) (qo ro : Option Addr) (qc rc : Nat), s7 = .int .i64 ((k : Int) - 1) ∧ Hid (EnvB w [(w.heap.size + 1 + 1 + 1 + 1, .slice ro (len R) rc), (w.heap.size + 1 + 1 + 1, .slice qo (len Q) qc), (w.heap.size + 1 + 1, .slice none 0 0), (w.heap.size + 1, .slice bo (len M) cb), (w.heap.size, .slice ao (len N) ca)] [(.slice ro (len R) rc, digs R), (.slice qo (len Q) qc, digs Q), (.slice bo (len M) cb, digs M), (.slice ao (len N) ca, digs N)] wr) ∧ Hid (OvI N M n k Q R gk))
  case atStart => exact ⟨n, 0, 0, none, none, 0, 0, rfl, Lib.hid ⟨E4.out.1, E4.out.2.1, ⟨E4.out.sl 0 rfl, ⟨E4.out.sl 0 rfl, ⟨E4.out.sl 1 rfl, ⟨E4.out.sl 2 rfl, trivial⟩⟩⟩⟩⟩, Lib.hid (HBL.out ▸ HS.out)⟩
  case round =>
    clear E4 E2 E3 HS CB
    obtain ⟨k, Q, R, qo, ro, qc, rc, rfl, EL, HA⟩ := hrel
    by_cases hy : k = 0
    · obtain ⟨a1, a2, a3, a4⟩ := HA.out
      have t1 : decide (0 ≤ (k : Int) - 1) = false := decide_eq_false (by omega)
      have t2 : decide (1 ≤ (k : Int)) = false := decide_eq_false (by omega)
      have HP : Hid (Q = N / M) := Lib.hid (by rw [a3, hy]; simp)
      clear HA a1 a2 a3 a4 hy HBE HN CP CL CM CT
      obtain ⟨p1, f1, -, -, -⟩ := EL.out.box 1 rfl
      obtain ⟨p2, f2, -, -, -⟩ := EL.out.box 2 rfl
      have E5 : Hid (EnvB w [(w.heap.size + 1 + 1 + 1 + 1, .slice ro (len R) rc), (w.heap.size + 1 + 1 + 1, .slice qo (len Q) qc), (w.heap.size + 1 + 1, .slice qo (len Q) qc), (w.heap.size + 1, .slice bo (len M) cb), (w.heap.size, .slice ao (len N) ca)] [(.slice ro (len R) rc, digs R), (.slice qo (len Q) qc, digs Q), (.slice bo (len M) cb, digs M), (.slice ao (len N) ca, digs N)] _) := Lib.hid ((EL.out.set 2 (.slice qo (len Q) qc) rfl ⟨_, _, _, rfl⟩))
      have hfin := Lib.hid E5.out
      obtain ⟨rc, -, -, -, -⟩ := E5.out.box 2 rfl
      go_wp2
      exact bodyPost_ret (v := .agg #[.slice qo (len Q) qc]) (by simp [results, Try.results66, go_sem, rc]) rfl ⟨HP.out ▸ ⟨_, _, rfl, Lib.hid (hfin.out.nt 1 rfl)⟩, hfin.out.1⟩
    · obtain ⟨j, rfl⟩ : ∃ j, k = j + 1 := ⟨k - 1, by omega⟩
      have ej : (((j + 1 : Nat) : Int) - 1) = (j : Int) := by omega
      rw [ej]
      obtain ⟨a1, a2, a3, a4⟩ := HA.out
      have hj : (j : Int) ≤ 9223372036854775807 := by omega
      have t1 : decide (0 ≤ (j : Int)) = true := decide_eq_true (by omega)
      have HM : Hid (j < gk) := Lib.hid (by omega)
      have CTj := Lib.hid (fun W ha => CT.out j W hj ha)
      have hq : len Q ≤ 2000 := by rw [a3]; exact Nat.le_trans (len_le_of_le (Nat.le_trans (Nat.div_le_self _ _) (Nat.div_le_self _ _))) HN.out.1
      have hr : len R ≤ 2000 := by rw [a4]; exact Nat.le_trans (len_le_of_le (Nat.le_of_lt (Nat.mod_lt _ (Nat.pos_of_ne_zero HN.out.2.1)))) HN.out.2.2
      have hq2 : len (Q + Q) ≤ 2001 := len_add_le hq hq (by omega)
      have hr2 : len (R + R) ≤ 2001 := len_add_le hr hr (by omega)
      have l1 : len 1 ≤ 2001 := by rw [len_one]; omega
      have hr3 : len (R + R + 1) ≤ 2002 := len_add_le hr2 l1 (by omega)
      cases ht : bt N j
      · have hst := over_step HA.out HN.out.2.1 false ht
        simp only [b1, Bool.false_eq_true, if_false, Nat.add_zero] at hst
        have CTt : Hid (∀ W, Nt W (.slice ao (len N) ca) N → Calls Try.prog 72 #[.agg #[.slice ao (len N) ca], .int .i64 (j : Int)] W fun e w' => e = .returned (.bool false) ∧ Below W.heap.size W w') := Lib.hid (by rw [← ht]; exact CTj.out)
        have CP1 := Lib.hid (fun (u : Value) W ha hb => CP.out u u R R W (by omega) (by omega) ha hb)
        have CP2 := Lib.hid (fun (u : Value) W ha hb => CP.out u u Q Q W (by omega) (by omega) ha hb)
        have CP4 := Lib.hid (fun (u v : Value) W ha hb => CP.out u v (Q + Q) 1 W (by omega) (by omega) ha hb)
        by_cases hle : R + R < M
        · have HK2 := Lib.hid (hst.2 (by omega))
          have CL1 := Lib.hid (fun (v : Value) W ha hb => CL.out v (R + R) true W (decide_eq_true hle) ha hb)
          clear a1 a2 a3 a4 HA hy ej hst CP CL CM CT CTj HN HBE ht hq hr hq2 hr2 hr3 l1 hle
          generalize R + R = X at *
          generalize Q + Q = U at *
          go_wp2_with fail
          have bx0 := Lib.hid (EL.out.box 0 rfl)
          have bx1 := Lib.hid (EL.out.box 1 rfl)
          refine' wp_region_phase (by kernel_rfl) [0, 1, 2, 3, 4, 5] (by kernel_rfl) #[true, true, true, true, true, true, false, false] (by kernel_rfl) 2 (by kernel_rfl) [PEq (.agg #[.slice ro (len R) rc]), PEq (.agg #[.slice ro (len R) rc]), PNum (X), PEq (.agg #[.slice qo (len Q) qc]), PEq (.agg #[.slice qo (len Q) qc]), PNum (U), Fact.none, Fact.none] (List.forall_mem_cons.2 ⟨PEq.st _, List.forall_mem_cons.2 ⟨PEq.st _, List.forall_mem_cons.2 ⟨PNum.st _, List.forall_mem_cons.2 ⟨PEq.st _, List.forall_mem_cons.2 ⟨PEq.st _, List.forall_mem_cons.2 ⟨PNum.st _, List.forall_mem_cons.2 ⟨Fact.none_st, List.forall_mem_cons.2 ⟨Fact.none_st, List.forall_mem_nil _⟩⟩⟩⟩⟩⟩⟩⟩) _ ?hFr1 ?stepr1 ?doner1
          case hFr1 => intro x; simp only [frameL, Act.put, List.setIfInBounds_toArray, List.set_cons_zero, List.set_cons_succ, Nat.zero_add, Nat.reduceAdd]; exact rfl
          case stepr1 =>
            refine List.forall_mem_cons.2 ⟨?_, ?_⟩
            · intro xv bv ev WW hB hdp
              refine op_of rfl ?_
              clear hdp
              intro KK hKK
              obtain ⟨z, -, -, -, -⟩ := bx0.out.below hB
              go_simp
              exact act_eq (hKK.out (.agg #[.slice ro (len R) rc]) _ (Below.refl _ _) rfl) (by first | rfl | simp [upd])
            refine List.forall_mem_cons.2 ⟨?_, ?_⟩
            · intro xv bv ev WW hB hdp
              refine op_of rfl ?_
              clear hdp
              intro KK hKK
              obtain ⟨z, -, -, -, -⟩ := bx0.out.below hB
              go_simp
              exact act_eq (hKK.out (.agg #[.slice ro (len R) rc]) _ (Below.refl _ _) rfl) (by first | rfl | simp [upd])
            refine List.forall_mem_cons.2 ⟨?_, ?_⟩
            · intro xv bv ev WW hB hdp
              refine op_of rfl ?_
              have ed0 : xv 0 = .agg #[.slice ro (len R) rc] := hdp 0 (by kernel_rfl)
              have ed1 : xv 1 = .agg #[.slice ro (len R) rc] := hdp 1 (by kernel_rfl)
              clear hdp
              intro KK hKK
              go_simp
              refine (CP1.out _ _ ((EL.out.below hB).nt 0 rfl) ((EL.out.below hB).nt 0 rfl)).mono ?_
              rintro e WW' ⟨⟨xa, xk, rfl, hx⟩, hb⟩
              (try dsimp only)
              (try simp only [Act.put, List.setIfInBounds_toArray, List.set_cons_zero, List.set_cons_succ])
              exact act_eq (hKK.out _ _ hb ⟨_, _, rfl, hx⟩) (by first | rfl | simp [upd, ed0, ed1])
            refine List.forall_mem_cons.2 ⟨?_, ?_⟩
            · intro xv bv ev WW hB hdp
              refine op_of rfl ?_
              clear hdp
              intro KK hKK
              obtain ⟨z, -, -, -, -⟩ := bx1.out.below hB
              go_simp
              exact act_eq (hKK.out (.agg #[.slice qo (len Q) qc]) _ (Below.refl _ _) rfl) (by first | rfl | simp [upd])
            refine List.forall_mem_cons.2 ⟨?_, ?_⟩
            · intro xv bv ev WW hB hdp
              refine op_of rfl ?_
              clear hdp
              intro KK hKK
              obtain ⟨z, -, -, -, -⟩ := bx1.out.below hB
              go_simp
              exact act_eq (hKK.out (.agg #[.slice qo (len Q) qc]) _ (Below.refl _ _) rfl) (by first | rfl | simp [upd])
            refine List.forall_mem_cons.2 ⟨?_, ?_⟩
            · intro xv bv ev WW hB hdp
              refine op_of rfl ?_
              have ed3 : xv 3 = .agg #[.slice qo (len Q) qc] := hdp 3 (by kernel_rfl)
              have ed4 : xv 4 = .agg #[.slice qo (len Q) qc] := hdp 4 (by kernel_rfl)
              clear hdp
              intro KK hKK
              go_simp
              refine (CP2.out _ _ ((EL.out.below hB).nt 1 rfl) ((EL.out.below hB).nt 1 rfl)).mono ?_
              rintro e WW' ⟨⟨ua, uk, rfl, hu⟩, hb⟩
              (try dsimp only)
              (try simp only [Act.put, List.setIfInBounds_toArray, List.set_cons_zero, List.set_cons_succ])
              exact act_eq (hKK.out _ _ hb ⟨_, _, rfl, hu⟩) (by first | rfl | simp [upd, ed3, ed4])
            exact List.forall_mem_nil _
          intro xv bv ev w2 hB hR hO
          have ed0 : xv 0 = .agg #[.slice ro (len R) rc] := hR 0 (by kernel_rfl)
          have ed1 : xv 1 = .agg #[.slice ro (len R) rc] := hR 1 (by kernel_rfl)
          obtain ⟨xa, xk, ed2, hx⟩ := (show (PNum (X)) (xv 2) (bv 2) (ev 2) w2 from hR 2 (by kernel_rfl))
          have ed3 : xv 3 = .agg #[.slice qo (len Q) qc] := hR 3 (by kernel_rfl)
          have ed4 : xv 4 = .agg #[.slice qo (len Q) qc] := hR 4 (by kernel_rfl)
          obtain ⟨ua, uk, ed5, hu⟩ := (show (PNum (U)) (xv 5) (bv 5) (ev 5) w2 from hR 5 (by kernel_rfl))
          simp only [ed0, ed1, ed2, ed3, ed4, ed5]
          have E5 : Hid (EnvB w [(w.heap.size + 1 + 1 + 1 + 1, .slice ro (len R) rc), (w.heap.size + 1 + 1 + 1, .slice qo (len Q) qc), (w.heap.size + 1 + 1, .slice none 0 0), (w.heap.size + 1, .slice bo (len M) cb), (w.heap.size, .slice ao (len N) ca)] [(.slice ua (len U) uk, digs U), (.slice xa (len X) xk, digs X), (.slice ro (len R) rc, digs R), (.slice qo (len Q) qc, digs Q), (.slice bo (len M) cb, digs M), (.slice ao (len N) ca, digs N)] _) := Lib.hid ((((EL.out.below hB).numN (hx.out : Nt _ _ (X))).numN (hu.out : Nt _ _ (U))))
          clear EL hB hR hO bx0 bx1 ed0 ed1 ed2 ed3 ed4 ed5 hx hu
          obtain ⟨p1, f1, -, -, -⟩ := E5.out.box 0 rfl
          refine wpAny_next (i := 6) (by kernel_rfl) rfl (fun KK hKK => ?_)
          go_simp
          have E6 : Hid (EnvB w [(w.heap.size + 1 + 1 + 1 + 1, .slice xa (len X) xk), (w.heap.size + 1 + 1 + 1, .slice qo (len Q) qc), (w.heap.size + 1 + 1, .slice none 0 0), (w.heap.size + 1, .slice bo (len M) cb), (w.heap.size, .slice ao (len N) ca)] [(.slice ua (len U) uk, digs U), (.slice xa (len X) xk, digs X), (.slice ro (len R) rc, digs R), (.slice qo (len Q) qc, digs Q), (.slice bo (len M) cb, digs M), (.slice ao (len N) ca, digs N)] _) := Lib.hid ((E5.out.set 0 (.slice xa (len X) xk) rfl ⟨_, _, _, rfl⟩))
          refine hKK.out _ _ ?_
          clear hKK KK
          obtain ⟨p2, f2, -, -, -⟩ := E6.out.box 1 rfl
          refine wpAny_next (i := 7) (by kernel_rfl) rfl (fun KK hKK => ?_)
          go_simp
          have E7 : Hid (EnvB w [(w.heap.size + 1 + 1 + 1 + 1, .slice xa (len X) xk), (w.heap.size + 1 + 1 + 1, .slice ua (len U) uk), (w.heap.size + 1 + 1, .slice none 0 0), (w.heap.size + 1, .slice bo (len M) cb), (w.heap.size, .slice ao (len N) ca)] [(.slice ua (len U) uk, digs U), (.slice xa (len X) xk, digs X), (.slice ro (len R) rc, digs R), (.slice qo (len Q) qc, digs Q), (.slice bo (len M) cb, digs M), (.slice ao (len N) ca, digs N)] _) := Lib.hid ((E6.out.set 1 (.slice ua (len U) uk) rfl ⟨_, _, _, rfl⟩))
          refine hKK.out _ _ ?_
          clear hKK KK
          refine wpAny_done (by kernel_rfl) ?_ _
          obtain ⟨p3, f3, -, -, -⟩ := E7.out.box 4 rfl
          go_wp2_with fail
          refine (CTt.out _ (E7.out.nt 5 rfl)).mono ?_
          rintro e w3 ⟨rfl, hb⟩
          have E8 : Hid (EnvB w [(w.heap.size + 1 + 1 + 1 + 1, .slice xa (len X) xk), (w.heap.size + 1 + 1 + 1, .slice ua (len U) uk), (w.heap.size + 1 + 1, .slice none 0 0), (w.heap.size + 1, .slice bo (len M) cb), (w.heap.size, .slice ao (len N) ca)] [(.slice ua (len U) uk, digs U), (.slice xa (len X) xk, digs X), (.slice ro (len R) rc, digs R), (.slice qo (len Q) qc, digs Q), (.slice bo (len M) cb, digs M), (.slice ao (len N) ca, digs N)] _) := Lib.hid ((E7.out.below hb))
          clear p1 f1 p2 f2 p3 f3 E7 E5 E6 hb
          obtain ⟨p4, f4, -, -, -⟩ := E8.out.box 0 rfl
          obtain ⟨p5, f5, -, -, -⟩ := E8.out.box 3 rfl
          go_wp2_with fail
          refine (CL1.out _ _ (E8.out.nt 1 rfl) (E8.out.nt 4 rfl)).mono ?_
          rintro e w4 ⟨rfl, hb⟩
          have E9 : Hid (EnvB w [(w.heap.size + 1 + 1 + 1 + 1, .slice xa (len X) xk), (w.heap.size + 1 + 1 + 1, .slice ua (len U) uk), (w.heap.size + 1 + 1, .slice none 0 0), (w.heap.size + 1, .slice bo (len M) cb), (w.heap.size, .slice ao (len N) ca)] [(.slice ua (len U) uk, digs U), (.slice xa (len X) xk, digs X), (.slice ro (len R) rc, digs R), (.slice qo (len Q) qc, digs Q), (.slice bo (len M) cb, digs M), (.slice ao (len N) ca, digs N)] _) := Lib.hid ((E8.out.below hb))
          clear p4 f4 p5 f5 E8 hb
          have EZ := Lib.hid E9.out
          go_wp2
          go_roundg (j)
          case rel => exact ⟨j, U, X, ua, xa, uk, xk, rfl, Lib.hid ⟨EZ.out.1, EZ.out.2.1, ⟨EZ.out.sl 1 rfl, ⟨EZ.out.sl 0 rfl, ⟨EZ.out.sl 4 rfl, ⟨EZ.out.sl 5 rfl, trivial⟩⟩⟩⟩⟩, HK2⟩
          case measure => exact HM.out
        · have HK2 := Lib.hid (hst.1 (by omega))
          have CL1 := Lib.hid (fun (v : Value) W ha hb => CL.out v (R + R) false W (decide_eq_false hle) ha hb)
          have CM1 := Lib.hid (fun (v : Value) W ha hb => CM.out v (R + R) W (by omega) (by omega) ha hb)
          clear a1 a2 a3 a4 HA hy ej hst CP CL CM CT CTj HN HBE ht hq hr hq2 hr2 hr3 l1 hle
          generalize R + R - M = D at *
          generalize Q + Q + 1 = F at *
          generalize R + R = X at *
          generalize Q + Q = U at *
          go_wp2_with fail
          have bx0 := Lib.hid (EL.out.box 0 rfl)
          have bx1 := Lib.hid (EL.out.box 1 rfl)
          refine' wp_region_phase (by kernel_rfl) [0, 1, 2, 3, 4, 5] (by kernel_rfl) #[true, true, true, true, true, true, false, false] (by kernel_rfl) 2 (by kernel_rfl) [PEq (.agg #[.slice ro (len R) rc]), PEq (.agg #[.slice ro (len R) rc]), PNum (X), PEq (.agg #[.slice qo (len Q) qc]), PEq (.agg #[.slice qo (len Q) qc]), PNum (U), Fact.none, Fact.none] (List.forall_mem_cons.2 ⟨PEq.st _, List.forall_mem_cons.2 ⟨PEq.st _, List.forall_mem_cons.2 ⟨PNum.st _, List.forall_mem_cons.2 ⟨PEq.st _, List.forall_mem_cons.2 ⟨PEq.st _, List.forall_mem_cons.2 ⟨PNum.st _, List.forall_mem_cons.2 ⟨Fact.none_st, List.forall_mem_cons.2 ⟨Fact.none_st, List.forall_mem_nil _⟩⟩⟩⟩⟩⟩⟩⟩) _ ?hFr2 ?stepr2 ?doner2
          case hFr2 => intro x; simp only [frameL, Act.put, List.setIfInBounds_toArray, List.set_cons_zero, List.set_cons_succ, Nat.zero_add, Nat.reduceAdd]; exact rfl
          case stepr2 =>
            refine List.forall_mem_cons.2 ⟨?_, ?_⟩
            · intro xv bv ev WW hB hdp
              refine op_of rfl ?_
              clear hdp
              intro KK hKK
              obtain ⟨z, -, -, -, -⟩ := bx0.out.below hB
              go_simp
              exact act_eq (hKK.out (.agg #[.slice ro (len R) rc]) _ (Below.refl _ _) rfl) (by first | rfl | simp [upd])
            refine List.forall_mem_cons.2 ⟨?_, ?_⟩
            · intro xv bv ev WW hB hdp
              refine op_of rfl ?_
              clear hdp
              intro KK hKK
              obtain ⟨z, -, -, -, -⟩ := bx0.out.below hB
              go_simp
              exact act_eq (hKK.out (.agg #[.slice ro (len R) rc]) _ (Below.refl _ _) rfl) (by first | rfl | simp [upd])
            refine List.forall_mem_cons.2 ⟨?_, ?_⟩
            · intro xv bv ev WW hB hdp
              refine op_of rfl ?_
              have ed0 : xv 0 = .agg #[.slice ro (len R) rc] := hdp 0 (by kernel_rfl)
              have ed1 : xv 1 = .agg #[.slice ro (len R) rc] := hdp 1 (by kernel_rfl)
              clear hdp
              intro KK hKK
              go_simp
              refine (CP1.out _ _ ((EL.out.below hB).nt 0 rfl) ((EL.out.below hB).nt 0 rfl)).mono ?_
              rintro e WW' ⟨⟨xa, xk, rfl, hx⟩, hb⟩
              (try dsimp only)
              (try simp only [Act.put, List.setIfInBounds_toArray, List.set_cons_zero, List.set_cons_succ])
              exact act_eq (hKK.out _ _ hb ⟨_, _, rfl, hx⟩) (by first | rfl | simp [upd, ed0, ed1])
            refine List.forall_mem_cons.2 ⟨?_, ?_⟩
            · intro xv bv ev WW hB hdp
              refine op_of rfl ?_
              clear hdp
              intro KK hKK
              obtain ⟨z, -, -, -, -⟩ := bx1.out.below hB
              go_simp
              exact act_eq (hKK.out (.agg #[.slice qo (len Q) qc]) _ (Below.refl _ _) rfl) (by first | rfl | simp [upd])
            refine List.forall_mem_cons.2 ⟨?_, ?_⟩
            · intro xv bv ev WW hB hdp
              refine op_of rfl ?_
              clear hdp
              intro KK hKK
              obtain ⟨z, -, -, -, -⟩ := bx1.out.below hB
              go_simp
              exact act_eq (hKK.out (.agg #[.slice qo (len Q) qc]) _ (Below.refl _ _) rfl) (by first | rfl | simp [upd])
            refine List.forall_mem_cons.2 ⟨?_, ?_⟩
            · intro xv bv ev WW hB hdp
              refine op_of rfl ?_
              have ed3 : xv 3 = .agg #[.slice qo (len Q) qc] := hdp 3 (by kernel_rfl)
              have ed4 : xv 4 = .agg #[.slice qo (len Q) qc] := hdp 4 (by kernel_rfl)
              clear hdp
              intro KK hKK
              go_simp
              refine (CP2.out _ _ ((EL.out.below hB).nt 1 rfl) ((EL.out.below hB).nt 1 rfl)).mono ?_
              rintro e WW' ⟨⟨ua, uk, rfl, hu⟩, hb⟩
              (try dsimp only)
              (try simp only [Act.put, List.setIfInBounds_toArray, List.set_cons_zero, List.set_cons_succ])
              exact act_eq (hKK.out _ _ hb ⟨_, _, rfl, hu⟩) (by first | rfl | simp [upd, ed3, ed4])
            exact List.forall_mem_nil _
          intro xv bv ev w2 hB hR hO
          have ed0 : xv 0 = .agg #[.slice ro (len R) rc] := hR 0 (by kernel_rfl)
          have ed1 : xv 1 = .agg #[.slice ro (len R) rc] := hR 1 (by kernel_rfl)
          obtain ⟨xa, xk, ed2, hx⟩ := (show (PNum (X)) (xv 2) (bv 2) (ev 2) w2 from hR 2 (by kernel_rfl))
          have ed3 : xv 3 = .agg #[.slice qo (len Q) qc] := hR 3 (by kernel_rfl)
          have ed4 : xv 4 = .agg #[.slice qo (len Q) qc] := hR 4 (by kernel_rfl)
          obtain ⟨ua, uk, ed5, hu⟩ := (show (PNum (U)) (xv 5) (bv 5) (ev 5) w2 from hR 5 (by kernel_rfl))
          simp only [ed0, ed1, ed2, ed3, ed4, ed5]
          have E5 : Hid (EnvB w [(w.heap.size + 1 + 1 + 1 + 1, .slice ro (len R) rc), (w.heap.size + 1 + 1 + 1, .slice qo (len Q) qc), (w.heap.size + 1 + 1, .slice none 0 0), (w.heap.size + 1, .slice bo (len M) cb), (w.heap.size, .slice ao (len N) ca)] [(.slice ua (len U) uk, digs U), (.slice xa (len X) xk, digs X), (.slice ro (len R) rc, digs R), (.slice qo (len Q) qc, digs Q), (.slice bo (len M) cb, digs M), (.slice ao (len N) ca, digs N)] _) := Lib.hid ((((EL.out.below hB).numN (hx.out : Nt _ _ (X))).numN (hu.out : Nt _ _ (U))))
          clear EL hB hR hO bx0 bx1 ed0 ed1 ed2 ed3 ed4 ed5 hx hu
          obtain ⟨p1, f1, -, -, -⟩ := E5.out.box 0 rfl
          refine wpAny_next (i := 6) (by kernel_rfl) rfl (fun KK hKK => ?_)
          go_simp
          have E6 : Hid (EnvB w [(w.heap.size + 1 + 1 + 1 + 1, .slice xa (len X) xk), (w.heap.size + 1 + 1 + 1, .slice qo (len Q) qc), (w.heap.size + 1 + 1, .slice none 0 0), (w.heap.size + 1, .slice bo (len M) cb), (w.heap.size, .slice ao (len N) ca)] [(.slice ua (len U) uk, digs U), (.slice xa (len X) xk, digs X), (.slice ro (len R) rc, digs R), (.slice qo (len Q) qc, digs Q), (.slice bo (len M) cb, digs M), (.slice ao (len N) ca, digs N)] _) := Lib.hid ((E5.out.set 0 (.slice xa (len X) xk) rfl ⟨_, _, _, rfl⟩))
          refine hKK.out _ _ ?_
          clear hKK KK
          obtain ⟨p2, f2, -, -, -⟩ := E6.out.box 1 rfl
          refine wpAny_next (i := 7) (by kernel_rfl) rfl (fun KK hKK => ?_)
          go_simp
          have E7 : Hid (EnvB w [(w.heap.size + 1 + 1 + 1 + 1, .slice xa (len X) xk), (w.heap.size + 1 + 1 + 1, .slice ua (len U) uk), (w.heap.size + 1 + 1, .slice none 0 0), (w.heap.size + 1, .slice bo (len M) cb), (w.heap.size, .slice ao (len N) ca)] [(.slice ua (len U) uk, digs U), (.slice xa (len X) xk, digs X), (.slice ro (len R) rc, digs R), (.slice qo (len Q) qc, digs Q), (.slice bo (len M) cb, digs M), (.slice ao (len N) ca, digs N)] _) := Lib.hid ((E6.out.set 1 (.slice ua (len U) uk) rfl ⟨_, _, _, rfl⟩))
          refine hKK.out _ _ ?_
          clear hKK KK
          refine wpAny_done (by kernel_rfl) ?_ _
          obtain ⟨p3, f3, -, -, -⟩ := E7.out.box 4 rfl
          go_wp2_with fail
          refine (CTt.out _ (E7.out.nt 5 rfl)).mono ?_
          rintro e w3 ⟨rfl, hb⟩
          have E8 : Hid (EnvB w [(w.heap.size + 1 + 1 + 1 + 1, .slice xa (len X) xk), (w.heap.size + 1 + 1 + 1, .slice ua (len U) uk), (w.heap.size + 1 + 1, .slice none 0 0), (w.heap.size + 1, .slice bo (len M) cb), (w.heap.size, .slice ao (len N) ca)] [(.slice ua (len U) uk, digs U), (.slice xa (len X) xk, digs X), (.slice ro (len R) rc, digs R), (.slice qo (len Q) qc, digs Q), (.slice bo (len M) cb, digs M), (.slice ao (len N) ca, digs N)] _) := Lib.hid ((E7.out.below hb))
          clear p1 f1 p2 f2 p3 f3 E7 E5 E6 hb
          obtain ⟨p4, f4, -, -, -⟩ := E8.out.box 0 rfl
          obtain ⟨p5, f5, -, -, -⟩ := E8.out.box 3 rfl
          go_wp2_with fail
          refine (CL1.out _ _ (E8.out.nt 1 rfl) (E8.out.nt 4 rfl)).mono ?_
          rintro e w4 ⟨rfl, hb⟩
          have E9 : Hid (EnvB w [(w.heap.size + 1 + 1 + 1 + 1, .slice xa (len X) xk), (w.heap.size + 1 + 1 + 1, .slice ua (len U) uk), (w.heap.size + 1 + 1, .slice none 0 0), (w.heap.size + 1, .slice bo (len M) cb), (w.heap.size, .slice ao (len N) ca)] [(.slice ua (len U) uk, digs U), (.slice xa (len X) xk, digs X), (.slice ro (len R) rc, digs R), (.slice qo (len Q) qc, digs Q), (.slice bo (len M) cb, digs M), (.slice ao (len N) ca, digs N)] _) := Lib.hid ((E8.out.below hb))
          clear p4 f4 p5 f5 E8 hb
          go_wp2_with fail
          have bx0 := Lib.hid (E9.out.box 0 rfl)
          have bx1 := Lib.hid (E9.out.box 3 rfl)
          have bx2 := Lib.hid (E9.out.box 1 rfl)
          refine' wp_region_phase (by kernel_rfl) [0, 1, 2, 3, 4, 5] (by kernel_rfl) #[true, true, true, true, true, true, false, false] (by kernel_rfl) 2 (by kernel_rfl) [PEq (.agg #[.slice xa (len X) xk]), PEq (.agg #[.slice bo (len M) cb]), PNum (D), PEq (.agg #[.slice ua (len U) uk]), PNum (1), PNum (F), Fact.none, Fact.none] (List.forall_mem_cons.2 ⟨PEq.st _, List.forall_mem_cons.2 ⟨PEq.st _, List.forall_mem_cons.2 ⟨PNum.st _, List.forall_mem_cons.2 ⟨PEq.st _, List.forall_mem_cons.2 ⟨PNum.st _, List.forall_mem_cons.2 ⟨PNum.st _, List.forall_mem_cons.2 ⟨Fact.none_st, List.forall_mem_cons.2 ⟨Fact.none_st, List.forall_mem_nil _⟩⟩⟩⟩⟩⟩⟩⟩) _ ?hFr3 ?stepr3 ?doner3
          case hFr3 => intro x; simp only [frameL, Act.put, List.setIfInBounds_toArray, List.set_cons_zero, List.set_cons_succ, Nat.zero_add, Nat.reduceAdd]; exact rfl
          case stepr3 =>
            refine List.forall_mem_cons.2 ⟨?_, ?_⟩
            · intro xv bv ev WW hB hdp
              refine op_of rfl ?_
              clear hdp
              intro KK hKK
              obtain ⟨z, -, -, -, -⟩ := bx0.out.below hB
              go_simp
              exact act_eq (hKK.out (.agg #[.slice xa (len X) xk]) _ (Below.refl _ _) rfl) (by first | rfl | simp [upd])
            refine List.forall_mem_cons.2 ⟨?_, ?_⟩
            · intro xv bv ev WW hB hdp
              refine op_of rfl ?_
              clear hdp
              intro KK hKK
              obtain ⟨z, -, -, -, -⟩ := bx1.out.below hB
              go_simp
              exact act_eq (hKK.out (.agg #[.slice bo (len M) cb]) _ (Below.refl _ _) rfl) (by first | rfl | simp [upd])
            refine List.forall_mem_cons.2 ⟨?_, ?_⟩
            · intro xv bv ev WW hB hdp
              refine op_of rfl ?_
              have ed0 : xv 0 = .agg #[.slice xa (len X) xk] := hdp 0 (by kernel_rfl)
              have ed1 : xv 1 = .agg #[.slice bo (len M) cb] := hdp 1 (by kernel_rfl)
              clear hdp
              intro KK hKK
              go_simp
              refine (CM1.out _ _ ((E9.out.below hB).nt 1 rfl) ((E9.out.below hB).nt 4 rfl)).mono ?_
              rintro e WW' ⟨⟨da, dk, rfl, hd⟩, hb⟩
              (try dsimp only)
              (try simp only [Act.put, List.setIfInBounds_toArray, List.set_cons_zero, List.set_cons_succ])
              exact act_eq (hKK.out _ _ hb ⟨_, _, rfl, hd⟩) (by first | rfl | simp [upd, ed0, ed1])
            refine List.forall_mem_cons.2 ⟨?_, ?_⟩
            · intro xv bv ev WW hB hdp
              refine op_of rfl ?_
              clear hdp
              intro KK hKK
              obtain ⟨z, -, -, -, -⟩ := bx2.out.below hB
              go_simp
              exact act_eq (hKK.out (.agg #[.slice ua (len U) uk]) _ (Below.refl _ _) rfl) (by first | rfl | simp [upd])
            refine List.forall_mem_cons.2 ⟨?_, ?_⟩
            · intro xv bv ev WW hB hdp
              refine op_of rfl ?_
              clear hdp
              intro KK hKK
              go_simp
              refine (rOf_c 1 _ (by decide)).mono ?_
              rintro e WW' ⟨⟨la, lk, rfl, hl⟩, hb⟩
              (try dsimp only)
              (try simp only [Act.put, List.setIfInBounds_toArray, List.set_cons_zero, List.set_cons_succ])
              exact act_eq (hKK.out _ _ hb ⟨_, _, rfl, hl⟩) (by first | rfl | simp [upd])
            refine List.forall_mem_cons.2 ⟨?_, ?_⟩
            · intro xv bv ev WW hB hdp
              refine op_of rfl ?_
              have ed3 : xv 3 = .agg #[.slice ua (len U) uk] := hdp 3 (by kernel_rfl)
              obtain ⟨la, lk, ed4, hl⟩ := (show (PNum (1)) (xv 4) (bv 4) (ev 4) WW from hdp 4 (by kernel_rfl))
              clear hdp
              intro KK hKK
              go_simp
              refine (CP4.out _ _ _ ((E9.out.below hB).nt 0 rfl) hl.out).mono ?_
              rintro e WW' ⟨⟨fa, fk, rfl, hf⟩, hb⟩
              (try dsimp only)
              (try simp only [Act.put, List.setIfInBounds_toArray, List.set_cons_zero, List.set_cons_succ])
              exact act_eq (hKK.out _ _ hb ⟨_, _, rfl, hf⟩) (by first | rfl | simp [upd, ed3, ed4])
            exact List.forall_mem_nil _
          intro xv bv ev w5 hB hR hO
          have ed0 : xv 0 = .agg #[.slice xa (len X) xk] := hR 0 (by kernel_rfl)
          have ed1 : xv 1 = .agg #[.slice bo (len M) cb] := hR 1 (by kernel_rfl)
          obtain ⟨da, dk, ed2, hd⟩ := (show (PNum (D)) (xv 2) (bv 2) (ev 2) w5 from hR 2 (by kernel_rfl))
          have ed3 : xv 3 = .agg #[.slice ua (len U) uk] := hR 3 (by kernel_rfl)
          obtain ⟨la, lk, ed4, hl⟩ := (show (PNum (1)) (xv 4) (bv 4) (ev 4) w5 from hR 4 (by kernel_rfl))
          obtain ⟨fa, fk, ed5, hf⟩ := (show (PNum (F)) (xv 5) (bv 5) (ev 5) w5 from hR 5 (by kernel_rfl))
          simp only [ed0, ed1, ed2, ed3, ed4, ed5]
          have E10 : Hid (EnvB w [(w.heap.size + 1 + 1 + 1 + 1, .slice xa (len X) xk), (w.heap.size + 1 + 1 + 1, .slice ua (len U) uk), (w.heap.size + 1 + 1, .slice none 0 0), (w.heap.size + 1, .slice bo (len M) cb), (w.heap.size, .slice ao (len N) ca)] [(.slice fa (len F) fk, digs F), (.slice la (len 1) lk, digs 1), (.slice da (len D) dk, digs D), (.slice ua (len U) uk, digs U), (.slice xa (len X) xk, digs X), (.slice ro (len R) rc, digs R), (.slice qo (len Q) qc, digs Q), (.slice bo (len M) cb, digs M), (.slice ao (len N) ca, digs N)] _) := Lib.hid (((((E9.out.below hB).numN (hd.out : Nt _ _ (D))).numN (hl.out : Nt _ _ (1))).numN (hf.out : Nt _ _ (F))))
          clear E9 hB hR hO bx0 bx1 bx2 ed0 ed1 ed2 ed3 ed4 ed5 hd hl hf
          obtain ⟨p6, f6, -, -, -⟩ := E10.out.box 0 rfl
          refine wpAny_next (i := 6) (by kernel_rfl) rfl (fun KK hKK => ?_)
          go_simp
          have E11 : Hid (EnvB w [(w.heap.size + 1 + 1 + 1 + 1, .slice da (len D) dk), (w.heap.size + 1 + 1 + 1, .slice ua (len U) uk), (w.heap.size + 1 + 1, .slice none 0 0), (w.heap.size + 1, .slice bo (len M) cb), (w.heap.size, .slice ao (len N) ca)] [(.slice fa (len F) fk, digs F), (.slice la (len 1) lk, digs 1), (.slice da (len D) dk, digs D), (.slice ua (len U) uk, digs U), (.slice xa (len X) xk, digs X), (.slice ro (len R) rc, digs R), (.slice qo (len Q) qc, digs Q), (.slice bo (len M) cb, digs M), (.slice ao (len N) ca, digs N)] _) := Lib.hid ((E10.out.set 0 (.slice da (len D) dk) rfl ⟨_, _, _, rfl⟩))
          refine hKK.out _ _ ?_
          clear hKK KK
          obtain ⟨p7, f7, -, -, -⟩ := E11.out.box 1 rfl
          refine wpAny_next (i := 7) (by kernel_rfl) rfl (fun KK hKK => ?_)
          go_simp
          have E12 : Hid (EnvB w [(w.heap.size + 1 + 1 + 1 + 1, .slice da (len D) dk), (w.heap.size + 1 + 1 + 1, .slice fa (len F) fk), (w.heap.size + 1 + 1, .slice none 0 0), (w.heap.size + 1, .slice bo (len M) cb), (w.heap.size, .slice ao (len N) ca)] [(.slice fa (len F) fk, digs F), (.slice la (len 1) lk, digs 1), (.slice da (len D) dk, digs D), (.slice ua (len U) uk, digs U), (.slice xa (len X) xk, digs X), (.slice ro (len R) rc, digs R), (.slice qo (len Q) qc, digs Q), (.slice bo (len M) cb, digs M), (.slice ao (len N) ca, digs N)] _) := Lib.hid ((E11.out.set 1 (.slice fa (len F) fk) rfl ⟨_, _, _, rfl⟩))
          refine hKK.out _ _ ?_
          clear hKK KK
          refine wpAny_done (by kernel_rfl) ?_ _
          have E13 : Hid (EnvB w [(w.heap.size + 1 + 1 + 1 + 1, .slice da (len D) dk), (w.heap.size + 1 + 1 + 1, .slice fa (len F) fk), (w.heap.size + 1 + 1, .slice none 0 0), (w.heap.size + 1, .slice bo (len M) cb), (w.heap.size, .slice ao (len N) ca)] [(.slice fa (len F) fk, digs F), (.slice la (len 1) lk, digs 1), (.slice da (len D) dk, digs D), (.slice ua (len U) uk, digs U), (.slice xa (len X) xk, digs X), (.slice ro (len R) rc, digs R), (.slice qo (len Q) qc, digs Q), (.slice bo (len M) cb, digs M), (.slice ao (len N) ca, digs N)] _) := Lib.hid (E12.out)
          have EZ := Lib.hid E13.out
          go_wp2
          go_roundg (j)
          case rel => exact ⟨j, F, D, fa, da, fk, dk, rfl, Lib.hid ⟨EZ.out.1, EZ.out.2.1, ⟨EZ.out.sl 2 rfl, ⟨EZ.out.sl 0 rfl, ⟨EZ.out.sl 7 rfl, ⟨EZ.out.sl 8 rfl, trivial⟩⟩⟩⟩⟩, HK2⟩
          case measure => exact HM.out
      · have hst := over_step HA.out HN.out.2.1 true ht
        simp only [b1, if_true] at hst
        have CTt : Hid (∀ W, Nt W (.slice ao (len N) ca) N → Calls Try.prog 72 #[.agg #[.slice ao (len N) ca], .int .i64 (j : Int)] W fun e w' => e = .returned (.bool true) ∧ Below W.heap.size W w') := Lib.hid (by rw [← ht]; exact CTj.out)
        have CP1 := Lib.hid (fun (u : Value) W ha hb => CP.out u u R R W (by omega) (by omega) ha hb)
        have CP2 := Lib.hid (fun (u : Value) W ha hb => CP.out u u Q Q W (by omega) (by omega) ha hb)
        have CP3 := Lib.hid (fun (u v : Value) W ha hb => CP.out u v (R + R) 1 W (by omega) (by omega) ha hb)
        have CP4 := Lib.hid (fun (u v : Value) W ha hb => CP.out u v (Q + Q) 1 W (by omega) (by omega) ha hb)
        by_cases hle : R + R + 1 < M
        · have HK2 := Lib.hid (hst.2 (by omega))
          have CL1 := Lib.hid (fun (v : Value) W ha hb => CL.out v (R + R + 1) true W (decide_eq_true hle) ha hb)
          clear a1 a2 a3 a4 HA hy ej hst CP CL CM CT CTj HN HBE ht hq hr hq2 hr2 hr3 l1 hle
          generalize R + R + 1 = Y at *
          generalize R + R = X at *
          generalize Q + Q = U at *
          go_wp2_with fail
          have bx0 := Lib.hid (EL.out.box 0 rfl)
          have bx1 := Lib.hid (EL.out.box 1 rfl)
          refine' wp_region_phase (by kernel_rfl) [0, 1, 2, 3, 4, 5] (by kernel_rfl) #[true, true, true, true, true, true, false, false] (by kernel_rfl) 2 (by kernel_rfl) [PEq (.agg #[.slice ro (len R) rc]), PEq (.agg #[.slice ro (len R) rc]), PNum (X), PEq (.agg #[.slice qo (len Q) qc]), PEq (.agg #[.slice qo (len Q) qc]), PNum (U), Fact.none, Fact.none] (List.forall_mem_cons.2 ⟨PEq.st _, List.forall_mem_cons.2 ⟨PEq.st _, List.forall_mem_cons.2 ⟨PNum.st _, List.forall_mem_cons.2 ⟨PEq.st _, List.forall_mem_cons.2 ⟨PEq.st _, List.forall_mem_cons.2 ⟨PNum.st _, List.forall_mem_cons.2 ⟨Fact.none_st, List.forall_mem_cons.2 ⟨Fact.none_st, List.forall_mem_nil _⟩⟩⟩⟩⟩⟩⟩⟩) _ ?hFr4 ?stepr4 ?doner4
          case hFr4 => intro x; simp only [frameL, Act.put, List.setIfInBounds_toArray, List.set_cons_zero, List.set_cons_succ, Nat.zero_add, Nat.reduceAdd]; exact rfl
          case stepr4 =>
            refine List.forall_mem_cons.2 ⟨?_, ?_⟩
            · intro xv bv ev WW hB hdp
              refine op_of rfl ?_
              clear hdp
              intro KK hKK
              obtain ⟨z, -, -, -, -⟩ := bx0.out.below hB
              go_simp
              exact act_eq (hKK.out (.agg #[.slice ro (len R) rc]) _ (Below.refl _ _) rfl) (by first | rfl | simp [upd])
            refine List.forall_mem_cons.2 ⟨?_, ?_⟩
            · intro xv bv ev WW hB hdp
              refine op_of rfl ?_
              clear hdp
              intro KK hKK
              obtain ⟨z, -, -, -, -⟩ := bx0.out.below hB
              go_simp
              exact act_eq (hKK.out (.agg #[.slice ro (len R) rc]) _ (Below.refl _ _) rfl) (by first | rfl | simp [upd])
            refine List.forall_mem_cons.2 ⟨?_, ?_⟩
            · intro xv bv ev WW hB hdp
              refine op_of rfl ?_
              have ed0 : xv 0 = .agg #[.slice ro (len R) rc] := hdp 0 (by kernel_rfl)
              have ed1 : xv 1 = .agg #[.slice ro (len R) rc] := hdp 1 (by kernel_rfl)
              clear hdp
              intro KK hKK
              go_simp
              refine (CP1.out _ _ ((EL.out.below hB).nt 0 rfl) ((EL.out.below hB).nt 0 rfl)).mono ?_
              rintro e WW' ⟨⟨xa, xk, rfl, hx⟩, hb⟩
              (try dsimp only)
              (try simp only [Act.put, List.setIfInBounds_toArray, List.set_cons_zero, List.set_cons_succ])
              exact act_eq (hKK.out _ _ hb ⟨_, _, rfl, hx⟩) (by first | rfl | simp [upd, ed0, ed1])
            refine List.forall_mem_cons.2 ⟨?_, ?_⟩
            · intro xv bv ev WW hB hdp
              refine op_of rfl ?_
              clear hdp
              intro KK hKK
              obtain ⟨z, -, -, -, -⟩ := bx1.out.below hB
              go_simp
              exact act_eq (hKK.out (.agg #[.slice qo (len Q) qc]) _ (Below.refl _ _) rfl) (by first | rfl | simp [upd])
            refine List.forall_mem_cons.2 ⟨?_, ?_⟩
            · intro xv bv ev WW hB hdp
              refine op_of rfl ?_
              clear hdp
              intro KK hKK
              obtain ⟨z, -, -, -, -⟩ := bx1.out.below hB
              go_simp
              exact act_eq (hKK.out (.agg #[.slice qo (len Q) qc]) _ (Below.refl _ _) rfl) (by first | rfl | simp [upd])
            refine List.forall_mem_cons.2 ⟨?_, ?_⟩
            · intro xv bv ev WW hB hdp
              refine op_of rfl ?_
              have ed3 : xv 3 = .agg #[.slice qo (len Q) qc] := hdp 3 (by kernel_rfl)
              have ed4 : xv 4 = .agg #[.slice qo (len Q) qc] := hdp 4 (by kernel_rfl)
              clear hdp
              intro KK hKK
              go_simp
              refine (CP2.out _ _ ((EL.out.below hB).nt 1 rfl) ((EL.out.below hB).nt 1 rfl)).mono ?_
              rintro e WW' ⟨⟨ua, uk, rfl, hu⟩, hb⟩
              (try dsimp only)
              (try simp only [Act.put, List.setIfInBounds_toArray, List.set_cons_zero, List.set_cons_succ])
              exact act_eq (hKK.out _ _ hb ⟨_, _, rfl, hu⟩) (by first | rfl | simp [upd, ed3, ed4])
            exact List.forall_mem_nil _
          intro xv bv ev w2 hB hR hO
          have ed0 : xv 0 = .agg #[.slice ro (len R) rc] := hR 0 (by kernel_rfl)
          have ed1 : xv 1 = .agg #[.slice ro (len R) rc] := hR 1 (by kernel_rfl)
          obtain ⟨xa, xk, ed2, hx⟩ := (show (PNum (X)) (xv 2) (bv 2) (ev 2) w2 from hR 2 (by kernel_rfl))
          have ed3 : xv 3 = .agg #[.slice qo (len Q) qc] := hR 3 (by kernel_rfl)
          have ed4 : xv 4 = .agg #[.slice qo (len Q) qc] := hR 4 (by kernel_rfl)
          obtain ⟨ua, uk, ed5, hu⟩ := (show (PNum (U)) (xv 5) (bv 5) (ev 5) w2 from hR 5 (by kernel_rfl))
          simp only [ed0, ed1, ed2, ed3, ed4, ed5]
          have E5 : Hid (EnvB w [(w.heap.size + 1 + 1 + 1 + 1, .slice ro (len R) rc), (w.heap.size + 1 + 1 + 1, .slice qo (len Q) qc), (w.heap.size + 1 + 1, .slice none 0 0), (w.heap.size + 1, .slice bo (len M) cb), (w.heap.size, .slice ao (len N) ca)] [(.slice ua (len U) uk, digs U), (.slice xa (len X) xk, digs X), (.slice ro (len R) rc, digs R), (.slice qo (len Q) qc, digs Q), (.slice bo (len M) cb, digs M), (.slice ao (len N) ca, digs N)] _) := Lib.hid ((((EL.out.below hB).numN (hx.out : Nt _ _ (X))).numN (hu.out : Nt _ _ (U))))
          clear EL hB hR hO bx0 bx1 ed0 ed1 ed2 ed3 ed4 ed5 hx hu
          obtain ⟨p1, f1, -, -, -⟩ := E5.out.box 0 rfl
          refine wpAny_next (i := 6) (by kernel_rfl) rfl (fun KK hKK => ?_)
          go_simp
          have E6 : Hid (EnvB w [(w.heap.size + 1 + 1 + 1 + 1, .slice xa (len X) xk), (w.heap.size + 1 + 1 + 1, .slice qo (len Q) qc), (w.heap.size + 1 + 1, .slice none 0 0), (w.heap.size + 1, .slice bo (len M) cb), (w.heap.size, .slice ao (len N) ca)] [(.slice ua (len U) uk, digs U), (.slice xa (len X) xk, digs X), (.slice ro (len R) rc, digs R), (.slice qo (len Q) qc, digs Q), (.slice bo (len M) cb, digs M), (.slice ao (len N) ca, digs N)] _) := Lib.hid ((E5.out.set 0 (.slice xa (len X) xk) rfl ⟨_, _, _, rfl⟩))
          refine hKK.out _ _ ?_
          clear hKK KK
          obtain ⟨p2, f2, -, -, -⟩ := E6.out.box 1 rfl
          refine wpAny_next (i := 7) (by kernel_rfl) rfl (fun KK hKK => ?_)
          go_simp
          have E7 : Hid (EnvB w [(w.heap.size + 1 + 1 + 1 + 1, .slice xa (len X) xk), (w.heap.size + 1 + 1 + 1, .slice ua (len U) uk), (w.heap.size + 1 + 1, .slice none 0 0), (w.heap.size + 1, .slice bo (len M) cb), (w.heap.size, .slice ao (len N) ca)] [(.slice ua (len U) uk, digs U), (.slice xa (len X) xk, digs X), (.slice ro (len R) rc, digs R), (.slice qo (len Q) qc, digs Q), (.slice bo (len M) cb, digs M), (.slice ao (len N) ca, digs N)] _) := Lib.hid ((E6.out.set 1 (.slice ua (len U) uk) rfl ⟨_, _, _, rfl⟩))
          refine hKK.out _ _ ?_
          clear hKK KK
          refine wpAny_done (by kernel_rfl) ?_ _
          obtain ⟨p3, f3, -, -, -⟩ := E7.out.box 4 rfl
          go_wp2_with fail
          refine (CTt.out _ (E7.out.nt 5 rfl)).mono ?_
          rintro e w3 ⟨rfl, hb⟩
          have E8 : Hid (EnvB w [(w.heap.size + 1 + 1 + 1 + 1, .slice xa (len X) xk), (w.heap.size + 1 + 1 + 1, .slice ua (len U) uk), (w.heap.size + 1 + 1, .slice none 0 0), (w.heap.size + 1, .slice bo (len M) cb), (w.heap.size, .slice ao (len N) ca)] [(.slice ua (len U) uk, digs U), (.slice xa (len X) xk, digs X), (.slice ro (len R) rc, digs R), (.slice qo (len Q) qc, digs Q), (.slice bo (len M) cb, digs M), (.slice ao (len N) ca, digs N)] _) := Lib.hid ((E7.out.below hb))
          clear p1 f1 p2 f2 p3 f3 E7 E5 E6 hb
          go_wp2_with fail
          have bx0 := Lib.hid (E8.out.box 0 rfl)
          refine' wp_region_phase (by kernel_rfl) [0, 1, 2] (by kernel_rfl) #[true, true, true, false] (by kernel_rfl) 1 (by kernel_rfl) [PEq (.agg #[.slice xa (len X) xk]), PNum (1), PNum (Y), Fact.none] (List.forall_mem_cons.2 ⟨PEq.st _, List.forall_mem_cons.2 ⟨PNum.st _, List.forall_mem_cons.2 ⟨PNum.st _, List.forall_mem_cons.2 ⟨Fact.none_st, List.forall_mem_nil _⟩⟩⟩⟩) _ ?hFr5 ?stepr5 ?doner5
          case hFr5 => intro x; simp only [frameL, Act.put, List.setIfInBounds_toArray, List.set_cons_zero, List.set_cons_succ, Nat.zero_add, Nat.reduceAdd]; exact rfl
          case stepr5 =>
            refine List.forall_mem_cons.2 ⟨?_, ?_⟩
            · intro xv bv ev WW hB hdp
              refine op_of rfl ?_
              clear hdp
              intro KK hKK
              obtain ⟨z, -, -, -, -⟩ := bx0.out.below hB
              go_simp
              exact act_eq (hKK.out (.agg #[.slice xa (len X) xk]) _ (Below.refl _ _) rfl) (by first | rfl | simp [upd])
            refine List.forall_mem_cons.2 ⟨?_, ?_⟩
            · intro xv bv ev WW hB hdp
              refine op_of rfl ?_
              clear hdp
              intro KK hKK
              go_simp
              refine (rOf_c 1 _ (by decide)).mono ?_
              rintro e WW' ⟨⟨ia, ik, rfl, hi⟩, hb⟩
              (try dsimp only)
              (try simp only [Act.put, List.setIfInBounds_toArray, List.set_cons_zero, List.set_cons_succ])
              exact act_eq (hKK.out _ _ hb ⟨_, _, rfl, hi⟩) (by first | rfl | simp [upd])
            refine List.forall_mem_cons.2 ⟨?_, ?_⟩
            · intro xv bv ev WW hB hdp
              refine op_of rfl ?_
              have ed0 : xv 0 = .agg #[.slice xa (len X) xk] := hdp 0 (by kernel_rfl)
              obtain ⟨ia, ik, ed1, hi⟩ := (show (PNum (1)) (xv 1) (bv 1) (ev 1) WW from hdp 1 (by kernel_rfl))
              clear hdp
              intro KK hKK
              go_simp
              refine (CP3.out _ _ _ ((E8.out.below hB).nt 1 rfl) hi.out).mono ?_
              rintro e WW' ⟨⟨ya, yk, rfl, hy⟩, hb⟩
              (try dsimp only)
              (try simp only [Act.put, List.setIfInBounds_toArray, List.set_cons_zero, List.set_cons_succ])
              exact act_eq (hKK.out _ _ hb ⟨_, _, rfl, hy⟩) (by first | rfl | simp [upd, ed0, ed1])
            exact List.forall_mem_nil _
          intro xv bv ev w4 hB hR hO
          have ed0 : xv 0 = .agg #[.slice xa (len X) xk] := hR 0 (by kernel_rfl)
          obtain ⟨ia, ik, ed1, hi⟩ := (show (PNum (1)) (xv 1) (bv 1) (ev 1) w4 from hR 1 (by kernel_rfl))
          obtain ⟨ya, yk, ed2, hy⟩ := (show (PNum (Y)) (xv 2) (bv 2) (ev 2) w4 from hR 2 (by kernel_rfl))
          simp only [ed0, ed1, ed2]
          have E9 : Hid (EnvB w [(w.heap.size + 1 + 1 + 1 + 1, .slice xa (len X) xk), (w.heap.size + 1 + 1 + 1, .slice ua (len U) uk), (w.heap.size + 1 + 1, .slice none 0 0), (w.heap.size + 1, .slice bo (len M) cb), (w.heap.size, .slice ao (len N) ca)] [(.slice ya (len Y) yk, digs Y), (.slice ia (len 1) ik, digs 1), (.slice ua (len U) uk, digs U), (.slice xa (len X) xk, digs X), (.slice ro (len R) rc, digs R), (.slice qo (len Q) qc, digs Q), (.slice bo (len M) cb, digs M), (.slice ao (len N) ca, digs N)] _) := Lib.hid ((((E8.out.below hB).numN (hi.out : Nt _ _ (1))).numN (hy.out : Nt _ _ (Y))))
          clear E8 hB hR hO bx0 ed0 ed1 ed2 hi hy
          obtain ⟨p4, f4, -, -, -⟩ := E9.out.box 0 rfl
          refine wpAny_next (i := 3) (by kernel_rfl) rfl (fun KK hKK => ?_)
          go_simp
          have E10 : Hid (EnvB w [(w.heap.size + 1 + 1 + 1 + 1, .slice ya (len Y) yk), (w.heap.size + 1 + 1 + 1, .slice ua (len U) uk), (w.heap.size + 1 + 1, .slice none 0 0), (w.heap.size + 1, .slice bo (len M) cb), (w.heap.size, .slice ao (len N) ca)] [(.slice ya (len Y) yk, digs Y), (.slice ia (len 1) ik, digs 1), (.slice ua (len U) uk, digs U), (.slice xa (len X) xk, digs X), (.slice ro (len R) rc, digs R), (.slice qo (len Q) qc, digs Q), (.slice bo (len M) cb, digs M), (.slice ao (len N) ca, digs N)] _) := Lib.hid ((E9.out.set 0 (.slice ya (len Y) yk) rfl ⟨_, _, _, rfl⟩))
          refine hKK.out _ _ ?_
          clear hKK KK
          refine wpAny_done (by kernel_rfl) ?_ _
          obtain ⟨p5, f5, -, -, -⟩ := E10.out.box 0 rfl
          obtain ⟨p6, f6, -, -, -⟩ := E10.out.box 3 rfl
          go_wp2_with fail
          refine (CL1.out _ _ (E10.out.nt 0 rfl) (E10.out.nt 6 rfl)).mono ?_
          rintro e w5 ⟨rfl, hb⟩
          have E11 : Hid (EnvB w [(w.heap.size + 1 + 1 + 1 + 1, .slice ya (len Y) yk), (w.heap.size + 1 + 1 + 1, .slice ua (len U) uk), (w.heap.size + 1 + 1, .slice none 0 0), (w.heap.size + 1, .slice bo (len M) cb), (w.heap.size, .slice ao (len N) ca)] [(.slice ya (len Y) yk, digs Y), (.slice ia (len 1) ik, digs 1), (.slice ua (len U) uk, digs U), (.slice xa (len X) xk, digs X), (.slice ro (len R) rc, digs R), (.slice qo (len Q) qc, digs Q), (.slice bo (len M) cb, digs M), (.slice ao (len N) ca, digs N)] _) := Lib.hid ((E10.out.below hb))
          clear p4 f4 p5 f5 p6 f6 E10 E9 hb
          have EZ := Lib.hid E11.out
          go_wp2
          go_roundg (j)
          case rel => exact ⟨j, U, Y, ua, ya, uk, yk, rfl, Lib.hid ⟨EZ.out.1, EZ.out.2.1, ⟨EZ.out.sl 0 rfl, ⟨EZ.out.sl 2 rfl, ⟨EZ.out.sl 6 rfl, ⟨EZ.out.sl 7 rfl, trivial⟩⟩⟩⟩⟩, HK2⟩
          case measure => exact HM.out
        · have HK2 := Lib.hid (hst.1 (by omega))
          have CL1 := Lib.hid (fun (v : Value) W ha hb => CL.out v (R + R + 1) false W (decide_eq_false hle) ha hb)
          have CM1 := Lib.hid (fun (v : Value) W ha hb => CM.out v (R + R + 1) W (by omega) (by omega) ha hb)
          clear a1 a2 a3 a4 HA hy ej hst CP CL CM CT CTj HN HBE ht hq hr hq2 hr2 hr3 l1 hle
          generalize R + R + 1 - M = D at *
          generalize Q + Q + 1 = F at *
          generalize R + R + 1 = Y at *
          generalize R + R = X at *
          generalize Q + Q = U at *
          go_wp2_with fail
          have bx0 := Lib.hid (EL.out.box 0 rfl)
          have bx1 := Lib.hid (EL.out.box 1 rfl)
          refine' wp_region_phase (by kernel_rfl) [0, 1, 2, 3, 4, 5] (by kernel_rfl) #[true, true, true, true, true, true, false, false] (by kernel_rfl) 2 (by kernel_rfl) [PEq (.agg #[.slice ro (len R) rc]), PEq (.agg #[.slice ro (len R) rc]), PNum (X), PEq (.agg #[.slice qo (len Q) qc]), PEq (.agg #[.slice qo (len Q) qc]), PNum (U), Fact.none, Fact.none] (List.forall_mem_cons.2 ⟨PEq.st _, List.forall_mem_cons.2 ⟨PEq.st _, List.forall_mem_cons.2 ⟨PNum.st _, List.forall_mem_cons.2 ⟨PEq.st _, List.forall_mem_cons.2 ⟨PEq.st _, List.forall_mem_cons.2 ⟨PNum.st _, List.forall_mem_cons.2 ⟨Fact.none_st, List.forall_mem_cons.2 ⟨Fact.none_st, List.forall_mem_nil _⟩⟩⟩⟩⟩⟩⟩⟩) _ ?hFr6 ?stepr6 ?doner6
          case hFr6 => intro x; simp only [frameL, Act.put, List.setIfInBounds_toArray, List.set_cons_zero, List.set_cons_succ, Nat.zero_add, Nat.reduceAdd]; exact rfl
          case stepr6 =>
            refine List.forall_mem_cons.2 ⟨?_, ?_⟩
            · intro xv bv ev WW hB hdp
              refine op_of rfl ?_
              clear hdp
              intro KK hKK
              obtain ⟨z, -, -, -, -⟩ := bx0.out.below hB
              go_simp
              exact act_eq (hKK.out (.agg #[.slice ro (len R) rc]) _ (Below.refl _ _) rfl) (by first | rfl | simp [upd])
            refine List.forall_mem_cons.2 ⟨?_, ?_⟩
            · intro xv bv ev WW hB hdp
              refine op_of rfl ?_
              clear hdp
              intro KK hKK
              obtain ⟨z, -, -, -, -⟩ := bx0.out.below hB
              go_simp
              exact act_eq (hKK.out (.agg #[.slice ro (len R) rc]) _ (Below.refl _ _) rfl) (by first | rfl | simp [upd])
            refine List.forall_mem_cons.2 ⟨?_, ?_⟩
            · intro xv bv ev WW hB hdp
              refine op_of rfl ?_
              have ed0 : xv 0 = .agg #[.slice ro (len R) rc] := hdp 0 (by kernel_rfl)
              have ed1 : xv 1 = .agg #[.slice ro (len R) rc] := hdp 1 (by kernel_rfl)
              clear hdp
              intro KK hKK
              go_simp
              refine (CP1.out _ _ ((EL.out.below hB).nt 0 rfl) ((EL.out.below hB).nt 0 rfl)).mono ?_
              rintro e WW' ⟨⟨xa, xk, rfl, hx⟩, hb⟩
              (try dsimp only)
              (try simp only [Act.put, List.setIfInBounds_toArray, List.set_cons_zero, List.set_cons_succ])
              exact act_eq (hKK.out _ _ hb ⟨_, _, rfl, hx⟩) (by first | rfl | simp [upd, ed0, ed1])
            refine List.forall_mem_cons.2 ⟨?_, ?_⟩
            · intro xv bv ev WW hB hdp
              refine op_of rfl ?_
              clear hdp
              intro KK hKK
              obtain ⟨z, -, -, -, -⟩ := bx1.out.below hB
              go_simp
              exact act_eq (hKK.out (.agg #[.slice qo (len Q) qc]) _ (Below.refl _ _) rfl) (by first | rfl | simp [upd])
            refine List.forall_mem_cons.2 ⟨?_, ?_⟩
            · intro xv bv ev WW hB hdp
              refine op_of rfl ?_
              clear hdp
              intro KK hKK
              obtain ⟨z, -, -, -, -⟩ := bx1.out.below hB
              go_simp
              exact act_eq (hKK.out (.agg #[.slice qo (len Q) qc]) _ (Below.refl _ _) rfl) (by first | rfl | simp [upd])
            refine List.forall_mem_cons.2 ⟨?_, ?_⟩
            · intro xv bv ev WW hB hdp
              refine op_of rfl ?_
              have ed3 : xv 3 = .agg #[.slice qo (len Q) qc] := hdp 3 (by kernel_rfl)
              have ed4 : xv 4 = .agg #[.slice qo (len Q) qc] := hdp 4 (by kernel_rfl)
              clear hdp
              intro KK hKK
              go_simp
              refine (CP2.out _ _ ((EL.out.below hB).nt 1 rfl) ((EL.out.below hB).nt 1 rfl)).mono ?_
              rintro e WW' ⟨⟨ua, uk, rfl, hu⟩, hb⟩
              (try dsimp only)
              (try simp only [Act.put, List.setIfInBounds_toArray, List.set_cons_zero, List.set_cons_succ])
              exact act_eq (hKK.out _ _ hb ⟨_, _, rfl, hu⟩) (by first | rfl | simp [upd, ed3, ed4])
            exact List.forall_mem_nil _
          intro xv bv ev w2 hB hR hO
          have ed0 : xv 0 = .agg #[.slice ro (len R) rc] := hR 0 (by kernel_rfl)
          have ed1 : xv 1 = .agg #[.slice ro (len R) rc] := hR 1 (by kernel_rfl)
          obtain ⟨xa, xk, ed2, hx⟩ := (show (PNum (X)) (xv 2) (bv 2) (ev 2) w2 from hR 2 (by kernel_rfl))
          have ed3 : xv 3 = .agg #[.slice qo (len Q) qc] := hR 3 (by kernel_rfl)
          have ed4 : xv 4 = .agg #[.slice qo (len Q) qc] := hR 4 (by kernel_rfl)
          obtain ⟨ua, uk, ed5, hu⟩ := (show (PNum (U)) (xv 5) (bv 5) (ev 5) w2 from hR 5 (by kernel_rfl))
          simp only [ed0, ed1, ed2, ed3, ed4, ed5]
          have E5 : Hid (EnvB w [(w.heap.size + 1 + 1 + 1 + 1, .slice ro (len R) rc), (w.heap.size + 1 + 1 + 1, .slice qo (len Q) qc), (w.heap.size + 1 + 1, .slice none 0 0), (w.heap.size + 1, .slice bo (len M) cb), (w.heap.size, .slice ao (len N) ca)] [(.slice ua (len U) uk, digs U), (.slice xa (len X) xk, digs X), (.slice ro (len R) rc, digs R), (.slice qo (len Q) qc, digs Q), (.slice bo (len M) cb, digs M), (.slice ao (len N) ca, digs N)] _) := Lib.hid ((((EL.out.below hB).numN (hx.out : Nt _ _ (X))).numN (hu.out : Nt _ _ (U))))
          clear EL hB hR hO bx0 bx1 ed0 ed1 ed2 ed3 ed4 ed5 hx hu
          obtain ⟨p1, f1, -, -, -⟩ := E5.out.box 0 rfl
          refine wpAny_next (i := 6) (by kernel_rfl) rfl (fun KK hKK => ?_)
          go_simp
          have E6 : Hid (EnvB w [(w.heap.size + 1 + 1 + 1 + 1, .slice xa (len X) xk), (w.heap.size + 1 + 1 + 1, .slice qo (len Q) qc), (w.heap.size + 1 + 1, .slice none 0 0), (w.heap.size + 1, .slice bo (len M) cb), (w.heap.size, .slice ao (len N) ca)] [(.slice ua (len U) uk, digs U), (.slice xa (len X) xk, digs X), (.slice ro (len R) rc, digs R), (.slice qo (len Q) qc, digs Q), (.slice bo (len M) cb, digs M), (.slice ao (len N) ca, digs N)] _) := Lib.hid ((E5.out.set 0 (.slice xa (len X) xk) rfl ⟨_, _, _, rfl⟩))
          refine hKK.out _ _ ?_
          clear hKK KK
          obtain ⟨p2, f2, -, -, -⟩ := E6.out.box 1 rfl
          refine wpAny_next (i := 7) (by kernel_rfl) rfl (fun KK hKK => ?_)
          go_simp
          have E7 : Hid (EnvB w [(w.heap.size + 1 + 1 + 1 + 1, .slice xa (len X) xk), (w.heap.size + 1 + 1 + 1, .slice ua (len U) uk), (w.heap.size + 1 + 1, .slice none 0 0), (w.heap.size + 1, .slice bo (len M) cb), (w.heap.size, .slice ao (len N) ca)] [(.slice ua (len U) uk, digs U), (.slice xa (len X) xk, digs X), (.slice ro (len R) rc, digs R), (.slice qo (len Q) qc, digs Q), (.slice bo (len M) cb, digs M), (.slice ao (len N) ca, digs N)] _) := Lib.hid ((E6.out.set 1 (.slice ua (len U) uk) rfl ⟨_, _, _, rfl⟩))
          refine hKK.out _ _ ?_
          clear hKK KK
          refine wpAny_done (by kernel_rfl) ?_ _
          obtain ⟨p3, f3, -, -, -⟩ := E7.out.box 4 rfl
          go_wp2_with fail
          refine (CTt.out _ (E7.out.nt 5 rfl)).mono ?_
          rintro e w3 ⟨rfl, hb⟩
          have E8 : Hid (EnvB w [(w.heap.size + 1 + 1 + 1 + 1, .slice xa (len X) xk), (w.heap.size + 1 + 1 + 1, .slice ua (len U) uk), (w.heap.size + 1 + 1, .slice none 0 0), (w.heap.size + 1, .slice bo (len M) cb), (w.heap.size, .slice ao (len N) ca)] [(.slice ua (len U) uk, digs U), (.slice xa (len X) xk, digs X), (.slice ro (len R) rc, digs R), (.slice qo (len Q) qc, digs Q), (.slice bo (len M) cb, digs M), (.slice ao (len N) ca, digs N)] _) := Lib.hid ((E7.out.below hb))
          clear p1 f1 p2 f2 p3 f3 E7 E5 E6 hb
          go_wp2_with fail
          have bx0 := Lib.hid (E8.out.box 0 rfl)
          refine' wp_region_phase (by kernel_rfl) [0, 1, 2] (by kernel_rfl) #[true, true, true, false] (by kernel_rfl) 1 (by kernel_rfl) [PEq (.agg #[.slice xa (len X) xk]), PNum (1), PNum (Y), Fact.none] (List.forall_mem_cons.2 ⟨PEq.st _, List.forall_mem_cons.2 ⟨PNum.st _, List.forall_mem_cons.2 ⟨PNum.st _, List.forall_mem_cons.2 ⟨Fact.none_st, List.forall_mem_nil _⟩⟩⟩⟩) _ ?hFr7 ?stepr7 ?doner7
          case hFr7 => intro x; simp only [frameL, Act.put, List.setIfInBounds_toArray, List.set_cons_zero, List.set_cons_succ, Nat.zero_add, Nat.reduceAdd]; exact rfl
          case stepr7 =>
            refine List.forall_mem_cons.2 ⟨?_, ?_⟩
            · intro xv bv ev WW hB hdp
              refine op_of rfl ?_
              clear hdp
              intro KK hKK
              obtain ⟨z, -, -, -, -⟩ := bx0.out.below hB
              go_simp
              exact act_eq (hKK.out (.agg #[.slice xa (len X) xk]) _ (Below.refl _ _) rfl) (by first | rfl | simp [upd])
            refine List.forall_mem_cons.2 ⟨?_, ?_⟩
            · intro xv bv ev WW hB hdp
              refine op_of rfl ?_
              clear hdp
              intro KK hKK
              go_simp
              refine (rOf_c 1 _ (by decide)).mono ?_
              rintro e WW' ⟨⟨ia, ik, rfl, hi⟩, hb⟩
              (try dsimp only)
              (try simp only [Act.put, List.setIfInBounds_toArray, List.set_cons_zero, List.set_cons_succ])
              exact act_eq (hKK.out _ _ hb ⟨_, _, rfl, hi⟩) (by first | rfl | simp [upd])
            refine List.forall_mem_cons.2 ⟨?_, ?_⟩
            · intro xv bv ev WW hB hdp
              refine op_of rfl ?_
              have ed0 : xv 0 = .agg #[.slice xa (len X) xk] := hdp 0 (by kernel_rfl)
              obtain ⟨ia, ik, ed1, hi⟩ := (show (PNum (1)) (xv 1) (bv 1) (ev 1) WW from hdp 1 (by kernel_rfl))
              clear hdp
              intro KK hKK
              go_simp
              refine (CP3.out _ _ _ ((E8.out.below hB).nt 1 rfl) hi.out).mono ?_
              rintro e WW' ⟨⟨ya, yk, rfl, hy⟩, hb⟩
              (try dsimp only)
              (try simp only [Act.put, List.setIfInBounds_toArray, List.set_cons_zero, List.set_cons_succ])
              exact act_eq (hKK.out _ _ hb ⟨_, _, rfl, hy⟩) (by first | rfl | simp [upd, ed0, ed1])
            exact List.forall_mem_nil _
          intro xv bv ev w4 hB hR hO
          have ed0 : xv 0 = .agg #[.slice xa (len X) xk] := hR 0 (by kernel_rfl)
          obtain ⟨ia, ik, ed1, hi⟩ := (show (PNum (1)) (xv 1) (bv 1) (ev 1) w4 from hR 1 (by kernel_rfl))
          obtain ⟨ya, yk, ed2, hy⟩ := (show (PNum (Y)) (xv 2) (bv 2) (ev 2) w4 from hR 2 (by kernel_rfl))
          simp only [ed0, ed1, ed2]
          have E9 : Hid (EnvB w [(w.heap.size + 1 + 1 + 1 + 1, .slice xa (len X) xk), (w.heap.size + 1 + 1 + 1, .slice ua (len U) uk), (w.heap.size + 1 + 1, .slice none 0 0), (w.heap.size + 1, .slice bo (len M) cb), (w.heap.size, .slice ao (len N) ca)] [(.slice ya (len Y) yk, digs Y), (.slice ia (len 1) ik, digs 1), (.slice ua (len U) uk, digs U), (.slice xa (len X) xk, digs X), (.slice ro (len R) rc, digs R), (.slice qo (len Q) qc, digs Q), (.slice bo (len M) cb, digs M), (.slice ao (len N) ca, digs N)] _) := Lib.hid ((((E8.out.below hB).numN (hi.out : Nt _ _ (1))).numN (hy.out : Nt _ _ (Y))))
          clear E8 hB hR hO bx0 ed0 ed1 ed2 hi hy
          obtain ⟨p4, f4, -, -, -⟩ := E9.out.box 0 rfl
          refine wpAny_next (i := 3) (by kernel_rfl) rfl (fun KK hKK => ?_)
          go_simp
          have E10 : Hid (EnvB w [(w.heap.size + 1 + 1 + 1 + 1, .slice ya (len Y) yk), (w.heap.size + 1 + 1 + 1, .slice ua (len U) uk), (w.heap.size + 1 + 1, .slice none 0 0), (w.heap.size + 1, .slice bo (len M) cb), (w.heap.size, .slice ao (len N) ca)] [(.slice ya (len Y) yk, digs Y), (.slice ia (len 1) ik, digs 1), (.slice ua (len U) uk, digs U), (.slice xa (len X) xk, digs X), (.slice ro (len R) rc, digs R), (.slice qo (len Q) qc, digs Q), (.slice bo (len M) cb, digs M), (.slice ao (len N) ca, digs N)] _) := Lib.hid ((E9.out.set 0 (.slice ya (len Y) yk) rfl ⟨_, _, _, rfl⟩))
          refine hKK.out _ _ ?_
          clear hKK KK
          refine wpAny_done (by kernel_rfl) ?_ _
          obtain ⟨p5, f5, -, -, -⟩ := E10.out.box 0 rfl
          obtain ⟨p6, f6, -, -, -⟩ := E10.out.box 3 rfl
          go_wp2_with fail
          refine (CL1.out _ _ (E10.out.nt 0 rfl) (E10.out.nt 6 rfl)).mono ?_
          rintro e w5 ⟨rfl, hb⟩
          have E11 : Hid (EnvB w [(w.heap.size + 1 + 1 + 1 + 1, .slice ya (len Y) yk), (w.heap.size + 1 + 1 + 1, .slice ua (len U) uk), (w.heap.size + 1 + 1, .slice none 0 0), (w.heap.size + 1, .slice bo (len M) cb), (w.heap.size, .slice ao (len N) ca)] [(.slice ya (len Y) yk, digs Y), (.slice ia (len 1) ik, digs 1), (.slice ua (len U) uk, digs U), (.slice xa (len X) xk, digs X), (.slice ro (len R) rc, digs R), (.slice qo (len Q) qc, digs Q), (.slice bo (len M) cb, digs M), (.slice ao (len N) ca, digs N)] _) := Lib.hid ((E10.out.below hb))
          clear p4 f4 p5 f5 p6 f6 E10 E9 hb
          go_wp2_with fail
          have bx0 := Lib.hid (E11.out.box 0 rfl)
          have bx1 := Lib.hid (E11.out.box 3 rfl)
          have bx2 := Lib.hid (E11.out.box 1 rfl)
          refine' wp_region_phase (by kernel_rfl) [0, 1, 2, 3, 4, 5] (by kernel_rfl) #[true, true, true, true, true, true, false, false] (by kernel_rfl) 2 (by kernel_rfl) [PEq (.agg #[.slice ya (len Y) yk]), PEq (.agg #[.slice bo (len M) cb]), PNum (D), PEq (.agg #[.slice ua (len U) uk]), PNum (1), PNum (F), Fact.none, Fact.none] (List.forall_mem_cons.2 ⟨PEq.st _, List.forall_mem_cons.2 ⟨PEq.st _, List.forall_mem_cons.2 ⟨PNum.st _, List.forall_mem_cons.2 ⟨PEq.st _, List.forall_mem_cons.2 ⟨PNum.st _, List.forall_mem_cons.2 ⟨PNum.st _, List.forall_mem_cons.2 ⟨Fact.none_st, List.forall_mem_cons.2 ⟨Fact.none_st, List.forall_mem_nil _⟩⟩⟩⟩⟩⟩⟩⟩) _ ?hFr8 ?stepr8 ?doner8
          case hFr8 => intro x; simp only [frameL, Act.put, List.setIfInBounds_toArray, List.set_cons_zero, List.set_cons_succ, Nat.zero_add, Nat.reduceAdd]; exact rfl
          case stepr8 =>
            refine List.forall_mem_cons.2 ⟨?_, ?_⟩
            · intro xv bv ev WW hB hdp
              refine op_of rfl ?_
              clear hdp
              intro KK hKK
              obtain ⟨z, -, -, -, -⟩ := bx0.out.below hB
              go_simp
              exact act_eq (hKK.out (.agg #[.slice ya (len Y) yk]) _ (Below.refl _ _) rfl) (by first | rfl | simp [upd])
            refine List.forall_mem_cons.2 ⟨?_, ?_⟩
            · intro xv bv ev WW hB hdp
              refine op_of rfl ?_
              clear hdp
              intro KK hKK
              obtain ⟨z, -, -, -, -⟩ := bx1.out.below hB
              go_simp
              exact act_eq (hKK.out (.agg #[.slice bo (len M) cb]) _ (Below.refl _ _) rfl) (by first | rfl | simp [upd])
            refine List.forall_mem_cons.2 ⟨?_, ?_⟩
            · intro xv bv ev WW hB hdp
              refine op_of rfl ?_
              have ed0 : xv 0 = .agg #[.slice ya (len Y) yk] := hdp 0 (by kernel_rfl)
              have ed1 : xv 1 = .agg #[.slice bo (len M) cb] := hdp 1 (by kernel_rfl)
              clear hdp
              intro KK hKK
              go_simp
              refine (CM1.out _ _ ((E11.out.below hB).nt 0 rfl) ((E11.out.below hB).nt 6 rfl)).mono ?_
              rintro e WW' ⟨⟨da, dk, rfl, hd⟩, hb⟩
              (try dsimp only)
              (try simp only [Act.put, List.setIfInBounds_toArray, List.set_cons_zero, List.set_cons_succ])
              exact act_eq (hKK.out _ _ hb ⟨_, _, rfl, hd⟩) (by first | rfl | simp [upd, ed0, ed1])
            refine List.forall_mem_cons.2 ⟨?_, ?_⟩
            · intro xv bv ev WW hB hdp
              refine op_of rfl ?_
              clear hdp
              intro KK hKK
              obtain ⟨z, -, -, -, -⟩ := bx2.out.below hB
              go_simp
              exact act_eq (hKK.out (.agg #[.slice ua (len U) uk]) _ (Below.refl _ _) rfl) (by first | rfl | simp [upd])
            refine List.forall_mem_cons.2 ⟨?_, ?_⟩
            · intro xv bv ev WW hB hdp
              refine op_of rfl ?_
              clear hdp
              intro KK hKK
              go_simp
              refine (rOf_c 1 _ (by decide)).mono ?_
              rintro e WW' ⟨⟨la, lk, rfl, hl⟩, hb⟩
              (try dsimp only)
              (try simp only [Act.put, List.setIfInBounds_toArray, List.set_cons_zero, List.set_cons_succ])
              exact act_eq (hKK.out _ _ hb ⟨_, _, rfl, hl⟩) (by first | rfl | simp [upd])
            refine List.forall_mem_cons.2 ⟨?_, ?_⟩
            · intro xv bv ev WW hB hdp
              refine op_of rfl ?_
              have ed3 : xv 3 = .agg #[.slice ua (len U) uk] := hdp 3 (by kernel_rfl)
              obtain ⟨la, lk, ed4, hl⟩ := (show (PNum (1)) (xv 4) (bv 4) (ev 4) WW from hdp 4 (by kernel_rfl))
              clear hdp
              intro KK hKK
              go_simp
              refine (CP4.out _ _ _ ((E11.out.below hB).nt 2 rfl) hl.out).mono ?_
              rintro e WW' ⟨⟨fa, fk, rfl, hf⟩, hb⟩
              (try dsimp only)
              (try simp only [Act.put, List.setIfInBounds_toArray, List.set_cons_zero, List.set_cons_succ])
              exact act_eq (hKK.out _ _ hb ⟨_, _, rfl, hf⟩) (by first | rfl | simp [upd, ed3, ed4])
            exact List.forall_mem_nil _
          intro xv bv ev w6 hB hR hO
          have ed0 : xv 0 = .agg #[.slice ya (len Y) yk] := hR 0 (by kernel_rfl)
          have ed1 : xv 1 = .agg #[.slice bo (len M) cb] := hR 1 (by kernel_rfl)
          obtain ⟨da, dk, ed2, hd⟩ := (show (PNum (D)) (xv 2) (bv 2) (ev 2) w6 from hR 2 (by kernel_rfl))
          have ed3 : xv 3 = .agg #[.slice ua (len U) uk] := hR 3 (by kernel_rfl)
          obtain ⟨la, lk, ed4, hl⟩ := (show (PNum (1)) (xv 4) (bv 4) (ev 4) w6 from hR 4 (by kernel_rfl))
          obtain ⟨fa, fk, ed5, hf⟩ := (show (PNum (F)) (xv 5) (bv 5) (ev 5) w6 from hR 5 (by kernel_rfl))
          simp only [ed0, ed1, ed2, ed3, ed4, ed5]
          have E12 : Hid (EnvB w [(w.heap.size + 1 + 1 + 1 + 1, .slice ya (len Y) yk), (w.heap.size + 1 + 1 + 1, .slice ua (len U) uk), (w.heap.size + 1 + 1, .slice none 0 0), (w.heap.size + 1, .slice bo (len M) cb), (w.heap.size, .slice ao (len N) ca)] [(.slice fa (len F) fk, digs F), (.slice la (len 1) lk, digs 1), (.slice da (len D) dk, digs D), (.slice ya (len Y) yk, digs Y), (.slice ia (len 1) ik, digs 1), (.slice ua (len U) uk, digs U), (.slice xa (len X) xk, digs X), (.slice ro (len R) rc, digs R), (.slice qo (len Q) qc, digs Q), (.slice bo (len M) cb, digs M), (.slice ao (len N) ca, digs N)] _) := Lib.hid (((((E11.out.below hB).numN (hd.out : Nt _ _ (D))).numN (hl.out : Nt _ _ (1))).numN (hf.out : Nt _ _ (F))))
          clear E11 hB hR hO bx0 bx1 bx2 ed0 ed1 ed2 ed3 ed4 ed5 hd hl hf
          obtain ⟨p7, f7, -, -, -⟩ := E12.out.box 0 rfl
          refine wpAny_next (i := 6) (by kernel_rfl) rfl (fun KK hKK => ?_)
          go_simp
          have E13 : Hid (EnvB w [(w.heap.size + 1 + 1 + 1 + 1, .slice da (len D) dk), (w.heap.size + 1 + 1 + 1, .slice ua (len U) uk), (w.heap.size + 1 + 1, .slice none 0 0), (w.heap.size + 1, .slice bo (len M) cb), (w.heap.size, .slice ao (len N) ca)] [(.slice fa (len F) fk, digs F), (.slice la (len 1) lk, digs 1), (.slice da (len D) dk, digs D), (.slice ya (len Y) yk, digs Y), (.slice ia (len 1) ik, digs 1), (.slice ua (len U) uk, digs U), (.slice xa (len X) xk, digs X), (.slice ro (len R) rc, digs R), (.slice qo (len Q) qc, digs Q), (.slice bo (len M) cb, digs M), (.slice ao (len N) ca, digs N)] _) := Lib.hid ((E12.out.set 0 (.slice da (len D) dk) rfl ⟨_, _, _, rfl⟩))
          refine hKK.out _ _ ?_
          clear hKK KK
          obtain ⟨p8, f8, -, -, -⟩ := E13.out.box 1 rfl
          refine wpAny_next (i := 7) (by kernel_rfl) rfl (fun KK hKK => ?_)
          go_simp
          have E14 : Hid (EnvB w [(w.heap.size + 1 + 1 + 1 + 1, .slice da (len D) dk), (w.heap.size + 1 + 1 + 1, .slice fa (len F) fk), (w.heap.size + 1 + 1, .slice none 0 0), (w.heap.size + 1, .slice bo (len M) cb), (w.heap.size, .slice ao (len N) ca)] [(.slice fa (len F) fk, digs F), (.slice la (len 1) lk, digs 1), (.slice da (len D) dk, digs D), (.slice ya (len Y) yk, digs Y), (.slice ia (len 1) ik, digs 1), (.slice ua (len U) uk, digs U), (.slice xa (len X) xk, digs X), (.slice ro (len R) rc, digs R), (.slice qo (len Q) qc, digs Q), (.slice bo (len M) cb, digs M), (.slice ao (len N) ca, digs N)] _) := Lib.hid ((E13.out.set 1 (.slice fa (len F) fk) rfl ⟨_, _, _, rfl⟩))
          refine hKK.out _ _ ?_
          clear hKK KK
          refine wpAny_done (by kernel_rfl) ?_ _
          have E15 : Hid (EnvB w [(w.heap.size + 1 + 1 + 1 + 1, .slice da (len D) dk), (w.heap.size + 1 + 1 + 1, .slice fa (len F) fk), (w.heap.size + 1 + 1, .slice none 0 0), (w.heap.size + 1, .slice bo (len M) cb), (w.heap.size, .slice ao (len N) ca)] [(.slice fa (len F) fk, digs F), (.slice la (len 1) lk, digs 1), (.slice da (len D) dk, digs D), (.slice ya (len Y) yk, digs Y), (.slice ia (len 1) ik, digs 1), (.slice ua (len U) uk, digs U), (.slice xa (len X) xk, digs X), (.slice ro (len R) rc, digs R), (.slice qo (len Q) qc, digs Q), (.slice bo (len M) cb, digs M), (.slice ao (len N) ca, digs N)] _) := Lib.hid (E14.out)
          have EZ := Lib.hid E15.out
          go_wp2
          go_roundg (j)
          case rel => exact ⟨j, F, D, fa, da, fk, dk, rfl, Lib.hid ⟨EZ.out.1, EZ.out.2.1, ⟨EZ.out.sl 2 rfl, ⟨EZ.out.sl 0 rfl, ⟨EZ.out.sl 9 rfl, ⟨EZ.out.sl 10 rfl, trivial⟩⟩⟩⟩⟩, HK2⟩
          case measure => exact HM.out
theorem rOver_c {a b : Value} {N M r : Nat} {w : World} (hr : N / M = r) (h1 : len N ≤ 2000) (h2 : len M ≤ 2000) (h0 : M ≠ 0) (ha : Nt w a N) (hb : Nt w b M) :
    Calls Try.prog 66 #[.agg #[a], .agg #[b]] w fun e w' => RetV r e w' ∧ Below w.heap.size w w' := by
  obtain ⟨ao, ca, rfl, _⟩ := ha.open
  obtain ⟨bo, cb, rfl, _⟩ := hb.open
  subst hr
  exact rOver_w ao ca bo cb N M w ha hb h1 h2 h0

end Go.Proofs.Ythphmgdmhlimjaa

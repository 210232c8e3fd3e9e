/- NaturalRing: the walk of the statement. -/
import Derived.Test.YtgogfjehbaiklaaNatEnv3
import Derived.Deep.RegionHeld3
import Derived.Deep.DeepCutAuto
namespace Go.Proofs.Ytgogfjehbaiklaa
open Go.RowKit NatMath
set_option linter.unusedVariables false

set_option maxRecDepth 100000 in
set_option maxHeartbeats 4000000 in
theorem NaturalRing_valid (ao bo co : Option Addr) (ca cb cc : Nat) (N M K : Nat) (w : World) (ha : Nt w (.slice ao (len N) ca) N) (hb : Nt w (.slice bo (len M) cb) M) (hc : Nt w (.slice co (len K) cc) K) (h1 : len N ≤ 64) (h2 : len M ≤ 64) (h3 : len K ≤ 64) :
    Calls Try.prog 8 #[.agg #[.slice ao (len N) ca], .agg #[.slice bo (len M) cb], .agg #[.slice co (len K) cc]] w fun e w' => e = .returned (.bool true) ∧ Below w.heap.size w w' := by
  have H1 := Lib.hid h1
  have H2 := Lib.hid h2
  have H3 := Lib.hid h3
  have hn1 : (len N : Int) ≤ 64 := by omega
  have hn2 : (len M : Int) ≤ 64 := by omega
  have hn3 : (len K : Int) ≤ 64 := by omega
  have E0 := Lib.hid ((((EnvN.start w).numN ha).numN hb).numN hc)
  obtain ⟨S, sc, hS⟩ := BV.some (N + M)
  obtain ⟨P, pc, hP⟩ := BV.some (N * M)
  clear ha hb hc h1 h2 h3
  have hcc : (sc != sc) = false := by simp
  have hpp : (pc != pc) = false := by simp
  go_enter Try.func8, Try.ntmps8
  go_wp2_with fail
  have EB := Lib.hid ((((E0.out.push (.slice ao (len N) ca) 24).pushAt (.slice bo (len M) cb) 24 (w.heap.size + 1) (by simp)).pushAt (.slice co (len K) cc) 24 (w.heap.size + 1 + 1) (by simp)))
  refine (awake_c _).mono ?_
  rintro e w1 ⟨rfl, hb⟩
  have E1 := Lib.hid ((EB.out.below hb))
  clear hb EB E0
  obtain ⟨⟨_, ⟨p0, q0⟩, ⟨p1, q1⟩, ⟨p2, q2⟩, _⟩, _⟩ := E1.out
  go_wp2_with fail
  refine (great3_c ao bo co (len N) (len M) (len K) ca cb cc w1 (by omega) (by omega) (by omega) _ rfl).mono ?_
  rintro e w2 ⟨⟨hg, rfl⟩ | ⟨_, rfl⟩, hb⟩
  · exact absurd hg (by omega)
  have E2 := Lib.hid ((E1.out.below hb))
  clear p0 q0 p1 q1 p2 q2 hb E1
  obtain ⟨⟨_, ⟨p0, q0⟩, ⟨p1, q1⟩, ⟨p2, q2⟩, _⟩, _⟩ := E2.out
  go_wp2_with fail
  refine (validB (E2.out.nt 2 rfl) H1.out).mono ?_
  rintro e w3 ⟨rfl, hb⟩
  have E3 := Lib.hid ((E2.out.below hb))
  clear p0 q0 p1 q1 p2 q2 hb E2
  obtain ⟨⟨_, ⟨p0, q0⟩, ⟨p1, q1⟩, ⟨p2, q2⟩, _⟩, _⟩ := E3.out
  go_wp2_with fail
  refine (validB (E3.out.nt 1 rfl) H2.out).mono ?_
  rintro e w4 ⟨rfl, hb⟩
  have E4 := Lib.hid ((E3.out.below hb))
  clear p0 q0 p1 q1 p2 q2 hb E3
  obtain ⟨⟨_, ⟨p0, q0⟩, ⟨p1, q1⟩, ⟨p2, q2⟩, _⟩, _⟩ := E4.out
  go_wp2_with fail
  refine (validB (E4.out.nt 0 rfl) H3.out).mono ?_
  rintro e w5 ⟨rfl, hb⟩
  have E5 := Lib.hid ((E4.out.below hb))
  clear p0 q0 p1 q1 p2 q2 hb E4
  obtain ⟨⟨_, ⟨p0, q0⟩, ⟨p1, q1⟩, ⟨p2, q2⟩, _⟩, _⟩ := E5.out
  go_wp2_with fail
  refine (addB hS (E5.out.nt 2 rfl) (E5.out.nt 1 rfl) H1.out H2.out).mono ?_
  rintro e w6 ⟨⟨sa, sk, rfl, hs⟩, hb⟩
  have E6 := Lib.hid (((E5.out.below hb).numN (hs.out : Nt _ _ S)))
  clear p0 q0 p1 q1 p2 q2 hb hs E5
  obtain ⟨⟨_, ⟨p0, q0⟩, ⟨p1, q1⟩, ⟨p2, q2⟩, _⟩, _⟩ := E6.out
  go_wp2_with fail
  have EB := Lib.hid ((E6.out.push (.slice sa (len S) sk) 24))
  refine (addB (by rw [Nat.add_comm]; exact hS) (EB.out.nt 2 rfl) (EB.out.nt 3 rfl) H2.out H1.out).mono ?_
  rintro e w7 ⟨⟨ta, tk, rfl, ht⟩, hb⟩
  have E7 := Lib.hid (((EB.out.below hb).numN (ht.out : Nt _ _ S)))
  clear p0 q0 p1 q1 p2 q2 hb EB ht E6
  obtain ⟨⟨_, ⟨p0, q0⟩, ⟨p1, q1⟩, ⟨p2, q2⟩, ⟨p3, q3⟩, _⟩, _⟩ := E7.out
  go_wp2_with fail
  have EB := Lib.hid ((E7.out.push (.slice ta (len S) tk) 24))
  refine (sameB (EB.out.nt 1 rfl) (EB.out.nt 0 rfl)).mono ?_
  rintro e w8 ⟨rfl, hb⟩
  have E8 := Lib.hid ((EB.out.below hb))
  clear p0 q0 p1 q1 p2 q2 p3 q3 hb EB E7
  obtain ⟨⟨_, ⟨p0, q0⟩, ⟨p1, q1⟩, ⟨p2, q2⟩, ⟨p3, q3⟩, ⟨p4, q4⟩, _⟩, _⟩ := E8.out
  go_upto_if 86 with (fail)
  go_cut [] (fun wx => Hid (EnvN w [(⟨w7.heap.size, 0, none⟩, .slice ta (len S) tk), (⟨w6.heap.size, 0, none⟩, .slice sa (len S) sk), (⟨w.heap.size + 1 + 1, 0, none⟩, .slice co (len K) cc), (⟨w.heap.size + 1, 0, none⟩, .slice bo (len M) cb), (⟨w.heap.size, 0, none⟩, .slice ao (len N) ca)] [(.slice ta (len S) tk, digs S), (.slice sa (len S) sk, digs S), (.slice co (len K) cc, digs K), (.slice bo (len M) cb, digs M), (.slice ao (len N) ca, digs N)] wx))
  case first => as_aux_lemma =>
    rcases hS.out with ⟨l1, rfl, rfl⟩ | ⟨l1, rfl, rfl⟩
    · have L1 := Lib.hid l1
      clear l1
      obtain ⟨S2, sc2, hS2⟩ := BV.some (M + K)
      obtain ⟨S3, sc3, hS3⟩ := BV.some (N + M + K)
      go_wp2_with fail
      refine (subB (V := N) ⟨by omega, by omega⟩ (E8.out.nt 1 rfl) (E8.out.nt 3 rfl) L1.out H2.out).mono ?_
      rintro e w9 ⟨⟨ra, rk, rfl, hr⟩, hb⟩
      have E9 := Lib.hid (((E8.out.below hb).numN (hr.out : Nt _ _ N)))
      clear p0 q0 p1 q1 p2 q2 p3 q3 p4 q4 hb hr E8
      obtain ⟨⟨_, ⟨p0, q0⟩, ⟨p1, q1⟩, ⟨p2, q2⟩, ⟨p3, q3⟩, ⟨p4, q4⟩, _⟩, _⟩ := E9.out
      go_wp2_with fail
      have EB := Lib.hid ((E9.out.push (.slice ra (len N) rk) 24))
      refine (sameB (EB.out.nt 0 rfl) (EB.out.nt 5 rfl)).mono ?_
      rintro e w10 ⟨rfl, hb⟩
      have E10 := Lib.hid ((EB.out.below hb))
      clear p0 q0 p1 q1 p2 q2 p3 q3 p4 q4 hb EB E9
      obtain ⟨⟨_, ⟨p0, q0⟩, ⟨p1, q1⟩, ⟨p2, q2⟩, ⟨p3, q3⟩, ⟨p4, q4⟩, ⟨p5, q5⟩, _⟩, _⟩ := E10.out
      go_wp2_with fail
      refine (addB hS2 (E10.out.nt 4 rfl) (E10.out.nt 3 rfl) H2.out H3.out).mono ?_
      rintro e w11 ⟨⟨xa, xk, rfl, hx⟩, hb⟩
      have E11 := Lib.hid (((E10.out.below hb).numN (hx.out : Nt _ _ S2)))
      clear p0 q0 p1 q1 p2 q2 p3 q3 p4 q4 p5 q5 hb hx E10
      obtain ⟨⟨_, ⟨p0, q0⟩, ⟨p1, q1⟩, ⟨p2, q2⟩, ⟨p3, q3⟩, ⟨p4, q4⟩, ⟨p5, q5⟩, _⟩, _⟩ := E11.out
      go_wp2_with fail
      have EB := Lib.hid ((E11.out.push (.slice xa (len S2) xk) 24))
      refine (addB hS3 (EB.out.nt 3 rfl) (EB.out.nt 4 rfl) L1.out H3.out).mono ?_
      rintro e w12 ⟨⟨ya, yk, rfl, hy⟩, hb⟩
      have E12 := Lib.hid (((EB.out.below hb).numN (hy.out : Nt _ _ S3)))
      clear p0 q0 p1 q1 p2 q2 p3 q3 p4 q4 p5 q5 hb EB hy E11
      obtain ⟨⟨_, ⟨p0, q0⟩, ⟨p1, q1⟩, ⟨p2, q2⟩, ⟨p3, q3⟩, ⟨p4, q4⟩, ⟨p5, q5⟩, ⟨p6, q6⟩, _⟩, _⟩ := E12.out
      rcases hS2.out with ⟨l2, rfl, rfl⟩ | ⟨l2, rfl, rfl⟩
      · have L2 := Lib.hid l2
        clear l2
        rcases hS3.out with ⟨l3, rfl, rfl⟩ | ⟨l3, rfl, rfl⟩
        · have L3 := Lib.hid l3
          clear l3
          have hBV : Hid (BV (N + (M + K)) (N + M + K) 0) := Lib.hid (Or.inl ⟨by rw [← Nat.add_assoc]; exact L3.out, (Nat.add_assoc _ _ _), rfl⟩)
          go_wp2_with fail
          have EB := Lib.hid ((E12.out.push (.slice ya (len (N + M + K)) yk) 24))
          refine (addB hBV (EB.out.nt 7 rfl) (EB.out.nt 1 rfl) H1.out L2.out).mono ?_
          rintro e w13 ⟨⟨za, zk, rfl, hz⟩, hb⟩
          have E13 := Lib.hid (((EB.out.below hb).numN (hz.out : Nt _ _ (N + M + K))))
          clear p0 q0 p1 q1 p2 q2 p3 q3 p4 q4 p5 q5 p6 q6 hb EB hz E12
          obtain ⟨⟨_, ⟨p0, q0⟩, ⟨p1, q1⟩, ⟨p2, q2⟩, ⟨p3, q3⟩, ⟨p4, q4⟩, ⟨p5, q5⟩, ⟨p6, q6⟩, ⟨p7, q7⟩, _⟩, _⟩ := E13.out
          go_wp2_with fail
          have EB := Lib.hid ((E13.out.push (.slice za (len (N + M + K)) zk) 24))
          refine (sameB (EB.out.nt 1 rfl) (EB.out.nt 0 rfl)).mono ?_
          rintro e w14 ⟨rfl, hb⟩
          have E14 := Lib.hid ((EB.out.below hb))
          clear p0 q0 p1 q1 p2 q2 p3 q3 p4 q4 p5 q5 p6 q6 p7 q7 hb EB E13
          obtain ⟨⟨_, ⟨p0, q0⟩, ⟨p1, q1⟩, ⟨p2, q2⟩, ⟨p3, q3⟩, ⟨p4, q4⟩, ⟨p5, q5⟩, ⟨p6, q6⟩, ⟨p7, q7⟩, ⟨p8, q8⟩, _⟩, _⟩ := E14.out
          go_wp2_with fail
          go_meet
          exact Lib.hid (E14.out.pop.pop.pop.pop.popn.popn.popn.popn)
        · clear l3
          have EB := Lib.hid ((E12.out.push (.slice ya (len 0) yk) 24))
          go_wp2_with fail
          go_meet
          exact Lib.hid (EB.out.pop.pop.pop.popn.popn.popn)
      · clear l2
        have EB := Lib.hid ((E12.out.push (.slice ya (len S3) yk) 24))
        go_wp2_with fail
        go_meet
        exact Lib.hid (EB.out.pop.pop.pop.popn.popn.popn)
    · clear l1
      go_wp2_with fail
      go_meet
      exact E8
  case rest => as_aux_lemma =>
    clear E8 p0 q0 p1 q1 p2 q2 p3 q3 p4 q4
    have E100 := hcut
    clear hcut
    obtain ⟨⟨_, ⟨p0, q0⟩, ⟨p1, q1⟩, ⟨p2, q2⟩, ⟨p3, q3⟩, ⟨p4, q4⟩, _⟩, _⟩ := E100.out
    go_wp2_with fail
    refine (mulB hP (E100.out.nt 4 rfl) (E100.out.nt 3 rfl) H1.out H2.out).mono ?_
    rintro e w101 ⟨⟨pa, pk, rfl, hp⟩, hb⟩
    have E101 := Lib.hid (((E100.out.below hb).numN (hp.out : Nt _ _ P)))
    clear p0 q0 p1 q1 p2 q2 p3 q3 p4 q4 hb hp E100
    obtain ⟨⟨_, ⟨p0, q0⟩, ⟨p1, q1⟩, ⟨p2, q2⟩, ⟨p3, q3⟩, ⟨p4, q4⟩, _⟩, _⟩ := E101.out
    go_wp2_with fail
    have EB := Lib.hid ((E101.out.push (.slice pa (len P) pk) 24))
    refine (mulB (by rw [Nat.mul_comm]; exact hP) (EB.out.nt 4 rfl) (EB.out.nt 5 rfl) H2.out H1.out).mono ?_
    rintro e w102 ⟨⟨qa, qk, rfl, hq⟩, hb⟩
    have E102 := Lib.hid (((EB.out.below hb).numN (hq.out : Nt _ _ P)))
    clear p0 q0 p1 q1 p2 q2 p3 q3 p4 q4 hb EB hq E101
    obtain ⟨⟨_, ⟨p0, q0⟩, ⟨p1, q1⟩, ⟨p2, q2⟩, ⟨p3, q3⟩, ⟨p4, q4⟩, ⟨p5, q5⟩, _⟩, _⟩ := E102.out
    go_wp2_with fail
    have EB := Lib.hid ((E102.out.push (.slice qa (len P) qk) 24))
    refine (sameB (EB.out.nt 1 rfl) (EB.out.nt 0 rfl)).mono ?_
    rintro e w103 ⟨rfl, hb⟩
    have E103 := Lib.hid ((EB.out.below hb))
    clear p0 q0 p1 q1 p2 q2 p3 q3 p4 q4 p5 q5 hb EB E102
    obtain ⟨⟨_, ⟨p0, q0⟩, ⟨p1, q1⟩, ⟨p2, q2⟩, ⟨p3, q3⟩, ⟨p4, q4⟩, ⟨p5, q5⟩, ⟨p6, q6⟩, _⟩, _⟩ := E103.out
    go_wp2_with fail
    refine (ofRes 1 _ (by omega)).mono ?_
    rintro e w104 ⟨⟨oa, ok, rfl, ho⟩, hb⟩
    have E104 := Lib.hid (((E103.out.below hb).numN (ho.out : Nt _ _ 1)))
    clear p0 q0 p1 q1 p2 q2 p3 q3 p4 q4 p5 q5 p6 q6 hb ho E103
    obtain ⟨⟨_, ⟨p0, q0⟩, ⟨p1, q1⟩, ⟨p2, q2⟩, ⟨p3, q3⟩, ⟨p4, q4⟩, ⟨p5, q5⟩, ⟨p6, q6⟩, _⟩, _⟩ := E104.out
    go_wp2_with fail
    have EB := Lib.hid ((E104.out.push (.slice oa (len 1) ok) 24))
    refine (mulB (V := N) (Lib.hid (Or.inl ⟨by rw [Nat.mul_one]; exact H1.out, (Nat.mul_one _).symm, rfl⟩)) (EB.out.nt 7 rfl) (EB.out.nt 0 rfl) H1.out (by rw [len_pos (by omega), show 1 / 4294967296 = 0 from rfl, len_zero]; omega)).mono ?_
    rintro e w105 ⟨⟨ma, mk, rfl, hm⟩, hb⟩
    have E105 := Lib.hid (((EB.out.below hb).numN (hm.out : Nt _ _ N)))
    clear p0 q0 p1 q1 p2 q2 p3 q3 p4 q4 p5 q5 p6 q6 hb EB hm E104
    obtain ⟨⟨_, ⟨p0, q0⟩, ⟨p1, q1⟩, ⟨p2, q2⟩, ⟨p3, q3⟩, ⟨p4, q4⟩, ⟨p5, q5⟩, ⟨p6, q6⟩, ⟨p7, q7⟩, _⟩, _⟩ := E105.out
    go_wp2_with fail
    have EB := Lib.hid ((E105.out.push (.slice ma (len N) mk) 24))
    refine (addB (V := N) (M := 0) (Lib.hid (Or.inl ⟨H1.out, rfl, rfl⟩)) (EB.out.nt 8 rfl) (Nt.zero _) H1.out (by rw [len_zero]; omega)).mono ?_
    rintro e w106 ⟨⟨ua, uk, rfl, hu⟩, hb⟩
    have E106 := Lib.hid (((EB.out.below hb).numN (hu.out : Nt _ _ N)))
    clear p0 q0 p1 q1 p2 q2 p3 q3 p4 q4 p5 q5 p6 q6 p7 q7 hb EB hu E105
    obtain ⟨⟨_, ⟨p0, q0⟩, ⟨p1, q1⟩, ⟨p2, q2⟩, ⟨p3, q3⟩, ⟨p4, q4⟩, ⟨p5, q5⟩, ⟨p6, q6⟩, ⟨p7, q7⟩, ⟨p8, q8⟩, _⟩, _⟩ := E106.out
    go_wp2_with fail
    have EB := Lib.hid ((E106.out.push (.slice ua (len N) uk) 24))
    refine (sameB (EB.out.nt 1 rfl) (EB.out.nt 9 rfl)).mono ?_
    rintro e w107 ⟨rfl, hb⟩
    have E107 := Lib.hid ((EB.out.below hb))
    clear p0 q0 p1 q1 p2 q2 p3 q3 p4 q4 p5 q5 p6 q6 p7 q7 p8 q8 hb EB E106
    obtain ⟨⟨_, ⟨p0, q0⟩, ⟨p1, q1⟩, ⟨p2, q2⟩, ⟨p3, q3⟩, ⟨p4, q4⟩, ⟨p5, q5⟩, ⟨p6, q6⟩, ⟨p7, q7⟩, ⟨p8, q8⟩, ⟨p9, q9⟩, _⟩, _⟩ := E107.out
    go_wp2_with fail
    refine (sameB (E107.out.nt 0 rfl) (E107.out.nt 9 rfl)).mono ?_
    rintro e w108 ⟨rfl, hb⟩
    have E108 := Lib.hid ((E107.out.below hb))
    clear p0 q0 p1 q1 p2 q2 p3 q3 p4 q4 p5 q5 p6 q6 p7 q7 p8 q8 p9 q9 hb E107
    obtain ⟨⟨_, ⟨p0, q0⟩, ⟨p1, q1⟩, ⟨p2, q2⟩, ⟨p3, q3⟩, ⟨p4, q4⟩, ⟨p5, q5⟩, ⟨p6, q6⟩, ⟨p7, q7⟩, ⟨p8, q8⟩, ⟨p9, q9⟩, _⟩, _⟩ := E108.out
    go_upto_if 193 with (fail)
    go_cut [] (fun wx => Hid (EnvN w [(⟨w106.heap.size, 0, none⟩, .slice ua (len N) uk), (⟨w105.heap.size, 0, none⟩, .slice ma (len N) mk), (⟨w104.heap.size, 0, none⟩, .slice oa (len 1) ok), (⟨w102.heap.size, 0, none⟩, .slice qa (len P) qk), (⟨w101.heap.size, 0, none⟩, .slice pa (len P) pk), (⟨w7.heap.size, 0, none⟩, .slice ta (len S) tk), (⟨w6.heap.size, 0, none⟩, .slice sa (len S) sk), (⟨w.heap.size + 1 + 1, 0, none⟩, .slice co (len K) cc), (⟨w.heap.size + 1, 0, none⟩, .slice bo (len M) cb), (⟨w.heap.size, 0, none⟩, .slice ao (len N) ca)] [(.slice ua (len N) uk, digs N), (.slice ma (len N) mk, digs N), (.slice oa (len 1) ok, digs 1), (.slice qa (len P) qk, digs P), (.slice pa (len P) pk, digs P), (.slice ta (len S) tk, digs S), (.slice sa (len S) sk, digs S), (.slice co (len K) cc, digs K), (.slice bo (len M) cb, digs M), (.slice ao (len N) ca, digs N)] wx))
    case first => as_aux_lemma =>
      rcases hP.out with ⟨l1, rfl, rfl⟩ | ⟨l1, rfl, rfl⟩
      · have L1 := Lib.hid l1
        clear l1
        obtain ⟨S2, sc2, hS2⟩ := BV.some (M * K)
        obtain ⟨S3, sc3, hS3⟩ := BV.some (N * M * K)
        go_wp2_with fail
        refine (mulB hS3 (E108.out.nt 4 rfl) (E108.out.nt 7 rfl) L1.out H3.out).mono ?_
        rintro e w109 ⟨⟨ya, yk, rfl, hy⟩, hb⟩
        have E109 := Lib.hid (((E108.out.below hb).numN (hy.out : Nt _ _ S3)))
        clear p0 q0 p1 q1 p2 q2 p3 q3 p4 q4 p5 q5 p6 q6 p7 q7 p8 q8 p9 q9 hb hy E108
        obtain ⟨⟨_, ⟨p0, q0⟩, ⟨p1, q1⟩, ⟨p2, q2⟩, ⟨p3, q3⟩, ⟨p4, q4⟩, ⟨p5, q5⟩, ⟨p6, q6⟩, ⟨p7, q7⟩, ⟨p8, q8⟩, ⟨p9, q9⟩, _⟩, _⟩ := E109.out
        go_wp2_with fail
        have EB := Lib.hid ((E109.out.push (.slice ya (len S3) yk) 24))
        refine (mulB hS2 (EB.out.nt 9 rfl) (EB.out.nt 8 rfl) H2.out H3.out).mono ?_
        rintro e w110 ⟨⟨xa, xk, rfl, hx⟩, hb⟩
        have E110 := Lib.hid (((EB.out.below hb).numN (hx.out : Nt _ _ S2)))
        clear p0 q0 p1 q1 p2 q2 p3 q3 p4 q4 p5 q5 p6 q6 p7 q7 p8 q8 p9 q9 hb EB hx E109
        obtain ⟨⟨_, ⟨p0, q0⟩, ⟨p1, q1⟩, ⟨p2, q2⟩, ⟨p3, q3⟩, ⟨p4, q4⟩, ⟨p5, q5⟩, ⟨p6, q6⟩, ⟨p7, q7⟩, ⟨p8, q8⟩, ⟨p9, q9⟩, ⟨p10, q10⟩, _⟩, _⟩ := E110.out
        rcases hS3.out with ⟨l3, rfl, rfl⟩ | ⟨l3, rfl, rfl⟩
        · have L3 := Lib.hid l3
          clear l3
          rcases hS2.out with ⟨l2, rfl, rfl⟩ | ⟨l2, rfl, rfl⟩
          · have L2 := Lib.hid l2
            clear l2
            have hBV : Hid (BV (N * (M * K)) (N * M * K) 0) := Lib.hid (Or.inl ⟨by rw [← Nat.mul_assoc]; exact L3.out, (Nat.mul_assoc _ _ _), rfl⟩)
            go_wp2_with fail
            have EB := Lib.hid ((E110.out.push (.slice xa (len (M * K)) xk) 24))
            refine (mulB hBV (EB.out.nt 11 rfl) (EB.out.nt 0 rfl) H1.out L2.out).mono ?_
            rintro e w111 ⟨⟨za, zk, rfl, hz⟩, hb⟩
            have E111 := Lib.hid (((EB.out.below hb).numN (hz.out : Nt _ _ (N * M * K))))
            clear p0 q0 p1 q1 p2 q2 p3 q3 p4 q4 p5 q5 p6 q6 p7 q7 p8 q8 p9 q9 p10 q10 hb EB hz E110
            obtain ⟨⟨_, ⟨p0, q0⟩, ⟨p1, q1⟩, ⟨p2, q2⟩, ⟨p3, q3⟩, ⟨p4, q4⟩, ⟨p5, q5⟩, ⟨p6, q6⟩, ⟨p7, q7⟩, ⟨p8, q8⟩, ⟨p9, q9⟩, ⟨p10, q10⟩, ⟨p11, q11⟩, _⟩, _⟩ := E111.out
            go_wp2_with fail
            have EB := Lib.hid ((E111.out.push (.slice za (len (N * M * K)) zk) 24))
            refine (sameB (EB.out.nt 2 rfl) (EB.out.nt 0 rfl)).mono ?_
            rintro e w112 ⟨rfl, hb⟩
            have E112 := Lib.hid ((EB.out.below hb))
            clear p0 q0 p1 q1 p2 q2 p3 q3 p4 q4 p5 q5 p6 q6 p7 q7 p8 q8 p9 q9 p10 q10 p11 q11 hb EB E111
            obtain ⟨⟨_, ⟨p0, q0⟩, ⟨p1, q1⟩, ⟨p2, q2⟩, ⟨p3, q3⟩, ⟨p4, q4⟩, ⟨p5, q5⟩, ⟨p6, q6⟩, ⟨p7, q7⟩, ⟨p8, q8⟩, ⟨p9, q9⟩, ⟨p10, q10⟩, ⟨p11, q11⟩, ⟨p12, q12⟩, _⟩, _⟩ := E112.out
            go_wp2_with fail
            go_meet
            exact Lib.hid (E112.out.pop.pop.pop.popn.popn.popn)
          · clear l2
            have EB := Lib.hid ((E110.out.push (.slice xa (len 0) xk) 24))
            go_wp2_with fail
            go_meet
            exact Lib.hid (EB.out.pop.pop.popn.popn)
        · clear l3
          have EB := Lib.hid ((E110.out.push (.slice xa (len S2) xk) 24))
          go_wp2_with fail
          go_meet
          exact Lib.hid (EB.out.pop.pop.popn.popn)
      · clear l1
        go_wp2_with fail
        go_meet
        exact E108
    case rest => as_aux_lemma =>
      clear E108 p0 q0 p1 q1 p2 q2 p3 q3 p4 q4 p5 q5 p6 q6 p7 q7 p8 q8 p9 q9
      have E200 := hcut
      clear hcut
      obtain ⟨⟨_, ⟨p0, q0⟩, ⟨p1, q1⟩, ⟨p2, q2⟩, ⟨p3, q3⟩, ⟨p4, q4⟩, ⟨p5, q5⟩, ⟨p6, q6⟩, ⟨p7, q7⟩, ⟨p8, q8⟩, ⟨p9, q9⟩, _⟩, _⟩ := E200.out
      obtain ⟨U1, u1, hU1⟩ := BV.some (S * K)
      obtain ⟨U2, u2, hU2⟩ := BV.some (N * K)
      obtain ⟨U3, u3, hU3⟩ := BV.some (M * K)
      go_wp2_with fail
      refine (mulB hU1 (E200.out.nt 6 rfl) (E200.out.nt 7 rfl) (BV.len64 hS) H3.out).mono ?_
      rintro e w201 ⟨⟨xa, xk, rfl, hx⟩, hb⟩
      have E201 := Lib.hid (((E200.out.below hb).numN (hx.out : Nt _ _ U1)))
      clear p0 q0 p1 q1 p2 q2 p3 q3 p4 q4 p5 q5 p6 q6 p7 q7 p8 q8 p9 q9 hb hx E200
      obtain ⟨⟨_, ⟨p0, q0⟩, ⟨p1, q1⟩, ⟨p2, q2⟩, ⟨p3, q3⟩, ⟨p4, q4⟩, ⟨p5, q5⟩, ⟨p6, q6⟩, ⟨p7, q7⟩, ⟨p8, q8⟩, ⟨p9, q9⟩, _⟩, _⟩ := E201.out
      go_wp2_with fail
      have EB := Lib.hid ((E201.out.push (.slice xa (len U1) xk) 24))
      refine (mulB hU2 (EB.out.nt 10 rfl) (EB.out.nt 8 rfl) H1.out H3.out).mono ?_
      rintro e w202 ⟨⟨ya, yk, rfl, hy⟩, hb⟩
      have E202 := Lib.hid (((EB.out.below hb).numN (hy.out : Nt _ _ U2)))
      clear p0 q0 p1 q1 p2 q2 p3 q3 p4 q4 p5 q5 p6 q6 p7 q7 p8 q8 p9 q9 hb EB hy E201
      obtain ⟨⟨_, ⟨p0, q0⟩, ⟨p1, q1⟩, ⟨p2, q2⟩, ⟨p3, q3⟩, ⟨p4, q4⟩, ⟨p5, q5⟩, ⟨p6, q6⟩, ⟨p7, q7⟩, ⟨p8, q8⟩, ⟨p9, q9⟩, ⟨p10, q10⟩, _⟩, _⟩ := E202.out
      go_wp2_with fail
      have EB := Lib.hid ((E202.out.push (.slice ya (len U2) yk) 24))
      refine (mulB hU3 (EB.out.nt 10 rfl) (EB.out.nt 9 rfl) H2.out H3.out).mono ?_
      rintro e w203 ⟨⟨za, zk, rfl, hz⟩, hb⟩
      have E203 := Lib.hid (((EB.out.below hb).numN (hz.out : Nt _ _ U3)))
      clear p0 q0 p1 q1 p2 q2 p3 q3 p4 q4 p5 q5 p6 q6 p7 q7 p8 q8 p9 q9 p10 q10 hb EB hz E202
      obtain ⟨⟨_, ⟨p0, q0⟩, ⟨p1, q1⟩, ⟨p2, q2⟩, ⟨p3, q3⟩, ⟨p4, q4⟩, ⟨p5, q5⟩, ⟨p6, q6⟩, ⟨p7, q7⟩, ⟨p8, q8⟩, ⟨p9, q9⟩, ⟨p10, q10⟩, ⟨p11, q11⟩, _⟩, _⟩ := E203.out
      rcases hS.out with ⟨t1, rfl, rfl⟩ | ⟨t1, rfl, rfl⟩
      · have T1 := Lib.hid t1
        clear t1
        rcases hU1.out with ⟨t2, rfl, rfl⟩ | ⟨t2, rfl, rfl⟩
        · have T2 := Lib.hid t2
          clear t2
          rcases hU2.out with ⟨t3, rfl, rfl⟩ | ⟨t3, rfl, rfl⟩
          · have T3 := Lib.hid t3
            clear t3
            rcases hU3.out with ⟨t4, rfl, rfl⟩ | ⟨t4, rfl, rfl⟩
            · have T4 := Lib.hid t4
              clear t4
              have hBV : Hid (BV (N * K + M * K) ((N + M) * K) 0) := Lib.hid (Or.inl ⟨by rw [← Nat.add_mul]; exact T2.out, (Nat.add_mul _ _ _), rfl⟩)
              go_wp2_with fail
              have EB := Lib.hid ((E203.out.push (.slice za (len (M * K)) zk) 24))
              refine (addB hBV (EB.out.nt 1 rfl) (EB.out.nt 0 rfl) T3.out T4.out).mono ?_
              rintro e w204 ⟨⟨va, vk, rfl, hv⟩, hb⟩
              have E204 := Lib.hid (((EB.out.below hb).numN (hv.out : Nt _ _ ((N + M) * K))))
              clear p0 q0 p1 q1 p2 q2 p3 q3 p4 q4 p5 q5 p6 q6 p7 q7 p8 q8 p9 q9 p10 q10 p11 q11 hb EB hv E203
              obtain ⟨⟨_, ⟨p0, q0⟩, ⟨p1, q1⟩, ⟨p2, q2⟩, ⟨p3, q3⟩, ⟨p4, q4⟩, ⟨p5, q5⟩, ⟨p6, q6⟩, ⟨p7, q7⟩, ⟨p8, q8⟩, ⟨p9, q9⟩, ⟨p10, q10⟩, ⟨p11, q11⟩, ⟨p12, q12⟩, _⟩, _⟩ := E204.out
              go_wp2_with fail
              have EB := Lib.hid ((E204.out.push (.slice va (len ((N + M) * K)) vk) 24))
              refine (sameB (EB.out.nt 3 rfl) (EB.out.nt 0 rfl)).mono ?_
              rintro e w205 ⟨rfl, hb⟩
              have E205 := Lib.hid ((EB.out.below hb))
              clear p0 q0 p1 q1 p2 q2 p3 q3 p4 q4 p5 q5 p6 q6 p7 q7 p8 q8 p9 q9 p10 q10 p11 q11 p12 q12 hb EB E204
              obtain ⟨⟨_, ⟨p0, q0⟩, ⟨p1, q1⟩, ⟨p2, q2⟩, ⟨p3, q3⟩, ⟨p4, q4⟩, ⟨p5, q5⟩, ⟨p6, q6⟩, ⟨p7, q7⟩, ⟨p8, q8⟩, ⟨p9, q9⟩, ⟨p10, q10⟩, ⟨p11, q11⟩, ⟨p12, q12⟩, ⟨p13, q13⟩, _⟩, _⟩ := E205.out
              have hfin := Lib.hid E205.out.1.1
              clear p0 q0 p1 q1 p2 q2 p3 q3 p4 q4 p5 q5 p6 q6 p7 q7 p8 q8 p9 q9 p10 q10 p11 q11 p12 q12 p13 q13
              go_wp2
              go_ret
              exact ⟨rfl, hfin.out⟩
            · clear t4
              have EB := Lib.hid ((E203.out.push (.slice za (len 0) zk) 24))
              have hfin := Lib.hid EB.out.1.1
              clear p0 q0 p1 q1 p2 q2 p3 q3 p4 q4 p5 q5 p6 q6 p7 q7 p8 q8 p9 q9 p10 q10 p11 q11
              go_wp2
              go_ret
              exact ⟨rfl, hfin.out⟩
          · clear t3
            have EB := Lib.hid ((E203.out.push (.slice za (len U3) zk) 24))
            have hfin := Lib.hid EB.out.1.1
            clear p0 q0 p1 q1 p2 q2 p3 q3 p4 q4 p5 q5 p6 q6 p7 q7 p8 q8 p9 q9 p10 q10 p11 q11
            go_wp2
            go_ret
            exact ⟨rfl, hfin.out⟩
        · clear t2
          have EB := Lib.hid ((E203.out.push (.slice za (len U3) zk) 24))
          have hfin := Lib.hid EB.out.1.1
          clear p0 q0 p1 q1 p2 q2 p3 q3 p4 q4 p5 q5 p6 q6 p7 q7 p8 q8 p9 q9 p10 q10 p11 q11
          go_wp2
          go_ret
          exact ⟨rfl, hfin.out⟩
      · clear t1
        have EB := Lib.hid ((E203.out.push (.slice za (len U3) zk) 24))
        have hfin := Lib.hid EB.out.1.1
        clear p0 q0 p1 q1 p2 q2 p3 q3 p4 q4 p5 q5 p6 q6 p7 q7 p8 q8 p9 q9 p10 q10 p11 q11
        go_wp2
        go_ret
        exact ⟨rfl, hfin.out⟩

set_option maxRecDepth 100000 in
set_option maxHeartbeats 4000000 in
theorem NaturalRing_bad (ao bo co : Option Addr) (ca cb cc : Nat) (la lb lc : List Nat) (w : World) (ha : Sl w (.slice ao la.length ca) la) (hb : Sl w (.slice bo lb.length cb) lb) (hc : Sl w (.slice co lc.length cc) lc) (hv : vld la = false ∨ vld lb = false ∨ vld lc = false) :
    Calls Try.prog 8 #[.agg #[.slice ao la.length ca], .agg #[.slice bo lb.length cb], .agg #[.slice co lc.length cc]] w fun e w' => e = .returned (.bool true) ∧ Below w.heap.size w w' := by
  have n1 := ha.len63
  have n2 := hb.len63
  have n3 := hc.len63
  have hw : vld la = false ∨ (vld la = true ∧ vld lb = false) ∨ (vld la = true ∧ vld lb = true ∧ vld lc = false) := by
    rcases hv with h | h | h <;> revert h <;> cases vld la <;> cases vld lb <;> simp
  clear hv
  have E0 := Lib.hid ((((EnvN.start w).num ha).num hb).num hc)
  clear ha hb hc
  generalize hl1 : la.length = n at *
  generalize hl2 : lb.length = m at *
  generalize hl3 : lc.length = k at *
  clear hl1 hl2 hl3
  go_enter Try.func8, Try.ntmps8
  go_wp2_with fail
  have EB := Lib.hid ((((E0.out.push (.slice ao n ca) 24).pushAt (.slice bo m cb) 24 (w.heap.size + 1) (by simp)).pushAt (.slice co k cc) 24 (w.heap.size + 1 + 1) (by simp)))
  refine (awake_c _).mono ?_
  rintro e w1 ⟨rfl, hb⟩
  have E1 := Lib.hid ((EB.out.below hb))
  clear hb EB E0
  obtain ⟨⟨_, ⟨p0, q0⟩, ⟨p1, q1⟩, ⟨p2, q2⟩, _⟩, _⟩ := E1.out
  go_wp2_with fail
  refine (great3_c ao bo co n m k ca cb cc w1 (by omega) (by omega) (by omega) _ rfl).mono ?_
  rintro e w2 ⟨⟨hg, rfl⟩ | ⟨_, rfl⟩, hb⟩
  · have hfin := Lib.hid (E1.out.below hb).1.1
    clear hb
    go_wp2
    go_ret
    exact ⟨rfl, hfin.out⟩
  have E2 := Lib.hid ((E1.out.below hb))
  clear p0 q0 p1 q1 p2 q2 hb E1
  obtain ⟨⟨_, ⟨p0, q0⟩, ⟨p1, q1⟩, ⟨p2, q2⟩, _⟩, _⟩ := E2.out
  rcases hw with h1 | ⟨h1, h2⟩ | ⟨h1, h2, h3⟩
  · have K1 := Lib.hid h1
    clear h1
    go_wp2_with fail
    refine (validS K1 (E2.out.sl 2 rfl)).mono ?_
    rintro e w3 ⟨rfl, hb⟩
    have E3 := Lib.hid ((E2.out.below hb))
    clear p0 q0 p1 q1 p2 q2 hb E2
    obtain ⟨⟨_, ⟨p0, q0⟩, ⟨p1, q1⟩, ⟨p2, q2⟩, _⟩, _⟩ := E3.out
    have hfin := Lib.hid E3.out.1.1
    clear p0 q0 p1 q1 p2 q2
    go_wp2
    go_ret
    exact ⟨rfl, hfin.out⟩
  · have K1 := Lib.hid h1
    have K2 := Lib.hid h2
    clear h1 h2
    go_wp2_with fail
    refine (validS K1 (E2.out.sl 2 rfl)).mono ?_
    rintro e w3 ⟨rfl, hb⟩
    have E3 := Lib.hid ((E2.out.below hb))
    clear p0 q0 p1 q1 p2 q2 hb E2
    obtain ⟨⟨_, ⟨p0, q0⟩, ⟨p1, q1⟩, ⟨p2, q2⟩, _⟩, _⟩ := E3.out
    go_wp2_with fail
    refine (validS K2 (E3.out.sl 1 rfl)).mono ?_
    rintro e w4 ⟨rfl, hb⟩
    have E4 := Lib.hid ((E3.out.below hb))
    clear p0 q0 p1 q1 p2 q2 hb E3
    obtain ⟨⟨_, ⟨p0, q0⟩, ⟨p1, q1⟩, ⟨p2, q2⟩, _⟩, _⟩ := E4.out
    have hfin := Lib.hid E4.out.1.1
    clear p0 q0 p1 q1 p2 q2
    go_wp2
    go_ret
    exact ⟨rfl, hfin.out⟩
  · have K1 := Lib.hid h1
    have K2 := Lib.hid h2
    have K3 := Lib.hid h3
    clear h1 h2 h3
    go_wp2_with fail
    refine (validS K1 (E2.out.sl 2 rfl)).mono ?_
    rintro e w3 ⟨rfl, hb⟩
    have E3 := Lib.hid ((E2.out.below hb))
    clear p0 q0 p1 q1 p2 q2 hb E2
    obtain ⟨⟨_, ⟨p0, q0⟩, ⟨p1, q1⟩, ⟨p2, q2⟩, _⟩, _⟩ := E3.out
    go_wp2_with fail
    refine (validS K2 (E3.out.sl 1 rfl)).mono ?_
    rintro e w4 ⟨rfl, hb⟩
    have E4 := Lib.hid ((E3.out.below hb))
    clear p0 q0 p1 q1 p2 q2 hb E3
    obtain ⟨⟨_, ⟨p0, q0⟩, ⟨p1, q1⟩, ⟨p2, q2⟩, _⟩, _⟩ := E4.out
    go_wp2_with fail
    refine (validS K3 (E4.out.sl 0 rfl)).mono ?_
    rintro e w5 ⟨rfl, hb⟩
    have E5 := Lib.hid ((E4.out.below hb))
    clear p0 q0 p1 q1 p2 q2 hb E4
    obtain ⟨⟨_, ⟨p0, q0⟩, ⟨p1, q1⟩, ⟨p2, q2⟩, _⟩, _⟩ := E5.out
    have hfin := Lib.hid E5.out.1.1
    clear p0 q0 p1 q1 p2 q2
    go_wp2
    go_ret
    exact ⟨rfl, hfin.out⟩

theorem NaturalRing_walk (a b c : Value) (la lb lc : List Nat) (w : World) (ha : Sl w a la) (hb : Sl w b lb) (hc : Sl w c lc) :
    Calls Try.prog 8 #[.agg #[a], .agg #[b], .agg #[c]] w fun e w' => e = .returned (.bool true) ∧ Below w.heap.size w w' := by
  by_cases hv : vld la = true ∧ vld lb = true ∧ vld lc = true
  · obtain ⟨N, rfl, h1, hN⟩ := vld_nt ha hv.1
    obtain ⟨M, rfl, h2, hM⟩ := vld_nt hb hv.2.1
    obtain ⟨K, rfl, h3, hK⟩ := vld_nt hc hv.2.2
    obtain ⟨ao, ca, rfl, _⟩ := hN.open
    obtain ⟨bo, cb, rfl, _⟩ := hM.open
    obtain ⟨co, cc, rfl, _⟩ := hK.open
    exact NaturalRing_valid ao bo co ca cb cc N M K w hN hM hK h1 h2 h3
  · obtain ⟨ao, ca, rfl, _⟩ := ha.open
    obtain ⟨bo, cb, rfl, _⟩ := hb.open
    obtain ⟨co, cc, rfl, _⟩ := hc.open
    refine NaturalRing_bad ao bo co ca cb cc la lb lc w ha hb hc ?_
    cases h1 : vld la
    · exact Or.inl rfl
    · cases h2 : vld lb
      · exact Or.inr (Or.inl rfl)
      · cases h3 : vld lc
        · exact Or.inr (Or.inr rfl)
        · exact absurd ⟨h1, h2, h3⟩ hv
end Go.Proofs.Ytgogfjehbaiklaa

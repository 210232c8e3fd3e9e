/- NaturalProducts: the walk of the statement. -/
import Derived.Test.YtgogfjehbaiklaaNatP6
namespace Go.Proofs.Ytgogfjehbaiklaa
open Go.RowKit NatMath
set_option linter.unusedVariables false

def ResX (q r : Nat) (c : Int) (e : Ending) (w' : World) : Prop := ∃ (qa : Option Addr) (qk : Nat) (ra : Option Addr) (rk : Nat), e = .returned (.tuple #[.agg #[.slice qa (len q) qk], .agg #[.slice ra (len r) rk], .int .i64 c]) ∧ Hid (Nt w' (.slice qa (len q) qk) q) ∧ Hid (Nt w' (.slice ra (len r) rk) r)
theorem errNN.res (c : Int) (w' : World) : ResX 0 0 c (errNN c) w' := ⟨none, 0, none, 0, by rw [len_zero]; rfl, Lib.hid (by rw [len_zero]; exact Nt.zero _), Lib.hid (by rw [len_zero]; exact Nt.zero _)⟩
theorem sameZ {a : Value} {w : World} (ha : Nt w a 0) :
    Calls Try.prog 18 #[.agg #[a], .agg #[.slice none 0 0]] w fun e w' => e = .returned (.bool true) ∧ Below w.heap.size w w' := sameB ha (Nt.zero _)


set_option maxRecDepth 100000 in
set_option maxHeartbeats 4000000 in
theorem NaturalProducts_abad (ao bo : Option Addr) (ca cb n m : Nat) (la lb : List Nat) (x : Int)  (w : World) (ha : Sl w (.slice ao n ca) la) (hb : Sl w (.slice bo m cb) lb) (hn : (n : Int) ≤ 9223372036854775807) (hm : (m : Int) ≤ 9223372036854775807) (va : vld la = false)
    (cMul : ∀ W, Sl W (.slice ao n ca) la → Sl W (.slice bo m cb) lb → Calls Try.prog 13 #[.agg #[.slice ao n ca], .agg #[.slice bo m cb]] W fun e w' => ResN 0 1 e w' ∧ Below W.heap.size W w')
    (cDiv : ∀ W, Sl W (.slice ao n ca) la → Sl W (.slice bo m cb) lb → Calls Try.prog 14 #[.agg #[.slice ao n ca], .agg #[.slice bo m cb]] W fun e w' => ResX 0 0 1 e w' ∧ Below W.heap.size W w')
    (cSh : ∀ W, Sl W (.slice ao n ca) la → Calls Try.prog 15 #[.agg #[.slice ao n ca], .int .i64 x] W fun e w' => ResN 0 1 e w' ∧ Below W.heap.size W w') :
    Calls Try.prog 3 #[.agg #[.slice ao n ca], .agg #[.slice bo m cb], .int .i64 x] w fun e w' => e = .returned (.bool true) ∧ Below w.heap.size w w' := by
  have KA := Lib.hid va
  have CMUL := Lib.hid cMul
  have CDIV := Lib.hid cDiv
  have CSH := Lib.hid cSh
  have E0 := Lib.hid (((EnvN.start w).num ha).num hb)
  clear va cMul cDiv cSh ha hb
  go_enter Try.func3, Try.ntmps3
  go_wp2_with fail
  have EB := Lib.hid (((E0.out.push (.slice ao n ca) 24).pushAt (.slice bo m cb) 24 (w.heap.size + 1) (by simp)))
  refine (awake_c _).mono ?_
  rintro e w1 ⟨rfl, hb⟩
  have E1 := Lib.hid ((EB.out.below hb))
  clear hb EB E0
  obtain ⟨⟨_, ⟨p0, q0⟩, ⟨p1, q1⟩, _⟩, _⟩ := E1.out
  go_wp2_with fail
  refine (great2_c ao bo n m ca cb w1 hn hm _ rfl).mono ?_
  rintro e w2 ⟨⟨hg, rfl⟩ | ⟨_, rfl⟩, hb⟩
  · have hfin := Lib.hid (E1.out.below hb).1.1
    clear hb
    go_wp2
    go_ret
    exact ⟨rfl, hfin.out⟩
  have E2 := Lib.hid ((E1.out.below hb))
  clear p0 q0 p1 q1 hb E1
  obtain ⟨⟨_, ⟨p0, q0⟩, ⟨p1, q1⟩, _⟩, _⟩ := E2.out
  go_wp2_with fail
  refine (CMUL.out _ (E2.out.sl 1 rfl) (E2.out.sl 0 rfl)).mono ?_
  rintro e w3 ⟨⟨pa, pk, rfl, hp⟩, hb⟩
  have E3 := Lib.hid (((E2.out.below hb).numN (hp.out : Nt _ _ 0)))
  clear p0 q0 p1 q1 hb hp E2
  obtain ⟨⟨_, ⟨p0, q0⟩, ⟨p1, q1⟩, _⟩, _⟩ := E3.out
  go_wp2_with fail
  have EB := Lib.hid ((E3.out.push (.slice pa (len 0) pk) 24))
  refine (CDIV.out _ (EB.out.sl 2 rfl) (EB.out.sl 1 rfl)).mono ?_
  rintro e w4 ⟨⟨qa, qk, ra, rk, rfl, hq, hr⟩, hb⟩
  have E4 := Lib.hid ((((EB.out.below hb).numN (hq.out : Nt _ _ 0)).numN (hr.out : Nt _ _ 0)))
  clear p0 q0 p1 q1 hb EB hq hr E3
  obtain ⟨⟨_, ⟨p0, q0⟩, ⟨p1, q1⟩, ⟨p2, q2⟩, _⟩, _⟩ := E4.out
  go_wp2_with fail
  have EB := Lib.hid (((E4.out.push (.slice qa (len 0) qk) 24).pushAt (.slice ra (len 0) rk) 24 (w4.heap.size + 1) (by simp)))
  refine (CSH.out _ (EB.out.sl 4 rfl)).mono ?_
  rintro e w5 ⟨⟨sa, sk, rfl, hs⟩, hb⟩
  have E5 := Lib.hid (((EB.out.below hb).numN (hs.out : Nt _ _ 0)))
  clear p0 q0 p1 q1 p2 q2 hb EB hs E4
  obtain ⟨⟨_, ⟨p0, q0⟩, ⟨p1, q1⟩, ⟨p2, q2⟩, ⟨p3, q3⟩, ⟨p4, q4⟩, _⟩, _⟩ := E5.out
  go_wp2_with fail
  have EB := Lib.hid ((E5.out.push (.slice sa (len 0) sk) 24))
  refine (validS KA (EB.out.sl 5 rfl)).mono ?_
  rintro e w6 ⟨rfl, hb⟩
  have E6 := Lib.hid ((EB.out.below hb))
  clear p0 q0 p1 q1 p2 q2 p3 q3 p4 q4 hb EB E5
  obtain ⟨⟨_, ⟨p0, q0⟩, ⟨p1, q1⟩, ⟨p2, q2⟩, ⟨p3, q3⟩, ⟨p4, q4⟩, ⟨p5, q5⟩, _⟩, _⟩ := E6.out
  go_wp2_with fail
  refine (isB 1 (E6.out.nt 3 rfl) (Nt.zero _)).mono ?_
  rintro e w7 ⟨rfl, hb⟩
  have E7 := Lib.hid ((E6.out.below hb))
  clear p0 q0 p1 q1 p2 q2 p3 q3 p4 q4 p5 q5 hb E6
  obtain ⟨⟨_, ⟨p0, q0⟩, ⟨p1, q1⟩, ⟨p2, q2⟩, ⟨p3, q3⟩, ⟨p4, q4⟩, ⟨p5, q5⟩, _⟩, _⟩ := E7.out
  go_wp2_with fail
  refine (isB 1 (E7.out.nt 2 rfl) (Nt.zero _)).mono ?_
  rintro e w8 ⟨rfl, hb⟩
  have E8 := Lib.hid ((E7.out.below hb))
  clear p0 q0 p1 q1 p2 q2 p3 q3 p4 q4 p5 q5 hb E7
  obtain ⟨⟨_, ⟨p0, q0⟩, ⟨p1, q1⟩, ⟨p2, q2⟩, ⟨p3, q3⟩, ⟨p4, q4⟩, ⟨p5, q5⟩, _⟩, _⟩ := E8.out
  go_wp2_with fail
  refine (sameZ (E8.out.nt 1 rfl)).mono ?_
  rintro e w9 ⟨rfl, hb⟩
  have E9 := Lib.hid ((E8.out.below hb))
  clear p0 q0 p1 q1 p2 q2 p3 q3 p4 q4 p5 q5 hb E8
  obtain ⟨⟨_, ⟨p0, q0⟩, ⟨p1, q1⟩, ⟨p2, q2⟩, ⟨p3, q3⟩, ⟨p4, q4⟩, ⟨p5, q5⟩, _⟩, _⟩ := E9.out
  go_wp2_with fail
  refine (isB 1 (E9.out.nt 0 rfl) (Nt.zero _)).mono ?_
  rintro e w10 ⟨rfl, hb⟩
  have E10 := Lib.hid ((E9.out.below hb))
  clear p0 q0 p1 q1 p2 q2 p3 q3 p4 q4 p5 q5 hb E9
  obtain ⟨⟨_, ⟨p0, q0⟩, ⟨p1, q1⟩, ⟨p2, q2⟩, ⟨p3, q3⟩, ⟨p4, q4⟩, ⟨p5, q5⟩, _⟩, _⟩ := E10.out
  have hfin := Lib.hid E10.out.1.1
  clear p0 q0 p1 q1 p2 q2 p3 q3 p4 q4 p5 q5
  go_wp2
  go_ret
  exact ⟨rfl, hfin.out⟩

set_option maxRecDepth 100000 in
set_option maxHeartbeats 4000000 in
theorem NaturalProducts_out_bad (ao bo : Option Addr) (ca cb n m : Nat) (la lb : List Nat) (x : Int)  (w : World) (ha : Sl w (.slice ao n ca) la) (hb : Sl w (.slice bo m cb) lb) (hn : (n : Int) ≤ 9223372036854775807) (hm : (m : Int) ≤ 9223372036854775807) (va : vld la = true) (vb : vld lb = false)
    (cMul : ∀ W, Sl W (.slice ao n ca) la → Sl W (.slice bo m cb) lb → Calls Try.prog 13 #[.agg #[.slice ao n ca], .agg #[.slice bo m cb]] W fun e w' => ResN 0 1 e w' ∧ Below W.heap.size W w')
    (cDiv : ∀ W, Sl W (.slice ao n ca) la → Sl W (.slice bo m cb) lb → Calls Try.prog 14 #[.agg #[.slice ao n ca], .agg #[.slice bo m cb]] W fun e w' => ResX 0 0 1 e w' ∧ Below W.heap.size W w')
    (cSh : ∀ W, Sl W (.slice ao n ca) la → Calls Try.prog 15 #[.agg #[.slice ao n ca], .int .i64 x] W fun e w' => ResN 0 2 e w' ∧ Below W.heap.size W w') (hx : x < -10000 ∨ 10000 < x) :
    Calls Try.prog 3 #[.agg #[.slice ao n ca], .agg #[.slice bo m cb], .int .i64 x] w fun e w' => e = .returned (.bool true) ∧ Below w.heap.size w w' := by
  have KA := Lib.hid va
  have KB := Lib.hid vb
  have CMUL := Lib.hid cMul
  have CDIV := Lib.hid cDiv
  have CSH := Lib.hid cSh
  have E0 := Lib.hid (((EnvN.start w).num ha).num hb)
  have ht : decide (x < -10000) = true ∨ (decide (x < -10000) = false ∧ decide (10000 < x) = true) := by
    by_cases h : x < -10000
    · exact Or.inl (decide_eq_true h)
    · exact Or.inr ⟨decide_eq_false h, decide_eq_true (by omega)⟩
  clear va vb cMul cDiv cSh ha hb hx
  go_enter Try.func3, Try.ntmps3
  go_wp2_with fail
  have EB := Lib.hid (((E0.out.push (.slice ao n ca) 24).pushAt (.slice bo m cb) 24 (w.heap.size + 1) (by simp)))
  refine (awake_c _).mono ?_
  rintro e w1 ⟨rfl, hb⟩
  have E1 := Lib.hid ((EB.out.below hb))
  clear hb EB E0
  obtain ⟨⟨_, ⟨p0, q0⟩, ⟨p1, q1⟩, _⟩, _⟩ := E1.out
  go_wp2_with fail
  refine (great2_c ao bo n m ca cb w1 hn hm _ rfl).mono ?_
  rintro e w2 ⟨⟨hg, rfl⟩ | ⟨_, rfl⟩, hb⟩
  · have hfin := Lib.hid (E1.out.below hb).1.1
    clear hb
    go_wp2
    go_ret
    exact ⟨rfl, hfin.out⟩
  have E2 := Lib.hid ((E1.out.below hb))
  clear p0 q0 p1 q1 hb E1
  obtain ⟨⟨_, ⟨p0, q0⟩, ⟨p1, q1⟩, _⟩, _⟩ := E2.out
  go_wp2_with fail
  refine (CMUL.out _ (E2.out.sl 1 rfl) (E2.out.sl 0 rfl)).mono ?_
  rintro e w3 ⟨⟨pa, pk, rfl, hp⟩, hb⟩
  have E3 := Lib.hid (((E2.out.below hb).numN (hp.out : Nt _ _ 0)))
  clear p0 q0 p1 q1 hb hp E2
  obtain ⟨⟨_, ⟨p0, q0⟩, ⟨p1, q1⟩, _⟩, _⟩ := E3.out
  go_wp2_with fail
  have EB := Lib.hid ((E3.out.push (.slice pa (len 0) pk) 24))
  refine (CDIV.out _ (EB.out.sl 2 rfl) (EB.out.sl 1 rfl)).mono ?_
  rintro e w4 ⟨⟨qa, qk, ra, rk, rfl, hq, hr⟩, hb⟩
  have E4 := Lib.hid ((((EB.out.below hb).numN (hq.out : Nt _ _ 0)).numN (hr.out : Nt _ _ 0)))
  clear p0 q0 p1 q1 hb EB hq hr E3
  obtain ⟨⟨_, ⟨p0, q0⟩, ⟨p1, q1⟩, ⟨p2, q2⟩, _⟩, _⟩ := E4.out
  go_wp2_with fail
  have EB := Lib.hid (((E4.out.push (.slice qa (len 0) qk) 24).pushAt (.slice ra (len 0) rk) 24 (w4.heap.size + 1) (by simp)))
  refine (CSH.out _ (EB.out.sl 4 rfl)).mono ?_
  rintro e w5 ⟨⟨sa, sk, rfl, hs⟩, hb⟩
  have E5 := Lib.hid (((EB.out.below hb).numN (hs.out : Nt _ _ 0)))
  clear p0 q0 p1 q1 p2 q2 hb EB hs E4
  obtain ⟨⟨_, ⟨p0, q0⟩, ⟨p1, q1⟩, ⟨p2, q2⟩, ⟨p3, q3⟩, ⟨p4, q4⟩, _⟩, _⟩ := E5.out
  go_wp2_with fail
  have EB := Lib.hid ((E5.out.push (.slice sa (len 0) sk) 24))
  refine (validS KA (EB.out.sl 5 rfl)).mono ?_
  rintro e w6 ⟨rfl, hb⟩
  have E6 := Lib.hid ((EB.out.below hb))
  clear p0 q0 p1 q1 p2 q2 p3 q3 p4 q4 hb EB E5
  obtain ⟨⟨_, ⟨p0, q0⟩, ⟨p1, q1⟩, ⟨p2, q2⟩, ⟨p3, q3⟩, ⟨p4, q4⟩, ⟨p5, q5⟩, _⟩, _⟩ := E6.out
  rcases ht with t1 | ⟨t1, t2⟩
  · skip
    go_wp2_with fail
    refine (isB 2 (E6.out.nt 0 rfl) (Nt.zero _)).mono ?_
    rintro e w7 ⟨rfl, hb⟩
    have E7 := Lib.hid ((E6.out.below hb))
    clear p0 q0 p1 q1 p2 q2 p3 q3 p4 q4 p5 q5 hb E6
    obtain ⟨⟨_, ⟨p0, q0⟩, ⟨p1, q1⟩, ⟨p2, q2⟩, ⟨p3, q3⟩, ⟨p4, q4⟩, ⟨p5, q5⟩, _⟩, _⟩ := E7.out
    go_wp2_with fail
    refine (validS KB (E7.out.sl 4 rfl)).mono ?_
    rintro e w8 ⟨rfl, hb⟩
    have E8 := Lib.hid ((E7.out.below hb))
    clear p0 q0 p1 q1 p2 q2 p3 q3 p4 q4 p5 q5 hb E7
    obtain ⟨⟨_, ⟨p0, q0⟩, ⟨p1, q1⟩, ⟨p2, q2⟩, ⟨p3, q3⟩, ⟨p4, q4⟩, ⟨p5, q5⟩, _⟩, _⟩ := E8.out
    go_wp2_with fail
    refine (isB 1 (E8.out.nt 3 rfl) (Nt.zero _)).mono ?_
    rintro e w9 ⟨rfl, hb⟩
    have E9 := Lib.hid ((E8.out.below hb))
    clear p0 q0 p1 q1 p2 q2 p3 q3 p4 q4 p5 q5 hb E8
    obtain ⟨⟨_, ⟨p0, q0⟩, ⟨p1, q1⟩, ⟨p2, q2⟩, ⟨p3, q3⟩, ⟨p4, q4⟩, ⟨p5, q5⟩, _⟩, _⟩ := E9.out
    go_wp2_with fail
    refine (isB 1 (E9.out.nt 2 rfl) (Nt.zero _)).mono ?_
    rintro e w10 ⟨rfl, hb⟩
    have E10 := Lib.hid ((E9.out.below hb))
    clear p0 q0 p1 q1 p2 q2 p3 q3 p4 q4 p5 q5 hb E9
    obtain ⟨⟨_, ⟨p0, q0⟩, ⟨p1, q1⟩, ⟨p2, q2⟩, ⟨p3, q3⟩, ⟨p4, q4⟩, ⟨p5, q5⟩, _⟩, _⟩ := E10.out
    go_wp2_with fail
    refine (sameZ (E10.out.nt 1 rfl)).mono ?_
    rintro e w11 ⟨rfl, hb⟩
    have E11 := Lib.hid ((E10.out.below hb))
    clear p0 q0 p1 q1 p2 q2 p3 q3 p4 q4 p5 q5 hb E10
    obtain ⟨⟨_, ⟨p0, q0⟩, ⟨p1, q1⟩, ⟨p2, q2⟩, ⟨p3, q3⟩, ⟨p4, q4⟩, ⟨p5, q5⟩, _⟩, _⟩ := E11.out
    have hfin := Lib.hid E11.out.1.1
    clear p0 q0 p1 q1 p2 q2 p3 q3 p4 q4 p5 q5
    go_wp2
    go_ret
    exact ⟨rfl, hfin.out⟩
  · skip
    go_wp2_with fail
    refine (isB 2 (E6.out.nt 0 rfl) (Nt.zero _)).mono ?_
    rintro e w7 ⟨rfl, hb⟩
    have E7 := Lib.hid ((E6.out.below hb))
    clear p0 q0 p1 q1 p2 q2 p3 q3 p4 q4 p5 q5 hb E6
    obtain ⟨⟨_, ⟨p0, q0⟩, ⟨p1, q1⟩, ⟨p2, q2⟩, ⟨p3, q3⟩, ⟨p4, q4⟩, ⟨p5, q5⟩, _⟩, _⟩ := E7.out
    go_wp2_with fail
    refine (validS KB (E7.out.sl 4 rfl)).mono ?_
    rintro e w8 ⟨rfl, hb⟩
    have E8 := Lib.hid ((E7.out.below hb))
    clear p0 q0 p1 q1 p2 q2 p3 q3 p4 q4 p5 q5 hb E7
    obtain ⟨⟨_, ⟨p0, q0⟩, ⟨p1, q1⟩, ⟨p2, q2⟩, ⟨p3, q3⟩, ⟨p4, q4⟩, ⟨p5, q5⟩, _⟩, _⟩ := E8.out
    go_wp2_with fail
    refine (isB 1 (E8.out.nt 3 rfl) (Nt.zero _)).mono ?_
    rintro e w9 ⟨rfl, hb⟩
    have E9 := Lib.hid ((E8.out.below hb))
    clear p0 q0 p1 q1 p2 q2 p3 q3 p4 q4 p5 q5 hb E8
    obtain ⟨⟨_, ⟨p0, q0⟩, ⟨p1, q1⟩, ⟨p2, q2⟩, ⟨p3, q3⟩, ⟨p4, q4⟩, ⟨p5, q5⟩, _⟩, _⟩ := E9.out
    go_wp2_with fail
    refine (isB 1 (E9.out.nt 2 rfl) (Nt.zero _)).mono ?_
    rintro e w10 ⟨rfl, hb⟩
    have E10 := Lib.hid ((E9.out.below hb))
    clear p0 q0 p1 q1 p2 q2 p3 q3 p4 q4 p5 q5 hb E9
    obtain ⟨⟨_, ⟨p0, q0⟩, ⟨p1, q1⟩, ⟨p2, q2⟩, ⟨p3, q3⟩, ⟨p4, q4⟩, ⟨p5, q5⟩, _⟩, _⟩ := E10.out
    go_wp2_with fail
    refine (sameZ (E10.out.nt 1 rfl)).mono ?_
    rintro e w11 ⟨rfl, hb⟩
    have E11 := Lib.hid ((E10.out.below hb))
    clear p0 q0 p1 q1 p2 q2 p3 q3 p4 q4 p5 q5 hb E10
    obtain ⟨⟨_, ⟨p0, q0⟩, ⟨p1, q1⟩, ⟨p2, q2⟩, ⟨p3, q3⟩, ⟨p4, q4⟩, ⟨p5, q5⟩, _⟩, _⟩ := E11.out
    have hfin := Lib.hid E11.out.1.1
    clear p0 q0 p1 q1 p2 q2 p3 q3 p4 q4 p5 q5
    go_wp2
    go_ret
    exact ⟨rfl, hfin.out⟩

set_option maxRecDepth 100000 in
set_option maxHeartbeats 4000000 in
theorem NaturalProducts_out_zero (ao bo : Option Addr) (ca cb n m : Nat) (la lb : List Nat) (x : Int) (P : Nat) (pc : Int) (w : World) (ha : Sl w (.slice ao n ca) la) (hb : Sl w (.slice bo m cb) lb) (hn : (n : Int) ≤ 9223372036854775807) (hm : (m : Int) ≤ 9223372036854775807) (va : vld la = true) (vb : vld lb = true)
    (cMul : ∀ W, Sl W (.slice ao n ca) la → Sl W (.slice bo m cb) lb → Calls Try.prog 13 #[.agg #[.slice ao n ca], .agg #[.slice bo m cb]] W fun e w' => ResN P pc e w' ∧ Below W.heap.size W w')
    (cDiv : ∀ W, Sl W (.slice ao n ca) la → Sl W (.slice bo m cb) lb → Calls Try.prog 14 #[.agg #[.slice ao n ca], .agg #[.slice bo m cb]] W fun e w' => ResX 0 0 10 e w' ∧ Below W.heap.size W w')
    (cSh : ∀ W, Sl W (.slice ao n ca) la → Calls Try.prog 15 #[.agg #[.slice ao n ca], .int .i64 x] W fun e w' => ResN 0 2 e w' ∧ Below W.heap.size W w')
    (cRM : ∀ W, Sl W (.slice ao n ca) la → Sl W (.slice bo m cb) lb → Calls Try.prog 20 #[.agg #[.slice ao n ca], .agg #[.slice bo m cb]] W fun e w' => ResN P pc e w' ∧ Below W.heap.size W w') (hx : x < -10000 ∨ 10000 < x) (hm0 : m = 0) :
    Calls Try.prog 3 #[.agg #[.slice ao n ca], .agg #[.slice bo m cb], .int .i64 x] w fun e w' => e = .returned (.bool true) ∧ Below w.heap.size w w' := by
  have KA := Lib.hid va
  have KB := Lib.hid vb
  have CMUL := Lib.hid cMul
  have CDIV := Lib.hid cDiv
  have CSH := Lib.hid cSh
  have CRM := Lib.hid cRM
  have E0 := Lib.hid (((EnvN.start w).num ha).num hb)
  have ht : decide (x < -10000) = true ∨ (decide (x < -10000) = false ∧ decide (10000 < x) = true) := by
    by_cases h : x < -10000
    · exact Or.inl (decide_eq_true h)
    · exact Or.inr ⟨decide_eq_false h, decide_eq_true (by omega)⟩
  have t3 : ((m : Int) == 0) = true := by rw [hm0]; rfl
  clear va vb cMul cDiv cSh cRM ha hb hx hm0
  go_enter Try.func3, Try.ntmps3
  go_wp2_with fail
  have EB := Lib.hid (((E0.out.push (.slice ao n ca) 24).pushAt (.slice bo m cb) 24 (w.heap.size + 1) (by simp)))
  refine (awake_c _).mono ?_
  rintro e w1 ⟨rfl, hb⟩
  have E1 := Lib.hid ((EB.out.below hb))
  clear hb EB E0
  obtain ⟨⟨_, ⟨p0, q0⟩, ⟨p1, q1⟩, _⟩, _⟩ := E1.out
  go_wp2_with fail
  refine (great2_c ao bo n m ca cb w1 hn hm _ rfl).mono ?_
  rintro e w2 ⟨⟨hg, rfl⟩ | ⟨_, rfl⟩, hb⟩
  · have hfin := Lib.hid (E1.out.below hb).1.1
    clear hb
    go_wp2
    go_ret
    exact ⟨rfl, hfin.out⟩
  have E2 := Lib.hid ((E1.out.below hb))
  clear p0 q0 p1 q1 hb E1
  obtain ⟨⟨_, ⟨p0, q0⟩, ⟨p1, q1⟩, _⟩, _⟩ := E2.out
  go_wp2_with fail
  refine (CMUL.out _ (E2.out.sl 1 rfl) (E2.out.sl 0 rfl)).mono ?_
  rintro e w3 ⟨⟨pa, pk, rfl, hp⟩, hb⟩
  have E3 := Lib.hid (((E2.out.below hb).numN (hp.out : Nt _ _ P)))
  clear p0 q0 p1 q1 hb hp E2
  obtain ⟨⟨_, ⟨p0, q0⟩, ⟨p1, q1⟩, _⟩, _⟩ := E3.out
  go_wp2_with fail
  have EB := Lib.hid ((E3.out.push (.slice pa (len P) pk) 24))
  refine (CDIV.out _ (EB.out.sl 2 rfl) (EB.out.sl 1 rfl)).mono ?_
  rintro e w4 ⟨⟨qa, qk, ra, rk, rfl, hq, hr⟩, hb⟩
  have E4 := Lib.hid ((((EB.out.below hb).numN (hq.out : Nt _ _ 0)).numN (hr.out : Nt _ _ 0)))
  clear p0 q0 p1 q1 hb EB hq hr E3
  obtain ⟨⟨_, ⟨p0, q0⟩, ⟨p1, q1⟩, ⟨p2, q2⟩, _⟩, _⟩ := E4.out
  go_wp2_with fail
  have EB := Lib.hid (((E4.out.push (.slice qa (len 0) qk) 24).pushAt (.slice ra (len 0) rk) 24 (w4.heap.size + 1) (by simp)))
  refine (CSH.out _ (EB.out.sl 4 rfl)).mono ?_
  rintro e w5 ⟨⟨sa, sk, rfl, hs⟩, hb⟩
  have E5 := Lib.hid (((EB.out.below hb).numN (hs.out : Nt _ _ 0)))
  clear p0 q0 p1 q1 p2 q2 hb EB hs E4
  obtain ⟨⟨_, ⟨p0, q0⟩, ⟨p1, q1⟩, ⟨p2, q2⟩, ⟨p3, q3⟩, ⟨p4, q4⟩, _⟩, _⟩ := E5.out
  go_wp2_with fail
  have EB := Lib.hid ((E5.out.push (.slice sa (len 0) sk) 24))
  refine (validS KA (EB.out.sl 5 rfl)).mono ?_
  rintro e w6 ⟨rfl, hb⟩
  have E6 := Lib.hid ((EB.out.below hb))
  clear p0 q0 p1 q1 p2 q2 p3 q3 p4 q4 hb EB E5
  obtain ⟨⟨_, ⟨p0, q0⟩, ⟨p1, q1⟩, ⟨p2, q2⟩, ⟨p3, q3⟩, ⟨p4, q4⟩, ⟨p5, q5⟩, _⟩, _⟩ := E6.out
  rcases ht with t1 | ⟨t1, t2⟩
  · skip
    go_wp2_with fail
    refine (isB 2 (E6.out.nt 0 rfl) (Nt.zero _)).mono ?_
    rintro e w7 ⟨rfl, hb⟩
    have E7 := Lib.hid ((E6.out.below hb))
    clear p0 q0 p1 q1 p2 q2 p3 q3 p4 q4 p5 q5 hb E6
    obtain ⟨⟨_, ⟨p0, q0⟩, ⟨p1, q1⟩, ⟨p2, q2⟩, ⟨p3, q3⟩, ⟨p4, q4⟩, ⟨p5, q5⟩, _⟩, _⟩ := E7.out
    go_wp2_with fail
    refine (validS KB (E7.out.sl 4 rfl)).mono ?_
    rintro e w8 ⟨rfl, hb⟩
    have E8 := Lib.hid ((E7.out.below hb))
    clear p0 q0 p1 q1 p2 q2 p3 q3 p4 q4 p5 q5 hb E7
    obtain ⟨⟨_, ⟨p0, q0⟩, ⟨p1, q1⟩, ⟨p2, q2⟩, ⟨p3, q3⟩, ⟨p4, q4⟩, ⟨p5, q5⟩, _⟩, _⟩ := E8.out
    go_wp2_with fail
    refine (CRM.out _ (E8.out.sl 5 rfl) (E8.out.sl 4 rfl)).mono ?_
    rintro e w9 ⟨⟨ya, yk, rfl, hy⟩, hb⟩
    have E9 := Lib.hid (((E8.out.below hb).numN (hy.out : Nt _ _ P)))
    clear p0 q0 p1 q1 p2 q2 p3 q3 p4 q4 p5 q5 hb hy E8
    obtain ⟨⟨_, ⟨p0, q0⟩, ⟨p1, q1⟩, ⟨p2, q2⟩, ⟨p3, q3⟩, ⟨p4, q4⟩, ⟨p5, q5⟩, _⟩, _⟩ := E9.out
    go_wp2_with fail
    have EB := Lib.hid ((E9.out.push (.slice ya (len P) yk) 24))
    refine (isB pc (EB.out.nt 4 rfl) (EB.out.nt 0 rfl)).mono ?_
    rintro e w10 ⟨rfl, hb⟩
    have E10 := Lib.hid ((EB.out.below hb))
    clear p0 q0 p1 q1 p2 q2 p3 q3 p4 q4 p5 q5 hb EB E9
    obtain ⟨⟨_, ⟨p0, q0⟩, ⟨p1, q1⟩, ⟨p2, q2⟩, ⟨p3, q3⟩, ⟨p4, q4⟩, ⟨p5, q5⟩, ⟨p6, q6⟩, _⟩, _⟩ := E10.out
    go_wp2_with fail
    refine (isB 10 (E10.out.nt 3 rfl) (Nt.zero _)).mono ?_
    rintro e w11 ⟨rfl, hb⟩
    have E11 := Lib.hid ((E10.out.below hb))
    clear p0 q0 p1 q1 p2 q2 p3 q3 p4 q4 p5 q5 p6 q6 hb E10
    obtain ⟨⟨_, ⟨p0, q0⟩, ⟨p1, q1⟩, ⟨p2, q2⟩, ⟨p3, q3⟩, ⟨p4, q4⟩, ⟨p5, q5⟩, ⟨p6, q6⟩, _⟩, _⟩ := E11.out
    go_wp2_with fail
    refine (sameZ (E11.out.nt 2 rfl)).mono ?_
    rintro e w12 ⟨rfl, hb⟩
    have E12 := Lib.hid ((E11.out.below hb))
    clear p0 q0 p1 q1 p2 q2 p3 q3 p4 q4 p5 q5 p6 q6 hb E11
    obtain ⟨⟨_, ⟨p0, q0⟩, ⟨p1, q1⟩, ⟨p2, q2⟩, ⟨p3, q3⟩, ⟨p4, q4⟩, ⟨p5, q5⟩, ⟨p6, q6⟩, _⟩, _⟩ := E12.out
    have hfin := Lib.hid E12.out.1.1
    clear p0 q0 p1 q1 p2 q2 p3 q3 p4 q4 p5 q5 p6 q6
    go_wp2
    go_ret
    exact ⟨rfl, hfin.out⟩
  · skip
    go_wp2_with fail
    refine (isB 2 (E6.out.nt 0 rfl) (Nt.zero _)).mono ?_
    rintro e w7 ⟨rfl, hb⟩
    have E7 := Lib.hid ((E6.out.below hb))
    clear p0 q0 p1 q1 p2 q2 p3 q3 p4 q4 p5 q5 hb E6
    obtain ⟨⟨_, ⟨p0, q0⟩, ⟨p1, q1⟩, ⟨p2, q2⟩, ⟨p3, q3⟩, ⟨p4, q4⟩, ⟨p5, q5⟩, _⟩, _⟩ := E7.out
    go_wp2_with fail
    refine (validS KB (E7.out.sl 4 rfl)).mono ?_
    rintro e w8 ⟨rfl, hb⟩
    have E8 := Lib.hid ((E7.out.below hb))
    clear p0 q0 p1 q1 p2 q2 p3 q3 p4 q4 p5 q5 hb E7
    obtain ⟨⟨_, ⟨p0, q0⟩, ⟨p1, q1⟩, ⟨p2, q2⟩, ⟨p3, q3⟩, ⟨p4, q4⟩, ⟨p5, q5⟩, _⟩, _⟩ := E8.out
    go_wp2_with fail
    refine (CRM.out _ (E8.out.sl 5 rfl) (E8.out.sl 4 rfl)).mono ?_
    rintro e w9 ⟨⟨ya, yk, rfl, hy⟩, hb⟩
    have E9 := Lib.hid (((E8.out.below hb).numN (hy.out : Nt _ _ P)))
    clear p0 q0 p1 q1 p2 q2 p3 q3 p4 q4 p5 q5 hb hy E8
    obtain ⟨⟨_, ⟨p0, q0⟩, ⟨p1, q1⟩, ⟨p2, q2⟩, ⟨p3, q3⟩, ⟨p4, q4⟩, ⟨p5, q5⟩, _⟩, _⟩ := E9.out
    go_wp2_with fail
    have EB := Lib.hid ((E9.out.push (.slice ya (len P) yk) 24))
    refine (isB pc (EB.out.nt 4 rfl) (EB.out.nt 0 rfl)).mono ?_
    rintro e w10 ⟨rfl, hb⟩
    have E10 := Lib.hid ((EB.out.below hb))
    clear p0 q0 p1 q1 p2 q2 p3 q3 p4 q4 p5 q5 hb EB E9
    obtain ⟨⟨_, ⟨p0, q0⟩, ⟨p1, q1⟩, ⟨p2, q2⟩, ⟨p3, q3⟩, ⟨p4, q4⟩, ⟨p5, q5⟩, ⟨p6, q6⟩, _⟩, _⟩ := E10.out
    go_wp2_with fail
    refine (isB 10 (E10.out.nt 3 rfl) (Nt.zero _)).mono ?_
    rintro e w11 ⟨rfl, hb⟩
    have E11 := Lib.hid ((E10.out.below hb))
    clear p0 q0 p1 q1 p2 q2 p3 q3 p4 q4 p5 q5 p6 q6 hb E10
    obtain ⟨⟨_, ⟨p0, q0⟩, ⟨p1, q1⟩, ⟨p2, q2⟩, ⟨p3, q3⟩, ⟨p4, q4⟩, ⟨p5, q5⟩, ⟨p6, q6⟩, _⟩, _⟩ := E11.out
    go_wp2_with fail
    refine (sameZ (E11.out.nt 2 rfl)).mono ?_
    rintro e w12 ⟨rfl, hb⟩
    have E12 := Lib.hid ((E11.out.below hb))
    clear p0 q0 p1 q1 p2 q2 p3 q3 p4 q4 p5 q5 p6 q6 hb E11
    obtain ⟨⟨_, ⟨p0, q0⟩, ⟨p1, q1⟩, ⟨p2, q2⟩, ⟨p3, q3⟩, ⟨p4, q4⟩, ⟨p5, q5⟩, ⟨p6, q6⟩, _⟩, _⟩ := E12.out
    have hfin := Lib.hid E12.out.1.1
    clear p0 q0 p1 q1 p2 q2 p3 q3 p4 q4 p5 q5 p6 q6
    go_wp2
    go_ret
    exact ⟨rfl, hfin.out⟩

set_option maxRecDepth 100000 in
set_option maxHeartbeats 4000000 in
theorem NaturalProducts_out_ok (ao bo : Option Addr) (ca cb n m : Nat) (la lb : List Nat) (x : Int) (P : Nat) (pc : Int) (Q R : Nat) (w : World) (ha : Sl w (.slice ao n ca) la) (hb : Sl w (.slice bo m cb) lb) (hn : (n : Int) ≤ 9223372036854775807) (hm : (m : Int) ≤ 9223372036854775807) (va : vld la = true) (vb : vld lb = true)
    (cMul : ∀ W, Sl W (.slice ao n ca) la → Sl W (.slice bo m cb) lb → Calls Try.prog 13 #[.agg #[.slice ao n ca], .agg #[.slice bo m cb]] W fun e w' => ResN P pc e w' ∧ Below W.heap.size W w')
    (cDiv : ∀ W, Sl W (.slice ao n ca) la → Sl W (.slice bo m cb) lb → Calls Try.prog 14 #[.agg #[.slice ao n ca], .agg #[.slice bo m cb]] W fun e w' => ResX Q R 0 e w' ∧ Below W.heap.size W w')
    (cSh : ∀ W, Sl W (.slice ao n ca) la → Calls Try.prog 15 #[.agg #[.slice ao n ca], .int .i64 x] W fun e w' => ResN 0 2 e w' ∧ Below W.heap.size W w')
    (cRM : ∀ W, Sl W (.slice ao n ca) la → Sl W (.slice bo m cb) lb → Calls Try.prog 20 #[.agg #[.slice ao n ca], .agg #[.slice bo m cb]] W fun e w' => ResN P pc e w' ∧ Below W.heap.size W w')
    (cRD : ∀ W, Sl W (.slice ao n ca) la → Sl W (.slice bo m cb) lb → Calls Try.prog 21 #[.agg #[.slice ao n ca], .agg #[.slice bo m cb]] W fun e w' => ResR Q R e w' ∧ Below W.heap.size W w') (hx : x < -10000 ∨ 10000 < x) (hm0 : m ≠ 0) :
    Calls Try.prog 3 #[.agg #[.slice ao n ca], .agg #[.slice bo m cb], .int .i64 x] w fun e w' => e = .returned (.bool true) ∧ Below w.heap.size w w' := by
  have KA := Lib.hid va
  have KB := Lib.hid vb
  have CMUL := Lib.hid cMul
  have CDIV := Lib.hid cDiv
  have CSH := Lib.hid cSh
  have CRM := Lib.hid cRM
  have CRD := Lib.hid cRD
  have E0 := Lib.hid (((EnvN.start w).num ha).num hb)
  have ht : decide (x < -10000) = true ∨ (decide (x < -10000) = false ∧ decide (10000 < x) = true) := by
    by_cases h : x < -10000
    · exact Or.inl (decide_eq_true h)
    · exact Or.inr ⟨decide_eq_false h, decide_eq_true (by omega)⟩
  have t3 : ((m : Int) == 0) = false := by simp; omega
  clear va vb cMul cDiv cSh cRM cRD ha hb hx hm0
  go_enter Try.func3, Try.ntmps3
  go_wp2_with fail
  have EB := Lib.hid (((E0.out.push (.slice ao n ca) 24).pushAt (.slice bo m cb) 24 (w.heap.size + 1) (by simp)))
  refine (awake_c _).mono ?_
  rintro e w1 ⟨rfl, hb⟩
  have E1 := Lib.hid ((EB.out.below hb))
  clear hb EB E0
  obtain ⟨⟨_, ⟨p0, q0⟩, ⟨p1, q1⟩, _⟩, _⟩ := E1.out
  go_wp2_with fail
  refine (great2_c ao bo n m ca cb w1 hn hm _ rfl).mono ?_
  rintro e w2 ⟨⟨hg, rfl⟩ | ⟨_, rfl⟩, hb⟩
  · have hfin := Lib.hid (E1.out.below hb).1.1
    clear hb
    go_wp2
    go_ret
    exact ⟨rfl, hfin.out⟩
  have E2 := Lib.hid ((E1.out.below hb))
  clear p0 q0 p1 q1 hb E1
  obtain ⟨⟨_, ⟨p0, q0⟩, ⟨p1, q1⟩, _⟩, _⟩ := E2.out
  go_wp2_with fail
  refine (CMUL.out _ (E2.out.sl 1 rfl) (E2.out.sl 0 rfl)).mono ?_
  rintro e w3 ⟨⟨pa, pk, rfl, hp⟩, hb⟩
  have E3 := Lib.hid (((E2.out.below hb).numN (hp.out : Nt _ _ P)))
  clear p0 q0 p1 q1 hb hp E2
  obtain ⟨⟨_, ⟨p0, q0⟩, ⟨p1, q1⟩, _⟩, _⟩ := E3.out
  go_wp2_with fail
  have EB := Lib.hid ((E3.out.push (.slice pa (len P) pk) 24))
  refine (CDIV.out _ (EB.out.sl 2 rfl) (EB.out.sl 1 rfl)).mono ?_
  rintro e w4 ⟨⟨qa, qk, ra, rk, rfl, hq, hr⟩, hb⟩
  have E4 := Lib.hid ((((EB.out.below hb).numN (hq.out : Nt _ _ Q)).numN (hr.out : Nt _ _ R)))
  clear p0 q0 p1 q1 hb EB hq hr E3
  obtain ⟨⟨_, ⟨p0, q0⟩, ⟨p1, q1⟩, ⟨p2, q2⟩, _⟩, _⟩ := E4.out
  go_wp2_with fail
  have EB := Lib.hid (((E4.out.push (.slice qa (len Q) qk) 24).pushAt (.slice ra (len R) rk) 24 (w4.heap.size + 1) (by simp)))
  refine (CSH.out _ (EB.out.sl 4 rfl)).mono ?_
  rintro e w5 ⟨⟨sa, sk, rfl, hs⟩, hb⟩
  have E5 := Lib.hid (((EB.out.below hb).numN (hs.out : Nt _ _ 0)))
  clear p0 q0 p1 q1 p2 q2 hb EB hs E4
  obtain ⟨⟨_, ⟨p0, q0⟩, ⟨p1, q1⟩, ⟨p2, q2⟩, ⟨p3, q3⟩, ⟨p4, q4⟩, _⟩, _⟩ := E5.out
  go_wp2_with fail
  have EB := Lib.hid ((E5.out.push (.slice sa (len 0) sk) 24))
  refine (validS KA (EB.out.sl 5 rfl)).mono ?_
  rintro e w6 ⟨rfl, hb⟩
  have E6 := Lib.hid ((EB.out.below hb))
  clear p0 q0 p1 q1 p2 q2 p3 q3 p4 q4 hb EB E5
  obtain ⟨⟨_, ⟨p0, q0⟩, ⟨p1, q1⟩, ⟨p2, q2⟩, ⟨p3, q3⟩, ⟨p4, q4⟩, ⟨p5, q5⟩, _⟩, _⟩ := E6.out
  rcases ht with t1 | ⟨t1, t2⟩
  · skip
    go_wp2_with fail
    refine (isB 2 (E6.out.nt 0 rfl) (Nt.zero _)).mono ?_
    rintro e w7 ⟨rfl, hb⟩
    have E7 := Lib.hid ((E6.out.below hb))
    clear p0 q0 p1 q1 p2 q2 p3 q3 p4 q4 p5 q5 hb E6
    obtain ⟨⟨_, ⟨p0, q0⟩, ⟨p1, q1⟩, ⟨p2, q2⟩, ⟨p3, q3⟩, ⟨p4, q4⟩, ⟨p5, q5⟩, _⟩, _⟩ := E7.out
    go_wp2_with fail
    refine (validS KB (E7.out.sl 4 rfl)).mono ?_
    rintro e w8 ⟨rfl, hb⟩
    have E8 := Lib.hid ((E7.out.below hb))
    clear p0 q0 p1 q1 p2 q2 p3 q3 p4 q4 p5 q5 hb E7
    obtain ⟨⟨_, ⟨p0, q0⟩, ⟨p1, q1⟩, ⟨p2, q2⟩, ⟨p3, q3⟩, ⟨p4, q4⟩, ⟨p5, q5⟩, _⟩, _⟩ := E8.out
    go_wp2_with fail
    refine (CRM.out _ (E8.out.sl 5 rfl) (E8.out.sl 4 rfl)).mono ?_
    rintro e w9 ⟨⟨ya, yk, rfl, hy⟩, hb⟩
    have E9 := Lib.hid (((E8.out.below hb).numN (hy.out : Nt _ _ P)))
    clear p0 q0 p1 q1 p2 q2 p3 q3 p4 q4 p5 q5 hb hy E8
    obtain ⟨⟨_, ⟨p0, q0⟩, ⟨p1, q1⟩, ⟨p2, q2⟩, ⟨p3, q3⟩, ⟨p4, q4⟩, ⟨p5, q5⟩, _⟩, _⟩ := E9.out
    go_wp2_with fail
    have EB := Lib.hid ((E9.out.push (.slice ya (len P) yk) 24))
    refine (isB pc (EB.out.nt 4 rfl) (EB.out.nt 0 rfl)).mono ?_
    rintro e w10 ⟨rfl, hb⟩
    have E10 := Lib.hid ((EB.out.below hb))
    clear p0 q0 p1 q1 p2 q2 p3 q3 p4 q4 p5 q5 hb EB E9
    obtain ⟨⟨_, ⟨p0, q0⟩, ⟨p1, q1⟩, ⟨p2, q2⟩, ⟨p3, q3⟩, ⟨p4, q4⟩, ⟨p5, q5⟩, ⟨p6, q6⟩, _⟩, _⟩ := E10.out
    go_wp2_with fail
    refine (CRD.out _ (E10.out.sl 6 rfl) (E10.out.sl 5 rfl)).mono ?_
    rintro e w11 ⟨⟨xa, xk, za, zk, rfl, hx, hz⟩, hb⟩
    have E11 := Lib.hid ((((E10.out.below hb).numN (hx.out : Nt _ _ Q)).numN (hz.out : Nt _ _ R)))
    clear p0 q0 p1 q1 p2 q2 p3 q3 p4 q4 p5 q5 p6 q6 hb hx hz E10
    obtain ⟨⟨_, ⟨p0, q0⟩, ⟨p1, q1⟩, ⟨p2, q2⟩, ⟨p3, q3⟩, ⟨p4, q4⟩, ⟨p5, q5⟩, ⟨p6, q6⟩, _⟩, _⟩ := E11.out
    go_wp2_with fail
    have EB := Lib.hid (((E11.out.push (.slice xa (len Q) xk) 24).pushAt (.slice za (len R) zk) 24 (w11.heap.size + 1) (by simp)))
    refine (isB 0 (EB.out.nt 5 rfl) (EB.out.nt 1 rfl)).mono ?_
    rintro e w12 ⟨rfl, hb⟩
    have E12 := Lib.hid ((EB.out.below hb))
    clear p0 q0 p1 q1 p2 q2 p3 q3 p4 q4 p5 q5 p6 q6 hb EB E11
    obtain ⟨⟨_, ⟨p0, q0⟩, ⟨p1, q1⟩, ⟨p2, q2⟩, ⟨p3, q3⟩, ⟨p4, q4⟩, ⟨p5, q5⟩, ⟨p6, q6⟩, ⟨p7, q7⟩, ⟨p8, q8⟩, _⟩, _⟩ := E12.out
    go_wp2_with fail
    refine (sameB (E12.out.nt 4 rfl) (E12.out.nt 0 rfl)).mono ?_
    rintro e w13 ⟨rfl, hb⟩
    have E13 := Lib.hid ((E12.out.below hb))
    clear p0 q0 p1 q1 p2 q2 p3 q3 p4 q4 p5 q5 p6 q6 p7 q7 p8 q8 hb E12
    obtain ⟨⟨_, ⟨p0, q0⟩, ⟨p1, q1⟩, ⟨p2, q2⟩, ⟨p3, q3⟩, ⟨p4, q4⟩, ⟨p5, q5⟩, ⟨p6, q6⟩, ⟨p7, q7⟩, ⟨p8, q8⟩, _⟩, _⟩ := E13.out
    have hfin := Lib.hid E13.out.1.1
    clear p0 q0 p1 q1 p2 q2 p3 q3 p4 q4 p5 q5 p6 q6 p7 q7 p8 q8
    go_wp2
    go_ret
    exact ⟨rfl, hfin.out⟩
  · skip
    go_wp2_with fail
    refine (isB 2 (E6.out.nt 0 rfl) (Nt.zero _)).mono ?_
    rintro e w7 ⟨rfl, hb⟩
    have E7 := Lib.hid ((E6.out.below hb))
    clear p0 q0 p1 q1 p2 q2 p3 q3 p4 q4 p5 q5 hb E6
    obtain ⟨⟨_, ⟨p0, q0⟩, ⟨p1, q1⟩, ⟨p2, q2⟩, ⟨p3, q3⟩, ⟨p4, q4⟩, ⟨p5, q5⟩, _⟩, _⟩ := E7.out
    go_wp2_with fail
    refine (validS KB (E7.out.sl 4 rfl)).mono ?_
    rintro e w8 ⟨rfl, hb⟩
    have E8 := Lib.hid ((E7.out.below hb))
    clear p0 q0 p1 q1 p2 q2 p3 q3 p4 q4 p5 q5 hb E7
    obtain ⟨⟨_, ⟨p0, q0⟩, ⟨p1, q1⟩, ⟨p2, q2⟩, ⟨p3, q3⟩, ⟨p4, q4⟩, ⟨p5, q5⟩, _⟩, _⟩ := E8.out
    go_wp2_with fail
    refine (CRM.out _ (E8.out.sl 5 rfl) (E8.out.sl 4 rfl)).mono ?_
    rintro e w9 ⟨⟨ya, yk, rfl, hy⟩, hb⟩
    have E9 := Lib.hid (((E8.out.below hb).numN (hy.out : Nt _ _ P)))
    clear p0 q0 p1 q1 p2 q2 p3 q3 p4 q4 p5 q5 hb hy E8
    obtain ⟨⟨_, ⟨p0, q0⟩, ⟨p1, q1⟩, ⟨p2, q2⟩, ⟨p3, q3⟩, ⟨p4, q4⟩, ⟨p5, q5⟩, _⟩, _⟩ := E9.out
    go_wp2_with fail
    have EB := Lib.hid ((E9.out.push (.slice ya (len P) yk) 24))
    refine (isB pc (EB.out.nt 4 rfl) (EB.out.nt 0 rfl)).mono ?_
    rintro e w10 ⟨rfl, hb⟩
    have E10 := Lib.hid ((EB.out.below hb))
    clear p0 q0 p1 q1 p2 q2 p3 q3 p4 q4 p5 q5 hb EB E9
    obtain ⟨⟨_, ⟨p0, q0⟩, ⟨p1, q1⟩, ⟨p2, q2⟩, ⟨p3, q3⟩, ⟨p4, q4⟩, ⟨p5, q5⟩, ⟨p6, q6⟩, _⟩, _⟩ := E10.out
    go_wp2_with fail
    refine (CRD.out _ (E10.out.sl 6 rfl) (E10.out.sl 5 rfl)).mono ?_
    rintro e w11 ⟨⟨xa, xk, za, zk, rfl, hx, hz⟩, hb⟩
    have E11 := Lib.hid ((((E10.out.below hb).numN (hx.out : Nt _ _ Q)).numN (hz.out : Nt _ _ R)))
    clear p0 q0 p1 q1 p2 q2 p3 q3 p4 q4 p5 q5 p6 q6 hb hx hz E10
    obtain ⟨⟨_, ⟨p0, q0⟩, ⟨p1, q1⟩, ⟨p2, q2⟩, ⟨p3, q3⟩, ⟨p4, q4⟩, ⟨p5, q5⟩, ⟨p6, q6⟩, _⟩, _⟩ := E11.out
    go_wp2_with fail
    have EB := Lib.hid (((E11.out.push (.slice xa (len Q) xk) 24).pushAt (.slice za (len R) zk) 24 (w11.heap.size + 1) (by simp)))
    refine (isB 0 (EB.out.nt 5 rfl) (EB.out.nt 1 rfl)).mono ?_
    rintro e w12 ⟨rfl, hb⟩
    have E12 := Lib.hid ((EB.out.below hb))
    clear p0 q0 p1 q1 p2 q2 p3 q3 p4 q4 p5 q5 p6 q6 hb EB E11
    obtain ⟨⟨_, ⟨p0, q0⟩, ⟨p1, q1⟩, ⟨p2, q2⟩, ⟨p3, q3⟩, ⟨p4, q4⟩, ⟨p5, q5⟩, ⟨p6, q6⟩, ⟨p7, q7⟩, ⟨p8, q8⟩, _⟩, _⟩ := E12.out
    go_wp2_with fail
    refine (sameB (E12.out.nt 4 rfl) (E12.out.nt 0 rfl)).mono ?_
    rintro e w13 ⟨rfl, hb⟩
    have E13 := Lib.hid ((E12.out.below hb))
    clear p0 q0 p1 q1 p2 q2 p3 q3 p4 q4 p5 q5 p6 q6 p7 q7 p8 q8 hb E12
    obtain ⟨⟨_, ⟨p0, q0⟩, ⟨p1, q1⟩, ⟨p2, q2⟩, ⟨p3, q3⟩, ⟨p4, q4⟩, ⟨p5, q5⟩, ⟨p6, q6⟩, ⟨p7, q7⟩, ⟨p8, q8⟩, _⟩, _⟩ := E13.out
    have hfin := Lib.hid E13.out.1.1
    clear p0 q0 p1 q1 p2 q2 p3 q3 p4 q4 p5 q5 p6 q6 p7 q7 p8 q8
    go_wp2
    go_ret
    exact ⟨rfl, hfin.out⟩

set_option maxRecDepth 100000 in
set_option maxHeartbeats 4000000 in
theorem NaturalProducts_in_bad (ao bo : Option Addr) (ca cb n m : Nat) (la lb : List Nat) (x : Int) (S : Nat) (sc : Int) (w : World) (ha : Sl w (.slice ao n ca) la) (hb : Sl w (.slice bo m cb) lb) (hn : (n : Int) ≤ 9223372036854775807) (hm : (m : Int) ≤ 9223372036854775807) (va : vld la = true) (vb : vld lb = false)
    (cMul : ∀ W, Sl W (.slice ao n ca) la → Sl W (.slice bo m cb) lb → Calls Try.prog 13 #[.agg #[.slice ao n ca], .agg #[.slice bo m cb]] W fun e w' => ResN 0 1 e w' ∧ Below W.heap.size W w')
    (cDiv : ∀ W, Sl W (.slice ao n ca) la → Sl W (.slice bo m cb) lb → Calls Try.prog 14 #[.agg #[.slice ao n ca], .agg #[.slice bo m cb]] W fun e w' => ResX 0 0 1 e w' ∧ Below W.heap.size W w')
    (cSh : ∀ W, Sl W (.slice ao n ca) la → Calls Try.prog 15 #[.agg #[.slice ao n ca], .int .i64 x] W fun e w' => ResN S sc e w' ∧ Below W.heap.size W w')
    (cRS : ∀ W, Sl W (.slice ao n ca) la → Calls Try.prog 19 #[.agg #[.slice ao n ca], .int .i64 x] W fun e w' => ResN S sc e w' ∧ Below W.heap.size W w') (hx1 : -10000 ≤ x) (hx2 : x ≤ 10000) :
    Calls Try.prog 3 #[.agg #[.slice ao n ca], .agg #[.slice bo m cb], .int .i64 x] w fun e w' => e = .returned (.bool true) ∧ Below w.heap.size w w' := by
  have KA := Lib.hid va
  have KB := Lib.hid vb
  have CMUL := Lib.hid cMul
  have CDIV := Lib.hid cDiv
  have CSH := Lib.hid cSh
  have CRS := Lib.hid cRS
  have E0 := Lib.hid (((EnvN.start w).num ha).num hb)
  have t1 : decide (x < -10000) = false := decide_eq_false (by omega)
  have t2 : decide (10000 < x) = false := decide_eq_false (by omega)
  clear va vb cMul cDiv cSh cRS ha hb hx1 hx2
  go_enter Try.func3, Try.ntmps3
  go_wp2_with fail
  have EB := Lib.hid (((E0.out.push (.slice ao n ca) 24).pushAt (.slice bo m cb) 24 (w.heap.size + 1) (by simp)))
  refine (awake_c _).mono ?_
  rintro e w1 ⟨rfl, hb⟩
  have E1 := Lib.hid ((EB.out.below hb))
  clear hb EB E0
  obtain ⟨⟨_, ⟨p0, q0⟩, ⟨p1, q1⟩, _⟩, _⟩ := E1.out
  go_wp2_with fail
  refine (great2_c ao bo n m ca cb w1 hn hm _ rfl).mono ?_
  rintro e w2 ⟨⟨hg, rfl⟩ | ⟨_, rfl⟩, hb⟩
  · have hfin := Lib.hid (E1.out.below hb).1.1
    clear hb
    go_wp2
    go_ret
    exact ⟨rfl, hfin.out⟩
  have E2 := Lib.hid ((E1.out.below hb))
  clear p0 q0 p1 q1 hb E1
  obtain ⟨⟨_, ⟨p0, q0⟩, ⟨p1, q1⟩, _⟩, _⟩ := E2.out
  go_wp2_with fail
  refine (CMUL.out _ (E2.out.sl 1 rfl) (E2.out.sl 0 rfl)).mono ?_
  rintro e w3 ⟨⟨pa, pk, rfl, hp⟩, hb⟩
  have E3 := Lib.hid (((E2.out.below hb).numN (hp.out : Nt _ _ 0)))
  clear p0 q0 p1 q1 hb hp E2
  obtain ⟨⟨_, ⟨p0, q0⟩, ⟨p1, q1⟩, _⟩, _⟩ := E3.out
  go_wp2_with fail
  have EB := Lib.hid ((E3.out.push (.slice pa (len 0) pk) 24))
  refine (CDIV.out _ (EB.out.sl 2 rfl) (EB.out.sl 1 rfl)).mono ?_
  rintro e w4 ⟨⟨qa, qk, ra, rk, rfl, hq, hr⟩, hb⟩
  have E4 := Lib.hid ((((EB.out.below hb).numN (hq.out : Nt _ _ 0)).numN (hr.out : Nt _ _ 0)))
  clear p0 q0 p1 q1 hb EB hq hr E3
  obtain ⟨⟨_, ⟨p0, q0⟩, ⟨p1, q1⟩, ⟨p2, q2⟩, _⟩, _⟩ := E4.out
  go_wp2_with fail
  have EB := Lib.hid (((E4.out.push (.slice qa (len 0) qk) 24).pushAt (.slice ra (len 0) rk) 24 (w4.heap.size + 1) (by simp)))
  refine (CSH.out _ (EB.out.sl 4 rfl)).mono ?_
  rintro e w5 ⟨⟨sa, sk, rfl, hs⟩, hb⟩
  have E5 := Lib.hid (((EB.out.below hb).numN (hs.out : Nt _ _ S)))
  clear p0 q0 p1 q1 p2 q2 hb EB hs E4
  obtain ⟨⟨_, ⟨p0, q0⟩, ⟨p1, q1⟩, ⟨p2, q2⟩, ⟨p3, q3⟩, ⟨p4, q4⟩, _⟩, _⟩ := E5.out
  go_wp2_with fail
  have EB := Lib.hid ((E5.out.push (.slice sa (len S) sk) 24))
  refine (validS KA (EB.out.sl 5 rfl)).mono ?_
  rintro e w6 ⟨rfl, hb⟩
  have E6 := Lib.hid ((EB.out.below hb))
  clear p0 q0 p1 q1 p2 q2 p3 q3 p4 q4 hb EB E5
  obtain ⟨⟨_, ⟨p0, q0⟩, ⟨p1, q1⟩, ⟨p2, q2⟩, ⟨p3, q3⟩, ⟨p4, q4⟩, ⟨p5, q5⟩, _⟩, _⟩ := E6.out
  go_wp2_with fail
  refine (CRS.out _ (E6.out.sl 5 rfl)).mono ?_
  rintro e w7 ⟨⟨ta, tk, rfl, ht⟩, hb⟩
  have E7 := Lib.hid (((E6.out.below hb).numN (ht.out : Nt _ _ S)))
  clear p0 q0 p1 q1 p2 q2 p3 q3 p4 q4 p5 q5 hb ht E6
  obtain ⟨⟨_, ⟨p0, q0⟩, ⟨p1, q1⟩, ⟨p2, q2⟩, ⟨p3, q3⟩, ⟨p4, q4⟩, ⟨p5, q5⟩, _⟩, _⟩ := E7.out
  go_wp2_with fail
  have EB := Lib.hid ((E7.out.push (.slice ta (len S) tk) 24))
  refine (isB sc (EB.out.nt 1 rfl) (EB.out.nt 0 rfl)).mono ?_
  rintro e w8 ⟨rfl, hb⟩
  have E8 := Lib.hid ((EB.out.below hb))
  clear p0 q0 p1 q1 p2 q2 p3 q3 p4 q4 p5 q5 hb EB E7
  obtain ⟨⟨_, ⟨p0, q0⟩, ⟨p1, q1⟩, ⟨p2, q2⟩, ⟨p3, q3⟩, ⟨p4, q4⟩, ⟨p5, q5⟩, ⟨p6, q6⟩, _⟩, _⟩ := E8.out
  go_wp2_with fail
  refine (validS KB (E8.out.sl 5 rfl)).mono ?_
  rintro e w9 ⟨rfl, hb⟩
  have E9 := Lib.hid ((E8.out.below hb))
  clear p0 q0 p1 q1 p2 q2 p3 q3 p4 q4 p5 q5 p6 q6 hb E8
  obtain ⟨⟨_, ⟨p0, q0⟩, ⟨p1, q1⟩, ⟨p2, q2⟩, ⟨p3, q3⟩, ⟨p4, q4⟩, ⟨p5, q5⟩, ⟨p6, q6⟩, _⟩, _⟩ := E9.out
  go_wp2_with fail
  refine (isB 1 (E9.out.nt 4 rfl) (Nt.zero _)).mono ?_
  rintro e w10 ⟨rfl, hb⟩
  have E10 := Lib.hid ((E9.out.below hb))
  clear p0 q0 p1 q1 p2 q2 p3 q3 p4 q4 p5 q5 p6 q6 hb E9
  obtain ⟨⟨_, ⟨p0, q0⟩, ⟨p1, q1⟩, ⟨p2, q2⟩, ⟨p3, q3⟩, ⟨p4, q4⟩, ⟨p5, q5⟩, ⟨p6, q6⟩, _⟩, _⟩ := E10.out
  go_wp2_with fail
  refine (isB 1 (E10.out.nt 3 rfl) (Nt.zero _)).mono ?_
  rintro e w11 ⟨rfl, hb⟩
  have E11 := Lib.hid ((E10.out.below hb))
  clear p0 q0 p1 q1 p2 q2 p3 q3 p4 q4 p5 q5 p6 q6 hb E10
  obtain ⟨⟨_, ⟨p0, q0⟩, ⟨p1, q1⟩, ⟨p2, q2⟩, ⟨p3, q3⟩, ⟨p4, q4⟩, ⟨p5, q5⟩, ⟨p6, q6⟩, _⟩, _⟩ := E11.out
  go_wp2_with fail
  refine (sameZ (E11.out.nt 2 rfl)).mono ?_
  rintro e w12 ⟨rfl, hb⟩
  have E12 := Lib.hid ((E11.out.below hb))
  clear p0 q0 p1 q1 p2 q2 p3 q3 p4 q4 p5 q5 p6 q6 hb E11
  obtain ⟨⟨_, ⟨p0, q0⟩, ⟨p1, q1⟩, ⟨p2, q2⟩, ⟨p3, q3⟩, ⟨p4, q4⟩, ⟨p5, q5⟩, ⟨p6, q6⟩, _⟩, _⟩ := E12.out
  have hfin := Lib.hid E12.out.1.1
  clear p0 q0 p1 q1 p2 q2 p3 q3 p4 q4 p5 q5 p6 q6
  go_wp2
  go_ret
  exact ⟨rfl, hfin.out⟩

set_option maxRecDepth 100000 in
set_option maxHeartbeats 4000000 in
theorem NaturalProducts_in_zero (ao bo : Option Addr) (ca cb n m : Nat) (la lb : List Nat) (x : Int) (P : Nat) (pc : Int) (S : Nat) (sc : Int) (w : World) (ha : Sl w (.slice ao n ca) la) (hb : Sl w (.slice bo m cb) lb) (hn : (n : Int) ≤ 9223372036854775807) (hm : (m : Int) ≤ 9223372036854775807) (va : vld la = true) (vb : vld lb = true)
    (cMul : ∀ W, Sl W (.slice ao n ca) la → Sl W (.slice bo m cb) lb → Calls Try.prog 13 #[.agg #[.slice ao n ca], .agg #[.slice bo m cb]] W fun e w' => ResN P pc e w' ∧ Below W.heap.size W w')
    (cDiv : ∀ W, Sl W (.slice ao n ca) la → Sl W (.slice bo m cb) lb → Calls Try.prog 14 #[.agg #[.slice ao n ca], .agg #[.slice bo m cb]] W fun e w' => ResX 0 0 10 e w' ∧ Below W.heap.size W w')
    (cSh : ∀ W, Sl W (.slice ao n ca) la → Calls Try.prog 15 #[.agg #[.slice ao n ca], .int .i64 x] W fun e w' => ResN S sc e w' ∧ Below W.heap.size W w')
    (cRS : ∀ W, Sl W (.slice ao n ca) la → Calls Try.prog 19 #[.agg #[.slice ao n ca], .int .i64 x] W fun e w' => ResN S sc e w' ∧ Below W.heap.size W w')
    (cRM : ∀ W, Sl W (.slice ao n ca) la → Sl W (.slice bo m cb) lb → Calls Try.prog 20 #[.agg #[.slice ao n ca], .agg #[.slice bo m cb]] W fun e w' => ResN P pc e w' ∧ Below W.heap.size W w') (hx1 : -10000 ≤ x) (hx2 : x ≤ 10000) (hm0 : m = 0) :
    Calls Try.prog 3 #[.agg #[.slice ao n ca], .agg #[.slice bo m cb], .int .i64 x] w fun e w' => e = .returned (.bool true) ∧ Below w.heap.size w w' := by
  have KA := Lib.hid va
  have KB := Lib.hid vb
  have CMUL := Lib.hid cMul
  have CDIV := Lib.hid cDiv
  have CSH := Lib.hid cSh
  have CRS := Lib.hid cRS
  have CRM := Lib.hid cRM
  have E0 := Lib.hid (((EnvN.start w).num ha).num hb)
  have t1 : decide (x < -10000) = false := decide_eq_false (by omega)
  have t2 : decide (10000 < x) = false := decide_eq_false (by omega)
  have t3 : ((m : Int) == 0) = true := by rw [hm0]; rfl
  clear va vb cMul cDiv cSh cRS cRM ha hb hx1 hx2 hm0
  go_enter Try.func3, Try.ntmps3
  go_wp2_with fail
  have EB := Lib.hid (((E0.out.push (.slice ao n ca) 24).pushAt (.slice bo m cb) 24 (w.heap.size + 1) (by simp)))
  refine (awake_c _).mono ?_
  rintro e w1 ⟨rfl, hb⟩
  have E1 := Lib.hid ((EB.out.below hb))
  clear hb EB E0
  obtain ⟨⟨_, ⟨p0, q0⟩, ⟨p1, q1⟩, _⟩, _⟩ := E1.out
  go_wp2_with fail
  refine (great2_c ao bo n m ca cb w1 hn hm _ rfl).mono ?_
  rintro e w2 ⟨⟨hg, rfl⟩ | ⟨_, rfl⟩, hb⟩
  · have hfin := Lib.hid (E1.out.below hb).1.1
    clear hb
    go_wp2
    go_ret
    exact ⟨rfl, hfin.out⟩
  have E2 := Lib.hid ((E1.out.below hb))
  clear p0 q0 p1 q1 hb E1
  obtain ⟨⟨_, ⟨p0, q0⟩, ⟨p1, q1⟩, _⟩, _⟩ := E2.out
  go_wp2_with fail
  refine (CMUL.out _ (E2.out.sl 1 rfl) (E2.out.sl 0 rfl)).mono ?_
  rintro e w3 ⟨⟨pa, pk, rfl, hp⟩, hb⟩
  have E3 := Lib.hid (((E2.out.below hb).numN (hp.out : Nt _ _ P)))
  clear p0 q0 p1 q1 hb hp E2
  obtain ⟨⟨_, ⟨p0, q0⟩, ⟨p1, q1⟩, _⟩, _⟩ := E3.out
  go_wp2_with fail
  have EB := Lib.hid ((E3.out.push (.slice pa (len P) pk) 24))
  refine (CDIV.out _ (EB.out.sl 2 rfl) (EB.out.sl 1 rfl)).mono ?_
  rintro e w4 ⟨⟨qa, qk, ra, rk, rfl, hq, hr⟩, hb⟩
  have E4 := Lib.hid ((((EB.out.below hb).numN (hq.out : Nt _ _ 0)).numN (hr.out : Nt _ _ 0)))
  clear p0 q0 p1 q1 hb EB hq hr E3
  obtain ⟨⟨_, ⟨p0, q0⟩, ⟨p1, q1⟩, ⟨p2, q2⟩, _⟩, _⟩ := E4.out
  go_wp2_with fail
  have EB := Lib.hid (((E4.out.push (.slice qa (len 0) qk) 24).pushAt (.slice ra (len 0) rk) 24 (w4.heap.size + 1) (by simp)))
  refine (CSH.out _ (EB.out.sl 4 rfl)).mono ?_
  rintro e w5 ⟨⟨sa, sk, rfl, hs⟩, hb⟩
  have E5 := Lib.hid (((EB.out.below hb).numN (hs.out : Nt _ _ S)))
  clear p0 q0 p1 q1 p2 q2 hb EB hs E4
  obtain ⟨⟨_, ⟨p0, q0⟩, ⟨p1, q1⟩, ⟨p2, q2⟩, ⟨p3, q3⟩, ⟨p4, q4⟩, _⟩, _⟩ := E5.out
  go_wp2_with fail
  have EB := Lib.hid ((E5.out.push (.slice sa (len S) sk) 24))
  refine (validS KA (EB.out.sl 5 rfl)).mono ?_
  rintro e w6 ⟨rfl, hb⟩
  have E6 := Lib.hid ((EB.out.below hb))
  clear p0 q0 p1 q1 p2 q2 p3 q3 p4 q4 hb EB E5
  obtain ⟨⟨_, ⟨p0, q0⟩, ⟨p1, q1⟩, ⟨p2, q2⟩, ⟨p3, q3⟩, ⟨p4, q4⟩, ⟨p5, q5⟩, _⟩, _⟩ := E6.out
  go_wp2_with fail
  refine (CRS.out _ (E6.out.sl 5 rfl)).mono ?_
  rintro e w7 ⟨⟨ta, tk, rfl, ht⟩, hb⟩
  have E7 := Lib.hid (((E6.out.below hb).numN (ht.out : Nt _ _ S)))
  clear p0 q0 p1 q1 p2 q2 p3 q3 p4 q4 p5 q5 hb ht E6
  obtain ⟨⟨_, ⟨p0, q0⟩, ⟨p1, q1⟩, ⟨p2, q2⟩, ⟨p3, q3⟩, ⟨p4, q4⟩, ⟨p5, q5⟩, _⟩, _⟩ := E7.out
  go_wp2_with fail
  have EB := Lib.hid ((E7.out.push (.slice ta (len S) tk) 24))
  refine (isB sc (EB.out.nt 1 rfl) (EB.out.nt 0 rfl)).mono ?_
  rintro e w8 ⟨rfl, hb⟩
  have E8 := Lib.hid ((EB.out.below hb))
  clear p0 q0 p1 q1 p2 q2 p3 q3 p4 q4 p5 q5 hb EB E7
  obtain ⟨⟨_, ⟨p0, q0⟩, ⟨p1, q1⟩, ⟨p2, q2⟩, ⟨p3, q3⟩, ⟨p4, q4⟩, ⟨p5, q5⟩, ⟨p6, q6⟩, _⟩, _⟩ := E8.out
  go_wp2_with fail
  refine (validS KB (E8.out.sl 5 rfl)).mono ?_
  rintro e w9 ⟨rfl, hb⟩
  have E9 := Lib.hid ((E8.out.below hb))
  clear p0 q0 p1 q1 p2 q2 p3 q3 p4 q4 p5 q5 p6 q6 hb E8
  obtain ⟨⟨_, ⟨p0, q0⟩, ⟨p1, q1⟩, ⟨p2, q2⟩, ⟨p3, q3⟩, ⟨p4, q4⟩, ⟨p5, q5⟩, ⟨p6, q6⟩, _⟩, _⟩ := E9.out
  go_wp2_with fail
  refine (CRM.out _ (E9.out.sl 6 rfl) (E9.out.sl 5 rfl)).mono ?_
  rintro e w10 ⟨⟨ya, yk, rfl, hy⟩, hb⟩
  have E10 := Lib.hid (((E9.out.below hb).numN (hy.out : Nt _ _ P)))
  clear p0 q0 p1 q1 p2 q2 p3 q3 p4 q4 p5 q5 p6 q6 hb hy E9
  obtain ⟨⟨_, ⟨p0, q0⟩, ⟨p1, q1⟩, ⟨p2, q2⟩, ⟨p3, q3⟩, ⟨p4, q4⟩, ⟨p5, q5⟩, ⟨p6, q6⟩, _⟩, _⟩ := E10.out
  go_wp2_with fail
  have EB := Lib.hid ((E10.out.push (.slice ya (len P) yk) 24))
  refine (isB pc (EB.out.nt 5 rfl) (EB.out.nt 0 rfl)).mono ?_
  rintro e w11 ⟨rfl, hb⟩
  have E11 := Lib.hid ((EB.out.below hb))
  clear p0 q0 p1 q1 p2 q2 p3 q3 p4 q4 p5 q5 p6 q6 hb EB E10
  obtain ⟨⟨_, ⟨p0, q0⟩, ⟨p1, q1⟩, ⟨p2, q2⟩, ⟨p3, q3⟩, ⟨p4, q4⟩, ⟨p5, q5⟩, ⟨p6, q6⟩, ⟨p7, q7⟩, _⟩, _⟩ := E11.out
  go_wp2_with fail
  refine (isB 10 (E11.out.nt 4 rfl) (Nt.zero _)).mono ?_
  rintro e w12 ⟨rfl, hb⟩
  have E12 := Lib.hid ((E11.out.below hb))
  clear p0 q0 p1 q1 p2 q2 p3 q3 p4 q4 p5 q5 p6 q6 p7 q7 hb E11
  obtain ⟨⟨_, ⟨p0, q0⟩, ⟨p1, q1⟩, ⟨p2, q2⟩, ⟨p3, q3⟩, ⟨p4, q4⟩, ⟨p5, q5⟩, ⟨p6, q6⟩, ⟨p7, q7⟩, _⟩, _⟩ := E12.out
  go_wp2_with fail
  refine (sameZ (E12.out.nt 3 rfl)).mono ?_
  rintro e w13 ⟨rfl, hb⟩
  have E13 := Lib.hid ((E12.out.below hb))
  clear p0 q0 p1 q1 p2 q2 p3 q3 p4 q4 p5 q5 p6 q6 p7 q7 hb E12
  obtain ⟨⟨_, ⟨p0, q0⟩, ⟨p1, q1⟩, ⟨p2, q2⟩, ⟨p3, q3⟩, ⟨p4, q4⟩, ⟨p5, q5⟩, ⟨p6, q6⟩, ⟨p7, q7⟩, _⟩, _⟩ := E13.out
  have hfin := Lib.hid E13.out.1.1
  clear p0 q0 p1 q1 p2 q2 p3 q3 p4 q4 p5 q5 p6 q6 p7 q7
  go_wp2
  go_ret
  exact ⟨rfl, hfin.out⟩

set_option maxRecDepth 100000 in
set_option maxHeartbeats 4000000 in
theorem NaturalProducts_in_ok (ao bo : Option Addr) (ca cb n m : Nat) (la lb : List Nat) (x : Int) (P : Nat) (pc : Int) (Q R : Nat) (S : Nat) (sc : Int) (w : World) (ha : Sl w (.slice ao n ca) la) (hb : Sl w (.slice bo m cb) lb) (hn : (n : Int) ≤ 9223372036854775807) (hm : (m : Int) ≤ 9223372036854775807) (va : vld la = true) (vb : vld lb = true)
    (cMul : ∀ W, Sl W (.slice ao n ca) la → Sl W (.slice bo m cb) lb → Calls Try.prog 13 #[.agg #[.slice ao n ca], .agg #[.slice bo m cb]] W fun e w' => ResN P pc e w' ∧ Below W.heap.size W w')
    (cDiv : ∀ W, Sl W (.slice ao n ca) la → Sl W (.slice bo m cb) lb → Calls Try.prog 14 #[.agg #[.slice ao n ca], .agg #[.slice bo m cb]] W fun e w' => ResX Q R 0 e w' ∧ Below W.heap.size W w')
    (cSh : ∀ W, Sl W (.slice ao n ca) la → Calls Try.prog 15 #[.agg #[.slice ao n ca], .int .i64 x] W fun e w' => ResN S sc e w' ∧ Below W.heap.size W w')
    (cRS : ∀ W, Sl W (.slice ao n ca) la → Calls Try.prog 19 #[.agg #[.slice ao n ca], .int .i64 x] W fun e w' => ResN S sc e w' ∧ Below W.heap.size W w')
    (cRM : ∀ W, Sl W (.slice ao n ca) la → Sl W (.slice bo m cb) lb → Calls Try.prog 20 #[.agg #[.slice ao n ca], .agg #[.slice bo m cb]] W fun e w' => ResN P pc e w' ∧ Below W.heap.size W w')
    (cRD : ∀ W, Sl W (.slice ao n ca) la → Sl W (.slice bo m cb) lb → Calls Try.prog 21 #[.agg #[.slice ao n ca], .agg #[.slice bo m cb]] W fun e w' => ResR Q R e w' ∧ Below W.heap.size W w') (hx1 : -10000 ≤ x) (hx2 : x ≤ 10000) (hm0 : m ≠ 0) :
    Calls Try.prog 3 #[.agg #[.slice ao n ca], .agg #[.slice bo m cb], .int .i64 x] w fun e w' => e = .returned (.bool true) ∧ Below w.heap.size w w' := by
  have KA := Lib.hid va
  have KB := Lib.hid vb
  have CMUL := Lib.hid cMul
  have CDIV := Lib.hid cDiv
  have CSH := Lib.hid cSh
  have CRS := Lib.hid cRS
  have CRM := Lib.hid cRM
  have CRD := Lib.hid cRD
  have E0 := Lib.hid (((EnvN.start w).num ha).num hb)
  have t1 : decide (x < -10000) = false := decide_eq_false (by omega)
  have t2 : decide (10000 < x) = false := decide_eq_false (by omega)
  have t3 : ((m : Int) == 0) = false := by simp; omega
  clear va vb cMul cDiv cSh cRS cRM cRD ha hb hx1 hx2 hm0
  go_enter Try.func3, Try.ntmps3
  go_wp2_with fail
  have EB := Lib.hid (((E0.out.push (.slice ao n ca) 24).pushAt (.slice bo m cb) 24 (w.heap.size + 1) (by simp)))
  refine (awake_c _).mono ?_
  rintro e w1 ⟨rfl, hb⟩
  have E1 := Lib.hid ((EB.out.below hb))
  clear hb EB E0
  obtain ⟨⟨_, ⟨p0, q0⟩, ⟨p1, q1⟩, _⟩, _⟩ := E1.out
  go_wp2_with fail
  refine (great2_c ao bo n m ca cb w1 hn hm _ rfl).mono ?_
  rintro e w2 ⟨⟨hg, rfl⟩ | ⟨_, rfl⟩, hb⟩
  · have hfin := Lib.hid (E1.out.below hb).1.1
    clear hb
    go_wp2
    go_ret
    exact ⟨rfl, hfin.out⟩
  have E2 := Lib.hid ((E1.out.below hb))
  clear p0 q0 p1 q1 hb E1
  obtain ⟨⟨_, ⟨p0, q0⟩, ⟨p1, q1⟩, _⟩, _⟩ := E2.out
  go_wp2_with fail
  refine (CMUL.out _ (E2.out.sl 1 rfl) (E2.out.sl 0 rfl)).mono ?_
  rintro e w3 ⟨⟨pa, pk, rfl, hp⟩, hb⟩
  have E3 := Lib.hid (((E2.out.below hb).numN (hp.out : Nt _ _ P)))
  clear p0 q0 p1 q1 hb hp E2
  obtain ⟨⟨_, ⟨p0, q0⟩, ⟨p1, q1⟩, _⟩, _⟩ := E3.out
  go_wp2_with fail
  have EB := Lib.hid ((E3.out.push (.slice pa (len P) pk) 24))
  refine (CDIV.out _ (EB.out.sl 2 rfl) (EB.out.sl 1 rfl)).mono ?_
  rintro e w4 ⟨⟨qa, qk, ra, rk, rfl, hq, hr⟩, hb⟩
  have E4 := Lib.hid ((((EB.out.below hb).numN (hq.out : Nt _ _ Q)).numN (hr.out : Nt _ _ R)))
  clear p0 q0 p1 q1 hb EB hq hr E3
  obtain ⟨⟨_, ⟨p0, q0⟩, ⟨p1, q1⟩, ⟨p2, q2⟩, _⟩, _⟩ := E4.out
  go_wp2_with fail
  have EB := Lib.hid (((E4.out.push (.slice qa (len Q) qk) 24).pushAt (.slice ra (len R) rk) 24 (w4.heap.size + 1) (by simp)))
  refine (CSH.out _ (EB.out.sl 4 rfl)).mono ?_
  rintro e w5 ⟨⟨sa, sk, rfl, hs⟩, hb⟩
  have E5 := Lib.hid (((EB.out.below hb).numN (hs.out : Nt _ _ S)))
  clear p0 q0 p1 q1 p2 q2 hb EB hs E4
  obtain ⟨⟨_, ⟨p0, q0⟩, ⟨p1, q1⟩, ⟨p2, q2⟩, ⟨p3, q3⟩, ⟨p4, q4⟩, _⟩, _⟩ := E5.out
  go_wp2_with fail
  have EB := Lib.hid ((E5.out.push (.slice sa (len S) sk) 24))
  refine (validS KA (EB.out.sl 5 rfl)).mono ?_
  rintro e w6 ⟨rfl, hb⟩
  have E6 := Lib.hid ((EB.out.below hb))
  clear p0 q0 p1 q1 p2 q2 p3 q3 p4 q4 hb EB E5
  obtain ⟨⟨_, ⟨p0, q0⟩, ⟨p1, q1⟩, ⟨p2, q2⟩, ⟨p3, q3⟩, ⟨p4, q4⟩, ⟨p5, q5⟩, _⟩, _⟩ := E6.out
  go_wp2_with fail
  refine (CRS.out _ (E6.out.sl 5 rfl)).mono ?_
  rintro e w7 ⟨⟨ta, tk, rfl, ht⟩, hb⟩
  have E7 := Lib.hid (((E6.out.below hb).numN (ht.out : Nt _ _ S)))
  clear p0 q0 p1 q1 p2 q2 p3 q3 p4 q4 p5 q5 hb ht E6
  obtain ⟨⟨_, ⟨p0, q0⟩, ⟨p1, q1⟩, ⟨p2, q2⟩, ⟨p3, q3⟩, ⟨p4, q4⟩, ⟨p5, q5⟩, _⟩, _⟩ := E7.out
  go_wp2_with fail
  have EB := Lib.hid ((E7.out.push (.slice ta (len S) tk) 24))
  refine (isB sc (EB.out.nt 1 rfl) (EB.out.nt 0 rfl)).mono ?_
  rintro e w8 ⟨rfl, hb⟩
  have E8 := Lib.hid ((EB.out.below hb))
  clear p0 q0 p1 q1 p2 q2 p3 q3 p4 q4 p5 q5 hb EB E7
  obtain ⟨⟨_, ⟨p0, q0⟩, ⟨p1, q1⟩, ⟨p2, q2⟩, ⟨p3, q3⟩, ⟨p4, q4⟩, ⟨p5, q5⟩, ⟨p6, q6⟩, _⟩, _⟩ := E8.out
  go_wp2_with fail
  refine (validS KB (E8.out.sl 5 rfl)).mono ?_
  rintro e w9 ⟨rfl, hb⟩
  have E9 := Lib.hid ((E8.out.below hb))
  clear p0 q0 p1 q1 p2 q2 p3 q3 p4 q4 p5 q5 p6 q6 hb E8
  obtain ⟨⟨_, ⟨p0, q0⟩, ⟨p1, q1⟩, ⟨p2, q2⟩, ⟨p3, q3⟩, ⟨p4, q4⟩, ⟨p5, q5⟩, ⟨p6, q6⟩, _⟩, _⟩ := E9.out
  go_wp2_with fail
  refine (CRM.out _ (E9.out.sl 6 rfl) (E9.out.sl 5 rfl)).mono ?_
  rintro e w10 ⟨⟨ya, yk, rfl, hy⟩, hb⟩
  have E10 := Lib.hid (((E9.out.below hb).numN (hy.out : Nt _ _ P)))
  clear p0 q0 p1 q1 p2 q2 p3 q3 p4 q4 p5 q5 p6 q6 hb hy E9
  obtain ⟨⟨_, ⟨p0, q0⟩, ⟨p1, q1⟩, ⟨p2, q2⟩, ⟨p3, q3⟩, ⟨p4, q4⟩, ⟨p5, q5⟩, ⟨p6, q6⟩, _⟩, _⟩ := E10.out
  go_wp2_with fail
  have EB := Lib.hid ((E10.out.push (.slice ya (len P) yk) 24))
  refine (isB pc (EB.out.nt 5 rfl) (EB.out.nt 0 rfl)).mono ?_
  rintro e w11 ⟨rfl, hb⟩
  have E11 := Lib.hid ((EB.out.below hb))
  clear p0 q0 p1 q1 p2 q2 p3 q3 p4 q4 p5 q5 p6 q6 hb EB E10
  obtain ⟨⟨_, ⟨p0, q0⟩, ⟨p1, q1⟩, ⟨p2, q2⟩, ⟨p3, q3⟩, ⟨p4, q4⟩, ⟨p5, q5⟩, ⟨p6, q6⟩, ⟨p7, q7⟩, _⟩, _⟩ := E11.out
  go_wp2_with fail
  refine (CRD.out _ (E11.out.sl 7 rfl) (E11.out.sl 6 rfl)).mono ?_
  rintro e w12 ⟨⟨xa, xk, za, zk, rfl, hx, hz⟩, hb⟩
  have E12 := Lib.hid ((((E11.out.below hb).numN (hx.out : Nt _ _ Q)).numN (hz.out : Nt _ _ R)))
  clear p0 q0 p1 q1 p2 q2 p3 q3 p4 q4 p5 q5 p6 q6 p7 q7 hb hx hz E11
  obtain ⟨⟨_, ⟨p0, q0⟩, ⟨p1, q1⟩, ⟨p2, q2⟩, ⟨p3, q3⟩, ⟨p4, q4⟩, ⟨p5, q5⟩, ⟨p6, q6⟩, ⟨p7, q7⟩, _⟩, _⟩ := E12.out
  go_wp2_with fail
  have EB := Lib.hid (((E12.out.push (.slice xa (len Q) xk) 24).pushAt (.slice za (len R) zk) 24 (w12.heap.size + 1) (by simp)))
  refine (isB 0 (EB.out.nt 6 rfl) (EB.out.nt 1 rfl)).mono ?_
  rintro e w13 ⟨rfl, hb⟩
  have E13 := Lib.hid ((EB.out.below hb))
  clear p0 q0 p1 q1 p2 q2 p3 q3 p4 q4 p5 q5 p6 q6 p7 q7 hb EB E12
  obtain ⟨⟨_, ⟨p0, q0⟩, ⟨p1, q1⟩, ⟨p2, q2⟩, ⟨p3, q3⟩, ⟨p4, q4⟩, ⟨p5, q5⟩, ⟨p6, q6⟩, ⟨p7, q7⟩, ⟨p8, q8⟩, ⟨p9, q9⟩, _⟩, _⟩ := E13.out
  go_wp2_with fail
  refine (sameB (E13.out.nt 5 rfl) (E13.out.nt 0 rfl)).mono ?_
  rintro e w14 ⟨rfl, hb⟩
  have E14 := Lib.hid ((E13.out.below hb))
  clear p0 q0 p1 q1 p2 q2 p3 q3 p4 q4 p5 q5 p6 q6 p7 q7 p8 q8 p9 q9 hb E13
  obtain ⟨⟨_, ⟨p0, q0⟩, ⟨p1, q1⟩, ⟨p2, q2⟩, ⟨p3, q3⟩, ⟨p4, q4⟩, ⟨p5, q5⟩, ⟨p6, q6⟩, ⟨p7, q7⟩, ⟨p8, q8⟩, ⟨p9, q9⟩, _⟩, _⟩ := E14.out
  have hfin := Lib.hid E14.out.1.1
  clear p0 q0 p1 q1 p2 q2 p3 q3 p4 q4 p5 q5 p6 q6 p7 q7 p8 q8 p9 q9
  go_wp2
  go_ret
  exact ⟨rfl, hfin.out⟩

theorem NaturalProducts_walk (a b : Value) (x : Int) (la lb : List Nat) (hx : (Lit.int IntKind.i64 x).wf = true) (w : World) (ha : Sl w a la) (hb : Sl w b lb) :
    Calls Try.prog 3 #[.agg #[a], .agg #[b], .int .i64 x] w fun e w' => e = .returned (.bool true) ∧ Below w.heap.size w w' := by
  have n1 := ha.len63
  have n2 := hb.len63
  obtain ⟨ao, ca, rfl, _⟩ := ha.open
  obtain ⟨bo, cb, rfl, _⟩ := hb.open
  have mulBad : vld la = false ∨ vld lb = false → ∀ W, Sl W (.slice ao la.length ca) la → Sl W (.slice bo lb.length cb) lb → Calls Try.prog 13 #[.agg #[.slice ao la.length ca], .agg #[.slice bo lb.length cb]] W fun e w' => ResN 0 1 e w' ∧ Below W.heap.size W w' := fun h W k1 k2 =>
    (Mul_bad _ _ la lb W k1 k2 h).mono (fun e w' q => ⟨by rw [q.1]; exact errN.res _ _, q.2⟩)
  have divBad : vld la = false ∨ vld lb = false → ∀ W, Sl W (.slice ao la.length ca) la → Sl W (.slice bo lb.length cb) lb → Calls Try.prog 14 #[.agg #[.slice ao la.length ca], .agg #[.slice bo lb.length cb]] W fun e w' => ResX 0 0 1 e w' ∧ Below W.heap.size W w' := fun h W k1 k2 =>
    (Div_bad _ _ la lb W k1 k2 h).mono (fun e w' q => ⟨by rw [q.1]; exact errNN.res _ _, q.2⟩)
  cases va : vld la
  · exact NaturalProducts_abad ao bo ca cb _ _ la lb x w ha hb n1 n2 va (mulBad (Or.inl va)) (divBad (Or.inl va))
      (fun W k => (Shift_bad _ la x W k va).mono (fun e w' q => ⟨by rw [q.1]; exact errN.res _ _, q.2⟩))
  · obtain ⟨N, rfl, hl, _⟩ := vld_nt ha va
    have hrng : (x < -10000 ∨ 10000 < x) ∨ (-10000 ≤ x ∧ x ≤ 10000) := by omega
    have shOut : (x < -10000 ∨ 10000 < x) → ∀ W, Sl W (.slice ao (digs N).length ca) (digs N) → Calls Try.prog 15 #[.agg #[.slice ao (digs N).length ca], .int .i64 x] W fun e w' => ResN 0 2 e w' ∧ Below W.heap.size W w' := fun h W k => by
      rcases h with h | h
      · exact (Shift_lo _ N x W k hl h).mono (fun e w' q => ⟨by rw [q.1]; exact errN.res _ _, q.2⟩)
      · exact (Shift_hi _ N x W k hl h).mono (fun e w' q => ⟨by rw [q.1]; exact errN.res _ _, q.2⟩)
    cases vb : vld lb
    · rcases hrng with hr | ⟨hr1, hr2⟩
      · exact NaturalProducts_out_bad ao bo ca cb _ _ _ lb x w ha hb n1 n2 va vb (mulBad (Or.inr vb)) (divBad (Or.inr vb)) (shOut hr) hr
      · obtain ⟨S, sc, s1, s2⟩ := shift_two (.slice ao (digs N).length ca) N x hl hr1 hr2
        exact NaturalProducts_in_bad ao bo ca cb _ _ _ lb x S sc w ha hb n1 n2 va vb (mulBad (Or.inr vb)) (divBad (Or.inr vb)) s1 s2 hr1 hr2
    · obtain ⟨M, rfl, hl2, _⟩ := vld_nt hb vb
      obtain ⟨P, pc, hP⟩ := BV.some (N * M)
      by_cases h0 : M = 0
      · have hm : (digs M).length = 0 := by rw [h0, digs_zero]; rfl
        have dz : ∀ W, Sl W (.slice ao (digs N).length ca) (digs N) → Sl W (.slice bo (digs M).length cb) (digs M) → Calls Try.prog 14 #[.agg #[.slice ao (digs N).length ca], .agg #[.slice bo (digs M).length cb]] W fun e w' => ResX 0 0 10 e w' ∧ Below W.heap.size W w' := fun W k1 k2 =>
          (Div_zero _ _ N M W k1 k2 hl hl2 h0).mono (fun e w' q => ⟨by rw [q.1]; exact errNN.res _ _, q.2⟩)
        rcases hrng with hr | ⟨hr1, hr2⟩
        · exact NaturalProducts_out_zero ao bo ca cb _ _ _ _ x P pc w ha hb n1 n2 va vb (fun W k1 k2 => mulB hP k1 k2 hl hl2) dz (shOut hr) (fun W k1 k2 => refMulB hP k1 k2 hl hl2) hr hm
        · obtain ⟨S, sc, s1, s2⟩ := shift_two (.slice ao (digs N).length ca) N x hl hr1 hr2
          exact NaturalProducts_in_zero ao bo ca cb _ _ _ _ x P pc S sc w ha hb n1 n2 va vb (fun W k1 k2 => mulB hP k1 k2 hl hl2) dz s1 s2 (fun W k1 k2 => refMulB hP k1 k2 hl hl2) hr1 hr2 hm
      · have hm : (digs M).length ≠ 0 := fun e => h0 (len_eq_zero.1 e)
        have dd : ∀ W, Sl W (.slice ao (digs N).length ca) (digs N) → Sl W (.slice bo (digs M).length cb) (digs M) → Calls Try.prog 14 #[.agg #[.slice ao (digs N).length ca], .agg #[.slice bo (digs M).length cb]] W fun e w' => ResX (N / M) (N % M) 0 e w' ∧ Below W.heap.size W w' := fun W k1 k2 =>
          divB (Lib.hid rfl) (Lib.hid rfl) k1 k2 hl hl2 h0
        rcases hrng with hr | ⟨hr1, hr2⟩
        · exact NaturalProducts_out_ok ao bo ca cb _ _ _ _ x P pc (N / M) (N % M) w ha hb n1 n2 va vb (fun W k1 k2 => mulB hP k1 k2 hl hl2) dd (shOut hr) (fun W k1 k2 => refMulB hP k1 k2 hl hl2) (fun W k1 k2 => refDivB (Lib.hid rfl) (Lib.hid rfl) k1 k2 hl hl2 h0) hr hm
        · obtain ⟨S, sc, s1, s2⟩ := shift_two (.slice ao (digs N).length ca) N x hl hr1 hr2
          exact NaturalProducts_in_ok ao bo ca cb _ _ _ _ x P pc (N / M) (N % M) S sc w ha hb n1 n2 va vb (fun W k1 k2 => mulB hP k1 k2 hl hl2) dd s1 s2 (fun W k1 k2 => refMulB hP k1 k2 hl hl2) (fun W k1 k2 => refDivB (Lib.hid rfl) (Lib.hid rfl) k1 k2 hl hl2 h0) hr1 hr2 hm
end Go.Proofs.Ytgogfjehbaiklaa

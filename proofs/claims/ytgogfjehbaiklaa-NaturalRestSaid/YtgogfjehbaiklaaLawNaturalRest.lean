/- NaturalRest: the walk of the statement. -/
import Derived.Test.YtgogfjehbaiklaaNatEnv4
namespace Go.Proofs.Ytgogfjehbaiklaa
open Go.RowKit NatMath
set_option linter.unusedVariables false

set_option maxRecDepth 100000 in
set_option maxHeartbeats 4000000 in
theorem NaturalRest_valid (ao bo : Option Addr) (ca cb : Nat) (N M : Nat) (w : World) (ha : Nt w (.slice ao (len N) ca) N) (hb : Nt w (.slice bo (len M) cb) M) (h1 : len N ≤ 64) (h2 : len M ≤ 64) (h0 : M ≠ 0) :
    Calls Try.prog 4 #[.agg #[.slice ao (len N) ca], .agg #[.slice bo (len M) cb]] w fun e w' => e = .returned (.bool true) ∧ Below w.heap.size w w' := by
  have H1 := Lib.hid h1
  have H2 := Lib.hid h2
  have H0 := Lib.hid h0
  have hn1 : (len N : Int) ≤ 64 := by omega
  have hn2 : (len M : Int) ≤ 64 := by omega
  have hm0 : ((len M : Int) == 0) = false := by
    have : len M ≠ 0 := fun e => h0 (len_eq_zero.1 e)
    simp; omega
  have hq : N / M ≤ N := Nat.div_le_self _ _
  have hr : N % M < M := Nat.mod_lt _ (by omega)
  have HQ := Lib.hid (show len (N / M) ≤ 64 from Nat.le_trans (len_mono hq) h1)
  have HR := Lib.hid (show len (N % M) ≤ 64 from Nat.le_trans (len_mono (Nat.le_of_lt hr)) h2)
  have hp : N / M * M ≤ N := Nat.div_mul_le_self _ _
  have HP := Lib.hid (show BV (N / M * M) (N / M * M) 0 from Or.inl ⟨Nat.le_trans (len_mono hp) h1, rfl, rfl⟩)
  have HP2 := Lib.hid (show len (N / M * M) ≤ 64 from Nat.le_trans (len_mono hp) h1)
  have HS := Lib.hid (show BV (N / M * M + N % M) N 0 from Or.inl ⟨by rw [Nat.div_add_mod']; exact h1, (Nat.div_add_mod' N M).symm, rfl⟩)
  have hc : decide (0 ≤ cmp (N % M) M) = false := decide_eq_false (by unfold cmp; rw [if_pos hr]; omega)
  have E0 := Lib.hid (((EnvN.start w).numN ha).numN hb)
  obtain ⟨S, sc, hS⟩ := BV.some (N * M)
  clear ha hb h1 h2 h0 hq hr hp
  generalize hcc : cmp (N % M) M = cc at *
  generalize hqq : N / M = q at *
  generalize hrr : N % M = r at *
  generalize hpp : q * M = p at *
  have HQQ := Lib.hid hqq
  have HRR := Lib.hid hrr
  clear hqq hrr
  have PP := Lib.hid hpp
  have CC := Lib.hid hcc
  clear hpp hcc
  go_enter Try.func4, Try.ntmps4
  go_wp2_with fail
  have EB := Lib.hid (((E0.out.push (.slice ao (len N) ca) 24).pushAt (.slice bo (len M) cb) 24 (w.heap.size + 1) (by simp)))
  refine (awake_c _).mono ?_
  rintro e w1 ⟨rfl, hb⟩
  have E1 := Lib.hid ((EB.out.below hb))
  clear hb EB E0
  obtain ⟨⟨_, ⟨p0, q0⟩, ⟨p1, q1⟩, _⟩, _⟩ := E1.out
  go_wp2_with fail
  refine (great2_c ao bo (len N) (len M) ca cb w1 (by omega) (by omega) _ rfl).mono ?_
  rintro e w2 ⟨⟨hg, rfl⟩ | ⟨_, rfl⟩, hb⟩
  · exact absurd hg (by omega)
  have E2 := Lib.hid ((E1.out.below hb))
  clear p0 q0 p1 q1 hb E1
  obtain ⟨⟨_, ⟨p0, q0⟩, ⟨p1, q1⟩, _⟩, _⟩ := E2.out
  go_wp2_with fail
  refine (validB (E2.out.nt 1 rfl) H1.out).mono ?_
  rintro e w3 ⟨rfl, hb⟩
  have E3 := Lib.hid ((E2.out.below hb))
  clear p0 q0 p1 q1 hb E2
  obtain ⟨⟨_, ⟨p0, q0⟩, ⟨p1, q1⟩, _⟩, _⟩ := E3.out
  go_wp2_with fail
  refine (validB (E3.out.nt 0 rfl) H2.out).mono ?_
  rintro e w4 ⟨rfl, hb⟩
  have E4 := Lib.hid ((E3.out.below hb))
  clear p0 q0 p1 q1 hb E3
  obtain ⟨⟨_, ⟨p0, q0⟩, ⟨p1, q1⟩, _⟩, _⟩ := E4.out
  go_wp2_with fail
  refine (divB HQQ HRR (E4.out.nt 1 rfl) (E4.out.nt 0 rfl) H1.out H2.out H0.out).mono ?_
  rintro e w5 ⟨⟨qa, qk, ra, rk, rfl, hq, hr⟩, hb⟩
  have E5 := Lib.hid ((((E4.out.below hb).numN (hq.out : Nt _ _ q)).numN (hr.out : Nt _ _ r)))
  clear p0 q0 p1 q1 hb hq hr E4
  obtain ⟨⟨_, ⟨p0, q0⟩, ⟨p1, q1⟩, _⟩, _⟩ := E5.out
  go_wp2_with fail
  have EB := Lib.hid (((E5.out.push (.slice qa (len q) qk) 24).pushAt (.slice ra (len r) rk) 24 (w5.heap.size + 1) (by simp)))
  refine (validN (EB.out.nt 1 rfl) HQ.out).mono ?_
  rintro e w6 ⟨rfl, hb⟩
  have E6 := Lib.hid ((EB.out.below hb))
  clear p0 q0 p1 q1 hb EB E5
  obtain ⟨⟨_, ⟨p0, q0⟩, ⟨p1, q1⟩, ⟨p2, q2⟩, ⟨p3, q3⟩, _⟩, _⟩ := E6.out
  go_wp2_with fail
  refine (validN (E6.out.nt 0 rfl) HR.out).mono ?_
  rintro e w7 ⟨rfl, hb⟩
  have E7 := Lib.hid ((E6.out.below hb))
  clear p0 q0 p1 q1 p2 q2 p3 q3 hb E6
  obtain ⟨⟨_, ⟨p0, q0⟩, ⟨p1, q1⟩, ⟨p2, q2⟩, ⟨p3, q3⟩, _⟩, _⟩ := E7.out
  go_wp2_with fail
  refine (compareB CC (E7.out.nt 0 rfl) (E7.out.nt 2 rfl) HR.out H2.out).mono ?_
  rintro e w8 ⟨rfl, hb⟩
  have E8 := Lib.hid ((E7.out.below hb))
  clear p0 q0 p1 q1 p2 q2 p3 q3 hb E7
  obtain ⟨⟨_, ⟨p0, q0⟩, ⟨p1, q1⟩, ⟨p2, q2⟩, ⟨p3, q3⟩, _⟩, _⟩ := E8.out
  go_wp2_with fail
  refine (mulB (Lib.hid (by rw [PP.out]; exact HP.out)) (E8.out.nt 1 rfl) (E8.out.nt 2 rfl) HQ.out H2.out).mono ?_
  rintro e w9 ⟨⟨pa, pk, rfl, hp⟩, hb⟩
  have E9 := Lib.hid (((E8.out.below hb).numN (hp.out : Nt _ _ p)))
  clear p0 q0 p1 q1 p2 q2 p3 q3 hb hp E8
  obtain ⟨⟨_, ⟨p0, q0⟩, ⟨p1, q1⟩, ⟨p2, q2⟩, ⟨p3, q3⟩, _⟩, _⟩ := E9.out
  go_wp2_with fail
  have EB := Lib.hid ((E9.out.push (.slice pa (len p) pk) 24))
  refine (addB HS (EB.out.nt 0 rfl) (EB.out.nt 1 rfl) HP2.out HR.out).mono ?_
  rintro e w10 ⟨⟨sa, sk, rfl, hs⟩, hb⟩
  have E10 := Lib.hid (((EB.out.below hb).numN (hs.out : Nt _ _ N)))
  clear p0 q0 p1 q1 p2 q2 p3 q3 hb EB hs E9
  obtain ⟨⟨_, ⟨p0, q0⟩, ⟨p1, q1⟩, ⟨p2, q2⟩, ⟨p3, q3⟩, ⟨p4, q4⟩, _⟩, _⟩ := E10.out
  go_wp2_with fail
  have EB := Lib.hid ((E10.out.push (.slice sa (len N) sk) 24))
  refine (sameB (EB.out.nt 0 rfl) (EB.out.nt 5 rfl)).mono ?_
  rintro e w11 ⟨rfl, hb⟩
  have E11 := Lib.hid ((EB.out.below hb))
  clear p0 q0 p1 q1 p2 q2 p3 q3 p4 q4 hb EB E10
  obtain ⟨⟨_, ⟨p0, q0⟩, ⟨p1, q1⟩, ⟨p2, q2⟩, ⟨p3, q3⟩, ⟨p4, q4⟩, ⟨p5, q5⟩, _⟩, _⟩ := E11.out
  go_wp2_with fail
  refine (mulB hS (E11.out.nt 5 rfl) (E11.out.nt 4 rfl) H1.out H2.out).mono ?_
  rintro e w12 ⟨⟨xa, xk, rfl, hx⟩, hb⟩
  have E12 := Lib.hid (((E11.out.below hb).numN (hx.out : Nt _ _ S)))
  clear p0 q0 p1 q1 p2 q2 p3 q3 p4 q4 p5 q5 hb hx E11
  obtain ⟨⟨_, ⟨p0, q0⟩, ⟨p1, q1⟩, ⟨p2, q2⟩, ⟨p3, q3⟩, ⟨p4, q4⟩, ⟨p5, q5⟩, _⟩, _⟩ := E12.out
  rcases hS.out with ⟨l1, rfl, rfl⟩ | ⟨l1, rfl, rfl⟩
  · have L1 := Lib.hid l1
    clear l1
    have D1 : Hid (N * M / M = N) := Lib.hid (Nat.mul_div_cancel _ (Nat.pos_of_ne_zero H0.out))
    have D2 : Hid (N * M % M = 0) := Lib.hid (Nat.mul_mod_left _ _)
    go_wp2_with fail
    have EB := Lib.hid ((E12.out.push (.slice xa (len (N * M)) xk) 24))
    refine (divB D1 D2 (EB.out.nt 0 rfl) (EB.out.nt 5 rfl) L1.out H2.out H0.out).mono ?_
    rintro e w13 ⟨⟨ya, yk, za, zk, rfl, hy, hz⟩, hb⟩
    have E13 := Lib.hid ((((EB.out.below hb).numN (hy.out : Nt _ _ N)).numN (hz.out : Nt _ _ 0)))
    clear p0 q0 p1 q1 p2 q2 p3 q3 p4 q4 p5 q5 hb EB hy hz E12
    obtain ⟨⟨_, ⟨p0, q0⟩, ⟨p1, q1⟩, ⟨p2, q2⟩, ⟨p3, q3⟩, ⟨p4, q4⟩, ⟨p5, q5⟩, ⟨p6, q6⟩, _⟩, _⟩ := E13.out
    go_wp2_with fail
    have EB := Lib.hid (((E13.out.push (.slice ya (len N) yk) 24).pushAt (.slice za (len 0) zk) 24 (w13.heap.size + 1) (by simp)))
    refine (sameB (EB.out.nt 1 rfl) (EB.out.nt 8 rfl)).mono ?_
    rintro e w14 ⟨rfl, hb⟩
    have E14 := Lib.hid ((EB.out.below hb))
    clear p0 q0 p1 q1 p2 q2 p3 q3 p4 q4 p5 q5 p6 q6 hb EB E13
    obtain ⟨⟨_, ⟨p0, q0⟩, ⟨p1, q1⟩, ⟨p2, q2⟩, ⟨p3, q3⟩, ⟨p4, q4⟩, ⟨p5, q5⟩, ⟨p6, q6⟩, ⟨p7, q7⟩, ⟨p8, q8⟩, _⟩, _⟩ := E14.out
    have lz : len 0 = 0 := len_zero
    have hfin := Lib.hid E14.out.1.1
    go_wp2
    go_ret
    exact ⟨rfl, hfin.out⟩
  · clear l1
    have EB := Lib.hid ((E12.out.push (.slice xa (len 0) xk) 24))
    have hfin := Lib.hid EB.out.1.1
    clear p0 q0 p1 q1 p2 q2 p3 q3 p4 q4 p5 q5
    go_wp2
    go_ret
    exact ⟨rfl, hfin.out⟩

set_option maxRecDepth 100000 in
set_option maxHeartbeats 4000000 in
theorem NaturalRest_bad (ao bo : Option Addr) (ca cb : Nat) (la lb : List Nat) (w : World) (ha : Sl w (.slice ao la.length ca) la) (hb : Sl w (.slice bo lb.length cb) lb) (hv : vld la = false ∨ vld lb = false ∨ lb = []) :
    Calls Try.prog 4 #[.agg #[.slice ao la.length ca], .agg #[.slice bo lb.length cb]] w fun e w' => e = .returned (.bool true) ∧ Below w.heap.size w w' := by
  have n1 := ha.len63
  have n2 := hb.len63
  have hw : vld la = false ∨ (vld la = true ∧ vld lb = false) ∨ (vld la = true ∧ vld lb = true ∧ lb.length = 0) := by
    rcases hv with h | h | h
    · exact Or.inl h
    · cases k : vld la
      · exact Or.inl rfl
      · exact Or.inr (Or.inl ⟨rfl, h⟩)
    · cases k : vld la
      · exact Or.inl rfl
      · exact Or.inr (Or.inr ⟨rfl, by rw [h]; rfl, by rw [h]; rfl⟩)
  clear hv
  have E0 := Lib.hid (((EnvN.start w).num ha).num hb)
  clear ha hb
  generalize hl1 : la.length = n at *
  generalize hl2 : lb.length = m at *
  clear hl1 hl2
  go_enter Try.func4, Try.ntmps4
  go_wp2_with fail
  have EB := Lib.hid (((E0.out.push (.slice ao n ca) 24).pushAt (.slice bo m cb) 24 (w.heap.size + 1) (by simp)))
  refine (awake_c _).mono ?_
  rintro e w1 ⟨rfl, hb⟩
  have E1 := Lib.hid ((EB.out.below hb))
  clear hb EB E0
  obtain ⟨⟨_, ⟨p0, q0⟩, ⟨p1, q1⟩, _⟩, _⟩ := E1.out
  go_wp2_with fail
  refine (great2_c ao bo n m ca cb w1 (by omega) (by omega) _ rfl).mono ?_
  rintro e w2 ⟨⟨hg, rfl⟩ | ⟨_, rfl⟩, hb⟩
  · have hfin := Lib.hid (E1.out.below hb).1.1
    clear hb
    go_wp2
    go_ret
    exact ⟨rfl, hfin.out⟩
  have E2 := Lib.hid ((E1.out.below hb))
  clear p0 q0 p1 q1 hb E1
  obtain ⟨⟨_, ⟨p0, q0⟩, ⟨p1, q1⟩, _⟩, _⟩ := E2.out
  rcases hw with h1 | ⟨h1, h2⟩ | ⟨h1, h2, h3⟩
  · have K1 := Lib.hid h1
    clear h1
    go_wp2_with fail
    refine (validS K1 (E2.out.sl 1 rfl)).mono ?_
    rintro e w3 ⟨rfl, hb⟩
    have E3 := Lib.hid ((E2.out.below hb))
    clear p0 q0 p1 q1 hb E2
    obtain ⟨⟨_, ⟨p0, q0⟩, ⟨p1, q1⟩, _⟩, _⟩ := E3.out
    have hfin := Lib.hid E3.out.1.1
    clear p0 q0 p1 q1
    go_wp2
    go_ret
    exact ⟨rfl, hfin.out⟩
  · have K1 := Lib.hid h1
    have K2 := Lib.hid h2
    clear h1 h2
    go_wp2_with fail
    refine (validS K1 (E2.out.sl 1 rfl)).mono ?_
    rintro e w3 ⟨rfl, hb⟩
    have E3 := Lib.hid ((E2.out.below hb))
    clear p0 q0 p1 q1 hb E2
    obtain ⟨⟨_, ⟨p0, q0⟩, ⟨p1, q1⟩, _⟩, _⟩ := E3.out
    go_wp2_with fail
    refine (validS K2 (E3.out.sl 0 rfl)).mono ?_
    rintro e w4 ⟨rfl, hb⟩
    have E4 := Lib.hid ((E3.out.below hb))
    clear p0 q0 p1 q1 hb E3
    obtain ⟨⟨_, ⟨p0, q0⟩, ⟨p1, q1⟩, _⟩, _⟩ := E4.out
    have hfin := Lib.hid E4.out.1.1
    clear p0 q0 p1 q1
    go_wp2
    go_ret
    exact ⟨rfl, hfin.out⟩
  · have K1 := Lib.hid h1
    have K2 := Lib.hid h2
    clear h1 h2
    subst h3
    have t0 : (((0 : Nat) : Int) == 0) = true := rfl
    go_wp2_with fail
    refine (validS K1 (E2.out.sl 1 rfl)).mono ?_
    rintro e w3 ⟨rfl, hb⟩
    have E3 := Lib.hid ((E2.out.below hb))
    clear p0 q0 p1 q1 hb E2
    obtain ⟨⟨_, ⟨p0, q0⟩, ⟨p1, q1⟩, _⟩, _⟩ := E3.out
    go_wp2_with fail
    refine (validS K2 (E3.out.sl 0 rfl)).mono ?_
    rintro e w4 ⟨rfl, hb⟩
    have E4 := Lib.hid ((E3.out.below hb))
    clear p0 q0 p1 q1 hb E3
    obtain ⟨⟨_, ⟨p0, q0⟩, ⟨p1, q1⟩, _⟩, _⟩ := E4.out
    have hfin := Lib.hid E4.out.1.1
    go_wp2
    go_ret
    exact ⟨rfl, hfin.out⟩

theorem NaturalRest_walk (a b : Value) (la lb : List Nat) (w : World) (ha : Sl w a la) (hb : Sl w b lb) :
    Calls Try.prog 4 #[.agg #[a], .agg #[b]] w fun e w' => e = .returned (.bool true) ∧ Below w.heap.size w w' := by
  by_cases hv : vld la = true ∧ vld lb = true ∧ lb ≠ []
  · obtain ⟨N, rfl, h1, hN⟩ := vld_nt ha hv.1
    obtain ⟨M, rfl, h2, hM⟩ := vld_nt hb hv.2.1
    obtain ⟨ao, ca, rfl, _⟩ := hN.open
    obtain ⟨bo, cb, rfl, _⟩ := hM.open
    exact NaturalRest_valid ao bo ca cb N M w hN hM h1 h2 (fun e => hv.2.2 (by rw [e]; exact digs_zero))
  · obtain ⟨ao, ca, rfl, _⟩ := ha.open
    obtain ⟨bo, cb, rfl, _⟩ := hb.open
    refine NaturalRest_bad ao bo ca cb la lb w ha hb ?_
    cases h1 : vld la
    · exact Or.inl rfl
    · cases h2 : vld lb
      · exact Or.inr (Or.inl rfl)
      · by_cases h3 : lb = []
        · exact Or.inr (Or.inr h3)
        · exact absurd ⟨h1, h2, h3⟩ hv
end Go.Proofs.Ytgogfjehbaiklaa

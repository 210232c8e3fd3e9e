/- The reference: Mod, Pow, Gcd, Over. -/
import Derived.Test.YthphmgdmhlimjaaModR3
namespace Go.Proofs.Ythphmgdmhlimjaa
open Go.RowKit NatMath
set_option linter.unusedVariables false

set_option maxRecDepth 100000 in
set_option maxHeartbeats 1000000 in
theorem rMod1_w (ao : Option Addr) (ca : Nat) (bo : Option Addr) (cb : Nat) (N K : Nat)  (w : World) (ha : Nt w (.slice ao (len N) ca) N) (hb : Nt w (.slice bo (len K) cb) K) (h1 : K = 1) :
    Calls Try.prog 34 #[.agg #[.slice ao (len N) ca], .agg #[.slice bo (len K) cb]] w fun e w' => RetV 0 e w' ∧ Below w.heap.size w w' := by
  have CS := Lib.hid (fun (v : Value) W ha hb => @rSame_c (.slice bo (len K) cb) v K 1 true W (decide_eq_true h1) ha hb)
  clear h1
  have E0 : Hid (EnvB w [] [(.slice bo (len K) cb, digs K), (.slice ao (len N) ca, digs N)] w) := Lib.hid (((EnvB.start w).numN ha).numN hb)
  clear ha hb
  go_enter Try.func34, Try.ntmps34
  go_wp2_with fail
  have E1 : Hid (EnvB w [(w.heap.size + 1 + 1, .slice none 0 0), (w.heap.size + 1, .slice bo (len K) cb), (w.heap.size, .slice ao (len N) ca)] [(.slice bo (len K) cb, digs K), (.slice ao (len N) ca, digs N)] _) := Lib.hid ((((E0.out.push (.slice ao (len N) ca) 24 ⟨_, _, _, rfl⟩ (w.heap.size) (by simp)).push (.slice bo (len K) cb) 24 ⟨_, _, _, rfl⟩ (w.heap.size + 1) (by simp)).push (.slice none 0 0) 24 ⟨_, _, _, rfl⟩ (w.heap.size + 1 + 1) (by simp)))
  refine (rOf_c 1 _ (by decide)).mono ?_
  rintro e w1 ⟨⟨ia, ik, rfl, hi⟩, hb⟩
  have E2 : Hid (EnvB w [(w.heap.size + 1 + 1, .slice none 0 0), (w.heap.size + 1, .slice bo (len K) cb), (w.heap.size, .slice ao (len N) ca)] [(.slice ia (len 1) ik, digs 1), (.slice bo (len K) cb, digs K), (.slice ao (len N) ca, digs N)] _) := Lib.hid (((E1.out.below hb).numN (hi.out : Nt _ _ 1)))
  clear E1 E0 hb hi
  have E3 : Hid (EnvB w [(w1.heap.size + 1, .slice none 0 0), (w1.heap.size, .slice ia (len 1) ik), (w.heap.size + 1 + 1, .slice none 0 0), (w.heap.size + 1, .slice bo (len K) cb), (w.heap.size, .slice ao (len N) ca)] [(.slice ia (len 1) ik, digs 1), (.slice bo (len K) cb, digs K), (.slice ao (len N) ca, digs N)] _) := Lib.hid (((E2.out.push (.slice ia (len 1) ik) 24 ⟨_, _, _, rfl⟩ (w1.heap.size) (by simp)).push (.slice none 0 0) 24 ⟨_, _, _, rfl⟩ (w1.heap.size + 1) (by simp)))
  have E4 : Hid (EnvB w [(w1.heap.size + 1, .slice none (len 0) 0), (w1.heap.size, .slice ia (len 1) ik), (w.heap.size + 1 + 1, .slice none 0 0), (w.heap.size + 1, .slice bo (len K) cb), (w.heap.size, .slice ao (len N) ca)] [(.slice none (len 0) 0, digs 0), (.slice ia (len 1) ik, digs 1), (.slice bo (len K) cb, digs K), (.slice ao (len N) ca, digs N)] _) := Lib.hid (by simp only [len_zero]; exact (E3.out.numN (Nt.zero _ : Nt _ _ 0)))
  obtain ⟨p1, f1, -, -, -⟩ := E4.out.box 3 rfl
  obtain ⟨p2, f2, -, -, -⟩ := E4.out.box 1 rfl
  go_wp2_with fail
  refine (CS.out _ _ (E4.out.nt 2 rfl) (E4.out.nt 1 rfl)).mono ?_
  rintro e w2 ⟨rfl, hb⟩
  have E5 : Hid (EnvB w [(w1.heap.size + 1, .slice none (len 0) 0), (w1.heap.size, .slice ia (len 1) ik), (w.heap.size + 1 + 1, .slice none 0 0), (w.heap.size + 1, .slice bo (len K) cb), (w.heap.size, .slice ao (len N) ca)] [(.slice none (len 0) 0, digs 0), (.slice ia (len 1) ik, digs 1), (.slice bo (len K) cb, digs K), (.slice ao (len N) ca, digs N)] _) := Lib.hid ((E4.out.below hb))
  clear p1 f1 p2 f2 E4 E2 E3 hb
  obtain ⟨p3, f3, -, -, -⟩ := E5.out.box 0 rfl
  obtain ⟨p4, f4, -, -, -⟩ := E5.out.box 2 rfl
  have E6 : Hid (EnvB w [(w1.heap.size + 1, .slice none (len 0) 0), (w1.heap.size, .slice ia (len 1) ik), (w.heap.size + 1 + 1, .slice none (len 0) 0), (w.heap.size + 1, .slice bo (len K) cb), (w.heap.size, .slice ao (len N) ca)] [(.slice none (len 0) 0, digs 0), (.slice ia (len 1) ik, digs 1), (.slice bo (len K) cb, digs K), (.slice ao (len N) ca, digs N)] _) := Lib.hid ((E5.out.set 2 (.slice none (len 0) 0) rfl ⟨_, _, _, rfl⟩))
  have hfin := Lib.hid E6.out
  obtain ⟨rc, -, -, -, -⟩ := E6.out.box 2 rfl
  go_wp2
  exact bodyPost_ret (v := .agg #[.slice none (len 0) 0]) (by simp [results, Try.results34, go_sem, rc]) rfl ⟨⟨_, _, rfl, Lib.hid (hfin.out.nt 0 rfl)⟩, hfin.out.1⟩
set_option maxRecDepth 100000 in
set_option maxHeartbeats 1000000 in
theorem rMod_w (ao : Option Addr) (ca : Nat) (bo : Option Addr) (cb : Nat) (N K : Nat)  (w : World) (ha : Nt w (.slice ao (len N) ca) N) (hb : Nt w (.slice bo (len K) cb) K) (h1 : len N ≤ 2000) (h0 : 1 < K) (hk : len K ≤ 5000) :
    Calls Try.prog 34 #[.agg #[.slice ao (len N) ca], .agg #[.slice bo (len K) cb]] w fun e w' => RetV (N % K) e w' ∧ Below w.heap.size w w' := by
  have CB := Lib.hid (fun W ha => rBits_c (.slice ao (len N) ca) N W ha (by omega))
  have CT := Lib.hid (fun (j : Nat) W (hj : (j : Int) ≤ 9223372036854775807) ha => rBit_c (.slice ao (len N) ca) N j W ha hj)
  have hbe : bl N ≤ 64000 := by have := (len_le_bits (n := N) (k := 2000)).2 h1; omega
  have HS : Hid (BitI (fun k => N / 2 ^ k % K) (bl N) (bl N) 0 (bl N)) := Lib.hid (BitI.start (by simp [top_zero]))
  have HBE : Hid (bl N ≤ 64000) := Lib.hid hbe
  have CS := Lib.hid (fun (v : Value) W ha hb => @rSame_c (.slice bo (len K) cb) v K 1 false W (decide_eq_false (by omega)) ha hb)
  have CA := Lib.hid (fun (u v : Value) (X Y : Nat) W hx hy ha hb hc => @rAdd_c u v (.slice bo (len K) cb) X Y K ((X + Y) % K) W rfl hx hy hk ha hb hc)
  have HNK : Hid (1 < K) := Lib.hid h0
  clear h1 h0 hk hbe
  have E0 : Hid (EnvB w [] [(.slice bo (len K) cb, digs K), (.slice ao (len N) ca, digs N)] w) := Lib.hid (((EnvB.start w).numN ha).numN hb)
  clear ha hb
  go_enter Try.func34, Try.ntmps34
  go_wp2_with fail
  have E1 : Hid (EnvB w [(w.heap.size + 1 + 1, .slice none 0 0), (w.heap.size + 1, .slice bo (len K) cb), (w.heap.size, .slice ao (len N) ca)] [(.slice bo (len K) cb, digs K), (.slice ao (len N) ca, digs N)] _) := Lib.hid ((((E0.out.push (.slice ao (len N) ca) 24 ⟨_, _, _, rfl⟩ (w.heap.size) (by simp)).push (.slice bo (len K) cb) 24 ⟨_, _, _, rfl⟩ (w.heap.size + 1) (by simp)).push (.slice none 0 0) 24 ⟨_, _, _, rfl⟩ (w.heap.size + 1 + 1) (by simp)))
  refine (rOf_c 1 _ (by decide)).mono ?_
  rintro e w1 ⟨⟨ia, ik, rfl, hi⟩, hb⟩
  have E2 : Hid (EnvB w [(w.heap.size + 1 + 1, .slice none 0 0), (w.heap.size + 1, .slice bo (len K) cb), (w.heap.size, .slice ao (len N) ca)] [(.slice ia (len 1) ik, digs 1), (.slice bo (len K) cb, digs K), (.slice ao (len N) ca, digs N)] _) := Lib.hid (((E1.out.below hb).numN (hi.out : Nt _ _ 1)))
  clear E1 E0 hb hi
  have E3 : Hid (EnvB w [(w1.heap.size + 1, .slice none 0 0), (w1.heap.size, .slice ia (len 1) ik), (w.heap.size + 1 + 1, .slice none 0 0), (w.heap.size + 1, .slice bo (len K) cb), (w.heap.size, .slice ao (len N) ca)] [(.slice ia (len 1) ik, digs 1), (.slice bo (len K) cb, digs K), (.slice ao (len N) ca, digs N)] _) := Lib.hid (((E2.out.push (.slice ia (len 1) ik) 24 ⟨_, _, _, rfl⟩ (w1.heap.size) (by simp)).push (.slice none 0 0) 24 ⟨_, _, _, rfl⟩ (w1.heap.size + 1) (by simp)))
  have E4 : Hid (EnvB w [(w1.heap.size + 1, .slice none (len 0) 0), (w1.heap.size, .slice ia (len 1) ik), (w.heap.size + 1 + 1, .slice none 0 0), (w.heap.size + 1, .slice bo (len K) cb), (w.heap.size, .slice ao (len N) ca)] [(.slice none (len 0) 0, digs 0), (.slice ia (len 1) ik, digs 1), (.slice bo (len K) cb, digs K), (.slice ao (len N) ca, digs N)] _) := Lib.hid (by simp only [len_zero]; exact (E3.out.numN (Nt.zero _ : Nt _ _ 0)))
  obtain ⟨p1, f1, -, -, -⟩ := E4.out.box 3 rfl
  obtain ⟨p2, f2, -, -, -⟩ := E4.out.box 1 rfl
  go_wp2_with fail
  refine (CS.out _ _ (E4.out.nt 2 rfl) (E4.out.nt 1 rfl)).mono ?_
  rintro e w2 ⟨rfl, hb⟩
  have E5 : Hid (EnvB w [(w1.heap.size + 1, .slice none (len 0) 0), (w1.heap.size, .slice ia (len 1) ik), (w.heap.size + 1 + 1, .slice none 0 0), (w.heap.size + 1, .slice bo (len K) cb), (w.heap.size, .slice ao (len N) ca)] [(.slice none (len 0) 0, digs 0), (.slice ia (len 1) ik, digs 1), (.slice bo (len K) cb, digs K), (.slice ao (len N) ca, digs N)] _) := Lib.hid ((E4.out.below hb))
  clear p1 f1 p2 f2 E4 E2 E3 hb
  generalize hbl : bl N = n at CB
  have HBL := Lib.hid hbl
  clear hbl
  have hn48 : (n : Int) ≤ 1000000 := by have h1 := HBE.out; rw [HBL.out] at h1; omega
  have hn0 : 0 ≤ (n : Int) := by omega
  obtain ⟨p3, f3, -, -, -⟩ := E5.out.box 4 rfl
  go_wp2_with fail
  refine (CB.out _ (E5.out.nt 3 rfl)).mono ?_
  rintro e w3 ⟨rfl, hb⟩
  have E6 : Hid (EnvB w [(w1.heap.size + 1, .slice none (len 0) 0), (w1.heap.size, .slice ia (len 1) ik), (w.heap.size + 1 + 1, .slice none 0 0), (w.heap.size + 1, .slice bo (len K) cb), (w.heap.size, .slice ao (len N) ca)] [(.slice none (len 0) 0, digs 0), (.slice ia (len 1) ik, digs 1), (.slice bo (len K) cb, digs K), (.slice ao (len N) ca, digs N)] _) := Lib.hid ((E5.out.below hb))
  clear p3 f3 E5 hb
  go_wp2_with fail
  go_loopg [7] (n) (fun gk s7 wr => ∃ (k P : Nat) (po : Option Addr) (pc : Nat), s7 = .int .i64 ((k : Int) - 1) ∧ Hid (EnvB w [(w1.heap.size + 1, .slice po (len P) pc), (w1.heap.size, .slice ia (len 1) ik), (w.heap.size + 1 + 1, .slice none 0 0), (w.heap.size + 1, .slice bo (len K) cb), (w.heap.size, .slice ao (len N) ca)] [(.slice po (len P) pc, digs P), (.slice ia (len 1) ik, digs 1), (.slice bo (len K) cb, digs K), (.slice ao (len N) ca, digs N)] wr) ∧ Hid (BitI (fun k => N / 2 ^ k % K) n k P gk))
  case atStart => exact ⟨n, 0, none, 0, rfl, Lib.hid ⟨E6.out.1, E6.out.2.1, ⟨E6.out.sl 0 rfl, ⟨E6.out.sl 1 rfl, ⟨E6.out.sl 2 rfl, ⟨E6.out.sl 3 rfl, trivial⟩⟩⟩⟩⟩, Lib.hid (HBL.out ▸ HS.out)⟩
  case round =>
    clear E6 HS CB CS
    obtain ⟨k, P, po, pc, rfl, EL, HA⟩ := hrel
    obtain ⟨a1, a2, a3⟩ := HA.out
    clear HA
    by_cases hy : k = 0
    · have t1 : decide (0 ≤ (k : Int) - 1) = false := decide_eq_false (by omega)
      have t2 : decide (1 ≤ (k : Int)) = false := decide_eq_false (by omega)
      have HP : Hid (P = N % K) := Lib.hid (by rw [a3, hy]; simp)
      clear a1 a2 a3 hy HBE HNK CA CT
      obtain ⟨p4, f4, -, -, -⟩ := EL.out.box 0 rfl
      obtain ⟨p5, f5, -, -, -⟩ := EL.out.box 2 rfl
      have E7 : Hid (EnvB w [(w1.heap.size + 1, .slice po (len P) pc), (w1.heap.size, .slice ia (len 1) ik), (w.heap.size + 1 + 1, .slice po (len P) pc), (w.heap.size + 1, .slice bo (len K) cb), (w.heap.size, .slice ao (len N) ca)] [(.slice po (len P) pc, digs P), (.slice ia (len 1) ik, digs 1), (.slice bo (len K) cb, digs K), (.slice ao (len N) ca, digs N)] _) := Lib.hid ((EL.out.set 2 (.slice po (len P) pc) rfl ⟨_, _, _, rfl⟩))
      have hfin := Lib.hid E7.out
      obtain ⟨rc, -, -, -, -⟩ := E7.out.box 2 rfl
      go_wp2
      exact bodyPost_ret (v := .agg #[.slice po (len P) pc]) (by simp [results, Try.results34, go_sem, rc]) rfl ⟨HP.out ▸ ⟨_, _, rfl, Lib.hid (hfin.out.nt 0 rfl)⟩, hfin.out.1⟩
    · obtain ⟨j, rfl⟩ : ∃ j, k = j + 1 := ⟨k - 1, by omega⟩
      have ej : (((j + 1 : Nat) : Int) - 1) = (j : Int) := by omega
      rw [ej]
      have hj : (j : Int) ≤ 9223372036854775807 := by omega
      have t1 : decide (0 ≤ (j : Int)) = true := decide_eq_true (by omega)
      have HM : Hid (j < gk) := Lib.hid (by omega)
      have HJ : Hid (j ≤ n) := Lib.hid (by omega)
      have CTj := Lib.hid (fun W ha => CT.out j W hj ha)
      have hPK : P < K := by rw [a3]; exact Nat.mod_lt _ (by have := HNK.out; omega)
      have hQK : (P + P) % K < K := Nat.mod_lt _ (by omega)
      have CA1 := Lib.hid (fun (u : Value) W ha hb hc => CA.out u u P P W hPK hPK ha hb hc)
      have CA2 := Lib.hid (fun (u v : Value) W ha hb hc => CA.out u v ((P + P) % K) 1 W hQK HNK.out ha hb hc)
      have hP3 := a3
      cases ht : bt N j
      · have hst := modV_step N K j false ht
        simp only [Bool.false_eq_true, if_false] at hst
        have hP4 : P = _ := hP3
        dsimp only at hP4
        rw [← hP4] at hst
        have HK2 : Hid (BitI (fun k => N / 2 ^ k % K) n j ((P + P) % K) j) := Lib.hid ⟨rfl, HJ.out, hst.symm⟩
        have CTt : Hid (∀ W, Nt W (.slice ao (len N) ca) N → Calls Try.prog 72 #[.agg #[.slice ao (len N) ca], .int .i64 (j : Int)] W fun e w' => e = .returned (.bool false) ∧ Below W.heap.size W w') := Lib.hid (by rw [← ht]; exact CTj.out)
        clear a1 a2 a3 hy ej hP3 hP4 hst CA CT CTj HNK HBE HJ ht hPK hQK
        generalize (P + P) % K = Q at *
        obtain ⟨p4, f4, -, -, -⟩ := EL.out.box 0 rfl
        obtain ⟨p5, f5, -, -, -⟩ := EL.out.box 3 rfl
        go_wp2_with fail
        refine (CA1.out _ _ (EL.out.nt 0 rfl) (EL.out.nt 0 rfl) (EL.out.nt 2 rfl)).mono ?_
        rintro e w4 ⟨⟨qa, qk, rfl, hq⟩, hb⟩
        have E7 : Hid (EnvB w [(w1.heap.size + 1, .slice po (len P) pc), (w1.heap.size, .slice ia (len 1) ik), (w.heap.size + 1 + 1, .slice none 0 0), (w.heap.size + 1, .slice bo (len K) cb), (w.heap.size, .slice ao (len N) ca)] [(.slice qa (len Q) qk, digs Q), (.slice po (len P) pc, digs P), (.slice ia (len 1) ik, digs 1), (.slice bo (len K) cb, digs K), (.slice ao (len N) ca, digs N)] _) := Lib.hid (((EL.out.below hb).numN (hq.out : Nt _ _ Q)))
        clear p4 f4 p5 f5 EL hb hq
        obtain ⟨p6, f6, -, -, -⟩ := E7.out.box 0 rfl
        have E8 : Hid (EnvB w [(w1.heap.size + 1, .slice qa (len Q) qk), (w1.heap.size, .slice ia (len 1) ik), (w.heap.size + 1 + 1, .slice none 0 0), (w.heap.size + 1, .slice bo (len K) cb), (w.heap.size, .slice ao (len N) ca)] [(.slice qa (len Q) qk, digs Q), (.slice po (len P) pc, digs P), (.slice ia (len 1) ik, digs 1), (.slice bo (len K) cb, digs K), (.slice ao (len N) ca, digs N)] _) := Lib.hid ((E7.out.set 0 (.slice qa (len Q) qk) rfl ⟨_, _, _, rfl⟩))
        obtain ⟨p7, f7, -, -, -⟩ := E8.out.box 4 rfl
        go_wp2_with fail
        refine (CTt.out _ (E8.out.nt 4 rfl)).mono ?_
        rintro e w5 ⟨rfl, hb⟩
        have E9 : Hid (EnvB w [(w1.heap.size + 1, .slice qa (len Q) qk), (w1.heap.size, .slice ia (len 1) ik), (w.heap.size + 1 + 1, .slice none 0 0), (w.heap.size + 1, .slice bo (len K) cb), (w.heap.size, .slice ao (len N) ca)] [(.slice qa (len Q) qk, digs Q), (.slice po (len P) pc, digs P), (.slice ia (len 1) ik, digs 1), (.slice bo (len K) cb, digs K), (.slice ao (len N) ca, digs N)] _) := Lib.hid ((E8.out.below hb))
        clear p6 f6 p7 f7 E8 E7 hb
        have EZ := Lib.hid E9.out
        go_wp2
        go_roundg (j)
        case rel => exact ⟨j, Q, qa, qk, rfl, Lib.hid ⟨EZ.out.1, EZ.out.2.1, ⟨EZ.out.sl 0 rfl, ⟨EZ.out.sl 2 rfl, ⟨EZ.out.sl 3 rfl, ⟨EZ.out.sl 4 rfl, trivial⟩⟩⟩⟩⟩, HK2⟩
        case measure => exact HM.out
      · have hst := modV_step N K j true ht
        simp only [if_true] at hst
        have hP4 : P = _ := hP3
        dsimp only at hP4
        rw [← hP4] at hst
        have HK2 : Hid (BitI (fun k => N / 2 ^ k % K) n j (((P + P) % K + 1) % K) j) := Lib.hid ⟨rfl, HJ.out, hst.symm⟩
        have CTt : Hid (∀ W, Nt W (.slice ao (len N) ca) N → Calls Try.prog 72 #[.agg #[.slice ao (len N) ca], .int .i64 (j : Int)] W fun e w' => e = .returned (.bool true) ∧ Below W.heap.size W w') := Lib.hid (by rw [← ht]; exact CTj.out)
        clear a1 a2 a3 hy ej hP3 hP4 hst CA CT CTj HNK HBE HJ ht hPK hQK
        generalize ((P + P) % K + 1) % K = R at *
        generalize (P + P) % K = Q at *
        obtain ⟨p4, f4, -, -, -⟩ := EL.out.box 0 rfl
        obtain ⟨p5, f5, -, -, -⟩ := EL.out.box 3 rfl
        go_wp2_with fail
        refine (CA1.out _ _ (EL.out.nt 0 rfl) (EL.out.nt 0 rfl) (EL.out.nt 2 rfl)).mono ?_
        rintro e w4 ⟨⟨qa, qk, rfl, hq⟩, hb⟩
        have E7 : Hid (EnvB w [(w1.heap.size + 1, .slice po (len P) pc), (w1.heap.size, .slice ia (len 1) ik), (w.heap.size + 1 + 1, .slice none 0 0), (w.heap.size + 1, .slice bo (len K) cb), (w.heap.size, .slice ao (len N) ca)] [(.slice qa (len Q) qk, digs Q), (.slice po (len P) pc, digs P), (.slice ia (len 1) ik, digs 1), (.slice bo (len K) cb, digs K), (.slice ao (len N) ca, digs N)] _) := Lib.hid (((EL.out.below hb).numN (hq.out : Nt _ _ Q)))
        clear p4 f4 p5 f5 EL hb hq
        obtain ⟨p6, f6, -, -, -⟩ := E7.out.box 0 rfl
        have E8 : Hid (EnvB w [(w1.heap.size + 1, .slice qa (len Q) qk), (w1.heap.size, .slice ia (len 1) ik), (w.heap.size + 1 + 1, .slice none 0 0), (w.heap.size + 1, .slice bo (len K) cb), (w.heap.size, .slice ao (len N) ca)] [(.slice qa (len Q) qk, digs Q), (.slice po (len P) pc, digs P), (.slice ia (len 1) ik, digs 1), (.slice bo (len K) cb, digs K), (.slice ao (len N) ca, digs N)] _) := Lib.hid ((E7.out.set 0 (.slice qa (len Q) qk) rfl ⟨_, _, _, rfl⟩))
        obtain ⟨p7, f7, -, -, -⟩ := E8.out.box 4 rfl
        go_wp2_with fail
        refine (CTt.out _ (E8.out.nt 4 rfl)).mono ?_
        rintro e w5 ⟨rfl, hb⟩
        have E9 : Hid (EnvB w [(w1.heap.size + 1, .slice qa (len Q) qk), (w1.heap.size, .slice ia (len 1) ik), (w.heap.size + 1 + 1, .slice none 0 0), (w.heap.size + 1, .slice bo (len K) cb), (w.heap.size, .slice ao (len N) ca)] [(.slice qa (len Q) qk, digs Q), (.slice po (len P) pc, digs P), (.slice ia (len 1) ik, digs 1), (.slice bo (len K) cb, digs K), (.slice ao (len N) ca, digs N)] _) := Lib.hid ((E8.out.below hb))
        clear p6 f6 p7 f7 E8 E7 hb
        obtain ⟨p8, f8, -, -, -⟩ := E9.out.box 0 rfl
        obtain ⟨p9, f9, -, -, -⟩ := E9.out.box 1 rfl
        obtain ⟨p10, f10, -, -, -⟩ := E9.out.box 3 rfl
        go_wp2_with fail
        refine (CA2.out _ _ _ (E9.out.nt 0 rfl) (E9.out.nt 2 rfl) (E9.out.nt 3 rfl)).mono ?_
        rintro e w6 ⟨⟨sa, sk, rfl, hs⟩, hb⟩
        have E10 : Hid (EnvB w [(w1.heap.size + 1, .slice qa (len Q) qk), (w1.heap.size, .slice ia (len 1) ik), (w.heap.size + 1 + 1, .slice none 0 0), (w.heap.size + 1, .slice bo (len K) cb), (w.heap.size, .slice ao (len N) ca)] [(.slice sa (len R) sk, digs R), (.slice qa (len Q) qk, digs Q), (.slice po (len P) pc, digs P), (.slice ia (len 1) ik, digs 1), (.slice bo (len K) cb, digs K), (.slice ao (len N) ca, digs N)] _) := Lib.hid (((E9.out.below hb).numN (hs.out : Nt _ _ R)))
        clear p8 f8 p9 f9 p10 f10 E9 hb hs
        obtain ⟨p11, f11, -, -, -⟩ := E10.out.box 0 rfl
        have E11 : Hid (EnvB w [(w1.heap.size + 1, .slice sa (len R) sk), (w1.heap.size, .slice ia (len 1) ik), (w.heap.size + 1 + 1, .slice none 0 0), (w.heap.size + 1, .slice bo (len K) cb), (w.heap.size, .slice ao (len N) ca)] [(.slice sa (len R) sk, digs R), (.slice qa (len Q) qk, digs Q), (.slice po (len P) pc, digs P), (.slice ia (len 1) ik, digs 1), (.slice bo (len K) cb, digs K), (.slice ao (len N) ca, digs N)] _) := Lib.hid ((E10.out.set 0 (.slice sa (len R) sk) rfl ⟨_, _, _, rfl⟩))
        have EZ := Lib.hid E11.out
        go_wp2
        go_roundg (j)
        case rel => exact ⟨j, R, sa, sk, rfl, Lib.hid ⟨EZ.out.1, EZ.out.2.1, ⟨EZ.out.sl 0 rfl, ⟨EZ.out.sl 3 rfl, ⟨EZ.out.sl 4 rfl, ⟨EZ.out.sl 5 rfl, trivial⟩⟩⟩⟩⟩, HK2⟩
        case measure => exact HM.out
theorem rMod_n {a b : Value} {N K r : Nat} {w : World} (hr : N % K = r) (h1 : len N ≤ 2000) (h0 : K ≠ 0) (hk : len K ≤ 5000) (ha : Nt w a N) (hb : Nt w b K) :
    Calls Try.prog 34 #[.agg #[a], .agg #[b]] w fun e w' => RetV r e w' ∧ Below w.heap.size w w' := by
  obtain ⟨ao, ca, rfl, _⟩ := ha.open
  obtain ⟨bo, cb, rfl, _⟩ := hb.open
  subst hr
  by_cases h : K = 1
  · rw [h, Nat.mod_one]
    have := rMod1_w ao ca bo cb N K w ha hb h
    rw [h] at this
    exact this
  · exact rMod_w ao ca bo cb N K w ha hb h1 (Nat.lt_of_le_of_ne (Nat.pos_of_ne_zero h0) (Ne.symm h)) hk

def GcdR (N M k X Y : Nat) : Prop := k = Y ∧ Nat.gcd X Y = Nat.gcd N M ∧ len X ≤ 2000 ∧ len Y ≤ 2000

set_option maxRecDepth 100000 in
set_option maxHeartbeats 1000000 in
theorem rGcd_w (ao : Option Addr) (ca : Nat) (bo : Option Addr) (cb : Nat) (N M : Nat)  (w : World) (ha : Nt w (.slice ao (len N) ca) N) (hb : Nt w (.slice bo (len M) cb) M) (h1 : len N ≤ 2000) (h2 : len M ≤ 2000) :
    Calls Try.prog 19 #[.agg #[.slice ao (len N) ca], .agg #[.slice bo (len M) cb]] w fun e w' => RetV (Nat.gcd N M) e w' ∧ Below w.heap.size w w' := by
  have H0 : Hid (GcdR N M M N M) := Lib.hid ⟨rfl, rfl, h1, h2⟩
  clear h1 h2
  have E0 : Hid (EnvB w [] [(.slice bo (len M) cb, digs M), (.slice ao (len N) ca, digs N)] w) := Lib.hid (((EnvB.start w).numN ha).numN hb)
  clear ha hb
  go_enter Try.func19, Try.ntmps19
  go_wp2_with fail
  have E1 : Hid (EnvB w [(w.heap.size + 1 + 1, .slice none 0 0), (w.heap.size + 1, .slice bo (len M) cb), (w.heap.size, .slice ao (len N) ca)] [(.slice bo (len M) cb, digs M), (.slice ao (len N) ca, digs N)] _) := Lib.hid ((((E0.out.push (.slice ao (len N) ca) 24 ⟨_, _, _, rfl⟩ (w.heap.size) (by simp)).push (.slice bo (len M) cb) 24 ⟨_, _, _, rfl⟩ (w.heap.size + 1) (by simp)).push (.slice none 0 0) 24 ⟨_, _, _, rfl⟩ (w.heap.size + 1 + 1) (by simp)))
  go_loopg [] (M) (fun gk  wr => ∃ (X Y : Nat) (xo yo : Option Addr) (xc yc : Nat), Hid (EnvB w [(w.heap.size + 1 + 1, .slice none 0 0), (w.heap.size + 1, .slice yo (len Y) yc), (w.heap.size, .slice xo (len X) xc)] [(.slice yo (len Y) yc, digs Y), (.slice xo (len X) xc, digs X)] wr) ∧ Hid (GcdR N M gk X Y))
  case atStart => exact ⟨N, M, ao, bo, ca, cb, Lib.hid ⟨E1.out.1, E1.out.2.1, ⟨E1.out.sl 0 rfl, ⟨E1.out.sl 1 rfl, trivial⟩⟩⟩, H0⟩
  case round =>
    clear E1 E0 H0
    obtain ⟨X, Y, xo, yo, xc, yc, EL, HA⟩ := hrel
    obtain ⟨a1, a2, a3, a4⟩ := HA.out
    clear HA
    by_cases hy : Y = 0
    · have t1 : len Y = 0 := len_eq_zero.2 hy
      have HG : Hid (X = Nat.gcd N M) := Lib.hid (by rw [← a2, hy, Nat.gcd_zero_right])
      have t2 : decide (0 < (len Y : Int)) = false := decide_eq_false (by omega)
      have t3 : decide (0 < len Y) = false := decide_eq_false (by omega)
      clear a1 a2 a3 a4 hy t1
      obtain ⟨p1, f1, -, -, -⟩ := EL.out.box 1 rfl
      obtain ⟨p2, f2, -, -, -⟩ := EL.out.box 2 rfl
      obtain ⟨p3, f3, -, -, -⟩ := EL.out.box 0 rfl
      have E2 : Hid (EnvB w [(w.heap.size + 1 + 1, .slice xo (len X) xc), (w.heap.size + 1, .slice yo (len Y) yc), (w.heap.size, .slice xo (len X) xc)] [(.slice yo (len Y) yc, digs Y), (.slice xo (len X) xc, digs X)] _) := Lib.hid ((EL.out.set 0 (.slice xo (len X) xc) rfl ⟨_, _, _, rfl⟩))
      have hfin := Lib.hid E2.out
      obtain ⟨rc, -, -, -, -⟩ := E2.out.box 0 rfl
      go_wp2
      exact bodyPost_ret (v := .agg #[.slice xo (len X) xc]) (by simp [results, Try.results19, go_sem, rc]) rfl ⟨HG.out ▸ ⟨_, _, rfl, Lib.hid (hfin.out.nt 1 rfl)⟩, hfin.out.1⟩
    · have t1 : len Y ≠ 0 := fun e => hy (len_eq_zero.1 e)
      have CR := Lib.hid (fun (u v : Value) W ha hb => @rMod_n u v X Y (X % Y) W rfl a3 hy (by omega) ha hb)
      have hlt := Nat.mod_lt X (Nat.pos_of_ne_zero hy)
      have HK : Hid (GcdR N M (X % Y) Y (X % Y)) := Lib.hid ⟨rfl, by rw [← gcd_step]; exact a2, a4, len_le_of_lt hlt a4⟩
      have HM : Hid (X % Y < gk) := Lib.hid (by rw [a1]; exact hlt)
      have t2 : decide (0 < (len Y : Int)) = true := decide_eq_true (by omega)
      have t3 : decide (0 < len Y) = true := decide_eq_true (by omega)
      clear a1 a2 a3 a4 hy t1 hlt
      generalize X % Y = R at *
      obtain ⟨p1, f1, -, -, -⟩ := EL.out.box 1 rfl
      go_wp2_with fail
      have bx0 := Lib.hid (EL.out.box 1 rfl)
      have bx1 := Lib.hid (EL.out.box 2 rfl)
      clear p1 f1
      refine' wp_region_phase (by kernel_rfl) [0, 1, 2, 3] (by kernel_rfl) #[true, true, true, true, false, false] (by kernel_rfl) 2 (by kernel_rfl) [PEq (.agg #[.slice yo (len Y) yc]), PEq (.agg #[.slice xo (len X) xc]), PEq (.agg #[.slice yo (len Y) yc]), PNum (R), Fact.none, Fact.none] (List.forall_mem_cons.2 ⟨PEq.st _, List.forall_mem_cons.2 ⟨PEq.st _, List.forall_mem_cons.2 ⟨PEq.st _, List.forall_mem_cons.2 ⟨PNum.st _, List.forall_mem_cons.2 ⟨Fact.none_st, List.forall_mem_cons.2 ⟨Fact.none_st, List.forall_mem_nil _⟩⟩⟩⟩⟩⟩) _ ?hFr0 ?stepr0 ?doner0
      case hFr0 => intro x; simp only [frameL, Act.put, List.setIfInBounds_toArray, List.set_cons_zero, List.set_cons_succ, Nat.zero_add, Nat.reduceAdd]; exact rfl
      case stepr0 =>
        refine List.forall_mem_cons.2 ⟨?_, ?_⟩
        · intro xv bv ev WW hB hdp
          refine op_of rfl ?_
          clear hdp
          intro KK hKK
          obtain ⟨z, -, -, -, -⟩ := bx0.out.below hB
          go_simp
          exact act_eq (hKK.out (.agg #[.slice yo (len Y) yc]) _ (Below.refl _ _) rfl) (by first | rfl | simp [upd])
        refine List.forall_mem_cons.2 ⟨?_, ?_⟩
        · intro xv bv ev WW hB hdp
          refine op_of rfl ?_
          clear hdp
          intro KK hKK
          obtain ⟨z, -, -, -, -⟩ := bx1.out.below hB
          go_simp
          exact act_eq (hKK.out (.agg #[.slice xo (len X) xc]) _ (Below.refl _ _) rfl) (by first | rfl | simp [upd])
        refine List.forall_mem_cons.2 ⟨?_, ?_⟩
        · intro xv bv ev WW hB hdp
          refine op_of rfl ?_
          clear hdp
          intro KK hKK
          obtain ⟨z, -, -, -, -⟩ := bx0.out.below hB
          go_simp
          exact act_eq (hKK.out (.agg #[.slice yo (len Y) yc]) _ (Below.refl _ _) rfl) (by first | rfl | simp [upd])
        refine List.forall_mem_cons.2 ⟨?_, ?_⟩
        · intro xv bv ev WW hB hdp
          refine op_of rfl ?_
          have ed1 : xv 1 = .agg #[.slice xo (len X) xc] := hdp 1 (by kernel_rfl)
          have ed2 : xv 2 = .agg #[.slice yo (len Y) yc] := hdp 2 (by kernel_rfl)
          clear hdp
          intro KK hKK
          go_simp
          refine (CR.out _ _ _ ((EL.out.below hB).nt 1 rfl) ((EL.out.below hB).nt 0 rfl)).mono ?_
          rintro e WW' ⟨⟨ra, rk, rfl, hr⟩, hb⟩
          (try dsimp only)
          (try simp only [Act.put, List.setIfInBounds_toArray, List.set_cons_zero, List.set_cons_succ])
          exact act_eq (hKK.out _ _ hb ⟨_, _, rfl, hr⟩) (by first | rfl | simp [upd, ed1, ed2])
        exact List.forall_mem_nil _
      intro xv bv ev w1 hB hR hO
      have ed0 : xv 0 = .agg #[.slice yo (len Y) yc] := hR 0 (by kernel_rfl)
      have ed1 : xv 1 = .agg #[.slice xo (len X) xc] := hR 1 (by kernel_rfl)
      have ed2 : xv 2 = .agg #[.slice yo (len Y) yc] := hR 2 (by kernel_rfl)
      obtain ⟨ra, rk, ed3, hr⟩ := (show (PNum (R)) (xv 3) (bv 3) (ev 3) w1 from hR 3 (by kernel_rfl))
      simp only [ed0, ed1, ed2, ed3]
      have E2 : Hid (EnvB w [(w.heap.size + 1 + 1, .slice none 0 0), (w.heap.size + 1, .slice yo (len Y) yc), (w.heap.size, .slice xo (len X) xc)] [(.slice ra (len R) rk, digs R), (.slice yo (len Y) yc, digs Y), (.slice xo (len X) xc, digs X)] _) := Lib.hid (((EL.out.below hB).numN (hr.out : Nt _ _ (R))))
      clear EL hB hR hO bx0 bx1 ed0 ed1 ed2 ed3 hr
      obtain ⟨p2, f2, -, -, -⟩ := E2.out.box 2 rfl
      refine wpAny_next (i := 4) (by kernel_rfl) rfl (fun KK hKK => ?_)
      go_simp
      have E3 : Hid (EnvB w [(w.heap.size + 1 + 1, .slice none 0 0), (w.heap.size + 1, .slice yo (len Y) yc), (w.heap.size, .slice yo (len Y) yc)] [(.slice ra (len R) rk, digs R), (.slice yo (len Y) yc, digs Y), (.slice xo (len X) xc, digs X)] _) := Lib.hid ((E2.out.set 2 (.slice yo (len Y) yc) rfl ⟨_, _, _, rfl⟩))
      refine hKK.out _ _ ?_
      clear hKK KK
      obtain ⟨p3, f3, -, -, -⟩ := E3.out.box 1 rfl
      refine wpAny_next (i := 5) (by kernel_rfl) rfl (fun KK hKK => ?_)
      go_simp
      have E4 : Hid (EnvB w [(w.heap.size + 1 + 1, .slice none 0 0), (w.heap.size + 1, .slice ra (len R) rk), (w.heap.size, .slice yo (len Y) yc)] [(.slice ra (len R) rk, digs R), (.slice yo (len Y) yc, digs Y), (.slice xo (len X) xc, digs X)] _) := Lib.hid ((E3.out.set 1 (.slice ra (len R) rk) rfl ⟨_, _, _, rfl⟩))
      refine hKK.out _ _ ?_
      clear hKK KK
      refine wpAny_done (by kernel_rfl) ?_ _
      have E5 : Hid (EnvB w [(w.heap.size + 1 + 1, .slice none 0 0), (w.heap.size + 1, .slice ra (len R) rk), (w.heap.size, .slice yo (len Y) yc)] [(.slice ra (len R) rk, digs R), (.slice yo (len Y) yc, digs Y), (.slice xo (len X) xc, digs X)] _) := Lib.hid (E4.out)
      have EZ := Lib.hid E5.out
      go_wp2
      go_roundg (R)
      case rel => exact ⟨Y, R, yo, ra, yc, rk, Lib.hid ⟨EZ.out.1, EZ.out.2.1, ⟨EZ.out.sl 0 rfl, ⟨EZ.out.sl 1 rfl, trivial⟩⟩⟩, HK⟩
      case measure => exact HM.out
theorem rGcd_c {a b : Value} {N M r : Nat} {w : World} (hr : Nat.gcd N M = r) (h1 : len N ≤ 2000) (h2 : len M ≤ 2000) (ha : Nt w a N) (hb : Nt w b M) :
    Calls Try.prog 19 #[.agg #[a], .agg #[b]] w fun e w' => RetV r e w' ∧ Below w.heap.size w w' := by
  obtain ⟨ao, ca, rfl, _⟩ := ha.open
  obtain ⟨bo, cb, rfl, _⟩ := hb.open
  subst hr
  exact rGcd_w ao ca bo cb N M w ha hb h1 h2

set_option maxRecDepth 100000 in
set_option maxHeartbeats 1000000 in
theorem rPow_w (ao : Option Addr) (ca : Nat) (bo : Option Addr) (cb : Nat) (co : Option Addr) (cc : Nat) (N E K : Nat)  (w : World) (ha : Nt w (.slice ao (len N) ca) N) (hb : Nt w (.slice bo (len E) cb) E) (hc : Nt w (.slice co (len K) cc) K) (he : len E ≤ 1000) (hn : N < K) (hk : len K ≤ 1000) :
    Calls Try.prog 38 #[.agg #[.slice ao (len N) ca], .agg #[.slice bo (len E) cb], .agg #[.slice co (len K) cc]] w fun e w' => RetV (N ^ E % K) e w' ∧ Below w.heap.size w w' := by
  have hK0 : K ≠ 0 := by omega
  have CR := Lib.hid (fun (u : Value) W ha hb => @rMod_n u (.slice co (len K) cc) 1 K (1 % K) W rfl (by rw [len_one]; omega) hK0 (by omega) ha hb)
  have CB := Lib.hid (fun W ha => rBits_c (.slice bo (len E) cb) E W ha (by omega))
  have CT := Lib.hid (fun (j : Nat) W (hj : (j : Int) ≤ 9223372036854775807) ha => rBit_c (.slice bo (len E) cb) E j W ha hj)
  have CM := Lib.hid (fun (u v : Value) (X Y : Nat) W hx hy ha hb hc => @rMul_c u v (.slice co (len K) cc) X Y K (X * Y % K) W rfl hx (len_le_of_lt hy hk) (by omega) ha hb hc)
  have hbe : bl E ≤ 32000 := by have := (len_le_bits (n := E) (k := 1000)).2 he; omega
  have HS : Hid (BitI (fun k => N ^ (E / 2 ^ k) % K) (bl E) (bl E) (1 % K) (bl E)) := Lib.hid (BitI.start (powm_start N E K))
  have HNK : Hid (N < K) := Lib.hid hn
  have HBE : Hid (bl E ≤ 32000) := Lib.hid hbe
  clear he hn hk hK0 hbe
  have E0 : Hid (EnvB w [] [(.slice co (len K) cc, digs K), (.slice bo (len E) cb, digs E), (.slice ao (len N) ca, digs N)] w) := Lib.hid ((((EnvB.start w).numN ha).numN hb).numN hc)
  clear ha hb hc
  go_enter Try.func38, Try.ntmps38
  go_wp2_with fail
  have E1 : Hid (EnvB w [(w.heap.size + 1 + 1 + 1, .slice none 0 0), (w.heap.size + 1 + 1, .slice co (len K) cc), (w.heap.size + 1, .slice bo (len E) cb), (w.heap.size, .slice ao (len N) ca)] [(.slice co (len K) cc, digs K), (.slice bo (len E) cb, digs E), (.slice ao (len N) ca, digs N)] ((((w.alloc (.cells #[.slice ao (len N) ca] 24)).alloc (.cells #[.slice bo (len E) cb] 24)).alloc (.cells #[.slice co (len K) cc] 24)).alloc (.cells #[.slice none 0 0] 24))) := Lib.hid (((((E0.out.push (.slice ao (len N) ca) 24 ⟨_, _, _, rfl⟩ (w.heap.size) (by simp)).push (.slice bo (len E) cb) 24 ⟨_, _, _, rfl⟩ (w.heap.size + 1) (by simp)).push (.slice co (len K) cc) 24 ⟨_, _, _, rfl⟩ (w.heap.size + 1 + 1) (by simp)).push (.slice none 0 0) 24 ⟨_, _, _, rfl⟩ (w.heap.size + 1 + 1 + 1) (by simp)))
  clear E0
  generalize (((w.alloc (.cells #[.slice ao (len N) ca] 24)).alloc (.cells #[.slice bo (len E) cb] 24)).alloc (.cells #[.slice co (len K) cc] 24)).alloc (.cells #[.slice none 0 0] 24) = w1 at *
  have bx0 := Lib.hid (E1.out.box 1 rfl)
  refine' wp_region_phase (by kernel_rfl) [0, 1, 2, 3] (by kernel_rfl) #[true, true, true, true, false] (by kernel_rfl) 1 (by kernel_rfl) [PNum (1), PEq (.agg #[.slice co (len K) cc]), PNum ((1 % K)), PBox w1.heap.size, Fact.none] (List.forall_mem_cons.2 ⟨PNum.st _, List.forall_mem_cons.2 ⟨PEq.st _, List.forall_mem_cons.2 ⟨PNum.st _, List.forall_mem_cons.2 ⟨PBox.st _, List.forall_mem_cons.2 ⟨Fact.none_st, List.forall_mem_nil _⟩⟩⟩⟩⟩) _ ?hFr1 ?stepr1 ?doner1
  case hFr1 => intro x; simp only [frameL, Act.put, List.setIfInBounds_toArray, List.set_cons_zero, List.set_cons_succ, Nat.zero_add, Nat.reduceAdd]; exact rfl
  case stepr1 =>
    refine List.forall_mem_cons.2 ⟨?_, ?_⟩
    · intro xv bv ev WW hB hdp
      refine op_of rfl ?_
      clear hdp
      intro KK hKK
      go_simp
      refine (rOf_c 1 _ (by decide)).mono ?_
      rintro e WW' ⟨⟨ia, ik, rfl, hi⟩, hb⟩
      (try dsimp only)
      (try simp only [Act.put, List.setIfInBounds_toArray, List.set_cons_zero, List.set_cons_succ])
      exact act_eq (hKK.out _ _ hb ⟨_, _, rfl, hi⟩) (by first | rfl | simp [upd])
    refine List.forall_mem_cons.2 ⟨?_, ?_⟩
    · intro xv bv ev WW hB hdp
      refine op_of rfl ?_
      clear hdp
      intro KK hKK
      obtain ⟨z, -, -, -, -⟩ := bx0.out.below hB
      go_simp
      exact act_eq (hKK.out (.agg #[.slice co (len K) cc]) _ (Below.refl _ _) rfl) (by first | rfl | simp [upd])
    refine List.forall_mem_cons.2 ⟨?_, ?_⟩
    · intro xv bv ev WW hB hdp
      refine op_of rfl ?_
      obtain ⟨ia, ik, ed0, hi⟩ := (show (PNum (1)) (xv 0) (bv 0) (ev 0) WW from hdp 0 (by kernel_rfl))
      have ed1 : xv 1 = .agg #[.slice co (len K) cc] := hdp 1 (by kernel_rfl)
      clear hdp
      intro KK hKK
      go_simp
      refine (CR.out _ _ hi.out ((E1.out.below hB).nt 0 rfl)).mono ?_
      rintro e WW' ⟨⟨za, zk, rfl, hz⟩, hb⟩
      (try dsimp only)
      (try simp only [Act.put, List.setIfInBounds_toArray, List.set_cons_zero, List.set_cons_succ])
      exact act_eq (hKK.out _ _ hb ⟨_, _, rfl, hz⟩) (by first | rfl | simp [upd, ed0, ed1])
    refine List.forall_mem_cons.2 ⟨?_, ?_⟩
    · intro xv bv ev WW hB hdp
      refine op_of rfl ?_
      clear hdp
      intro KK hKK
      go_simp
      exact act_eq (hKK.out (.pointer (some ⟨WW.heap.size, 0, none⟩)) _ (below_one _ _) (PBox.mk hB rfl _)) (by first | rfl | simp [upd])
    exact List.forall_mem_nil _
  intro xv bv ev w2 hB hR hO
  obtain ⟨ia, ik, ed0, hi⟩ := (show (PNum (1)) (xv 0) (bv 0) (ev 0) w2 from hR 0 (by kernel_rfl))
  have ed1 : xv 1 = .agg #[.slice co (len K) cc] := hR 1 (by kernel_rfl)
  obtain ⟨za, zk, ed2, hz⟩ := (show (PNum ((1 % K))) (xv 2) (bv 2) (ev 2) w2 from hR 2 (by kernel_rfl))
  obtain ⟨gr1_3, ed3, hg3, hb3, he3, hc3, hf3, hs3⟩ := (show (PBox w1.heap.size) (xv 3) (bv 3) (ev 3) w2 from hR 3 (by kernel_rfl))
  simp only [ed0, ed1, ed2, ed3]
  have E2 : Hid (EnvB w [(gr1_3, .slice none 0 0), (w.heap.size + 1 + 1 + 1, .slice none 0 0), (w.heap.size + 1 + 1, .slice co (len K) cc), (w.heap.size + 1, .slice bo (len E) cb), (w.heap.size, .slice ao (len N) ca)] [(.slice za (len (1 % K)) zk, digs (1 % K)), (.slice ia (len 1) ik, digs 1), (.slice co (len K) cc, digs K), (.slice bo (len E) cb, digs E), (.slice ao (len N) ca, digs N)] _) := Lib.hid (((((E1.out.below hB).add gr1_3 (.slice none 0 0) ⟨hc3, hf3, hs3, Nat.le_trans E1.out.size hg3, ⟨_, _, _, rfl⟩⟩ (fun p hp => by have := E1.out.old p hp; omega)).numN (hi.out : Nt _ _ (1))).numN (hz.out : Nt _ _ ((1 % K)))))
  clear E1 hB hR hO bx0 ed0 ed1 ed2 ed3 hi hz hg3 hb3 he3 hc3 hf3 hs3
  obtain ⟨p1, f1, -, -, -⟩ := E2.out.box 0 rfl
  refine wpAny_next (i := 4) (by kernel_rfl) rfl (fun KK hKK => ?_)
  go_simp
  have E3 : Hid (EnvB w [(gr1_3, .slice za (len (1 % K)) zk), (w.heap.size + 1 + 1 + 1, .slice none 0 0), (w.heap.size + 1 + 1, .slice co (len K) cc), (w.heap.size + 1, .slice bo (len E) cb), (w.heap.size, .slice ao (len N) ca)] [(.slice za (len (1 % K)) zk, digs (1 % K)), (.slice ia (len 1) ik, digs 1), (.slice co (len K) cc, digs K), (.slice bo (len E) cb, digs E), (.slice ao (len N) ca, digs N)] _) := Lib.hid ((E2.out.set 0 (.slice za (len (1 % K)) zk) rfl ⟨_, _, _, rfl⟩))
  refine hKK.out _ _ ?_
  clear hKK KK
  refine wpAny_done (by kernel_rfl) ?_ _
  generalize hbl : bl E = n at CB
  have HBL := Lib.hid hbl
  clear hbl
  have hn48 : (n : Int) ≤ 1000000 := by have h1 := HBE.out; rw [HBL.out] at h1; omega
  have hn0 : 0 ≤ (n : Int) := by omega
  obtain ⟨p2, f2, -, -, -⟩ := E3.out.box 3 rfl
  go_wp2_with fail
  refine (CB.out _ (E3.out.nt 3 rfl)).mono ?_
  rintro e w3 ⟨rfl, hb⟩
  have E4 : Hid (EnvB w [(gr1_3, .slice za (len (1 % K)) zk), (w.heap.size + 1 + 1 + 1, .slice none 0 0), (w.heap.size + 1 + 1, .slice co (len K) cc), (w.heap.size + 1, .slice bo (len E) cb), (w.heap.size, .slice ao (len N) ca)] [(.slice za (len (1 % K)) zk, digs (1 % K)), (.slice ia (len 1) ik, digs 1), (.slice co (len K) cc, digs K), (.slice bo (len E) cb, digs E), (.slice ao (len N) ca, digs N)] _) := Lib.hid ((E3.out.below hb))
  clear p1 f1 p2 f2 E3 E2 hb
  go_wp2_with fail
  go_loopg [8] (n) (fun gk s8 wr => ∃ (k P : Nat) (po : Option Addr) (pc : Nat), s8 = .int .i64 ((k : Int) - 1) ∧ Hid (EnvB w [(gr1_3, .slice po (len P) pc), (w.heap.size + 1 + 1 + 1, .slice none 0 0), (w.heap.size + 1 + 1, .slice co (len K) cc), (w.heap.size + 1, .slice bo (len E) cb), (w.heap.size, .slice ao (len N) ca)] [(.slice po (len P) pc, digs P), (.slice co (len K) cc, digs K), (.slice bo (len E) cb, digs E), (.slice ao (len N) ca, digs N)] wr) ∧ Hid (BitI (fun k => N ^ (E / 2 ^ k) % K) n k P gk))
  case atStart => exact ⟨n, 1 % K, za, zk, rfl, Lib.hid ⟨E4.out.1, E4.out.2.1, ⟨E4.out.sl 0 rfl, ⟨E4.out.sl 2 rfl, ⟨E4.out.sl 3 rfl, ⟨E4.out.sl 4 rfl, trivial⟩⟩⟩⟩⟩, Lib.hid (HBL.out ▸ HS.out)⟩
  case round =>
    clear E4 HS CB CR
    obtain ⟨k, P, po, pc, rfl, EL, HA⟩ := hrel
    obtain ⟨a1, a2, a3⟩ := HA.out
    clear HA
    by_cases hy : k = 0
    · have t1 : decide (0 ≤ (k : Int) - 1) = false := decide_eq_false (by omega)
      have t2 : decide (1 ≤ (k : Int)) = false := decide_eq_false (by omega)
      have HP : Hid (P = N ^ E % K) := Lib.hid (by rw [a3, hy]; simp)
      clear a1 a2 a3 hy HBE HNK CM CT
      obtain ⟨p3, f3, -, -, -⟩ := EL.out.box 0 rfl
      obtain ⟨p4, f4, -, -, -⟩ := EL.out.box 1 rfl
      have E5 : Hid (EnvB w [(gr1_3, .slice po (len P) pc), (w.heap.size + 1 + 1 + 1, .slice po (len P) pc), (w.heap.size + 1 + 1, .slice co (len K) cc), (w.heap.size + 1, .slice bo (len E) cb), (w.heap.size, .slice ao (len N) ca)] [(.slice po (len P) pc, digs P), (.slice co (len K) cc, digs K), (.slice bo (len E) cb, digs E), (.slice ao (len N) ca, digs N)] _) := Lib.hid ((EL.out.set 1 (.slice po (len P) pc) rfl ⟨_, _, _, rfl⟩))
      have hfin := Lib.hid E5.out
      obtain ⟨rc, -, -, -, -⟩ := E5.out.box 1 rfl
      go_wp2
      exact bodyPost_ret (v := .agg #[.slice po (len P) pc]) (by simp [results, Try.results38, go_sem, rc]) rfl ⟨HP.out ▸ ⟨_, _, rfl, Lib.hid (hfin.out.nt 0 rfl)⟩, hfin.out.1⟩
    · obtain ⟨j, rfl⟩ : ∃ j, k = j + 1 := ⟨k - 1, by omega⟩
      have ej : (((j + 1 : Nat) : Int) - 1) = (j : Int) := by omega
      rw [ej]
      have hj : (j : Int) ≤ 9223372036854775807 := by omega
      have t1 : decide (0 ≤ (j : Int)) = true := decide_eq_true (by omega)
      have HM : Hid (j < gk) := Lib.hid (by omega)
      have HJ : Hid (j ≤ n) := Lib.hid (by omega)
      have CTj := Lib.hid (fun W ha => CT.out j W hj ha)
      have hPK : P < K := by rw [a3]; exact Nat.mod_lt _ (by have := HNK.out; omega)
      have hQK : P * P % K < K := Nat.mod_lt _ (by omega)
      have CM1 := Lib.hid (fun (u : Value) W ha hb hc => CM.out u u P P W hPK hPK ha hb hc)
      have CM2 := Lib.hid (fun (u v : Value) W ha hb hc => CM.out u v (P * P % K) N W hQK HNK.out ha hb hc)
      have hst := powm_step N E K j
      have hP3 : P = _ := a3
      dsimp only at hP3
      rw [← hP3] at hst
      cases ht : bt E j
      · rw [ht] at hst
        simp only [Bool.false_eq_true, if_false] at hst
        have HK2 : Hid (BitI (fun k => N ^ (E / 2 ^ k) % K) n j (P * P % K) j) := Lib.hid ⟨rfl, HJ.out, hst⟩
        have CTt : Hid (∀ W, Nt W (.slice bo (len E) cb) E → Calls Try.prog 72 #[.agg #[.slice bo (len E) cb], .int .i64 (j : Int)] W fun e w' => e = .returned (.bool false) ∧ Below W.heap.size W w') := Lib.hid (by rw [← ht]; exact CTj.out)
        clear a1 a2 a3 hy ej hP3 hst CM CT CTj HNK HBE HJ ht hPK hQK
        generalize P * P % K = Q at *
        obtain ⟨p3, f3, -, -, -⟩ := EL.out.box 0 rfl
        obtain ⟨p4, f4, -, -, -⟩ := EL.out.box 2 rfl
        go_wp2_with fail
        refine (CM1.out _ _ (EL.out.nt 0 rfl) (EL.out.nt 0 rfl) (EL.out.nt 1 rfl)).mono ?_
        rintro e w4 ⟨⟨qa, qk, rfl, hq⟩, hb⟩
        have E5 : Hid (EnvB w [(gr1_3, .slice po (len P) pc), (w.heap.size + 1 + 1 + 1, .slice none 0 0), (w.heap.size + 1 + 1, .slice co (len K) cc), (w.heap.size + 1, .slice bo (len E) cb), (w.heap.size, .slice ao (len N) ca)] [(.slice qa (len Q) qk, digs Q), (.slice po (len P) pc, digs P), (.slice co (len K) cc, digs K), (.slice bo (len E) cb, digs E), (.slice ao (len N) ca, digs N)] _) := Lib.hid (((EL.out.below hb).numN (hq.out : Nt _ _ Q)))
        clear p3 f3 p4 f4 EL hb hq
        obtain ⟨p5, f5, -, -, -⟩ := E5.out.box 0 rfl
        have E6 : Hid (EnvB w [(gr1_3, .slice qa (len Q) qk), (w.heap.size + 1 + 1 + 1, .slice none 0 0), (w.heap.size + 1 + 1, .slice co (len K) cc), (w.heap.size + 1, .slice bo (len E) cb), (w.heap.size, .slice ao (len N) ca)] [(.slice qa (len Q) qk, digs Q), (.slice po (len P) pc, digs P), (.slice co (len K) cc, digs K), (.slice bo (len E) cb, digs E), (.slice ao (len N) ca, digs N)] _) := Lib.hid ((E5.out.set 0 (.slice qa (len Q) qk) rfl ⟨_, _, _, rfl⟩))
        obtain ⟨p6, f6, -, -, -⟩ := E6.out.box 3 rfl
        go_wp2_with fail
        refine (CTt.out _ (E6.out.nt 3 rfl)).mono ?_
        rintro e w5 ⟨rfl, hb⟩
        have E7 : Hid (EnvB w [(gr1_3, .slice qa (len Q) qk), (w.heap.size + 1 + 1 + 1, .slice none 0 0), (w.heap.size + 1 + 1, .slice co (len K) cc), (w.heap.size + 1, .slice bo (len E) cb), (w.heap.size, .slice ao (len N) ca)] [(.slice qa (len Q) qk, digs Q), (.slice po (len P) pc, digs P), (.slice co (len K) cc, digs K), (.slice bo (len E) cb, digs E), (.slice ao (len N) ca, digs N)] _) := Lib.hid ((E6.out.below hb))
        clear p5 f5 p6 f6 E6 E5 hb
        have EZ := Lib.hid E7.out
        go_wp2
        go_roundg (j)
        case rel => exact ⟨j, Q, qa, qk, rfl, Lib.hid ⟨EZ.out.1, EZ.out.2.1, ⟨EZ.out.sl 0 rfl, ⟨EZ.out.sl 2 rfl, ⟨EZ.out.sl 3 rfl, ⟨EZ.out.sl 4 rfl, trivial⟩⟩⟩⟩⟩, HK2⟩
        case measure => exact HM.out
      · rw [ht] at hst
        simp only [if_true] at hst
        have HK2 : Hid (BitI (fun k => N ^ (E / 2 ^ k) % K) n j (P * P % K * N % K) j) := Lib.hid ⟨rfl, HJ.out, hst⟩
        have CTt : Hid (∀ W, Nt W (.slice bo (len E) cb) E → Calls Try.prog 72 #[.agg #[.slice bo (len E) cb], .int .i64 (j : Int)] W fun e w' => e = .returned (.bool true) ∧ Below W.heap.size W w') := Lib.hid (by rw [← ht]; exact CTj.out)
        clear a1 a2 a3 hy ej hP3 hst CM CT CTj HNK HBE HJ ht hPK hQK
        generalize P * P % K * N % K = R at *
        generalize P * P % K = Q at *
        obtain ⟨p3, f3, -, -, -⟩ := EL.out.box 0 rfl
        obtain ⟨p4, f4, -, -, -⟩ := EL.out.box 2 rfl
        go_wp2_with fail
        refine (CM1.out _ _ (EL.out.nt 0 rfl) (EL.out.nt 0 rfl) (EL.out.nt 1 rfl)).mono ?_
        rintro e w4 ⟨⟨qa, qk, rfl, hq⟩, hb⟩
        have E5 : Hid (EnvB w [(gr1_3, .slice po (len P) pc), (w.heap.size + 1 + 1 + 1, .slice none 0 0), (w.heap.size + 1 + 1, .slice co (len K) cc), (w.heap.size + 1, .slice bo (len E) cb), (w.heap.size, .slice ao (len N) ca)] [(.slice qa (len Q) qk, digs Q), (.slice po (len P) pc, digs P), (.slice co (len K) cc, digs K), (.slice bo (len E) cb, digs E), (.slice ao (len N) ca, digs N)] _) := Lib.hid (((EL.out.below hb).numN (hq.out : Nt _ _ Q)))
        clear p3 f3 p4 f4 EL hb hq
        obtain ⟨p5, f5, -, -, -⟩ := E5.out.box 0 rfl
        have E6 : Hid (EnvB w [(gr1_3, .slice qa (len Q) qk), (w.heap.size + 1 + 1 + 1, .slice none 0 0), (w.heap.size + 1 + 1, .slice co (len K) cc), (w.heap.size + 1, .slice bo (len E) cb), (w.heap.size, .slice ao (len N) ca)] [(.slice qa (len Q) qk, digs Q), (.slice po (len P) pc, digs P), (.slice co (len K) cc, digs K), (.slice bo (len E) cb, digs E), (.slice ao (len N) ca, digs N)] _) := Lib.hid ((E5.out.set 0 (.slice qa (len Q) qk) rfl ⟨_, _, _, rfl⟩))
        obtain ⟨p6, f6, -, -, -⟩ := E6.out.box 3 rfl
        go_wp2_with fail
        refine (CTt.out _ (E6.out.nt 3 rfl)).mono ?_
        rintro e w5 ⟨rfl, hb⟩
        have E7 : Hid (EnvB w [(gr1_3, .slice qa (len Q) qk), (w.heap.size + 1 + 1 + 1, .slice none 0 0), (w.heap.size + 1 + 1, .slice co (len K) cc), (w.heap.size + 1, .slice bo (len E) cb), (w.heap.size, .slice ao (len N) ca)] [(.slice qa (len Q) qk, digs Q), (.slice po (len P) pc, digs P), (.slice co (len K) cc, digs K), (.slice bo (len E) cb, digs E), (.slice ao (len N) ca, digs N)] _) := Lib.hid ((E6.out.below hb))
        clear p5 f5 p6 f6 E6 E5 hb
        obtain ⟨p7, f7, -, -, -⟩ := E7.out.box 0 rfl
        obtain ⟨p8, f8, -, -, -⟩ := E7.out.box 4 rfl
        obtain ⟨p9, f9, -, -, -⟩ := E7.out.box 2 rfl
        go_wp2_with fail
        refine (CM2.out _ _ _ (E7.out.nt 0 rfl) (E7.out.nt 4 rfl) (E7.out.nt 2 rfl)).mono ?_
        rintro e w6 ⟨⟨sa, sk, rfl, hs⟩, hb⟩
        have E8 : Hid (EnvB w [(gr1_3, .slice qa (len Q) qk), (w.heap.size + 1 + 1 + 1, .slice none 0 0), (w.heap.size + 1 + 1, .slice co (len K) cc), (w.heap.size + 1, .slice bo (len E) cb), (w.heap.size, .slice ao (len N) ca)] [(.slice sa (len R) sk, digs R), (.slice qa (len Q) qk, digs Q), (.slice po (len P) pc, digs P), (.slice co (len K) cc, digs K), (.slice bo (len E) cb, digs E), (.slice ao (len N) ca, digs N)] _) := Lib.hid (((E7.out.below hb).numN (hs.out : Nt _ _ R)))
        clear p7 f7 p8 f8 p9 f9 E7 hb hs
        obtain ⟨p10, f10, -, -, -⟩ := E8.out.box 0 rfl
        have E9 : Hid (EnvB w [(gr1_3, .slice sa (len R) sk), (w.heap.size + 1 + 1 + 1, .slice none 0 0), (w.heap.size + 1 + 1, .slice co (len K) cc), (w.heap.size + 1, .slice bo (len E) cb), (w.heap.size, .slice ao (len N) ca)] [(.slice sa (len R) sk, digs R), (.slice qa (len Q) qk, digs Q), (.slice po (len P) pc, digs P), (.slice co (len K) cc, digs K), (.slice bo (len E) cb, digs E), (.slice ao (len N) ca, digs N)] _) := Lib.hid ((E8.out.set 0 (.slice sa (len R) sk) rfl ⟨_, _, _, rfl⟩))
        have EZ := Lib.hid E9.out
        go_wp2
        go_roundg (j)
        case rel => exact ⟨j, R, sa, sk, rfl, Lib.hid ⟨EZ.out.1, EZ.out.2.1, ⟨EZ.out.sl 0 rfl, ⟨EZ.out.sl 3 rfl, ⟨EZ.out.sl 4 rfl, ⟨EZ.out.sl 5 rfl, trivial⟩⟩⟩⟩⟩, HK2⟩
        case measure => exact HM.out
theorem rPow_c {a b c : Value} {N E K r : Nat} {w : World} (hr : N ^ E % K = r) (he : len E ≤ 1000) (hn : N < K) (hk : len K ≤ 1000) (ha : Nt w a N) (hb : Nt w b E) (hc : Nt w c K) :
    Calls Try.prog 38 #[.agg #[a], .agg #[b], .agg #[c]] w fun e w' => RetV r e w' ∧ Below w.heap.size w w' := by
  obtain ⟨ao, ca, rfl, _⟩ := ha.open
  obtain ⟨bo, cb, rfl, _⟩ := hb.open
  obtain ⟨co, cc, rfl, _⟩ := hc.open
  subst hr
  exact rPow_w ao ca bo cb co cc N E K w ha hb hc he hn hk

end Go.Proofs.Ythphmgdmhlimjaa

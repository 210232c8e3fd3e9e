/- The reference: Add, Sub, Mul, Mod, Times, Over, Gcd, Pow. -/
import Derived.Test.YthphmgdmhlimjaaModR2
import Derived.Test.YthphmgdmhlimjaaModMath2
namespace Go.Proofs.Ythphmgdmhlimjaa
open Go.RowKit NatMath
set_option linter.unusedVariables false

section
variable {a b : Value} {N M S : Nat} {w : World}
theorem rPlus_c (hS : N + M = S) (h1 : len N ≤ 10000) (h2 : len M ≤ 10000) (ha : Nt w a N) (hb : Nt w b M) :
    Calls Try.prog 41 #[.agg #[a], .agg #[b]] w fun e w' => RetV S e w' ∧ Below w.heap.size w w' := rPlus_w a b N M S w hS ha hb h1 h2
theorem rMinus_c (hS : N - M = S) (hl : M ≤ N) (h1 : len N ≤ 10000) (ha : Nt w a N) (hb : Nt w b M) :
    Calls Try.prog 63 #[.agg #[a], .agg #[b]] w fun e w' => RetV S e w' ∧ Below w.heap.size w w' := rMinus_w a b N M S w hS ha hb h1 (Nat.le_trans (len_mono hl) h1) hl
end

set_option maxRecDepth 100000 in
set_option maxHeartbeats 1000000 in
theorem rAdd_lt (ao : Option Addr) (ca : Nat) (bo : Option Addr) (cb : Nat) (co : Option Addr) (cc : Nat) (N M K : Nat)  (w : World) (ha : Nt w (.slice ao (len N) ca) N) (hb : Nt w (.slice bo (len M) cb) M) (hc : Nt w (.slice co (len K) cc) K) (hn : N < K) (hm : M < K) (hk : len K ≤ 5000) (hlt : N + M < K) :
    Calls Try.prog 25 #[.agg #[.slice ao (len N) ca], .agg #[.slice bo (len M) cb], .agg #[.slice co (len K) cc]] w fun e w' => RetV (N + M) e w' ∧ Below w.heap.size w w' := by
  have k1 := len_le_of_lt hn hk
  have k2 := len_le_of_lt hm hk
  have k3 : len (N + M) ≤ 10000 := len_add_le k1 k2 (by omega)
  have CP := Lib.hid (fun W ha hb => @rPlus_c (.slice ao (len N) ca) (.slice bo (len M) cb) N M (N + M) W rfl (by omega) (by omega) ha hb)
  have CL := Lib.hid (fun (v : Value) W ha hb => @rLess_c v (.slice co (len K) cc) (N + M) K true W (decide_eq_true hlt) ha hb)
  clear hn hm hk hlt k1 k2 k3
  generalize N + M = S at *
  have E0 : Hid (EnvB w [] [(.slice co (len K) cc, digs K), (.slice bo (len M) cb, digs M), (.slice ao (len N) ca, digs N)] w) := Lib.hid ((((EnvB.start w).numN ha).numN hb).numN hc)
  clear ha hb hc
  go_enter Try.func25, Try.ntmps25
  go_wp2_with fail
  have E1 : Hid (EnvB w [(w.heap.size + 1 + 1 + 1, .slice none 0 0), (w.heap.size + 1 + 1, .slice co (len K) cc), (w.heap.size + 1, .slice bo (len M) cb), (w.heap.size, .slice ao (len N) ca)] [(.slice co (len K) cc, digs K), (.slice bo (len M) cb, digs M), (.slice ao (len N) ca, digs N)] _) := Lib.hid (((((E0.out.push (.slice ao (len N) ca) 24 ⟨_, _, _, rfl⟩ (w.heap.size) (by simp)).push (.slice bo (len M) cb) 24 ⟨_, _, _, rfl⟩ (w.heap.size + 1) (by simp)).push (.slice co (len K) cc) 24 ⟨_, _, _, rfl⟩ (w.heap.size + 1 + 1) (by simp)).push (.slice none 0 0) 24 ⟨_, _, _, rfl⟩ (w.heap.size + 1 + 1 + 1) (by simp)))
  refine (CP.out _ (E1.out.nt 2 rfl) (E1.out.nt 1 rfl)).mono ?_
  rintro e w1 ⟨⟨sa, sk, rfl, hs⟩, hb⟩
  have E2 : Hid (EnvB w [(w.heap.size + 1 + 1 + 1, .slice none 0 0), (w.heap.size + 1 + 1, .slice co (len K) cc), (w.heap.size + 1, .slice bo (len M) cb), (w.heap.size, .slice ao (len N) ca)] [(.slice sa (len S) sk, digs S), (.slice co (len K) cc, digs K), (.slice bo (len M) cb, digs M), (.slice ao (len N) ca, digs N)] _) := Lib.hid (((E1.out.below hb).numN (hs.out : Nt _ _ S)))
  clear E1 E0 hb hs
  have E3 : Hid (EnvB w [(w1.heap.size, .slice sa (len S) sk), (w.heap.size + 1 + 1 + 1, .slice none 0 0), (w.heap.size + 1 + 1, .slice co (len K) cc), (w.heap.size + 1, .slice bo (len M) cb), (w.heap.size, .slice ao (len N) ca)] [(.slice sa (len S) sk, digs S), (.slice co (len K) cc, digs K), (.slice bo (len M) cb, digs M), (.slice ao (len N) ca, digs N)] _) := Lib.hid ((E2.out.push (.slice sa (len S) sk) 24 ⟨_, _, _, rfl⟩ (w1.heap.size) (by simp)))
  obtain ⟨p1, f1, -, -, -⟩ := E3.out.box 2 rfl
  go_wp2_with fail
  refine (CL.out _ _ (E3.out.nt 0 rfl) (E3.out.nt 1 rfl)).mono ?_
  rintro e w2 ⟨rfl, hb⟩
  have E4 : Hid (EnvB w [(w1.heap.size, .slice sa (len S) sk), (w.heap.size + 1 + 1 + 1, .slice none 0 0), (w.heap.size + 1 + 1, .slice co (len K) cc), (w.heap.size + 1, .slice bo (len M) cb), (w.heap.size, .slice ao (len N) ca)] [(.slice sa (len S) sk, digs S), (.slice co (len K) cc, digs K), (.slice bo (len M) cb, digs M), (.slice ao (len N) ca, digs N)] _) := Lib.hid ((E3.out.below hb))
  clear p1 f1 E3 E2 hb
  obtain ⟨p2, f2, -, -, -⟩ := E4.out.box 0 rfl
  obtain ⟨p3, f3, -, -, -⟩ := E4.out.box 1 rfl
  have E5 : Hid (EnvB w [(w1.heap.size, .slice sa (len S) sk), (w.heap.size + 1 + 1 + 1, .slice sa (len S) sk), (w.heap.size + 1 + 1, .slice co (len K) cc), (w.heap.size + 1, .slice bo (len M) cb), (w.heap.size, .slice ao (len N) ca)] [(.slice sa (len S) sk, digs S), (.slice co (len K) cc, digs K), (.slice bo (len M) cb, digs M), (.slice ao (len N) ca, digs N)] _) := Lib.hid ((E4.out.set 1 (.slice sa (len S) sk) rfl ⟨_, _, _, rfl⟩))
  have hfin := Lib.hid E5.out
  obtain ⟨rc, -, -, -, -⟩ := E5.out.box 1 rfl
  go_wp2
  exact bodyPost_ret (v := .agg #[.slice sa (len S) sk]) (by simp [results, Try.results25, go_sem, rc]) rfl ⟨⟨_, _, rfl, Lib.hid (hfin.out.nt 0 rfl)⟩, hfin.out.1⟩
set_option maxRecDepth 100000 in
set_option maxHeartbeats 1000000 in
theorem rAdd_ge (ao : Option Addr) (ca : Nat) (bo : Option Addr) (cb : Nat) (co : Option Addr) (cc : Nat) (N M K : Nat)  (w : World) (ha : Nt w (.slice ao (len N) ca) N) (hb : Nt w (.slice bo (len M) cb) M) (hc : Nt w (.slice co (len K) cc) K) (hn : N < K) (hm : M < K) (hk : len K ≤ 5000) (hlt : ¬ N + M < K) :
    Calls Try.prog 25 #[.agg #[.slice ao (len N) ca], .agg #[.slice bo (len M) cb], .agg #[.slice co (len K) cc]] w fun e w' => RetV (N + M - K) e w' ∧ Below w.heap.size w w' := by
  have k1 := len_le_of_lt hn hk
  have k2 := len_le_of_lt hm hk
  have k3 : len (N + M) ≤ 10000 := len_add_le k1 k2 (by omega)
  have CP := Lib.hid (fun W ha hb => @rPlus_c (.slice ao (len N) ca) (.slice bo (len M) cb) N M (N + M) W rfl (by omega) (by omega) ha hb)
  have CL := Lib.hid (fun (v : Value) W ha hb => @rLess_c v (.slice co (len K) cc) (N + M) K false W (decide_eq_false hlt) ha hb)
  have CM := Lib.hid (fun (v : Value) W ha hb => @rMinus_c v (.slice co (len K) cc) (N + M) K (N + M - K) W rfl (by omega) k3 ha hb)
  clear hn hm hk hlt k1 k2 k3
  generalize N + M - K = D at *
  generalize N + M = S at *
  have E0 : Hid (EnvB w [] [(.slice co (len K) cc, digs K), (.slice bo (len M) cb, digs M), (.slice ao (len N) ca, digs N)] w) := Lib.hid ((((EnvB.start w).numN ha).numN hb).numN hc)
  clear ha hb hc
  go_enter Try.func25, Try.ntmps25
  go_wp2_with fail
  have E1 : Hid (EnvB w [(w.heap.size + 1 + 1 + 1, .slice none 0 0), (w.heap.size + 1 + 1, .slice co (len K) cc), (w.heap.size + 1, .slice bo (len M) cb), (w.heap.size, .slice ao (len N) ca)] [(.slice co (len K) cc, digs K), (.slice bo (len M) cb, digs M), (.slice ao (len N) ca, digs N)] _) := Lib.hid (((((E0.out.push (.slice ao (len N) ca) 24 ⟨_, _, _, rfl⟩ (w.heap.size) (by simp)).push (.slice bo (len M) cb) 24 ⟨_, _, _, rfl⟩ (w.heap.size + 1) (by simp)).push (.slice co (len K) cc) 24 ⟨_, _, _, rfl⟩ (w.heap.size + 1 + 1) (by simp)).push (.slice none 0 0) 24 ⟨_, _, _, rfl⟩ (w.heap.size + 1 + 1 + 1) (by simp)))
  refine (CP.out _ (E1.out.nt 2 rfl) (E1.out.nt 1 rfl)).mono ?_
  rintro e w1 ⟨⟨sa, sk, rfl, hs⟩, hb⟩
  have E2 : Hid (EnvB w [(w.heap.size + 1 + 1 + 1, .slice none 0 0), (w.heap.size + 1 + 1, .slice co (len K) cc), (w.heap.size + 1, .slice bo (len M) cb), (w.heap.size, .slice ao (len N) ca)] [(.slice sa (len S) sk, digs S), (.slice co (len K) cc, digs K), (.slice bo (len M) cb, digs M), (.slice ao (len N) ca, digs N)] _) := Lib.hid (((E1.out.below hb).numN (hs.out : Nt _ _ S)))
  clear E1 E0 hb hs
  have E3 : Hid (EnvB w [(w1.heap.size, .slice sa (len S) sk), (w.heap.size + 1 + 1 + 1, .slice none 0 0), (w.heap.size + 1 + 1, .slice co (len K) cc), (w.heap.size + 1, .slice bo (len M) cb), (w.heap.size, .slice ao (len N) ca)] [(.slice sa (len S) sk, digs S), (.slice co (len K) cc, digs K), (.slice bo (len M) cb, digs M), (.slice ao (len N) ca, digs N)] _) := Lib.hid ((E2.out.push (.slice sa (len S) sk) 24 ⟨_, _, _, rfl⟩ (w1.heap.size) (by simp)))
  obtain ⟨p1, f1, -, -, -⟩ := E3.out.box 2 rfl
  go_wp2_with fail
  refine (CL.out _ _ (E3.out.nt 0 rfl) (E3.out.nt 1 rfl)).mono ?_
  rintro e w2 ⟨rfl, hb⟩
  have E4 : Hid (EnvB w [(w1.heap.size, .slice sa (len S) sk), (w.heap.size + 1 + 1 + 1, .slice none 0 0), (w.heap.size + 1 + 1, .slice co (len K) cc), (w.heap.size + 1, .slice bo (len M) cb), (w.heap.size, .slice ao (len N) ca)] [(.slice sa (len S) sk, digs S), (.slice co (len K) cc, digs K), (.slice bo (len M) cb, digs M), (.slice ao (len N) ca, digs N)] _) := Lib.hid ((E3.out.below hb))
  clear p1 f1 E3 E2 hb
  obtain ⟨p2, f2, -, -, -⟩ := E4.out.box 0 rfl
  obtain ⟨p3, f3, -, -, -⟩ := E4.out.box 2 rfl
  go_wp2_with fail
  refine (CM.out _ _ (E4.out.nt 0 rfl) (E4.out.nt 1 rfl)).mono ?_
  rintro e w3 ⟨⟨da, dk, rfl, hd⟩, hb⟩
  have E5 : Hid (EnvB w [(w1.heap.size, .slice sa (len S) sk), (w.heap.size + 1 + 1 + 1, .slice none 0 0), (w.heap.size + 1 + 1, .slice co (len K) cc), (w.heap.size + 1, .slice bo (len M) cb), (w.heap.size, .slice ao (len N) ca)] [(.slice da (len D) dk, digs D), (.slice sa (len S) sk, digs S), (.slice co (len K) cc, digs K), (.slice bo (len M) cb, digs M), (.slice ao (len N) ca, digs N)] _) := Lib.hid (((E4.out.below hb).numN (hd.out : Nt _ _ D)))
  clear p2 f2 p3 f3 E4 hb hd
  obtain ⟨p4, f4, -, -, -⟩ := E5.out.box 1 rfl
  have E6 : Hid (EnvB w [(w1.heap.size, .slice sa (len S) sk), (w.heap.size + 1 + 1 + 1, .slice da (len D) dk), (w.heap.size + 1 + 1, .slice co (len K) cc), (w.heap.size + 1, .slice bo (len M) cb), (w.heap.size, .slice ao (len N) ca)] [(.slice da (len D) dk, digs D), (.slice sa (len S) sk, digs S), (.slice co (len K) cc, digs K), (.slice bo (len M) cb, digs M), (.slice ao (len N) ca, digs N)] _) := Lib.hid ((E5.out.set 1 (.slice da (len D) dk) rfl ⟨_, _, _, rfl⟩))
  have hfin := Lib.hid E6.out
  obtain ⟨rc, -, -, -, -⟩ := E6.out.box 1 rfl
  go_wp2
  exact bodyPost_ret (v := .agg #[.slice da (len D) dk]) (by simp [results, Try.results25, go_sem, rc]) rfl ⟨⟨_, _, rfl, Lib.hid (hfin.out.nt 0 rfl)⟩, hfin.out.1⟩
theorem rAdd_c {a b c : Value} {N M K r : Nat} {w : World} (hr : (N + M) % K = r) (hn : N < K) (hm : M < K) (hk : len K ≤ 5000) (ha : Nt w a N) (hb : Nt w b M) (hc : Nt w c K) :
    Calls Try.prog 25 #[.agg #[a], .agg #[b], .agg #[c]] w fun e w' => RetV r e w' ∧ Below w.heap.size w w' := by
  obtain ⟨ao, ca, rfl, _⟩ := ha.open
  obtain ⟨bo, cb, rfl, _⟩ := hb.open
  obtain ⟨co, cc, rfl, _⟩ := hc.open
  rw [add_mod_lt hn hm] at hr
  subst hr
  split
  · exact rAdd_lt ao ca bo cb co cc N M K w ha hb hc hn hm hk (by assumption)
  · exact rAdd_ge ao ca bo cb co cc N M K w ha hb hc hn hm hk (by assumption)

set_option maxRecDepth 100000 in
set_option maxHeartbeats 1000000 in
theorem rSub_lt (ao : Option Addr) (ca : Nat) (bo : Option Addr) (cb : Nat) (co : Option Addr) (cc : Nat) (N M K : Nat)  (w : World) (ha : Nt w (.slice ao (len N) ca) N) (hb : Nt w (.slice bo (len M) cb) M) (hc : Nt w (.slice co (len K) cc) K) (hn : N < K) (hm : M < K) (hk : len K ≤ 5000) (hlt : N < M) :
    Calls Try.prog 26 #[.agg #[.slice ao (len N) ca], .agg #[.slice bo (len M) cb], .agg #[.slice co (len K) cc]] w fun e w' => RetV (N + K - M) e w' ∧ Below w.heap.size w w' := by
  have k1 := len_le_of_lt hn hk
  have k2 := len_le_of_lt hm hk
  have k3 : len (N + K) ≤ 10000 := len_add_le k1 hk (by omega)
  have CL := Lib.hid (fun W ha hb => @rLess_c (.slice ao (len N) ca) (.slice bo (len M) cb) N M true W (decide_eq_true hlt) ha hb)
  have CP := Lib.hid (fun W ha hb => @rPlus_c (.slice ao (len N) ca) (.slice co (len K) cc) N K (N + K) W rfl (by omega) (by omega) ha hb)
  have CM := Lib.hid (fun (v : Value) W ha hb => @rMinus_c v (.slice bo (len M) cb) (N + K) M (N + K - M) W rfl (by omega) k3 ha hb)
  clear hn hm hk hlt k1 k2 k3
  generalize N + K - M = D at *
  generalize N + K = S at *
  have E0 : Hid (EnvB w [] [(.slice co (len K) cc, digs K), (.slice bo (len M) cb, digs M), (.slice ao (len N) ca, digs N)] w) := Lib.hid ((((EnvB.start w).numN ha).numN hb).numN hc)
  clear ha hb hc
  go_enter Try.func26, Try.ntmps26
  go_wp2_with fail
  have E1 : Hid (EnvB w [(w.heap.size + 1 + 1 + 1, .slice none 0 0), (w.heap.size + 1 + 1, .slice co (len K) cc), (w.heap.size + 1, .slice bo (len M) cb), (w.heap.size, .slice ao (len N) ca)] [(.slice co (len K) cc, digs K), (.slice bo (len M) cb, digs M), (.slice ao (len N) ca, digs N)] _) := Lib.hid (((((E0.out.push (.slice ao (len N) ca) 24 ⟨_, _, _, rfl⟩ (w.heap.size) (by simp)).push (.slice bo (len M) cb) 24 ⟨_, _, _, rfl⟩ (w.heap.size + 1) (by simp)).push (.slice co (len K) cc) 24 ⟨_, _, _, rfl⟩ (w.heap.size + 1 + 1) (by simp)).push (.slice none 0 0) 24 ⟨_, _, _, rfl⟩ (w.heap.size + 1 + 1 + 1) (by simp)))
  refine (CL.out _ (E1.out.nt 2 rfl) (E1.out.nt 1 rfl)).mono ?_
  rintro e w1 ⟨rfl, hb⟩
  have E2 : Hid (EnvB w [(w.heap.size + 1 + 1 + 1, .slice none 0 0), (w.heap.size + 1 + 1, .slice co (len K) cc), (w.heap.size + 1, .slice bo (len M) cb), (w.heap.size, .slice ao (len N) ca)] [(.slice co (len K) cc, digs K), (.slice bo (len M) cb, digs M), (.slice ao (len N) ca, digs N)] _) := Lib.hid ((E1.out.below hb))
  clear E1 E0 hb
  go_wp2_with fail
  have bx0 := Lib.hid (E2.out.box 3 rfl)
  have bx1 := Lib.hid (E2.out.box 1 rfl)
  have bx2 := Lib.hid (E2.out.box 2 rfl)
  refine' wp_region_phase (by kernel_rfl) [0, 1, 2, 3, 4] (by kernel_rfl) #[true, true, true, true, true, false] (by kernel_rfl) 1 (by kernel_rfl) [PEq (.agg #[.slice ao (len N) ca]), PEq (.agg #[.slice co (len K) cc]), PNum (S), PEq (.agg #[.slice bo (len M) cb]), PNum (D), Fact.none] (List.forall_mem_cons.2 ⟨PEq.st _, List.forall_mem_cons.2 ⟨PEq.st _, List.forall_mem_cons.2 ⟨PNum.st _, List.forall_mem_cons.2 ⟨PEq.st _, List.forall_mem_cons.2 ⟨PNum.st _, List.forall_mem_cons.2 ⟨Fact.none_st, List.forall_mem_nil _⟩⟩⟩⟩⟩⟩) _ ?hFr1 ?stepr1 ?doner1
  case hFr1 => intro x; simp only [frameL, Act.put, List.setIfInBounds_toArray, List.set_cons_zero, List.set_cons_succ, Nat.zero_add, Nat.reduceAdd]; exact rfl
  case stepr1 =>
    refine List.forall_mem_cons.2 ⟨?_, ?_⟩
    · intro xv bv ev WW hB hdp
      refine op_of rfl ?_
      clear hdp
      intro KK hKK
      obtain ⟨z, -, -, -, -⟩ := bx0.out.below hB
      go_simp
      exact act_eq (hKK.out (.agg #[.slice ao (len N) ca]) _ (Below.refl _ _) rfl) (by first | rfl | simp [upd])
    refine List.forall_mem_cons.2 ⟨?_, ?_⟩
    · intro xv bv ev WW hB hdp
      refine op_of rfl ?_
      clear hdp
      intro KK hKK
      obtain ⟨z, -, -, -, -⟩ := bx1.out.below hB
      go_simp
      exact act_eq (hKK.out (.agg #[.slice co (len K) cc]) _ (Below.refl _ _) rfl) (by first | rfl | simp [upd])
    refine List.forall_mem_cons.2 ⟨?_, ?_⟩
    · intro xv bv ev WW hB hdp
      refine op_of rfl ?_
      have ed0 : xv 0 = .agg #[.slice ao (len N) ca] := hdp 0 (by kernel_rfl)
      have ed1 : xv 1 = .agg #[.slice co (len K) cc] := hdp 1 (by kernel_rfl)
      clear hdp
      intro KK hKK
      go_simp
      refine (CP.out _ ((E2.out.below hB).nt 2 rfl) ((E2.out.below hB).nt 0 rfl)).mono ?_
      rintro e WW' ⟨⟨sa, sk, rfl, hs⟩, hb⟩
      (try dsimp only)
      (try simp only [Act.put, List.setIfInBounds_toArray, List.set_cons_zero, List.set_cons_succ])
      exact act_eq (hKK.out _ _ hb ⟨_, _, rfl, hs⟩) (by first | rfl | simp [upd, ed0, ed1])
    refine List.forall_mem_cons.2 ⟨?_, ?_⟩
    · intro xv bv ev WW hB hdp
      refine op_of rfl ?_
      clear hdp
      intro KK hKK
      obtain ⟨z, -, -, -, -⟩ := bx2.out.below hB
      go_simp
      exact act_eq (hKK.out (.agg #[.slice bo (len M) cb]) _ (Below.refl _ _) rfl) (by first | rfl | simp [upd])
    refine List.forall_mem_cons.2 ⟨?_, ?_⟩
    · intro xv bv ev WW hB hdp
      refine op_of rfl ?_
      obtain ⟨sa, sk, ed2, hs⟩ := (show (PNum (S)) (xv 2) (bv 2) (ev 2) WW from hdp 2 (by kernel_rfl))
      have ed3 : xv 3 = .agg #[.slice bo (len M) cb] := hdp 3 (by kernel_rfl)
      clear hdp
      intro KK hKK
      go_simp
      refine (CM.out _ _ hs.out ((E2.out.below hB).nt 1 rfl)).mono ?_
      rintro e WW' ⟨⟨da, dk, rfl, hd⟩, hb⟩
      (try dsimp only)
      (try simp only [Act.put, List.setIfInBounds_toArray, List.set_cons_zero, List.set_cons_succ])
      exact act_eq (hKK.out _ _ hb ⟨_, _, rfl, hd⟩) (by first | rfl | simp [upd, ed2, ed3])
    exact List.forall_mem_nil _
  intro xv bv ev w2 hB hR hO
  have ed0 : xv 0 = .agg #[.slice ao (len N) ca] := hR 0 (by kernel_rfl)
  have ed1 : xv 1 = .agg #[.slice co (len K) cc] := hR 1 (by kernel_rfl)
  obtain ⟨sa, sk, ed2, hs⟩ := (show (PNum (S)) (xv 2) (bv 2) (ev 2) w2 from hR 2 (by kernel_rfl))
  have ed3 : xv 3 = .agg #[.slice bo (len M) cb] := hR 3 (by kernel_rfl)
  obtain ⟨da, dk, ed4, hd⟩ := (show (PNum (D)) (xv 4) (bv 4) (ev 4) w2 from hR 4 (by kernel_rfl))
  simp only [ed0, ed1, ed2, ed3, ed4]
  have E3 : Hid (EnvB w [(w.heap.size + 1 + 1 + 1, .slice none 0 0), (w.heap.size + 1 + 1, .slice co (len K) cc), (w.heap.size + 1, .slice bo (len M) cb), (w.heap.size, .slice ao (len N) ca)] [(.slice da (len D) dk, digs D), (.slice sa (len S) sk, digs S), (.slice co (len K) cc, digs K), (.slice bo (len M) cb, digs M), (.slice ao (len N) ca, digs N)] _) := Lib.hid ((((E2.out.below hB).numN (hs.out : Nt _ _ (S))).numN (hd.out : Nt _ _ (D))))
  clear E2 hB hR hO bx0 bx1 bx2 ed0 ed1 ed2 ed3 ed4 hs hd
  obtain ⟨p1, f1, -, -, -⟩ := E3.out.box 0 rfl
  refine wpAny_next (i := 5) (by kernel_rfl) rfl (fun KK hKK => ?_)
  go_simp
  have E4 : Hid (EnvB w [(w.heap.size + 1 + 1 + 1, .slice da (len D) dk), (w.heap.size + 1 + 1, .slice co (len K) cc), (w.heap.size + 1, .slice bo (len M) cb), (w.heap.size, .slice ao (len N) ca)] [(.slice da (len D) dk, digs D), (.slice sa (len S) sk, digs S), (.slice co (len K) cc, digs K), (.slice bo (len M) cb, digs M), (.slice ao (len N) ca, digs N)] _) := Lib.hid ((E3.out.set 0 (.slice da (len D) dk) rfl ⟨_, _, _, rfl⟩))
  refine hKK.out _ _ ?_
  clear hKK KK
  refine wpAny_done (by kernel_rfl) ?_ _
  have E5 : Hid (EnvB w [(w.heap.size + 1 + 1 + 1, .slice da (len D) dk), (w.heap.size + 1 + 1, .slice co (len K) cc), (w.heap.size + 1, .slice bo (len M) cb), (w.heap.size, .slice ao (len N) ca)] [(.slice da (len D) dk, digs D), (.slice sa (len S) sk, digs S), (.slice co (len K) cc, digs K), (.slice bo (len M) cb, digs M), (.slice ao (len N) ca, digs N)] _) := Lib.hid (E4.out)
  have hfin := Lib.hid E5.out
  obtain ⟨rc, -, -, -, -⟩ := E5.out.box 0 rfl
  go_wp2
  exact bodyPost_ret (v := .agg #[.slice da (len D) dk]) (by simp [results, Try.results26, go_sem, rc]) rfl ⟨⟨_, _, rfl, Lib.hid (hfin.out.nt 0 rfl)⟩, hfin.out.1⟩
set_option maxRecDepth 100000 in
set_option maxHeartbeats 1000000 in
theorem rSub_ge (ao : Option Addr) (ca : Nat) (bo : Option Addr) (cb : Nat) (co : Option Addr) (cc : Nat) (N M K : Nat)  (w : World) (ha : Nt w (.slice ao (len N) ca) N) (hb : Nt w (.slice bo (len M) cb) M) (hc : Nt w (.slice co (len K) cc) K) (hn : N < K) (hm : M < K) (hk : len K ≤ 5000) (hlt : ¬ N < M) :
    Calls Try.prog 26 #[.agg #[.slice ao (len N) ca], .agg #[.slice bo (len M) cb], .agg #[.slice co (len K) cc]] w fun e w' => RetV (N - M) e w' ∧ Below w.heap.size w w' := by
  have k1 := len_le_of_lt hn hk
  have k2 := len_le_of_lt hm hk
  have k3 : len (N + K) ≤ 10000 := len_add_le k1 hk (by omega)
  have CL := Lib.hid (fun W ha hb => @rLess_c (.slice ao (len N) ca) (.slice bo (len M) cb) N M false W (decide_eq_false hlt) ha hb)
  have CM := Lib.hid (fun W ha hb => @rMinus_c (.slice ao (len N) ca) (.slice bo (len M) cb) N M (N - M) W rfl (by omega) (by omega) ha hb)
  clear hn hm hk hlt k1 k2 k3
  generalize N - M = D at *
  have E0 : Hid (EnvB w [] [(.slice co (len K) cc, digs K), (.slice bo (len M) cb, digs M), (.slice ao (len N) ca, digs N)] w) := Lib.hid ((((EnvB.start w).numN ha).numN hb).numN hc)
  clear ha hb hc
  go_enter Try.func26, Try.ntmps26
  go_wp2_with fail
  have E1 : Hid (EnvB w [(w.heap.size + 1 + 1 + 1, .slice none 0 0), (w.heap.size + 1 + 1, .slice co (len K) cc), (w.heap.size + 1, .slice bo (len M) cb), (w.heap.size, .slice ao (len N) ca)] [(.slice co (len K) cc, digs K), (.slice bo (len M) cb, digs M), (.slice ao (len N) ca, digs N)] _) := Lib.hid (((((E0.out.push (.slice ao (len N) ca) 24 ⟨_, _, _, rfl⟩ (w.heap.size) (by simp)).push (.slice bo (len M) cb) 24 ⟨_, _, _, rfl⟩ (w.heap.size + 1) (by simp)).push (.slice co (len K) cc) 24 ⟨_, _, _, rfl⟩ (w.heap.size + 1 + 1) (by simp)).push (.slice none 0 0) 24 ⟨_, _, _, rfl⟩ (w.heap.size + 1 + 1 + 1) (by simp)))
  refine (CL.out _ (E1.out.nt 2 rfl) (E1.out.nt 1 rfl)).mono ?_
  rintro e w1 ⟨rfl, hb⟩
  have E2 : Hid (EnvB w [(w.heap.size + 1 + 1 + 1, .slice none 0 0), (w.heap.size + 1 + 1, .slice co (len K) cc), (w.heap.size + 1, .slice bo (len M) cb), (w.heap.size, .slice ao (len N) ca)] [(.slice co (len K) cc, digs K), (.slice bo (len M) cb, digs M), (.slice ao (len N) ca, digs N)] _) := Lib.hid ((E1.out.below hb))
  clear E1 E0 hb
  obtain ⟨p1, f1, -, -, -⟩ := E2.out.box 3 rfl
  obtain ⟨p2, f2, -, -, -⟩ := E2.out.box 2 rfl
  go_wp2_with fail
  refine (CM.out _ (E2.out.nt 2 rfl) (E2.out.nt 1 rfl)).mono ?_
  rintro e w2 ⟨⟨da, dk, rfl, hd⟩, hb⟩
  have E3 : Hid (EnvB w [(w.heap.size + 1 + 1 + 1, .slice none 0 0), (w.heap.size + 1 + 1, .slice co (len K) cc), (w.heap.size + 1, .slice bo (len M) cb), (w.heap.size, .slice ao (len N) ca)] [(.slice da (len D) dk, digs D), (.slice co (len K) cc, digs K), (.slice bo (len M) cb, digs M), (.slice ao (len N) ca, digs N)] _) := Lib.hid (((E2.out.below hb).numN (hd.out : Nt _ _ D)))
  clear p1 f1 p2 f2 E2 hb hd
  obtain ⟨p3, f3, -, -, -⟩ := E3.out.box 0 rfl
  have E4 : Hid (EnvB w [(w.heap.size + 1 + 1 + 1, .slice da (len D) dk), (w.heap.size + 1 + 1, .slice co (len K) cc), (w.heap.size + 1, .slice bo (len M) cb), (w.heap.size, .slice ao (len N) ca)] [(.slice da (len D) dk, digs D), (.slice co (len K) cc, digs K), (.slice bo (len M) cb, digs M), (.slice ao (len N) ca, digs N)] _) := Lib.hid ((E3.out.set 0 (.slice da (len D) dk) rfl ⟨_, _, _, rfl⟩))
  have hfin := Lib.hid E4.out
  obtain ⟨rc, -, -, -, -⟩ := E4.out.box 0 rfl
  go_wp2
  exact bodyPost_ret (v := .agg #[.slice da (len D) dk]) (by simp [results, Try.results26, go_sem, rc]) rfl ⟨⟨_, _, rfl, Lib.hid (hfin.out.nt 0 rfl)⟩, hfin.out.1⟩
theorem rSub_c {a b c : Value} {N M K r : Nat} {w : World} (hr : subm N M K = r) (hn : N < K) (hm : M < K) (hk : len K ≤ 5000) (ha : Nt w a N) (hb : Nt w b M) (hc : Nt w c K) :
    Calls Try.prog 26 #[.agg #[a], .agg #[b], .agg #[c]] w fun e w' => RetV r e w' ∧ Below w.heap.size w w' := by
  obtain ⟨ao, ca, rfl, _⟩ := ha.open
  obtain ⟨bo, cb, rfl, _⟩ := hb.open
  obtain ⟨co, cc, rfl, _⟩ := hc.open
  subst hr
  unfold subm
  split
  · exact rSub_lt ao ca bo cb co cc N M K w ha hb hc hn hm hk (by assumption)
  · exact rSub_ge ao ca bo cb co cc N M K w ha hb hc hn hm hk (by assumption)

set_option maxRecDepth 100000 in
set_option maxHeartbeats 1000000 in
theorem rMul_w (ao : Option Addr) (ca : Nat) (bo : Option Addr) (cb : Nat) (co : Option Addr) (cc : Nat) (N M K : Nat)  (w : World) (ha : Nt w (.slice ao (len N) ca) N) (hb : Nt w (.slice bo (len M) cb) M) (hc : Nt w (.slice co (len K) cc) K) (hn : N < K) (h2 : len M ≤ 1000) (hk : len K ≤ 5000) :
    Calls Try.prog 37 #[.agg #[.slice ao (len N) ca], .agg #[.slice bo (len M) cb], .agg #[.slice co (len K) cc]] w fun e w' => RetV (N * M % K) e w' ∧ Below w.heap.size w w' := by
  have CB := Lib.hid (fun W ha => rBits_c (.slice bo (len M) cb) M W ha (by omega))
  have CT := Lib.hid (fun (j : Nat) W (hj : (j : Int) ≤ 9223372036854775807) ha => rBit_c (.slice bo (len M) cb) M j W ha hj)
  have hbe : bl M ≤ 32000 := by have := (len_le_bits (n := M) (k := 1000)).2 h2; omega
  have HS : Hid (BitI (fun k => N * (M / 2 ^ k) % K) (bl M) (bl M) 0 (bl M)) := Lib.hid (BitI.start (by simp [top_zero]))
  have HBE : Hid (bl M ≤ 32000) := Lib.hid hbe
  have CA := Lib.hid (fun (u v : Value) (X Y : Nat) W hx hy ha hb hc => @rAdd_c u v (.slice co (len K) cc) X Y K ((X + Y) % K) W rfl hx hy hk ha hb hc)
  have HNK : Hid (N < K) := Lib.hid hn
  clear hn h2 hk hbe
  have E0 : Hid (EnvB w [] [(.slice co (len K) cc, digs K), (.slice bo (len M) cb, digs M), (.slice ao (len N) ca, digs N)] w) := Lib.hid ((((EnvB.start w).numN ha).numN hb).numN hc)
  clear ha hb hc
  go_enter Try.func37, Try.ntmps37
  generalize hbl : bl M = n at CB
  have HBL := Lib.hid hbl
  clear hbl
  have hn48 : (n : Int) ≤ 1000000 := by have h1 := HBE.out; rw [HBL.out] at h1; omega
  have hn0 : 0 ≤ (n : Int) := by omega
  go_wp2_with fail
  have E1 : Hid (EnvB w [(w.heap.size + 1 + 1 + 1 + 1, .slice none 0 0), (w.heap.size + 1 + 1 + 1, .slice none 0 0), (w.heap.size + 1 + 1, .slice co (len K) cc), (w.heap.size + 1, .slice bo (len M) cb), (w.heap.size, .slice ao (len N) ca)] [(.slice co (len K) cc, digs K), (.slice bo (len M) cb, digs M), (.slice ao (len N) ca, digs N)] _) := Lib.hid ((((((E0.out.push (.slice ao (len N) ca) 24 ⟨_, _, _, rfl⟩ (w.heap.size) (by simp)).push (.slice bo (len M) cb) 24 ⟨_, _, _, rfl⟩ (w.heap.size + 1) (by simp)).push (.slice co (len K) cc) 24 ⟨_, _, _, rfl⟩ (w.heap.size + 1 + 1) (by simp)).push (.slice none 0 0) 24 ⟨_, _, _, rfl⟩ (w.heap.size + 1 + 1 + 1) (by simp)).push (.slice none 0 0) 24 ⟨_, _, _, rfl⟩ (w.heap.size + 1 + 1 + 1 + 1) (by simp)))
  refine (CB.out _ (E1.out.nt 1 rfl)).mono ?_
  rintro e w1 ⟨rfl, hb⟩
  have E2 : Hid (EnvB w [(w.heap.size + 1 + 1 + 1 + 1, .slice none 0 0), (w.heap.size + 1 + 1 + 1, .slice none 0 0), (w.heap.size + 1 + 1, .slice co (len K) cc), (w.heap.size + 1, .slice bo (len M) cb), (w.heap.size, .slice ao (len N) ca)] [(.slice co (len K) cc, digs K), (.slice bo (len M) cb, digs M), (.slice ao (len N) ca, digs N)] _) := Lib.hid ((E1.out.below hb))
  clear E1 E0 hb
  have E3 : Hid (EnvB w [(w.heap.size + 1 + 1 + 1 + 1, .slice none (len 0) 0), (w.heap.size + 1 + 1 + 1, .slice none 0 0), (w.heap.size + 1 + 1, .slice co (len K) cc), (w.heap.size + 1, .slice bo (len M) cb), (w.heap.size, .slice ao (len N) ca)] [(.slice none (len 0) 0, digs 0), (.slice co (len K) cc, digs K), (.slice bo (len M) cb, digs M), (.slice ao (len N) ca, digs N)] _) := Lib.hid (by simp only [len_zero]; exact (E2.out.numN (Nt.zero _ : Nt _ _ 0)))
  go_wp2_with fail
  go_loopg [8] (n) (fun gk s8 wr => ∃ (k P : Nat) (po : Option Addr) (pc : Nat), s8 = .int .i64 ((k : Int) - 1) ∧ Hid (EnvB w [(w.heap.size + 1 + 1 + 1 + 1, .slice po (len P) pc), (w.heap.size + 1 + 1 + 1, .slice none 0 0), (w.heap.size + 1 + 1, .slice co (len K) cc), (w.heap.size + 1, .slice bo (len M) cb), (w.heap.size, .slice ao (len N) ca)] [(.slice po (len P) pc, digs P), (.slice co (len K) cc, digs K), (.slice bo (len M) cb, digs M), (.slice ao (len N) ca, digs N)] wr) ∧ Hid (BitI (fun k => N * (M / 2 ^ k) % K) n k P gk))
  case atStart => exact ⟨n, 0, none, 0, rfl, Lib.hid ⟨E3.out.1, E3.out.2.1, ⟨E3.out.sl 0 rfl, ⟨E3.out.sl 1 rfl, ⟨E3.out.sl 2 rfl, ⟨E3.out.sl 3 rfl, trivial⟩⟩⟩⟩⟩, Lib.hid (HBL.out ▸ HS.out)⟩
  case round =>
    clear E3 E2 HS CB
    obtain ⟨k, P, po, pc, rfl, EL, HA⟩ := hrel
    obtain ⟨a1, a2, a3⟩ := HA.out
    clear HA
    by_cases hy : k = 0
    · have t1 : decide (0 ≤ (k : Int) - 1) = false := decide_eq_false (by omega)
      have t2 : decide (1 ≤ (k : Int)) = false := decide_eq_false (by omega)
      have HP : Hid (P = N * M % K) := Lib.hid (by rw [a3, hy]; simp)
      clear a1 a2 a3 hy HBE HNK CA CT
      obtain ⟨p1, f1, -, -, -⟩ := EL.out.box 0 rfl
      obtain ⟨p2, f2, -, -, -⟩ := EL.out.box 1 rfl
      have E4 : Hid (EnvB w [(w.heap.size + 1 + 1 + 1 + 1, .slice po (len P) pc), (w.heap.size + 1 + 1 + 1, .slice po (len P) pc), (w.heap.size + 1 + 1, .slice co (len K) cc), (w.heap.size + 1, .slice bo (len M) cb), (w.heap.size, .slice ao (len N) ca)] [(.slice po (len P) pc, digs P), (.slice co (len K) cc, digs K), (.slice bo (len M) cb, digs M), (.slice ao (len N) ca, digs N)] _) := Lib.hid ((EL.out.set 1 (.slice po (len P) pc) rfl ⟨_, _, _, rfl⟩))
      have hfin := Lib.hid E4.out
      obtain ⟨rc, -, -, -, -⟩ := E4.out.box 1 rfl
      go_wp2
      exact bodyPost_ret (v := .agg #[.slice po (len P) pc]) (by simp [results, Try.results37, go_sem, rc]) rfl ⟨HP.out ▸ ⟨_, _, rfl, Lib.hid (hfin.out.nt 0 rfl)⟩, hfin.out.1⟩
    · obtain ⟨j, rfl⟩ : ∃ j, k = j + 1 := ⟨k - 1, by omega⟩
      have ej : (((j + 1 : Nat) : Int) - 1) = (j : Int) := by omega
      rw [ej]
      have hj : (j : Int) ≤ 9223372036854775807 := by omega
      have t1 : decide (0 ≤ (j : Int)) = true := decide_eq_true (by omega)
      have HM : Hid (j < gk) := Lib.hid (by omega)
      have HJ : Hid (j ≤ n) := Lib.hid (by omega)
      have CTj := Lib.hid (fun W ha => CT.out j W hj ha)
      have hPK : P < K := by rw [a3]; exact Nat.mod_lt _ (by have := HNK.out; omega)
      have hQK : (P + P) % K < K := Nat.mod_lt _ (by omega)
      have CA1 := Lib.hid (fun (u : Value) W ha hb hc => CA.out u u P P W hPK hPK ha hb hc)
      have CA2 := Lib.hid (fun (u v : Value) W ha hb hc => CA.out u v ((P + P) % K) N W hQK HNK.out ha hb hc)
      have hst := fun t => mulV_step N M K j t
      have hP3 := a3
      cases ht : bt M j
      · have hst := mulV_step N M K j false ht
        simp only [Bool.false_eq_true, if_false] at hst
        have hP4 : P = _ := hP3
        dsimp only at hP4
        rw [← hP4] at hst
        have HK2 : Hid (BitI (fun k => N * (M / 2 ^ k) % K) n j ((P + P) % K) j) := Lib.hid ⟨rfl, HJ.out, hst.symm⟩
        have CTt : Hid (∀ W, Nt W (.slice bo (len M) cb) M → Calls Try.prog 72 #[.agg #[.slice bo (len M) cb], .int .i64 (j : Int)] W fun e w' => e = .returned (.bool false) ∧ Below W.heap.size W w') := Lib.hid (by rw [← ht]; exact CTj.out)
        clear a1 a2 a3 hy ej hP3 hP4 hst CA CT CTj HNK HBE HJ ht hPK hQK
        generalize (P + P) % K = Q at *
        obtain ⟨p1, f1, -, -, -⟩ := EL.out.box 0 rfl
        obtain ⟨p2, f2, -, -, -⟩ := EL.out.box 2 rfl
        go_wp2_with fail
        refine (CA1.out _ _ (EL.out.nt 0 rfl) (EL.out.nt 0 rfl) (EL.out.nt 1 rfl)).mono ?_
        rintro e w2 ⟨⟨qa, qk, rfl, hq⟩, hb⟩
        have E4 : Hid (EnvB w [(w.heap.size + 1 + 1 + 1 + 1, .slice po (len P) pc), (w.heap.size + 1 + 1 + 1, .slice none 0 0), (w.heap.size + 1 + 1, .slice co (len K) cc), (w.heap.size + 1, .slice bo (len M) cb), (w.heap.size, .slice ao (len N) ca)] [(.slice qa (len Q) qk, digs Q), (.slice po (len P) pc, digs P), (.slice co (len K) cc, digs K), (.slice bo (len M) cb, digs M), (.slice ao (len N) ca, digs N)] _) := Lib.hid (((EL.out.below hb).numN (hq.out : Nt _ _ Q)))
        clear p1 f1 p2 f2 EL hb hq
        obtain ⟨p3, f3, -, -, -⟩ := E4.out.box 0 rfl
        have E5 : Hid (EnvB w [(w.heap.size + 1 + 1 + 1 + 1, .slice qa (len Q) qk), (w.heap.size + 1 + 1 + 1, .slice none 0 0), (w.heap.size + 1 + 1, .slice co (len K) cc), (w.heap.size + 1, .slice bo (len M) cb), (w.heap.size, .slice ao (len N) ca)] [(.slice qa (len Q) qk, digs Q), (.slice po (len P) pc, digs P), (.slice co (len K) cc, digs K), (.slice bo (len M) cb, digs M), (.slice ao (len N) ca, digs N)] _) := Lib.hid ((E4.out.set 0 (.slice qa (len Q) qk) rfl ⟨_, _, _, rfl⟩))
        obtain ⟨p4, f4, -, -, -⟩ := E5.out.box 3 rfl
        go_wp2_with fail
        refine (CTt.out _ (E5.out.nt 3 rfl)).mono ?_
        rintro e w3 ⟨rfl, hb⟩
        have E6 : Hid (EnvB w [(w.heap.size + 1 + 1 + 1 + 1, .slice qa (len Q) qk), (w.heap.size + 1 + 1 + 1, .slice none 0 0), (w.heap.size + 1 + 1, .slice co (len K) cc), (w.heap.size + 1, .slice bo (len M) cb), (w.heap.size, .slice ao (len N) ca)] [(.slice qa (len Q) qk, digs Q), (.slice po (len P) pc, digs P), (.slice co (len K) cc, digs K), (.slice bo (len M) cb, digs M), (.slice ao (len N) ca, digs N)] _) := Lib.hid ((E5.out.below hb))
        clear p3 f3 p4 f4 E5 E4 hb
        have EZ := Lib.hid E6.out
        go_wp2
        go_roundg (j)
        case rel => exact ⟨j, Q, qa, qk, rfl, Lib.hid ⟨EZ.out.1, EZ.out.2.1, ⟨EZ.out.sl 0 rfl, ⟨EZ.out.sl 2 rfl, ⟨EZ.out.sl 3 rfl, ⟨EZ.out.sl 4 rfl, trivial⟩⟩⟩⟩⟩, HK2⟩
        case measure => exact HM.out
      · have hst := mulV_step N M K j true ht
        simp only [if_true] at hst
        have hP4 : P = _ := hP3
        dsimp only at hP4
        rw [← hP4] at hst
        have HK2 : Hid (BitI (fun k => N * (M / 2 ^ k) % K) n j (((P + P) % K + N) % K) j) := Lib.hid ⟨rfl, HJ.out, hst.symm⟩
        have CTt : Hid (∀ W, Nt W (.slice bo (len M) cb) M → Calls Try.prog 72 #[.agg #[.slice bo (len M) cb], .int .i64 (j : Int)] W fun e w' => e = .returned (.bool true) ∧ Below W.heap.size W w') := Lib.hid (by rw [← ht]; exact CTj.out)
        clear a1 a2 a3 hy ej hP3 hP4 hst CA CT CTj HNK HBE HJ ht hPK hQK
        generalize ((P + P) % K + N) % K = R at *
        generalize (P + P) % K = Q at *
        obtain ⟨p1, f1, -, -, -⟩ := EL.out.box 0 rfl
        obtain ⟨p2, f2, -, -, -⟩ := EL.out.box 2 rfl
        go_wp2_with fail
        refine (CA1.out _ _ (EL.out.nt 0 rfl) (EL.out.nt 0 rfl) (EL.out.nt 1 rfl)).mono ?_
        rintro e w2 ⟨⟨qa, qk, rfl, hq⟩, hb⟩
        have E4 : Hid (EnvB w [(w.heap.size + 1 + 1 + 1 + 1, .slice po (len P) pc), (w.heap.size + 1 + 1 + 1, .slice none 0 0), (w.heap.size + 1 + 1, .slice co (len K) cc), (w.heap.size + 1, .slice bo (len M) cb), (w.heap.size, .slice ao (len N) ca)] [(.slice qa (len Q) qk, digs Q), (.slice po (len P) pc, digs P), (.slice co (len K) cc, digs K), (.slice bo (len M) cb, digs M), (.slice ao (len N) ca, digs N)] _) := Lib.hid (((EL.out.below hb).numN (hq.out : Nt _ _ Q)))
        clear p1 f1 p2 f2 EL hb hq
        obtain ⟨p3, f3, -, -, -⟩ := E4.out.box 0 rfl
        have E5 : Hid (EnvB w [(w.heap.size + 1 + 1 + 1 + 1, .slice qa (len Q) qk), (w.heap.size + 1 + 1 + 1, .slice none 0 0), (w.heap.size + 1 + 1, .slice co (len K) cc), (w.heap.size + 1, .slice bo (len M) cb), (w.heap.size, .slice ao (len N) ca)] [(.slice qa (len Q) qk, digs Q), (.slice po (len P) pc, digs P), (.slice co (len K) cc, digs K), (.slice bo (len M) cb, digs M), (.slice ao (len N) ca, digs N)] _) := Lib.hid ((E4.out.set 0 (.slice qa (len Q) qk) rfl ⟨_, _, _, rfl⟩))
        obtain ⟨p4, f4, -, -, -⟩ := E5.out.box 3 rfl
        go_wp2_with fail
        refine (CTt.out _ (E5.out.nt 3 rfl)).mono ?_
        rintro e w3 ⟨rfl, hb⟩
        have E6 : Hid (EnvB w [(w.heap.size + 1 + 1 + 1 + 1, .slice qa (len Q) qk), (w.heap.size + 1 + 1 + 1, .slice none 0 0), (w.heap.size + 1 + 1, .slice co (len K) cc), (w.heap.size + 1, .slice bo (len M) cb), (w.heap.size, .slice ao (len N) ca)] [(.slice qa (len Q) qk, digs Q), (.slice po (len P) pc, digs P), (.slice co (len K) cc, digs K), (.slice bo (len M) cb, digs M), (.slice ao (len N) ca, digs N)] _) := Lib.hid ((E5.out.below hb))
        clear p3 f3 p4 f4 E5 E4 hb
        obtain ⟨p5, f5, -, -, -⟩ := E6.out.box 0 rfl
        obtain ⟨p6, f6, -, -, -⟩ := E6.out.box 4 rfl
        obtain ⟨p7, f7, -, -, -⟩ := E6.out.box 2 rfl
        go_wp2_with fail
        refine (CA2.out _ _ _ (E6.out.nt 0 rfl) (E6.out.nt 4 rfl) (E6.out.nt 2 rfl)).mono ?_
        rintro e w4 ⟨⟨sa, sk, rfl, hs⟩, hb⟩
        have E7 : Hid (EnvB w [(w.heap.size + 1 + 1 + 1 + 1, .slice qa (len Q) qk), (w.heap.size + 1 + 1 + 1, .slice none 0 0), (w.heap.size + 1 + 1, .slice co (len K) cc), (w.heap.size + 1, .slice bo (len M) cb), (w.heap.size, .slice ao (len N) ca)] [(.slice sa (len R) sk, digs R), (.slice qa (len Q) qk, digs Q), (.slice po (len P) pc, digs P), (.slice co (len K) cc, digs K), (.slice bo (len M) cb, digs M), (.slice ao (len N) ca, digs N)] _) := Lib.hid (((E6.out.below hb).numN (hs.out : Nt _ _ R)))
        clear p5 f5 p6 f6 p7 f7 E6 hb hs
        obtain ⟨p8, f8, -, -, -⟩ := E7.out.box 0 rfl
        have E8 : Hid (EnvB w [(w.heap.size + 1 + 1 + 1 + 1, .slice sa (len R) sk), (w.heap.size + 1 + 1 + 1, .slice none 0 0), (w.heap.size + 1 + 1, .slice co (len K) cc), (w.heap.size + 1, .slice bo (len M) cb), (w.heap.size, .slice ao (len N) ca)] [(.slice sa (len R) sk, digs R), (.slice qa (len Q) qk, digs Q), (.slice po (len P) pc, digs P), (.slice co (len K) cc, digs K), (.slice bo (len M) cb, digs M), (.slice ao (len N) ca, digs N)] _) := Lib.hid ((E7.out.set 0 (.slice sa (len R) sk) rfl ⟨_, _, _, rfl⟩))
        have EZ := Lib.hid E8.out
        go_wp2
        go_roundg (j)
        case rel => exact ⟨j, R, sa, sk, rfl, Lib.hid ⟨EZ.out.1, EZ.out.2.1, ⟨EZ.out.sl 0 rfl, ⟨EZ.out.sl 3 rfl, ⟨EZ.out.sl 4 rfl, ⟨EZ.out.sl 5 rfl, trivial⟩⟩⟩⟩⟩, HK2⟩
        case measure => exact HM.out
set_option maxRecDepth 100000 in
set_option maxHeartbeats 1000000 in
theorem rTimes_w (ao : Option Addr) (ca : Nat) (bo : Option Addr) (cb : Nat) (N M : Nat)  (w : World) (ha : Nt w (.slice ao (len N) ca) N) (hb : Nt w (.slice bo (len M) cb) M) (h1 : len N ≤ 1000) (h2 : len M ≤ 1000) :
    Calls Try.prog 42 #[.agg #[.slice ao (len N) ca], .agg #[.slice bo (len M) cb]] w fun e w' => RetV (N * M) e w' ∧ Below w.heap.size w w' := by
  have CB := Lib.hid (fun W ha => rBits_c (.slice bo (len M) cb) M W ha (by omega))
  have CT := Lib.hid (fun (j : Nat) W (hj : (j : Int) ≤ 9223372036854775807) ha => rBit_c (.slice bo (len M) cb) M j W ha hj)
  have hbe : bl M ≤ 32000 := by have := (len_le_bits (n := M) (k := 1000)).2 h2; omega
  have HS : Hid (BitI (fun k => N * (M / 2 ^ k)) (bl M) (bl M) 0 (bl M)) := Lib.hid (BitI.start (by simp [top_zero]))
  have HBE : Hid (bl M ≤ 32000) := Lib.hid hbe
  have CA := Lib.hid (fun (u v : Value) (X Y : Nat) W hx hy ha hb => @rPlus_c u v X Y (X + Y) W rfl hx hy ha hb)
  have HNK : Hid (len N ≤ 1000 ∧ len M ≤ 1000) := Lib.hid ⟨h1, h2⟩
  clear h1 h2 hbe
  have E0 : Hid (EnvB w [] [(.slice bo (len M) cb, digs M), (.slice ao (len N) ca, digs N)] w) := Lib.hid (((EnvB.start w).numN ha).numN hb)
  clear ha hb
  go_enter Try.func42, Try.ntmps42
  generalize hbl : bl M = n at CB
  have HBL := Lib.hid hbl
  clear hbl
  have hn48 : (n : Int) ≤ 1000000 := by have h1 := HBE.out; rw [HBL.out] at h1; omega
  have hn0 : 0 ≤ (n : Int) := by omega
  go_wp2_with fail
  have E1 : Hid (EnvB w [(w.heap.size + 1 + 1 + 1, .slice none 0 0), (w.heap.size + 1 + 1, .slice none 0 0), (w.heap.size + 1, .slice bo (len M) cb), (w.heap.size, .slice ao (len N) ca)] [(.slice bo (len M) cb, digs M), (.slice ao (len N) ca, digs N)] _) := Lib.hid (((((E0.out.push (.slice ao (len N) ca) 24 ⟨_, _, _, rfl⟩ (w.heap.size) (by simp)).push (.slice bo (len M) cb) 24 ⟨_, _, _, rfl⟩ (w.heap.size + 1) (by simp)).push (.slice none 0 0) 24 ⟨_, _, _, rfl⟩ (w.heap.size + 1 + 1) (by simp)).push (.slice none 0 0) 24 ⟨_, _, _, rfl⟩ (w.heap.size + 1 + 1 + 1) (by simp)))
  refine (CB.out _ (E1.out.nt 0 rfl)).mono ?_
  rintro e w1 ⟨rfl, hb⟩
  have E2 : Hid (EnvB w [(w.heap.size + 1 + 1 + 1, .slice none 0 0), (w.heap.size + 1 + 1, .slice none 0 0), (w.heap.size + 1, .slice bo (len M) cb), (w.heap.size, .slice ao (len N) ca)] [(.slice bo (len M) cb, digs M), (.slice ao (len N) ca, digs N)] _) := Lib.hid ((E1.out.below hb))
  clear E1 E0 hb
  have E3 : Hid (EnvB w [(w.heap.size + 1 + 1 + 1, .slice none (len 0) 0), (w.heap.size + 1 + 1, .slice none 0 0), (w.heap.size + 1, .slice bo (len M) cb), (w.heap.size, .slice ao (len N) ca)] [(.slice none (len 0) 0, digs 0), (.slice bo (len M) cb, digs M), (.slice ao (len N) ca, digs N)] _) := Lib.hid (by simp only [len_zero]; exact (E2.out.numN (Nt.zero _ : Nt _ _ 0)))
  go_wp2_with fail
  go_loopg [6] (n) (fun gk s6 wr => ∃ (k P : Nat) (po : Option Addr) (pc : Nat), s6 = .int .i64 ((k : Int) - 1) ∧ Hid (EnvB w [(w.heap.size + 1 + 1 + 1, .slice po (len P) pc), (w.heap.size + 1 + 1, .slice none 0 0), (w.heap.size + 1, .slice bo (len M) cb), (w.heap.size, .slice ao (len N) ca)] [(.slice po (len P) pc, digs P), (.slice bo (len M) cb, digs M), (.slice ao (len N) ca, digs N)] wr) ∧ Hid (BitI (fun k => N * (M / 2 ^ k)) n k P gk))
  case atStart => exact ⟨n, 0, none, 0, rfl, Lib.hid ⟨E3.out.1, E3.out.2.1, ⟨E3.out.sl 0 rfl, ⟨E3.out.sl 1 rfl, ⟨E3.out.sl 2 rfl, trivial⟩⟩⟩⟩, Lib.hid (HBL.out ▸ HS.out)⟩
  case round =>
    clear E3 E2 HS CB
    obtain ⟨k, P, po, pc, rfl, EL, HA⟩ := hrel
    obtain ⟨a1, a2, a3⟩ := HA.out
    clear HA
    by_cases hy : k = 0
    · have t1 : decide (0 ≤ (k : Int) - 1) = false := decide_eq_false (by omega)
      have t2 : decide (1 ≤ (k : Int)) = false := decide_eq_false (by omega)
      have HP : Hid (P = N * M) := Lib.hid (by rw [a3, hy]; simp)
      clear a1 a2 a3 hy HBE HNK CA CT
      obtain ⟨p1, f1, -, -, -⟩ := EL.out.box 0 rfl
      obtain ⟨p2, f2, -, -, -⟩ := EL.out.box 1 rfl
      have E4 : Hid (EnvB w [(w.heap.size + 1 + 1 + 1, .slice po (len P) pc), (w.heap.size + 1 + 1, .slice po (len P) pc), (w.heap.size + 1, .slice bo (len M) cb), (w.heap.size, .slice ao (len N) ca)] [(.slice po (len P) pc, digs P), (.slice bo (len M) cb, digs M), (.slice ao (len N) ca, digs N)] _) := Lib.hid ((EL.out.set 1 (.slice po (len P) pc) rfl ⟨_, _, _, rfl⟩))
      have hfin := Lib.hid E4.out
      obtain ⟨rc, -, -, -, -⟩ := E4.out.box 1 rfl
      go_wp2
      exact bodyPost_ret (v := .agg #[.slice po (len P) pc]) (by simp [results, Try.results42, go_sem, rc]) rfl ⟨HP.out ▸ ⟨_, _, rfl, Lib.hid (hfin.out.nt 0 rfl)⟩, hfin.out.1⟩
    · obtain ⟨j, rfl⟩ : ∃ j, k = j + 1 := ⟨k - 1, by omega⟩
      have ej : (((j + 1 : Nat) : Int) - 1) = (j : Int) := by omega
      rw [ej]
      have hj : (j : Int) ≤ 9223372036854775807 := by omega
      have t1 : decide (0 ≤ (j : Int)) = true := decide_eq_true (by omega)
      have HM : Hid (j < gk) := Lib.hid (by omega)
      have HJ : Hid (j ≤ n) := Lib.hid (by omega)
      have CTj := Lib.hid (fun W ha => CT.out j W hj ha)
      have hl1 : len P ≤ 2000 := by rw [a3]; exact len_mul_le HNK.out.1 (Nat.le_trans (len_le_of_le (Nat.div_le_self _ _)) HNK.out.2) (by omega)
      have hl2 : len (P + P) ≤ 2001 := len_add_le hl1 hl1 (by omega)
      have hl3 := HNK.out.1
      have CA1 := Lib.hid (fun (u : Value) W ha hb => CA.out u u P P W (by omega) (by omega) ha hb)
      have CA2 := Lib.hid (fun (u v : Value) W ha hb => CA.out u v (P + P) N W (by omega) (by omega) ha hb)
      have hP3 := a3
      cases ht : bt M j
      · have hst := timesV_step N M j false ht
        simp only [Bool.false_eq_true, if_false] at hst
        have hP4 : P = _ := hP3
        dsimp only at hP4
        rw [← hP4] at hst
        have HK2 : Hid (BitI (fun k => N * (M / 2 ^ k)) n j (P + P) j) := Lib.hid ⟨rfl, HJ.out, hst.symm⟩
        have CTt : Hid (∀ W, Nt W (.slice bo (len M) cb) M → Calls Try.prog 72 #[.agg #[.slice bo (len M) cb], .int .i64 (j : Int)] W fun e w' => e = .returned (.bool false) ∧ Below W.heap.size W w') := Lib.hid (by rw [← ht]; exact CTj.out)
        clear a1 a2 a3 hy ej hP3 hP4 hst CA CT CTj HNK HBE HJ ht hl1 hl2 hl3
        generalize P + P = Q at *
        obtain ⟨p1, f1, -, -, -⟩ := EL.out.box 0 rfl
        go_wp2_with fail
        refine (CA1.out _ _ (EL.out.nt 0 rfl) (EL.out.nt 0 rfl)).mono ?_
        rintro e w2 ⟨⟨qa, qk, rfl, hq⟩, hb⟩
        have E4 : Hid (EnvB w [(w.heap.size + 1 + 1 + 1, .slice po (len P) pc), (w.heap.size + 1 + 1, .slice none 0 0), (w.heap.size + 1, .slice bo (len M) cb), (w.heap.size, .slice ao (len N) ca)] [(.slice qa (len Q) qk, digs Q), (.slice po (len P) pc, digs P), (.slice bo (len M) cb, digs M), (.slice ao (len N) ca, digs N)] _) := Lib.hid (((EL.out.below hb).numN (hq.out : Nt _ _ Q)))
        clear p1 f1 EL hb hq
        obtain ⟨p2, f2, -, -, -⟩ := E4.out.box 0 rfl
        have E5 : Hid (EnvB w [(w.heap.size + 1 + 1 + 1, .slice qa (len Q) qk), (w.heap.size + 1 + 1, .slice none 0 0), (w.heap.size + 1, .slice bo (len M) cb), (w.heap.size, .slice ao (len N) ca)] [(.slice qa (len Q) qk, digs Q), (.slice po (len P) pc, digs P), (.slice bo (len M) cb, digs M), (.slice ao (len N) ca, digs N)] _) := Lib.hid ((E4.out.set 0 (.slice qa (len Q) qk) rfl ⟨_, _, _, rfl⟩))
        obtain ⟨p3, f3, -, -, -⟩ := E5.out.box 2 rfl
        go_wp2_with fail
        refine (CTt.out _ (E5.out.nt 2 rfl)).mono ?_
        rintro e w3 ⟨rfl, hb⟩
        have E6 : Hid (EnvB w [(w.heap.size + 1 + 1 + 1, .slice qa (len Q) qk), (w.heap.size + 1 + 1, .slice none 0 0), (w.heap.size + 1, .slice bo (len M) cb), (w.heap.size, .slice ao (len N) ca)] [(.slice qa (len Q) qk, digs Q), (.slice po (len P) pc, digs P), (.slice bo (len M) cb, digs M), (.slice ao (len N) ca, digs N)] _) := Lib.hid ((E5.out.below hb))
        clear p2 f2 p3 f3 E5 E4 hb
        have EZ := Lib.hid E6.out
        go_wp2
        go_roundg (j)
        case rel => exact ⟨j, Q, qa, qk, rfl, Lib.hid ⟨EZ.out.1, EZ.out.2.1, ⟨EZ.out.sl 0 rfl, ⟨EZ.out.sl 2 rfl, ⟨EZ.out.sl 3 rfl, trivial⟩⟩⟩⟩, HK2⟩
        case measure => exact HM.out
      · have hst := timesV_step N M j true ht
        simp only [if_true] at hst
        have hP4 : P = _ := hP3
        dsimp only at hP4
        rw [← hP4] at hst
        have HK2 : Hid (BitI (fun k => N * (M / 2 ^ k)) n j (P + P + N) j) := Lib.hid ⟨rfl, HJ.out, hst.symm⟩
        have CTt : Hid (∀ W, Nt W (.slice bo (len M) cb) M → Calls Try.prog 72 #[.agg #[.slice bo (len M) cb], .int .i64 (j : Int)] W fun e w' => e = .returned (.bool true) ∧ Below W.heap.size W w') := Lib.hid (by rw [← ht]; exact CTj.out)
        clear a1 a2 a3 hy ej hP3 hP4 hst CA CT CTj HNK HBE HJ ht hl1 hl2 hl3
        generalize P + P + N = R at *
        generalize P + P = Q at *
        obtain ⟨p1, f1, -, -, -⟩ := EL.out.box 0 rfl
        go_wp2_with fail
        refine (CA1.out _ _ (EL.out.nt 0 rfl) (EL.out.nt 0 rfl)).mono ?_
        rintro e w2 ⟨⟨qa, qk, rfl, hq⟩, hb⟩
        have E4 : Hid (EnvB w [(w.heap.size + 1 + 1 + 1, .slice po (len P) pc), (w.heap.size + 1 + 1, .slice none 0 0), (w.heap.size + 1, .slice bo (len M) cb), (w.heap.size, .slice ao (len N) ca)] [(.slice qa (len Q) qk, digs Q), (.slice po (len P) pc, digs P), (.slice bo (len M) cb, digs M), (.slice ao (len N) ca, digs N)] _) := Lib.hid (((EL.out.below hb).numN (hq.out : Nt _ _ Q)))
        clear p1 f1 EL hb hq
        obtain ⟨p2, f2, -, -, -⟩ := E4.out.box 0 rfl
        have E5 : Hid (EnvB w [(w.heap.size + 1 + 1 + 1, .slice qa (len Q) qk), (w.heap.size + 1 + 1, .slice none 0 0), (w.heap.size + 1, .slice bo (len M) cb), (w.heap.size, .slice ao (len N) ca)] [(.slice qa (len Q) qk, digs Q), (.slice po (len P) pc, digs P), (.slice bo (len M) cb, digs M), (.slice ao (len N) ca, digs N)] _) := Lib.hid ((E4.out.set 0 (.slice qa (len Q) qk) rfl ⟨_, _, _, rfl⟩))
        obtain ⟨p3, f3, -, -, -⟩ := E5.out.box 2 rfl
        go_wp2_with fail
        refine (CTt.out _ (E5.out.nt 2 rfl)).mono ?_
        rintro e w3 ⟨rfl, hb⟩
        have E6 : Hid (EnvB w [(w.heap.size + 1 + 1 + 1, .slice qa (len Q) qk), (w.heap.size + 1 + 1, .slice none 0 0), (w.heap.size + 1, .slice bo (len M) cb), (w.heap.size, .slice ao (len N) ca)] [(.slice qa (len Q) qk, digs Q), (.slice po (len P) pc, digs P), (.slice bo (len M) cb, digs M), (.slice ao (len N) ca, digs N)] _) := Lib.hid ((E5.out.below hb))
        clear p2 f2 p3 f3 E5 E4 hb
        obtain ⟨p4, f4, -, -, -⟩ := E6.out.box 0 rfl
        obtain ⟨p5, f5, -, -, -⟩ := E6.out.box 3 rfl
        go_wp2_with fail
        refine (CA2.out _ _ _ (E6.out.nt 0 rfl) (E6.out.nt 3 rfl)).mono ?_
        rintro e w4 ⟨⟨sa, sk, rfl, hs⟩, hb⟩
        have E7 : Hid (EnvB w [(w.heap.size + 1 + 1 + 1, .slice qa (len Q) qk), (w.heap.size + 1 + 1, .slice none 0 0), (w.heap.size + 1, .slice bo (len M) cb), (w.heap.size, .slice ao (len N) ca)] [(.slice sa (len R) sk, digs R), (.slice qa (len Q) qk, digs Q), (.slice po (len P) pc, digs P), (.slice bo (len M) cb, digs M), (.slice ao (len N) ca, digs N)] _) := Lib.hid (((E6.out.below hb).numN (hs.out : Nt _ _ R)))
        clear p4 f4 p5 f5 E6 hb hs
        obtain ⟨p6, f6, -, -, -⟩ := E7.out.box 0 rfl
        have E8 : Hid (EnvB w [(w.heap.size + 1 + 1 + 1, .slice sa (len R) sk), (w.heap.size + 1 + 1, .slice none 0 0), (w.heap.size + 1, .slice bo (len M) cb), (w.heap.size, .slice ao (len N) ca)] [(.slice sa (len R) sk, digs R), (.slice qa (len Q) qk, digs Q), (.slice po (len P) pc, digs P), (.slice bo (len M) cb, digs M), (.slice ao (len N) ca, digs N)] _) := Lib.hid ((E7.out.set 0 (.slice sa (len R) sk) rfl ⟨_, _, _, rfl⟩))
        have EZ := Lib.hid E8.out
        go_wp2
        go_roundg (j)
        case rel => exact ⟨j, R, sa, sk, rfl, Lib.hid ⟨EZ.out.1, EZ.out.2.1, ⟨EZ.out.sl 0 rfl, ⟨EZ.out.sl 3 rfl, ⟨EZ.out.sl 4 rfl, trivial⟩⟩⟩⟩, HK2⟩
        case measure => exact HM.out
theorem rMul_c {a b c : Value} {N M K r : Nat} {w : World} (hr : N * M % K = r) (hn : N < K) (h2 : len M ≤ 1000) (hk : len K ≤ 5000) (ha : Nt w a N) (hb : Nt w b M) (hc : Nt w c K) :
    Calls Try.prog 37 #[.agg #[a], .agg #[b], .agg #[c]] w fun e w' => RetV r e w' ∧ Below w.heap.size w w' := by
  obtain ⟨ao, ca, rfl, _⟩ := ha.open
  obtain ⟨bo, cb, rfl, _⟩ := hb.open
  obtain ⟨co, cc, rfl, _⟩ := hc.open
  subst hr
  exact rMul_w ao ca bo cb co cc N M K w ha hb hc hn h2 hk

theorem rTimes_c {a b : Value} {N M r : Nat} {w : World} (hr : N * M = r) (h1 : len N ≤ 1000) (h2 : len M ≤ 1000) (ha : Nt w a N) (hb : Nt w b M) :
    Calls Try.prog 42 #[.agg #[a], .agg #[b]] w fun e w' => RetV r e w' ∧ Below w.heap.size w w' := by
  obtain ⟨ao, ca, rfl, _⟩ := ha.open
  obtain ⟨bo, cb, rfl, _⟩ := hb.open
  subst hr
  exact rTimes_w ao ca bo cb N M w ha hb h1 h2

end Go.Proofs.Ythphmgdmhlimjaa

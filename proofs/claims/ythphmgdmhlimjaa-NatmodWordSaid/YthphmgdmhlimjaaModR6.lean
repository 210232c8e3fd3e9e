/- The reference: Inverse, Crt. -/
import Derived.Test.YthphmgdmhlimjaaModR5
namespace Go.Proofs.Ythphmgdmhlimjaa
open Go.RowKit NatMath
set_option linter.unusedVariables false

set_option maxRecDepth 100000 in
set_option maxHeartbeats 1000000 in
theorem rInv_w (ao : Option Addr) (ca : Nat) (bo : Option Addr) (cb : Nat) (N K : Nat) (V : Nat) (t : Bool) (w : World) (ha : Nt w (.slice ao (len N) ca) N) (hb : Nt w (.slice bo (len K) cb) K) (hV : invV N K = V) (ht : decide (invG N K = 1) = t) (hn : N < K) (hk : len K ≤ 64) :
    Calls Try.prog 31 #[.agg #[.slice ao (len N) ca], .agg #[.slice bo (len K) cb]] w fun e w' => ResB V t e w' ∧ Below w.heap.size w w' := by
  have hK0 : K ≠ 0 := by omega
  have CR := Lib.hid (fun (u : Value) (X : Nat) W (hx : len X ≤ 64) ha hb => @rMod_n u (.slice bo (len K) cb) X K (X % K) W rfl (by omega) hK0 (by omega) ha hb)
  have CM := Lib.hid (fun (u v : Value) (X Y : Nat) W hx hy ha hb hc => @rMul_c u v (.slice bo (len K) cb) X Y K (X * Y % K) W rfl hx (Nat.le_trans (len_le_of_lt hy hk) (by omega)) (by omega) ha hb hc)
  have CS := Lib.hid (fun (u v : Value) (X Y : Nat) W hx hy ha hb hc => @rSub_c u v (.slice bo (len K) cb) X Y K (subm X Y K) W rfl hx hy (by omega) ha hb hc)
  have hl1 : len 1 ≤ 64 := by rw [len_one]; omega
  have HS : Hid (InvS N K N K N 0 (1 % K)) := Lib.hid ⟨rfl, by omega, by have := len_le_of_lt hn hk; omega, by omega, Nat.mod_lt _ (by omega), rfl⟩
  have HK0 : Hid (0 < K) := Lib.hid (by omega)
  have HVT := Lib.hid (And.intro hV ht)
  clear hn hk hK0 hV ht
  have E0 : Hid (EnvB w [] [(.slice bo (len K) cb, digs K), (.slice ao (len N) ca, digs N)] w) := Lib.hid (((EnvB.start w).numN ha).numN hb)
  clear ha hb
  go_enter Try.func31, Try.ntmps31
  go_wp2_with fail
  have E1 : Hid (EnvB w [(w.heap.size + 1 + 1, .slice none 0 0), (w.heap.size + 1, .slice bo (len K) cb), (w.heap.size, .slice ao (len N) ca)] [(.slice bo (len K) cb, digs K), (.slice ao (len N) ca, digs N)] (((w.alloc (.cells #[.slice ao (len N) ca] 24)).alloc (.cells #[.slice bo (len K) cb] 24)).alloc (.cells #[.slice none 0 0] 24))) := Lib.hid ((((E0.out.push (.slice ao (len N) ca) 24 ⟨_, _, _, rfl⟩ (w.heap.size) (by simp)).push (.slice bo (len K) cb) 24 ⟨_, _, _, rfl⟩ (w.heap.size + 1) (by simp)).push (.slice none 0 0) 24 ⟨_, _, _, rfl⟩ (w.heap.size + 1 + 1) (by simp)))
  clear E0
  generalize ((w.alloc (.cells #[.slice ao (len N) ca] 24)).alloc (.cells #[.slice bo (len K) cb] 24)).alloc (.cells #[.slice none 0 0] 24) = w1 at *
  have E1d : Hid (EnvB w [(w.heap.size + 1 + 1, .slice none 0 0), (w.heap.size + 1, .slice bo (len K) cb), (w.heap.size, .slice ao (len N) ca)] [(.slice bo (len K) cb, digs K), (.slice ao (len N) ca, digs N)] w1.drew) := Lib.hid E1.out.drew
  have bx0 := Lib.hid (E1d.out.box 1 rfl)
  have bx1 := Lib.hid (E1d.out.box 2 rfl)
  refine wp_region_held_drew (S := fun w' => w'.cell? ⟨w.heap.size, 0, none⟩ = some (.slice ao (len N) ca)) (by kernel_rfl) ((E1d.out.box 2 rfl).1) (fun hHeld => ?_)
  refine takeW (i := 1) (some 12) (v := .agg #[.slice ao (len N) ca]) rfl rfl (by kernel_rfl) (by kernel_rfl) (by kernel_rfl) (fun _ _ _ h => h) (by rfl) hHeld ?_ ?_
  · (intro wS hSw; (try dsimp only at hSw); go_simp; try with_reducible rfl)
  simp only [Act.put, List.setIfInBounds_toArray, List.set_cons_zero, List.set_cons_succ]
  refine' wpAnyH_phase (fun _ _ h hb => (hb.cell (World.block_lt_of_cell? _ _ h)).trans h) [1] [0, 2, 3] (by kernel_rfl) _ (by kernel_rfl) _ (by kernel_rfl) #[true, true, true, true, false, false] (by kernel_rfl) 2 (by kernel_rfl) hHeld [PEq (.agg #[.slice bo (len K) cb]), PEq (.agg #[.slice ao (len N) ca]), PBox w1.heap.size, PBox w1.heap.size, Fact.none, Fact.none] (List.forall_mem_cons.2 ⟨PEq.st _, List.forall_mem_cons.2 ⟨PEq.st _, List.forall_mem_cons.2 ⟨PBox.st _, List.forall_mem_cons.2 ⟨PBox.st _, List.forall_mem_cons.2 ⟨Fact.none_st, List.forall_mem_cons.2 ⟨Fact.none_st, List.forall_mem_nil _⟩⟩⟩⟩⟩⟩) _ ?hFr1 ?hTr1 ?stepr1 ?doner1
  case hFr1 => intro x; simp only [frameL, Act.put, List.setIfInBounds_toArray, List.set_cons_zero, List.set_cons_succ, Nat.zero_add, Nat.reduceAdd]; exact rfl
  case hTr1 =>
    intro i hi
    obtain rfl : i = 1 := by simpa using hi
    exact rfl
  case stepr1 =>
    refine List.forall_mem_cons.2 ⟨?_, ?_⟩
    · intro xv bv ev WW hB hdp
      refine op_of rfl ?_
      clear hdp
      intro KK hKK
      obtain ⟨z, -, -, -, -⟩ := bx0.out.below hB
      go_simp
      exact act_eq (hKK.out (.agg #[.slice bo (len K) cb]) _ (Below.refl _ _) rfl) (by first | rfl | simp [upd])
    refine List.forall_mem_cons.2 ⟨?_, ?_⟩
    · intro xv bv ev WW hB hdp
      refine op_of rfl ?_
      clear hdp
      intro KK hKK
      go_simp
      exact act_eq (hKK.out (.pointer (some ⟨WW.heap.size, 0, none⟩)) _ (below_one _ _) (PBox.mk hB rfl _)) (by first | rfl | simp [upd])
    refine List.forall_mem_cons.2 ⟨?_, ?_⟩
    · intro xv bv ev WW hB hdp
      refine op_of rfl ?_
      clear hdp
      intro KK hKK
      go_simp
      exact act_eq (hKK.out (.pointer (some ⟨WW.heap.size, 0, none⟩)) _ (below_one _ _) (PBox.mk hB rfl _)) (by first | rfl | simp [upd])
    exact List.forall_mem_nil _
  intro xv bv ev w2 hB hSW hR hO
  have ed0 : xv 0 = .agg #[.slice bo (len K) cb] := hR 0 (by kernel_rfl)
  have ed1 : xv 1 = .agg #[.slice ao (len N) ca] := hR 1 (by kernel_rfl)
  obtain ⟨gr1_2, ed2, hg2, hb2, he2, hc2, hf2, hs2⟩ := (show (PBox w1.heap.size) (xv 2) (bv 2) (ev 2) w2 from hR 2 (by kernel_rfl))
  obtain ⟨gr1_3, ed3, hg3, hb3, he3, hc3, hf3, hs3⟩ := (show (PBox w1.heap.size) (xv 3) (bv 3) (ev 3) w2 from hR 3 (by kernel_rfl))
  simp only [ed0, ed1, ed2, ed3]
  have ne2_3 : gr1_2 ≠ gr1_3 := by have := hO 2 3 (by kernel_rfl) (by kernel_rfl) (by decide); omega
  have E2 : Hid (EnvB w [(gr1_3, .slice none 0 0), (gr1_2, .slice none 0 0), (w.heap.size + 1 + 1, .slice none 0 0), (w.heap.size + 1, .slice bo (len K) cb), (w.heap.size, .slice ao (len N) ca)] [(.slice bo (len K) cb, digs K), (.slice ao (len N) ca, digs N)] _) := Lib.hid ((((E1d.out.below hB).add gr1_2 (.slice none 0 0) ⟨hc2, hf2, hs2, Nat.le_trans E1.out.size hg2, ⟨_, _, _, rfl⟩⟩ (fun p hp => by have := E1.out.old p hp; omega)).add gr1_3 (.slice none 0 0) ⟨hc3, hf3, hs3, Nat.le_trans E1.out.size hg3, ⟨_, _, _, rfl⟩⟩ (List.forall_mem_cons.2 ⟨ne2_3, fun p hp => by have := E1.out.old p hp; omega⟩)))
  clear E1 hB hR hO hSW E1d bx0 bx1 ed0 ed1 ed2 ed3 hg2 hb2 he2 hc2 hf2 hs2 hg3 hb3 he3 hc3 hf3 hs3 ne2_3
  obtain ⟨p1, f1, -, -, -⟩ := E2.out.box 1 rfl
  refine wpAnyH_next (i := 4) (by kernel_rfl) rfl (fun KK hKK => ?_)
  go_simp
  have E3 : Hid (EnvB w [(gr1_3, .slice none 0 0), (gr1_2, .slice bo (len K) cb), (w.heap.size + 1 + 1, .slice none 0 0), (w.heap.size + 1, .slice bo (len K) cb), (w.heap.size, .slice ao (len N) ca)] [(.slice bo (len K) cb, digs K), (.slice ao (len N) ca, digs N)] _) := Lib.hid ((E2.out.set 1 (.slice bo (len K) cb) rfl ⟨_, _, _, rfl⟩))
  refine hKK.out _ _ ((E3.out.box 4 rfl).1) ?_
  clear hKK KK
  obtain ⟨p2, f2, -, -, -⟩ := E3.out.box 0 rfl
  refine wpAnyH_next (i := 5) (by kernel_rfl) rfl (fun KK hKK => ?_)
  go_simp
  have E4 : Hid (EnvB w [(gr1_3, .slice ao (len N) ca), (gr1_2, .slice bo (len K) cb), (w.heap.size + 1 + 1, .slice none 0 0), (w.heap.size + 1, .slice bo (len K) cb), (w.heap.size, .slice ao (len N) ca)] [(.slice bo (len K) cb, digs K), (.slice ao (len N) ca, digs N)] _) := Lib.hid ((E3.out.set 0 (.slice ao (len N) ca) rfl ⟨_, _, _, rfl⟩))
  refine hKK.out _ _ ((E4.out.box 4 rfl).1) ?_
  clear hKK KK
  refine wpAnyH_done (by kernel_rfl) ?_ _
  go_wp2_with fail
  have E5 : Hid (EnvB w [(gr1_3, .slice ao (len N) ca), (gr1_2, .slice bo (len K) cb), (w.heap.size + 1 + 1, .slice none 0 0), (w.heap.size + 1, .slice bo (len K) cb), (w.heap.size, .slice ao (len N) ca)] [(.slice bo (len K) cb, digs K), (.slice ao (len N) ca, digs N)] ((w2.setCell ⟨gr1_2, 0, none⟩ (.slice bo (len K) cb)).setCell ⟨gr1_3, 0, none⟩ (.slice ao (len N) ca))) := Lib.hid (E4.out)
  clear p1 f1 p2 f2 E4
  generalize (w2.setCell ⟨gr1_2, 0, none⟩ (.slice bo (len K) cb)).setCell ⟨gr1_3, 0, none⟩ (.slice ao (len N) ca) = w3 at *
  have bx0 := Lib.hid (E5.out.box 3 rfl)
  refine' wp_region_phase (by kernel_rfl) [0, 1, 2, 3, 4, 5] (by kernel_rfl) #[true, true, true, true, true, true, false, false] (by kernel_rfl) 2 (by kernel_rfl) [PEq (.agg #[.slice none 0 0]), PNum (1), PEq (.agg #[.slice bo (len K) cb]), PNum ((1 % K)), PBox w3.heap.size, PBox w3.heap.size, Fact.none, Fact.none] (List.forall_mem_cons.2 ⟨PEq.st _, List.forall_mem_cons.2 ⟨PNum.st _, List.forall_mem_cons.2 ⟨PEq.st _, List.forall_mem_cons.2 ⟨PNum.st _, List.forall_mem_cons.2 ⟨PBox.st _, List.forall_mem_cons.2 ⟨PBox.st _, List.forall_mem_cons.2 ⟨Fact.none_st, List.forall_mem_cons.2 ⟨Fact.none_st, List.forall_mem_nil _⟩⟩⟩⟩⟩⟩⟩⟩) _ ?hFr2 ?stepr2 ?doner2
  case hFr2 => intro x; simp only [frameL, Act.put, List.setIfInBounds_toArray, List.set_cons_zero, List.set_cons_succ, Nat.zero_add, Nat.reduceAdd]; exact rfl
  case stepr2 =>
    refine List.forall_mem_cons.2 ⟨?_, ?_⟩
    · intro xv bv ev WW hB hdp
      refine op_of rfl ?_
      clear hdp
      intro KK hKK
      go_simp
      exact act_eq (hKK.out _ _ (Below.refl _ _) rfl) (by first | rfl | simp [upd])
    refine List.forall_mem_cons.2 ⟨?_, ?_⟩
    · intro xv bv ev WW hB hdp
      refine op_of rfl ?_
      clear hdp
      intro KK hKK
      go_simp
      refine (rOf_c 1 _ (by decide)).mono ?_
      rintro e WW' ⟨⟨ia, ik, rfl, hi⟩, hb⟩
      (try dsimp only)
      (try simp only [Act.put, List.setIfInBounds_toArray, List.set_cons_zero, List.set_cons_succ])
      exact act_eq (hKK.out _ _ hb ⟨_, _, rfl, hi⟩) (by first | rfl | simp [upd])
    refine List.forall_mem_cons.2 ⟨?_, ?_⟩
    · intro xv bv ev WW hB hdp
      refine op_of rfl ?_
      clear hdp
      intro KK hKK
      obtain ⟨z, -, -, -, -⟩ := bx0.out.below hB
      go_simp
      exact act_eq (hKK.out (.agg #[.slice bo (len K) cb]) _ (Below.refl _ _) rfl) (by first | rfl | simp [upd])
    refine List.forall_mem_cons.2 ⟨?_, ?_⟩
    · intro xv bv ev WW hB hdp
      refine op_of rfl ?_
      obtain ⟨ia, ik, ed1, hi⟩ := (show (PNum (1)) (xv 1) (bv 1) (ev 1) WW from hdp 1 (by kernel_rfl))
      have ed2 : xv 2 = .agg #[.slice bo (len K) cb] := hdp 2 (by kernel_rfl)
      clear hdp
      intro KK hKK
      go_simp
      refine (CR.out _ _ _ hl1 hi.out ((E5.out.below hB).nt 0 rfl)).mono ?_
      rintro e WW' ⟨⟨ja, jk, rfl, hj⟩, hb⟩
      (try dsimp only)
      (try simp only [Act.put, List.setIfInBounds_toArray, List.set_cons_zero, List.set_cons_succ])
      exact act_eq (hKK.out _ _ hb ⟨_, _, rfl, hj⟩) (by first | rfl | simp [upd, ed1, ed2])
    refine List.forall_mem_cons.2 ⟨?_, ?_⟩
    · intro xv bv ev WW hB hdp
      refine op_of rfl ?_
      clear hdp
      intro KK hKK
      go_simp
      exact act_eq (hKK.out (.pointer (some ⟨WW.heap.size, 0, none⟩)) _ (below_one _ _) (PBox.mk hB rfl _)) (by first | rfl | simp [upd])
    refine List.forall_mem_cons.2 ⟨?_, ?_⟩
    · intro xv bv ev WW hB hdp
      refine op_of rfl ?_
      clear hdp
      intro KK hKK
      go_simp
      exact act_eq (hKK.out (.pointer (some ⟨WW.heap.size, 0, none⟩)) _ (below_one _ _) (PBox.mk hB rfl _)) (by first | rfl | simp [upd])
    exact List.forall_mem_nil _
  intro xv bv ev w4 hB hR hO
  have ed0 : xv 0 = .agg #[.slice none 0 0] := hR 0 (by kernel_rfl)
  obtain ⟨ia, ik, ed1, hi⟩ := (show (PNum (1)) (xv 1) (bv 1) (ev 1) w4 from hR 1 (by kernel_rfl))
  have ed2 : xv 2 = .agg #[.slice bo (len K) cb] := hR 2 (by kernel_rfl)
  obtain ⟨ja, jk, ed3, hj⟩ := (show (PNum ((1 % K))) (xv 3) (bv 3) (ev 3) w4 from hR 3 (by kernel_rfl))
  obtain ⟨gr2_4, ed4, hg4, hb4, he4, hc4, hf4, hs4⟩ := (show (PBox w3.heap.size) (xv 4) (bv 4) (ev 4) w4 from hR 4 (by kernel_rfl))
  obtain ⟨gr2_5, ed5, hg5, hb5, he5, hc5, hf5, hs5⟩ := (show (PBox w3.heap.size) (xv 5) (bv 5) (ev 5) w4 from hR 5 (by kernel_rfl))
  simp only [ed0, ed1, ed2, ed3, ed4, ed5]
  have ne4_5 : gr2_4 ≠ gr2_5 := by have := hO 4 5 (by kernel_rfl) (by kernel_rfl) (by decide); omega
  have E6 : Hid (EnvB w [(gr2_5, .slice none 0 0), (gr2_4, .slice none 0 0), (gr1_3, .slice ao (len N) ca), (gr1_2, .slice bo (len K) cb), (w.heap.size + 1 + 1, .slice none 0 0), (w.heap.size + 1, .slice bo (len K) cb), (w.heap.size, .slice ao (len N) ca)] [(.slice ja (len (1 % K)) jk, digs (1 % K)), (.slice ia (len 1) ik, digs 1), (.slice bo (len K) cb, digs K), (.slice ao (len N) ca, digs N)] _) := Lib.hid ((((((E5.out.below hB).add gr2_4 (.slice none 0 0) ⟨hc4, hf4, hs4, Nat.le_trans E5.out.size hg4, ⟨_, _, _, rfl⟩⟩ (fun p hp => by have := E5.out.old p hp; omega)).add gr2_5 (.slice none 0 0) ⟨hc5, hf5, hs5, Nat.le_trans E5.out.size hg5, ⟨_, _, _, rfl⟩⟩ (List.forall_mem_cons.2 ⟨ne4_5, fun p hp => by have := E5.out.old p hp; omega⟩)).numN (hi.out : Nt _ _ (1))).numN (hj.out : Nt _ _ ((1 % K)))))
  clear E5 E2 E3 hB hR hO bx0 ed0 ed1 ed2 ed3 ed4 ed5 hi hj hg4 hb4 he4 hc4 hf4 hs4 hg5 hb5 he5 hc5 hf5 hs5 ne4_5
  obtain ⟨p3, f3, -, -, -⟩ := E6.out.box 1 rfl
  refine wpAny_next (i := 6) (by kernel_rfl) rfl (fun KK hKK => ?_)
  go_simp
  have E7 : Hid (EnvB w [(gr2_5, .slice none 0 0), (gr2_4, .slice none 0 0), (gr1_3, .slice ao (len N) ca), (gr1_2, .slice bo (len K) cb), (w.heap.size + 1 + 1, .slice none 0 0), (w.heap.size + 1, .slice bo (len K) cb), (w.heap.size, .slice ao (len N) ca)] [(.slice ja (len (1 % K)) jk, digs (1 % K)), (.slice ia (len 1) ik, digs 1), (.slice bo (len K) cb, digs K), (.slice ao (len N) ca, digs N)] _) := Lib.hid ((E6.out.set 1 (.slice none 0 0) rfl ⟨_, _, _, rfl⟩))
  refine hKK.out _ _ ?_
  clear hKK KK
  obtain ⟨p4, f4, -, -, -⟩ := E7.out.box 0 rfl
  refine wpAny_next (i := 7) (by kernel_rfl) rfl (fun KK hKK => ?_)
  go_simp
  have E8 : Hid (EnvB w [(gr2_5, .slice ja (len (1 % K)) jk), (gr2_4, .slice none 0 0), (gr1_3, .slice ao (len N) ca), (gr1_2, .slice bo (len K) cb), (w.heap.size + 1 + 1, .slice none 0 0), (w.heap.size + 1, .slice bo (len K) cb), (w.heap.size, .slice ao (len N) ca)] [(.slice ja (len (1 % K)) jk, digs (1 % K)), (.slice ia (len 1) ik, digs 1), (.slice bo (len K) cb, digs K), (.slice ao (len N) ca, digs N)] _) := Lib.hid ((E7.out.set 0 (.slice ja (len (1 % K)) jk) rfl ⟨_, _, _, rfl⟩))
  refine hKK.out _ _ ?_
  clear hKK KK
  refine wpAny_done (by kernel_rfl) ?_ _
  have E9 : Hid (EnvB w [(gr2_5, .slice ja (len (1 % K)) jk), (gr2_4, .slice none 0 0), (gr1_3, .slice ao (len N) ca), (gr1_2, .slice bo (len K) cb), (w.heap.size + 1 + 1, .slice none 0 0), (w.heap.size + 1, .slice bo (len K) cb), (w.heap.size, .slice ao (len N) ca)] [(.slice ja (len (1 % K)) jk, digs (1 % K)), (.slice ia (len 1) ik, digs 1), (.slice bo (len K) cb, digs K), (.slice ao (len N) ca, digs N)] _) := Lib.hid (E8.out)
  have E10 : Hid (EnvB w [(gr2_5, .slice ja (len (1 % K)) jk), (gr2_4, .slice none (len 0) 0), (gr1_3, .slice ao (len N) ca), (gr1_2, .slice bo (len K) cb), (w.heap.size + 1 + 1, .slice none 0 0), (w.heap.size + 1, .slice bo (len K) cb), (w.heap.size, .slice ao (len N) ca)] [(.slice none (len 0) 0, digs 0), (.slice ja (len (1 % K)) jk, digs (1 % K)), (.slice ia (len 1) ik, digs 1), (.slice bo (len K) cb, digs K), (.slice ao (len N) ca, digs N)] _) := Lib.hid (by have hz := (E9.out.numN (Nt.zero _ : Nt _ _ 0)); simp only [len_zero] at hz ⊢; exact hz)
  go_wp2_with fail
  have E11 : Hid (EnvB w [(gr2_5, .slice ja (len (1 % K)) jk), (gr2_4, .slice none (len 0) 0), (gr1_3, .slice ao (len N) ca), (gr1_2, .slice bo (len K) cb), (w.heap.size + 1 + 1, .slice none 0 0), (w.heap.size + 1, .slice bo (len K) cb), (w.heap.size, .slice ao (len N) ca)] [(.slice none (len 0) 0, digs 0), (.slice ja (len (1 % K)) jk, digs (1 % K)), (.slice ia (len 1) ik, digs 1), (.slice bo (len K) cb, digs K), (.slice ao (len N) ca, digs N)] _) := Lib.hid (E10.out)
  go_loopg [] (N) (fun gk  wr => ∃ (R Y T F : Nat) (ro yo tl fo : Option Addr) (rc yc tc fc : Nat), Hid (EnvB w [(gr2_5, .slice fo (len F) fc), (gr2_4, .slice tl (len T) tc), (gr1_3, .slice yo (len Y) yc), (gr1_2, .slice ro (len R) rc), (w.heap.size + 1 + 1, .slice none 0 0), (w.heap.size + 1, .slice bo (len K) cb), (w.heap.size, .slice ao (len N) ca)] [(.slice fo (len F) fc, digs F), (.slice tl (len T) tc, digs T), (.slice yo (len Y) yc, digs Y), (.slice ro (len R) rc, digs R), (.slice bo (len K) cb, digs K), (.slice ao (len N) ca, digs N)] wr) ∧ Hid (InvS N K gk R Y T F))
  case atStart => exact ⟨K, N, 0, 1 % K, bo, ao, none, ja, cb, ca, 0, jk, Lib.hid ⟨E11.out.1, E11.out.2.1, ⟨E11.out.sl 1 rfl, ⟨E11.out.sl 0 rfl, ⟨E11.out.sl 4 rfl, ⟨E11.out.sl 3 rfl, ⟨E11.out.sl 3 rfl, ⟨E11.out.sl 4 rfl, trivial⟩⟩⟩⟩⟩⟩⟩, HS⟩
  case round =>
    clear p3 f3 p4 f4 E11 E6 E7 E8 E9 E10 HS
    obtain ⟨R, Y, T, F, ro, yo, tl, fo, rc, yc, tc, fc, EL, HA⟩ := hrel
    by_cases hy : Y = 0
    · obtain ⟨a1, a2, a3, a4, a5, a6⟩ := HA.out
      have hR : invV N K = T ∧ invG N K = R := by rw [hy, inv_zero] at a6; unfold invV invG; rw [← a6]; exact ⟨rfl, rfl⟩
      obtain rfl : T = V := hR.1.symm.trans HVT.out.1
      have t1 : len Y = 0 := len_eq_zero.2 hy
      have t2 : decide (0 < (len Y : Int)) = false := decide_eq_false (by omega)
      have t3 : decide (0 < len Y) = false := decide_eq_false (by omega)
      have CC := Lib.hid (fun (u v : Value) W ha hb => @rSame_c u v R 1 t W (by rw [← hR.2]; exact HVT.out.2) ha hb)
      clear HA a1 a2 a3 a4 a5 a6 hy t1 CR CM CS hR HVT
      obtain ⟨p5, f5, -, -, -⟩ := EL.out.box 2 rfl
      go_wp2_with fail
      have bx0 := Lib.hid (EL.out.box 1 rfl)
      have bx1 := Lib.hid (EL.out.box 3 rfl)
      clear p5 f5
      refine' wp_region_phase (by kernel_rfl) [0, 1, 2, 3] (by kernel_rfl) #[true, true, true, true, false, false] (by kernel_rfl) 2 (by kernel_rfl) [PEq (.agg #[.slice tl (len T) tc]), PEq (.agg #[.slice ro (len R) rc]), PNum (1), PEq (.bool t), Fact.none, Fact.none] (List.forall_mem_cons.2 ⟨PEq.st _, List.forall_mem_cons.2 ⟨PEq.st _, List.forall_mem_cons.2 ⟨PNum.st _, List.forall_mem_cons.2 ⟨PEq.st _, List.forall_mem_cons.2 ⟨Fact.none_st, List.forall_mem_cons.2 ⟨Fact.none_st, List.forall_mem_nil _⟩⟩⟩⟩⟩⟩) _ ?hFr3 ?stepr3 ?doner3
      case hFr3 => intro x; simp only [frameL, Act.put, List.setIfInBounds_toArray, List.set_cons_zero, List.set_cons_succ, Nat.zero_add, Nat.reduceAdd]; exact rfl
      case stepr3 =>
        refine List.forall_mem_cons.2 ⟨?_, ?_⟩
        · intro xv bv ev WW hB hdp
          refine op_of rfl ?_
          clear hdp
          intro KK hKK
          obtain ⟨z, -, -, -, -⟩ := bx0.out.below hB
          go_simp
          exact act_eq (hKK.out (.agg #[.slice tl (len T) tc]) _ (Below.refl _ _) rfl) (by first | rfl | simp [upd])
        refine List.forall_mem_cons.2 ⟨?_, ?_⟩
        · intro xv bv ev WW hB hdp
          refine op_of rfl ?_
          clear hdp
          intro KK hKK
          obtain ⟨z, -, -, -, -⟩ := bx1.out.below hB
          go_simp
          exact act_eq (hKK.out (.agg #[.slice ro (len R) rc]) _ (Below.refl _ _) rfl) (by first | rfl | simp [upd])
        refine List.forall_mem_cons.2 ⟨?_, ?_⟩
        · intro xv bv ev WW hB hdp
          refine op_of rfl ?_
          clear hdp
          intro KK hKK
          go_simp
          refine (rOf_c 1 _ (by decide)).mono ?_
          rintro e WW' ⟨⟨ia, ik, rfl, hi⟩, hb⟩
          (try dsimp only)
          (try simp only [Act.put, List.setIfInBounds_toArray, List.set_cons_zero, List.set_cons_succ])
          exact act_eq (hKK.out _ _ hb ⟨_, _, rfl, hi⟩) (by first | rfl | simp [upd])
        refine List.forall_mem_cons.2 ⟨?_, ?_⟩
        · intro xv bv ev WW hB hdp
          refine op_of rfl ?_
          have ed1 : xv 1 = .agg #[.slice ro (len R) rc] := hdp 1 (by kernel_rfl)
          obtain ⟨ia, ik, ed2, hi⟩ := (show (PNum (1)) (xv 2) (bv 2) (ev 2) WW from hdp 2 (by kernel_rfl))
          clear hdp
          intro KK hKK
          go_simp
          refine (CC.out _ _ _ ((EL.out.below hB).nt 3 rfl) hi.out).mono ?_
          rintro e WW' ⟨rfl, hb⟩
          (try dsimp only)
          (try simp only [Act.put, List.setIfInBounds_toArray, List.set_cons_zero, List.set_cons_succ])
          exact act_eq (hKK.out _ _ hb rfl) (by first | rfl | simp [upd, ed1, ed2])
        exact List.forall_mem_nil _
      intro xv bv ev w5 hB hR hO
      have ed0 : xv 0 = .agg #[.slice tl (len T) tc] := hR 0 (by kernel_rfl)
      have ed1 : xv 1 = .agg #[.slice ro (len R) rc] := hR 1 (by kernel_rfl)
      obtain ⟨ia, ik, ed2, hi⟩ := (show (PNum (1)) (xv 2) (bv 2) (ev 2) w5 from hR 2 (by kernel_rfl))
      have ed3 : xv 3 = .bool t := hR 3 (by kernel_rfl)
      simp only [ed0, ed1, ed2, ed3]
      have E12 : Hid (EnvB w [(gr2_5, .slice fo (len F) fc), (gr2_4, .slice tl (len T) tc), (gr1_3, .slice yo (len Y) yc), (gr1_2, .slice ro (len R) rc), (w.heap.size + 1 + 1, .slice none 0 0), (w.heap.size + 1, .slice bo (len K) cb), (w.heap.size, .slice ao (len N) ca)] [(.slice ia (len 1) ik, digs 1), (.slice fo (len F) fc, digs F), (.slice tl (len T) tc, digs T), (.slice yo (len Y) yc, digs Y), (.slice ro (len R) rc, digs R), (.slice bo (len K) cb, digs K), (.slice ao (len N) ca, digs N)] _) := Lib.hid (((EL.out.below hB).numN (hi.out : Nt _ _ (1))))
      clear EL hB hR hO bx0 bx1 ed0 ed1 ed2 ed3 hi
      obtain ⟨p6, f6, -, -, -⟩ := E12.out.box 4 rfl
      refine wpAny_next (i := 4) (by kernel_rfl) rfl (fun KK hKK => ?_)
      go_simp
      have E13 : Hid (EnvB w [(gr2_5, .slice fo (len F) fc), (gr2_4, .slice tl (len T) tc), (gr1_3, .slice yo (len Y) yc), (gr1_2, .slice ro (len R) rc), (w.heap.size + 1 + 1, .slice tl (len T) tc), (w.heap.size + 1, .slice bo (len K) cb), (w.heap.size, .slice ao (len N) ca)] [(.slice ia (len 1) ik, digs 1), (.slice fo (len F) fc, digs F), (.slice tl (len T) tc, digs T), (.slice yo (len Y) yc, digs Y), (.slice ro (len R) rc, digs R), (.slice bo (len K) cb, digs K), (.slice ao (len N) ca, digs N)] _) := Lib.hid ((E12.out.set 4 (.slice tl (len T) tc) rfl ⟨_, _, _, rfl⟩))
      refine hKK.out _ _ ?_
      clear hKK KK
      refine wpAny_next (i := 5) (by kernel_rfl) rfl (fun KK hKK => ?_)
      go_simp
      refine hKK.out _ _ ?_
      clear hKK KK
      refine wpAny_done (by kernel_rfl) ?_ _
      have E14 : Hid (EnvB w [(gr2_5, .slice fo (len F) fc), (gr2_4, .slice tl (len T) tc), (gr1_3, .slice yo (len Y) yc), (gr1_2, .slice ro (len R) rc), (w.heap.size + 1 + 1, .slice tl (len T) tc), (w.heap.size + 1, .slice bo (len K) cb), (w.heap.size, .slice ao (len N) ca)] [(.slice ia (len 1) ik, digs 1), (.slice fo (len F) fc, digs F), (.slice tl (len T) tc, digs T), (.slice yo (len Y) yc, digs Y), (.slice ro (len R) rc, digs R), (.slice bo (len K) cb, digs K), (.slice ao (len N) ca, digs N)] _) := Lib.hid (E13.out)
      have hfin := Lib.hid E14.out
      obtain ⟨rc, -, -, -, -⟩ := E14.out.box 4 rfl
      go_wp2
      exact bodyPost_ret (v := .tuple #[.agg #[.slice tl (len T) tc], .bool t]) (by simp [results, Try.results31, go_sem, rc]) rfl ⟨⟨_, _, rfl, Lib.hid (hfin.out.nt 2 rfl)⟩, hfin.out.1⟩
    · have HK2 := Lib.hid (HA.out.step hy).1
      have HM := Lib.hid (HA.out.step hy).2
      obtain ⟨a1, a2, a3, a4, a5, a6⟩ := HA.out
      have t1 : len Y ≠ 0 := fun e => hy (len_eq_zero.1 e)
      have t2 : decide (0 < (len Y : Int)) = true := decide_eq_true (by omega)
      have t3 : decide (0 < len Y) = true := decide_eq_true (by omega)
      have CO := Lib.hid (fun (u v : Value) W ha hb => @rOver_c u v R Y (R / Y) W rfl (by omega) (by omega) hy ha hb)
      have CD := Lib.hid (fun (u v : Value) W ha hb => @rMod_n u v R Y (R % Y) W rfl (by omega) hy (by omega) ha hb)
      have CR1 := Lib.hid (fun (u : Value) W ha hb => CR.out u (R / Y) W (Nat.le_trans (len_le_of_le (Nat.div_le_self _ _)) a2) ha hb)
      have hq : R / Y % K < K := Nat.mod_lt _ (by omega)
      have CM1 := Lib.hid (fun (u v : Value) W ha hb hc => CM.out u v (R / Y % K) F W hq a5 ha hb hc)
      have hz : R / Y % K * F % K < K := Nat.mod_lt _ (by omega)
      have CS1 := Lib.hid (fun (u v : Value) W ha hb hc => CS.out u v T (R / Y % K * F % K) W a4 hz ha hb hc)
      clear HA a1 a2 a3 a4 a5 a6 hy t1 CR CM CS hq hz
      generalize subm T (R / Y % K * F % K) K = S at *
      generalize R / Y % K * F % K = Z at *
      generalize R / Y % K = X at *
      generalize R / Y = Q at *
      generalize R % Y = U at *
      obtain ⟨p5, f5, -, -, -⟩ := EL.out.box 2 rfl
      obtain ⟨p6, f6, -, -, -⟩ := EL.out.box 3 rfl
      go_wp2_with fail
      refine (CO.out _ _ _ (EL.out.nt 3 rfl) (EL.out.nt 2 rfl)).mono ?_
      rintro e w5 ⟨⟨qa, qk, rfl, hq⟩, hb⟩
      have E12 : Hid (EnvB w [(gr2_5, .slice fo (len F) fc), (gr2_4, .slice tl (len T) tc), (gr1_3, .slice yo (len Y) yc), (gr1_2, .slice ro (len R) rc), (w.heap.size + 1 + 1, .slice none 0 0), (w.heap.size + 1, .slice bo (len K) cb), (w.heap.size, .slice ao (len N) ca)] [(.slice qa (len Q) qk, digs Q), (.slice fo (len F) fc, digs F), (.slice tl (len T) tc, digs T), (.slice yo (len Y) yc, digs Y), (.slice ro (len R) rc, digs R), (.slice bo (len K) cb, digs K), (.slice ao (len N) ca, digs N)] _) := Lib.hid (((EL.out.below hb).numN (hq.out : Nt _ _ Q)))
      clear p5 f5 p6 f6 EL hb hq
      go_wp2_with fail
      have E13 : Hid (EnvB w [(w5.heap.size, .slice qa (len Q) qk), (gr2_5, .slice fo (len F) fc), (gr2_4, .slice tl (len T) tc), (gr1_3, .slice yo (len Y) yc), (gr1_2, .slice ro (len R) rc), (w.heap.size + 1 + 1, .slice none 0 0), (w.heap.size + 1, .slice bo (len K) cb), (w.heap.size, .slice ao (len N) ca)] [(.slice qa (len Q) qk, digs Q), (.slice fo (len F) fc, digs F), (.slice tl (len T) tc, digs T), (.slice yo (len Y) yc, digs Y), (.slice ro (len R) rc, digs R), (.slice bo (len K) cb, digs K), (.slice ao (len N) ca, digs N)] (w5.alloc (.cells #[.slice qa (len Q) qk] 24))) := Lib.hid ((E12.out.push (.slice qa (len Q) qk) 24 ⟨_, _, _, rfl⟩ (w5.heap.size) (by simp)))
      clear E12
      generalize w5.alloc (.cells #[.slice qa (len Q) qk] 24) = w6 at *
      have bx0 := Lib.hid (E13.out.box 3 rfl)
      have bx1 := Lib.hid (E13.out.box 4 rfl)
      refine' wp_region_phase (by kernel_rfl) [0, 1, 2, 3] (by kernel_rfl) #[true, true, true, true, false, false] (by kernel_rfl) 2 (by kernel_rfl) [PEq (.agg #[.slice yo (len Y) yc]), PEq (.agg #[.slice ro (len R) rc]), PEq (.agg #[.slice yo (len Y) yc]), PNum (U), Fact.none, Fact.none] (List.forall_mem_cons.2 ⟨PEq.st _, List.forall_mem_cons.2 ⟨PEq.st _, List.forall_mem_cons.2 ⟨PEq.st _, List.forall_mem_cons.2 ⟨PNum.st _, List.forall_mem_cons.2 ⟨Fact.none_st, List.forall_mem_cons.2 ⟨Fact.none_st, List.forall_mem_nil _⟩⟩⟩⟩⟩⟩) _ ?hFr4 ?stepr4 ?doner4
      case hFr4 => intro x; simp only [frameL, Act.put, List.setIfInBounds_toArray, List.set_cons_zero, List.set_cons_succ, Nat.zero_add, Nat.reduceAdd]; exact rfl
      case stepr4 =>
        refine List.forall_mem_cons.2 ⟨?_, ?_⟩
        · intro xv bv ev WW hB hdp
          refine op_of rfl ?_
          clear hdp
          intro KK hKK
          obtain ⟨z, -, -, -, -⟩ := bx0.out.below hB
          go_simp
          exact act_eq (hKK.out (.agg #[.slice yo (len Y) yc]) _ (Below.refl _ _) rfl) (by first | rfl | simp [upd])
        refine List.forall_mem_cons.2 ⟨?_, ?_⟩
        · intro xv bv ev WW hB hdp
          refine op_of rfl ?_
          clear hdp
          intro KK hKK
          obtain ⟨z, -, -, -, -⟩ := bx1.out.below hB
          go_simp
          exact act_eq (hKK.out (.agg #[.slice ro (len R) rc]) _ (Below.refl _ _) rfl) (by first | rfl | simp [upd])
        refine List.forall_mem_cons.2 ⟨?_, ?_⟩
        · intro xv bv ev WW hB hdp
          refine op_of rfl ?_
          clear hdp
          intro KK hKK
          obtain ⟨z, -, -, -, -⟩ := bx0.out.below hB
          go_simp
          exact act_eq (hKK.out (.agg #[.slice yo (len Y) yc]) _ (Below.refl _ _) rfl) (by first | rfl | simp [upd])
        refine List.forall_mem_cons.2 ⟨?_, ?_⟩
        · intro xv bv ev WW hB hdp
          refine op_of rfl ?_
          have ed1 : xv 1 = .agg #[.slice ro (len R) rc] := hdp 1 (by kernel_rfl)
          have ed2 : xv 2 = .agg #[.slice yo (len Y) yc] := hdp 2 (by kernel_rfl)
          clear hdp
          intro KK hKK
          go_simp
          refine (CD.out _ _ _ ((E13.out.below hB).nt 4 rfl) ((E13.out.below hB).nt 3 rfl)).mono ?_
          rintro e WW' ⟨⟨ua, uk, rfl, hu⟩, hb⟩
          (try dsimp only)
          (try simp only [Act.put, List.setIfInBounds_toArray, List.set_cons_zero, List.set_cons_succ])
          exact act_eq (hKK.out _ _ hb ⟨_, _, rfl, hu⟩) (by first | rfl | simp [upd, ed1, ed2])
        exact List.forall_mem_nil _
      intro xv bv ev w7 hB hR hO
      have ed0 : xv 0 = .agg #[.slice yo (len Y) yc] := hR 0 (by kernel_rfl)
      have ed1 : xv 1 = .agg #[.slice ro (len R) rc] := hR 1 (by kernel_rfl)
      have ed2 : xv 2 = .agg #[.slice yo (len Y) yc] := hR 2 (by kernel_rfl)
      obtain ⟨ua, uk, ed3, hu⟩ := (show (PNum (U)) (xv 3) (bv 3) (ev 3) w7 from hR 3 (by kernel_rfl))
      simp only [ed0, ed1, ed2, ed3]
      have E14 : Hid (EnvB w [(w5.heap.size, .slice qa (len Q) qk), (gr2_5, .slice fo (len F) fc), (gr2_4, .slice tl (len T) tc), (gr1_3, .slice yo (len Y) yc), (gr1_2, .slice ro (len R) rc), (w.heap.size + 1 + 1, .slice none 0 0), (w.heap.size + 1, .slice bo (len K) cb), (w.heap.size, .slice ao (len N) ca)] [(.slice ua (len U) uk, digs U), (.slice qa (len Q) qk, digs Q), (.slice fo (len F) fc, digs F), (.slice tl (len T) tc, digs T), (.slice yo (len Y) yc, digs Y), (.slice ro (len R) rc, digs R), (.slice bo (len K) cb, digs K), (.slice ao (len N) ca, digs N)] _) := Lib.hid (((E13.out.below hB).numN (hu.out : Nt _ _ (U))))
      clear E13 hB hR hO bx0 bx1 ed0 ed1 ed2 ed3 hu
      obtain ⟨p7, f7, -, -, -⟩ := E14.out.box 4 rfl
      refine wpAny_next (i := 4) (by kernel_rfl) rfl (fun KK hKK => ?_)
      go_simp
      have E15 : Hid (EnvB w [(w5.heap.size, .slice qa (len Q) qk), (gr2_5, .slice fo (len F) fc), (gr2_4, .slice tl (len T) tc), (gr1_3, .slice yo (len Y) yc), (gr1_2, .slice yo (len Y) yc), (w.heap.size + 1 + 1, .slice none 0 0), (w.heap.size + 1, .slice bo (len K) cb), (w.heap.size, .slice ao (len N) ca)] [(.slice ua (len U) uk, digs U), (.slice qa (len Q) qk, digs Q), (.slice fo (len F) fc, digs F), (.slice tl (len T) tc, digs T), (.slice yo (len Y) yc, digs Y), (.slice ro (len R) rc, digs R), (.slice bo (len K) cb, digs K), (.slice ao (len N) ca, digs N)] _) := Lib.hid ((E14.out.set 4 (.slice yo (len Y) yc) rfl ⟨_, _, _, rfl⟩))
      refine hKK.out _ _ ?_
      clear hKK KK
      obtain ⟨p8, f8, -, -, -⟩ := E15.out.box 3 rfl
      refine wpAny_next (i := 5) (by kernel_rfl) rfl (fun KK hKK => ?_)
      go_simp
      have E16 : Hid (EnvB w [(w5.heap.size, .slice qa (len Q) qk), (gr2_5, .slice fo (len F) fc), (gr2_4, .slice tl (len T) tc), (gr1_3, .slice ua (len U) uk), (gr1_2, .slice yo (len Y) yc), (w.heap.size + 1 + 1, .slice none 0 0), (w.heap.size + 1, .slice bo (len K) cb), (w.heap.size, .slice ao (len N) ca)] [(.slice ua (len U) uk, digs U), (.slice qa (len Q) qk, digs Q), (.slice fo (len F) fc, digs F), (.slice tl (len T) tc, digs T), (.slice yo (len Y) yc, digs Y), (.slice ro (len R) rc, digs R), (.slice bo (len K) cb, digs K), (.slice ao (len N) ca, digs N)] _) := Lib.hid ((E15.out.set 3 (.slice ua (len U) uk) rfl ⟨_, _, _, rfl⟩))
      refine hKK.out _ _ ?_
      clear hKK KK
      refine wpAny_done (by kernel_rfl) ?_ _
      go_wp2_with fail
      have E17 : Hid (EnvB w [(w5.heap.size, .slice qa (len Q) qk), (gr2_5, .slice fo (len F) fc), (gr2_4, .slice tl (len T) tc), (gr1_3, .slice ua (len U) uk), (gr1_2, .slice yo (len Y) yc), (w.heap.size + 1 + 1, .slice none 0 0), (w.heap.size + 1, .slice bo (len K) cb), (w.heap.size, .slice ao (len N) ca)] [(.slice ua (len U) uk, digs U), (.slice qa (len Q) qk, digs Q), (.slice fo (len F) fc, digs F), (.slice tl (len T) tc, digs T), (.slice yo (len Y) yc, digs Y), (.slice ro (len R) rc, digs R), (.slice bo (len K) cb, digs K), (.slice ao (len N) ca, digs N)] ((w7.setCell ⟨gr1_2, 0, none⟩ (.slice yo (len Y) yc)).setCell ⟨gr1_3, 0, none⟩ (.slice ua (len U) uk))) := Lib.hid (E16.out)
      clear p7 f7 p8 f8 E16
      generalize (w7.setCell ⟨gr1_2, 0, none⟩ (.slice yo (len Y) yc)).setCell ⟨gr1_3, 0, none⟩ (.slice ua (len U) uk) = w8 at *
      have bx0 := Lib.hid (E17.out.box 1 rfl)
      have bx1 := Lib.hid (E17.out.box 2 rfl)
      have bx2 := Lib.hid (E17.out.box 0 rfl)
      have bx3 := Lib.hid (E17.out.box 6 rfl)
      refine' wp_region_phase (by kernel_rfl) [0, 1, 2, 3, 4, 5, 6, 7, 8, 9] (by kernel_rfl) #[true, true, true, true, true, true, true, true, true, true, false, false] (by kernel_rfl) 2 (by kernel_rfl) [PEq (.agg #[.slice fo (len F) fc]), PEq (.agg #[.slice tl (len T) tc]), PEq (.agg #[.slice qa (len Q) qk]), PEq (.agg #[.slice bo (len K) cb]), PNum (X), PEq (.agg #[.slice fo (len F) fc]), PEq (.agg #[.slice bo (len K) cb]), PNum (Z), PEq (.agg #[.slice bo (len K) cb]), PNum (S), Fact.none, Fact.none] (List.forall_mem_cons.2 ⟨PEq.st _, List.forall_mem_cons.2 ⟨PEq.st _, List.forall_mem_cons.2 ⟨PEq.st _, List.forall_mem_cons.2 ⟨PEq.st _, List.forall_mem_cons.2 ⟨PNum.st _, List.forall_mem_cons.2 ⟨PEq.st _, List.forall_mem_cons.2 ⟨PEq.st _, List.forall_mem_cons.2 ⟨PNum.st _, List.forall_mem_cons.2 ⟨PEq.st _, List.forall_mem_cons.2 ⟨PNum.st _, List.forall_mem_cons.2 ⟨Fact.none_st, List.forall_mem_cons.2 ⟨Fact.none_st, List.forall_mem_nil _⟩⟩⟩⟩⟩⟩⟩⟩⟩⟩⟩⟩) _ ?hFr5 ?stepr5 ?doner5
      case hFr5 => intro x; simp only [frameL, Act.put, List.setIfInBounds_toArray, List.set_cons_zero, List.set_cons_succ, Nat.zero_add, Nat.reduceAdd]; exact rfl
      case stepr5 =>
        refine List.forall_mem_cons.2 ⟨?_, ?_⟩
        · intro xv bv ev WW hB hdp
          refine op_of rfl ?_
          clear hdp
          intro KK hKK
          obtain ⟨z, -, -, -, -⟩ := bx0.out.below hB
          go_simp
          exact act_eq (hKK.out (.agg #[.slice fo (len F) fc]) _ (Below.refl _ _) rfl) (by first | rfl | simp [upd])
        refine List.forall_mem_cons.2 ⟨?_, ?_⟩
        · intro xv bv ev WW hB hdp
          refine op_of rfl ?_
          clear hdp
          intro KK hKK
          obtain ⟨z, -, -, -, -⟩ := bx1.out.below hB
          go_simp
          exact act_eq (hKK.out (.agg #[.slice tl (len T) tc]) _ (Below.refl _ _) rfl) (by first | rfl | simp [upd])
        refine List.forall_mem_cons.2 ⟨?_, ?_⟩
        · intro xv bv ev WW hB hdp
          refine op_of rfl ?_
          clear hdp
          intro KK hKK
          obtain ⟨z, -, -, -, -⟩ := bx2.out.below hB
          go_simp
          exact act_eq (hKK.out (.agg #[.slice qa (len Q) qk]) _ (Below.refl _ _) rfl) (by first | rfl | simp [upd])
        refine List.forall_mem_cons.2 ⟨?_, ?_⟩
        · intro xv bv ev WW hB hdp
          refine op_of rfl ?_
          clear hdp
          intro KK hKK
          obtain ⟨z, -, -, -, -⟩ := bx3.out.below hB
          go_simp
          exact act_eq (hKK.out (.agg #[.slice bo (len K) cb]) _ (Below.refl _ _) rfl) (by first | rfl | simp [upd])
        refine List.forall_mem_cons.2 ⟨?_, ?_⟩
        · intro xv bv ev WW hB hdp
          refine op_of rfl ?_
          have ed2 : xv 2 = .agg #[.slice qa (len Q) qk] := hdp 2 (by kernel_rfl)
          have ed3 : xv 3 = .agg #[.slice bo (len K) cb] := hdp 3 (by kernel_rfl)
          clear hdp
          intro KK hKK
          go_simp
          refine (CR1.out _ _ ((E17.out.below hB).nt 1 rfl) ((E17.out.below hB).nt 6 rfl)).mono ?_
          rintro e WW' ⟨⟨va, vk, rfl, hv⟩, hb⟩
          (try dsimp only)
          (try simp only [Act.put, List.setIfInBounds_toArray, List.set_cons_zero, List.set_cons_succ])
          exact act_eq (hKK.out _ _ hb ⟨_, _, rfl, hv⟩) (by first | rfl | simp [upd, ed2, ed3])
        refine List.forall_mem_cons.2 ⟨?_, ?_⟩
        · intro xv bv ev WW hB hdp
          refine op_of rfl ?_
          clear hdp
          intro KK hKK
          obtain ⟨z, -, -, -, -⟩ := bx0.out.below hB
          go_simp
          exact act_eq (hKK.out (.agg #[.slice fo (len F) fc]) _ (Below.refl _ _) rfl) (by first | rfl | simp [upd])
        refine List.forall_mem_cons.2 ⟨?_, ?_⟩
        · intro xv bv ev WW hB hdp
          refine op_of rfl ?_
          clear hdp
          intro KK hKK
          obtain ⟨z, -, -, -, -⟩ := bx3.out.below hB
          go_simp
          exact act_eq (hKK.out (.agg #[.slice bo (len K) cb]) _ (Below.refl _ _) rfl) (by first | rfl | simp [upd])
        refine List.forall_mem_cons.2 ⟨?_, ?_⟩
        · intro xv bv ev WW hB hdp
          refine op_of rfl ?_
          obtain ⟨va, vk, ed4, hv⟩ := (show (PNum (X)) (xv 4) (bv 4) (ev 4) WW from hdp 4 (by kernel_rfl))
          have ed5 : xv 5 = .agg #[.slice fo (len F) fc] := hdp 5 (by kernel_rfl)
          have ed6 : xv 6 = .agg #[.slice bo (len K) cb] := hdp 6 (by kernel_rfl)
          clear hdp
          intro KK hKK
          go_simp
          refine (CM1.out _ _ _ hv.out ((E17.out.below hB).nt 2 rfl) ((E17.out.below hB).nt 6 rfl)).mono ?_
          rintro e WW' ⟨⟨za, zk, rfl, hz⟩, hb⟩
          (try dsimp only)
          (try simp only [Act.put, List.setIfInBounds_toArray, List.set_cons_zero, List.set_cons_succ])
          exact act_eq (hKK.out _ _ hb ⟨_, _, rfl, hz⟩) (by first | rfl | simp [upd, ed4, ed5, ed6])
        refine List.forall_mem_cons.2 ⟨?_, ?_⟩
        · intro xv bv ev WW hB hdp
          refine op_of rfl ?_
          clear hdp
          intro KK hKK
          obtain ⟨z, -, -, -, -⟩ := bx3.out.below hB
          go_simp
          exact act_eq (hKK.out (.agg #[.slice bo (len K) cb]) _ (Below.refl _ _) rfl) (by first | rfl | simp [upd])
        refine List.forall_mem_cons.2 ⟨?_, ?_⟩
        · intro xv bv ev WW hB hdp
          refine op_of rfl ?_
          have ed1 : xv 1 = .agg #[.slice tl (len T) tc] := hdp 1 (by kernel_rfl)
          obtain ⟨za, zk, ed7, hz⟩ := (show (PNum (Z)) (xv 7) (bv 7) (ev 7) WW from hdp 7 (by kernel_rfl))
          have ed8 : xv 8 = .agg #[.slice bo (len K) cb] := hdp 8 (by kernel_rfl)
          clear hdp
          intro KK hKK
          go_simp
          refine (CS1.out _ _ _ ((E17.out.below hB).nt 3 rfl) hz.out ((E17.out.below hB).nt 6 rfl)).mono ?_
          rintro e WW' ⟨⟨sa, sk, rfl, hs⟩, hb⟩
          (try dsimp only)
          (try simp only [Act.put, List.setIfInBounds_toArray, List.set_cons_zero, List.set_cons_succ])
          exact act_eq (hKK.out _ _ hb ⟨_, _, rfl, hs⟩) (by first | rfl | simp [upd, ed1, ed7, ed8])
        exact List.forall_mem_nil _
      intro xv bv ev w9 hB hR hO
      have ed0 : xv 0 = .agg #[.slice fo (len F) fc] := hR 0 (by kernel_rfl)
      have ed1 : xv 1 = .agg #[.slice tl (len T) tc] := hR 1 (by kernel_rfl)
      have ed2 : xv 2 = .agg #[.slice qa (len Q) qk] := hR 2 (by kernel_rfl)
      have ed3 : xv 3 = .agg #[.slice bo (len K) cb] := hR 3 (by kernel_rfl)
      obtain ⟨va, vk, ed4, hv⟩ := (show (PNum (X)) (xv 4) (bv 4) (ev 4) w9 from hR 4 (by kernel_rfl))
      have ed5 : xv 5 = .agg #[.slice fo (len F) fc] := hR 5 (by kernel_rfl)
      have ed6 : xv 6 = .agg #[.slice bo (len K) cb] := hR 6 (by kernel_rfl)
      obtain ⟨za, zk, ed7, hz⟩ := (show (PNum (Z)) (xv 7) (bv 7) (ev 7) w9 from hR 7 (by kernel_rfl))
      have ed8 : xv 8 = .agg #[.slice bo (len K) cb] := hR 8 (by kernel_rfl)
      obtain ⟨sa, sk, ed9, hs⟩ := (show (PNum (S)) (xv 9) (bv 9) (ev 9) w9 from hR 9 (by kernel_rfl))
      simp only [ed0, ed1, ed2, ed3, ed4, ed5, ed6, ed7, ed8, ed9]
      have E18 : Hid (EnvB w [(w5.heap.size, .slice qa (len Q) qk), (gr2_5, .slice fo (len F) fc), (gr2_4, .slice tl (len T) tc), (gr1_3, .slice ua (len U) uk), (gr1_2, .slice yo (len Y) yc), (w.heap.size + 1 + 1, .slice none 0 0), (w.heap.size + 1, .slice bo (len K) cb), (w.heap.size, .slice ao (len N) ca)] [(.slice sa (len S) sk, digs S), (.slice za (len Z) zk, digs Z), (.slice va (len X) vk, digs X), (.slice ua (len U) uk, digs U), (.slice qa (len Q) qk, digs Q), (.slice fo (len F) fc, digs F), (.slice tl (len T) tc, digs T), (.slice yo (len Y) yc, digs Y), (.slice ro (len R) rc, digs R), (.slice bo (len K) cb, digs K), (.slice ao (len N) ca, digs N)] _) := Lib.hid (((((E17.out.below hB).numN (hv.out : Nt _ _ (X))).numN (hz.out : Nt _ _ (Z))).numN (hs.out : Nt _ _ (S))))
      clear E17 E14 E15 hB hR hO bx0 bx1 bx2 bx3 ed0 ed1 ed2 ed3 ed4 ed5 ed6 ed7 ed8 ed9 hv hz hs
      obtain ⟨p9, f9, -, -, -⟩ := E18.out.box 2 rfl
      refine wpAny_next (i := 10) (by kernel_rfl) rfl (fun KK hKK => ?_)
      go_simp
      have E19 : Hid (EnvB w [(w5.heap.size, .slice qa (len Q) qk), (gr2_5, .slice fo (len F) fc), (gr2_4, .slice fo (len F) fc), (gr1_3, .slice ua (len U) uk), (gr1_2, .slice yo (len Y) yc), (w.heap.size + 1 + 1, .slice none 0 0), (w.heap.size + 1, .slice bo (len K) cb), (w.heap.size, .slice ao (len N) ca)] [(.slice sa (len S) sk, digs S), (.slice za (len Z) zk, digs Z), (.slice va (len X) vk, digs X), (.slice ua (len U) uk, digs U), (.slice qa (len Q) qk, digs Q), (.slice fo (len F) fc, digs F), (.slice tl (len T) tc, digs T), (.slice yo (len Y) yc, digs Y), (.slice ro (len R) rc, digs R), (.slice bo (len K) cb, digs K), (.slice ao (len N) ca, digs N)] _) := Lib.hid ((E18.out.set 2 (.slice fo (len F) fc) rfl ⟨_, _, _, rfl⟩))
      refine hKK.out _ _ ?_
      clear hKK KK
      obtain ⟨p10, f10, -, -, -⟩ := E19.out.box 1 rfl
      refine wpAny_next (i := 11) (by kernel_rfl) rfl (fun KK hKK => ?_)
      go_simp
      have E20 : Hid (EnvB w [(w5.heap.size, .slice qa (len Q) qk), (gr2_5, .slice sa (len S) sk), (gr2_4, .slice fo (len F) fc), (gr1_3, .slice ua (len U) uk), (gr1_2, .slice yo (len Y) yc), (w.heap.size + 1 + 1, .slice none 0 0), (w.heap.size + 1, .slice bo (len K) cb), (w.heap.size, .slice ao (len N) ca)] [(.slice sa (len S) sk, digs S), (.slice za (len Z) zk, digs Z), (.slice va (len X) vk, digs X), (.slice ua (len U) uk, digs U), (.slice qa (len Q) qk, digs Q), (.slice fo (len F) fc, digs F), (.slice tl (len T) tc, digs T), (.slice yo (len Y) yc, digs Y), (.slice ro (len R) rc, digs R), (.slice bo (len K) cb, digs K), (.slice ao (len N) ca, digs N)] _) := Lib.hid ((E19.out.set 1 (.slice sa (len S) sk) rfl ⟨_, _, _, rfl⟩))
      refine hKK.out _ _ ?_
      clear hKK KK
      refine wpAny_done (by kernel_rfl) ?_ _
      have E21 : Hid (EnvB w [(w5.heap.size, .slice qa (len Q) qk), (gr2_5, .slice sa (len S) sk), (gr2_4, .slice fo (len F) fc), (gr1_3, .slice ua (len U) uk), (gr1_2, .slice yo (len Y) yc), (w.heap.size + 1 + 1, .slice none 0 0), (w.heap.size + 1, .slice bo (len K) cb), (w.heap.size, .slice ao (len N) ca)] [(.slice sa (len S) sk, digs S), (.slice za (len Z) zk, digs Z), (.slice va (len X) vk, digs X), (.slice ua (len U) uk, digs U), (.slice qa (len Q) qk, digs Q), (.slice fo (len F) fc, digs F), (.slice tl (len T) tc, digs T), (.slice yo (len Y) yc, digs Y), (.slice ro (len R) rc, digs R), (.slice bo (len K) cb, digs K), (.slice ao (len N) ca, digs N)] _) := Lib.hid (E20.out)
      have EZ := Lib.hid E21.out
      go_wp2
      go_roundg (U)
      case rel => exact ⟨Y, U, F, S, yo, ua, fo, sa, yc, uk, fc, sk, Lib.hid ⟨EZ.out.1, EZ.out.2.1.2.2, ⟨EZ.out.sl 0 rfl, ⟨EZ.out.sl 5 rfl, ⟨EZ.out.sl 3 rfl, ⟨EZ.out.sl 7 rfl, ⟨EZ.out.sl 9 rfl, ⟨EZ.out.sl 10 rfl, trivial⟩⟩⟩⟩⟩⟩⟩, HK2⟩
      case measure => exact HM.out
theorem rInv_c {a b : Value} {N K V : Nat} {t : Bool} {w : World} (hV : invV N K = V) (ht : decide (invG N K = 1) = t) (hn : N < K) (hk : len K ≤ 64) (ha : Nt w a N) (hb : Nt w b K) :
    Calls Try.prog 31 #[.agg #[a], .agg #[b]] w fun e w' => ResB V t e w' ∧ Below w.heap.size w w' := by
  obtain ⟨ao, ca, rfl, _⟩ := ha.open
  obtain ⟨bo, cb, rfl, _⟩ := hb.open
  exact rInv_w ao ca bo cb N K V t w ha hb hV ht hn hk

set_option maxRecDepth 100000 in
set_option maxHeartbeats 1000000 in
theorem rCrt_w (ao : Option Addr) (ca : Nat) (bo : Option Addr) (cb : Nat) (co : Option Addr) (cc : Nat) (dq : Option Addr) (cd : Nat) (A P B Q : Nat)  (w : World) (ha : Nt w (.slice ao (len A) ca) A) (hb : Nt w (.slice bo (len P) cb) P) (hc : Nt w (.slice co (len B) cc) B) (hd : Nt w (.slice dq (len Q) cd) Q) (ha1 : A < P) (hb1 : B < Q) (hp : len P ≤ 32) (hq : len Q ≤ 32) :
    Calls Try.prog 22 #[.agg #[.slice ao (len A) ca], .agg #[.slice bo (len P) cb], .agg #[.slice co (len B) cc], .agg #[.slice dq (len Q) cd]] w fun e w' => RetV (crtV A P B Q) e w' ∧ Below w.heap.size w w' := by
  have p0 : P ≠ 0 := by omega
  have q0 : Q ≠ 0 := by omega
  have hpq : P % Q < Q := Nat.mod_lt _ (by omega)
  have h1 : len A ≤ 64 := by have := len_le_of_lt ha1 hp; omega
  have CR1 := Lib.hid (fun W ha hb => @rMod_n (.slice bo (len P) cb) (.slice dq (len Q) cd) P Q (P % Q) W rfl (by omega) q0 (by omega) ha hb)
  have CI := Lib.hid (fun (v : Value) W ha hb => @rInv_c v (.slice dq (len Q) cd) (P % Q) Q (invV (P % Q) Q) _ W rfl rfl hpq (by omega) ha hb)
  have CR2 := Lib.hid (fun W ha hb => @rMod_n (.slice ao (len A) ca) (.slice dq (len Q) cd) A Q (A % Q) W rfl (by omega) q0 (by omega) ha hb)
  have hx : invV (P % Q) Q < Q := invV_lt q0
  have haq : A % Q < Q := Nat.mod_lt _ (by omega)
  have hd : subm B (A % Q) Q < Q := subm_lt hb1 haq
  have CS := Lib.hid (fun (v : Value) W ha hb hc => @rSub_c (.slice co (len B) cc) v (.slice dq (len Q) cd) B (A % Q) Q _ W rfl hb1 haq (by omega) ha hb hc)
  have CK := Lib.hid (fun (u v : Value) W ha hb hc => @rMul_c u v (.slice dq (len Q) cd) (subm B (A % Q) Q) (invV (P % Q) Q) Q _ W rfl hd (Nat.le_trans (len_le_of_lt hx hq) (by omega)) (by omega) ha hb hc)
  have hkq : subm B (A % Q) Q * invV (P % Q) Q % Q < Q := Nat.mod_lt _ (by omega)
  have hlk := len_le_of_lt hkq hq
  have hdef : A + P * (subm B (A % Q) Q * invV (P % Q) Q % Q) = crtV A P B Q := rfl
  have hls : len (P * (subm B (A % Q) Q * invV (P % Q) Q % Q)) ≤ 64 := len_mul_le hp hlk (by omega)
  have CT := Lib.hid (fun (v : Value) W ha hb => @rTimes_c (.slice bo (len P) cb) v P (subm B (A % Q) Q * invV (P % Q) Q % Q) _ W rfl (by omega) (by omega) ha hb)
  have CA := Lib.hid (fun (v : Value) W ha hb => @rPlus_c (.slice ao (len A) ca) v A (P * (subm B (A % Q) Q * invV (P % Q) Q % Q)) (crtV A P B Q) W hdef (by omega) (by omega) ha hb)
  clear p0 q0 hp hq ha1 hb1 hpq h1 hx haq hd hkq hlk hdef hls
  generalize decide (invG (P % Q) Q = 1) = t at *
  generalize crtV A P B Q = Z at *
  generalize P * (subm B (A % Q) Q * invV (P % Q) Q % Q) = U at *
  generalize subm B (A % Q) Q * invV (P % Q) Q % Q = Y at *
  generalize subm B (A % Q) Q = D at *
  generalize A % Q = J at *
  generalize invV (P % Q) Q = X at *
  generalize P % Q = R at *
  have E0 : Hid (EnvB w [] [(.slice dq (len Q) cd, digs Q), (.slice co (len B) cc, digs B), (.slice bo (len P) cb, digs P), (.slice ao (len A) ca, digs A)] w) := Lib.hid (((((EnvB.start w).numN ha).numN hb).numN hc).numN hd)
  clear ha hb hc hd
  go_enter Try.func22, Try.ntmps22
  go_wp2_with fail
  have E1 : Hid (EnvB w [(w.heap.size + 1 + 1 + 1 + 1, .slice none 0 0), (w.heap.size + 1 + 1 + 1, .slice dq (len Q) cd), (w.heap.size + 1 + 1, .slice co (len B) cc), (w.heap.size + 1, .slice bo (len P) cb), (w.heap.size, .slice ao (len A) ca)] [(.slice dq (len Q) cd, digs Q), (.slice co (len B) cc, digs B), (.slice bo (len P) cb, digs P), (.slice ao (len A) ca, digs A)] (((((w.alloc (.cells #[.slice ao (len A) ca] 24)).alloc (.cells #[.slice bo (len P) cb] 24)).alloc (.cells #[.slice co (len B) cc] 24)).alloc (.cells #[.slice dq (len Q) cd] 24)).alloc (.cells #[.slice none 0 0] 24))) := Lib.hid ((((((E0.out.push (.slice ao (len A) ca) 24 ⟨_, _, _, rfl⟩ (w.heap.size) (by simp)).push (.slice bo (len P) cb) 24 ⟨_, _, _, rfl⟩ (w.heap.size + 1) (by simp)).push (.slice co (len B) cc) 24 ⟨_, _, _, rfl⟩ (w.heap.size + 1 + 1) (by simp)).push (.slice dq (len Q) cd) 24 ⟨_, _, _, rfl⟩ (w.heap.size + 1 + 1 + 1) (by simp)).push (.slice none 0 0) 24 ⟨_, _, _, rfl⟩ (w.heap.size + 1 + 1 + 1 + 1) (by simp)))
  clear E0
  generalize ((((w.alloc (.cells #[.slice ao (len A) ca] 24)).alloc (.cells #[.slice bo (len P) cb] 24)).alloc (.cells #[.slice co (len B) cc] 24)).alloc (.cells #[.slice dq (len Q) cd] 24)).alloc (.cells #[.slice none 0 0] 24) = w1 at *
  have bx0 := Lib.hid (E1.out.box 3 rfl)
  have bx1 := Lib.hid (E1.out.box 1 rfl)
  refine' wp_region_phaseU (by kernel_rfl) [0, 1, 2, 3, 4, 5, 6, 8] 7 (by kernel_rfl) #[true, true, true, true, true, true, true, false, true, false, false] (by kernel_rfl) 3 (by kernel_rfl) #[true, true, true, true, true, true, true, true, true, false, false] (by kernel_rfl) 2 (by kernel_rfl) [PEq (.agg #[.slice bo (len P) cb]), PEq (.agg #[.slice dq (len Q) cd]), PNum (R), PEq (.agg #[.slice dq (len Q) cd]), PTup (X) (.bool t), PTup (X) (.bool t), PNum (X), PEq (.bool t), PBox w1.heap.size, Fact.none, Fact.none] (List.forall_mem_cons.2 ⟨PEq.st _, List.forall_mem_cons.2 ⟨PEq.st _, List.forall_mem_cons.2 ⟨PNum.st _, List.forall_mem_cons.2 ⟨PEq.st _, List.forall_mem_cons.2 ⟨PTup.st _ _, List.forall_mem_cons.2 ⟨PTup.st _ _, List.forall_mem_cons.2 ⟨PNum.st _, List.forall_mem_cons.2 ⟨PEq.st _, List.forall_mem_cons.2 ⟨PBox.st _, List.forall_mem_cons.2 ⟨Fact.none_st, List.forall_mem_cons.2 ⟨Fact.none_st, List.forall_mem_nil _⟩⟩⟩⟩⟩⟩⟩⟩⟩⟩⟩) _ ?hFr6 ?stepr6 ?later6 ?doner6
  case hFr6 => intro x; simp only [frameL, Act.put, List.setIfInBounds_toArray, List.set_cons_zero, List.set_cons_succ, Nat.zero_add, Nat.reduceAdd]; exact rfl
  case stepr6 =>
    refine List.forall_mem_cons.2 ⟨?_, ?_⟩
    · intro xv bv ev WW hB hdp
      refine op_of rfl ?_
      obtain ⟨xa, xk, ed5, hx⟩ := (show (PTup (X) (.bool t)) (xv 5) (bv 5) (ev 5) WW from hdp 5 (by kernel_rfl))
      clear hdp
      intro KK hKK
      go_simp
      exact act_eq (hKK.out _ _ (Below.refl _ _) rfl) (by first | rfl | simp [upd, ed5])
    refine List.forall_mem_cons.2 ⟨?_, ?_⟩
    · intro xv bv ev WW hB hdp
      refine op_of rfl ?_
      clear hdp
      intro KK hKK
      obtain ⟨z, -, -, -, -⟩ := bx0.out.below hB
      go_simp
      exact act_eq (hKK.out (.agg #[.slice bo (len P) cb]) _ (Below.refl _ _) rfl) (by first | rfl | simp [upd])
    refine List.forall_mem_cons.2 ⟨?_, ?_⟩
    · intro xv bv ev WW hB hdp
      refine op_of rfl ?_
      clear hdp
      intro KK hKK
      obtain ⟨z, -, -, -, -⟩ := bx1.out.below hB
      go_simp
      exact act_eq (hKK.out (.agg #[.slice dq (len Q) cd]) _ (Below.refl _ _) rfl) (by first | rfl | simp [upd])
    refine List.forall_mem_cons.2 ⟨?_, ?_⟩
    · intro xv bv ev WW hB hdp
      refine op_of rfl ?_
      have ed0 : xv 0 = .agg #[.slice bo (len P) cb] := hdp 0 (by kernel_rfl)
      have ed1 : xv 1 = .agg #[.slice dq (len Q) cd] := hdp 1 (by kernel_rfl)
      clear hdp
      intro KK hKK
      go_simp
      refine (CR1.out _ ((E1.out.below hB).nt 2 rfl) ((E1.out.below hB).nt 0 rfl)).mono ?_
      rintro e WW' ⟨⟨ra, rk, rfl, hr⟩, hb⟩
      (try dsimp only)
      (try simp only [Act.put, List.setIfInBounds_toArray, List.set_cons_zero, List.set_cons_succ])
      exact act_eq (hKK.out _ _ hb ⟨_, _, rfl, hr⟩) (by first | rfl | simp [upd, ed0, ed1])
    refine List.forall_mem_cons.2 ⟨?_, ?_⟩
    · intro xv bv ev WW hB hdp
      refine op_of rfl ?_
      clear hdp
      intro KK hKK
      obtain ⟨z, -, -, -, -⟩ := bx1.out.below hB
      go_simp
      exact act_eq (hKK.out (.agg #[.slice dq (len Q) cd]) _ (Below.refl _ _) rfl) (by first | rfl | simp [upd])
    refine List.forall_mem_cons.2 ⟨?_, ?_⟩
    · intro xv bv ev WW hB hdp
      refine op_of rfl ?_
      obtain ⟨ra, rk, ed2, hr⟩ := (show (PNum (R)) (xv 2) (bv 2) (ev 2) WW from hdp 2 (by kernel_rfl))
      have ed3 : xv 3 = .agg #[.slice dq (len Q) cd] := hdp 3 (by kernel_rfl)
      clear hdp
      intro KK hKK
      go_simp
      refine (CI.out _ _ hr.out ((E1.out.below hB).nt 0 rfl)).mono ?_
      rintro e WW' ⟨⟨xa, xk, rfl, hx⟩, hb⟩
      (try dsimp only)
      (try simp only [Act.put, List.setIfInBounds_toArray, List.set_cons_zero, List.set_cons_succ])
      exact act_eq (hKK.out _ _ hb ⟨_, _, rfl, hx⟩) (by first | rfl | simp [upd, ed2, ed3])
    refine List.forall_mem_cons.2 ⟨?_, ?_⟩
    · intro xv bv ev WW hB hdp
      refine op_of rfl ?_
      obtain ⟨xa, xk, ed4, hx⟩ := (show (PTup (X) (.bool t)) (xv 4) (bv 4) (ev 4) WW from hdp 4 (by kernel_rfl))
      clear hdp
      intro KK hKK
      go_simp
      exact act_eq (hKK.out _ _ (Below.refl _ _) ⟨_, _, rfl, hx⟩) (by first | rfl | simp [upd, ed4])
    refine List.forall_mem_cons.2 ⟨?_, ?_⟩
    · intro xv bv ev WW hB hdp
      refine op_of rfl ?_
      obtain ⟨xa, xk, ed5, hx⟩ := (show (PTup (X) (.bool t)) (xv 5) (bv 5) (ev 5) WW from hdp 5 (by kernel_rfl))
      clear hdp
      intro KK hKK
      go_simp
      exact act_eq (hKK.out _ _ (Below.refl _ _) ⟨_, _, rfl, hx⟩) (by first | rfl | simp [upd, ed5])
    refine List.forall_mem_cons.2 ⟨?_, ?_⟩
    · intro xv bv ev WW hB hdp
      refine op_of rfl ?_
      clear hdp
      intro KK hKK
      go_simp
      exact act_eq (hKK.out (.pointer (some ⟨WW.heap.size, 0, none⟩)) _ (below_one _ _) (PBox.mk hB rfl _)) (by first | rfl | simp [upd])
    exact List.forall_mem_nil _
  case later6 =>
    intro xv bv ev WW hB hR
    obtain ⟨xa, xk, ed5, hx⟩ := (show (PTup (X) (.bool t)) (xv 5) (bv 5) (ev 5) WW from hR 5 (by kernel_rfl))
    refine ⟨.bool t, rfl, fun hw => ?_⟩
    refine takeP (i := 7) (some 19) (v := .bool t) rfl rfl (by kernel_rfl) (by kernel_rfl) (by kernel_rfl) (fun _ _ _ h => h) (by rfl) ?_ ?_
    · (intro wS; go_simp; try with_reducible rfl)
    rw [show (#[true, true, true, true, true, true, true, false, true, false, false] : Array Bool).setIfInBounds 7 true = #[true, true, true, true, true, true, true, true, true, false, false] from by kernel_rfl]
    exact hw
  intro xv bv ev w2 hB hR hO
  have ed0 : xv 0 = .agg #[.slice bo (len P) cb] := hR 0 (by kernel_rfl)
  have ed1 : xv 1 = .agg #[.slice dq (len Q) cd] := hR 1 (by kernel_rfl)
  obtain ⟨ra, rk, ed2, hr⟩ := (show (PNum (R)) (xv 2) (bv 2) (ev 2) w2 from hR 2 (by kernel_rfl))
  have ed3 : xv 3 = .agg #[.slice dq (len Q) cd] := hR 3 (by kernel_rfl)
  obtain ⟨xa, xk, ed6, hx⟩ := (show (PNum (X)) (xv 6) (bv 6) (ev 6) w2 from hR 6 (by kernel_rfl))
  have ed7 : xv 7 = .bool t := hR 7 (by kernel_rfl)
  obtain ⟨gr6_8, ed8, hg8, hb8, he8, hc8, hf8, hs8⟩ := (show (PBox w1.heap.size) (xv 8) (bv 8) (ev 8) w2 from hR 8 (by kernel_rfl))
  simp only [ed0, ed1, ed2, ed3, ed6, ed7, ed8]
  have E2 : Hid (EnvB w [(gr6_8, .slice none 0 0), (w.heap.size + 1 + 1 + 1 + 1, .slice none 0 0), (w.heap.size + 1 + 1 + 1, .slice dq (len Q) cd), (w.heap.size + 1 + 1, .slice co (len B) cc), (w.heap.size + 1, .slice bo (len P) cb), (w.heap.size, .slice ao (len A) ca)] [(.slice xa (len X) xk, digs X), (.slice ra (len R) rk, digs R), (.slice dq (len Q) cd, digs Q), (.slice co (len B) cc, digs B), (.slice bo (len P) cb, digs P), (.slice ao (len A) ca, digs A)] _) := Lib.hid (((((E1.out.below hB).add gr6_8 (.slice none 0 0) ⟨hc8, hf8, hs8, Nat.le_trans E1.out.size hg8, ⟨_, _, _, rfl⟩⟩ (fun p hp => by have := E1.out.old p hp; omega)).numN (hr.out : Nt _ _ (R))).numN (hx.out : Nt _ _ (X))))
  clear E1 hB hR hO bx0 bx1 ed0 ed1 ed2 ed3 ed6 ed7 ed8 hr hx hg8 hb8 he8 hc8 hf8 hs8
  obtain ⟨p1, f1, -, -, -⟩ := E2.out.box 0 rfl
  refine wpAny_next (i := 9) (by kernel_rfl) rfl (fun KK hKK => ?_)
  go_simp
  have E3 : Hid (EnvB w [(gr6_8, .slice xa (len X) xk), (w.heap.size + 1 + 1 + 1 + 1, .slice none 0 0), (w.heap.size + 1 + 1 + 1, .slice dq (len Q) cd), (w.heap.size + 1 + 1, .slice co (len B) cc), (w.heap.size + 1, .slice bo (len P) cb), (w.heap.size, .slice ao (len A) ca)] [(.slice xa (len X) xk, digs X), (.slice ra (len R) rk, digs R), (.slice dq (len Q) cd, digs Q), (.slice co (len B) cc, digs B), (.slice bo (len P) cb, digs P), (.slice ao (len A) ca, digs A)] _) := Lib.hid ((E2.out.set 0 (.slice xa (len X) xk) rfl ⟨_, _, _, rfl⟩))
  refine hKK.out _ _ ?_
  clear hKK KK
  refine wpAny_next (i := 10) (by kernel_rfl) rfl (fun KK hKK => ?_)
  go_simp
  refine hKK.out _ _ ?_
  clear hKK KK
  refine wpAny_done (by kernel_rfl) ?_ _
  go_wp2_with fail
  have E4 : Hid (EnvB w [(gr6_8, .slice xa (len X) xk), (w.heap.size + 1 + 1 + 1 + 1, .slice none 0 0), (w.heap.size + 1 + 1 + 1, .slice dq (len Q) cd), (w.heap.size + 1 + 1, .slice co (len B) cc), (w.heap.size + 1, .slice bo (len P) cb), (w.heap.size, .slice ao (len A) ca)] [(.slice xa (len X) xk, digs X), (.slice ra (len R) rk, digs R), (.slice dq (len Q) cd, digs Q), (.slice co (len B) cc, digs B), (.slice bo (len P) cb, digs P), (.slice ao (len A) ca, digs A)] (w2.setCell ⟨gr6_8, 0, none⟩ (.slice xa (len X) xk))) := Lib.hid (E3.out)
  clear p1 f1 E3
  generalize w2.setCell ⟨gr6_8, 0, none⟩ (.slice xa (len X) xk) = w3 at *
  have bx0 := Lib.hid (E4.out.box 3 rfl)
  have bx1 := Lib.hid (E4.out.box 5 rfl)
  have bx2 := Lib.hid (E4.out.box 2 rfl)
  have bx3 := Lib.hid (E4.out.box 0 rfl)
  refine' wp_region_phase (by kernel_rfl) [0, 1, 2, 3, 4, 5, 6, 7, 8, 9] (by kernel_rfl) #[true, true, true, true, true, true, true, true, true, true, false] (by kernel_rfl) 1 (by kernel_rfl) [PEq (.agg #[.slice co (len B) cc]), PEq (.agg #[.slice ao (len A) ca]), PEq (.agg #[.slice dq (len Q) cd]), PNum (J), PEq (.agg #[.slice dq (len Q) cd]), PNum (D), PEq (.agg #[.slice xa (len X) xk]), PEq (.agg #[.slice dq (len Q) cd]), PNum (Y), PBox w3.heap.size, Fact.none] (List.forall_mem_cons.2 ⟨PEq.st _, List.forall_mem_cons.2 ⟨PEq.st _, List.forall_mem_cons.2 ⟨PEq.st _, List.forall_mem_cons.2 ⟨PNum.st _, List.forall_mem_cons.2 ⟨PEq.st _, List.forall_mem_cons.2 ⟨PNum.st _, List.forall_mem_cons.2 ⟨PEq.st _, List.forall_mem_cons.2 ⟨PEq.st _, List.forall_mem_cons.2 ⟨PNum.st _, List.forall_mem_cons.2 ⟨PBox.st _, List.forall_mem_cons.2 ⟨Fact.none_st, List.forall_mem_nil _⟩⟩⟩⟩⟩⟩⟩⟩⟩⟩⟩) _ ?hFr7 ?stepr7 ?doner7
  case hFr7 => intro x; simp only [frameL, Act.put, List.setIfInBounds_toArray, List.set_cons_zero, List.set_cons_succ, Nat.zero_add, Nat.reduceAdd]; exact rfl
  case stepr7 =>
    refine List.forall_mem_cons.2 ⟨?_, ?_⟩
    · intro xv bv ev WW hB hdp
      refine op_of rfl ?_
      clear hdp
      intro KK hKK
      obtain ⟨z, -, -, -, -⟩ := bx0.out.below hB
      go_simp
      exact act_eq (hKK.out (.agg #[.slice co (len B) cc]) _ (Below.refl _ _) rfl) (by first | rfl | simp [upd])
    refine List.forall_mem_cons.2 ⟨?_, ?_⟩
    · intro xv bv ev WW hB hdp
      refine op_of rfl ?_
      clear hdp
      intro KK hKK
      obtain ⟨z, -, -, -, -⟩ := bx1.out.below hB
      go_simp
      exact act_eq (hKK.out (.agg #[.slice ao (len A) ca]) _ (Below.refl _ _) rfl) (by first | rfl | simp [upd])
    refine List.forall_mem_cons.2 ⟨?_, ?_⟩
    · intro xv bv ev WW hB hdp
      refine op_of rfl ?_
      clear hdp
      intro KK hKK
      obtain ⟨z, -, -, -, -⟩ := bx2.out.below hB
      go_simp
      exact act_eq (hKK.out (.agg #[.slice dq (len Q) cd]) _ (Below.refl _ _) rfl) (by first | rfl | simp [upd])
    refine List.forall_mem_cons.2 ⟨?_, ?_⟩
    · intro xv bv ev WW hB hdp
      refine op_of rfl ?_
      have ed1 : xv 1 = .agg #[.slice ao (len A) ca] := hdp 1 (by kernel_rfl)
      have ed2 : xv 2 = .agg #[.slice dq (len Q) cd] := hdp 2 (by kernel_rfl)
      clear hdp
      intro KK hKK
      go_simp
      refine (CR2.out _ ((E4.out.below hB).nt 5 rfl) ((E4.out.below hB).nt 2 rfl)).mono ?_
      rintro e WW' ⟨⟨ja, jk, rfl, hj⟩, hb⟩
      (try dsimp only)
      (try simp only [Act.put, List.setIfInBounds_toArray, List.set_cons_zero, List.set_cons_succ])
      exact act_eq (hKK.out _ _ hb ⟨_, _, rfl, hj⟩) (by first | rfl | simp [upd, ed1, ed2])
    refine List.forall_mem_cons.2 ⟨?_, ?_⟩
    · intro xv bv ev WW hB hdp
      refine op_of rfl ?_
      clear hdp
      intro KK hKK
      obtain ⟨z, -, -, -, -⟩ := bx2.out.below hB
      go_simp
      exact act_eq (hKK.out (.agg #[.slice dq (len Q) cd]) _ (Below.refl _ _) rfl) (by first | rfl | simp [upd])
    refine List.forall_mem_cons.2 ⟨?_, ?_⟩
    · intro xv bv ev WW hB hdp
      refine op_of rfl ?_
      have ed0 : xv 0 = .agg #[.slice co (len B) cc] := hdp 0 (by kernel_rfl)
      obtain ⟨ja, jk, ed3, hj⟩ := (show (PNum (J)) (xv 3) (bv 3) (ev 3) WW from hdp 3 (by kernel_rfl))
      have ed4 : xv 4 = .agg #[.slice dq (len Q) cd] := hdp 4 (by kernel_rfl)
      clear hdp
      intro KK hKK
      go_simp
      refine (CS.out _ _ ((E4.out.below hB).nt 3 rfl) hj.out ((E4.out.below hB).nt 2 rfl)).mono ?_
      rintro e WW' ⟨⟨da, dk, rfl, hd⟩, hb⟩
      (try dsimp only)
      (try simp only [Act.put, List.setIfInBounds_toArray, List.set_cons_zero, List.set_cons_succ])
      exact act_eq (hKK.out _ _ hb ⟨_, _, rfl, hd⟩) (by first | rfl | simp [upd, ed0, ed3, ed4])
    refine List.forall_mem_cons.2 ⟨?_, ?_⟩
    · intro xv bv ev WW hB hdp
      refine op_of rfl ?_
      clear hdp
      intro KK hKK
      obtain ⟨z, -, -, -, -⟩ := bx3.out.below hB
      go_simp
      exact act_eq (hKK.out (.agg #[.slice xa (len X) xk]) _ (Below.refl _ _) rfl) (by first | rfl | simp [upd])
    refine List.forall_mem_cons.2 ⟨?_, ?_⟩
    · intro xv bv ev WW hB hdp
      refine op_of rfl ?_
      clear hdp
      intro KK hKK
      obtain ⟨z, -, -, -, -⟩ := bx2.out.below hB
      go_simp
      exact act_eq (hKK.out (.agg #[.slice dq (len Q) cd]) _ (Below.refl _ _) rfl) (by first | rfl | simp [upd])
    refine List.forall_mem_cons.2 ⟨?_, ?_⟩
    · intro xv bv ev WW hB hdp
      refine op_of rfl ?_
      obtain ⟨da, dk, ed5, hd⟩ := (show (PNum (D)) (xv 5) (bv 5) (ev 5) WW from hdp 5 (by kernel_rfl))
      have ed6 : xv 6 = .agg #[.slice xa (len X) xk] := hdp 6 (by kernel_rfl)
      have ed7 : xv 7 = .agg #[.slice dq (len Q) cd] := hdp 7 (by kernel_rfl)
      clear hdp
      intro KK hKK
      go_simp
      refine (CK.out _ _ _ hd.out ((E4.out.below hB).nt 0 rfl) ((E4.out.below hB).nt 2 rfl)).mono ?_
      rintro e WW' ⟨⟨ya, yk, rfl, hy⟩, hb⟩
      (try dsimp only)
      (try simp only [Act.put, List.setIfInBounds_toArray, List.set_cons_zero, List.set_cons_succ])
      exact act_eq (hKK.out _ _ hb ⟨_, _, rfl, hy⟩) (by first | rfl | simp [upd, ed5, ed6, ed7])
    refine List.forall_mem_cons.2 ⟨?_, ?_⟩
    · intro xv bv ev WW hB hdp
      refine op_of rfl ?_
      clear hdp
      intro KK hKK
      go_simp
      exact act_eq (hKK.out (.pointer (some ⟨WW.heap.size, 0, none⟩)) _ (below_one _ _) (PBox.mk hB rfl _)) (by first | rfl | simp [upd])
    exact List.forall_mem_nil _
  intro xv bv ev w4 hB hR hO
  have ed0 : xv 0 = .agg #[.slice co (len B) cc] := hR 0 (by kernel_rfl)
  have ed1 : xv 1 = .agg #[.slice ao (len A) ca] := hR 1 (by kernel_rfl)
  have ed2 : xv 2 = .agg #[.slice dq (len Q) cd] := hR 2 (by kernel_rfl)
  obtain ⟨ja, jk, ed3, hj⟩ := (show (PNum (J)) (xv 3) (bv 3) (ev 3) w4 from hR 3 (by kernel_rfl))
  have ed4 : xv 4 = .agg #[.slice dq (len Q) cd] := hR 4 (by kernel_rfl)
  obtain ⟨da, dk, ed5, hd⟩ := (show (PNum (D)) (xv 5) (bv 5) (ev 5) w4 from hR 5 (by kernel_rfl))
  have ed6 : xv 6 = .agg #[.slice xa (len X) xk] := hR 6 (by kernel_rfl)
  have ed7 : xv 7 = .agg #[.slice dq (len Q) cd] := hR 7 (by kernel_rfl)
  obtain ⟨ya, yk, ed8, hy⟩ := (show (PNum (Y)) (xv 8) (bv 8) (ev 8) w4 from hR 8 (by kernel_rfl))
  obtain ⟨gr7_9, ed9, hg9, hb9, he9, hc9, hf9, hs9⟩ := (show (PBox w3.heap.size) (xv 9) (bv 9) (ev 9) w4 from hR 9 (by kernel_rfl))
  simp only [ed0, ed1, ed2, ed3, ed4, ed5, ed6, ed7, ed8, ed9]
  have E5 : Hid (EnvB w [(gr7_9, .slice none 0 0), (gr6_8, .slice xa (len X) xk), (w.heap.size + 1 + 1 + 1 + 1, .slice none 0 0), (w.heap.size + 1 + 1 + 1, .slice dq (len Q) cd), (w.heap.size + 1 + 1, .slice co (len B) cc), (w.heap.size + 1, .slice bo (len P) cb), (w.heap.size, .slice ao (len A) ca)] [(.slice ya (len Y) yk, digs Y), (.slice da (len D) dk, digs D), (.slice ja (len J) jk, digs J), (.slice xa (len X) xk, digs X), (.slice ra (len R) rk, digs R), (.slice dq (len Q) cd, digs Q), (.slice co (len B) cc, digs B), (.slice bo (len P) cb, digs P), (.slice ao (len A) ca, digs A)] _) := Lib.hid ((((((E4.out.below hB).add gr7_9 (.slice none 0 0) ⟨hc9, hf9, hs9, Nat.le_trans E4.out.size hg9, ⟨_, _, _, rfl⟩⟩ (fun p hp => by have := E4.out.old p hp; omega)).numN (hj.out : Nt _ _ (J))).numN (hd.out : Nt _ _ (D))).numN (hy.out : Nt _ _ (Y))))
  clear E4 E2 hB hR hO bx0 bx1 bx2 bx3 ed0 ed1 ed2 ed3 ed4 ed5 ed6 ed7 ed8 ed9 hj hd hy hg9 hb9 he9 hc9 hf9 hs9
  obtain ⟨p2, f2, -, -, -⟩ := E5.out.box 0 rfl
  refine wpAny_next (i := 10) (by kernel_rfl) rfl (fun KK hKK => ?_)
  go_simp
  have E6 : Hid (EnvB w [(gr7_9, .slice ya (len Y) yk), (gr6_8, .slice xa (len X) xk), (w.heap.size + 1 + 1 + 1 + 1, .slice none 0 0), (w.heap.size + 1 + 1 + 1, .slice dq (len Q) cd), (w.heap.size + 1 + 1, .slice co (len B) cc), (w.heap.size + 1, .slice bo (len P) cb), (w.heap.size, .slice ao (len A) ca)] [(.slice ya (len Y) yk, digs Y), (.slice da (len D) dk, digs D), (.slice ja (len J) jk, digs J), (.slice xa (len X) xk, digs X), (.slice ra (len R) rk, digs R), (.slice dq (len Q) cd, digs Q), (.slice co (len B) cc, digs B), (.slice bo (len P) cb, digs P), (.slice ao (len A) ca, digs A)] _) := Lib.hid ((E5.out.set 0 (.slice ya (len Y) yk) rfl ⟨_, _, _, rfl⟩))
  refine hKK.out _ _ ?_
  clear hKK KK
  refine wpAny_done (by kernel_rfl) ?_ _
  go_wp2_with fail
  have E7 : Hid (EnvB w [(gr7_9, .slice ya (len Y) yk), (gr6_8, .slice xa (len X) xk), (w.heap.size + 1 + 1 + 1 + 1, .slice none 0 0), (w.heap.size + 1 + 1 + 1, .slice dq (len Q) cd), (w.heap.size + 1 + 1, .slice co (len B) cc), (w.heap.size + 1, .slice bo (len P) cb), (w.heap.size, .slice ao (len A) ca)] [(.slice ya (len Y) yk, digs Y), (.slice da (len D) dk, digs D), (.slice ja (len J) jk, digs J), (.slice xa (len X) xk, digs X), (.slice ra (len R) rk, digs R), (.slice dq (len Q) cd, digs Q), (.slice co (len B) cc, digs B), (.slice bo (len P) cb, digs P), (.slice ao (len A) ca, digs A)] (w4.setCell ⟨gr7_9, 0, none⟩ (.slice ya (len Y) yk))) := Lib.hid (E6.out)
  clear p2 f2 E6
  generalize w4.setCell ⟨gr7_9, 0, none⟩ (.slice ya (len Y) yk) = w5 at *
  have bx0 := Lib.hid (E7.out.box 6 rfl)
  have bx1 := Lib.hid (E7.out.box 5 rfl)
  have bx2 := Lib.hid (E7.out.box 0 rfl)
  refine' wp_region_phase (by kernel_rfl) [0, 1, 2, 3, 4] (by kernel_rfl) #[true, true, true, true, true, false] (by kernel_rfl) 1 (by kernel_rfl) [PEq (.agg #[.slice ao (len A) ca]), PEq (.agg #[.slice bo (len P) cb]), PEq (.agg #[.slice ya (len Y) yk]), PNum (U), PNum (Z), Fact.none] (List.forall_mem_cons.2 ⟨PEq.st _, List.forall_mem_cons.2 ⟨PEq.st _, List.forall_mem_cons.2 ⟨PEq.st _, List.forall_mem_cons.2 ⟨PNum.st _, List.forall_mem_cons.2 ⟨PNum.st _, List.forall_mem_cons.2 ⟨Fact.none_st, List.forall_mem_nil _⟩⟩⟩⟩⟩⟩) _ ?hFr8 ?stepr8 ?doner8
  case hFr8 => intro x; simp only [frameL, Act.put, List.setIfInBounds_toArray, List.set_cons_zero, List.set_cons_succ, Nat.zero_add, Nat.reduceAdd]; exact rfl
  case stepr8 =>
    refine List.forall_mem_cons.2 ⟨?_, ?_⟩
    · intro xv bv ev WW hB hdp
      refine op_of rfl ?_
      clear hdp
      intro KK hKK
      obtain ⟨z, -, -, -, -⟩ := bx0.out.below hB
      go_simp
      exact act_eq (hKK.out (.agg #[.slice ao (len A) ca]) _ (Below.refl _ _) rfl) (by first | rfl | simp [upd])
    refine List.forall_mem_cons.2 ⟨?_, ?_⟩
    · intro xv bv ev WW hB hdp
      refine op_of rfl ?_
      clear hdp
      intro KK hKK
      obtain ⟨z, -, -, -, -⟩ := bx1.out.below hB
      go_simp
      exact act_eq (hKK.out (.agg #[.slice bo (len P) cb]) _ (Below.refl _ _) rfl) (by first | rfl | simp [upd])
    refine List.forall_mem_cons.2 ⟨?_, ?_⟩
    · intro xv bv ev WW hB hdp
      refine op_of rfl ?_
      clear hdp
      intro KK hKK
      obtain ⟨z, -, -, -, -⟩ := bx2.out.below hB
      go_simp
      exact act_eq (hKK.out (.agg #[.slice ya (len Y) yk]) _ (Below.refl _ _) rfl) (by first | rfl | simp [upd])
    refine List.forall_mem_cons.2 ⟨?_, ?_⟩
    · intro xv bv ev WW hB hdp
      refine op_of rfl ?_
      have ed1 : xv 1 = .agg #[.slice bo (len P) cb] := hdp 1 (by kernel_rfl)
      have ed2 : xv 2 = .agg #[.slice ya (len Y) yk] := hdp 2 (by kernel_rfl)
      clear hdp
      intro KK hKK
      go_simp
      refine (CT.out _ _ ((E7.out.below hB).nt 7 rfl) ((E7.out.below hB).nt 0 rfl)).mono ?_
      rintro e WW' ⟨⟨ua, uk, rfl, hu⟩, hb⟩
      (try dsimp only)
      (try simp only [Act.put, List.setIfInBounds_toArray, List.set_cons_zero, List.set_cons_succ])
      exact act_eq (hKK.out _ _ hb ⟨_, _, rfl, hu⟩) (by first | rfl | simp [upd, ed1, ed2])
    refine List.forall_mem_cons.2 ⟨?_, ?_⟩
    · intro xv bv ev WW hB hdp
      refine op_of rfl ?_
      have ed0 : xv 0 = .agg #[.slice ao (len A) ca] := hdp 0 (by kernel_rfl)
      obtain ⟨ua, uk, ed3, hu⟩ := (show (PNum (U)) (xv 3) (bv 3) (ev 3) WW from hdp 3 (by kernel_rfl))
      clear hdp
      intro KK hKK
      go_simp
      refine (CA.out _ _ ((E7.out.below hB).nt 8 rfl) hu.out).mono ?_
      rintro e WW' ⟨⟨za, zk, rfl, hz⟩, hb⟩
      (try dsimp only)
      (try simp only [Act.put, List.setIfInBounds_toArray, List.set_cons_zero, List.set_cons_succ])
      exact act_eq (hKK.out _ _ hb ⟨_, _, rfl, hz⟩) (by first | rfl | simp [upd, ed0, ed3])
    exact List.forall_mem_nil _
  intro xv bv ev w6 hB hR hO
  have ed0 : xv 0 = .agg #[.slice ao (len A) ca] := hR 0 (by kernel_rfl)
  have ed1 : xv 1 = .agg #[.slice bo (len P) cb] := hR 1 (by kernel_rfl)
  have ed2 : xv 2 = .agg #[.slice ya (len Y) yk] := hR 2 (by kernel_rfl)
  obtain ⟨ua, uk, ed3, hu⟩ := (show (PNum (U)) (xv 3) (bv 3) (ev 3) w6 from hR 3 (by kernel_rfl))
  obtain ⟨za, zk, ed4, hz⟩ := (show (PNum (Z)) (xv 4) (bv 4) (ev 4) w6 from hR 4 (by kernel_rfl))
  simp only [ed0, ed1, ed2, ed3, ed4]
  have E8 : Hid (EnvB w [(gr7_9, .slice ya (len Y) yk), (gr6_8, .slice xa (len X) xk), (w.heap.size + 1 + 1 + 1 + 1, .slice none 0 0), (w.heap.size + 1 + 1 + 1, .slice dq (len Q) cd), (w.heap.size + 1 + 1, .slice co (len B) cc), (w.heap.size + 1, .slice bo (len P) cb), (w.heap.size, .slice ao (len A) ca)] [(.slice za (len Z) zk, digs Z), (.slice ua (len U) uk, digs U), (.slice ya (len Y) yk, digs Y), (.slice da (len D) dk, digs D), (.slice ja (len J) jk, digs J), (.slice xa (len X) xk, digs X), (.slice ra (len R) rk, digs R), (.slice dq (len Q) cd, digs Q), (.slice co (len B) cc, digs B), (.slice bo (len P) cb, digs P), (.slice ao (len A) ca, digs A)] _) := Lib.hid ((((E7.out.below hB).numN (hu.out : Nt _ _ (U))).numN (hz.out : Nt _ _ (Z))))
  clear E7 E5 hB hR hO bx0 bx1 bx2 ed0 ed1 ed2 ed3 ed4 hu hz
  obtain ⟨p3, f3, -, -, -⟩ := E8.out.box 2 rfl
  refine wpAny_next (i := 5) (by kernel_rfl) rfl (fun KK hKK => ?_)
  go_simp
  have E9 : Hid (EnvB w [(gr7_9, .slice ya (len Y) yk), (gr6_8, .slice xa (len X) xk), (w.heap.size + 1 + 1 + 1 + 1, .slice za (len Z) zk), (w.heap.size + 1 + 1 + 1, .slice dq (len Q) cd), (w.heap.size + 1 + 1, .slice co (len B) cc), (w.heap.size + 1, .slice bo (len P) cb), (w.heap.size, .slice ao (len A) ca)] [(.slice za (len Z) zk, digs Z), (.slice ua (len U) uk, digs U), (.slice ya (len Y) yk, digs Y), (.slice da (len D) dk, digs D), (.slice ja (len J) jk, digs J), (.slice xa (len X) xk, digs X), (.slice ra (len R) rk, digs R), (.slice dq (len Q) cd, digs Q), (.slice co (len B) cc, digs B), (.slice bo (len P) cb, digs P), (.slice ao (len A) ca, digs A)] _) := Lib.hid ((E8.out.set 2 (.slice za (len Z) zk) rfl ⟨_, _, _, rfl⟩))
  refine hKK.out _ _ ?_
  clear hKK KK
  refine wpAny_done (by kernel_rfl) ?_ _
  have E10 : Hid (EnvB w [(gr7_9, .slice ya (len Y) yk), (gr6_8, .slice xa (len X) xk), (w.heap.size + 1 + 1 + 1 + 1, .slice za (len Z) zk), (w.heap.size + 1 + 1 + 1, .slice dq (len Q) cd), (w.heap.size + 1 + 1, .slice co (len B) cc), (w.heap.size + 1, .slice bo (len P) cb), (w.heap.size, .slice ao (len A) ca)] [(.slice za (len Z) zk, digs Z), (.slice ua (len U) uk, digs U), (.slice ya (len Y) yk, digs Y), (.slice da (len D) dk, digs D), (.slice ja (len J) jk, digs J), (.slice xa (len X) xk, digs X), (.slice ra (len R) rk, digs R), (.slice dq (len Q) cd, digs Q), (.slice co (len B) cc, digs B), (.slice bo (len P) cb, digs P), (.slice ao (len A) ca, digs A)] _) := Lib.hid (E9.out)
  have hfin := Lib.hid E10.out
  obtain ⟨rc, -, -, -, -⟩ := E10.out.box 2 rfl
  go_wp2
  exact bodyPost_ret (v := .agg #[.slice za (len Z) zk]) (by simp [results, Try.results22, go_sem, rc]) rfl ⟨⟨_, _, rfl, Lib.hid (hfin.out.nt 0 rfl)⟩, hfin.out.1⟩
theorem rCrt_c {a b c d : Value} {A P B Q r : Nat} {w : World} (hr : crtV A P B Q = r) (ha1 : A < P) (hb1 : B < Q) (hp : len P ≤ 32) (hq : len Q ≤ 32) (ha : Nt w a A) (hb : Nt w b P) (hc : Nt w c B) (hd : Nt w d Q) :
    Calls Try.prog 22 #[.agg #[a], .agg #[b], .agg #[c], .agg #[d]] w fun e w' => RetV r e w' ∧ Below w.heap.size w w' := by
  obtain ⟨ao, ca, rfl, _⟩ := ha.open
  obtain ⟨bo, cb, rfl, _⟩ := hb.open
  obtain ⟨co, cc, rfl, _⟩ := hc.open
  obtain ⟨dq, cd, rfl, _⟩ := hd.open
  subst hr
  exact rCrt_w ao ca bo cb co cc dq cd A P B Q w ha hb hc hd ha1 hb1 hp hq

end Go.Proofs.Ythphmgdmhlimjaa

/- The closures of NatmodRing and NatmodPowers: the captured truth value stays true. -/
import Derived.Test.YthphmgdmhlimjaaModL4
namespace Go.Proofs.Ythphmgdmhlimjaa
open Go.RowKit NatMath
set_option linter.unusedVariables false
theorem setCell_self {W : World} {g : Nat} {v : Value} (h : W.cell? ⟨g, 0, none⟩ = some v) : W.setCell ⟨g, 0, none⟩ v = W := by
  have hb : ∃ cs T fr, W.heap[g]? = some (.cells cs T fr) ∧ cs[0]? = some v := by
    unfold World.cell? at h
    split at h
    · rename_i cs T fr h1; exact ⟨cs, T, fr, h1, by simpa using h⟩
    · cases h
  obtain ⟨cs, T, fr, h1, h2⟩ := hb
  have h3 : cs.setIfInBounds 0 v = cs := by
    apply Array.ext_getElem?; intro i
    rw [Array.getElem?_setIfInBounds]
    split
    · rename_i e; subst e
      split
      · exact h2.symm
      · rename_i hn; rw [Array.getElem?_eq_none (by omega)]
    · rfl
  have h4 : (W.setCell ⟨g, 0, none⟩ v).heap = W.heap := by
    apply Array.ext_getElem?; intro i
    simp only [World.setCell, Array.getElem?_modify]
    split
    · rename_i e; subst e; rw [h1]; simp [h3]
    · rfl
  have h5 : W.setCell ⟨g, 0, none⟩ v = { W with heap := (W.setCell ⟨g, 0, none⟩ v).heap } := rfl
  rw [h5, h4]

set_option maxRecDepth 100000 in
set_option maxHeartbeats 1000000 in
theorem pow_cl (ao : Option Addr) (ca : Nat) (bo : Option Addr) (cb : Nat) (N E : Nat) (gm gg : Nat) (mo : Option Addr) (cm Q r : Nat) (w : World) (ha : Nt w (.slice ao (len N) ca) N) (hb : Nt w (.slice bo (len E) cb) E) (hm : Nt w (.slice mo (len Q) cm) Q) (hcm0 : w.cell? ⟨gm, 0, none⟩ = some (.slice mo (len Q) cm)) (hgm0 : gm < w.heap.size) (hcg0 : w.cell? ⟨gg, 0, none⟩ = some (.bool true)) (hgg0 : gg < w.heap.size) (hfg0 : w.frozen? ⟨gg, 0, none⟩ = false) (hk0 : len Q ≤ 32) (hv0 : vld (digs r) = true) (hl0 : decide (r < Q) = true) (hn0 : N < Q) (he0 : len E ≤ 64) (hr0 : N ^ E % Q = r) :
    Calls Try.prog 39 #[.agg #[.slice ao (len N) ca], .agg #[.slice bo (len E) cb], .pointer (some ⟨gm, 0, none⟩), .pointer (some ⟨gg, 0, none⟩)] w fun e w' => RetV r e w' ∧ Below w.heap.size w w' := by
  have hcm := Lib.hid hcm0
  have hgm := Lib.hid hgm0
  have hcg := Lib.hid hcg0
  have hgg := Lib.hid hgg0
  have hfg := Lib.hid hfg0
  have hk := Lib.hid hk0
  have hv := Lib.hid hv0
  have hl := Lib.hid hl0
  have hn := Lib.hid hn0
  have he := Lib.hid he0
  have hr := Lib.hid hr0
  clear hcm0 hgm0 hcg0 hgg0 hfg0 hk0 hv0 hl0 hn0 he0 hr0
  have E0 : Hid (EnvB w [] [(.slice bo (len E) cb, digs E), (.slice ao (len N) ca, digs N)] w) := Lib.hid (((EnvB.start w).numN ha).numN hb)
  clear ha hb
  have E00 : Hid (EnvB w [] [(.slice mo (len Q) cm, digs Q), (.slice bo (len E) cb, digs E), (.slice ao (len N) ca, digs N)] w) := Lib.hid (E0.out.numN hm)
  clear E0 hm
  go_enter Try.func39, Try.ntmps39
  have E1 : Hid (EnvB w [(w.heap.size + 1 + 1, .slice none 0 0), (w.heap.size + 1, .slice bo (len E) cb), (w.heap.size, .slice ao (len N) ca)] [(.slice mo (len Q) cm, digs Q), (.slice bo (len E) cb, digs E), (.slice ao (len N) ca, digs N)] _) := Lib.hid ((((E00.out.push (.slice ao (len N) ca) 24 ⟨_, _, _, rfl⟩ (w.heap.size) (by simp)).push (.slice bo (len E) cb) 24 ⟨_, _, _, rfl⟩ (w.heap.size + 1) (by simp)).push (.slice none 0 0) 24 ⟨_, _, _, rfl⟩ (w.heap.size + 1 + 1) (by simp)))
  have p1 := (E1.out.1.cell (p := ⟨gm, 0, none⟩) hgm.out).trans hcm.out
  go_wp2_with fail
  refine (pow_m hr.out he.out hn.out hk.out (E1.out.nt 2 rfl) (E1.out.nt 1 rfl) (E1.out.nt 0 rfl)).mono ?_
  rintro e w1 ⟨⟨xxa, xxk, rfl, hxx⟩, hb⟩
  have E2 : Hid (EnvB w [(w.heap.size + 1 + 1, .slice none 0 0), (w.heap.size + 1, .slice bo (len E) cb), (w.heap.size, .slice ao (len N) ca)] [(.slice xxa (len r) xxk, digs r), (.slice mo (len Q) cm, digs Q), (.slice bo (len E) cb, digs E), (.slice ao (len N) ca, digs N)] _) := Lib.hid (((E1.out.below hb).numN (hxx.out : Nt _ _ r)))
  clear p1 E1 E00 hb hxx
  have E3 : Hid (EnvB w [(w1.heap.size, .slice xxa (len r) xxk), (w.heap.size + 1 + 1, .slice none 0 0), (w.heap.size + 1, .slice bo (len E) cb), (w.heap.size, .slice ao (len N) ca)] [(.slice xxa (len r) xxk, digs r), (.slice mo (len Q) cm, digs Q), (.slice bo (len E) cb, digs E), (.slice ao (len N) ca, digs N)] _) := Lib.hid ((E2.out.push (.slice xxa (len r) xxk) 24 ⟨_, _, _, rfl⟩ (w1.heap.size) (by simp)))
  have p2 := (E3.out.1.cell (p := ⟨gg, 0, none⟩) hgg.out).trans hcg.out
  have f2 := (E3.out.1.frozen (p := ⟨gg, 0, none⟩) hgg.out).trans hfg.out
  obtain ⟨p3, f3, -, -, -⟩ := E3.out.box 0 rfl
  go_wp2_with fail
  refine (rValid_of hv.out (E3.out.nt 0 rfl)).mono ?_
  rintro e w2 ⟨rfl, hb⟩
  have E4 : Hid (EnvB w [(w1.heap.size, .slice xxa (len r) xxk), (w.heap.size + 1 + 1, .slice none 0 0), (w.heap.size + 1, .slice bo (len E) cb), (w.heap.size, .slice ao (len N) ca)] [(.slice xxa (len r) xxk, digs r), (.slice mo (len Q) cm, digs Q), (.slice bo (len E) cb, digs E), (.slice ao (len N) ca, digs N)] _) := Lib.hid ((E3.out.below hb))
  clear p2 f2 p3 f3 E3 E2 hb
  obtain ⟨p4, f4, -, -, -⟩ := E4.out.box 0 rfl
  have p5 := (E4.out.1.cell (p := ⟨gm, 0, none⟩) hgm.out).trans hcm.out
  go_wp2_with fail
  refine (rLess_c hl.out (E4.out.nt 0 rfl) (E4.out.nt 1 rfl)).mono ?_
  rintro e w3 ⟨rfl, hb⟩
  have E5 : Hid (EnvB w [(w1.heap.size, .slice xxa (len r) xxk), (w.heap.size + 1 + 1, .slice none 0 0), (w.heap.size + 1, .slice bo (len E) cb), (w.heap.size, .slice ao (len N) ca)] [(.slice xxa (len r) xxk, digs r), (.slice mo (len Q) cm, digs Q), (.slice bo (len E) cb, digs E), (.slice ao (len N) ca, digs N)] _) := Lib.hid ((E4.out.below hb))
  clear p4 f4 p5 E4 hb
  have p6 := (E5.out.1.cell (p := ⟨gg, 0, none⟩) hgg.out).trans hcg.out
  have f6 := (E5.out.1.frozen (p := ⟨gg, 0, none⟩) hgg.out).trans hfg.out
  have hself := setCell_self p6
  obtain ⟨p7, f7, -, -, -⟩ := E5.out.box 0 rfl
  obtain ⟨p8, f8, -, -, -⟩ := E5.out.box 1 rfl
  have E6 : Hid (EnvB w [(w1.heap.size, .slice xxa (len r) xxk), (w.heap.size + 1 + 1, .slice xxa (len r) xxk), (w.heap.size + 1, .slice bo (len E) cb), (w.heap.size, .slice ao (len N) ca)] [(.slice xxa (len r) xxk, digs r), (.slice mo (len Q) cm, digs Q), (.slice bo (len E) cb, digs E), (.slice ao (len N) ca, digs N)] _) := Lib.hid ((E5.out.set 1 (.slice xxa (len r) xxk) rfl ⟨_, _, _, rfl⟩))
  have hfin := Lib.hid E6.out
  obtain ⟨rc, -, -, -, -⟩ := E6.out.box 1 rfl
  go_wp2
  exact bodyPost_ret (v := .agg #[.slice xxa (len r) xxk]) (by simp [results, Try.results39, go_sem, rc]) rfl ⟨⟨_, _, rfl, Lib.hid (hfin.out.nt 0 rfl)⟩, hfin.out.1⟩
set_option maxRecDepth 100000 in
set_option maxHeartbeats 1000000 in
theorem mul_cl (ao : Option Addr) (ca : Nat) (bo : Option Addr) (cb : Nat) (N M : Nat) (gm gg : Nat) (mo : Option Addr) (cm Q r : Nat) (w : World) (ha : Nt w (.slice ao (len N) ca) N) (hb : Nt w (.slice bo (len M) cb) M) (hm : Nt w (.slice mo (len Q) cm) Q) (hcm0 : w.cell? ⟨gm, 0, none⟩ = some (.slice mo (len Q) cm)) (hgm0 : gm < w.heap.size) (hcg0 : w.cell? ⟨gg, 0, none⟩ = some (.bool true)) (hgg0 : gg < w.heap.size) (hfg0 : w.frozen? ⟨gg, 0, none⟩ = false) (hk0 : len Q ≤ 32) (hv0 : vld (digs r) = true) (hl0 : decide (r < Q) = true) (hn0 : N < Q) (hn20 : M < Q) (hr0 : N * M % Q = r) :
    Calls Try.prog 40 #[.agg #[.slice ao (len N) ca], .agg #[.slice bo (len M) cb], .pointer (some ⟨gm, 0, none⟩), .pointer (some ⟨gg, 0, none⟩)] w fun e w' => RetV r e w' ∧ Below w.heap.size w w' := by
  have hcm := Lib.hid hcm0
  have hgm := Lib.hid hgm0
  have hcg := Lib.hid hcg0
  have hgg := Lib.hid hgg0
  have hfg := Lib.hid hfg0
  have hk := Lib.hid hk0
  have hv := Lib.hid hv0
  have hl := Lib.hid hl0
  have hn := Lib.hid hn0
  have hn2 := Lib.hid hn20
  have hr := Lib.hid hr0
  clear hcm0 hgm0 hcg0 hgg0 hfg0 hk0 hv0 hl0 hn0 hn20 hr0
  have E0 : Hid (EnvB w [] [(.slice bo (len M) cb, digs M), (.slice ao (len N) ca, digs N)] w) := Lib.hid (((EnvB.start w).numN ha).numN hb)
  clear ha hb
  have E00 : Hid (EnvB w [] [(.slice mo (len Q) cm, digs Q), (.slice bo (len M) cb, digs M), (.slice ao (len N) ca, digs N)] w) := Lib.hid (E0.out.numN hm)
  clear E0 hm
  go_enter Try.func40, Try.ntmps40
  have E1 : Hid (EnvB w [(w.heap.size + 1 + 1, .slice none 0 0), (w.heap.size + 1, .slice bo (len M) cb), (w.heap.size, .slice ao (len N) ca)] [(.slice mo (len Q) cm, digs Q), (.slice bo (len M) cb, digs M), (.slice ao (len N) ca, digs N)] _) := Lib.hid ((((E00.out.push (.slice ao (len N) ca) 24 ⟨_, _, _, rfl⟩ (w.heap.size) (by simp)).push (.slice bo (len M) cb) 24 ⟨_, _, _, rfl⟩ (w.heap.size + 1) (by simp)).push (.slice none 0 0) 24 ⟨_, _, _, rfl⟩ (w.heap.size + 1 + 1) (by simp)))
  have p1 := (E1.out.1.cell (p := ⟨gm, 0, none⟩) hgm.out).trans hcm.out
  go_wp2_with fail
  refine (Mul_m hr.out hn.out hn2.out hk.out (E1.out.nt 2 rfl) (E1.out.nt 1 rfl) (E1.out.nt 0 rfl)).mono ?_
  rintro e w1 ⟨⟨xxa, xxk, rfl, hxx⟩, hb⟩
  have E2 : Hid (EnvB w [(w.heap.size + 1 + 1, .slice none 0 0), (w.heap.size + 1, .slice bo (len M) cb), (w.heap.size, .slice ao (len N) ca)] [(.slice xxa (len r) xxk, digs r), (.slice mo (len Q) cm, digs Q), (.slice bo (len M) cb, digs M), (.slice ao (len N) ca, digs N)] _) := Lib.hid (((E1.out.below hb).numN (hxx.out : Nt _ _ r)))
  clear p1 E1 E00 hb hxx
  have E3 : Hid (EnvB w [(w1.heap.size, .slice xxa (len r) xxk), (w.heap.size + 1 + 1, .slice none 0 0), (w.heap.size + 1, .slice bo (len M) cb), (w.heap.size, .slice ao (len N) ca)] [(.slice xxa (len r) xxk, digs r), (.slice mo (len Q) cm, digs Q), (.slice bo (len M) cb, digs M), (.slice ao (len N) ca, digs N)] _) := Lib.hid ((E2.out.push (.slice xxa (len r) xxk) 24 ⟨_, _, _, rfl⟩ (w1.heap.size) (by simp)))
  have p2 := (E3.out.1.cell (p := ⟨gg, 0, none⟩) hgg.out).trans hcg.out
  have f2 := (E3.out.1.frozen (p := ⟨gg, 0, none⟩) hgg.out).trans hfg.out
  obtain ⟨p3, f3, -, -, -⟩ := E3.out.box 0 rfl
  go_wp2_with fail
  refine (rValid_of hv.out (E3.out.nt 0 rfl)).mono ?_
  rintro e w2 ⟨rfl, hb⟩
  have E4 : Hid (EnvB w [(w1.heap.size, .slice xxa (len r) xxk), (w.heap.size + 1 + 1, .slice none 0 0), (w.heap.size + 1, .slice bo (len M) cb), (w.heap.size, .slice ao (len N) ca)] [(.slice xxa (len r) xxk, digs r), (.slice mo (len Q) cm, digs Q), (.slice bo (len M) cb, digs M), (.slice ao (len N) ca, digs N)] _) := Lib.hid ((E3.out.below hb))
  clear p2 f2 p3 f3 E3 E2 hb
  obtain ⟨p4, f4, -, -, -⟩ := E4.out.box 0 rfl
  have p5 := (E4.out.1.cell (p := ⟨gm, 0, none⟩) hgm.out).trans hcm.out
  go_wp2_with fail
  refine (rLess_c hl.out (E4.out.nt 0 rfl) (E4.out.nt 1 rfl)).mono ?_
  rintro e w3 ⟨rfl, hb⟩
  have E5 : Hid (EnvB w [(w1.heap.size, .slice xxa (len r) xxk), (w.heap.size + 1 + 1, .slice none 0 0), (w.heap.size + 1, .slice bo (len M) cb), (w.heap.size, .slice ao (len N) ca)] [(.slice xxa (len r) xxk, digs r), (.slice mo (len Q) cm, digs Q), (.slice bo (len M) cb, digs M), (.slice ao (len N) ca, digs N)] _) := Lib.hid ((E4.out.below hb))
  clear p4 f4 p5 E4 hb
  have p6 := (E5.out.1.cell (p := ⟨gg, 0, none⟩) hgg.out).trans hcg.out
  have f6 := (E5.out.1.frozen (p := ⟨gg, 0, none⟩) hgg.out).trans hfg.out
  have hself := setCell_self p6
  obtain ⟨p7, f7, -, -, -⟩ := E5.out.box 0 rfl
  obtain ⟨p8, f8, -, -, -⟩ := E5.out.box 1 rfl
  have E6 : Hid (EnvB w [(w1.heap.size, .slice xxa (len r) xxk), (w.heap.size + 1 + 1, .slice xxa (len r) xxk), (w.heap.size + 1, .slice bo (len M) cb), (w.heap.size, .slice ao (len N) ca)] [(.slice xxa (len r) xxk, digs r), (.slice mo (len Q) cm, digs Q), (.slice bo (len M) cb, digs M), (.slice ao (len N) ca, digs N)] _) := Lib.hid ((E5.out.set 1 (.slice xxa (len r) xxk) rfl ⟨_, _, _, rfl⟩))
  have hfin := Lib.hid E6.out
  obtain ⟨rc, -, -, -, -⟩ := E6.out.box 1 rfl
  go_wp2
  exact bodyPost_ret (v := .agg #[.slice xxa (len r) xxk]) (by simp [results, Try.results40, go_sem, rc]) rfl ⟨⟨_, _, rfl, Lib.hid (hfin.out.nt 0 rfl)⟩, hfin.out.1⟩
set_option maxRecDepth 100000 in
set_option maxHeartbeats 1000000 in
theorem do_Mul (bo : Option Addr) (cb : Nat) (co : Option Addr) (cc : Nat) (N M : Nat) (gm gg : Nat) (mo : Option Addr) (cm Q r : Nat) (w : World) (hb : Nt w (.slice bo (len N) cb) N) (hc : Nt w (.slice co (len M) cc) M) (hm : Nt w (.slice mo (len Q) cm) Q) (hcm0 : w.cell? ⟨gm, 0, none⟩ = some (.slice mo (len Q) cm)) (hgm0 : gm < w.heap.size) (hcg0 : w.cell? ⟨gg, 0, none⟩ = some (.bool true)) (hgg0 : gg < w.heap.size) (hfg0 : w.frozen? ⟨gg, 0, none⟩ = false) (hk0 : len Q ≤ 32) (hv0 : vld (digs r) = true) (hl0 : decide (r < Q) = true) (hn0 : N < Q) (hn20 : M < Q) (hr0 : N * M % Q = r) :
    Calls Try.prog 27 #[.func (.func 28) #[] #[], .agg #[.slice bo (len N) cb], .agg #[.slice co (len M) cc], .pointer (some ⟨gm, 0, none⟩), .pointer (some ⟨gg, 0, none⟩)] w fun e w' => RetV r e w' ∧ Below w.heap.size w w' := by
  have hcm := Lib.hid hcm0
  have hgm := Lib.hid hgm0
  have hcg := Lib.hid hcg0
  have hgg := Lib.hid hgg0
  have hfg := Lib.hid hfg0
  have hk := Lib.hid hk0
  have hv := Lib.hid hv0
  have hl := Lib.hid hl0
  have hn := Lib.hid hn0
  have hn2 := Lib.hid hn20
  have hr := Lib.hid hr0
  clear hcm0 hgm0 hcg0 hgg0 hfg0 hk0 hv0 hl0 hn0 hn20 hr0
  have E0 : Hid (EnvB w [] [(.slice co (len M) cc, digs M), (.slice bo (len N) cb, digs N)] w) := Lib.hid (((EnvB.start w).numN hb).numN hc)
  clear hb hc
  have E00 : Hid (EnvB w [] [(.slice mo (len Q) cm, digs Q), (.slice co (len M) cc, digs M), (.slice bo (len N) cb, digs N)] w) := Lib.hid (E0.out.numN hm)
  clear E0 hm
  go_enter Try.func27, Try.ntmps27
  have E1 : Hid (EnvB w [(w.heap.size + 1 + 1, .slice none 0 0), (w.heap.size + 1, .slice co (len M) cc), (w.heap.size, .slice bo (len N) cb)] [(.slice mo (len Q) cm, digs Q), (.slice co (len M) cc, digs M), (.slice bo (len N) cb, digs N)] _) := Lib.hid ((((E00.out.push (.slice bo (len N) cb) 24 ⟨_, _, _, rfl⟩ (w.heap.size) (by simp)).push (.slice co (len M) cc) 24 ⟨_, _, _, rfl⟩ (w.heap.size + 1) (by simp)).push (.slice none 0 0) 24 ⟨_, _, _, rfl⟩ (w.heap.size + 1 + 1) (by simp)))
  have p1 := (E1.out.1.cell (p := ⟨gm, 0, none⟩) hgm.out).trans hcm.out
  go_wp2_with fail
  refine (Mul_m hr.out hn.out hn2.out hk.out (E1.out.nt 2 rfl) (E1.out.nt 1 rfl) (E1.out.nt 0 rfl)).mono ?_
  rintro e w1 ⟨⟨xxa, xxk, rfl, hxx⟩, hb⟩
  have E2 : Hid (EnvB w [(w.heap.size + 1 + 1, .slice none 0 0), (w.heap.size + 1, .slice co (len M) cc), (w.heap.size, .slice bo (len N) cb)] [(.slice xxa (len r) xxk, digs r), (.slice mo (len Q) cm, digs Q), (.slice co (len M) cc, digs M), (.slice bo (len N) cb, digs N)] _) := Lib.hid (((E1.out.below hb).numN (hxx.out : Nt _ _ r)))
  clear p1 E1 E00 hb hxx
  have E3 : Hid (EnvB w [(w1.heap.size, .slice xxa (len r) xxk), (w.heap.size + 1 + 1, .slice none 0 0), (w.heap.size + 1, .slice co (len M) cc), (w.heap.size, .slice bo (len N) cb)] [(.slice xxa (len r) xxk, digs r), (.slice mo (len Q) cm, digs Q), (.slice co (len M) cc, digs M), (.slice bo (len N) cb, digs N)] _) := Lib.hid ((E2.out.push (.slice xxa (len r) xxk) 24 ⟨_, _, _, rfl⟩ (w1.heap.size) (by simp)))
  have p2 := (E3.out.1.cell (p := ⟨gg, 0, none⟩) hgg.out).trans hcg.out
  have f2 := (E3.out.1.frozen (p := ⟨gg, 0, none⟩) hgg.out).trans hfg.out
  obtain ⟨p3, f3, -, -, -⟩ := E3.out.box 0 rfl
  go_wp2_with fail
  refine (rValid_of hv.out (E3.out.nt 0 rfl)).mono ?_
  rintro e w2 ⟨rfl, hb⟩
  have E4 : Hid (EnvB w [(w1.heap.size, .slice xxa (len r) xxk), (w.heap.size + 1 + 1, .slice none 0 0), (w.heap.size + 1, .slice co (len M) cc), (w.heap.size, .slice bo (len N) cb)] [(.slice xxa (len r) xxk, digs r), (.slice mo (len Q) cm, digs Q), (.slice co (len M) cc, digs M), (.slice bo (len N) cb, digs N)] _) := Lib.hid ((E3.out.below hb))
  clear p2 f2 p3 f3 E3 E2 hb
  obtain ⟨p4, f4, -, -, -⟩ := E4.out.box 0 rfl
  have p5 := (E4.out.1.cell (p := ⟨gm, 0, none⟩) hgm.out).trans hcm.out
  go_wp2_with fail
  refine (rLess_c hl.out (E4.out.nt 0 rfl) (E4.out.nt 1 rfl)).mono ?_
  rintro e w3 ⟨rfl, hb⟩
  have E5 : Hid (EnvB w [(w1.heap.size, .slice xxa (len r) xxk), (w.heap.size + 1 + 1, .slice none 0 0), (w.heap.size + 1, .slice co (len M) cc), (w.heap.size, .slice bo (len N) cb)] [(.slice xxa (len r) xxk, digs r), (.slice mo (len Q) cm, digs Q), (.slice co (len M) cc, digs M), (.slice bo (len N) cb, digs N)] _) := Lib.hid ((E4.out.below hb))
  clear p4 f4 p5 E4 hb
  have p6 := (E5.out.1.cell (p := ⟨gg, 0, none⟩) hgg.out).trans hcg.out
  have f6 := (E5.out.1.frozen (p := ⟨gg, 0, none⟩) hgg.out).trans hfg.out
  have hself := setCell_self p6
  obtain ⟨p7, f7, -, -, -⟩ := E5.out.box 0 rfl
  obtain ⟨p8, f8, -, -, -⟩ := E5.out.box 1 rfl
  have E6 : Hid (EnvB w [(w1.heap.size, .slice xxa (len r) xxk), (w.heap.size + 1 + 1, .slice xxa (len r) xxk), (w.heap.size + 1, .slice co (len M) cc), (w.heap.size, .slice bo (len N) cb)] [(.slice xxa (len r) xxk, digs r), (.slice mo (len Q) cm, digs Q), (.slice co (len M) cc, digs M), (.slice bo (len N) cb, digs N)] _) := Lib.hid ((E5.out.set 1 (.slice xxa (len r) xxk) rfl ⟨_, _, _, rfl⟩))
  have hfin := Lib.hid E6.out
  obtain ⟨rc, -, -, -, -⟩ := E6.out.box 1 rfl
  go_wp2
  exact bodyPost_ret (v := .agg #[.slice xxa (len r) xxk]) (by simp [results, Try.results27, go_sem, rc]) rfl ⟨⟨_, _, rfl, Lib.hid (hfin.out.nt 0 rfl)⟩, hfin.out.1⟩
set_option maxRecDepth 100000 in
set_option maxHeartbeats 1000000 in
theorem do_Add (bo : Option Addr) (cb : Nat) (co : Option Addr) (cc : Nat) (N M : Nat) (gm gg : Nat) (mo : Option Addr) (cm Q r : Nat) (w : World) (hb : Nt w (.slice bo (len N) cb) N) (hc : Nt w (.slice co (len M) cc) M) (hm : Nt w (.slice mo (len Q) cm) Q) (hcm0 : w.cell? ⟨gm, 0, none⟩ = some (.slice mo (len Q) cm)) (hgm0 : gm < w.heap.size) (hcg0 : w.cell? ⟨gg, 0, none⟩ = some (.bool true)) (hgg0 : gg < w.heap.size) (hfg0 : w.frozen? ⟨gg, 0, none⟩ = false) (hk0 : len Q ≤ 32) (hv0 : vld (digs r) = true) (hl0 : decide (r < Q) = true) (hn0 : N < Q) (hn20 : M < Q) (hr0 : (N + M) % Q = r) :
    Calls Try.prog 27 #[.func (.func 23) #[] #[], .agg #[.slice bo (len N) cb], .agg #[.slice co (len M) cc], .pointer (some ⟨gm, 0, none⟩), .pointer (some ⟨gg, 0, none⟩)] w fun e w' => RetV r e w' ∧ Below w.heap.size w w' := by
  have hcm := Lib.hid hcm0
  have hgm := Lib.hid hgm0
  have hcg := Lib.hid hcg0
  have hgg := Lib.hid hgg0
  have hfg := Lib.hid hfg0
  have hk := Lib.hid hk0
  have hv := Lib.hid hv0
  have hl := Lib.hid hl0
  have hn := Lib.hid hn0
  have hn2 := Lib.hid hn20
  have hr := Lib.hid hr0
  clear hcm0 hgm0 hcg0 hgg0 hfg0 hk0 hv0 hl0 hn0 hn20 hr0
  have E0 : Hid (EnvB w [] [(.slice co (len M) cc, digs M), (.slice bo (len N) cb, digs N)] w) := Lib.hid (((EnvB.start w).numN hb).numN hc)
  clear hb hc
  have E00 : Hid (EnvB w [] [(.slice mo (len Q) cm, digs Q), (.slice co (len M) cc, digs M), (.slice bo (len N) cb, digs N)] w) := Lib.hid (E0.out.numN hm)
  clear E0 hm
  go_enter Try.func27, Try.ntmps27
  have E1 : Hid (EnvB w [(w.heap.size + 1 + 1, .slice none 0 0), (w.heap.size + 1, .slice co (len M) cc), (w.heap.size, .slice bo (len N) cb)] [(.slice mo (len Q) cm, digs Q), (.slice co (len M) cc, digs M), (.slice bo (len N) cb, digs N)] _) := Lib.hid ((((E00.out.push (.slice bo (len N) cb) 24 ⟨_, _, _, rfl⟩ (w.heap.size) (by simp)).push (.slice co (len M) cc) 24 ⟨_, _, _, rfl⟩ (w.heap.size + 1) (by simp)).push (.slice none 0 0) 24 ⟨_, _, _, rfl⟩ (w.heap.size + 1 + 1) (by simp)))
  have p1 := (E1.out.1.cell (p := ⟨gm, 0, none⟩) hgm.out).trans hcm.out
  go_wp2_with fail
  refine (Add_m hr.out hn.out hn2.out hk.out (E1.out.nt 2 rfl) (E1.out.nt 1 rfl) (E1.out.nt 0 rfl)).mono ?_
  rintro e w1 ⟨⟨xxa, xxk, rfl, hxx⟩, hb⟩
  have E2 : Hid (EnvB w [(w.heap.size + 1 + 1, .slice none 0 0), (w.heap.size + 1, .slice co (len M) cc), (w.heap.size, .slice bo (len N) cb)] [(.slice xxa (len r) xxk, digs r), (.slice mo (len Q) cm, digs Q), (.slice co (len M) cc, digs M), (.slice bo (len N) cb, digs N)] _) := Lib.hid (((E1.out.below hb).numN (hxx.out : Nt _ _ r)))
  clear p1 E1 E00 hb hxx
  have E3 : Hid (EnvB w [(w1.heap.size, .slice xxa (len r) xxk), (w.heap.size + 1 + 1, .slice none 0 0), (w.heap.size + 1, .slice co (len M) cc), (w.heap.size, .slice bo (len N) cb)] [(.slice xxa (len r) xxk, digs r), (.slice mo (len Q) cm, digs Q), (.slice co (len M) cc, digs M), (.slice bo (len N) cb, digs N)] _) := Lib.hid ((E2.out.push (.slice xxa (len r) xxk) 24 ⟨_, _, _, rfl⟩ (w1.heap.size) (by simp)))
  have p2 := (E3.out.1.cell (p := ⟨gg, 0, none⟩) hgg.out).trans hcg.out
  have f2 := (E3.out.1.frozen (p := ⟨gg, 0, none⟩) hgg.out).trans hfg.out
  obtain ⟨p3, f3, -, -, -⟩ := E3.out.box 0 rfl
  go_wp2_with fail
  refine (rValid_of hv.out (E3.out.nt 0 rfl)).mono ?_
  rintro e w2 ⟨rfl, hb⟩
  have E4 : Hid (EnvB w [(w1.heap.size, .slice xxa (len r) xxk), (w.heap.size + 1 + 1, .slice none 0 0), (w.heap.size + 1, .slice co (len M) cc), (w.heap.size, .slice bo (len N) cb)] [(.slice xxa (len r) xxk, digs r), (.slice mo (len Q) cm, digs Q), (.slice co (len M) cc, digs M), (.slice bo (len N) cb, digs N)] _) := Lib.hid ((E3.out.below hb))
  clear p2 f2 p3 f3 E3 E2 hb
  obtain ⟨p4, f4, -, -, -⟩ := E4.out.box 0 rfl
  have p5 := (E4.out.1.cell (p := ⟨gm, 0, none⟩) hgm.out).trans hcm.out
  go_wp2_with fail
  refine (rLess_c hl.out (E4.out.nt 0 rfl) (E4.out.nt 1 rfl)).mono ?_
  rintro e w3 ⟨rfl, hb⟩
  have E5 : Hid (EnvB w [(w1.heap.size, .slice xxa (len r) xxk), (w.heap.size + 1 + 1, .slice none 0 0), (w.heap.size + 1, .slice co (len M) cc), (w.heap.size, .slice bo (len N) cb)] [(.slice xxa (len r) xxk, digs r), (.slice mo (len Q) cm, digs Q), (.slice co (len M) cc, digs M), (.slice bo (len N) cb, digs N)] _) := Lib.hid ((E4.out.below hb))
  clear p4 f4 p5 E4 hb
  have p6 := (E5.out.1.cell (p := ⟨gg, 0, none⟩) hgg.out).trans hcg.out
  have f6 := (E5.out.1.frozen (p := ⟨gg, 0, none⟩) hgg.out).trans hfg.out
  have hself := setCell_self p6
  obtain ⟨p7, f7, -, -, -⟩ := E5.out.box 0 rfl
  obtain ⟨p8, f8, -, -, -⟩ := E5.out.box 1 rfl
  have E6 : Hid (EnvB w [(w1.heap.size, .slice xxa (len r) xxk), (w.heap.size + 1 + 1, .slice xxa (len r) xxk), (w.heap.size + 1, .slice co (len M) cc), (w.heap.size, .slice bo (len N) cb)] [(.slice xxa (len r) xxk, digs r), (.slice mo (len Q) cm, digs Q), (.slice co (len M) cc, digs M), (.slice bo (len N) cb, digs N)] _) := Lib.hid ((E5.out.set 1 (.slice xxa (len r) xxk) rfl ⟨_, _, _, rfl⟩))
  have hfin := Lib.hid E6.out
  obtain ⟨rc, -, -, -, -⟩ := E6.out.box 1 rfl
  go_wp2
  exact bodyPost_ret (v := .agg #[.slice xxa (len r) xxk]) (by simp [results, Try.results27, go_sem, rc]) rfl ⟨⟨_, _, rfl, Lib.hid (hfin.out.nt 0 rfl)⟩, hfin.out.1⟩
set_option maxRecDepth 100000 in
set_option maxHeartbeats 1000000 in
theorem do_Sub (bo : Option Addr) (cb : Nat) (co : Option Addr) (cc : Nat) (N M : Nat) (gm gg : Nat) (mo : Option Addr) (cm Q r : Nat) (w : World) (hb : Nt w (.slice bo (len N) cb) N) (hc : Nt w (.slice co (len M) cc) M) (hm : Nt w (.slice mo (len Q) cm) Q) (hcm0 : w.cell? ⟨gm, 0, none⟩ = some (.slice mo (len Q) cm)) (hgm0 : gm < w.heap.size) (hcg0 : w.cell? ⟨gg, 0, none⟩ = some (.bool true)) (hgg0 : gg < w.heap.size) (hfg0 : w.frozen? ⟨gg, 0, none⟩ = false) (hk0 : len Q ≤ 32) (hv0 : vld (digs r) = true) (hl0 : decide (r < Q) = true) (hn0 : N < Q) (hn20 : M < Q) (hr0 : subm N M Q = r) :
    Calls Try.prog 27 #[.func (.func 24) #[] #[], .agg #[.slice bo (len N) cb], .agg #[.slice co (len M) cc], .pointer (some ⟨gm, 0, none⟩), .pointer (some ⟨gg, 0, none⟩)] w fun e w' => RetV r e w' ∧ Below w.heap.size w w' := by
  have hcm := Lib.hid hcm0
  have hgm := Lib.hid hgm0
  have hcg := Lib.hid hcg0
  have hgg := Lib.hid hgg0
  have hfg := Lib.hid hfg0
  have hk := Lib.hid hk0
  have hv := Lib.hid hv0
  have hl := Lib.hid hl0
  have hn := Lib.hid hn0
  have hn2 := Lib.hid hn20
  have hr := Lib.hid hr0
  clear hcm0 hgm0 hcg0 hgg0 hfg0 hk0 hv0 hl0 hn0 hn20 hr0
  have E0 : Hid (EnvB w [] [(.slice co (len M) cc, digs M), (.slice bo (len N) cb, digs N)] w) := Lib.hid (((EnvB.start w).numN hb).numN hc)
  clear hb hc
  have E00 : Hid (EnvB w [] [(.slice mo (len Q) cm, digs Q), (.slice co (len M) cc, digs M), (.slice bo (len N) cb, digs N)] w) := Lib.hid (E0.out.numN hm)
  clear E0 hm
  go_enter Try.func27, Try.ntmps27
  have E1 : Hid (EnvB w [(w.heap.size + 1 + 1, .slice none 0 0), (w.heap.size + 1, .slice co (len M) cc), (w.heap.size, .slice bo (len N) cb)] [(.slice mo (len Q) cm, digs Q), (.slice co (len M) cc, digs M), (.slice bo (len N) cb, digs N)] _) := Lib.hid ((((E00.out.push (.slice bo (len N) cb) 24 ⟨_, _, _, rfl⟩ (w.heap.size) (by simp)).push (.slice co (len M) cc) 24 ⟨_, _, _, rfl⟩ (w.heap.size + 1) (by simp)).push (.slice none 0 0) 24 ⟨_, _, _, rfl⟩ (w.heap.size + 1 + 1) (by simp)))
  have p1 := (E1.out.1.cell (p := ⟨gm, 0, none⟩) hgm.out).trans hcm.out
  go_wp2_with fail
  refine (Sub_m hr.out hn.out hn2.out hk.out (E1.out.nt 2 rfl) (E1.out.nt 1 rfl) (E1.out.nt 0 rfl)).mono ?_
  rintro e w1 ⟨⟨xxa, xxk, rfl, hxx⟩, hb⟩
  have E2 : Hid (EnvB w [(w.heap.size + 1 + 1, .slice none 0 0), (w.heap.size + 1, .slice co (len M) cc), (w.heap.size, .slice bo (len N) cb)] [(.slice xxa (len r) xxk, digs r), (.slice mo (len Q) cm, digs Q), (.slice co (len M) cc, digs M), (.slice bo (len N) cb, digs N)] _) := Lib.hid (((E1.out.below hb).numN (hxx.out : Nt _ _ r)))
  clear p1 E1 E00 hb hxx
  have E3 : Hid (EnvB w [(w1.heap.size, .slice xxa (len r) xxk), (w.heap.size + 1 + 1, .slice none 0 0), (w.heap.size + 1, .slice co (len M) cc), (w.heap.size, .slice bo (len N) cb)] [(.slice xxa (len r) xxk, digs r), (.slice mo (len Q) cm, digs Q), (.slice co (len M) cc, digs M), (.slice bo (len N) cb, digs N)] _) := Lib.hid ((E2.out.push (.slice xxa (len r) xxk) 24 ⟨_, _, _, rfl⟩ (w1.heap.size) (by simp)))
  have p2 := (E3.out.1.cell (p := ⟨gg, 0, none⟩) hgg.out).trans hcg.out
  have f2 := (E3.out.1.frozen (p := ⟨gg, 0, none⟩) hgg.out).trans hfg.out
  obtain ⟨p3, f3, -, -, -⟩ := E3.out.box 0 rfl
  go_wp2_with fail
  refine (rValid_of hv.out (E3.out.nt 0 rfl)).mono ?_
  rintro e w2 ⟨rfl, hb⟩
  have E4 : Hid (EnvB w [(w1.heap.size, .slice xxa (len r) xxk), (w.heap.size + 1 + 1, .slice none 0 0), (w.heap.size + 1, .slice co (len M) cc), (w.heap.size, .slice bo (len N) cb)] [(.slice xxa (len r) xxk, digs r), (.slice mo (len Q) cm, digs Q), (.slice co (len M) cc, digs M), (.slice bo (len N) cb, digs N)] _) := Lib.hid ((E3.out.below hb))
  clear p2 f2 p3 f3 E3 E2 hb
  obtain ⟨p4, f4, -, -, -⟩ := E4.out.box 0 rfl
  have p5 := (E4.out.1.cell (p := ⟨gm, 0, none⟩) hgm.out).trans hcm.out
  go_wp2_with fail
  refine (rLess_c hl.out (E4.out.nt 0 rfl) (E4.out.nt 1 rfl)).mono ?_
  rintro e w3 ⟨rfl, hb⟩
  have E5 : Hid (EnvB w [(w1.heap.size, .slice xxa (len r) xxk), (w.heap.size + 1 + 1, .slice none 0 0), (w.heap.size + 1, .slice co (len M) cc), (w.heap.size, .slice bo (len N) cb)] [(.slice xxa (len r) xxk, digs r), (.slice mo (len Q) cm, digs Q), (.slice co (len M) cc, digs M), (.slice bo (len N) cb, digs N)] _) := Lib.hid ((E4.out.below hb))
  clear p4 f4 p5 E4 hb
  have p6 := (E5.out.1.cell (p := ⟨gg, 0, none⟩) hgg.out).trans hcg.out
  have f6 := (E5.out.1.frozen (p := ⟨gg, 0, none⟩) hgg.out).trans hfg.out
  have hself := setCell_self p6
  obtain ⟨p7, f7, -, -, -⟩ := E5.out.box 0 rfl
  obtain ⟨p8, f8, -, -, -⟩ := E5.out.box 1 rfl
  have E6 : Hid (EnvB w [(w1.heap.size, .slice xxa (len r) xxk), (w.heap.size + 1 + 1, .slice xxa (len r) xxk), (w.heap.size + 1, .slice co (len M) cc), (w.heap.size, .slice bo (len N) cb)] [(.slice xxa (len r) xxk, digs r), (.slice mo (len Q) cm, digs Q), (.slice co (len M) cc, digs M), (.slice bo (len N) cb, digs N)] _) := Lib.hid ((E5.out.set 1 (.slice xxa (len r) xxk) rfl ⟨_, _, _, rfl⟩))
  have hfin := Lib.hid E6.out
  obtain ⟨rc, -, -, -, -⟩ := E6.out.box 1 rfl
  go_wp2
  exact bodyPost_ret (v := .agg #[.slice xxa (len r) xxk]) (by simp [results, Try.results27, go_sem, rc]) rfl ⟨⟨_, _, rfl, Lib.hid (hfin.out.nt 0 rfl)⟩, hfin.out.1⟩
/-- a captured truth value that is true -/
def Good (g : Nat) (W : World) : Prop := g < W.heap.size ∧ W.cell? ⟨g, 0, none⟩ = some (.bool true) ∧ W.frozen? ⟨g, 0, none⟩ = false
theorem Good.below {g : Nat} {W W' : World} (h : Good g W) (hb : Below W.heap.size W W') : Good g W' :=
  ⟨Nat.lt_of_lt_of_le h.1 hb.size, (hb.cell (p := ⟨g, 0, none⟩) h.1).trans h.2.1, (hb.frozen (p := ⟨g, 0, none⟩) h.1).trans h.2.2⟩
theorem Good.mk1 (W : World) : Good W.heap.size (W.alloc (.cells #[.bool true] 4)) := ⟨by simp, box1a _ _ _, box1f _ _ _⟩
theorem Good.set {g b B : Nat} {u : Value} {W : World} (h : Good g W) (hb : BoxAt B b u W) (v : Value) : Good g (W.setCell ⟨b, 0, none⟩ v) := by
  have hne : b ≠ g := by
    rintro rfl
    have h1 := h.2.1
    rw [hb.1] at h1
    obtain ⟨_, _, _, hs⟩ := hb.2.2.2.2
    rw [hs] at h1
    cases h1
  exact ⟨by simpa using h.1, (World.cell?_setCell_other _ _ _ _ (fun e => hne (by cases e; rfl))).trans h.2.1, by simpa using h.2.2⟩
theorem vld_lt {r Q : Nat} (h : r < Q) (hk : len Q ≤ 32) : vld (digs r) = true := by
  rw [vld_digs]; exact decide_eq_true (by have := len_le_of_lt h hk; omega)
def RetZ (e : Ending) : Prop := ∃ (ao : Option Addr) (k : Nat), e = .returned (.agg #[.slice ao 0 k])
theorem calls_rz {P : Program} {f : Nat} {args : Array Value} {w : World} (h : Calls P f args w fun e w' => RetV 0 e w' ∧ Below w.heap.size w w') : Calls P f args w fun e w' => RetZ e ∧ Below w.heap.size w w' := by
  refine h.mono ?_
  rintro e w' ⟨⟨a, k, rfl, _⟩, hb⟩
  exact ⟨⟨a, k, by rw [len_zero]⟩, hb⟩
theorem pow_clk {a b mv : Value} {N M Q r gm gg B : Nat} {w : World} (hx : BoxAt B gm mv w) (hG : Good gg w) (hm : Nt w mv Q) (hk : len Q ≤ 32) (hl : r < Q) (hn : N < Q) (he : len M ≤ 64) (hr : N ^ M % Q = r) (ha : Nt w a N) (hb : Nt w b M) :
    Calls Try.prog 39 #[.agg #[a], .agg #[b], .pointer (some ⟨gm, 0, none⟩), .pointer (some ⟨gg, 0, none⟩)] w fun e w' => RetV r e w' ∧ Below w.heap.size w w' := by
  obtain ⟨ao, ca, rfl, _⟩ := ha.open
  obtain ⟨bo, cb, rfl, _⟩ := hb.open
  obtain ⟨mo, cm, rfl, _⟩ := hm.open
  exact pow_cl ao ca bo cb N M gm gg mo cm Q r w ha hb hm hx.1 hx.2.2.1 hG.2.1 hG.1 hG.2.2 hk (vld_lt hl hk) (decide_eq_true hl) hn he hr
theorem mul_clk {a b mv : Value} {N M Q r gm gg B : Nat} {w : World} (hx : BoxAt B gm mv w) (hG : Good gg w) (hm : Nt w mv Q) (hk : len Q ≤ 32) (hl : r < Q) (hn : N < Q) (hn2 : M < Q) (hr : N * M % Q = r) (ha : Nt w a N) (hb : Nt w b M) :
    Calls Try.prog 40 #[.agg #[a], .agg #[b], .pointer (some ⟨gm, 0, none⟩), .pointer (some ⟨gg, 0, none⟩)] w fun e w' => RetV r e w' ∧ Below w.heap.size w w' := by
  obtain ⟨ao, ca, rfl, _⟩ := ha.open
  obtain ⟨bo, cb, rfl, _⟩ := hb.open
  obtain ⟨mo, cm, rfl, _⟩ := hm.open
  exact mul_cl ao ca bo cb N M gm gg mo cm Q r w ha hb hm hx.1 hx.2.2.1 hG.2.1 hG.1 hG.2.2 hk (vld_lt hl hk) (decide_eq_true hl) hn hn2 hr
theorem do_Mulk {a b mv : Value} {N M Q r gm gg B : Nat} {w : World} (hx : BoxAt B gm mv w) (hG : Good gg w) (hm : Nt w mv Q) (hk : len Q ≤ 32) (hl : r < Q) (hn : N < Q) (hn2 : M < Q) (hr : N * M % Q = r) (ha : Nt w a N) (hb : Nt w b M) :
    Calls Try.prog 27 #[.func (.func 28) #[] #[], .agg #[a], .agg #[b], .pointer (some ⟨gm, 0, none⟩), .pointer (some ⟨gg, 0, none⟩)] w fun e w' => RetV r e w' ∧ Below w.heap.size w w' := by
  obtain ⟨ao, ca, rfl, _⟩ := ha.open
  obtain ⟨bo, cb, rfl, _⟩ := hb.open
  obtain ⟨mo, cm, rfl, _⟩ := hm.open
  exact do_Mul ao ca bo cb N M gm gg mo cm Q r w ha hb hm hx.1 hx.2.2.1 hG.2.1 hG.1 hG.2.2 hk (vld_lt hl hk) (decide_eq_true hl) hn hn2 hr
theorem do_Addk {a b mv : Value} {N M Q r gm gg B : Nat} {w : World} (hx : BoxAt B gm mv w) (hG : Good gg w) (hm : Nt w mv Q) (hk : len Q ≤ 32) (hl : r < Q) (hn : N < Q) (hn2 : M < Q) (hr : (N + M) % Q = r) (ha : Nt w a N) (hb : Nt w b M) :
    Calls Try.prog 27 #[.func (.func 23) #[] #[], .agg #[a], .agg #[b], .pointer (some ⟨gm, 0, none⟩), .pointer (some ⟨gg, 0, none⟩)] w fun e w' => RetV r e w' ∧ Below w.heap.size w w' := by
  obtain ⟨ao, ca, rfl, _⟩ := ha.open
  obtain ⟨bo, cb, rfl, _⟩ := hb.open
  obtain ⟨mo, cm, rfl, _⟩ := hm.open
  exact do_Add ao ca bo cb N M gm gg mo cm Q r w ha hb hm hx.1 hx.2.2.1 hG.2.1 hG.1 hG.2.2 hk (vld_lt hl hk) (decide_eq_true hl) hn hn2 hr
theorem do_Subk {a b mv : Value} {N M Q r gm gg B : Nat} {w : World} (hx : BoxAt B gm mv w) (hG : Good gg w) (hm : Nt w mv Q) (hk : len Q ≤ 32) (hl : r < Q) (hn : N < Q) (hn2 : M < Q) (hr : subm N M Q = r) (ha : Nt w a N) (hb : Nt w b M) :
    Calls Try.prog 27 #[.func (.func 24) #[] #[], .agg #[a], .agg #[b], .pointer (some ⟨gm, 0, none⟩), .pointer (some ⟨gg, 0, none⟩)] w fun e w' => RetV r e w' ∧ Below w.heap.size w w' := by
  obtain ⟨ao, ca, rfl, _⟩ := ha.open
  obtain ⟨bo, cb, rfl, _⟩ := hb.open
  obtain ⟨mo, cm, rfl, _⟩ := hm.open
  exact do_Sub ao ca bo cb N M gm gg mo cm Q r w ha hb hm hx.1 hx.2.2.1 hG.2.1 hG.1 hG.2.2 hk (vld_lt hl hk) (decide_eq_true hl) hn hn2 hr
end Go.Proofs.Ythphmgdmhlimjaa

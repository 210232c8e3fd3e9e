/- NaturalSums: the walk of the statement. -/
import Derived.Test.YtgogfjehbaiklaaNatEnv
import Derived.Deep.RegionHeld3
namespace Go.Proofs.Ytgogfjehbaiklaa
open Go.RowKit NatMath
set_option linter.unusedVariables false

theorem below_step {a b c : World} (h : Below a.heap.size a b) (hb : Below b.heap.size b c) : Below a.heap.size a c := h.trans (hb.mono h.size)

theorem is_same (a b : Value) (N : Nat) (e : Int) (w : World) (ha : Nt w a N) (hb : Nt w b N) :
    Calls Try.prog 17 #[.agg #[a], .int .i64 e, .agg #[b], .int .i64 e] w fun e' w' => e' = .returned (.bool true) ∧ Below w.heap.size w w' := by
  have := is_c a b N N e e w ha hb
  rwa [show (decide (e = e) && decide (N = N)) = true from by simp] at this

set_option maxRecDepth 100000 in
set_option maxHeartbeats 4000000 in
theorem NaturalSums_valid (ao bo : Option Addr) (ca cb : Nat) (N M : Nat) (w : World) (ha : Nt w (.slice ao (len N) ca) N) (hb : Nt w (.slice bo (len M) cb) M) (h1 : len N ≤ 64) (h2 : len M ≤ 64) :
    Calls Try.prog 7 #[.agg #[.slice ao (len N) ca], .agg #[.slice bo (len M) cb]] w fun e w' => e = .returned (.bool true) ∧ Below w.heap.size w w' := by
  have HA := Lib.hid ha
  have HB := Lib.hid hb
  have cA := Lib.hid (fun W a b => (Add_ok (.slice ao (len N) ca) (.slice bo (len M) cb) N M W a b h1 h2).mono (fun e w' h => And.intro h.1.res h.2))
  have cR := Lib.hid (fun W a b => (refAdd_c (.slice ao (len N) ca) (.slice bo (len M) cb) N M W a b h1 h2).mono (fun e w' h => And.intro h.1.res h.2))
  have cC := Lib.hid (fun W a b => Compare_c (.slice ao (len N) ca) (.slice bo (len M) cb) N M W a b h1 h2)
  have cD := Lib.hid (fun W a b => refCompare_c (.slice ao (len N) ca) (.slice bo (len M) cb) N M W a b h1 h2)
  have cV := Lib.hid (fun W h => refValid_c (.slice ao (len N) ca) (digs N) W h)
  have cU := Lib.hid (fun W h => refValid_c (.slice bo (len M) cb) (digs M) W h)
  obtain ⟨D, dc, cS, hDe, hDn⟩ : ∃ (D : Nat) (dc : Int), Hid (∀ W, Nt W (.slice ao (len N) ca) N → Nt W (.slice bo (len M) cb) M → Calls Try.prog 33 #[.agg #[.slice ao (len N) ca], .agg #[.slice bo (len M) cb]] W fun e w' => ResN D dc e w' ∧ Below W.heap.size W w') ∧
      (M ≤ N → D = N - M ∧ dc = 0) ∧ (N < M → D = 0 ∧ dc = 2) := by
    by_cases h : M ≤ N
    · exact ⟨N - M, 0, Lib.hid (fun W a b => (Sub_ok _ _ N M W a b h1 h2 h).mono (fun e w' h => And.intro h.1.res h.2)), fun _ => ⟨rfl, rfl⟩, by omega⟩
    · exact ⟨0, 2, Lib.hid (fun W a b => (Sub_range _ _ N M W a b h1 h2 (by omega)).mono (fun e w' h => ⟨by rw [h.1]; exact errN.res _ _, h.2⟩)), fun h' => absurd h' h, fun _ => ⟨rfl, rfl⟩⟩
  have cX := Lib.hid (fun W a b h => refSub_c (.slice ao (len N) ca) (.slice bo (len M) cb) N M W a b h1 h)
  have hR : (M ≤ N ∧ decide (cmp N M < 0) = false) ∨ (N < M ∧ decide (cmp N M < 0) = true) := by
    by_cases h : M ≤ N
    · exact Or.inl ⟨h, decide_eq_false (by unfold cmp; rw [if_neg (by omega)]; split <;> omega)⟩
    · exact Or.inr ⟨by omega, decide_eq_true (by unfold cmp; rw [if_pos (by omega)]; omega)⟩
  have vN : Hid (vld (digs N) = true) := Lib.hid (by rw [vld_digs]; exact decide_eq_true h1)
  have vM : Hid (vld (digs M) = true) := Lib.hid (by rw [vld_digs]; exact decide_eq_true h2)
  rw [vN.out] at cV
  rw [vM.out] at cU
  have n1 : (len N : Int) ≤ 64 := by omega
  have n2 : (len M : Int) ≤ 64 := by omega
  clear ha hb h1 h2
  generalize cmp N M = R at *
  generalize len N = n at *
  generalize len M = m at *
  go_enter Try.func7, Try.ntmps7
  go_wp2_with fail
  refine (awake_c _).mono ?_
  rintro e w1 ⟨rfl, hb1⟩
  have E1 := Lib.hid ((((Env.start w).push (.slice ao n ca) 24).pushAt (.slice bo m cb) 24 (w.heap.size + 1) (by simp)).below hb1)
  clear hb1
  obtain ⟨_, ⟨p1, q1⟩, ⟨p2, q2⟩, _⟩ := E1.out
  go_wp2_with fail
  refine (great2_c ao bo n m ca cb w1 (by omega) (by omega) _ rfl).mono ?_
  rintro e w2 ⟨⟨hg, rfl⟩ | ⟨⟨g1, g2⟩, rfl⟩, hb2⟩
  · exact absurd hg (by omega)
  have E2 := Lib.hid (E1.out.below hb2)
  clear p1 q1 p2 q2 hb2
  obtain ⟨_, ⟨p1, q1⟩, ⟨p2, q2⟩, _⟩ := E2.out
  go_wp2_with fail
  refine (cA.out _ (E2.out.nt HA.out) (E2.out.nt HB.out)).mono ?_
  rintro e w3 ⟨⟨sa, sk, rfl, hs⟩, hb3⟩
  generalize bigv (N + M) = V at *
  generalize bigc (N + M) = vc at *
  have E3 := Lib.hid (E2.out.below hb3)
  clear p1 q1 p2 q2 hb3
  obtain ⟨_, ⟨p1, q1⟩, ⟨p2, q2⟩, _⟩ := E3.out
  go_wp2_with fail
  refine (cS.out _ ((E3.out.alloc _).nt HA.out) ((E3.out.alloc _).nt HB.out)).mono ?_
  rintro e w4 ⟨⟨da, dk, rfl, hd⟩, hb4⟩
  have hs4 := Lib.hid (hs.out.below' ((below_one w3 _).trans (hb4.mono (by simp))))
  have E4 := Lib.hid ((E3.out.push (.slice sa (len V) sk) 24).below hb4)
  clear p1 q1 p2 q2 hb4 hs
  obtain ⟨_, ⟨p3, q3⟩, ⟨p1, q1⟩, ⟨p2, q2⟩, _⟩ := E4.out
  go_wp2_with fail
  have E4' := Lib.hid (E4.out.push (.slice da (len D) dk) 24)
  refine (cV.out _ (E4'.out.nt HA.out)).mono ?_
  rintro e w5 ⟨rfl, hb5⟩
  have hd5 := Lib.hid (hd.out.below' ((below_one w4 _).trans (hb5.mono (by simp))))
  have hs5 := Lib.hid (hs4.out.below' ((below_one w4 _).trans (hb5.mono (by simp))))
  have E5 := Lib.hid (E4'.out.below hb5)
  clear p1 q1 p2 q2 p3 q3 hb5 hd hs4 E4'
  obtain ⟨_, ⟨p4, q4⟩, ⟨p3, q3⟩, ⟨p1, q1⟩, ⟨p2, q2⟩, _⟩ := E5.out
  go_wp2_with fail
  refine (cU.out _ (E5.out.nt HB.out)).mono ?_
  rintro e w6 ⟨rfl, hb6⟩
  have hd6 := Lib.hid (hd5.out.below' hb6)
  have hs6 := Lib.hid (hs5.out.below' hb6)
  have E6 := Lib.hid (E5.out.below hb6)
  clear p1 q1 p2 q2 p3 q3 p4 q4 hb6 hd5 hs5
  obtain ⟨_, ⟨p4, q4⟩, ⟨p3, q3⟩, ⟨p1, q1⟩, ⟨p2, q2⟩, _⟩ := E6.out
  go_wp2_with fail
  refine (cR.out _ (E6.out.nt HA.out) (E6.out.nt HB.out)).mono ?_
  rintro e w7 ⟨⟨ra, rk, rfl, hr⟩, hb7⟩
  have hd7 := Lib.hid (hd6.out.below' hb7)
  have hs7 := Lib.hid (hs6.out.below' hb7)
  have E7 := Lib.hid (E6.out.below hb7)
  clear p1 q1 p2 q2 p3 q3 p4 q4 hb7 hd6 hs6
  obtain ⟨_, ⟨p4, q4⟩, ⟨p3, q3⟩, ⟨p1, q1⟩, ⟨p2, q2⟩, _⟩ := E7.out
  go_wp2_with fail
  have E8 := Lib.hid (E7.out.push (.slice ra (len V) rk) 24)
  have hr8 := Lib.hid (hr.out.below' (below_one w7 (.cells #[.slice ra (len V) rk] 24)))
  have hs8 := Lib.hid (hs7.out.below' (below_one w7 (.cells #[.slice ra (len V) rk] 24)))
  have hd8 := Lib.hid (hd7.out.below' (below_one w7 (.cells #[.slice ra (len V) rk] 24)))
  clear p1 q1 p2 q2 p3 q3 p4 q4 hr hs7 hd7
  generalize w7.alloc (.cells #[.slice ra (len V) rk] 24) = Wb at *
  have c1 := Lib.hid (fun W (hB : Below Wb.heap.size Wb W) => cC.out W ((E8.out.below hB).nt HA.out) ((E8.out.below hB).nt HB.out))
  have c2 := Lib.hid (fun W (hB : Below Wb.heap.size Wb W) => cD.out W ((E8.out.below hB).nt HA.out) ((E8.out.below hB).nt HB.out))
  have c3 := Lib.hid (fun W (hB : Below Wb.heap.size Wb W) => is_c (.slice sa (len V) sk) (.slice ra (len V) rk) V V vc vc W (hs8.out.below' hB) (hr8.out.below' hB))
  rw [show (decide (vc = vc) && decide (V = V)) = true from by simp] at c3
  have hRR : (R != R) = false := by simp
  have BB : Hid (Below Wb.heap.size Wb Wb.drew) := Lib.hid (below_drewN (Below.refl _ _) 1)
  obtain ⟨_, ⟨z5, _⟩, ⟨z4, _⟩, ⟨z3, _⟩, ⟨z2, _⟩, ⟨z1, _⟩, _⟩ := E8.out.below BB.out
  obtain ⟨_, ⟨p5, q5⟩, ⟨p4, q4⟩, ⟨p3, q3⟩, ⟨p1, q1⟩, ⟨p2, q2⟩, _⟩ := E8.out
  go_region_held3 (fun w' => w'.cell? ⟨w.heap.size, 0, none⟩ = some (.slice ao n ca) ∧ w'.cell? ⟨w.heap.size + 1, 0, none⟩ = some (.slice bo m cb) ∧ w'.cell? ⟨w3.heap.size, 0, none⟩ = some (.slice sa (len V) sk) ∧ w'.cell? ⟨w4.heap.size, 0, none⟩ = some (.slice da (len D) dk) ∧ w'.cell? ⟨w7.heap.size, 0, none⟩ = some (.slice ra (len V) rk) ∧ Hid (Below Wb.heap.size Wb w')) (first | exact ⟨z1, z2, z3, z4, z5, BB⟩)
    (first | (go_at_call 23; refine (c1.out _ ?_).mono ?_; (exact BB.out); rintro e w8 ⟨rfl, hb8⟩; have BB := Lib.hid (below_step BB.out hb8); obtain ⟨_, ⟨z5, _⟩, ⟨z4, _⟩, ⟨z3, _⟩, ⟨z2, _⟩, ⟨z1, _⟩, _⟩ := E8.out.below BB.out) | (go_at_call 35; refine (c2.out _ ?_).mono ?_; (exact BB.out); rintro e w8 ⟨rfl, hb8⟩; have BB := Lib.hid (below_step BB.out hb8); obtain ⟨_, ⟨z5, _⟩, ⟨z4, _⟩, ⟨z3, _⟩, ⟨z2, _⟩, ⟨z1, _⟩, _⟩ := E8.out.below BB.out) | (go_at_call 17; refine (c3.out _ ?_).mono ?_; (exact BB.out); rintro e w8 ⟨rfl, hb8⟩; have BB := Lib.hid (below_step BB.out hb8); obtain ⟨_, ⟨z5, _⟩, ⟨z4, _⟩, ⟨z3, _⟩, ⟨z2, _⟩, ⟨z1, _⟩, _⟩ := E8.out.below BB.out))
  have E9 := Lib.hid (E8.out.below BB.out)
  have hd9 := Lib.hid (hd8.out.below' BB.out)
  clear p1 q1 p2 q2 p3 q3 p4 q4 p5 q5 z1 z2 z3 z4 z5 c1 c2 c3 hb8 hs8 hr8
  obtain ⟨_, ⟨p5, q5⟩, ⟨p4, q4⟩, ⟨p3, q3⟩, ⟨p1, q1⟩, ⟨p2, q2⟩, _⟩ := E9.out
  clear BB E8 hd8
  go_wp2_with fail
  refine (cD.out _ (E9.out.nt HA.out) (E9.out.nt HB.out)).mono ?_
  rintro e w9 ⟨rfl, hb9⟩
  have E10 := Lib.hid (E9.out.below hb9)
  have hd10 := Lib.hid (hd9.out.below' hb9)
  clear p1 q1 p2 q2 p3 q3 p4 q4 p5 q5 hb9 hd9
  obtain ⟨_, ⟨p5, q5⟩, ⟨p4, q4⟩, ⟨p3, q3⟩, ⟨p1, q1⟩, ⟨p2, q2⟩, _⟩ := E10.out
  rcases hR with ⟨hle, ht⟩ | ⟨hlt, ht⟩
  · obtain ⟨rfl, rfl⟩ := hDe hle
    have cX2 := Lib.hid (fun W a b => cX.out W a b hle)
    clear hDe hDn cX
    have c1 := Lib.hid (fun W (hB : Below w9.heap.size w9 W) => cX2.out W ((E10.out.below hB).nt HA.out) ((E10.out.below hB).nt HB.out))
    clear cX2
    go_wp2_with fail
    have BB : Hid (Below w9.heap.size w9 w9.drew) := Lib.hid (below_drewN (Below.refl _ _) 1)
    obtain ⟨_, ⟨z5, _⟩, ⟨z4, _⟩, ⟨z3, _⟩, ⟨z2, _⟩, ⟨z1, _⟩, _⟩ := E10.out.below BB.out
    go_region_held3 (fun w' => w'.cell? ⟨w.heap.size, 0, none⟩ = some (.slice ao n ca) ∧ w'.cell? ⟨w.heap.size + 1, 0, none⟩ = some (.slice bo m cb) ∧ w'.cell? ⟨w4.heap.size, 0, none⟩ = some (.slice da (len (N - M)) dk) ∧ Hid (Below w9.heap.size w9 w')) (first | exact ⟨z1, z2, z4, BB⟩)
      (first | (go_at_call 36; refine (c1.out _ ?_).mono ?_; (exact BB.out); rintro e w10 ⟨⟨xa, xc, rfl, hx⟩, hb10⟩; have BB := Lib.hid (below_step BB.out hb10); obtain ⟨_, ⟨z5, _⟩, ⟨z4, _⟩, ⟨z3, _⟩, ⟨z2, _⟩, ⟨z1, _⟩, _⟩ := E10.out.below BB.out) | (go_at_call 17; refine (is_same (.slice da (len (N - M)) dk) (.slice xa (len (N - M)) xc) (N - M) 0 _ ?_ ?_).mono ?_; (exact hd10.out.below' BB.out); (exact hx.out.1); rintro e w10 ⟨rfl, hb10⟩; have BB := Lib.hid (below_step BB.out hb10); obtain ⟨_, ⟨z5, _⟩, ⟨z4, _⟩, ⟨z3, _⟩, ⟨z2, _⟩, ⟨z1, _⟩, _⟩ := E10.out.below BB.out))
    have hfin := Lib.hid (E10.out.below BB.out).1
    go_wp2
    go_ret
    exact ⟨rfl, hfin.out⟩
  · obtain ⟨rfl, rfl⟩ := hDn hlt
    clear hDe hDn cX
    go_wp2_with fail
    refine (is_same (.slice da (len 0) dk) (.slice none 0 0) 0 2 w9 hd10.out (Nt.zero _)).mono ?_
    rintro e w10 ⟨rfl, hb10⟩
    have hfin := Lib.hid (E10.out.below hb10).1
    clear hb10
    go_wp2
    go_ret
    exact ⟨rfl, hfin.out⟩

set_option maxRecDepth 100000 in
set_option maxHeartbeats 4000000 in
theorem NaturalSums_bad (ao bo : Option Addr) (ca cb : Nat) (la lb : List Nat) (w : World) (ha : Sl w (.slice ao la.length ca) la) (hb : Sl w (.slice bo lb.length cb) lb) (hv : vld la = false ∨ vld lb = false) :
    Calls Try.prog 7 #[.agg #[.slice ao la.length ca], .agg #[.slice bo lb.length cb]] w fun e w' => e = .returned (.bool true) ∧ Below w.heap.size w w' := by
  have HA := Lib.hid ha
  have HB := Lib.hid hb
  have cA := Lib.hid (fun W a b => Add_bad (.slice ao la.length ca) (.slice bo lb.length cb) la lb W a b hv)
  have cS := Lib.hid (fun W a b => Sub_bad (.slice ao la.length ca) (.slice bo lb.length cb) la lb W a b hv)
  have cC := Lib.hid (fun W a b => Compare_bad (.slice ao la.length ca) (.slice bo lb.length cb) la lb W a b hv)
  have cV := Lib.hid (fun W h => refValid_c (.slice ao la.length ca) la W h)
  have cU := Lib.hid (fun W h => refValid_c (.slice bo lb.length cb) lb W h)
  have n1 := ha.len63
  have n2 := hb.len63
  have hv2 : vld la = false ∨ (vld la = true ∧ vld lb = false) := by
    rcases hv with h | h
    · exact Or.inl h
    · cases h' : vld la
      · exact Or.inl rfl
      · exact Or.inr ⟨rfl, h⟩
  clear ha hb hv
  generalize la.length = n at *
  generalize lb.length = m at *
  go_enter Try.func7, Try.ntmps7
  go_wp2_with fail
  refine (awake_c _).mono ?_
  rintro e w1 ⟨rfl, hb1⟩
  have E1 := Lib.hid ((((Env.start w).push (.slice ao n ca) 24).pushAt (.slice bo m cb) 24 (w.heap.size + 1) (by simp)).below hb1)
  clear hb1
  obtain ⟨_, ⟨p1, q1⟩, ⟨p2, q2⟩, _⟩ := E1.out
  go_wp2_with fail
  refine (great2_c ao bo n m ca cb w1 (by omega) (by omega) _ rfl).mono ?_
  rintro e w2 ⟨⟨hg, rfl⟩ | ⟨⟨g1, g2⟩, rfl⟩, hb2⟩
  · have hfin := Lib.hid (E1.out.below hb2).1
    clear hb2
    go_wp2
    go_ret
    exact ⟨rfl, hfin.out⟩
  have E2 := Lib.hid (E1.out.below hb2)
  clear p1 q1 p2 q2 hb2
  obtain ⟨_, ⟨p1, q1⟩, ⟨p2, q2⟩, _⟩ := E2.out
  go_wp2_with fail
  refine (cA.out _ (E2.out.sl HA.out) (E2.out.sl HB.out)).mono ?_
  unfold errN
  rintro e w3 ⟨rfl, hb3⟩
  have E3 := Lib.hid (E2.out.below hb3)
  clear p1 q1 p2 q2 hb3
  obtain ⟨_, ⟨p1, q1⟩, ⟨p2, q2⟩, _⟩ := E3.out
  go_wp2_with fail
  refine (cS.out _ ((E3.out.alloc _).sl HA.out) ((E3.out.alloc _).sl HB.out)).mono ?_
  unfold errN
  rintro e w4 ⟨rfl, hb4⟩
  have E4 := Lib.hid ((E3.out.push (.slice none 0 0) 24).below hb4)
  clear p1 q1 p2 q2 hb4
  obtain ⟨_, ⟨p3, q3⟩, ⟨p1, q1⟩, ⟨p2, q2⟩, _⟩ := E4.out
  go_wp2_with fail
  have E4' := Lib.hid (E4.out.push (.slice none 0 0) 24)
  rcases hv2 with h | ⟨h, h'⟩
  · rw [h] at cV
    refine (cV.out _ (E4'.out.sl HA.out)).mono ?_
    rintro e w5 ⟨rfl, hb5⟩
    have E6 := Lib.hid (E4'.out.below hb5)
    clear p1 q1 p2 q2 p3 q3 hb5 E4'
    obtain ⟨_, ⟨p4, q4⟩, ⟨p3, q3⟩, ⟨p1, q1⟩, ⟨p2, q2⟩, _⟩ := E6.out
    go_wp2_with fail
    refine (cC.out _ (E6.out.sl HA.out) (E6.out.sl HB.out)).mono ?_
    rintro e w7 ⟨rfl, hb7⟩
    have E7 := Lib.hid (E6.out.below hb7)
    clear p1 q1 p2 q2 p3 q3 p4 q4 hb7
    obtain ⟨_, ⟨p4, q4⟩, ⟨p3, q3⟩, ⟨p1, q1⟩, ⟨p2, q2⟩, _⟩ := E7.out
    go_wp2_with fail
    refine (is_same (.slice none 0 0) (.slice none 0 0) 0 1 _ (Nt.zero _) (Nt.zero _)).mono ?_
    rintro e w8 ⟨rfl, hb8⟩
    have E8 := Lib.hid (E7.out.below hb8)
    clear p1 q1 p2 q2 p3 q3 p4 q4 hb8
    obtain ⟨_, ⟨p4, q4⟩, ⟨p3, q3⟩, ⟨p1, q1⟩, ⟨p2, q2⟩, _⟩ := E8.out
    go_wp2_with fail
    refine (is_same (.slice none 0 0) (.slice none 0 0) 0 1 _ (Nt.zero _) (Nt.zero _)).mono ?_
    rintro e w9 ⟨rfl, hb9⟩
    have hfin := Lib.hid (E8.out.below hb9).1
    clear hb9
    go_wp2
    go_ret
    exact ⟨rfl, hfin.out⟩
  · rw [h] at cV
    rw [h'] at cU
    refine (cV.out _ (E4'.out.sl HA.out)).mono ?_
    rintro e w5 ⟨rfl, hb5⟩
    have E5 := Lib.hid (E4'.out.below hb5)
    clear p1 q1 p2 q2 p3 q3 hb5 E4'
    obtain ⟨_, ⟨p4, q4⟩, ⟨p3, q3⟩, ⟨p1, q1⟩, ⟨p2, q2⟩, _⟩ := E5.out
    go_wp2_with fail
    refine (cU.out _ (E5.out.sl HB.out)).mono ?_
    rintro e w6 ⟨rfl, hb6⟩
    have E6 := Lib.hid (E5.out.below hb6)
    clear p1 q1 p2 q2 p3 q3 p4 q4 hb6
    obtain ⟨_, ⟨p4, q4⟩, ⟨p3, q3⟩, ⟨p1, q1⟩, ⟨p2, q2⟩, _⟩ := E6.out
    go_wp2_with fail
    refine (cC.out _ (E6.out.sl HA.out) (E6.out.sl HB.out)).mono ?_
    rintro e w7 ⟨rfl, hb7⟩
    have E7 := Lib.hid (E6.out.below hb7)
    clear p1 q1 p2 q2 p3 q3 p4 q4 hb7
    obtain ⟨_, ⟨p4, q4⟩, ⟨p3, q3⟩, ⟨p1, q1⟩, ⟨p2, q2⟩, _⟩ := E7.out
    go_wp2_with fail
    refine (is_same (.slice none 0 0) (.slice none 0 0) 0 1 _ (Nt.zero _) (Nt.zero _)).mono ?_
    rintro e w8 ⟨rfl, hb8⟩
    have E8 := Lib.hid (E7.out.below hb8)
    clear p1 q1 p2 q2 p3 q3 p4 q4 hb8
    obtain ⟨_, ⟨p4, q4⟩, ⟨p3, q3⟩, ⟨p1, q1⟩, ⟨p2, q2⟩, _⟩ := E8.out
    go_wp2_with fail
    refine (is_same (.slice none 0 0) (.slice none 0 0) 0 1 _ (Nt.zero _) (Nt.zero _)).mono ?_
    rintro e w9 ⟨rfl, hb9⟩
    have hfin := Lib.hid (E8.out.below hb9).1
    clear hb9
    go_wp2
    go_ret
    exact ⟨rfl, hfin.out⟩

theorem NaturalSums_walk (a b : Value) (la lb : List Nat) (w : World) (ha : Sl w a la) (hb : Sl w b lb) :
    Calls Try.prog 7 #[.agg #[a], .agg #[b]] w fun e w' => e = .returned (.bool true) ∧ Below w.heap.size w w' := by
  by_cases hv : vld la = true ∧ vld lb = true
  · obtain ⟨N, rfl, h1, hN⟩ := vld_nt ha hv.1
    obtain ⟨M, rfl, h2, hM⟩ := vld_nt hb hv.2
    obtain ⟨ao, ca, rfl, _⟩ := hN.open
    obtain ⟨bo, cb, rfl, _⟩ := hM.open
    exact NaturalSums_valid ao bo ca cb N M w hN hM h1 h2
  · obtain ⟨ao, ca, rfl, _⟩ := ha.open
    obtain ⟨bo, cb, rfl, _⟩ := hb.open
    refine NaturalSums_bad ao bo ca cb la lb w ha hb ?_
    cases h1 : vld la
    · exact Or.inl rfl
    · cases h2 : vld lb
      · exact Or.inr rfl
      · exact absurd ⟨h1, h2⟩ hv
end Go.Proofs.Ytgogfjehbaiklaa

/- NaturalOwn: the walk of the statement. -/
import Derived.Test.YtgogfjehbaiklaaNatQ2
import Derived.Deep.RegionHeld3
namespace Go.Proofs.Ytgogfjehbaiklaa
open Go.RowKit NatMath
set_option linter.unusedVariables false

def HeldM (B : Nat) : List Value → World → Prop
  | [], _ => True
  | v :: M, W => Mut B W v ∧ HeldM B M W
theorem HeldM.below {B : Nat} {M : List Value} {W W' : World} (h : HeldM B M W) (hb : Below W.heap.size W W') : HeldM B M W' := by
  induction M with
  | nil => exact trivial
  | cons v M ih => exact ⟨h.1.below' hb, ih h.2⟩
/-- as EnvN, and slices that may be written to, in blocks from B on -/
def EnvM (w : World) (B : Nat) (F : List (Addr × Value)) (G : List (Value × List Nat)) (M : List Value) (W : World) : Prop := Env w F W ∧ (HeldN G W ∧ HeldM B M W ∧ B ≤ W.heap.size)
section
variable {w W W' : World} {B : Nat} {F : List (Addr × Value)} {G : List (Value × List Nat)} {M : List Value}
theorem EnvM.of (h : EnvN w F G W) : EnvM W W.heap.size F G [] W := ⟨⟨Below.refl _ _, h.1.2⟩, h.2, trivial, Nat.le_refl _⟩
theorem EnvM.size (h : EnvM w B F G M W) : B ≤ W.heap.size := h.2.2.2
theorem EnvM.below (h : EnvM w B F G M W) (hb : Below W.heap.size W W') : EnvM w B F G M W' := ⟨h.1.below hb, h.2.1.below hb, h.2.2.1.below hb, Nat.le_trans h.2.2.2 hb.size⟩
theorem EnvM.alloc (h : EnvM w B F G M W) (o : Obj) : EnvM w B F G M (W.alloc o) := h.below (below_one W o)
theorem EnvM.push (h : EnvM w B F G M W) (v : Value) (T : TypeId) : EnvM w B ((⟨W.heap.size, 0, none⟩, v) :: F) G M (W.alloc (.cells #[v] T)) := ⟨h.1.push v T, (h.alloc _).2⟩
theorem EnvM.pushAt (h : EnvM w B F G M W) (v : Value) (T : TypeId) (g : Nat) (hg : W.heap.size = g) : EnvM w B ((⟨g, 0, none⟩, v) :: F) G M (W.alloc (.cells #[v] T)) := by subst hg; exact h.push v T
theorem EnvM.mut (h : EnvM w B F G M W) {v : Value} {C : Nat} (hm : Mut C W v) (hC : B ≤ C) : EnvM w B F G (v :: M) W := ⟨h.1, h.2.1, ⟨hm.mono hC, h.2.2.1⟩, h.2.2.2⟩
theorem EnvM.sl (h : EnvM w B F G M W) (i : Nat) {v : Value} {l : List Nat} (e : G[i]? = some (v, l)) : Sl W v l := h.2.1.get i e
end
/-- the slice's words lie below block g -/
def Blk (g : Nat) (v : Value) : Prop := ∀ b off n cap, v = .slice (some ⟨b, off, none⟩) n cap → n ≠ 0 → b < g
theorem Mut.blk {B : Nat} {w : World} {v : Value} (h : Mut B w v) : Blk w.heap.size v := by
  obtain ⟨ao, n, cap, rfl, _, h3⟩ := h
  intro b off n' cap' e h0
  simp only [Value.slice.injEq] at e
  obtain ⟨rfl, rfl, rfl⟩ := e
  obtain ⟨b', off', e1, _, e2, _⟩ := h3 h0
  simp only [Option.some.injEq, Addr.mk.injEq] at e1
  rw [e1.1]; exact e2
/-- what holds while the results are written to: nothing that lay in W0 has turned; the seven cells of block g hold slices that may be written to, below g -/
def Inv7 (W0 : World) (g : Nat) (wr : World) : Prop := Below W0.heap.size W0 wr ∧ W0.heap.size ≤ g ∧ g < wr.heap.size ∧ ∀ k, k < 7 → ∃ ao n cap, wr.cell? ⟨g, k, none⟩ = some (.slice ao n cap) ∧ Mut W0.heap.size wr (.slice ao n cap) ∧ Blk g (.slice ao n cap)
theorem Inv7.alloc {W0 wr : World} {g : Nat} (h : Inv7 W0 g wr) (o : Obj) : Inv7 W0 g (wr.alloc o) := by
  obtain ⟨h1, h2, h3, h4⟩ := h
  have hb := below_one wr o
  refine ⟨h1.trans (hb.mono h1.size), h2, Nat.lt_of_lt_of_le h3 hb.size, fun k hk => ?_⟩
  obtain ⟨ao, n, cap, c1, c2, c3⟩ := h4 k hk
  exact ⟨ao, n, cap, (hb.cell (p := ⟨g, k, none⟩) h3).trans c1, c2.below' hb, c3⟩
theorem Inv7.set {W0 wr : World} {g : Nat} (h : Inv7 W0 g wr) (b j x : Nat) (hb1 : W0.heap.size ≤ b) (hb2 : b < g) (hx : x < 4294967296) : Inv7 W0 g (wr.setCell ⟨b, j, none⟩ (.int .u32 (x : Int))) := by
  obtain ⟨h1, h2, h3, h4⟩ := h
  refine ⟨h1.setCell hb1 _, h2, by simpa using h3, fun k hk => ?_⟩
  obtain ⟨ao, n, cap, c1, c2, c3⟩ := h4 k hk
  refine ⟨ao, n, cap, (World.cell?_setCell_other _ _ _ _ (fun e => ?_)).trans c1, c2.setCell _ x hx, c3⟩
  simp only [Addr.mk.injEq] at e
  omega
theorem box7 (w : World) (v0 v1 v2 v3 v4 v5 v6 : Value) (T : TypeId) (g : Nat) (hg : w.heap.size = g) (P : Value → Prop) (h0 : P v0) (h1 : P v1) (h2 : P v2) (h3 : P v3) (h4 : P v4) (h5 : P v5) (h6 : P v6) :
    ∀ k, k < 7 → ∃ v, (w.alloc (.cells #[v0, v1, v2, v3, v4, v5, v6] T)).cell? ⟨g, k, none⟩ = some v ∧ P v := by
  subst hg
  intro k hk
  simp only [World.cell?_alloc_new]
  rcases (show k = 0 ∨ k = 1 ∨ k = 2 ∨ k = 3 ∨ k = 4 ∨ k = 5 ∨ k = 6 by omega) with rfl | rfl | rfl | rfl | rfl | rfl | rfl
  · exact ⟨v0, rfl, h0⟩
  · exact ⟨v1, rfl, h1⟩
  · exact ⟨v2, rfl, h2⟩
  · exact ⟨v3, rfl, h3⟩
  · exact ⟨v4, rfl, h4⟩
  · exact ⟨v5, rfl, h5⟩
  · exact ⟨v6, rfl, h6⟩
theorem Inv7.start {W0 W : World} {F : List (Addr × Value)} {G : List (Value × List Nat)} {v0 v1 v2 v3 v4 v5 v6 : Value} (T : TypeId) (hE : EnvM W0 W0.heap.size F G [v6, v5, v4, v3, v2, v1, v0] W) (g : Nat) (hg : W.heap.size = g) :
    Inv7 W0 g (W.alloc (.cells #[v0, v1, v2, v3, v4, v5, v6] T)) := by
  obtain ⟨⟨hB, _⟩, _, ⟨m6, m5, m4, m3, m2, m1, m0, _⟩, hs⟩ := hE
  have hb := below_one W (.cells #[v0, v1, v2, v3, v4, v5, v6] T)
  have hP : ∀ v, Mut W0.heap.size W v → (∃ ao n cap, v = .slice ao n cap) ∧ Mut W0.heap.size (W.alloc (.cells #[v0, v1, v2, v3, v4, v5, v6] T)) v ∧ Blk g v := fun v h => ⟨h.form, h.below' hb, by rw [← hg]; exact h.blk⟩
  refine ⟨hB.trans (hb.mono hB.size), by omega, by simp; omega, fun k hk => ?_⟩
  obtain ⟨v, e, ⟨ao, n, cap, rfl⟩, h2, h3⟩ := box7 W v0 v1 v2 v3 v4 v5 v6 T g hg (fun v => (∃ ao n cap, v = .slice ao n cap) ∧ Mut W0.heap.size (W.alloc (.cells #[v0, v1, v2, v3, v4, v5, v6] T)) v ∧ Blk g v) (hP _ m0) (hP _ m1) (hP _ m2) (hP _ m3) (hP _ m4) (hP _ m5) (hP _ m6) k hk
  exact ⟨ao, n, cap, e, h2, h3⟩
theorem u32_up (u : Nat) : ∃ x : Nat, x < 4294967296 ∧ IntKind.u32.wrap ((u : Int) + 1) = (x : Int) := ⟨(u + 1) % 4294967296, Nat.mod_lt _ (by omega), by
  have : IntKind.u32.wrap ((u : Int) + 1) = ((u : Int) + 1) % 4294967296 := rfl
  rw [this]; omega⟩

set_option maxRecDepth 100000 in
set_option maxHeartbeats 4000000 in
theorem NaturalOwn_small (ao bo : Option Addr) (ca cb : Nat) (la lb : List Nat) (w : World) (ha : Sl w (.slice ao la.length ca) la) (hb : Sl w (.slice bo lb.length cb) lb) (h1 : la.length ≤ 100) (h2 : lb.length ≤ 100) :
    Calls Try.prog 10 #[.agg #[.slice ao la.length ca], .agg #[.slice bo lb.length cb]] w fun e w' => e = .returned (.bool true) ∧ Below w.heap.size w w' := by
  have E0 := Lib.hid (((EnvN.start w).num ha).num hb)
  clear ha hb
  have H1 : Hid (la.length ≤ 100) := Lib.hid h1
  have H2 : Hid (lb.length ≤ 100) := Lib.hid h2
  have cl1 := Lib.hid (fun W (h : Sl W (.slice ao la.length ca) la) => cloneS h h1)
  have cl2 := Lib.hid (fun W (h : Sl W (.slice bo lb.length cb) lb) => cloneS h h2)
  generalize hl1 : la.length = n at *
  generalize hl2 : lb.length = m at *
  clear hl1 hl2
  go_enter Try.func10, Try.ntmps10
  go_wp2_with fail
  have EB := Lib.hid (((E0.out.push (.slice ao n ca) 24).pushAt (.slice bo m cb) 24 (w.heap.size + 1) (by simp)))
  refine (awake_c _).mono ?_
  rintro e w1 ⟨rfl, hb⟩
  have E1 := Lib.hid ((EB.out.below hb))
  clear hb EB E0
  obtain ⟨⟨_, ⟨p0, q0⟩, ⟨p1, q1⟩, _⟩, _⟩ := E1.out
  go_wp2_with fail
  refine (great2_c ao bo n m ca cb w1 (by omega) (by omega) _ rfl).mono ?_
  rintro e w2 ⟨⟨hg, rfl⟩ | ⟨_, rfl⟩, hb⟩
  · exact absurd hg (by omega)
  have E2 := Lib.hid ((E1.out.below hb))
  clear p0 q0 p1 q1 hb E1
  obtain ⟨⟨_, ⟨p0, q0⟩, ⟨p1, q1⟩, _⟩, _⟩ := E2.out
  go_wp2_with fail
  have cc0 := Lib.hid (fun W (hB : Below w2.heap.size w2 W) => cl1.out W ((E2.out.below hB).sl 1 rfl))
  have cc1 := Lib.hid (fun W (hB : Below w2.heap.size w2 W) => cl2.out W ((E2.out.below hB).sl 0 rfl))
  have BB : Hid (Below w2.heap.size w2 w2.drew) := Lib.hid (below_drewN (Below.refl _ _) 1)
  obtain ⟨⟨_, ⟨z0, _⟩, ⟨z1, _⟩, _⟩, _⟩ := E2.out.below BB.out
  go_region_held3 (fun w' => w'.cell? ⟨w.heap.size + 1, 0, none⟩ = some (.slice bo m cb) ∧ w'.cell? ⟨w.heap.size, 0, none⟩ = some (.slice ao n ca) ∧ Hid (Below w2.heap.size w2 w')) (first | exact ⟨z0, z1, BB⟩)
    (first | (go_at_call_of 39 (Value.slice ao n ca); refine (cc0.out _ ?_).mono ?_; (exact BB.out); rintro e wr0 ⟨⟨xa, xk, rfl, hx⟩, hbr⟩; have BB := Lib.hid (below_step2 BB.out hbr); obtain ⟨⟨_, ⟨z0, _⟩, ⟨z1, _⟩, _⟩, _⟩ := E2.out.below BB.out) | (go_at_call_of 39 (Value.slice bo m cb); refine (cc1.out _ ?_).mono ?_; (exact BB.out); rintro e wr1 ⟨⟨ya, yk, rfl, hy⟩, hbr⟩; have hx := Lib.hid (hx.out.below' hbr); have BB := Lib.hid (below_step2 BB.out hbr); obtain ⟨⟨_, ⟨z0, _⟩, ⟨z1, _⟩, _⟩, _⟩ := E2.out.below BB.out))
  have E3 := Lib.hid ((E2.out.below BB.out))
  clear p0 q0 p1 q1 BB cc0 cc1 z0 z1 E2
  obtain ⟨⟨_, ⟨p0, q0⟩, ⟨p1, q1⟩, _⟩, _⟩ := E3.out
  have EF := Lib.hid ((E3.out.num hx.out).num hy.out)
  have EM := Lib.hid (EnvM.of EF.out)
  clear p0 q0 p1 q1 hx hy E3 hbr cl1 cl2 H1 H2
  obtain ⟨⟨_, ⟨p0, q0⟩, ⟨p1, q1⟩, _⟩, _⟩ := EM.out
  go_wp2_with fail
  have EB := Lib.hid ((EM.out.push (.slice none 0 0) 24))
  refine (addM (EB.out.sl 3 rfl) (Sl.nil _)).mono ?_
  rintro e w4 ⟨⟨sa, sn, sk, sc, rfl, hs⟩, hb⟩
  have E4 := Lib.hid (((EB.out.below hb).mut hs.out (EB.out.size)))
  clear p0 q0 p1 q1 hb EB hs EM
  obtain ⟨⟨_, ⟨p0, q0⟩, ⟨p1, q1⟩, ⟨p2, q2⟩, _⟩, _⟩ := E4.out
  go_wp2_with fail
  have EB := Lib.hid ((E4.out.push (.slice sa sn sk) 24))
  refine (subM (EB.out.sl 3 rfl) (Sl.nil _)).mono ?_
  rintro e w5 ⟨⟨da, dn, dk, dc, rfl, hd⟩, hb⟩
  have E5 := Lib.hid (((EB.out.below hb).mut hd.out (EB.out.size)))
  clear p0 q0 p1 q1 p2 q2 hb EB hd E4
  obtain ⟨⟨_, ⟨p0, q0⟩, ⟨p1, q1⟩, ⟨p2, q2⟩, ⟨p3, q3⟩, _⟩, _⟩ := E5.out
  go_wp2_with fail
  have EB := Lib.hid ((E5.out.push (.slice da dn dk) 24))
  refine (shlM (EB.out.sl 3 rfl)).mono ?_
  rintro e w6 ⟨⟨ta, tn, tk, tc, rfl, ht⟩, hb⟩
  have E6 := Lib.hid (((EB.out.below hb).mut ht.out (EB.out.size)))
  clear p0 q0 p1 q1 p2 q2 p3 q3 hb EB ht E5
  obtain ⟨⟨_, ⟨p0, q0⟩, ⟨p1, q1⟩, ⟨p2, q2⟩, ⟨p3, q3⟩, ⟨p4, q4⟩, _⟩, _⟩ := E6.out
  go_wp2_with fail
  have EB := Lib.hid ((E6.out.push (.slice ta tn tk) 24))
  refine (divM (EB.out.sl 3 rfl) (EB.out.sl 2 rfl)).mono ?_
  rintro e w7 ⟨⟨qa, qn, qk, ra, rn, rk, qc, rfl, hq, hr⟩, hb⟩
  have E7 := Lib.hid ((((EB.out.below hb).mut hq.out (EB.out.size)).mut hr.out (EB.out.size)))
  clear p0 q0 p1 q1 p2 q2 p3 q3 p4 q4 hb EB hq hr E6
  obtain ⟨⟨_, ⟨p0, q0⟩, ⟨p1, q1⟩, ⟨p2, q2⟩, ⟨p3, q3⟩, ⟨p4, q4⟩, ⟨p5, q5⟩, _⟩, _⟩ := E7.out
  go_wp2_with fail
  have EB := Lib.hid (((E7.out.push (.slice qa qn qk) 24).pushAt (.slice ra rn rk) 24 (w7.heap.size + 1) (by simp)))
  refine (mulM (EB.out.sl 3 rfl) (EB.out.sl 2 rfl)).mono ?_
  rintro e w8 ⟨⟨pa, pn, pk, pc, rfl, hp⟩, hb⟩
  have E8 := Lib.hid (((EB.out.below hb).mut hp.out (EB.out.size)))
  clear p0 q0 p1 q1 p2 q2 p3 q3 p4 q4 p5 q5 hb EB hp E7
  obtain ⟨⟨_, ⟨p0, q0⟩, ⟨p1, q1⟩, ⟨p2, q2⟩, ⟨p3, q3⟩, ⟨p4, q4⟩, ⟨p5, q5⟩, ⟨p6, q6⟩, ⟨p7, q7⟩, _⟩, _⟩ := E8.out
  go_wp2_with fail
  have EB := Lib.hid ((E8.out.push (.slice pa pn pk) 24))
  refine (addM (Sl.nil _) (EB.out.sl 2 rfl)).mono ?_
  rintro e w9 ⟨⟨ua, un, uk, uc, rfl, hu⟩, hb⟩
  have E9 := Lib.hid (((EB.out.below hb).mut hu.out (EB.out.size)))
  clear p0 q0 p1 q1 p2 q2 p3 q3 p4 q4 p5 q5 p6 q6 p7 q7 hb EB hu E8
  obtain ⟨⟨_, ⟨p0, q0⟩, ⟨p1, q1⟩, ⟨p2, q2⟩, ⟨p3, q3⟩, ⟨p4, q4⟩, ⟨p5, q5⟩, ⟨p6, q6⟩, ⟨p7, q7⟩, ⟨p8, q8⟩, _⟩, _⟩ := E9.out
  have EB := Lib.hid ((E9.out.push (.slice ua un uk) 24))
  obtain ⟨V0, hV0⟩ : ∃ V0, V0 = ((w9.alloc (.cells #[.slice ua un uk] 24)).alloc (.cells #[.slice sa sn sk, .slice da dn dk, .slice ta tn tk, .slice qa qn qk, .slice ra rn rk, .slice pa pn pk, .slice ua un uk] 24)) := ⟨_, rfl⟩
  have I0 : Hid (Inv7 wr1 (w9.heap.size + 1) V0) := Lib.hid (by rw [hV0]; exact Inv7.start 24 EB.out _ (by simp))
  have h0 : Hid (True) := Lib.hid trivial
  go_wp2_with fail
  rw [← hV0]
  clear p0 q0 p1 q1 p2 q2 p3 q3 p4 q4 p5 q5 p6 q6 p7 q7 p8 q8 hV0 E9 EB
  obtain ⟨G, hG⟩ : ∃ G, G = w9.heap.size + 1 := ⟨_, rfl⟩
  rw [← hG] at I0 ⊢
  clear hG
  go_loopw [82] (fun s82 wr => ∃ k : Nat, s82 = .int .i64 (k : Int) ∧ k ≤ 7 ∧ Hid (Inv7 wr1 G wr)) (fun s82 _ => (7 - RowKit.intOf s82).toNat)
  case atStart => exact ⟨0, rfl, by omega, I0⟩
  case round =>
    clear I0
    obtain ⟨k, rfl, hk, hI⟩ := hrel
    obtain ⟨wo, rfl⟩ : ∃ wo : World, wo = wr := ⟨_, rfl⟩
    by_cases hlt : k < 7
    · obtain ⟨xo, xn, xp, c1, c2, c3⟩ := hI.out.2.2.2 k hlt
      have M0 := Lib.hid c2
      have hn63 : (xn : Int) ≤ 9223372036854775807 := by
        obtain ⟨_, _, _, e, h, _⟩ := c2
        simp only [Value.slice.injEq] at e
        rw [e.2.1]; exact h
      have BK := Lib.hid c3
      have g1 : decide ((k : Int) < 7) = true := decide_eq_true (by omega)
      have HI1 : Hid (Inv7 wr1 G (wo.alloc (.cells #[.slice xo xn xp] 24))) := Lib.hid (hI.out.alloc _)
      have HM1 : Hid (Mut wr1.heap.size (wo.alloc (.cells #[.slice xo xn xp] 24)) (.slice xo xn xp)) := Lib.hid (c2.below' (below_one _ _))
      have HG : Hid (G < wo.heap.size) := Lib.hid hI.out.2.2.1
      have hbox : (wo.alloc (.cells #[.slice xo xn xp] 24)).cell? ⟨wo.heap.size, 0, none⟩ = some (.slice xo xn xp) := box1a _ _ _
      have HBX := Lib.hid hbox
      clear c2 c3 hI hbox M0
      go_wp2
      go_loopw [89, 23] (fun s89 _ wr => ∃ i : Nat, s89 = .int .i64 (i : Int) ∧ i ≤ xn ∧ Hid (Inv7 wr1 G wr) ∧ Hid (Mut wr1.heap.size wr (.slice xo xn xp)) ∧ wr.cell? ⟨wo.heap.size, 0, none⟩ = some (.slice xo xn xp)) (fun s89 _ _ => (xn - RowKit.intOf s89).toNat)
      case atStart => exact ⟨0, rfl, Nat.zero_le _, HI1, HM1, HBX.out⟩
      case round =>
        clear HI1 HM1 HBX c1
        obtain ⟨i, rfl, hi, hI, hM, f1⟩ := hrel
        by_cases hlt2 : i < xn
        · have hM' := hM.out
          obtain ⟨_, _, _, e, _, h3⟩ := hM'
          simp only [Value.slice.injEq] at e
          obtain ⟨rfl, rfl, rfl⟩ := e
          obtain ⟨b, off, rfl, hb1, hb2, hcs, hfz⟩ := h3 (by omega)
          obtain ⟨u, hu, hc⟩ := hcs i hlt2
          have hf := hfz (off + i)
          have hbg : b < G := BK.out _ _ _ _ rfl (by omega)
          obtain ⟨x, hx, hux⟩ := u32_up u
          have HI2 : Hid (Inv7 wr1 G (wr.setCell ⟨b, off + i, none⟩ (.int .u32 (x : Int)))) := Lib.hid (hI.out.set b (off + i) x hb1 hbg hx)
          have HM2 : Hid (Mut wr1.heap.size (wr.setCell ⟨b, off + i, none⟩ (.int .u32 (x : Int))) (.slice (some ⟨b, off, none⟩) xn xp)) := Lib.hid (hM.out.setCell _ x hx)
          have HF2 : Hid ((wr.setCell ⟨b, off + i, none⟩ (.int .u32 (x : Int))).cell? ⟨wo.heap.size, 0, none⟩ = some (.slice (some ⟨b, off, none⟩) xn xp)) := Lib.hid ((World.cell?_setCell_other _ _ _ _ (by intro e; simp only [Addr.mk.injEq] at e; have := HG.out; omega)).trans f1)
          clear hcs hfz h3 hI hM BK HG hb1 hb2 hbg
          go_wp2
          go_roundw
          case rel => exact ⟨i + 1, by go_num, by omega, HI2, HM2, HF2.out⟩
          case measure => simp [RowKit.intOf]; omega
        · obtain rfl : i = xn := by omega
          clear hM f1 BK
          go_wp2
          go_roundw
          case rel => exact ⟨k + 1, by go_num, by omega, hI⟩
          case measure => simp [RowKit.intOf]; omega
    · obtain rfl : k = 7 := by omega
      have B1 := Lib.hid hI.out.1
      have EZ := Lib.hid (EF.out.below B1.out)
      clear hI EF B1
      obtain ⟨⟨_, ⟨p0, q0⟩, ⟨p1, q1⟩, _⟩, _⟩ := EZ.out
      go_wp2_with fail
      refine (equalS (EZ.out.sl 3 rfl) (EZ.out.sl 1 rfl)).mono ?_
      rintro e v1 ⟨rfl, hb⟩
      have EY := Lib.hid (EZ.out.below hb)
      clear hb EZ p0 q0 p1 q1
      obtain ⟨⟨_, ⟨p0, q0⟩, ⟨p1, q1⟩, _⟩, _⟩ := EY.out
      go_wp2_with fail
      refine (equalS (EY.out.sl 2 rfl) (EY.out.sl 0 rfl)).mono ?_
      rintro e v2 ⟨rfl, hb⟩
      have hfin := Lib.hid (EY.out.below hb).1.1
      clear hb EY p0 q0 p1 q1
      go_wp2
      go_ret
      exact ⟨rfl, hfin.out⟩

set_option maxHeartbeats 1000000 in
theorem NaturalOwn_big (ao bo : Option Addr) (n m ca cb : Nat) (w : World) (hn : (n : Int) ≤ 9223372036854775807) (hm : (m : Int) ≤ 9223372036854775807) (hg : 100 < n ∨ 100 < m) :
    Calls Try.prog 10 #[.agg #[.slice ao n ca], .agg #[.slice bo m cb]] w fun e w' => e = .returned (.bool true) ∧ Below w.heap.size w w' := by
  go_enter Try.func10, Try.ntmps10
  go_wp2_with fail
  have EB := Lib.hid ((((EnvN.start w).push (.slice ao n ca) 24).pushAt (.slice bo m cb) 24 (w.heap.size + 1) (by simp)))
  refine (awake_c _).mono ?_
  rintro e w1 ⟨rfl, hb⟩
  have E1 := Lib.hid ((EB.out.below hb))
  clear hb EB
  obtain ⟨⟨_, ⟨p0, q0⟩, ⟨p1, q1⟩, _⟩, _⟩ := E1.out
  go_wp2_with fail
  refine (great2_c ao bo n m ca cb w1 hn hm _ rfl).mono ?_
  rintro e w2 ⟨⟨_, rfl⟩ | ⟨hh, rfl⟩, hb⟩
  rotate_left
  · exact absurd hg (by omega)
  have E2 := Lib.hid ((E1.out.below hb))
  clear p0 q0 p1 q1 hb E1
  obtain ⟨⟨_, ⟨p0, q0⟩, ⟨p1, q1⟩, _⟩, _⟩ := E2.out
  have hfin := Lib.hid E2.out.1.1
  clear p0 q0 p1 q1
  go_wp2
  go_ret
  exact ⟨rfl, hfin.out⟩

theorem NaturalOwn_walk (a b : Value) (la lb : List Nat) (w : World) (ha : Sl w a la) (hb : Sl w b lb) :
    Calls Try.prog 10 #[.agg #[a], .agg #[b]] w fun e w' => e = .returned (.bool true) ∧ Below w.heap.size w w' := by
  have n1 := ha.len63
  have n2 := hb.len63
  obtain ⟨ao, ca, rfl, _⟩ := ha.open
  obtain ⟨bo, cb, rfl, _⟩ := hb.open
  by_cases h : la.length ≤ 100 ∧ lb.length ≤ 100
  · exact NaturalOwn_small ao bo ca cb la lb w ha hb h.1 h.2
  · exact NaturalOwn_big ao bo _ _ ca cb w n1 n2 (by omega)
end Go.Proofs.Ytgogfjehbaiklaa

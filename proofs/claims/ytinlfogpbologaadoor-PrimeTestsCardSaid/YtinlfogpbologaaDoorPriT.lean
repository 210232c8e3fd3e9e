/- Certify, where all is found. -/
import Derived.Test.YtinlfogpbologaaDoorPriP
namespace Go.Proofs.YtinlfogpbologaaDoor
open Go.RowKit DivMath WordMath
set_option linter.unusedVariables false
set_option linter.unusedSimpArgs false
theorem Tryd.infoCert : (Tryd.prog.info? 99).map (fun i => (i.zero, i.size, i.bytes)) = some (some (Value.agg #[.slice none 0 0, .slice none 0 0, .slice none 0 0]), 3, 72) := by kernel_rfl
theorem tiC : TI 97 99 3 := .ofInfo Tryd.underlying97 Tryd.infoCert rfl (by omega) (by omega)
/-- N passes the test, l are the factors of N - 1, R is the least root -/
def Dok (N R : Nat) (l : List Nat) : Prop := (One N ∧ One R) ∧ 2 ≤ N ∧ Pri.isP N = true ∧ Pri.facN (N - 1) = some l ∧ Pri.RootR N l R
set_option maxRecDepth 100000 in
set_option maxHeartbeats 4000000 in
theorem Certify_0 (Nx Rx : Nat) {w : World}  (hl0 : Laid w) (kx0 : Dok Nx Rx []) :
    Calls Tryd.prog 89 #[.int .i64 (Nx : Nat)] w fun e w' => (∃ xna xnk xra xrk xza xzk, e = .returned (.tuple #[.agg #[.slice xna 1 xnk, .slice xra 1 xrk, .slice xza 0 xzk], .int .i64 0]) ∧ Hid (Fct.at w' (fun b => w.heap.size ≤ b) (.rw (.slice xna 1 xnk) 1 1 (wd Nx))) ∧ Hid (Fct.at w' (fun b => w.heap.size ≤ b) (.rw (.slice xra 1 xrk) 1 1 (wd Rx)))) ∧ Below w.heap.size w w' := by
  have E0 := Lib.hid (Env.start (fun _ => False) w)
  go_enter Tryd.func89, Tryd.ntmps89
  have hl := Lib.hid hl0
  have kx := Lib.hid kx0
  clear hl0 kx0
  obtain ⟨⟨j1, j2⟩, j3, j4, j5, j6⟩ := kx.out
  have oN := Lib.hid j1
  have oR := Lib.hid j2
  have hT0 : (Nx : Int) < Top := by unfold Top; have := j1.2; omega
  have hT := Lib.hid hT0
  have hn9 : (Nx : Int) ≤ 4294967295 := by have := j1.2; omega
  have hb := Lib.hid (belowB_of j4 hT0)
  have hr := Lib.hid j6
  have hg := Lib.hid (fac_good j3 hT0 j5)
  have h2 := Lib.hid j3
  obtain ⟨p1, hp1⟩ : ∃ p1, p1 = Nx - 1 := ⟨_, rfl⟩
  rw [← hp1] at j5
  have hf := Lib.hid j5
  have e1 : (Nx : Int) - 1 = (p1 : Int) := by omega
  have h11 : 1 ≤ (p1 : Int) ∧ (p1 : Int) ≤ 2305843009213693951 := by omega
  clear j1 j2 j3 j4 j5 j6 hp1 hT0
  go_wp2_with fail
  have E1 : Hid (Env (fun _ => False) w [(w.heap.size, 99, [.slice none 0 0, .slice none 0 0, .slice none 0 0])] [] _) := Lib.hid ((E0.out.push 99 [.slice none 0 0, .slice none 0 0, .slice none 0 0] (w.heap.size) (by simp)))
  refine (below_c (Nx : Int) _ (hl.out.below E1.out.bel) (by omega) hb.out).mono ?_
  rintro e w1 ⟨rfl, hb⟩
  have E2 := Lib.hid (E1.out.below hb)
  clear E0 E1 hb
  go_wp2_with fail
  refine (Fac_some (D := fun _ => False) p1 [] (hl.out.below E2.out.bel) h11.1 h11.2 hf.out).mono ?_
  rintro e w2 ⟨⟨ya, yk, rfl, yh⟩, hb⟩
  have E3 := Lib.hid (E2.out.got (E2.out.below hb) (.rw (.slice ya 0 yk) 0 1 []) (Lib.hid (Rw.ge yh.out)).out)
  clear E2 hb
  go_wp2_with fail
  refine (nat1 Nx oN.out).mono ?_
  rintro e w3 ⟨⟨xna, xnk, rfl, xnh⟩, hb⟩
  have E4 := Lib.hid (E3.out.got (E3.out.below hb) (.rw (.slice xna 1 xnk) 1 1 (wd Nx)) (Lib.hid (Rw.ge xnh.out)).out)
  clear E3 hb
  go_wp2_with fail
  refine (root_c Nx Rx [] (E4.out.fc 1 rfl) h2.out hT.out hg.out.2 hg.out.1 hr.out).mono ?_
  rintro e w4 ⟨rfl, hb⟩
  have E5 := Lib.hid (E4.out.below hb)
  clear E4 hb
  go_wp2_with fail
  refine (nat1 Rx oR.out).mono ?_
  rintro e w5 ⟨⟨xra, xrk, rfl, xrh⟩, hb⟩
  have E6 := Lib.hid (E5.out.got (E5.out.below hb) (.rw (.slice xra 1 xrk) 1 1 (wd Rx)) (Lib.hid (Rw.ge xrh.out)).out)
  clear E5 hb
  go_wp2_with fail
  have E7 : Hid (Env (fun _ => False) w [(w5.heap.size, 99, [.slice xna 1 xnk, .slice xra 1 xrk, .slice none 0 0]), (w.heap.size, 99, [.slice none 0 0, .slice none 0 0, .slice none 0 0])] [.rw (.slice xra 1 xrk) 1 1 (wd Rx), .rw (.slice xna 1 xnk) 1 1 (wd Nx), .rw (.slice ya 0 yk) 0 1 []] _) := Lib.hid ((E6.out.push 99 [.slice xna 1 xnk, .slice xra 1 xrk, .slice none 0 0] (w5.heap.size) (by simp)))
  refine wp_loop_rounds 1 ?_
  rw [rounds_succ]
  have b1 := E7.out.bx 0 rfl
  have c1_0 := b1.cell 0 rfl
  have c1_1 := b1.cell 1 rfl
  have c1_2 := b1.cell 2 rfl
  clear b1
  have b2 := E7.out.bx 1 rfl
  have c2_0 := b2.cell 0 rfl
  have c2_1 := b2.cell 1 rfl
  have c2_2 := b2.cell 2 rfl
  have f2_0 := b2.frozen 0
  have f2_1 := b2.frozen 1
  have f2_2 := b2.frozen 2
  clear b2
  go_wp2
  have E8 : Hid (Env (fun _ => False) w [(w5.heap.size, 99, [.slice xna 1 xnk, .slice xra 1 xrk, .slice none 0 0]), (w.heap.size, 99, [.slice xna 1 xnk, .slice xra 1 xrk, .slice none 0 0])] [.rw (.slice xra 1 xrk) 1 1 (wd Rx), .rw (.slice xna 1 xnk) 1 1 (wd Nx), .rw (.slice ya 0 yk) 0 1 []] _) := Lib.hid ((((E7.out.set 1 0 (.slice xna 1 xnk) rfl).set 1 1 (.slice xra 1 xrk) rfl).set 1 2 (.slice none 0 0) rfl))
  have hfin := E8.out
  have q0 := (hfin.bx 1 rfl).cell 0 rfl
  have q1 := (hfin.bx 1 rfl).cell 1 rfl
  have q2 := (hfin.bx 1 rfl).cell 2 rfl
  exact bodyPost_ret (v := .tuple #[.agg #[.slice xna 1 xnk, .slice xra 1 xrk, .slice none 0 0], .int .i64 0]) (by simp [results, Tryd.results89, go_sem, q0, q1, q2]) rfl ⟨⟨xna, xnk, xra, xrk, none, 0, rfl, Lib.hid (Rw.from2 (hfin.out 1 rfl)), Lib.hid (Rw.from2 (hfin.out 0 rfl))⟩, hfin.bel⟩
set_option maxRecDepth 100000 in
set_option maxHeartbeats 4000000 in
theorem Certify_1 (Nx Rx Np Rp : Nat) {w : World}  (hl0 : Laid w) (kx0 : Dok Nx Rx [Np]) (kp0 : Dok Np Rp []) :
    Calls Tryd.prog 89 #[.int .i64 (Nx : Nat)] w fun e w' => (∃ xna xnk xra xrk xza xzk pna pnk pra prk pza pzk, e = .returned (.tuple #[.agg #[.slice xna 1 xnk, .slice xra 1 xrk, .slice xza 1 xzk], .int .i64 0]) ∧ Hid (Fct.at w' (fun b => w.heap.size ≤ b) (.rw (.slice xna 1 xnk) 1 1 (wd Nx))) ∧ Hid (Fct.at w' (fun b => w.heap.size ≤ b) (.rw (.slice xra 1 xrk) 1 1 (wd Rx))) ∧ Hid (Fct.at w' (fun b => w.heap.size ≤ b) (.rw (.slice xza 1 xzk) 1 3 [.slice pna 1 pnk, .slice pra 1 prk, .slice pza 0 pzk])) ∧ Hid (Fct.at w' (fun b => w.heap.size ≤ b) (.rw (.slice pna 1 pnk) 1 1 (wd Np))) ∧ Hid (Fct.at w' (fun b => w.heap.size ≤ b) (.rw (.slice pra 1 prk) 1 1 (wd Rp)))) ∧ Below w.heap.size w w' := by
  have E0 := Lib.hid (Env.start (fun _ => False) w)
  go_enter Tryd.func89, Tryd.ntmps89
  have hl := Lib.hid hl0
  have kx := Lib.hid kx0
  have kp := Lib.hid kp0
  clear hl0 kx0 kp0
  obtain ⟨⟨j1, j2⟩, j3, j4, j5, j6⟩ := kx.out
  have oN := Lib.hid j1
  have oR := Lib.hid j2
  have hT0 : (Nx : Int) < Top := by unfold Top; have := j1.2; omega
  have hT := Lib.hid hT0
  have hn9 : (Nx : Int) ≤ 4294967295 := by have := j1.2; omega
  have hb := Lib.hid (belowB_of j4 hT0)
  have hr := Lib.hid j6
  have hg := Lib.hid (fac_good j3 hT0 j5)
  have h2 := Lib.hid j3
  obtain ⟨p1, hp1⟩ : ∃ p1, p1 = Nx - 1 := ⟨_, rfl⟩
  rw [← hp1] at j5
  have hf := Lib.hid j5
  have e1 : (Nx : Int) - 1 = (p1 : Int) := by omega
  have h11 : 1 ≤ (p1 : Int) ∧ (p1 : Int) ≤ 2305843009213693951 := by omega
  clear j1 j2 j3 j4 j5 j6 hp1 hT0
  go_wp2_with fail
  have E1 : Hid (Env (fun _ => False) w [(w.heap.size, 99, [.slice none 0 0, .slice none 0 0, .slice none 0 0])] [] _) := Lib.hid ((E0.out.push 99 [.slice none 0 0, .slice none 0 0, .slice none 0 0] (w.heap.size) (by simp)))
  refine (below_c (Nx : Int) _ (hl.out.below E1.out.bel) (by omega) hb.out).mono ?_
  rintro e w1 ⟨rfl, hb⟩
  have E2 := Lib.hid (E1.out.below hb)
  clear E0 E1 hb
  go_wp2_with fail
  refine (Fac_some (D := fun _ => False) p1 [Np] (hl.out.below E2.out.bel) h11.1 h11.2 hf.out).mono ?_
  rintro e w2 ⟨⟨ya, yk, rfl, yh⟩, hb⟩
  have E3 := Lib.hid (E2.out.got (E2.out.below hb) (.rw (.slice ya 1 yk) 1 1 [.int .i64 (Np : Nat)]) (Lib.hid (Rw.ge yh.out)).out)
  clear E2 hb
  go_wp2_with fail
  refine (nat1 Nx oN.out).mono ?_
  rintro e w3 ⟨⟨xna, xnk, rfl, xnh⟩, hb⟩
  have E4 := Lib.hid (E3.out.got (E3.out.below hb) (.rw (.slice xna 1 xnk) 1 1 (wd Nx)) (Lib.hid (Rw.ge xnh.out)).out)
  clear E3 hb
  go_wp2_with fail
  refine (root_c Nx Rx [Np] (E4.out.fc 1 rfl) h2.out hT.out hg.out.2 hg.out.1 hr.out).mono ?_
  rintro e w4 ⟨rfl, hb⟩
  have E5 := Lib.hid (E4.out.below hb)
  clear E4 hb
  go_wp2_with fail
  refine (nat1 Rx oR.out).mono ?_
  rintro e w5 ⟨⟨xra, xrk, rfl, xrh⟩, hb⟩
  have E6 := Lib.hid (E5.out.got (E5.out.below hb) (.rw (.slice xra 1 xrk) 1 1 (wd Rx)) (Lib.hid (Rw.ge xrh.out)).out)
  clear E5 hb
  go_wp2_with fail
  have E7 : Hid (Env (fun _ => False) w [(w5.heap.size, 99, [.slice xna 1 xnk, .slice xra 1 xrk, .slice none 0 0]), (w.heap.size, 99, [.slice none 0 0, .slice none 0 0, .slice none 0 0])] [.rw (.slice xra 1 xrk) 1 1 (wd Rx), .rw (.slice xna 1 xnk) 1 1 (wd Nx), .rw (.slice ya 1 yk) 1 1 [.int .i64 (Np : Nat)]] _) := Lib.hid ((E6.out.push 99 [.slice xna 1 xnk, .slice xra 1 xrk, .slice none 0 0] (w5.heap.size) (by simp)))
  refine wp_loop_rounds 2 ?_
  obtain ⟨yb, yo, rfl⟩ := Rw.addr (E7.out.fc 2 rfl) (by omega)
  rw [rounds_succ]
  have E8 : Hid (Env (fun _ => False) w [(w5.heap.size, 99, [.slice xna 1 xnk, .slice xra 1 xrk, .slice none 0 0]), (w.heap.size, 99, [.slice none 0 0, .slice none 0 0, .slice none 0 0])] [.ce yb yo (.int .i64 (Np : Nat)), .rw (.slice xra 1 xrk) 1 1 (wd Rx), .rw (.slice xna 1 xnk) 1 1 (wd Nx), .rw (.slice (some ⟨yb, yo, none⟩) 1 yk) 1 1 [.int .i64 (Np : Nat)]] _) := Lib.hid (E7.out.note _ (Rw.el (E7.out.fc 2 rfl) (by omega) (i := 0) rfl))
  clear E7
  have u0 := (E8.out.fc 0 rfl).2
  go_wp2_with fail
  refine (Certify_0 Np Rp (hl.out.below E8.out.bel) kp.out).mono ?_
  rintro e w6 ⟨⟨pna, pnk, pra, prk, pza, pzk, rfl, hpn, hpr⟩, hb⟩
  have E9 := Lib.hid (E8.out.got (E8.out.got (E8.out.below hb) (.rw (.slice pna 1 pnk) 1 1 (wd Np)) (Lib.hid (Rw.ge hpn.out)).out) (.rw (.slice pra 1 prk) 1 1 (wd Rp)) (Lib.hid (Rw.ge hpr.out)).out)
  clear u0 E6 E8 hb
  have E10 : Hid (Env (fun _ => False) w [(w6.heap.size, 99, [.slice pna 1 pnk, .slice pra 1 prk, .slice pza 0 pzk]), (w5.heap.size, 99, [.slice xna 1 xnk, .slice xra 1 xrk, .slice none 0 0]), (w.heap.size, 99, [.slice none 0 0, .slice none 0 0, .slice none 0 0])] [.rw (.slice pra 1 prk) 1 1 (wd Rp), .rw (.slice pna 1 pnk) 1 1 (wd Np), .ce yb yo (.int .i64 (Np : Nat)), .rw (.slice xra 1 xrk) 1 1 (wd Rx), .rw (.slice xna 1 xnk) 1 1 (wd Nx), .rw (.slice (some ⟨yb, yo, none⟩) 1 yk) 1 1 [.int .i64 (Np : Nat)]] _) := Lib.hid ((E9.out.push 99 [.slice pna 1 pnk, .slice pra 1 prk, .slice pza 0 pzk] (w6.heap.size) (by simp)))
  have b1 := E10.out.bx 1 rfl
  have c1_2 := b1.cell 2 rfl
  clear b1
  have b2 := E10.out.bx 0 rfl
  have c2_0 := b2.cell 0 rfl
  have c2_1 := b2.cell 1 rfl
  have c2_2 := b2.cell 2 rfl
  clear b2
  have E11 : Hid (Env (fun _ => False) w [(w6.heap.size + 1, 99, [.slice pna 1 pnk, .slice pra 1 prk, .slice pza 0 pzk]), (w6.heap.size, 99, [.slice pna 1 pnk, .slice pra 1 prk, .slice pza 0 pzk]), (w5.heap.size, 99, [.slice xna 1 xnk, .slice xra 1 xrk, .slice none 0 0]), (w.heap.size, 99, [.slice none 0 0, .slice none 0 0, .slice none 0 0])] [.rw (.slice pra 1 prk) 1 1 (wd Rp), .rw (.slice pna 1 pnk) 1 1 (wd Np), .ce yb yo (.int .i64 (Np : Nat)), .rw (.slice xra 1 xrk) 1 1 (wd Rx), .rw (.slice xna 1 xnk) 1 1 (wd Nx), .rw (.slice (some ⟨yb, yo, none⟩) 1 yk) 1 1 [.int .i64 (Np : Nat)]] _) := Lib.hid ((E10.out.push 99 [.slice pna 1 pnk, .slice pra 1 prk, .slice pza 0 pzk] (w6.heap.size + 1) (by simp)))
  go_wp2_with (at_builtin; refine wpl_app1 (c := 1) tiC rfl _ _ rfl E11.out (A := [(w6.heap.size + 1, 99, [.slice pna 1 pnk, .slice pra 1 prk, .slice pza 0 pzk]), (w6.heap.size, 99, [.slice pna 1 pnk, .slice pra 1 prk, .slice pza 0 pzk]), (w5.heap.size, 99, [.slice xna 1 xnk, .slice xra 1 xrk, .slice none 0 0]), (w.heap.size, 99, [.slice none 0 0, .slice none 0 0, .slice none 0 0])]) (sg := []) (B' := []) (F := [(w6.heap.size + 1, 99, [.slice pna 1 pnk, .slice pra 1 prk, .slice pza 0 pzk]), (w6.heap.size, 99, [.slice pna 1 pnk, .slice pra 1 prk, .slice pza 0 pzk]), (w5.heap.size, 99, [.slice xna 1 xnk, .slice xra 1 xrk, .slice none 0 0]), (w.heap.size, 99, [.slice none 0 0, .slice none 0 0, .slice none 0 0])]) (n := 0) (by simp) (.inl ⟨rfl, rfl, rfl, rfl⟩) rfl rfl (SrcN.box (E11.out.bx 0 rfl) rfl (by intro u hu; simp at hu; rcases hu with rfl | rfl | rfl <;> rfl)) (by omega) ?_)
  intro tg tp tc w7 tH tT tE
  have tO : Hid (OS 99 3 [(tg, 99, tc)] tc (.slice (some ⟨tg, 0, none⟩) 1 tp) 1) := Lib.hid (.inr ⟨tg, tp, rfl, rfl, tH.out.1, tH.out.2.1, tH.out.2.2⟩)
  have tK : Hid (tc.take (1 * 3) = [.slice pna 1 pnk, .slice pra 1 prk, .slice pza 0 pzk]) := Lib.hid (by simpa using tT.out)
  have E12 : Hid (Env (fun _ => False) w ((w6.heap.size + 1, 99, [.slice pna 1 pnk, .slice pra 1 prk, .slice pza 0 pzk]) :: (w6.heap.size, 99, [.slice pna 1 pnk, .slice pra 1 prk, .slice pza 0 pzk]) :: (w5.heap.size, 99, [.slice xna 1 xnk, .slice xra 1 xrk, .slice none 0 0]) :: (w.heap.size, 99, [.slice none 0 0, .slice none 0 0, .slice none 0 0]) :: [(tg, 99, tc)]) [.rw (.slice pra 1 prk) 1 1 (wd Rp), .rw (.slice pna 1 pnk) 1 1 (wd Np), .ce yb yo (.int .i64 (Np : Nat)), .rw (.slice xra 1 xrk) 1 1 (wd Rx), .rw (.slice xna 1 xnk) 1 1 (wd Nx), .rw (.slice (some ⟨yb, yo, none⟩) 1 yk) 1 1 [.int .i64 (Np : Nat)]] w7) := Lib.hid (tE.out.cast (by simp))
  clear c1_2 c2_0 c2_1 c2_2 E9 E10 E11 tE tH tT
  have b3 := E12.out.bx 2 rfl
  have c3_2 := b3.cell 2 rfl
  have f3_2 := b3.frozen 2
  clear b3
  go_wp2_with fail
  have E13 : Hid (Env (fun _ => False) w ((w6.heap.size + 1, 99, [.slice pna 1 pnk, .slice pra 1 prk, .slice pza 0 pzk]) :: (w6.heap.size, 99, [.slice pna 1 pnk, .slice pra 1 prk, .slice pza 0 pzk]) :: (w5.heap.size, 99, [.slice xna 1 xnk, .slice xra 1 xrk, .slice (some ⟨tg, 0, none⟩) 1 tp]) :: (w.heap.size, 99, [.slice none 0 0, .slice none 0 0, .slice none 0 0]) :: [(tg, 99, tc)]) [.rw (.slice pra 1 prk) 1 1 (wd Rp), .rw (.slice pna 1 pnk) 1 1 (wd Np), .ce yb yo (.int .i64 (Np : Nat)), .rw (.slice xra 1 xrk) 1 1 (wd Rx), .rw (.slice xna 1 xnk) 1 1 (wd Nx), .rw (.slice (some ⟨yb, yo, none⟩) 1 yk) 1 1 [.int .i64 (Np : Nat)]] _) := Lib.hid ((E12.out.set 2 2 (.slice (some ⟨tg, 0, none⟩) 1 tp) rfl))
  rw [rounds_succ]
  have b4 := E13.out.bx 2 rfl
  have c4_0 := b4.cell 0 rfl
  have c4_1 := b4.cell 1 rfl
  have c4_2 := b4.cell 2 rfl
  clear b4
  have b5 := E13.out.bx 3 rfl
  have c5_0 := b5.cell 0 rfl
  have c5_1 := b5.cell 1 rfl
  have c5_2 := b5.cell 2 rfl
  have f5_0 := b5.frozen 0
  have f5_1 := b5.frozen 1
  have f5_2 := b5.frozen 2
  clear b5
  go_wp2
  have E14 : Hid (Env (fun _ => False) w ((w6.heap.size + 1, 99, [.slice pna 1 pnk, .slice pra 1 prk, .slice pza 0 pzk]) :: (w6.heap.size, 99, [.slice pna 1 pnk, .slice pra 1 prk, .slice pza 0 pzk]) :: (w5.heap.size, 99, [.slice xna 1 xnk, .slice xra 1 xrk, .slice (some ⟨tg, 0, none⟩) 1 tp]) :: (w.heap.size, 99, [.slice xna 1 xnk, .slice xra 1 xrk, .slice (some ⟨tg, 0, none⟩) 1 tp]) :: [(tg, 99, tc)]) [.rw (.slice pra 1 prk) 1 1 (wd Rp), .rw (.slice pna 1 pnk) 1 1 (wd Np), .ce yb yo (.int .i64 (Np : Nat)), .rw (.slice xra 1 xrk) 1 1 (wd Rx), .rw (.slice xna 1 xnk) 1 1 (wd Nx), .rw (.slice (some ⟨yb, yo, none⟩) 1 yk) 1 1 [.int .i64 (Np : Nat)]] _) := Lib.hid ((((E13.out.set 3 0 (.slice xna 1 xnk) rfl).set 3 1 (.slice xra 1 xrk) rfl).set 3 2 (.slice (some ⟨tg, 0, none⟩) 1 tp) rfl))
  have hfin := E14.out
  have q0 := (hfin.bx 3 rfl).cell 0 rfl
  have q1 := (hfin.bx 3 rfl).cell 1 rfl
  have q2 := (hfin.bx 3 rfl).cell 2 rfl
  exact bodyPost_ret (v := .tuple #[.agg #[.slice xna 1 xnk, .slice xra 1 xrk, .slice (some ⟨tg, 0, none⟩) 1 tp], .int .i64 0]) (by simp [results, Tryd.results89, go_sem, q0, q1, q2]) rfl ⟨⟨xna, xnk, xra, xrk, some ⟨tg, 0, none⟩, tp, pna, pnk, pra, prk, pza, pzk, rfl, Lib.hid (Rw.from2 (hfin.out 4 rfl)), Lib.hid (Rw.from2 (hfin.out 3 rfl)), Lib.hid (Rw.from2 (OS.rw tO.out hfin (by intro p hp; simp at hp ⊢; simp [hp]) tK.out (by intro u hu; simp at hu; rcases hu with rfl | rfl | rfl <;> rfl))), Lib.hid (Rw.from2 (hfin.out 1 rfl)), Lib.hid (Rw.from2 (hfin.out 0 rfl))⟩, hfin.bel⟩
set_option maxRecDepth 100000 in
set_option maxHeartbeats 4000000 in
theorem Certify_2 (Nx Rx Np Rp Nq Rq Ns Rs : Nat) {w : World}  (hl0 : Laid w) (kx0 : Dok Nx Rx [Np, Nq]) (kp0 : Dok Np Rp []) (kq0 : Dok Nq Rq [Ns]) (ks0 : Dok Ns Rs []) :
    Calls Tryd.prog 89 #[.int .i64 (Nx : Nat)] w fun e w' => (∃ xna xnk xra xrk xza xzk pna pnk pra prk pza pzk qna qnk qra qrk qza qzk sna snk sra srk sza szk, e = .returned (.tuple #[.agg #[.slice xna 1 xnk, .slice xra 1 xrk, .slice xza 2 xzk], .int .i64 0]) ∧ Hid (Fct.at w' (fun b => w.heap.size ≤ b) (.rw (.slice xna 1 xnk) 1 1 (wd Nx))) ∧ Hid (Fct.at w' (fun b => w.heap.size ≤ b) (.rw (.slice xra 1 xrk) 1 1 (wd Rx))) ∧ Hid (Fct.at w' (fun b => w.heap.size ≤ b) (.rw (.slice xza 2 xzk) 2 3 [.slice pna 1 pnk, .slice pra 1 prk, .slice pza 0 pzk, .slice qna 1 qnk, .slice qra 1 qrk, .slice qza 1 qzk])) ∧ Hid (Fct.at w' (fun b => w.heap.size ≤ b) (.rw (.slice pna 1 pnk) 1 1 (wd Np))) ∧ Hid (Fct.at w' (fun b => w.heap.size ≤ b) (.rw (.slice pra 1 prk) 1 1 (wd Rp))) ∧ Hid (Fct.at w' (fun b => w.heap.size ≤ b) (.rw (.slice qna 1 qnk) 1 1 (wd Nq))) ∧ Hid (Fct.at w' (fun b => w.heap.size ≤ b) (.rw (.slice qra 1 qrk) 1 1 (wd Rq))) ∧ Hid (Fct.at w' (fun b => w.heap.size ≤ b) (.rw (.slice qza 1 qzk) 1 3 [.slice sna 1 snk, .slice sra 1 srk, .slice sza 0 szk])) ∧ Hid (Fct.at w' (fun b => w.heap.size ≤ b) (.rw (.slice sna 1 snk) 1 1 (wd Ns))) ∧ Hid (Fct.at w' (fun b => w.heap.size ≤ b) (.rw (.slice sra 1 srk) 1 1 (wd Rs)))) ∧ Below w.heap.size w w' := by
  have E0 := Lib.hid (Env.start (fun _ => False) w)
  go_enter Tryd.func89, Tryd.ntmps89
  have hl := Lib.hid hl0
  have kx := Lib.hid kx0
  have kp := Lib.hid kp0
  have kq := Lib.hid kq0
  have ks := Lib.hid ks0
  clear hl0 kx0 kp0 kq0 ks0
  obtain ⟨⟨j1, j2⟩, j3, j4, j5, j6⟩ := kx.out
  have oN := Lib.hid j1
  have oR := Lib.hid j2
  have hT0 : (Nx : Int) < Top := by unfold Top; have := j1.2; omega
  have hT := Lib.hid hT0
  have hn9 : (Nx : Int) ≤ 4294967295 := by have := j1.2; omega
  have hb := Lib.hid (belowB_of j4 hT0)
  have hr := Lib.hid j6
  have hg := Lib.hid (fac_good j3 hT0 j5)
  have h2 := Lib.hid j3
  obtain ⟨p1, hp1⟩ : ∃ p1, p1 = Nx - 1 := ⟨_, rfl⟩
  rw [← hp1] at j5
  have hf := Lib.hid j5
  have e1 : (Nx : Int) - 1 = (p1 : Int) := by omega
  have h11 : 1 ≤ (p1 : Int) ∧ (p1 : Int) ≤ 2305843009213693951 := by omega
  clear j1 j2 j3 j4 j5 j6 hp1 hT0
  go_wp2_with fail
  have E1 : Hid (Env (fun _ => False) w [(w.heap.size, 99, [.slice none 0 0, .slice none 0 0, .slice none 0 0])] [] _) := Lib.hid ((E0.out.push 99 [.slice none 0 0, .slice none 0 0, .slice none 0 0] (w.heap.size) (by simp)))
  refine (below_c (Nx : Int) _ (hl.out.below E1.out.bel) (by omega) hb.out).mono ?_
  rintro e w1 ⟨rfl, hb⟩
  have E2 := Lib.hid (E1.out.below hb)
  clear E0 E1 hb
  go_wp2_with fail
  refine (Fac_some (D := fun _ => False) p1 [Np, Nq] (hl.out.below E2.out.bel) h11.1 h11.2 hf.out).mono ?_
  rintro e w2 ⟨⟨ya, yk, rfl, yh⟩, hb⟩
  have E3 := Lib.hid (E2.out.got (E2.out.below hb) (.rw (.slice ya 2 yk) 2 1 [.int .i64 (Np : Nat), .int .i64 (Nq : Nat)]) (Lib.hid (Rw.ge yh.out)).out)
  clear E2 hb
  go_wp2_with fail
  refine (nat1 Nx oN.out).mono ?_
  rintro e w3 ⟨⟨xna, xnk, rfl, xnh⟩, hb⟩
  have E4 := Lib.hid (E3.out.got (E3.out.below hb) (.rw (.slice xna 1 xnk) 1 1 (wd Nx)) (Lib.hid (Rw.ge xnh.out)).out)
  clear E3 hb
  go_wp2_with fail
  refine (root_c Nx Rx [Np, Nq] (E4.out.fc 1 rfl) h2.out hT.out hg.out.2 hg.out.1 hr.out).mono ?_
  rintro e w4 ⟨rfl, hb⟩
  have E5 := Lib.hid (E4.out.below hb)
  clear E4 hb
  go_wp2_with fail
  refine (nat1 Rx oR.out).mono ?_
  rintro e w5 ⟨⟨xra, xrk, rfl, xrh⟩, hb⟩
  have E6 := Lib.hid (E5.out.got (E5.out.below hb) (.rw (.slice xra 1 xrk) 1 1 (wd Rx)) (Lib.hid (Rw.ge xrh.out)).out)
  clear E5 hb
  go_wp2_with fail
  have E7 : Hid (Env (fun _ => False) w [(w5.heap.size, 99, [.slice xna 1 xnk, .slice xra 1 xrk, .slice none 0 0]), (w.heap.size, 99, [.slice none 0 0, .slice none 0 0, .slice none 0 0])] [.rw (.slice xra 1 xrk) 1 1 (wd Rx), .rw (.slice xna 1 xnk) 1 1 (wd Nx), .rw (.slice ya 2 yk) 2 1 [.int .i64 (Np : Nat), .int .i64 (Nq : Nat)]] _) := Lib.hid ((E6.out.push 99 [.slice xna 1 xnk, .slice xra 1 xrk, .slice none 0 0] (w5.heap.size) (by simp)))
  refine wp_loop_rounds 3 ?_
  obtain ⟨yb, yo, rfl⟩ := Rw.addr (E7.out.fc 2 rfl) (by omega)
  rw [rounds_succ]
  have E8 : Hid (Env (fun _ => False) w [(w5.heap.size, 99, [.slice xna 1 xnk, .slice xra 1 xrk, .slice none 0 0]), (w.heap.size, 99, [.slice none 0 0, .slice none 0 0, .slice none 0 0])] [.ce yb yo (.int .i64 (Np : Nat)), .rw (.slice xra 1 xrk) 1 1 (wd Rx), .rw (.slice xna 1 xnk) 1 1 (wd Nx), .rw (.slice (some ⟨yb, yo, none⟩) 2 yk) 2 1 [.int .i64 (Np : Nat), .int .i64 (Nq : Nat)]] _) := Lib.hid (E7.out.note _ (Rw.el (E7.out.fc 2 rfl) (by omega) (i := 0) rfl))
  clear E7
  have u0 := (E8.out.fc 0 rfl).2
  go_wp2_with fail
  refine (Certify_0 Np Rp (hl.out.below E8.out.bel) kp.out).mono ?_
  rintro e w6 ⟨⟨pna, pnk, pra, prk, pza, pzk, rfl, hpn, hpr⟩, hb⟩
  have E9 := Lib.hid (E8.out.got (E8.out.got (E8.out.below hb) (.rw (.slice pna 1 pnk) 1 1 (wd Np)) (Lib.hid (Rw.ge hpn.out)).out) (.rw (.slice pra 1 prk) 1 1 (wd Rp)) (Lib.hid (Rw.ge hpr.out)).out)
  clear u0 E6 E8 hb
  have E10 : Hid (Env (fun _ => False) w [(w6.heap.size, 99, [.slice pna 1 pnk, .slice pra 1 prk, .slice pza 0 pzk]), (w5.heap.size, 99, [.slice xna 1 xnk, .slice xra 1 xrk, .slice none 0 0]), (w.heap.size, 99, [.slice none 0 0, .slice none 0 0, .slice none 0 0])] [.rw (.slice pra 1 prk) 1 1 (wd Rp), .rw (.slice pna 1 pnk) 1 1 (wd Np), .ce yb yo (.int .i64 (Np : Nat)), .rw (.slice xra 1 xrk) 1 1 (wd Rx), .rw (.slice xna 1 xnk) 1 1 (wd Nx), .rw (.slice (some ⟨yb, yo, none⟩) 2 yk) 2 1 [.int .i64 (Np : Nat), .int .i64 (Nq : Nat)]] _) := Lib.hid ((E9.out.push 99 [.slice pna 1 pnk, .slice pra 1 prk, .slice pza 0 pzk] (w6.heap.size) (by simp)))
  have b1 := E10.out.bx 1 rfl
  have c1_2 := b1.cell 2 rfl
  clear b1
  have b2 := E10.out.bx 0 rfl
  have c2_0 := b2.cell 0 rfl
  have c2_1 := b2.cell 1 rfl
  have c2_2 := b2.cell 2 rfl
  clear b2
  have E11 : Hid (Env (fun _ => False) w [(w6.heap.size + 1, 99, [.slice pna 1 pnk, .slice pra 1 prk, .slice pza 0 pzk]), (w6.heap.size, 99, [.slice pna 1 pnk, .slice pra 1 prk, .slice pza 0 pzk]), (w5.heap.size, 99, [.slice xna 1 xnk, .slice xra 1 xrk, .slice none 0 0]), (w.heap.size, 99, [.slice none 0 0, .slice none 0 0, .slice none 0 0])] [.rw (.slice pra 1 prk) 1 1 (wd Rp), .rw (.slice pna 1 pnk) 1 1 (wd Np), .ce yb yo (.int .i64 (Np : Nat)), .rw (.slice xra 1 xrk) 1 1 (wd Rx), .rw (.slice xna 1 xnk) 1 1 (wd Nx), .rw (.slice (some ⟨yb, yo, none⟩) 2 yk) 2 1 [.int .i64 (Np : Nat), .int .i64 (Nq : Nat)]] _) := Lib.hid ((E10.out.push 99 [.slice pna 1 pnk, .slice pra 1 prk, .slice pza 0 pzk] (w6.heap.size + 1) (by simp)))
  go_wp2_with (at_builtin; refine wpl_app1 (c := 1) tiC rfl _ _ rfl E11.out (A := [(w6.heap.size + 1, 99, [.slice pna 1 pnk, .slice pra 1 prk, .slice pza 0 pzk]), (w6.heap.size, 99, [.slice pna 1 pnk, .slice pra 1 prk, .slice pza 0 pzk]), (w5.heap.size, 99, [.slice xna 1 xnk, .slice xra 1 xrk, .slice none 0 0]), (w.heap.size, 99, [.slice none 0 0, .slice none 0 0, .slice none 0 0])]) (sg := []) (B' := []) (F := [(w6.heap.size + 1, 99, [.slice pna 1 pnk, .slice pra 1 prk, .slice pza 0 pzk]), (w6.heap.size, 99, [.slice pna 1 pnk, .slice pra 1 prk, .slice pza 0 pzk]), (w5.heap.size, 99, [.slice xna 1 xnk, .slice xra 1 xrk, .slice none 0 0]), (w.heap.size, 99, [.slice none 0 0, .slice none 0 0, .slice none 0 0])]) (n := 0) (by simp) (.inl ⟨rfl, rfl, rfl, rfl⟩) rfl rfl (SrcN.box (E11.out.bx 0 rfl) rfl (by intro u hu; simp at hu; rcases hu with rfl | rfl | rfl <;> rfl)) (by omega) ?_)
  intro tg tp tc w7 tH tT tE
  have tO : Hid (OS 99 3 [(tg, 99, tc)] tc (.slice (some ⟨tg, 0, none⟩) 1 tp) 1) := Lib.hid (.inr ⟨tg, tp, rfl, rfl, tH.out.1, tH.out.2.1, tH.out.2.2⟩)
  have tK : Hid (tc.take (1 * 3) = [.slice pna 1 pnk, .slice pra 1 prk, .slice pza 0 pzk]) := Lib.hid (by simpa using tT.out)
  have E12 : Hid (Env (fun _ => False) w ((w6.heap.size + 1, 99, [.slice pna 1 pnk, .slice pra 1 prk, .slice pza 0 pzk]) :: (w6.heap.size, 99, [.slice pna 1 pnk, .slice pra 1 prk, .slice pza 0 pzk]) :: (w5.heap.size, 99, [.slice xna 1 xnk, .slice xra 1 xrk, .slice none 0 0]) :: (w.heap.size, 99, [.slice none 0 0, .slice none 0 0, .slice none 0 0]) :: [(tg, 99, tc)]) [.rw (.slice pra 1 prk) 1 1 (wd Rp), .rw (.slice pna 1 pnk) 1 1 (wd Np), .ce yb yo (.int .i64 (Np : Nat)), .rw (.slice xra 1 xrk) 1 1 (wd Rx), .rw (.slice xna 1 xnk) 1 1 (wd Nx), .rw (.slice (some ⟨yb, yo, none⟩) 2 yk) 2 1 [.int .i64 (Np : Nat), .int .i64 (Nq : Nat)]] w7) := Lib.hid (tE.out.cast (by simp))
  clear c1_2 c2_0 c2_1 c2_2 E9 E10 E11 tE tH tT
  have b3 := E12.out.bx 2 rfl
  have c3_2 := b3.cell 2 rfl
  have f3_2 := b3.frozen 2
  clear b3
  go_wp2_with fail
  have E13 : Hid (Env (fun _ => False) w ((w6.heap.size + 1, 99, [.slice pna 1 pnk, .slice pra 1 prk, .slice pza 0 pzk]) :: (w6.heap.size, 99, [.slice pna 1 pnk, .slice pra 1 prk, .slice pza 0 pzk]) :: (w5.heap.size, 99, [.slice xna 1 xnk, .slice xra 1 xrk, .slice (some ⟨tg, 0, none⟩) 1 tp]) :: (w.heap.size, 99, [.slice none 0 0, .slice none 0 0, .slice none 0 0]) :: [(tg, 99, tc)]) [.rw (.slice pra 1 prk) 1 1 (wd Rp), .rw (.slice pna 1 pnk) 1 1 (wd Np), .ce yb yo (.int .i64 (Np : Nat)), .rw (.slice xra 1 xrk) 1 1 (wd Rx), .rw (.slice xna 1 xnk) 1 1 (wd Nx), .rw (.slice (some ⟨yb, yo, none⟩) 2 yk) 2 1 [.int .i64 (Np : Nat), .int .i64 (Nq : Nat)]] _) := Lib.hid ((E12.out.set 2 2 (.slice (some ⟨tg, 0, none⟩) 1 tp) rfl))
  rw [rounds_succ]
  have E14 : Hid (Env (fun _ => False) w ((w6.heap.size + 1, 99, [.slice pna 1 pnk, .slice pra 1 prk, .slice pza 0 pzk]) :: (w6.heap.size, 99, [.slice pna 1 pnk, .slice pra 1 prk, .slice pza 0 pzk]) :: (w5.heap.size, 99, [.slice xna 1 xnk, .slice xra 1 xrk, .slice (some ⟨tg, 0, none⟩) 1 tp]) :: (w.heap.size, 99, [.slice none 0 0, .slice none 0 0, .slice none 0 0]) :: [(tg, 99, tc)]) [.ce yb (yo + 1) (.int .i64 (Nq : Nat)), .rw (.slice pra 1 prk) 1 1 (wd Rp), .rw (.slice pna 1 pnk) 1 1 (wd Np), .ce yb yo (.int .i64 (Np : Nat)), .rw (.slice xra 1 xrk) 1 1 (wd Rx), .rw (.slice xna 1 xnk) 1 1 (wd Nx), .rw (.slice (some ⟨yb, yo, none⟩) 2 yk) 2 1 [.int .i64 (Np : Nat), .int .i64 (Nq : Nat)]] _) := Lib.hid (E13.out.note _ (Rw.el (E13.out.fc 5 rfl) (by omega) (i := 1) rfl))
  clear E13
  have u1 := (E14.out.fc 0 rfl).2
  go_wp2_with fail
  refine (Certify_1 Nq Rq Ns Rs (hl.out.below E14.out.bel) kq.out ks.out).mono ?_
  rintro e w8 ⟨⟨qna, qnk, qra, qrk, qza, qzk, sna, snk, sra, srk, sza, szk, rfl, hqn, hqr, hqz, hsn, hsr⟩, hb⟩
  have E15 := Lib.hid (E14.out.got (E14.out.got (E14.out.got (E14.out.got (E14.out.got (E14.out.below hb) (.rw (.slice qna 1 qnk) 1 1 (wd Nq)) (Lib.hid (Rw.ge hqn.out)).out) (.rw (.slice qra 1 qrk) 1 1 (wd Rq)) (Lib.hid (Rw.ge hqr.out)).out) (.rw (.slice qza 1 qzk) 1 3 [.slice sna 1 snk, .slice sra 1 srk, .slice sza 0 szk]) (Lib.hid (Rw.ge hqz.out)).out) (.rw (.slice sna 1 snk) 1 1 (wd Ns)) (Lib.hid (Rw.ge hsn.out)).out) (.rw (.slice sra 1 srk) 1 1 (wd Rs)) (Lib.hid (Rw.ge hsr.out)).out)
  clear c3_2 f3_2 u1 E12 E14 hb
  have E16 : Hid (Env (fun _ => False) w ((w8.heap.size, 99, [.slice qna 1 qnk, .slice qra 1 qrk, .slice qza 1 qzk]) :: (w6.heap.size + 1, 99, [.slice pna 1 pnk, .slice pra 1 prk, .slice pza 0 pzk]) :: (w6.heap.size, 99, [.slice pna 1 pnk, .slice pra 1 prk, .slice pza 0 pzk]) :: (w5.heap.size, 99, [.slice xna 1 xnk, .slice xra 1 xrk, .slice (some ⟨tg, 0, none⟩) 1 tp]) :: (w.heap.size, 99, [.slice none 0 0, .slice none 0 0, .slice none 0 0]) :: [(tg, 99, tc)]) [.rw (.slice sra 1 srk) 1 1 (wd Rs), .rw (.slice sna 1 snk) 1 1 (wd Ns), .rw (.slice qza 1 qzk) 1 3 [.slice sna 1 snk, .slice sra 1 srk, .slice sza 0 szk], .rw (.slice qra 1 qrk) 1 1 (wd Rq), .rw (.slice qna 1 qnk) 1 1 (wd Nq), .ce yb (yo + 1) (.int .i64 (Nq : Nat)), .rw (.slice pra 1 prk) 1 1 (wd Rp), .rw (.slice pna 1 pnk) 1 1 (wd Np), .ce yb yo (.int .i64 (Np : Nat)), .rw (.slice xra 1 xrk) 1 1 (wd Rx), .rw (.slice xna 1 xnk) 1 1 (wd Nx), .rw (.slice (some ⟨yb, yo, none⟩) 2 yk) 2 1 [.int .i64 (Np : Nat), .int .i64 (Nq : Nat)]] _) := Lib.hid ((E15.out.push 99 [.slice qna 1 qnk, .slice qra 1 qrk, .slice qza 1 qzk] (w8.heap.size) (by simp)))
  have b4 := E16.out.bx 3 rfl
  have c4_2 := b4.cell 2 rfl
  clear b4
  have b5 := E16.out.bx 0 rfl
  have c5_0 := b5.cell 0 rfl
  have c5_1 := b5.cell 1 rfl
  have c5_2 := b5.cell 2 rfl
  clear b5
  have E17 : Hid (Env (fun _ => False) w ((w8.heap.size + 1, 99, [.slice qna 1 qnk, .slice qra 1 qrk, .slice qza 1 qzk]) :: (w8.heap.size, 99, [.slice qna 1 qnk, .slice qra 1 qrk, .slice qza 1 qzk]) :: (w6.heap.size + 1, 99, [.slice pna 1 pnk, .slice pra 1 prk, .slice pza 0 pzk]) :: (w6.heap.size, 99, [.slice pna 1 pnk, .slice pra 1 prk, .slice pza 0 pzk]) :: (w5.heap.size, 99, [.slice xna 1 xnk, .slice xra 1 xrk, .slice (some ⟨tg, 0, none⟩) 1 tp]) :: (w.heap.size, 99, [.slice none 0 0, .slice none 0 0, .slice none 0 0]) :: [(tg, 99, tc)]) [.rw (.slice sra 1 srk) 1 1 (wd Rs), .rw (.slice sna 1 snk) 1 1 (wd Ns), .rw (.slice qza 1 qzk) 1 3 [.slice sna 1 snk, .slice sra 1 srk, .slice sza 0 szk], .rw (.slice qra 1 qrk) 1 1 (wd Rq), .rw (.slice qna 1 qnk) 1 1 (wd Nq), .ce yb (yo + 1) (.int .i64 (Nq : Nat)), .rw (.slice pra 1 prk) 1 1 (wd Rp), .rw (.slice pna 1 pnk) 1 1 (wd Np), .ce yb yo (.int .i64 (Np : Nat)), .rw (.slice xra 1 xrk) 1 1 (wd Rx), .rw (.slice xna 1 xnk) 1 1 (wd Nx), .rw (.slice (some ⟨yb, yo, none⟩) 2 yk) 2 1 [.int .i64 (Np : Nat), .int .i64 (Nq : Nat)]] _) := Lib.hid ((E16.out.push 99 [.slice qna 1 qnk, .slice qra 1 qrk, .slice qza 1 qzk] (w8.heap.size + 1) (by simp)))
  go_wp2_with (at_builtin; refine wpl_app1 (c := 1) tiC rfl _ _ rfl E17.out (A := [(w8.heap.size + 1, 99, [.slice qna 1 qnk, .slice qra 1 qrk, .slice qza 1 qzk]), (w8.heap.size, 99, [.slice qna 1 qnk, .slice qra 1 qrk, .slice qza 1 qzk]), (w6.heap.size + 1, 99, [.slice pna 1 pnk, .slice pra 1 prk, .slice pza 0 pzk]), (w6.heap.size, 99, [.slice pna 1 pnk, .slice pra 1 prk, .slice pza 0 pzk]), (w5.heap.size, 99, [.slice xna 1 xnk, .slice xra 1 xrk, .slice (some ⟨tg, 0, none⟩) 1 tp]), (w.heap.size, 99, [.slice none 0 0, .slice none 0 0, .slice none 0 0])]) (sg := [(tg, 99, tc)]) (B' := []) (F := ((w8.heap.size + 1, 99, [.slice qna 1 qnk, .slice qra 1 qrk, .slice qza 1 qzk]) :: (w8.heap.size, 99, [.slice qna 1 qnk, .slice qra 1 qrk, .slice qza 1 qzk]) :: (w6.heap.size + 1, 99, [.slice pna 1 pnk, .slice pra 1 prk, .slice pza 0 pzk]) :: (w6.heap.size, 99, [.slice pna 1 pnk, .slice pra 1 prk, .slice pza 0 pzk]) :: (w5.heap.size, 99, [.slice xna 1 xnk, .slice xra 1 xrk, .slice (some ⟨tg, 0, none⟩) 1 tp]) :: (w.heap.size, 99, [.slice none 0 0, .slice none 0 0, .slice none 0 0]) :: [(tg, 99, tc)])) (n := 1) (by simp) tO.out rfl rfl (SrcN.box (E17.out.bx 0 rfl) rfl (by intro u hu; simp at hu; rcases hu with rfl | rfl | rfl <;> rfl)) (by omega) ?_)
  intro vg vp vc w9 vH vT vE
  have vO : Hid (OS 99 3 [(vg, 99, vc)] vc (.slice (some ⟨vg, 0, none⟩) 2 vp) 2) := Lib.hid (.inr ⟨vg, vp, rfl, rfl, vH.out.1, vH.out.2.1, vH.out.2.2⟩)
  have vK : Hid (vc.take (2 * 3) = [.slice pna 1 pnk, .slice pra 1 prk, .slice pza 0 pzk, .slice qna 1 qnk, .slice qra 1 qrk, .slice qza 1 qzk]) := Lib.hid (by have h := vT.out; rw [tK.out] at h; exact h)
  have E18 : Hid (Env (fun _ => False) w ((w8.heap.size + 1, 99, [.slice qna 1 qnk, .slice qra 1 qrk, .slice qza 1 qzk]) :: (w8.heap.size, 99, [.slice qna 1 qnk, .slice qra 1 qrk, .slice qza 1 qzk]) :: (w6.heap.size + 1, 99, [.slice pna 1 pnk, .slice pra 1 prk, .slice pza 0 pzk]) :: (w6.heap.size, 99, [.slice pna 1 pnk, .slice pra 1 prk, .slice pza 0 pzk]) :: (w5.heap.size, 99, [.slice xna 1 xnk, .slice xra 1 xrk, .slice (some ⟨tg, 0, none⟩) 1 tp]) :: (w.heap.size, 99, [.slice none 0 0, .slice none 0 0, .slice none 0 0]) :: [(vg, 99, vc)]) [.rw (.slice sra 1 srk) 1 1 (wd Rs), .rw (.slice sna 1 snk) 1 1 (wd Ns), .rw (.slice qza 1 qzk) 1 3 [.slice sna 1 snk, .slice sra 1 srk, .slice sza 0 szk], .rw (.slice qra 1 qrk) 1 1 (wd Rq), .rw (.slice qna 1 qnk) 1 1 (wd Nq), .ce yb (yo + 1) (.int .i64 (Nq : Nat)), .rw (.slice pra 1 prk) 1 1 (wd Rp), .rw (.slice pna 1 pnk) 1 1 (wd Np), .ce yb yo (.int .i64 (Np : Nat)), .rw (.slice xra 1 xrk) 1 1 (wd Rx), .rw (.slice xna 1 xnk) 1 1 (wd Nx), .rw (.slice (some ⟨yb, yo, none⟩) 2 yk) 2 1 [.int .i64 (Np : Nat), .int .i64 (Nq : Nat)]] w9) := Lib.hid (vE.out.cast (by simp))
  clear c4_2 c5_0 c5_1 c5_2 E15 E16 E17 vE vH vT
  have b6 := E18.out.bx 4 rfl
  have c6_2 := b6.cell 2 rfl
  have f6_2 := b6.frozen 2
  clear b6
  go_wp2_with fail
  have E19 : Hid (Env (fun _ => False) w ((w8.heap.size + 1, 99, [.slice qna 1 qnk, .slice qra 1 qrk, .slice qza 1 qzk]) :: (w8.heap.size, 99, [.slice qna 1 qnk, .slice qra 1 qrk, .slice qza 1 qzk]) :: (w6.heap.size + 1, 99, [.slice pna 1 pnk, .slice pra 1 prk, .slice pza 0 pzk]) :: (w6.heap.size, 99, [.slice pna 1 pnk, .slice pra 1 prk, .slice pza 0 pzk]) :: (w5.heap.size, 99, [.slice xna 1 xnk, .slice xra 1 xrk, .slice (some ⟨vg, 0, none⟩) 2 vp]) :: (w.heap.size, 99, [.slice none 0 0, .slice none 0 0, .slice none 0 0]) :: [(vg, 99, vc)]) [.rw (.slice sra 1 srk) 1 1 (wd Rs), .rw (.slice sna 1 snk) 1 1 (wd Ns), .rw (.slice qza 1 qzk) 1 3 [.slice sna 1 snk, .slice sra 1 srk, .slice sza 0 szk], .rw (.slice qra 1 qrk) 1 1 (wd Rq), .rw (.slice qna 1 qnk) 1 1 (wd Nq), .ce yb (yo + 1) (.int .i64 (Nq : Nat)), .rw (.slice pra 1 prk) 1 1 (wd Rp), .rw (.slice pna 1 pnk) 1 1 (wd Np), .ce yb yo (.int .i64 (Np : Nat)), .rw (.slice xra 1 xrk) 1 1 (wd Rx), .rw (.slice xna 1 xnk) 1 1 (wd Nx), .rw (.slice (some ⟨yb, yo, none⟩) 2 yk) 2 1 [.int .i64 (Np : Nat), .int .i64 (Nq : Nat)]] _) := Lib.hid ((E18.out.set 4 2 (.slice (some ⟨vg, 0, none⟩) 2 vp) rfl))
  rw [rounds_succ]
  have b7 := E19.out.bx 4 rfl
  have c7_0 := b7.cell 0 rfl
  have c7_1 := b7.cell 1 rfl
  have c7_2 := b7.cell 2 rfl
  clear b7
  have b8 := E19.out.bx 5 rfl
  have c8_0 := b8.cell 0 rfl
  have c8_1 := b8.cell 1 rfl
  have c8_2 := b8.cell 2 rfl
  have f8_0 := b8.frozen 0
  have f8_1 := b8.frozen 1
  have f8_2 := b8.frozen 2
  clear b8
  go_wp2
  have E20 : Hid (Env (fun _ => False) w ((w8.heap.size + 1, 99, [.slice qna 1 qnk, .slice qra 1 qrk, .slice qza 1 qzk]) :: (w8.heap.size, 99, [.slice qna 1 qnk, .slice qra 1 qrk, .slice qza 1 qzk]) :: (w6.heap.size + 1, 99, [.slice pna 1 pnk, .slice pra 1 prk, .slice pza 0 pzk]) :: (w6.heap.size, 99, [.slice pna 1 pnk, .slice pra 1 prk, .slice pza 0 pzk]) :: (w5.heap.size, 99, [.slice xna 1 xnk, .slice xra 1 xrk, .slice (some ⟨vg, 0, none⟩) 2 vp]) :: (w.heap.size, 99, [.slice xna 1 xnk, .slice xra 1 xrk, .slice (some ⟨vg, 0, none⟩) 2 vp]) :: [(vg, 99, vc)]) [.rw (.slice sra 1 srk) 1 1 (wd Rs), .rw (.slice sna 1 snk) 1 1 (wd Ns), .rw (.slice qza 1 qzk) 1 3 [.slice sna 1 snk, .slice sra 1 srk, .slice sza 0 szk], .rw (.slice qra 1 qrk) 1 1 (wd Rq), .rw (.slice qna 1 qnk) 1 1 (wd Nq), .ce yb (yo + 1) (.int .i64 (Nq : Nat)), .rw (.slice pra 1 prk) 1 1 (wd Rp), .rw (.slice pna 1 pnk) 1 1 (wd Np), .ce yb yo (.int .i64 (Np : Nat)), .rw (.slice xra 1 xrk) 1 1 (wd Rx), .rw (.slice xna 1 xnk) 1 1 (wd Nx), .rw (.slice (some ⟨yb, yo, none⟩) 2 yk) 2 1 [.int .i64 (Np : Nat), .int .i64 (Nq : Nat)]] _) := Lib.hid ((((E19.out.set 5 0 (.slice xna 1 xnk) rfl).set 5 1 (.slice xra 1 xrk) rfl).set 5 2 (.slice (some ⟨vg, 0, none⟩) 2 vp) rfl))
  have hfin := E20.out
  have q0 := (hfin.bx 5 rfl).cell 0 rfl
  have q1 := (hfin.bx 5 rfl).cell 1 rfl
  have q2 := (hfin.bx 5 rfl).cell 2 rfl
  exact bodyPost_ret (v := .tuple #[.agg #[.slice xna 1 xnk, .slice xra 1 xrk, .slice (some ⟨vg, 0, none⟩) 2 vp], .int .i64 0]) (by simp [results, Tryd.results89, go_sem, q0, q1, q2]) rfl ⟨⟨xna, xnk, xra, xrk, some ⟨vg, 0, none⟩, vp, pna, pnk, pra, prk, pza, pzk, qna, qnk, qra, qrk, qza, qzk, sna, snk, sra, srk, sza, szk, rfl, Lib.hid (Rw.from2 (hfin.out 10 rfl)), Lib.hid (Rw.from2 (hfin.out 9 rfl)), Lib.hid (Rw.from2 (OS.rw vO.out hfin (by intro p hp; simp at hp ⊢; simp [hp]) vK.out (by intro u hu; simp at hu; rcases hu with rfl | rfl | rfl | rfl | rfl | rfl <;> rfl))), Lib.hid (Rw.from2 (hfin.out 7 rfl)), Lib.hid (Rw.from2 (hfin.out 6 rfl)), Lib.hid (Rw.from2 (hfin.out 4 rfl)), Lib.hid (Rw.from2 (hfin.out 3 rfl)), Lib.hid (Rw.from2 (hfin.out 2 rfl)), Lib.hid (Rw.from2 (hfin.out 1 rfl)), Lib.hid (Rw.from2 (hfin.out 0 rfl))⟩, hfin.bel⟩
end Go.Proofs.YtinlfogpbologaaDoor

/- Verify; the example of the chapter. -/
import Derived.Test.YtinlfogpbologaaDoorPriQc
import Derived.Test.YtinlfogpbologaaDoorPriS
import Derived.Test.YtinlfogpbologaaDoorPriT
namespace Go.Proofs.YtinlfogpbologaaDoor
open Go.RowKit DivMath WordMath
set_option linter.unusedVariables false
set_option linter.unusedSimpArgs false
set_option maxRecDepth 100000 in
set_option maxHeartbeats 1000000 in
theorem Verify_2 {D : Nat → Prop} (Nx Rx Lx Np Rp Lp Nq Rq Lq Ns Rs Ls : Nat) {xna xra xza pna pra pza qna qra qza sna sra sza : Option Addr} {xnk xrk xzk pnk prk pzk qnk qrk qzk snk srk szk : Nat} {w : World} (hxn : Fct.at w D (.rw (.slice xna 1 xnk) 1 1 (wd Nx))) (hxr : Fct.at w D (.rw (.slice xra 1 xrk) 1 1 (wd Rx))) (hxz : Fct.at w D (.rw (.slice xza 2 xzk) 2 3 [.slice pna 1 pnk, .slice pra 1 prk, .slice pza 0 pzk, .slice qna 1 qnk, .slice qra 1 qrk, .slice qza 1 qzk])) (hpn : Fct.at w D (.rw (.slice pna 1 pnk) 1 1 (wd Np))) (hpr : Fct.at w D (.rw (.slice pra 1 prk) 1 1 (wd Rp))) (hqn : Fct.at w D (.rw (.slice qna 1 qnk) 1 1 (wd Nq))) (hqr : Fct.at w D (.rw (.slice qra 1 qrk) 1 1 (wd Rq))) (hqz : Fct.at w D (.rw (.slice qza 1 qzk) 1 3 [.slice sna 1 snk, .slice sra 1 srk, .slice sza 0 szk])) (hsn : Fct.at w D (.rw (.slice sna 1 snk) 1 1 (wd Ns))) (hsr : Fct.at w D (.rw (.slice sra 1 srk) 1 1 (wd Rs))) (kx0 : Cok Nx Rx Lx [Np, Nq]) (kp0 : Cok Np Rp Lp []) (kq0 : Cok Nq Rq Lq [Ns]) (ks0 : Cok Ns Rs Ls []) (hs0 : Np ≤ Nq) :
    Calls Tryd.prog 90 #[.agg #[.slice xna 1 xnk, .slice xra 1 xrk, .slice xza 2 xzk]] w fun e w' => e = .returned (.bool true) ∧ Below w.heap.size w w' := by
  have E0 := Lib.hid (((((((((((Env.start D w).arg (.rw (.slice xna 1 xnk) 1 1 (wd Nx)) hxn).arg (.rw (.slice xra 1 xrk) 1 1 (wd Rx)) hxr).arg (.rw (.slice xza 2 xzk) 2 3 [.slice pna 1 pnk, .slice pra 1 prk, .slice pza 0 pzk, .slice qna 1 qnk, .slice qra 1 qrk, .slice qza 1 qzk]) hxz).arg (.rw (.slice pna 1 pnk) 1 1 (wd Np)) hpn).arg (.rw (.slice pra 1 prk) 1 1 (wd Rp)) hpr).arg (.rw (.slice qna 1 qnk) 1 1 (wd Nq)) hqn).arg (.rw (.slice qra 1 qrk) 1 1 (wd Rq)) hqr).arg (.rw (.slice qza 1 qzk) 1 3 [.slice sna 1 snk, .slice sra 1 srk, .slice sza 0 szk]) hqz).arg (.rw (.slice sna 1 snk) 1 1 (wd Ns)) hsn).arg (.rw (.slice sra 1 srk) 1 1 (wd Rs)) hsr)
  clear hxn hxr hxz hpn hpr hqn hqr hqz hsn hsr
  go_enter Tryd.func90, Tryd.ntmps90
  have kx := Lib.hid kx0
  have kp := Lib.hid kp0
  have kq := Lib.hid kq0
  have ks := Lib.hid ks0
  have hs := Lib.hid hs0
  clear kx0 kp0 kq0 ks0 hs0
  go_wp2_with fail
  have E1 : Hid (Env D w [(w.heap.size, 99, [.slice xna 1 xnk, .slice xra 1 xrk, .slice xza 2 xzk])] [.rw (.slice sra 1 srk) 1 1 (wd Rs), .rw (.slice sna 1 snk) 1 1 (wd Ns), .rw (.slice qza 1 qzk) 1 3 [.slice sna 1 snk, .slice sra 1 srk, .slice sza 0 szk], .rw (.slice qra 1 qrk) 1 1 (wd Rq), .rw (.slice qna 1 qnk) 1 1 (wd Nq), .rw (.slice pra 1 prk) 1 1 (wd Rp), .rw (.slice pna 1 pnk) 1 1 (wd Np), .rw (.slice xza 2 xzk) 2 3 [.slice pna 1 pnk, .slice pra 1 prk, .slice pza 0 pzk, .slice qna 1 qnk, .slice qra 1 qrk, .slice qza 1 qzk], .rw (.slice xra 1 xrk) 1 1 (wd Rx), .rw (.slice xna 1 xnk) 1 1 (wd Nx)] _) := Lib.hid ((E0.out.push 99 [.slice xna 1 xnk, .slice xra 1 xrk, .slice xza 2 xzk] (w.heap.size) (by simp)))
  refine (Size_2 (E1.out.fc 7 rfl) (E1.out.fc 2 rfl)).mono ?_
  rintro e w1 ⟨rfl, hb⟩
  have E2 := Lib.hid (E1.out.below hb)
  clear E0 E1 hb
  have b1 := E2.out.bx 0 rfl
  have c1_0 := b1.cell 0 rfl
  have c1_1 := b1.cell 1 rfl
  have c1_2 := b1.cell 2 rfl
  clear b1
  go_wp2_with fail
  refine (right_2 Nx Rx Lx Np Rp Lp Nq Rq Lq Ns Rs Ls (E2.out.fc 9 rfl) (E2.out.fc 8 rfl) (E2.out.fc 7 rfl) (E2.out.fc 6 rfl) (E2.out.fc 5 rfl) (E2.out.fc 4 rfl) (E2.out.fc 3 rfl) (E2.out.fc 2 rfl) (E2.out.fc 1 rfl) (E2.out.fc 0 rfl) kx.out kp.out kq.out ks.out hs.out).mono ?_
  rintro e w2 ⟨rfl, hb⟩
  have E3 := Lib.hid (E2.out.below hb)
  clear c1_0 c1_1 c1_2 E2 hb
  have hfin := Lib.hid E3.out.bel
  go_wp2
  go_ret
  exact ⟨rfl, hfin.out⟩
namespace Pri
theorem facs12 : facN 1 = some [] ∧ facN 2 = some [2] ∧ facN 6 = some [2, 3] ∧ facN 12 = some [2, 2, 3] := by
  have a1 : facs 2 1 = ([], 1) := facs_out (by decide)
  have a2 : facs 2 2 = ([], 2) := facs_out (by decide)
  have a3 : facs 3 3 = ([], 3) := facs_out (by decide)
  have p3 : pull 2 3 = ([], 3) := pull_no (by decide)
  have p6 : pull 2 6 = ([2], 3) := by rw [pull_yes (by decide) (by decide) (by decide), show 6 / 2 = 3 from rfl, p3]
  have p12 : pull 2 12 = ([2, 2], 3) := by rw [pull_yes (by decide) (by decide) (by decide), show 12 / 2 = 6 from rfl, p6]
  have a6 : facs 2 6 = ([2], 3) := by rw [facs_in (by decide) (by decide), p6, show 2 + 1 = 3 from rfl, a3]; rfl
  have a12 : facs 2 12 = ([2, 2], 3) := by rw [facs_in (by decide) (by decide), p12, show 2 + 1 = 3 from rfl, a3]; rfl
  have i2 : isP 2 = true := by decide
  have i3 : isP 3 = true := by decide
  refine ⟨?_, ?_, ?_, ?_⟩
  · rw [facN_one (by rw [a1]), a1]
  · rw [facN_more (by rw [a2]; decide) (by rw [a2]; exact i2), a2]; rfl
  · rw [facN_more (by rw [a6]; decide) (by rw [a6]; exact i3), a6]; rfl
  · rw [facN_more (by rw [a12]; decide) (by rw [a12]; exact i3), a12]; rfl
theorem root7 : RootR 7 [2, 3] 3 := ⟨by decide, by decide, by decide, fun j h1 h2 => by
  have : j = 1 ∨ j = 2 := by omega
  rcases this with rfl | rfl <;> decide⟩
theorem root3 : RootR 3 [2] 2 := ⟨by decide, by decide, by decide, fun j h1 h2 => by
  have : j = 1 := by omega
  subst this; decide⟩
theorem root2 : RootR 2 [] 1 := ⟨by decide, by decide, rfl, fun j h1 h2 => by omega⟩
end Pri
theorem dok7 : Dok 7 3 [2, 3] := ⟨⟨⟨by decide, by decide⟩, ⟨by decide, by decide⟩⟩, by decide, by decide, Pri.facs12.2.2.1, Pri.root7⟩
theorem dok3 : Dok 3 2 [2] := ⟨⟨⟨by decide, by decide⟩, ⟨by decide, by decide⟩⟩, by decide, by decide, Pri.facs12.2.1, Pri.root3⟩
theorem dok2 : Dok 2 1 [] := ⟨⟨⟨by decide, by decide⟩, ⟨by decide, by decide⟩⟩, by decide, by decide, Pri.facs12.1, Pri.root2⟩
theorem cok2 : Cok 2 1 1 [] := ⟨⟨⟨by decide, by decide⟩, ⟨by decide, by decide⟩, ⟨by decide, by decide⟩⟩, by decide, by decide, rfl, rfl, rfl, by intro M h; cases h⟩
theorem cok3 : Cok 3 2 2 [2] := ⟨⟨⟨by decide, by decide⟩, ⟨by decide, by decide⟩, ⟨by decide, by decide⟩⟩, by decide, by decide, rfl, rfl, rfl, fun M h => by
  obtain rfl := List.mem_singleton.1 h
  exact ⟨1, 2, rfl, rfl, ⟨by decide, by decide⟩, ⟨by decide, by decide⟩, ⟨by decide, by decide⟩, by decide⟩⟩
theorem cok7 : Cok 7 3 6 [2, 3] := ⟨⟨⟨by decide, by decide⟩, ⟨by decide, by decide⟩, ⟨by decide, by decide⟩⟩, by decide, by decide, rfl, rfl, rfl, fun M h => by
  simp at h
  rcases h with rfl | rfl
  · exact ⟨3, 6, rfl, rfl, ⟨by decide, by decide⟩, ⟨by decide, by decide⟩, ⟨by decide, by decide⟩, by decide⟩
  · exact ⟨2, 2, rfl, rfl, ⟨by decide, by decide⟩, ⟨by decide, by decide⟩, ⟨by decide, by decide⟩, by decide⟩⟩
set_option maxRecDepth 100000 in
set_option maxHeartbeats 4000000 in
theorem awake05_c  {w : World}  (hl0 : Laid w) :
    Calls Tryd.prog 48 #[] w fun e w' => e = .returned (.bool true) ∧ Below w.heap.size w w' := by
  have E0 := Lib.hid (Env.start (fun _ => True) w)
  go_enter Tryd.func48, Tryd.ntmps48
  have hl := Lib.hid hl0
  clear hl0
  have HI7 := Lib.hid (show Pri.isP 7 = true by decide)
  have HT7 := Lib.hid (show ((7 : Nat) : Int) < Top by unfold Top; omega)
  go_wp2_with fail
  refine (Root_some (D := fun _ => True) 7 [2, 3] 3 (hl.out.below E0.out.bel) HT7.out HI7.out Pri.facs12.2.2.1 Pri.root7).mono ?_
  rintro e w1 ⟨rfl, hb⟩
  have E1 := Lib.hid (E0.out.below hb)
  clear E0 hb
  go_wp2_with fail
  refine (Certify_2 7 3 2 1 3 2 2 1 (hl.out.below E1.out.bel) dok7 dok2 dok3 dok2).mono ?_
  rintro e w2 ⟨⟨xna, xnk, xra, xrk, xza, xzk, pna, pnk, pra, prk, pza, pzk, qna, qnk, qra, qrk, qza, qzk, sna, snk, sra, srk, sza, szk, rfl, hxn, hxr, hxz, hpn, hpr, hqn, hqr, hqz, hsn, hsr⟩, hb⟩
  have E2 := Lib.hid (E1.out.got (E1.out.got (E1.out.got (E1.out.got (E1.out.got (E1.out.got (E1.out.got (E1.out.got (E1.out.got (E1.out.got (E1.out.below hb) (.rw (.slice xna 1 xnk) 1 1 (wd 7)) (Lib.hid (Rw.ge hxn.out)).out) (.rw (.slice xra 1 xrk) 1 1 (wd 3)) (Lib.hid (Rw.ge hxr.out)).out) (.rw (.slice xza 2 xzk) 2 3 [.slice pna 1 pnk, .slice pra 1 prk, .slice pza 0 pzk, .slice qna 1 qnk, .slice qra 1 qrk, .slice qza 1 qzk]) (Lib.hid (Rw.ge hxz.out)).out) (.rw (.slice pna 1 pnk) 1 1 (wd 2)) (Lib.hid (Rw.ge hpn.out)).out) (.rw (.slice pra 1 prk) 1 1 (wd 1)) (Lib.hid (Rw.ge hpr.out)).out) (.rw (.slice qna 1 qnk) 1 1 (wd 3)) (Lib.hid (Rw.ge hqn.out)).out) (.rw (.slice qra 1 qrk) 1 1 (wd 2)) (Lib.hid (Rw.ge hqr.out)).out) (.rw (.slice qza 1 qzk) 1 3 [.slice sna 1 snk, .slice sra 1 srk, .slice sza 0 szk]) (Lib.hid (Rw.ge hqz.out)).out) (.rw (.slice sna 1 snk) 1 1 (wd 2)) (Lib.hid (Rw.ge hsn.out)).out) (.rw (.slice sra 1 srk) 1 1 (wd 1)) (Lib.hid (Rw.ge hsr.out)).out)
  clear E1 hb
  go_wp2_with fail
  have E3 : Hid (Env (fun _ => True) w [(w2.heap.size, 99, [.slice xna 1 xnk, .slice xra 1 xrk, .slice xza 2 xzk])] [.rw (.slice sra 1 srk) 1 1 (wd 1), .rw (.slice sna 1 snk) 1 1 (wd 2), .rw (.slice qza 1 qzk) 1 3 [.slice sna 1 snk, .slice sra 1 srk, .slice sza 0 szk], .rw (.slice qra 1 qrk) 1 1 (wd 2), .rw (.slice qna 1 qnk) 1 1 (wd 3), .rw (.slice pra 1 prk) 1 1 (wd 1), .rw (.slice pna 1 pnk) 1 1 (wd 2), .rw (.slice xza 2 xzk) 2 3 [.slice pna 1 pnk, .slice pra 1 prk, .slice pza 0 pzk, .slice qna 1 qnk, .slice qra 1 qrk, .slice qza 1 qzk], .rw (.slice xra 1 xrk) 1 1 (wd 3), .rw (.slice xna 1 xnk) 1 1 (wd 7)] _) := Lib.hid ((E2.out.push 99 [.slice xna 1 xnk, .slice xra 1 xrk, .slice xza 2 xzk] (w2.heap.size) (by simp)))
  refine (Fac_some (D := fun _ => True) 12 [2, 2, 3] (hl.out.below E3.out.bel) (by omega) (by omega) Pri.facs12.2.2.2).mono ?_
  rintro e w3 ⟨⟨za, zk, rfl, zh⟩, hb⟩
  have E4 := Lib.hid (E3.out.got (E3.out.below hb) (.rw (.slice za 3 zk) 3 1 (ncl [2, 2, 3])) (Lib.hid (Rw.ge zh.out)).out)
  clear E2 E3 hb
  have b1 := E4.out.bx 0 rfl
  have c1_2 := b1.cell 2 rfl
  clear b1
  have b2 := E4.out.bx 0 rfl
  have c2_0 := b2.cell 0 rfl
  have c2_1 := b2.cell 1 rfl
  clear b2
  go_wp2_with fail
  refine (Verify_2 7 3 6 2 1 1 3 2 2 2 1 1 (E4.out.fc 10 rfl) (E4.out.fc 9 rfl) (E4.out.fc 8 rfl) (E4.out.fc 7 rfl) (E4.out.fc 6 rfl) (E4.out.fc 5 rfl) (E4.out.fc 4 rfl) (E4.out.fc 3 rfl) (E4.out.fc 2 rfl) (E4.out.fc 1 rfl) cok7 cok2 cok3 cok2 (by decide)).mono ?_
  rintro e w4 ⟨rfl, hb⟩
  have E5 := Lib.hid (E4.out.below hb)
  clear c1_2 c2_0 c2_1 E4 hb
  have b3 := E5.out.bx 0 rfl
  have c3_0 := b3.cell 0 rfl
  have c3_1 := b3.cell 1 rfl
  have c3_2 := b3.cell 2 rfl
  clear b3
  go_wp2_with fail
  refine (Size_2 (E5.out.fc 8 rfl) (E5.out.fc 3 rfl)).mono ?_
  rintro e w5 ⟨rfl, hb⟩
  have E6 := Lib.hid (E5.out.below hb)
  clear c3_0 c3_1 c3_2 E5 hb
  have E7 : Hid (Env (fun _ => True) w [(w5.heap.size, 3, [.int .i64 2, .int .i64 2, .int .i64 3]), (w2.heap.size, 99, [.slice xna 1 xnk, .slice xra 1 xrk, .slice xza 2 xzk])] [.rw (.slice za 3 zk) 3 1 (ncl [2, 2, 3]), .rw (.slice sra 1 srk) 1 1 (wd 1), .rw (.slice sna 1 snk) 1 1 (wd 2), .rw (.slice qza 1 qzk) 1 3 [.slice sna 1 snk, .slice sra 1 srk, .slice sza 0 szk], .rw (.slice qra 1 qrk) 1 1 (wd 2), .rw (.slice qna 1 qnk) 1 1 (wd 3), .rw (.slice pra 1 prk) 1 1 (wd 1), .rw (.slice pna 1 pnk) 1 1 (wd 2), .rw (.slice xza 2 xzk) 2 3 [.slice pna 1 pnk, .slice pra 1 prk, .slice pza 0 pzk, .slice qna 1 qnk, .slice qra 1 qrk, .slice qza 1 qzk], .rw (.slice xra 1 xrk) 1 1 (wd 3), .rw (.slice xna 1 xnk) 1 1 (wd 7)] _) := Lib.hid ((E6.out.push 3 [.int .i64 2, .int .i64 2, .int .i64 3] (w5.heap.size) (by simp)))
  go_wp2_with fail
  refine (equalN_c (t := true) (a := [2, 2, 3]) (b := [2, 2, 3]) (Fct.any (E7.out.fc 0 rfl)) (Rw.boxP (E7.out.bx 0 rfl) (by decide) (by decide)) (by decide) (by decide) (by decide)).mono ?_
  rintro e w6 ⟨rfl, hb⟩
  have E8 := Lib.hid (E7.out.below hb)
  clear E6 E7 hb
  go_wp2_with fail
  refine (IsB 5 _ (hl.out.below E8.out.bel) (by omega) (t := true) (by decide)).mono ?_
  rintro e w7 ⟨rfl, hb⟩
  have E9 := Lib.hid (E8.out.below hb)
  clear E8 hb
  go_wp2_with fail
  refine (IsB 9 _ (hl.out.below E9.out.bel) (by omega) (t := false) (by decide)).mono ?_
  rintro e w8 ⟨rfl, hb⟩
  have E10 := Lib.hid (E9.out.below hb)
  clear E9 hb
  have hfin := Lib.hid E10.out.bel
  go_wp2
  go_ret
  exact ⟨rfl, hfin.out⟩
end Go.Proofs.YtinlfogpbologaaDoor

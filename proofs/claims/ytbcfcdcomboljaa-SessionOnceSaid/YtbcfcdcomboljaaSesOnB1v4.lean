/- SessionOnce: the walk, part B1v4. -/
import Derived.Test.YtbcfcdcomboljaaSesOnD
namespace Go.Proofs.Ytbcfcdcomboljaa
open Go.RowKit Go.Maps
set_option linter.unusedVariables false
set_option maxRecDepth 100000 in
set_option maxHeartbeats 40000000 in
theorem once_B1v4 {D : Nat → Prop} {w wr : World} (script kinds : List Nat) {xa ya : Option Addr} {xk yk : Nat} (ad5 ad6 mb : Nat) (gk : Nat) (J : Nat → Act → World → Prop) (K1 : Act → World → Prop) {B : Code} (hB : IsBody B) (hJ : ∀ k a' w', RelI script kinds xa ya xk yk D w ad5 ad6 mb k a' w' → J k a' w') (hK : ∀ a' w', Handed J gk a' w' → K1 a' w') (Q : Exit → Act → World → Prop) {u4 u11 u12 u13 u14 u15 u16 u17 u18 u19 u20 u21 u35 u36 u37 u38 u39 u40 u41 u42 u43 u44 u45 u46 u47 u48 u49 u50 u51 u52 u53 u54 u55 u56 u57 u58 u59 u60 u61 u62 u63 u64 u65 u66 u67 u68 u69 u70 u71 u72 u73 u74 u75 u76 u77 u78 u79 u80 u81 u82 u83 u84 u85 u86 u87 u88 u89 u90 u91 u92 u93 u94 u95 u96 u97 u98 u99 u100 u101 u102 u103 u104 u105 u106 u107 u108 u109 u110 u111 u112 u113 u114 u115 u116 u117 u118 u119 u120 u121 u122 u123 u124 u125 u126 u127 u128 u129 u130 u131 u132 u133 u134 u135 u136 u137 u138 u139 u140 u141 u142 u143 u144 u145 u146 u147 u148 u149 u150 u151 u152 u153 u154 u155 u156 u157 u158 u159 u160 u161 u162 u163 u164 u165 u166 u167 u168 u169 u170 u171 u172 u173 u174 u175 u176 u177 u178 u179 u180 u181 u182 u183 u184 u185 u186 u187 u188 u189 u190 u191 u192 u193 u194 u195 u196 u197 u198 u199 u200 u201 u202 u203 u204 u205 u206 u207 u208 u209 u210 u211 u212 u213 u214 u215 u216 u217 u218 u219 u220 u221 u222 u223 u224 u225 u226 u227 u228 u229 u230 u231 u232 u233 u234 u235 u236 u237 u238 u239 u240 u241 u242 u243 u244 u245 u246 u247 u248 u249 : Value} {i : Nat} {c s : Ses} {ca cd sa sd : Option Addr} {ck cj sk sj : Nat} {s1 s2 : List Bx} {cs1 cs2 : List Value} {v1 v2 : Value} {TS TC : List Msg} {dn : Int → Int} {acc : Int} {K : Int → Int} {n : Nat} {dm : MapD} (EL : Hid (EnvM D w ((ad6, 27, [.int .i64 s.nx, .bool s.wt, .int .i64 s.rq.fr, .int .i64 s.rq.to_, .int .i64 s.rq.kd, .int .i64 s.rq.nm, .slice sa s.rq.body.length sk, .slice sd s.dn.length sj, .int .i64 s.tr]) :: (ad5, 27, [.int .i64 c.nx, .bool c.wt, .int .i64 c.rq.fr, .int .i64 c.rq.to_, .int .i64 c.rq.kd, .int .i64 c.rq.nm, .slice ca c.rq.body.length ck, .slice cd c.dn.length cj, .int .i64 c.tr]) :: (s1 ++ s2)) [.mc cs1 TS, .mc cs2 TC, .bs (.slice ca c.rq.body.length ck) c.rq.body, .ms (.slice cd c.dn.length cj) c.dn, .bs (.slice sa s.rq.body.length sk) s.rq.body, .ms (.slice sd s.dn.length sj) s.dn, .bs (.slice ya kinds.length yk) kinds, .bs (.slice xa script.length xk) script] mb n dm wr)) (HA : Hid (i ≤ script.length ∧ gk = script.length - i ∧ n ≤ i ∧ LS s1 cs1 v1 TS ∧ LS s2 cs2 v2 TC ∧ Inv i c s TS TC dn acc K ∧ MapIs dm dn)) (hl : Hid (script.length ≤ 200)) (hi : i < script.length) (hq : script[i] % 4 = 1) {j : Nat} {mk mn : Int} {a1 : Msg} (hT0 : ¬ TS.length = 0) (hjl : j < TS.length) (hj : j = TS.length - 1 - script[i] / 4 % TS.length) (hme : TS[j] = ⟨3, 4, mk, mn, []⟩) (hKN : Hid (KnRel s ⟨3, 4, mk, mn, []⟩ a1 0)) :
    Code.wp Try.prog B (Exit.then K1 Q) { tmps := #[.slice xa script.length xk, .slice ya kinds.length yk, undef, undef, u4, .pointer (some ⟨ad5, 0, none⟩), .pointer (some ⟨ad6, 0, none⟩), v1, v2, .map (some mb), .int .i64 acc, u11, u12, u13, u14, u15, u16, u17, u18, u19, u20, u21, undef, undef, .bool true, .bool false, .slice xa script.length xk, .int .i64 (script.length : Int), .bool false, .agg #[.int .i64 0, .bool false, .int .i64 0, .int .i64 0, .int .i64 0, .int .i64 0, .slice none 0 0, .slice none 0 0, .int .i64 0], .agg #[.int .i64 0, .bool false, .int .i64 0, .int .i64 0, .int .i64 0, .int .i64 0, .slice none 0 0, .slice none 0 0, .int .i64 0], .map (some mb), .slice xa script.length xk, .int .i64 (script.length : Int), .int .i64 (i : Int), u35, u36, u37, u38, u39, u40, u41, u42, u43, u44, u45, u46, u47, u48, u49, u50, u51, u52, u53, u54, u55, u56, u57, u58, u59, u60, u61, u62, u63, u64, u65, u66, u67, u68, u69, u70, u71, u72, u73, u74, u75, u76, u77, u78, u79, u80, u81, u82, u83, u84, u85, u86, u87, u88, u89, u90, u91, u92, u93, u94, u95, u96, u97, u98, u99, u100, u101, u102, u103, u104, u105, u106, u107, u108, u109, u110, u111, u112, u113, u114, u115, u116, u117, u118, u119, u120, u121, u122, u123, u124, u125, u126, u127, u128, u129, u130, u131, u132, u133, u134, u135, u136, u137, u138, u139, u140, u141, u142, u143, u144, u145, u146, u147, u148, u149, u150, u151, u152, u153, u154, u155, u156, u157, u158, u159, u160, u161, u162, u163, u164, u165, u166, u167, u168, u169, u170, u171, u172, u173, u174, u175, u176, u177, u178, u179, u180, u181, u182, u183, u184, u185, u186, u187, u188, u189, u190, u191, u192, u193, u194, u195, u196, u197, u198, u199, u200, u201, u202, u203, u204, u205, u206, u207, u208, u209, u210, u211, u212, u213, u214, u215, u216, u217, u218, u219, u220, u221, u222, u223, u224, u225, u226, u227, u228, u229, u230, u231, u232, u233, u234, u235, u236, u237, u238, u239, u240, u241, u242, u243, u244, u245, u246, u247, u248, u249, undef, undef, undef, undef, undef, undef, undef, undef], defers := [] } wr := by
  unfold IsBody at hB
  conv at hB => lhs; whnf
  injection hB with hB
  subst hB
  have hgk := Lib.hid HA.out.2.1; have hin := Lib.hid HA.out.1; have hni := Lib.hid HA.out.2.2.1; have hL1 := Lib.hid HA.out.2.2.2.1; have hL2 := Lib.hid HA.out.2.2.2.2.1; have hI := Lib.hid HA.out.2.2.2.2.2.1; have hM := Lib.hid HA.out.2.2.2.2.2.2; clear HA
  have t1 : decide ((i : Int) < (script.length : Int)) = true := decide_eq_true (by omega)
  have hi2 : i ≤ 200 := by have := hl.out; omega
  obtain ⟨sb, so, hxa, hxc0, hx80⟩ := Bs.byte (EL.out.fc 7 rfl) hi
  obtain ⟨x, hx⟩ : ∃ x, x = script[i] := ⟨_, rfl⟩
  rw [← hx] at hxc0 hx80 hq
  have hx8 := hx80; have hxc := hxc0; clear hx80 hxc0
  have hHX := Lib.hid hx; clear hx
  obtain ⟨nx, wt, rq, cdn, tr⟩ := c
  obtain rfl : cdn = [] := hI.out.c2
  obtain ⟨va, vc, e1⟩ := hL1.out.len; subst e1
  obtain ⟨ua, uc, e2⟩ := hL2.out.len; subst e2
  have hbd := hI.out.bd; have hTS := hI.out.l1; have hTC := hI.out.l2; dsimp only at hbd
  have E1 : Hid (EnvM D w ((ad6, 27, [.int .i64 s.nx, .bool s.wt, .int .i64 s.rq.fr, .int .i64 s.rq.to_, .int .i64 s.rq.kd, .int .i64 s.rq.nm, .slice sa s.rq.body.length sk, .slice sd s.dn.length sj, .int .i64 s.tr]) :: (ad5, 27, [.int .i64 nx, .bool wt, .int .i64 rq.fr, .int .i64 rq.to_, .int .i64 rq.kd, .int .i64 rq.nm, .slice ca rq.body.length ck, .slice cd 0 cj, .int .i64 tr]) :: (s1 ++ s2)) [.mc cs1 TS, .mc cs2 TC, .bs (.slice ca rq.body.length ck) rq.body, .ms (.slice cd 0 cj) [], .bs (.slice sa s.rq.body.length sk) s.rq.body, .ms (.slice sd s.dn.length sj) s.dn, .bs (.slice ya kinds.length yk) kinds, .bs (.slice xa script.length xk) script] mb n dm _) := Lib.hid EL.out
  clear EL
  have hand := and_u8 x hx8
  rw [hq] at hand
  rw [← hHX.out] at hj
  have hTz : ((TS.length : Int) == 0) = false := by simpa using hT0
  have hml : (x / 4) % TS.length < TS.length := Nat.mod_lt _ (by omega)
  have hjx : wrap64 ((TS.length : Int) - 1 - (x : Int) / 4 % (TS.length : Int)) = (j : Int) := by
    have hmm2 : (x : Int) / 4 % (TS.length : Int) = (((x / 4) % TS.length : Nat) : Int) := by simp
    rw [hmm2]; unfold wrap64; omega
  clear hj hml
  have hRq := hI.out.got hjl; (try dsimp only at hRq)
  rw [hme] at hRq; have hRQM := Lib.hid hRq; clear hRq
  have hmn : 0 ≤ mn ∧ mn < nx := ⟨hRQM.out.2.2.2.2.1, hRQM.out.2.2.2.2.2.1⟩
  have hkn := hI.out.known (by omega) hRQM.out hKN.out; (try dsimp only at hkn)
  rcases hkn with ⟨h9, hd0⟩ | ⟨h9, hd0⟩ | ⟨h9, hd0, hbl0, hbk0, han0⟩
  · exact absurd h9 (by decide)
  · exact absurd h9 (by decide)
  clear h9
  have hBL := Lib.hid hbl0; have hBK := Lib.hid hbk0; have hAN := Lib.hid han0; clear hbl0 hbk0 han0
  have hd := Lib.hid hd0; clear hd0
  have hkl := Lib.hid (known_p hKN.out)
  obtain ⟨lg, la, lk, hva, p0, p1, p2, p3, p4, E20⟩ := EnvM.el (A := [(ad6, 27, [.int .i64 s.nx, .bool s.wt, .int .i64 s.rq.fr, .int .i64 s.rq.to_, .int .i64 s.rq.kd, .int .i64 s.rq.nm, .slice sa s.rq.body.length sk, .slice sd s.dn.length sj, .int .i64 s.tr]), (ad5, 27, [.int .i64 nx, .bool wt, .int .i64 rq.fr, .int .i64 rq.to_, .int .i64 rq.kd, .int .i64 rq.nm, .slice ca rq.body.length ck, .slice cd 0 cj, .int .i64 tr])]) (B' := s2) E1.out rfl hL1.out (i := 0) rfl hjl hme
  have E2 : Hid (EnvM D w ((ad6, 27, [.int .i64 s.nx, .bool s.wt, .int .i64 s.rq.fr, .int .i64 s.rq.to_, .int .i64 s.rq.kd, .int .i64 s.rq.nm, .slice sa s.rq.body.length sk, .slice sd s.dn.length sj, .int .i64 s.tr]) :: (ad5, 27, [.int .i64 nx, .bool wt, .int .i64 rq.fr, .int .i64 rq.to_, .int .i64 rq.kd, .int .i64 rq.nm, .slice ca rq.body.length ck, .slice cd 0 cj, .int .i64 tr]) :: (s1 ++ s2)) [.bs (.slice la 0 lk) [], .mc cs1 TS, .mc cs2 TC, .bs (.slice ca rq.body.length ck) rq.body, .ms (.slice cd 0 cj) [], .bs (.slice sa s.rq.body.length sk) s.rq.body, .ms (.slice sd s.dn.length sj) s.dn, .bs (.slice ya kinds.length yk) kinds, .bs (.slice xa script.length xk) script] mb n dm wr) := E20; clear E20 E1
  have q0 := cell_alloc p0 (.cells #[.int .i64 0, .int .i64 0, .int .i64 0, .int .i64 0, .slice none 0 0] 24)
  have q1 := cell_alloc p1 (.cells #[.int .i64 0, .int .i64 0, .int .i64 0, .int .i64 0, .slice none 0 0] 24)
  have q2 := cell_alloc p2 (.cells #[.int .i64 0, .int .i64 0, .int .i64 0, .int .i64 0, .slice none 0 0] 24)
  have q3 := cell_alloc p3 (.cells #[.int .i64 0, .int .i64 0, .int .i64 0, .int .i64 0, .slice none 0 0] 24)
  have q4 := cell_alloc p4 (.cells #[.int .i64 0, .int .i64 0, .int .i64 0, .int .i64 0, .slice none 0 0] 24)
  clear p0 p1 p2 p3 p4
  have E3 := Lib.hid ((E2.out.push 24 [.int .i64 3, .int .i64 4, .int .i64 mk, .int .i64 mn, .slice la 0 lk] (wr.heap.size) (by simp)))
  have b1 := E3.out.bx 1 rfl
  have c1_0 := b1.cell 0 rfl
  have c1_1 := b1.cell 1 rfl
  have c1_2 := b1.cell 2 rfl
  have c1_3 := b1.cell 3 rfl
  have c1_4 := b1.cell 4 rfl
  have c1_5 := b1.cell 5 rfl
  have c1_6 := b1.cell 6 rfl
  have c1_7 := b1.cell 7 rfl
  have c1_8 := b1.cell 8 rfl
  clear b1
  have b2 := E3.out.bx 0 rfl
  have c2_0 := b2.cell 0 rfl
  have c2_1 := b2.cell 1 rfl
  have c2_2 := b2.cell 2 rfl
  have c2_3 := b2.cell 3 rfl
  have c2_4 := b2.cell 4 rfl
  clear b2
  go_wp2_with fail
  refine (hkl.out _ _ _ _ _ _ _ _ (E3.out.fc 5 rfl) (E3.out.fc 6 rfl) (E3.out.fc 0 rfl)).mono ?_
  rintro e w1 ⟨⟨pea, pek, rfl, hpe⟩, hb⟩
  have E4 := Lib.hid (E3.out.got (E3.out.below hb) (.bs (.slice pea a1.body.length pek) a1.body) hpe.out)
  clear q0 q1 q2 q3 q4 c1_0 c1_1 c1_2 c1_3 c1_4 c1_5 c1_6 c1_7 c1_8 c2_0 c2_1 c2_2 c2_3 c2_4 E2 E3 hb hpe
  have Hhxa := Lib.hid hxa; clear hxa
  have Hhva := Lib.hid hva; clear hva
  have E5 := Lib.hid ((E4.out.push 24 [.int .i64 a1.fr, .int .i64 a1.to_, .int .i64 a1.kd, .int .i64 a1.nm, .slice pea a1.body.length pek] (w1.heap.size) (by simp)))
  obtain ⟨cc, hrun6, hat, hwc⟩ := E5.out.map.lookup_int law Try.underlying56 Try.underlying3 (zeroE _) (key := .int .i64 mn) (keyOf_int_mk Try.underlying3 (WalkArith.wf_i64 ⟨by omega, by omega⟩))
  rw [(hM.out.2 mn).1] at hat; simp only [DataW.lit.injEq, Lit.int.injEq, true_and] at hat; rw [← hat, hd.out] at hrun6; clear hat hwc
  have h45 : (a1.kd == mk) = true := by simp; have := hBK.out; (try dsimp only at this); omega
  have h45d : decide (a1.kd = mk) = true := by simp; have := hBK.out; (try dsimp only at this); omega
  have h45n : (a1.kd != mk) = false := by simp; have := hBK.out; (try dsimp only at this); omega
  have b3 := E5.out.bx 1 rfl
  have c3_3 := b3.cell 3 rfl
  clear b3
  have b4 := E5.out.bx 0 rfl
  have c4_0 := b4.cell 0 rfl
  have c4_1 := b4.cell 1 rfl
  have c4_2 := b4.cell 2 rfl
  have c4_3 := b4.cell 3 rfl
  have c4_4 := b4.cell 4 rfl
  clear b4
  have b5 := E5.out.bx 1 rfl
  have c5_0 := b5.cell 0 rfl
  have c5_1 := b5.cell 1 rfl
  have c5_2 := b5.cell 2 rfl
  have c5_4 := b5.cell 4 rfl
  clear b5
  go_wp2_with fail
  refine (rBelongs_v a1 ⟨3, 4, mk, mn, []⟩ hBL.out _ _ _).mono ?_
  rintro e w2 ⟨rfl, hb⟩
  have E7 := Lib.hid (E5.out.below hb)
  clear hrun6 c3_3 c4_0 c4_1 c4_2 c4_3 c4_4 c5_0 c5_1 c5_2 c5_4 E4 E5 hb
  have b6 := E7.out.bx 0 rfl
  have c6_2 := b6.cell 2 rfl
  clear b6
  have b7 := E7.out.bx 1 rfl
  have c7_2 := b7.cell 2 rfl
  clear b7
  have b8 := E7.out.bx 0 rfl
  have c8_0 := b8.cell 0 rfl
  have c8_1 := b8.cell 1 rfl
  have c8_3 := b8.cell 3 rfl
  have c8_4 := b8.cell 4 rfl
  clear b8
  have E8 := Lib.hid ((E7.out.push 24 [.int .i64 a1.fr, .int .i64 a1.to_, .int .i64 a1.kd, .int .i64 a1.nm, .slice pea a1.body.length pek] (w2.heap.size) (by simp)))
  go_wp2_with (at_builtin; refine wpList_appL (A := ((w2.heap.size, 24, [.int .i64 a1.fr, .int .i64 a1.to_, .int .i64 a1.kd, .int .i64 a1.nm, .slice pea a1.body.length pek]) :: (w1.heap.size, 24, [.int .i64 a1.fr, .int .i64 a1.to_, .int .i64 a1.kd, .int .i64 a1.nm, .slice pea a1.body.length pek]) :: (wr.heap.size, 24, [.int .i64 3, .int .i64 4, .int .i64 mk, .int .i64 mn, .slice la 0 lk]) :: (ad6, 27, [.int .i64 s.nx, .bool s.wt, .int .i64 s.rq.fr, .int .i64 s.rq.to_, .int .i64 s.rq.kd, .int .i64 s.rq.nm, .slice sa s.rq.body.length sk, .slice sd s.dn.length sj, .int .i64 s.tr]) :: (ad5, 27, [.int .i64 nx, .bool wt, .int .i64 rq.fr, .int .i64 rq.to_, .int .i64 rq.kd, .int .i64 rq.nm, .slice ca rq.body.length ck, .slice cd 0 cj, .int .i64 tr]) :: s1)) (B' := []) rfl _ _ rfl E8.out (by simp) hL2.out (E8.out.fc 3 rfl) rfl (M := a1) (ad := some ⟨w2.heap.size, 0, none⟩) (c := 1) (news := [.int .i64 a1.fr, .int .i64 a1.to_, .int .i64 a1.kd, .int .i64 a1.nm, .slice pea a1.body.length pek]) rfl ((E8.out.bx 0 rfl).src 0 1 rfl (by intro j u hj; simpa using hj) (by intro u hu; simp at hu; rcases hu with rfl | rfl | rfl | rfl | rfl <;> rfl)) (mc_one' (M := a1) (E8.out.fc 0 rfl)) (by omega) ?_)
  intro g2 gc2 gs2 w3 hN2 E90
  have E9 : Hid (EnvM D w ((w2.heap.size, 24, [.int .i64 a1.fr, .int .i64 a1.to_, .int .i64 a1.kd, .int .i64 a1.nm, .slice pea a1.body.length pek]) :: (w1.heap.size, 24, [.int .i64 a1.fr, .int .i64 a1.to_, .int .i64 a1.kd, .int .i64 a1.nm, .slice pea a1.body.length pek]) :: (wr.heap.size, 24, [.int .i64 3, .int .i64 4, .int .i64 mk, .int .i64 mn, .slice la 0 lk]) :: (ad6, 27, [.int .i64 s.nx, .bool s.wt, .int .i64 s.rq.fr, .int .i64 s.rq.to_, .int .i64 s.rq.kd, .int .i64 s.rq.nm, .slice sa s.rq.body.length sk, .slice sd s.dn.length sj, .int .i64 s.tr]) :: (ad5, 27, [.int .i64 nx, .bool wt, .int .i64 rq.fr, .int .i64 rq.to_, .int .i64 rq.kd, .int .i64 rq.nm, .slice ca rq.body.length ck, .slice cd 0 cj, .int .i64 tr]) :: (s1 ++ [(g2, 24, gs2)])) [.mc gs2 (TC ++ [a1]), .bs (.slice pea a1.body.length pek) a1.body, .bs (.slice la 0 lk) [], .mc cs1 TS, .mc cs2 TC, .bs (.slice ca rq.body.length ck) rq.body, .ms (.slice cd 0 cj) [], .bs (.slice sa s.rq.body.length sk) s.rq.body, .ms (.slice sd s.dn.length sj) s.dn, .bs (.slice ya kinds.length yk) kinds, .bs (.slice xa script.length xk) script] mb n dm w3) := E90
  clear c6_2 c7_2 c8_0 c8_1 c8_3 c8_4 E7 E8 E90
  have hck := Lib.hid hI.out.chk
  cases wt
  · have hNX : Hid (nx = acc) := Lib.hid (hck.out.2 rfl)
    have h62 : (nx == acc) = true := by simp; have := hNX.out; omega
    have h62d : decide (nx = acc) = true := by simp; have := hNX.out; omega
    have h62n : (nx != acc) = false := by simp; have := hNX.out; omega
    have b9 := E9.out.bx 4 rfl
    have c9_1 := b9.cell 1 rfl
    clear b9
    have b10 := E9.out.bx 4 rfl
    have c10_0 := b10.cell 0 rfl
    clear b10
    have E10 := Lib.hid ((((((((E9.out.bare.note (.bs (.slice xa script.length xk) script) (E9.out.fc 10 rfl)).note (.bs (.slice ya kinds.length yk) kinds) (E9.out.fc 9 rfl)).note (.ms (.slice sd s.dn.length sj) s.dn) (E9.out.fc 8 rfl)).note (.bs (.slice sa s.rq.body.length sk) s.rq.body) (E9.out.fc 7 rfl)).note (.ms (.slice cd 0 cj) []) (E9.out.fc 6 rfl)).note (.bs (.slice ca rq.body.length ck) rq.body) (E9.out.fc 5 rfl)).note (.mc gs2 (TC ++ [a1])) (E9.out.fc 0 rfl)).note (.mc cs1 TS) (E9.out.fc 3 rfl))
    have EZ := Lib.hid (((E10.out.drop).drop).drop)
    go_wp2
    try simp only [← Hhxa.out, ← Hhva.out]
    refine Handed.intro (script.length - (i + 1)) (by have := hgk.out; omega) ?_
    refine hJ _ _ _ ⟨i + 1, ⟨nx, false, rq, [], tr⟩, s, ca, cd, sa, sd, ck, cj, sk, sj, s1, [(g2, 24, gs2)], cs1, gs2, .slice va TS.length vc, .slice (some ⟨g2, 0, none⟩) (TC.length + 1) gc2, TS, (TC ++ [a1]), dn, acc, K, n, dm, EZ, Lib.hid ⟨by omega, rfl, (by have := hni.out; omega), hL1.out, hN2.out, (hI.out.answer hAN.out), hM.out⟩, ?_⟩
    (repeat apply Exists.intro)
    rfl
  · have hNX : Hid (nx = (acc + 1)) := Lib.hid (hck.out.1 rfl)
    have h62 : (nx == (acc + 1)) = true := by simp; have := hNX.out; omega
    have h62d : decide (nx = (acc + 1)) = true := by simp; have := hNX.out; omega
    have h62n : (nx != (acc + 1)) = false := by simp; have := hNX.out; omega
    have b9 := E9.out.bx 4 rfl
    have c9_1 := b9.cell 1 rfl
    clear b9
    have b10 := E9.out.bx 4 rfl
    have c10_0 := b10.cell 0 rfl
    clear b10
    have E10 := Lib.hid ((((((((E9.out.bare.note (.bs (.slice xa script.length xk) script) (E9.out.fc 10 rfl)).note (.bs (.slice ya kinds.length yk) kinds) (E9.out.fc 9 rfl)).note (.ms (.slice sd s.dn.length sj) s.dn) (E9.out.fc 8 rfl)).note (.bs (.slice sa s.rq.body.length sk) s.rq.body) (E9.out.fc 7 rfl)).note (.ms (.slice cd 0 cj) []) (E9.out.fc 6 rfl)).note (.bs (.slice ca rq.body.length ck) rq.body) (E9.out.fc 5 rfl)).note (.mc gs2 (TC ++ [a1])) (E9.out.fc 0 rfl)).note (.mc cs1 TS) (E9.out.fc 3 rfl))
    have EZ := Lib.hid (((E10.out.drop).drop).drop)
    go_wp2
    try simp only [← Hhxa.out, ← Hhva.out]
    refine Handed.intro (script.length - (i + 1)) (by have := hgk.out; omega) ?_
    refine hJ _ _ _ ⟨i + 1, ⟨nx, true, rq, [], tr⟩, s, ca, cd, sa, sd, ck, cj, sk, sj, s1, [(g2, 24, gs2)], cs1, gs2, .slice va TS.length vc, .slice (some ⟨g2, 0, none⟩) (TC.length + 1) gc2, TS, (TC ++ [a1]), dn, acc, K, n, dm, EZ, Lib.hid ⟨by omega, rfl, (by have := hni.out; omega), hL1.out, hN2.out, (hI.out.answer hAN.out), hM.out⟩, ?_⟩
    (repeat apply Exists.intro)
    rfl
end Go.Proofs.Ytbcfcdcomboljaa

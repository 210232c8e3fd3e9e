/- SessionOnce: the walk, part A. -/
import Derived.Test.YtbcfcdcomboljaaSesOnD
namespace Go.Proofs.Ytbcfcdcomboljaa
open Go.RowKit Go.Maps
set_option linter.unusedVariables false
set_option maxRecDepth 100000 in
set_option maxHeartbeats 40000000 in
theorem once_A {D : Nat → Prop} {w wr : World} (script kinds : List Nat) {xa ya : Option Addr} {xk yk : Nat} (ad5 ad6 mb : Nat) (gk : Nat) (J : Nat → Act → World → Prop) (K1 : Act → World → Prop) {B : Code} (hB : IsBody B) (hJ : ∀ k a' w', RelI script kinds xa ya xk yk D w ad5 ad6 mb k a' w' → J k a' w') (hK : ∀ a' w', Handed J gk a' w' → K1 a' w') (Q : Exit → Act → World → Prop) (hQ : ∀ (u7 u8 u10 u11 u12 u13 u14 u15 u16 u17 u18 u19 u20 u21 u34 u35 u36 u37 u38 u39 u40 u41 u42 u43 u44 u45 u46 u47 u48 u49 u50 u51 u52 u53 u54 u55 u56 u57 u58 u59 u60 u61 u62 u63 u64 u65 u66 u67 u68 u69 u70 u71 u72 u73 u74 u75 u76 u77 u78 u79 u80 u81 u82 u83 u84 u85 u86 u87 u88 u89 u90 u91 u92 u93 u94 u95 u96 u97 u98 u99 u100 u101 u102 u103 u104 u105 u106 u107 u108 u109 u110 u111 u112 u113 u114 u115 u116 u117 u118 u119 u120 u121 u122 u123 u124 u125 u126 u127 u128 u129 u130 u131 u132 u133 u134 u135 u136 u137 u138 u139 u140 u141 u142 u143 u144 u145 u146 u147 u148 u149 u150 u151 u152 u153 u154 u155 u156 u157 u158 u159 u160 u161 u162 u163 u164 u165 u166 u167 u168 u169 u170 u171 u172 u173 u174 u175 u176 u177 u178 u179 u180 u181 u182 u183 u184 u185 u186 u187 u188 u189 u190 u191 u192 u193 u194 u195 u196 u197 u198 u199 u200 u201 u202 u203 u204 u205 u206 u207 u208 u209 u210 u211 u212 u213 u214 u215 u216 u217 u218 u219 u220 u221 u222 u223 u224 u225 u226 u227 u228 u229 u230 u231 u232 u233 u234 u235 u236 u237 u238 u239 u240 u241 u242 u243 u244 u245 u246 u247 u248 u249 : Value) (w' : World), Below w.heap.size w w' → Q .ret { tmps := #[.slice xa script.length xk, .slice ya kinds.length yk, undef, undef, .bool true, .pointer (some ⟨ad5, 0, none⟩), .pointer (some ⟨ad6, 0, none⟩), u7, u8, .map (some mb), u10, u11, u12, u13, u14, u15, u16, u17, u18, u19, u20, u21, undef, undef, .bool true, .bool false, .slice xa script.length xk, .int .i64 (script.length : Int), .bool false, .agg #[.int .i64 0, .bool false, .int .i64 0, .int .i64 0, .int .i64 0, .int .i64 0, .slice none 0 0, .slice none 0 0, .int .i64 0], .agg #[.int .i64 0, .bool false, .int .i64 0, .int .i64 0, .int .i64 0, .int .i64 0, .slice none 0 0, .slice none 0 0, .int .i64 0], .map (some mb), .slice xa script.length xk, .int .i64 (script.length : Int), u34, u35, u36, u37, u38, u39, u40, u41, u42, u43, u44, u45, u46, u47, u48, u49, u50, u51, u52, u53, u54, u55, u56, u57, u58, u59, u60, u61, u62, u63, u64, u65, u66, u67, u68, u69, u70, u71, u72, u73, u74, u75, u76, u77, u78, u79, u80, u81, u82, u83, u84, u85, u86, u87, u88, u89, u90, u91, u92, u93, u94, u95, u96, u97, u98, u99, u100, u101, u102, u103, u104, u105, u106, u107, u108, u109, u110, u111, u112, u113, u114, u115, u116, u117, u118, u119, u120, u121, u122, u123, u124, u125, u126, u127, u128, u129, u130, u131, u132, u133, u134, u135, u136, u137, u138, u139, u140, u141, u142, u143, u144, u145, u146, u147, u148, u149, u150, u151, u152, u153, u154, u155, u156, u157, u158, u159, u160, u161, u162, u163, u164, u165, u166, u167, u168, u169, u170, u171, u172, u173, u174, u175, u176, u177, u178, u179, u180, u181, u182, u183, u184, u185, u186, u187, u188, u189, u190, u191, u192, u193, u194, u195, u196, u197, u198, u199, u200, u201, u202, u203, u204, u205, u206, u207, u208, u209, u210, u211, u212, u213, u214, u215, u216, u217, u218, u219, u220, u221, u222, u223, u224, u225, u226, u227, u228, u229, u230, u231, u232, u233, u234, u235, u236, u237, u238, u239, u240, u241, u242, u243, u244, u245, u246, u247, u248, u249, undef, undef, undef, undef, undef, undef, undef, undef], defers := [] } w') {u4 u11 u12 u13 u14 u15 u16 u17 u18 u19 u20 u21 u35 u36 u37 u38 u39 u40 u41 u42 u43 u44 u45 u46 u47 u48 u49 u50 u51 u52 u53 u54 u55 u56 u57 u58 u59 u60 u61 u62 u63 u64 u65 u66 u67 u68 u69 u70 u71 u72 u73 u74 u75 u76 u77 u78 u79 u80 u81 u82 u83 u84 u85 u86 u87 u88 u89 u90 u91 u92 u93 u94 u95 u96 u97 u98 u99 u100 u101 u102 u103 u104 u105 u106 u107 u108 u109 u110 u111 u112 u113 u114 u115 u116 u117 u118 u119 u120 u121 u122 u123 u124 u125 u126 u127 u128 u129 u130 u131 u132 u133 u134 u135 u136 u137 u138 u139 u140 u141 u142 u143 u144 u145 u146 u147 u148 u149 u150 u151 u152 u153 u154 u155 u156 u157 u158 u159 u160 u161 u162 u163 u164 u165 u166 u167 u168 u169 u170 u171 u172 u173 u174 u175 u176 u177 u178 u179 u180 u181 u182 u183 u184 u185 u186 u187 u188 u189 u190 u191 u192 u193 u194 u195 u196 u197 u198 u199 u200 u201 u202 u203 u204 u205 u206 u207 u208 u209 u210 u211 u212 u213 u214 u215 u216 u217 u218 u219 u220 u221 u222 u223 u224 u225 u226 u227 u228 u229 u230 u231 u232 u233 u234 u235 u236 u237 u238 u239 u240 u241 u242 u243 u244 u245 u246 u247 u248 u249 : Value} {i : Nat} {c s : Ses} {ca cd sa sd : Option Addr} {ck cj sk sj : Nat} {s1 s2 : List Bx} {cs1 cs2 : List Value} {v1 v2 : Value} {TS TC : List Msg} {dn : Int → Int} {acc : Int} {K : Int → Int} {n : Nat} {dm : MapD} (EL : Hid (EnvM D w ((ad6, 27, [.int .i64 s.nx, .bool s.wt, .int .i64 s.rq.fr, .int .i64 s.rq.to_, .int .i64 s.rq.kd, .int .i64 s.rq.nm, .slice sa s.rq.body.length sk, .slice sd s.dn.length sj, .int .i64 s.tr]) :: (ad5, 27, [.int .i64 c.nx, .bool c.wt, .int .i64 c.rq.fr, .int .i64 c.rq.to_, .int .i64 c.rq.kd, .int .i64 c.rq.nm, .slice ca c.rq.body.length ck, .slice cd c.dn.length cj, .int .i64 c.tr]) :: (s1 ++ s2)) [.mc cs1 TS, .mc cs2 TC, .bs (.slice ca c.rq.body.length ck) c.rq.body, .ms (.slice cd c.dn.length cj) c.dn, .bs (.slice sa s.rq.body.length sk) s.rq.body, .ms (.slice sd s.dn.length sj) s.dn, .bs (.slice ya kinds.length yk) kinds, .bs (.slice xa script.length xk) script] mb n dm wr)) (HA : Hid (i ≤ script.length ∧ gk = script.length - i ∧ n ≤ i ∧ LS s1 cs1 v1 TS ∧ LS s2 cs2 v2 TC ∧ Inv i c s TS TC dn acc K ∧ MapIs dm dn)) (hl : Hid (script.length ≤ 200)) (hi : i < script.length) (hq : script[i] % 4 = 0) :
    Code.wp Try.prog B (Exit.then K1 Q) { tmps := #[.slice xa script.length xk, .slice ya kinds.length yk, undef, undef, u4, .pointer (some ⟨ad5, 0, none⟩), .pointer (some ⟨ad6, 0, none⟩), v1, v2, .map (some mb), .int .i64 acc, u11, u12, u13, u14, u15, u16, u17, u18, u19, u20, u21, undef, undef, .bool true, .bool false, .slice xa script.length xk, .int .i64 (script.length : Int), .bool false, .agg #[.int .i64 0, .bool false, .int .i64 0, .int .i64 0, .int .i64 0, .int .i64 0, .slice none 0 0, .slice none 0 0, .int .i64 0], .agg #[.int .i64 0, .bool false, .int .i64 0, .int .i64 0, .int .i64 0, .int .i64 0, .slice none 0 0, .slice none 0 0, .int .i64 0], .map (some mb), .slice xa script.length xk, .int .i64 (script.length : Int), .int .i64 (i : Int), u35, u36, u37, u38, u39, u40, u41, u42, u43, u44, u45, u46, u47, u48, u49, u50, u51, u52, u53, u54, u55, u56, u57, u58, u59, u60, u61, u62, u63, u64, u65, u66, u67, u68, u69, u70, u71, u72, u73, u74, u75, u76, u77, u78, u79, u80, u81, u82, u83, u84, u85, u86, u87, u88, u89, u90, u91, u92, u93, u94, u95, u96, u97, u98, u99, u100, u101, u102, u103, u104, u105, u106, u107, u108, u109, u110, u111, u112, u113, u114, u115, u116, u117, u118, u119, u120, u121, u122, u123, u124, u125, u126, u127, u128, u129, u130, u131, u132, u133, u134, u135, u136, u137, u138, u139, u140, u141, u142, u143, u144, u145, u146, u147, u148, u149, u150, u151, u152, u153, u154, u155, u156, u157, u158, u159, u160, u161, u162, u163, u164, u165, u166, u167, u168, u169, u170, u171, u172, u173, u174, u175, u176, u177, u178, u179, u180, u181, u182, u183, u184, u185, u186, u187, u188, u189, u190, u191, u192, u193, u194, u195, u196, u197, u198, u199, u200, u201, u202, u203, u204, u205, u206, u207, u208, u209, u210, u211, u212, u213, u214, u215, u216, u217, u218, u219, u220, u221, u222, u223, u224, u225, u226, u227, u228, u229, u230, u231, u232, u233, u234, u235, u236, u237, u238, u239, u240, u241, u242, u243, u244, u245, u246, u247, u248, u249, undef, undef, undef, undef, undef, undef, undef, undef], defers := [] } wr := by
  unfold IsBody at hB
  conv at hB => lhs; whnf
  injection hB with hB
  subst hB
  have hgk := Lib.hid HA.out.2.1; have hin := Lib.hid HA.out.1; have hni := Lib.hid HA.out.2.2.1; have hL1 := Lib.hid HA.out.2.2.2.1; have hL2 := Lib.hid HA.out.2.2.2.2.1; have hI := Lib.hid HA.out.2.2.2.2.2.1; have hM := Lib.hid HA.out.2.2.2.2.2.2; clear HA
  have t1 : decide ((i : Int) < (script.length : Int)) = true := decide_eq_true (by omega)
  have hi2 : i ≤ 200 := by have := hl.out; omega
  obtain ⟨sb, so, hxa, hxc0, hx80⟩ := Bs.byte (EL.out.fc 7 rfl) hi
  obtain ⟨x, hx⟩ : ∃ x, x = script[i] := ⟨_, rfl⟩
  rw [← hx] at hxc0 hx80 hq
  have hx8 := hx80; have hxc := hxc0; clear hx80 hxc0
  have hHX := Lib.hid hx; clear hx
  obtain ⟨nx, wt, rq, cdn, tr⟩ := c
  obtain rfl : cdn = [] := hI.out.c2
  obtain ⟨va, vc, e1⟩ := hL1.out.len; subst e1
  obtain ⟨ua, uc, e2⟩ := hL2.out.len; subst e2
  have hbd := hI.out.bd; have hTS := hI.out.l1; have hTC := hI.out.l2; dsimp only at hbd
  have E1 := Lib.hid EL.out
  clear EL
  have hand := and_u8 x hx8
  rw [hq] at hand
  cases wt
  · skip
    obtain rfl := hI.out.zero
    have E2 := Lib.hid E1.out
    clear E1
    have E3 := Lib.hid ((E2.out.push 24 [.int .i64 0, .int .i64 0, .int .i64 0, .int .i64 0, .slice none 0 0] (wr.heap.size) (by simp)))
    have b1 := E3.out.bx 2 rfl
    have c1_1 := b1.cell 1 rfl
    clear b1
    by_cases hk0 : 0 < kinds.length
    · have hk1 : decide ((0 : Int) < (kinds.length : Int)) = true := decide_eq_true (by omega)
      have hrl : i % kinds.length < kinds.length := Nat.mod_lt _ hk0
      clear hk0
      obtain ⟨kb, ko, hya, hkc0, hk80⟩ := Bs.byte (E3.out.fc 6 rfl) hrl
      obtain ⟨kv, hkv⟩ : ∃ kv, kv = kinds[i % kinds.length] := ⟨_, rfl⟩
      rw [← hkv] at hkc0 hk80
      have hk8 := hk80; clear hkv hk80
      have hKD : 0 ≤ ((kv : Int)) ∧ ((kv : Int)) ≤ 255 := by omega
      have hak : AskL ⟨nx, false, M0, [], tr⟩ ⟨3, 4, (kv : Int), 0, []⟩ ⟨nx + 1, true, ⟨3, 4, (kv : Int), nx, []⟩, [], 1⟩ ⟨3, 4, (kv : Int), nx, []⟩ 0 := ask_l hI.out.c1 rfl (by unfold msgOk par; simp only [Bool.and_eq_true, decide_eq_true_eq, List.length_nil]; omega) (by dsimp only; omega)
      have hAK := Lib.hid hak; clear hak
      have hI2 := Lib.hid (hI.out.ask rfl (by dsimp only; omega) ((kv : Int)) hKD.1 hKD.2)
      have b2 := E3.out.bx 2 rfl
      have c2_0 := b2.cell 0 rfl
      have c2_2 := b2.cell 2 rfl
      have c2_3 := b2.cell 3 rfl
      have c2_4 := b2.cell 4 rfl
      have c2_5 := b2.cell 5 rfl
      have c2_6 := b2.cell 6 rfl
      have c2_7 := b2.cell 7 rfl
      have c2_8 := b2.cell 8 rfl
      clear b2
      go_wp2_with fail
      refine (hAK.out _ _ _ _ _ _ _ _ (E3.out.fc 2 rfl) (E3.out.fc 3 rfl) (Bs.nil _ _)).mono ?_
      rintro e w1 ⟨⟨pa, pk, pb, pj, qa, qk, rfl, hpb, hpm, hqb⟩, hb⟩
      have E4 := Lib.hid (E3.out.got (E3.out.got (E3.out.got (E3.out.below hb) (.bs (.slice pa 0 pk) []) hpb.out) (.ms (.slice pb 0 pj) []) hpm.out) (.bs (.slice qa 0 qk) []) hqb.out)
      clear c1_1 c2_0 c2_2 c2_3 c2_4 c2_5 c2_6 c2_7 c2_8 E2 E3 hb hpb hpm hqb
      (try dsimp only)
      have b3 := E4.out.bx 2 rfl
      have c3_0 := b3.cell 0 rfl
      have c3_1 := b3.cell 1 rfl
      have c3_2 := b3.cell 2 rfl
      have c3_3 := b3.cell 3 rfl
      have c3_4 := b3.cell 4 rfl
      have c3_5 := b3.cell 5 rfl
      have c3_6 := b3.cell 6 rfl
      have c3_7 := b3.cell 7 rfl
      have c3_8 := b3.cell 8 rfl
      have f3_0 := b3.frozen 0
      have f3_1 := b3.frozen 1
      have f3_2 := b3.frozen 2
      have f3_3 := b3.frozen 3
      have f3_4 := b3.frozen 4
      have f3_5 := b3.frozen 5
      have f3_6 := b3.frozen 6
      have f3_7 := b3.frozen 7
      have f3_8 := b3.frozen 8
      clear b3
      have E5 : Hid (EnvM D w ((wr.heap.size, 24, [.int .i64 0, .int .i64 0, .int .i64 0, .int .i64 0, .slice none 0 0]) :: (ad6, 27, [.int .i64 s.nx, .bool s.wt, .int .i64 s.rq.fr, .int .i64 s.rq.to_, .int .i64 s.rq.kd, .int .i64 s.rq.nm, .slice sa s.rq.body.length sk, .slice sd s.dn.length sj, .int .i64 s.tr]) :: (ad5, 27, [.int .i64 (nx + 1), .bool true, .int .i64 3, .int .i64 4, .int .i64 (kv : Int), .int .i64 nx, .slice pa 0 pk, .slice pb 0 pj, .int .i64 1]) :: (s1 ++ s2)) [.bs (.slice qa 0 qk) [], .ms (.slice pb 0 pj) [], .bs (.slice pa 0 pk) [], .mc cs1 TS, .mc cs2 TC, .bs (.slice ca 0 ck) [], .ms (.slice cd 0 cj) [], .bs (.slice sa s.rq.body.length sk) s.rq.body, .ms (.slice sd s.dn.length sj) s.dn, .bs (.slice ya kinds.length yk) kinds, .bs (.slice xa script.length xk) script] mb n dm _) := Lib.hid ((((((((((E4.out.set 2 0 (.int .i64 (nx + 1)) rfl).set 2 1 (.bool true) rfl).set 2 2 (.int .i64 3) rfl).set 2 3 (.int .i64 4) rfl).set 2 4 (.int .i64 (kv : Int)) rfl).set 2 5 (.int .i64 nx) rfl).set 2 6 (.slice pa 0 pk) rfl).set 2 7 (.slice pb 0 pj) rfl).set 2 8 (.int .i64 1) rfl))
      have b4 := E5.out.bx 0 rfl
      have c4_0 := b4.cell 0 rfl
      have c4_1 := b4.cell 1 rfl
      have c4_2 := b4.cell 2 rfl
      have c4_3 := b4.cell 3 rfl
      have c4_4 := b4.cell 4 rfl
      have f4_0 := b4.frozen 0
      have f4_1 := b4.frozen 1
      have f4_2 := b4.frozen 2
      have f4_3 := b4.frozen 3
      have f4_4 := b4.frozen 4
      clear b4
      have Hhxa := Lib.hid hxa; clear hxa
      have Hhya := Lib.hid hya; clear hya
      have E6 : Hid (EnvM D w ((w1.heap.size, 24, [.int .i64 3, .int .i64 4, .int .i64 (kv : Int), .int .i64 nx, .slice qa 0 qk]) :: (wr.heap.size, 24, [.int .i64 3, .int .i64 4, .int .i64 (kv : Int), .int .i64 nx, .slice qa 0 qk]) :: (ad6, 27, [.int .i64 s.nx, .bool s.wt, .int .i64 s.rq.fr, .int .i64 s.rq.to_, .int .i64 s.rq.kd, .int .i64 s.rq.nm, .slice sa s.rq.body.length sk, .slice sd s.dn.length sj, .int .i64 s.tr]) :: (ad5, 27, [.int .i64 (nx + 1), .bool true, .int .i64 3, .int .i64 4, .int .i64 (kv : Int), .int .i64 nx, .slice pa 0 pk, .slice pb 0 pj, .int .i64 1]) :: (s1 ++ s2)) [.bs (.slice qa 0 qk) [], .ms (.slice pb 0 pj) [], .bs (.slice pa 0 pk) [], .mc cs1 TS, .mc cs2 TC, .bs (.slice ca 0 ck) [], .ms (.slice cd 0 cj) [], .bs (.slice sa s.rq.body.length sk) s.rq.body, .ms (.slice sd s.dn.length sj) s.dn, .bs (.slice ya kinds.length yk) kinds, .bs (.slice xa script.length xk) script] mb n dm _) := Lib.hid (((((((E5.out.set 0 0 (.int .i64 3) rfl).set 0 1 (.int .i64 4) rfl).set 0 2 (.int .i64 (kv : Int)) rfl).set 0 3 (.int .i64 nx) rfl).set 0 4 (.slice qa 0 qk) rfl).push 24 [.int .i64 3, .int .i64 4, .int .i64 (kv : Int), .int .i64 nx, .slice qa 0 qk] (w1.heap.size) (by simp)))
      go_wp2_with (at_builtin; refine wpList_appL (A := [(w1.heap.size, 24, [.int .i64 3, .int .i64 4, .int .i64 (kv : Int), .int .i64 nx, .slice qa 0 qk]), (wr.heap.size, 24, [.int .i64 3, .int .i64 4, .int .i64 (kv : Int), .int .i64 nx, .slice qa 0 qk]), (ad6, 27, [.int .i64 s.nx, .bool s.wt, .int .i64 s.rq.fr, .int .i64 s.rq.to_, .int .i64 s.rq.kd, .int .i64 s.rq.nm, .slice sa s.rq.body.length sk, .slice sd s.dn.length sj, .int .i64 s.tr]), (ad5, 27, [.int .i64 (nx + 1), .bool true, .int .i64 3, .int .i64 4, .int .i64 (kv : Int), .int .i64 nx, .slice pa 0 pk, .slice pb 0 pj, .int .i64 1])]) (B' := s2) rfl _ _ rfl E6.out rfl hL1.out (E6.out.fc 3 rfl) rfl (M := ⟨3, 4, (kv : Int), nx, []⟩) (ad := some ⟨w1.heap.size, 0, none⟩) (c := 1) (news := [.int .i64 3, .int .i64 4, .int .i64 (kv : Int), .int .i64 nx, .slice qa 0 qk]) rfl ((E6.out.bx 0 rfl).src 0 1 rfl (by intro j u hj; simpa using hj) (by intro u hu; simp at hu; rcases hu with rfl | rfl | rfl | rfl | rfl <;> rfl)) (mc_one' (M := ⟨3, 4, (kv : Int), nx, []⟩) (E6.out.fc 0 rfl)) (by omega) ?_)
      intro g1 gc1 gs1 w2 hN1 E70
      have E7 : Hid (EnvM D w ((w1.heap.size, 24, [.int .i64 3, .int .i64 4, .int .i64 (kv : Int), .int .i64 nx, .slice qa 0 qk]) :: (wr.heap.size, 24, [.int .i64 3, .int .i64 4, .int .i64 (kv : Int), .int .i64 nx, .slice qa 0 qk]) :: (ad6, 27, [.int .i64 s.nx, .bool s.wt, .int .i64 s.rq.fr, .int .i64 s.rq.to_, .int .i64 s.rq.kd, .int .i64 s.rq.nm, .slice sa s.rq.body.length sk, .slice sd s.dn.length sj, .int .i64 s.tr]) :: (ad5, 27, [.int .i64 (nx + 1), .bool true, .int .i64 3, .int .i64 4, .int .i64 (kv : Int), .int .i64 nx, .slice pa 0 pk, .slice pb 0 pj, .int .i64 1]) :: ([(g1, 24, gs1)] ++ s2)) [.mc gs1 (TS ++ [⟨3, 4, (kv : Int), nx, []⟩]), .bs (.slice qa 0 qk) [], .ms (.slice pb 0 pj) [], .bs (.slice pa 0 pk) [], .mc cs1 TS, .mc cs2 TC, .bs (.slice ca 0 ck) [], .ms (.slice cd 0 cj) [], .bs (.slice sa s.rq.body.length sk) s.rq.body, .ms (.slice sd s.dn.length sj) s.dn, .bs (.slice ya kinds.length yk) kinds, .bs (.slice xa script.length xk) script] mb n dm w2) := E70
      clear c3_0 c3_1 c3_2 c3_3 c3_4 c3_5 c3_6 c3_7 c3_8 f3_0 f3_1 f3_2 f3_3 f3_4 f3_5 f3_6 f3_7 f3_8 c4_0 c4_1 c4_2 c4_3 c4_4 f4_0 f4_1 f4_2 f4_3 f4_4 E4 E5 E6 E70
      have hnx1 : nx = acc := hI.out.c4 rfl; have hNX := Lib.hid hnx1; clear hnx1
      have h62 : ((nx + 1) == (acc + 1)) = true := by simp; have := hNX.out; omega
      have h62d : decide ((nx + 1) = (acc + 1)) = true := by simp; have := hNX.out; omega
      have h62n : ((nx + 1) != (acc + 1)) = false := by simp; have := hNX.out; omega
      have b5 := E7.out.bx 3 rfl
      have c5_1 := b5.cell 1 rfl
      clear b5
      have b6 := E7.out.bx 3 rfl
      have c6_0 := b6.cell 0 rfl
      clear b6
      have E8 := Lib.hid ((((((((E7.out.bare.note (.bs (.slice xa script.length xk) script) (E7.out.fc 11 rfl)).note (.bs (.slice ya kinds.length yk) kinds) (E7.out.fc 10 rfl)).note (.ms (.slice sd s.dn.length sj) s.dn) (E7.out.fc 9 rfl)).note (.bs (.slice sa s.rq.body.length sk) s.rq.body) (E7.out.fc 8 rfl)).note (.ms (.slice pb 0 pj) []) (E7.out.fc 2 rfl)).note (.bs (.slice pa 0 pk) []) (E7.out.fc 3 rfl)).note (.mc cs2 TC) (E7.out.fc 5 rfl)).note (.mc gs1 (TS ++ [⟨3, 4, (kv : Int), nx, []⟩])) (E7.out.fc 0 rfl))
      have EZ := Lib.hid ((E8.out.drop).drop)
      go_wp2
      try simp only [← Hhxa.out, ← Hhya.out]
      refine Handed.intro (script.length - (i + 1)) (by have := hgk.out; omega) ?_
      refine hJ _ _ _ ⟨i + 1, ⟨nx + 1, true, ⟨3, 4, (kv : Int), nx, []⟩, [], 1⟩, s, pa, pb, sa, sd, pk, pj, sk, sj, [(g1, 24, gs1)], s2, gs1, cs2, .slice (some ⟨g1, 0, none⟩) (TS.length + 1) gc1, .slice ua TC.length uc, (TS ++ [⟨3, 4, (kv : Int), nx, []⟩]), TC, dn, acc, _, n, dm, EZ, Lib.hid ⟨by omega, rfl, (by have := hni.out; omega), hN1.out, hL2.out, hI2.out, hM.out⟩, ?_⟩
      (repeat apply Exists.intro)
      rfl
    · have hk1 : decide ((0 : Int) < (kinds.length : Int)) = false := decide_eq_false (by omega)
      have hk2 : decide (0 < kinds.length) = false := decide_eq_false hk0; have hk3 : ¬ (0 : Int) < (kinds.length : Int) := by omega
      have hKD : 0 ≤ ((0 : Int)) ∧ ((0 : Int)) ≤ 255 := by omega
      have hak : AskL ⟨nx, false, M0, [], tr⟩ ⟨3, 4, (0 : Int), 0, []⟩ ⟨nx + 1, true, ⟨3, 4, (0 : Int), nx, []⟩, [], 1⟩ ⟨3, 4, (0 : Int), nx, []⟩ 0 := ask_l hI.out.c1 rfl (by unfold msgOk par; simp only [Bool.and_eq_true, decide_eq_true_eq, List.length_nil]; omega) (by dsimp only; omega)
      have hAK := Lib.hid hak; clear hak
      have hI2 := Lib.hid (hI.out.ask rfl (by dsimp only; omega) ((0 : Int)) hKD.1 hKD.2)
      have b2 := E3.out.bx 2 rfl
      have c2_0 := b2.cell 0 rfl
      have c2_2 := b2.cell 2 rfl
      have c2_3 := b2.cell 3 rfl
      have c2_4 := b2.cell 4 rfl
      have c2_5 := b2.cell 5 rfl
      have c2_6 := b2.cell 6 rfl
      have c2_7 := b2.cell 7 rfl
      have c2_8 := b2.cell 8 rfl
      clear b2
      go_wp2_with fail
      refine (hAK.out _ _ _ _ _ _ _ _ (E3.out.fc 2 rfl) (E3.out.fc 3 rfl) (Bs.nil _ _)).mono ?_
      rintro e w1 ⟨⟨pa, pk, pb, pj, qa, qk, rfl, hpb, hpm, hqb⟩, hb⟩
      have E4 := Lib.hid (E3.out.got (E3.out.got (E3.out.got (E3.out.below hb) (.bs (.slice pa 0 pk) []) hpb.out) (.ms (.slice pb 0 pj) []) hpm.out) (.bs (.slice qa 0 qk) []) hqb.out)
      clear c1_1 c2_0 c2_2 c2_3 c2_4 c2_5 c2_6 c2_7 c2_8 E2 E3 hb hpb hpm hqb
      (try dsimp only)
      have b3 := E4.out.bx 2 rfl
      have c3_0 := b3.cell 0 rfl
      have c3_1 := b3.cell 1 rfl
      have c3_2 := b3.cell 2 rfl
      have c3_3 := b3.cell 3 rfl
      have c3_4 := b3.cell 4 rfl
      have c3_5 := b3.cell 5 rfl
      have c3_6 := b3.cell 6 rfl
      have c3_7 := b3.cell 7 rfl
      have c3_8 := b3.cell 8 rfl
      have f3_0 := b3.frozen 0
      have f3_1 := b3.frozen 1
      have f3_2 := b3.frozen 2
      have f3_3 := b3.frozen 3
      have f3_4 := b3.frozen 4
      have f3_5 := b3.frozen 5
      have f3_6 := b3.frozen 6
      have f3_7 := b3.frozen 7
      have f3_8 := b3.frozen 8
      clear b3
      have E5 : Hid (EnvM D w ((wr.heap.size, 24, [.int .i64 0, .int .i64 0, .int .i64 0, .int .i64 0, .slice none 0 0]) :: (ad6, 27, [.int .i64 s.nx, .bool s.wt, .int .i64 s.rq.fr, .int .i64 s.rq.to_, .int .i64 s.rq.kd, .int .i64 s.rq.nm, .slice sa s.rq.body.length sk, .slice sd s.dn.length sj, .int .i64 s.tr]) :: (ad5, 27, [.int .i64 (nx + 1), .bool true, .int .i64 3, .int .i64 4, .int .i64 (0 : Int), .int .i64 nx, .slice pa 0 pk, .slice pb 0 pj, .int .i64 1]) :: (s1 ++ s2)) [.bs (.slice qa 0 qk) [], .ms (.slice pb 0 pj) [], .bs (.slice pa 0 pk) [], .mc cs1 TS, .mc cs2 TC, .bs (.slice ca 0 ck) [], .ms (.slice cd 0 cj) [], .bs (.slice sa s.rq.body.length sk) s.rq.body, .ms (.slice sd s.dn.length sj) s.dn, .bs (.slice ya kinds.length yk) kinds, .bs (.slice xa script.length xk) script] mb n dm _) := Lib.hid ((((((((((E4.out.set 2 0 (.int .i64 (nx + 1)) rfl).set 2 1 (.bool true) rfl).set 2 2 (.int .i64 3) rfl).set 2 3 (.int .i64 4) rfl).set 2 4 (.int .i64 (0 : Int)) rfl).set 2 5 (.int .i64 nx) rfl).set 2 6 (.slice pa 0 pk) rfl).set 2 7 (.slice pb 0 pj) rfl).set 2 8 (.int .i64 1) rfl))
      have b4 := E5.out.bx 0 rfl
      have c4_0 := b4.cell 0 rfl
      have c4_1 := b4.cell 1 rfl
      have c4_2 := b4.cell 2 rfl
      have c4_3 := b4.cell 3 rfl
      have c4_4 := b4.cell 4 rfl
      have f4_0 := b4.frozen 0
      have f4_1 := b4.frozen 1
      have f4_2 := b4.frozen 2
      have f4_3 := b4.frozen 3
      have f4_4 := b4.frozen 4
      clear b4
      have Hhxa := Lib.hid hxa; clear hxa
      have E6 : Hid (EnvM D w ((w1.heap.size, 24, [.int .i64 3, .int .i64 4, .int .i64 (0 : Int), .int .i64 nx, .slice qa 0 qk]) :: (wr.heap.size, 24, [.int .i64 3, .int .i64 4, .int .i64 (0 : Int), .int .i64 nx, .slice qa 0 qk]) :: (ad6, 27, [.int .i64 s.nx, .bool s.wt, .int .i64 s.rq.fr, .int .i64 s.rq.to_, .int .i64 s.rq.kd, .int .i64 s.rq.nm, .slice sa s.rq.body.length sk, .slice sd s.dn.length sj, .int .i64 s.tr]) :: (ad5, 27, [.int .i64 (nx + 1), .bool true, .int .i64 3, .int .i64 4, .int .i64 (0 : Int), .int .i64 nx, .slice pa 0 pk, .slice pb 0 pj, .int .i64 1]) :: (s1 ++ s2)) [.bs (.slice qa 0 qk) [], .ms (.slice pb 0 pj) [], .bs (.slice pa 0 pk) [], .mc cs1 TS, .mc cs2 TC, .bs (.slice ca 0 ck) [], .ms (.slice cd 0 cj) [], .bs (.slice sa s.rq.body.length sk) s.rq.body, .ms (.slice sd s.dn.length sj) s.dn, .bs (.slice ya kinds.length yk) kinds, .bs (.slice xa script.length xk) script] mb n dm _) := Lib.hid (((((((E5.out.set 0 0 (.int .i64 3) rfl).set 0 1 (.int .i64 4) rfl).set 0 2 (.int .i64 (0 : Int)) rfl).set 0 3 (.int .i64 nx) rfl).set 0 4 (.slice qa 0 qk) rfl).push 24 [.int .i64 3, .int .i64 4, .int .i64 (0 : Int), .int .i64 nx, .slice qa 0 qk] (w1.heap.size) (by simp)))
      go_wp2_with (at_builtin; refine wpList_appL (A := [(w1.heap.size, 24, [.int .i64 3, .int .i64 4, .int .i64 (0 : Int), .int .i64 nx, .slice qa 0 qk]), (wr.heap.size, 24, [.int .i64 3, .int .i64 4, .int .i64 (0 : Int), .int .i64 nx, .slice qa 0 qk]), (ad6, 27, [.int .i64 s.nx, .bool s.wt, .int .i64 s.rq.fr, .int .i64 s.rq.to_, .int .i64 s.rq.kd, .int .i64 s.rq.nm, .slice sa s.rq.body.length sk, .slice sd s.dn.length sj, .int .i64 s.tr]), (ad5, 27, [.int .i64 (nx + 1), .bool true, .int .i64 3, .int .i64 4, .int .i64 (0 : Int), .int .i64 nx, .slice pa 0 pk, .slice pb 0 pj, .int .i64 1])]) (B' := s2) rfl _ _ rfl E6.out rfl hL1.out (E6.out.fc 3 rfl) rfl (M := ⟨3, 4, (0 : Int), nx, []⟩) (ad := some ⟨w1.heap.size, 0, none⟩) (c := 1) (news := [.int .i64 3, .int .i64 4, .int .i64 (0 : Int), .int .i64 nx, .slice qa 0 qk]) rfl ((E6.out.bx 0 rfl).src 0 1 rfl (by intro j u hj; simpa using hj) (by intro u hu; simp at hu; rcases hu with rfl | rfl | rfl | rfl | rfl <;> rfl)) (mc_one' (M := ⟨3, 4, (0 : Int), nx, []⟩) (E6.out.fc 0 rfl)) (by omega) ?_)
      intro g1 gc1 gs1 w2 hN1 E70
      have E7 : Hid (EnvM D w ((w1.heap.size, 24, [.int .i64 3, .int .i64 4, .int .i64 (0 : Int), .int .i64 nx, .slice qa 0 qk]) :: (wr.heap.size, 24, [.int .i64 3, .int .i64 4, .int .i64 (0 : Int), .int .i64 nx, .slice qa 0 qk]) :: (ad6, 27, [.int .i64 s.nx, .bool s.wt, .int .i64 s.rq.fr, .int .i64 s.rq.to_, .int .i64 s.rq.kd, .int .i64 s.rq.nm, .slice sa s.rq.body.length sk, .slice sd s.dn.length sj, .int .i64 s.tr]) :: (ad5, 27, [.int .i64 (nx + 1), .bool true, .int .i64 3, .int .i64 4, .int .i64 (0 : Int), .int .i64 nx, .slice pa 0 pk, .slice pb 0 pj, .int .i64 1]) :: ([(g1, 24, gs1)] ++ s2)) [.mc gs1 (TS ++ [⟨3, 4, (0 : Int), nx, []⟩]), .bs (.slice qa 0 qk) [], .ms (.slice pb 0 pj) [], .bs (.slice pa 0 pk) [], .mc cs1 TS, .mc cs2 TC, .bs (.slice ca 0 ck) [], .ms (.slice cd 0 cj) [], .bs (.slice sa s.rq.body.length sk) s.rq.body, .ms (.slice sd s.dn.length sj) s.dn, .bs (.slice ya kinds.length yk) kinds, .bs (.slice xa script.length xk) script] mb n dm w2) := E70
      clear c3_0 c3_1 c3_2 c3_3 c3_4 c3_5 c3_6 c3_7 c3_8 f3_0 f3_1 f3_2 f3_3 f3_4 f3_5 f3_6 f3_7 f3_8 c4_0 c4_1 c4_2 c4_3 c4_4 f4_0 f4_1 f4_2 f4_3 f4_4 E4 E5 E6 E70
      have hnx1 : nx = acc := hI.out.c4 rfl; have hNX := Lib.hid hnx1; clear hnx1
      have h62 : ((nx + 1) == (acc + 1)) = true := by simp; have := hNX.out; omega
      have h62d : decide ((nx + 1) = (acc + 1)) = true := by simp; have := hNX.out; omega
      have h62n : ((nx + 1) != (acc + 1)) = false := by simp; have := hNX.out; omega
      have b5 := E7.out.bx 3 rfl
      have c5_1 := b5.cell 1 rfl
      clear b5
      have b6 := E7.out.bx 3 rfl
      have c6_0 := b6.cell 0 rfl
      clear b6
      have E8 := Lib.hid ((((((((E7.out.bare.note (.bs (.slice xa script.length xk) script) (E7.out.fc 11 rfl)).note (.bs (.slice ya kinds.length yk) kinds) (E7.out.fc 10 rfl)).note (.ms (.slice sd s.dn.length sj) s.dn) (E7.out.fc 9 rfl)).note (.bs (.slice sa s.rq.body.length sk) s.rq.body) (E7.out.fc 8 rfl)).note (.ms (.slice pb 0 pj) []) (E7.out.fc 2 rfl)).note (.bs (.slice pa 0 pk) []) (E7.out.fc 3 rfl)).note (.mc cs2 TC) (E7.out.fc 5 rfl)).note (.mc gs1 (TS ++ [⟨3, 4, (0 : Int), nx, []⟩])) (E7.out.fc 0 rfl))
      have EZ := Lib.hid ((E8.out.drop).drop)
      go_wp2
      try simp only [← Hhxa.out]
      refine Handed.intro (script.length - (i + 1)) (by have := hgk.out; omega) ?_
      refine hJ _ _ _ ⟨i + 1, ⟨nx + 1, true, ⟨3, 4, (0 : Int), nx, []⟩, [], 1⟩, s, pa, pb, sa, sd, pk, pj, sk, sj, [(g1, 24, gs1)], s2, gs1, cs2, .slice (some ⟨g1, 0, none⟩) (TS.length + 1) gc1, .slice ua TC.length uc, (TS ++ [⟨3, 4, (0 : Int), nx, []⟩]), TC, dn, acc, _, n, dm, EZ, Lib.hid ⟨by omega, rfl, (by have := hni.out; omega), hN1.out, hL2.out, hI2.out, hM.out⟩, ?_⟩
      (repeat apply Exists.intro)
      rfl
  · skip
    have hrq := (hI.out.c3 rfl).1; dsimp only at hrq
    obtain ⟨rkd, rnm, rfl⟩ := hrq.is
    have hRQ := Lib.hid hrq; clear hrq
    have E2 := Lib.hid E1.out
    clear E1
    have E3 := Lib.hid ((E2.out.push 24 [.int .i64 0, .int .i64 0, .int .i64 0, .int .i64 0, .slice none 0 0] (wr.heap.size) (by simp)))
    have b1 := E3.out.bx 2 rfl
    have c1_1 := b1.cell 1 rfl
    clear b1
    by_cases ht : tr = 100
    · have hag := Lib.hid (again_5 hI.out.c1 rfl ht)
      clear ht
      have b2 := E3.out.bx 2 rfl
      have c2_0 := b2.cell 0 rfl
      have c2_2 := b2.cell 2 rfl
      have c2_3 := b2.cell 3 rfl
      have c2_4 := b2.cell 4 rfl
      have c2_5 := b2.cell 5 rfl
      have c2_6 := b2.cell 6 rfl
      have c2_7 := b2.cell 7 rfl
      have c2_8 := b2.cell 8 rfl
      clear b2
      go_wp2_with fail
      refine (hag.out _ _ _ _ _ _ (E3.out.fc 2 rfl) (E3.out.fc 3 rfl)).mono ?_
      rintro e w1 ⟨⟨pa, pk, pb, pj, qa, qk, rfl, hpb, hpm, hqb⟩, hb⟩
      have E4 := Lib.hid (E3.out.got (E3.out.got (E3.out.got (E3.out.below hb) (.bs (.slice pa 0 pk) []) hpb.out) (.ms (.slice pb 0 pj) []) hpm.out) (.bs (.slice qa 0 qk) []) hqb.out)
      clear c1_1 c2_0 c2_2 c2_3 c2_4 c2_5 c2_6 c2_7 c2_8 E2 E3 hb hpb hpm hqb
      (try dsimp only)
      have b3 := E4.out.bx 2 rfl
      have c3_0 := b3.cell 0 rfl
      have c3_1 := b3.cell 1 rfl
      have c3_2 := b3.cell 2 rfl
      have c3_3 := b3.cell 3 rfl
      have c3_4 := b3.cell 4 rfl
      have c3_5 := b3.cell 5 rfl
      have c3_6 := b3.cell 6 rfl
      have c3_7 := b3.cell 7 rfl
      have c3_8 := b3.cell 8 rfl
      have f3_0 := b3.frozen 0
      have f3_1 := b3.frozen 1
      have f3_2 := b3.frozen 2
      have f3_3 := b3.frozen 3
      have f3_4 := b3.frozen 4
      have f3_5 := b3.frozen 5
      have f3_6 := b3.frozen 6
      have f3_7 := b3.frozen 7
      have f3_8 := b3.frozen 8
      clear b3
      have E5 : Hid (EnvM D w ((wr.heap.size, 24, [.int .i64 0, .int .i64 0, .int .i64 0, .int .i64 0, .slice none 0 0]) :: (ad6, 27, [.int .i64 s.nx, .bool s.wt, .int .i64 s.rq.fr, .int .i64 s.rq.to_, .int .i64 s.rq.kd, .int .i64 s.rq.nm, .slice sa s.rq.body.length sk, .slice sd s.dn.length sj, .int .i64 s.tr]) :: (ad5, 27, [.int .i64 0, .bool false, .int .i64 0, .int .i64 0, .int .i64 0, .int .i64 0, .slice pa 0 pk, .slice pb 0 pj, .int .i64 0]) :: (s1 ++ s2)) [.bs (.slice qa 0 qk) [], .ms (.slice pb 0 pj) [], .bs (.slice pa 0 pk) [], .mc cs1 TS, .mc cs2 TC, .bs (.slice ca 0 ck) [], .ms (.slice cd 0 cj) [], .bs (.slice sa s.rq.body.length sk) s.rq.body, .ms (.slice sd s.dn.length sj) s.dn, .bs (.slice ya kinds.length yk) kinds, .bs (.slice xa script.length xk) script] mb n dm _) := Lib.hid ((((((((((E4.out.set 2 0 (.int .i64 0) rfl).set 2 1 (.bool false) rfl).set 2 2 (.int .i64 0) rfl).set 2 3 (.int .i64 0) rfl).set 2 4 (.int .i64 0) rfl).set 2 5 (.int .i64 0) rfl).set 2 6 (.slice pa 0 pk) rfl).set 2 7 (.slice pb 0 pj) rfl).set 2 8 (.int .i64 0) rfl))
      have b4 := E5.out.bx 0 rfl
      have c4_0 := b4.cell 0 rfl
      have c4_1 := b4.cell 1 rfl
      have c4_2 := b4.cell 2 rfl
      have c4_3 := b4.cell 3 rfl
      have c4_4 := b4.cell 4 rfl
      have f4_0 := b4.frozen 0
      have f4_1 := b4.frozen 1
      have f4_2 := b4.frozen 2
      have f4_3 := b4.frozen 3
      have f4_4 := b4.frozen 4
      clear b4
      have Hhxa := Lib.hid hxa; clear hxa
      have E6 : Hid (EnvM D w ((wr.heap.size, 24, [.int .i64 0, .int .i64 0, .int .i64 0, .int .i64 0, .slice qa 0 qk]) :: (ad6, 27, [.int .i64 s.nx, .bool s.wt, .int .i64 s.rq.fr, .int .i64 s.rq.to_, .int .i64 s.rq.kd, .int .i64 s.rq.nm, .slice sa s.rq.body.length sk, .slice sd s.dn.length sj, .int .i64 s.tr]) :: (ad5, 27, [.int .i64 0, .bool false, .int .i64 0, .int .i64 0, .int .i64 0, .int .i64 0, .slice pa 0 pk, .slice pb 0 pj, .int .i64 0]) :: (s1 ++ s2)) [.bs (.slice qa 0 qk) [], .ms (.slice pb 0 pj) [], .bs (.slice pa 0 pk) [], .mc cs1 TS, .mc cs2 TC, .bs (.slice ca 0 ck) [], .ms (.slice cd 0 cj) [], .bs (.slice sa s.rq.body.length sk) s.rq.body, .ms (.slice sd s.dn.length sj) s.dn, .bs (.slice ya kinds.length yk) kinds, .bs (.slice xa script.length xk) script] mb n dm _) := Lib.hid ((((((E5.out.set 0 0 (.int .i64 0) rfl).set 0 1 (.int .i64 0) rfl).set 0 2 (.int .i64 0) rfl).set 0 3 (.int .i64 0) rfl).set 0 4 (.slice qa 0 qk) rfl))
      have b5 := E6.out.bx 2 rfl
      have c5_0 := b5.cell 0 rfl
      clear b5
      have hfin := Lib.hid E6.out.bel
      go_wp2
      try simp only [← Hhxa.out]
      apply hQ
      exact hfin.out
    · have hag := Lib.hid (again_l hI.out.c1 rfl ht)
      have hI2 := Lib.hid (hI.out.again rfl ht)
      clear ht
      have b2 := E3.out.bx 2 rfl
      have c2_0 := b2.cell 0 rfl
      have c2_2 := b2.cell 2 rfl
      have c2_3 := b2.cell 3 rfl
      have c2_4 := b2.cell 4 rfl
      have c2_5 := b2.cell 5 rfl
      have c2_6 := b2.cell 6 rfl
      have c2_7 := b2.cell 7 rfl
      have c2_8 := b2.cell 8 rfl
      clear b2
      go_wp2_with fail
      refine (hag.out _ _ _ _ _ _ (E3.out.fc 2 rfl) (E3.out.fc 3 rfl)).mono ?_
      rintro e w1 ⟨⟨pa, pk, pb, pj, qa, qk, rfl, hpb, hpm, hqb⟩, hb⟩
      have E4 := Lib.hid (E3.out.got (E3.out.got (E3.out.got (E3.out.below hb) (.bs (.slice pa 0 pk) []) hpb.out) (.ms (.slice pb 0 pj) []) hpm.out) (.bs (.slice qa 0 qk) []) hqb.out)
      clear c1_1 c2_0 c2_2 c2_3 c2_4 c2_5 c2_6 c2_7 c2_8 E2 E3 hb hpb hpm hqb
      (try dsimp only)
      have b3 := E4.out.bx 2 rfl
      have c3_0 := b3.cell 0 rfl
      have c3_1 := b3.cell 1 rfl
      have c3_2 := b3.cell 2 rfl
      have c3_3 := b3.cell 3 rfl
      have c3_4 := b3.cell 4 rfl
      have c3_5 := b3.cell 5 rfl
      have c3_6 := b3.cell 6 rfl
      have c3_7 := b3.cell 7 rfl
      have c3_8 := b3.cell 8 rfl
      have f3_0 := b3.frozen 0
      have f3_1 := b3.frozen 1
      have f3_2 := b3.frozen 2
      have f3_3 := b3.frozen 3
      have f3_4 := b3.frozen 4
      have f3_5 := b3.frozen 5
      have f3_6 := b3.frozen 6
      have f3_7 := b3.frozen 7
      have f3_8 := b3.frozen 8
      clear b3
      have E5 : Hid (EnvM D w ((wr.heap.size, 24, [.int .i64 0, .int .i64 0, .int .i64 0, .int .i64 0, .slice none 0 0]) :: (ad6, 27, [.int .i64 s.nx, .bool s.wt, .int .i64 s.rq.fr, .int .i64 s.rq.to_, .int .i64 s.rq.kd, .int .i64 s.rq.nm, .slice sa s.rq.body.length sk, .slice sd s.dn.length sj, .int .i64 s.tr]) :: (ad5, 27, [.int .i64 nx, .bool true, .int .i64 3, .int .i64 4, .int .i64 rkd, .int .i64 rnm, .slice pa 0 pk, .slice pb 0 pj, .int .i64 (tr + 1)]) :: (s1 ++ s2)) [.bs (.slice qa 0 qk) [], .ms (.slice pb 0 pj) [], .bs (.slice pa 0 pk) [], .mc cs1 TS, .mc cs2 TC, .bs (.slice ca 0 ck) [], .ms (.slice cd 0 cj) [], .bs (.slice sa s.rq.body.length sk) s.rq.body, .ms (.slice sd s.dn.length sj) s.dn, .bs (.slice ya kinds.length yk) kinds, .bs (.slice xa script.length xk) script] mb n dm _) := Lib.hid ((((((((((E4.out.set 2 0 (.int .i64 nx) rfl).set 2 1 (.bool true) rfl).set 2 2 (.int .i64 3) rfl).set 2 3 (.int .i64 4) rfl).set 2 4 (.int .i64 rkd) rfl).set 2 5 (.int .i64 rnm) rfl).set 2 6 (.slice pa 0 pk) rfl).set 2 7 (.slice pb 0 pj) rfl).set 2 8 (.int .i64 (tr + 1)) rfl))
      have b4 := E5.out.bx 0 rfl
      have c4_0 := b4.cell 0 rfl
      have c4_1 := b4.cell 1 rfl
      have c4_2 := b4.cell 2 rfl
      have c4_3 := b4.cell 3 rfl
      have c4_4 := b4.cell 4 rfl
      have f4_0 := b4.frozen 0
      have f4_1 := b4.frozen 1
      have f4_2 := b4.frozen 2
      have f4_3 := b4.frozen 3
      have f4_4 := b4.frozen 4
      clear b4
      have Hhxa := Lib.hid hxa; clear hxa
      have E6 : Hid (EnvM D w ((w1.heap.size, 24, [.int .i64 3, .int .i64 4, .int .i64 rkd, .int .i64 rnm, .slice qa 0 qk]) :: (wr.heap.size, 24, [.int .i64 3, .int .i64 4, .int .i64 rkd, .int .i64 rnm, .slice qa 0 qk]) :: (ad6, 27, [.int .i64 s.nx, .bool s.wt, .int .i64 s.rq.fr, .int .i64 s.rq.to_, .int .i64 s.rq.kd, .int .i64 s.rq.nm, .slice sa s.rq.body.length sk, .slice sd s.dn.length sj, .int .i64 s.tr]) :: (ad5, 27, [.int .i64 nx, .bool true, .int .i64 3, .int .i64 4, .int .i64 rkd, .int .i64 rnm, .slice pa 0 pk, .slice pb 0 pj, .int .i64 (tr + 1)]) :: (s1 ++ s2)) [.bs (.slice qa 0 qk) [], .ms (.slice pb 0 pj) [], .bs (.slice pa 0 pk) [], .mc cs1 TS, .mc cs2 TC, .bs (.slice ca 0 ck) [], .ms (.slice cd 0 cj) [], .bs (.slice sa s.rq.body.length sk) s.rq.body, .ms (.slice sd s.dn.length sj) s.dn, .bs (.slice ya kinds.length yk) kinds, .bs (.slice xa script.length xk) script] mb n dm _) := Lib.hid (((((((E5.out.set 0 0 (.int .i64 3) rfl).set 0 1 (.int .i64 4) rfl).set 0 2 (.int .i64 rkd) rfl).set 0 3 (.int .i64 rnm) rfl).set 0 4 (.slice qa 0 qk) rfl).push 24 [.int .i64 3, .int .i64 4, .int .i64 rkd, .int .i64 rnm, .slice qa 0 qk] (w1.heap.size) (by simp)))
      go_wp2_with (at_builtin; refine wpList_appL (A := [(w1.heap.size, 24, [.int .i64 3, .int .i64 4, .int .i64 rkd, .int .i64 rnm, .slice qa 0 qk]), (wr.heap.size, 24, [.int .i64 3, .int .i64 4, .int .i64 rkd, .int .i64 rnm, .slice qa 0 qk]), (ad6, 27, [.int .i64 s.nx, .bool s.wt, .int .i64 s.rq.fr, .int .i64 s.rq.to_, .int .i64 s.rq.kd, .int .i64 s.rq.nm, .slice sa s.rq.body.length sk, .slice sd s.dn.length sj, .int .i64 s.tr]), (ad5, 27, [.int .i64 nx, .bool true, .int .i64 3, .int .i64 4, .int .i64 rkd, .int .i64 rnm, .slice pa 0 pk, .slice pb 0 pj, .int .i64 (tr + 1)])]) (B' := s2) rfl _ _ rfl E6.out rfl hL1.out (E6.out.fc 3 rfl) rfl (M := ⟨3, 4, rkd, rnm, []⟩) (ad := some ⟨w1.heap.size, 0, none⟩) (c := 1) (news := [.int .i64 3, .int .i64 4, .int .i64 rkd, .int .i64 rnm, .slice qa 0 qk]) rfl ((E6.out.bx 0 rfl).src 0 1 rfl (by intro j u hj; simpa using hj) (by intro u hu; simp at hu; rcases hu with rfl | rfl | rfl | rfl | rfl <;> rfl)) (mc_one' (M := ⟨3, 4, rkd, rnm, []⟩) (E6.out.fc 0 rfl)) (by omega) ?_)
      intro g1 gc1 gs1 w2 hN1 E70
      have E7 : Hid (EnvM D w ((w1.heap.size, 24, [.int .i64 3, .int .i64 4, .int .i64 rkd, .int .i64 rnm, .slice qa 0 qk]) :: (wr.heap.size, 24, [.int .i64 3, .int .i64 4, .int .i64 rkd, .int .i64 rnm, .slice qa 0 qk]) :: (ad6, 27, [.int .i64 s.nx, .bool s.wt, .int .i64 s.rq.fr, .int .i64 s.rq.to_, .int .i64 s.rq.kd, .int .i64 s.rq.nm, .slice sa s.rq.body.length sk, .slice sd s.dn.length sj, .int .i64 s.tr]) :: (ad5, 27, [.int .i64 nx, .bool true, .int .i64 3, .int .i64 4, .int .i64 rkd, .int .i64 rnm, .slice pa 0 pk, .slice pb 0 pj, .int .i64 (tr + 1)]) :: ([(g1, 24, gs1)] ++ s2)) [.mc gs1 (TS ++ [⟨3, 4, rkd, rnm, []⟩]), .bs (.slice qa 0 qk) [], .ms (.slice pb 0 pj) [], .bs (.slice pa 0 pk) [], .mc cs1 TS, .mc cs2 TC, .bs (.slice ca 0 ck) [], .ms (.slice cd 0 cj) [], .bs (.slice sa s.rq.body.length sk) s.rq.body, .ms (.slice sd s.dn.length sj) s.dn, .bs (.slice ya kinds.length yk) kinds, .bs (.slice xa script.length xk) script] mb n dm w2) := E70
      clear c3_0 c3_1 c3_2 c3_3 c3_4 c3_5 c3_6 c3_7 c3_8 f3_0 f3_1 f3_2 f3_3 f3_4 f3_5 f3_6 f3_7 f3_8 c4_0 c4_1 c4_2 c4_3 c4_4 f4_0 f4_1 f4_2 f4_3 f4_4 E4 E5 E6 E70
      have hnx1 : nx = acc + 1 := (hI.out.c3 rfl).2; have hNX := Lib.hid hnx1; clear hnx1
      have h62 : (nx == (acc + 1)) = true := by simp; have := hNX.out; omega
      have h62d : decide (nx = (acc + 1)) = true := by simp; have := hNX.out; omega
      have h62n : (nx != (acc + 1)) = false := by simp; have := hNX.out; omega
      have b5 := E7.out.bx 3 rfl
      have c5_1 := b5.cell 1 rfl
      clear b5
      have b6 := E7.out.bx 3 rfl
      have c6_0 := b6.cell 0 rfl
      clear b6
      have E8 := Lib.hid ((((((((E7.out.bare.note (.bs (.slice xa script.length xk) script) (E7.out.fc 11 rfl)).note (.bs (.slice ya kinds.length yk) kinds) (E7.out.fc 10 rfl)).note (.ms (.slice sd s.dn.length sj) s.dn) (E7.out.fc 9 rfl)).note (.bs (.slice sa s.rq.body.length sk) s.rq.body) (E7.out.fc 8 rfl)).note (.ms (.slice pb 0 pj) []) (E7.out.fc 2 rfl)).note (.bs (.slice pa 0 pk) []) (E7.out.fc 3 rfl)).note (.mc cs2 TC) (E7.out.fc 5 rfl)).note (.mc gs1 (TS ++ [⟨3, 4, rkd, rnm, []⟩])) (E7.out.fc 0 rfl))
      have EZ := Lib.hid ((E8.out.drop).drop)
      go_wp2
      try simp only [← Hhxa.out]
      refine Handed.intro (script.length - (i + 1)) (by have := hgk.out; omega) ?_
      refine hJ _ _ _ ⟨i + 1, ⟨nx, true, ⟨3, 4, rkd, rnm, []⟩, [], tr + 1⟩, s, pa, pb, sa, sd, pk, pj, sk, sj, [(g1, 24, gs1)], s2, gs1, cs2, .slice (some ⟨g1, 0, none⟩) (TS.length + 1) gc1, .slice ua TC.length uc, (TS ++ [⟨3, 4, rkd, rnm, []⟩]), TC, dn, acc, K, n, dm, EZ, Lib.hid ⟨by omega, rfl, (by have := hni.out; omega), hN1.out, hL2.out, hI2.out, hM.out⟩, ?_⟩
      (repeat apply Exists.intro)
      rfl
end Go.Proofs.Ytbcfcdcomboljaa

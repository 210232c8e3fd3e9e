/- SessionOnce: the walk, part B2v1. -/
import Derived.Test.YtbcfcdcomboljaaSesOnD
namespace Go.Proofs.Ytbcfcdcomboljaa
open Go.RowKit Go.Maps
set_option linter.unusedVariables false
set_option maxRecDepth 100000 in
set_option maxHeartbeats 40000000 in
theorem once_B2v1 {D : Nat → Prop} {w wr : World} (script kinds : List Nat) {xa ya : Option Addr} {xk yk : Nat} (ad5 ad6 mb : Nat) (gk : Nat) (J : Nat → Act → World → Prop) (K1 : Act → World → Prop) {B : Code} (hB : IsBody B) (hJ : ∀ k a' w', RelI script kinds xa ya xk yk D w ad5 ad6 mb k a' w' → J k a' w') (hK : ∀ a' w', Handed J gk a' w' → K1 a' w') (Q : Exit → Act → World → Prop) {u4 u11 u12 u13 u14 u15 u16 u17 u18 u19 u20 u21 u35 u36 u37 u38 u39 u40 u41 u42 u43 u44 u45 u46 u47 u48 u49 u50 u51 u52 u53 u54 u55 u56 u57 u58 u59 u60 u61 u62 u63 u64 u65 u66 u67 u68 u69 u70 u71 u72 u73 u74 u75 u76 u77 u78 u79 u80 u81 u82 u83 u84 u85 u86 u87 u88 u89 u90 u91 u92 u93 u94 u95 u96 u97 u98 u99 u100 u101 u102 u103 u104 u105 u106 u107 u108 u109 u110 u111 u112 u113 u114 u115 u116 u117 u118 u119 u120 u121 u122 u123 u124 u125 u126 u127 u128 u129 u130 u131 u132 u133 u134 u135 u136 u137 u138 u139 u140 u141 u142 u143 u144 u145 u146 u147 u148 u149 u150 u151 u152 u153 u154 u155 u156 u157 u158 u159 u160 u161 u162 u163 u164 u165 u166 u167 u168 u169 u170 u171 u172 u173 u174 u175 u176 u177 u178 u179 u180 u181 u182 u183 u184 u185 u186 u187 u188 u189 u190 u191 u192 u193 u194 u195 u196 u197 u198 u199 u200 u201 u202 u203 u204 u205 u206 u207 u208 u209 u210 u211 u212 u213 u214 u215 u216 u217 u218 u219 u220 u221 u222 u223 u224 u225 u226 u227 u228 u229 u230 u231 u232 u233 u234 u235 u236 u237 u238 u239 u240 u241 u242 u243 u244 u245 u246 u247 u248 u249 : Value} {i : Nat} {c s : Ses} {ca cd sa sd : Option Addr} {ck cj sk sj : Nat} {s1 s2 : List Bx} {cs1 cs2 : List Value} {v1 v2 : Value} {TS TC : List Msg} {dn : Int → Int} {acc : Int} {K : Int → Int} {n : Nat} {dm : MapD} (EL : Hid (EnvM D w ((ad6, 27, [.int .i64 s.nx, .bool s.wt, .int .i64 s.rq.fr, .int .i64 s.rq.to_, .int .i64 s.rq.kd, .int .i64 s.rq.nm, .slice sa s.rq.body.length sk, .slice sd s.dn.length sj, .int .i64 s.tr]) :: (ad5, 27, [.int .i64 c.nx, .bool c.wt, .int .i64 c.rq.fr, .int .i64 c.rq.to_, .int .i64 c.rq.kd, .int .i64 c.rq.nm, .slice ca c.rq.body.length ck, .slice cd c.dn.length cj, .int .i64 c.tr]) :: (s1 ++ s2)) [.mc cs1 TS, .mc cs2 TC, .bs (.slice ca c.rq.body.length ck) c.rq.body, .ms (.slice cd c.dn.length cj) c.dn, .bs (.slice sa s.rq.body.length sk) s.rq.body, .ms (.slice sd s.dn.length sj) s.dn, .bs (.slice ya kinds.length yk) kinds, .bs (.slice xa script.length xk) script] mb n dm wr)) (HA : Hid (i ≤ script.length ∧ gk = script.length - i ∧ n ≤ i ∧ LS s1 cs1 v1 TS ∧ LS s2 cs2 v2 TC ∧ Inv i c s TS TC dn acc K ∧ MapIs dm dn)) (hl : Hid (script.length ≤ 200)) (hi : i < script.length) (hq : script[i] % 4 = 2) (hT0 : TS.length = 0) :
    Code.wp Try.prog B (Exit.then K1 Q) { tmps := #[.slice xa script.length xk, .slice ya kinds.length yk, undef, undef, u4, .pointer (some ⟨ad5, 0, none⟩), .pointer (some ⟨ad6, 0, none⟩), v1, v2, .map (some mb), .int .i64 acc, u11, u12, u13, u14, u15, u16, u17, u18, u19, u20, u21, undef, undef, .bool true, .bool false, .slice xa script.length xk, .int .i64 (script.length : Int), .bool false, .agg #[.int .i64 0, .bool false, .int .i64 0, .int .i64 0, .int .i64 0, .int .i64 0, .slice none 0 0, .slice none 0 0, .int .i64 0], .agg #[.int .i64 0, .bool false, .int .i64 0, .int .i64 0, .int .i64 0, .int .i64 0, .slice none 0 0, .slice none 0 0, .int .i64 0], .map (some mb), .slice xa script.length xk, .int .i64 (script.length : Int), .int .i64 (i : Int), u35, u36, u37, u38, u39, u40, u41, u42, u43, u44, u45, u46, u47, u48, u49, u50, u51, u52, u53, u54, u55, u56, u57, u58, u59, u60, u61, u62, u63, u64, u65, u66, u67, u68, u69, u70, u71, u72, u73, u74, u75, u76, u77, u78, u79, u80, u81, u82, u83, u84, u85, u86, u87, u88, u89, u90, u91, u92, u93, u94, u95, u96, u97, u98, u99, u100, u101, u102, u103, u104, u105, u106, u107, u108, u109, u110, u111, u112, u113, u114, u115, u116, u117, u118, u119, u120, u121, u122, u123, u124, u125, u126, u127, u128, u129, u130, u131, u132, u133, u134, u135, u136, u137, u138, u139, u140, u141, u142, u143, u144, u145, u146, u147, u148, u149, u150, u151, u152, u153, u154, u155, u156, u157, u158, u159, u160, u161, u162, u163, u164, u165, u166, u167, u168, u169, u170, u171, u172, u173, u174, u175, u176, u177, u178, u179, u180, u181, u182, u183, u184, u185, u186, u187, u188, u189, u190, u191, u192, u193, u194, u195, u196, u197, u198, u199, u200, u201, u202, u203, u204, u205, u206, u207, u208, u209, u210, u211, u212, u213, u214, u215, u216, u217, u218, u219, u220, u221, u222, u223, u224, u225, u226, u227, u228, u229, u230, u231, u232, u233, u234, u235, u236, u237, u238, u239, u240, u241, u242, u243, u244, u245, u246, u247, u248, u249, undef, undef, undef, undef, undef, undef, undef, undef], defers := [] } wr := by
  unfold IsBody at hB
  conv at hB => lhs; whnf
  injection hB with hB
  subst hB
  have hgk := Lib.hid HA.out.2.1; have hin := Lib.hid HA.out.1; have hni := Lib.hid HA.out.2.2.1; have hL1 := Lib.hid HA.out.2.2.2.1; have hL2 := Lib.hid HA.out.2.2.2.2.1; have hI := Lib.hid HA.out.2.2.2.2.2.1; have hM := Lib.hid HA.out.2.2.2.2.2.2; clear HA
  have t1 : decide ((i : Int) < (script.length : Int)) = true := decide_eq_true (by omega)
  have hi2 : i ≤ 200 := by have := hl.out; omega
  obtain ⟨sb, so, hxa, hxc0, hx80⟩ := Bs.byte (EL.out.fc 7 rfl) hi
  obtain ⟨x, hx⟩ : ∃ x, x = script[i] := ⟨_, rfl⟩
  rw [← hx] at hxc0 hx80 hq
  have hx8 := hx80; have hxc := hxc0; clear hx80 hxc0
  have hHX := Lib.hid hx; clear hx
  obtain ⟨nx, wt, rq, cdn, tr⟩ := c
  obtain rfl : cdn = [] := hI.out.c2
  obtain ⟨va, vc, e1⟩ := hL1.out.len; subst e1
  obtain ⟨ua, uc, e2⟩ := hL2.out.len; subst e2
  have hbd := hI.out.bd; have hTS := hI.out.l1; have hTC := hI.out.l2; dsimp only at hbd
  have E1 : Hid (EnvM D w ((ad6, 27, [.int .i64 s.nx, .bool s.wt, .int .i64 s.rq.fr, .int .i64 s.rq.to_, .int .i64 s.rq.kd, .int .i64 s.rq.nm, .slice sa s.rq.body.length sk, .slice sd s.dn.length sj, .int .i64 s.tr]) :: (ad5, 27, [.int .i64 nx, .bool wt, .int .i64 rq.fr, .int .i64 rq.to_, .int .i64 rq.kd, .int .i64 rq.nm, .slice ca rq.body.length ck, .slice cd 0 cj, .int .i64 tr]) :: (s1 ++ s2)) [.mc cs1 TS, .mc cs2 TC, .bs (.slice ca rq.body.length ck) rq.body, .ms (.slice cd 0 cj) [], .bs (.slice sa s.rq.body.length sk) s.rq.body, .ms (.slice sd s.dn.length sj) s.dn, .bs (.slice ya kinds.length yk) kinds, .bs (.slice xa script.length xk) script] mb n dm _) := Lib.hid EL.out
  clear EL
  have hand := and_u8 x hx8
  rw [hq] at hand
  have hTz : ((TS.length : Int) == 0) = true := by simpa using hT0
  clear hT0
  have E2 := Lib.hid ((E1.out.push 24 [.int .i64 0, .int .i64 0, .int .i64 0, .int .i64 0, .slice none 0 0] (wr.heap.size) (by simp)))
  have E3 := Lib.hid ((((((((E2.out.bare.note (.bs (.slice xa script.length xk) script) (E2.out.fc 7 rfl)).note (.bs (.slice ya kinds.length yk) kinds) (E2.out.fc 6 rfl)).note (.ms (.slice sd s.dn.length sj) s.dn) (E2.out.fc 5 rfl)).note (.bs (.slice sa s.rq.body.length sk) s.rq.body) (E2.out.fc 4 rfl)).note (.ms (.slice cd 0 cj) []) (E2.out.fc 3 rfl)).note (.bs (.slice ca rq.body.length ck) rq.body) (E2.out.fc 2 rfl)).note (.mc cs2 TC) (E2.out.fc 1 rfl)).note (.mc cs1 TS) (E2.out.fc 0 rfl))
  have EZ := Lib.hid (E3.out.drop)
  go_wp2
  try simp only [← hxa]
  refine Handed.intro (script.length - (i + 1)) (by have := hgk.out; omega) ?_
  refine hJ _ _ _ ⟨i + 1, ⟨nx, wt, rq, [], tr⟩, s, ca, cd, sa, sd, ck, cj, sk, sj, s1, s2, cs1, cs2, .slice va TS.length vc, .slice ua TC.length uc, TS, TC, dn, acc, K, n, dm, EZ, Lib.hid ⟨by omega, rfl, (by have := hni.out; omega), hL1.out, hL2.out, hI.out.skip, hM.out⟩, ?_⟩
  (repeat apply Exists.intro)
  rfl
end Go.Proofs.Ytbcfcdcomboljaa

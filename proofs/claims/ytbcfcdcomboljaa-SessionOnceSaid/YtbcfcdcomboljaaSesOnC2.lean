/- SessionOnce: the walk, part C2. -/
import Derived.Test.YtbcfcdcomboljaaSesOnD
namespace Go.Proofs.Ytbcfcdcomboljaa
open Go.RowKit Go.Maps
set_option linter.unusedVariables false
set_option maxRecDepth 100000 in
set_option maxHeartbeats 40000000 in
theorem once_C2 {D : Nat → Prop} {w wr : World} (script kinds : List Nat) {xa ya : Option Addr} {xk yk : Nat} (ad5 ad6 mb : Nat) (gk : Nat) (J : Nat → Act → World → Prop) (K1 : Act → World → Prop) {B : Code} (hB : IsBody B) (hJ : ∀ k a' w', RelI script kinds xa ya xk yk D w ad5 ad6 mb k a' w' → J k a' w') (hK : ∀ a' w', Handed J gk a' w' → K1 a' w') (Q : Exit → Act → World → Prop) (hP : ∀ d v x (a : Act) w', Q (.panic x) (a.put d v) w' → Q (.panic x) a w') {u4 u11 u12 u13 u14 u15 u16 u17 u18 u19 u20 u21 u35 u36 u37 u38 u39 u40 u41 u42 u43 u44 u45 u46 u47 u48 u49 u50 u51 u52 u53 u54 u55 u56 u57 u58 u59 u60 u61 u62 u63 u64 u65 u66 u67 u68 u69 u70 u71 u72 u73 u74 u75 u76 u77 u78 u79 u80 u81 u82 u83 u84 u85 u86 u87 u88 u89 u90 u91 u92 u93 u94 u95 u96 u97 u98 u99 u100 u101 u102 u103 u104 u105 u106 u107 u108 u109 u110 u111 u112 u113 u114 u115 u116 u117 u118 u119 u120 u121 u122 u123 u124 u125 u126 u127 u128 u129 u130 u131 u132 u133 u134 u135 u136 u137 u138 u139 u140 u141 u142 u143 u144 u145 u146 u147 u148 u149 u150 u151 u152 u153 u154 u155 u156 u157 u158 u159 u160 u161 u162 u163 u164 u165 u166 u167 u168 u169 u170 u171 u172 u173 u174 u175 u176 u177 u178 u179 u180 u181 u182 u183 u184 u185 u186 u187 u188 u189 u190 u191 u192 u193 u194 u195 u196 u197 u198 u199 u200 u201 u202 u203 u204 u205 u206 u207 u208 u209 u210 u211 u212 u213 u214 u215 u216 u217 u218 u219 u220 u221 u222 u223 u224 u225 u226 u227 u228 u229 u230 u231 u232 u233 u234 u235 u236 u237 u238 u239 u240 u241 u242 u243 u244 u245 u246 u247 u248 u249 : Value} {i : Nat} {c s : Ses} {ca cd sa sd : Option Addr} {ck cj sk sj : Nat} {s1 s2 : List Bx} {cs1 cs2 : List Value} {v1 v2 : Value} {TS TC : List Msg} {dn : Int → Int} {acc : Int} {K : Int → Int} {n : Nat} {dm : MapD} (EL : Hid (EnvM D w ((ad6, 27, [.int .i64 s.nx, .bool s.wt, .int .i64 s.rq.fr, .int .i64 s.rq.to_, .int .i64 s.rq.kd, .int .i64 s.rq.nm, .slice sa s.rq.body.length sk, .slice sd s.dn.length sj, .int .i64 s.tr]) :: (ad5, 27, [.int .i64 c.nx, .bool c.wt, .int .i64 c.rq.fr, .int .i64 c.rq.to_, .int .i64 c.rq.kd, .int .i64 c.rq.nm, .slice ca c.rq.body.length ck, .slice cd c.dn.length cj, .int .i64 c.tr]) :: (s1 ++ s2)) [.mc cs1 TS, .mc cs2 TC, .bs (.slice ca c.rq.body.length ck) c.rq.body, .ms (.slice cd c.dn.length cj) c.dn, .bs (.slice sa s.rq.body.length sk) s.rq.body, .ms (.slice sd s.dn.length sj) s.dn, .bs (.slice ya kinds.length yk) kinds, .bs (.slice xa script.length xk) script] mb n dm wr)) (HA : Hid (i ≤ script.length ∧ gk = script.length - i ∧ n ≤ i ∧ LS s1 cs1 v1 TS ∧ LS s2 cs2 v2 TC ∧ Inv i c s TS TC dn acc K ∧ MapIs dm dn)) (hl : Hid (script.length ≤ 200)) (hi : i < script.length) (hq : script[i] % 4 = 3) (hT0 : ¬ TC.length = 0) (hw : c.wt = false) :
    Code.wp Try.prog B (Exit.then K1 Q) { tmps := #[.slice xa script.length xk, .slice ya kinds.length yk, undef, undef, u4, .pointer (some ⟨ad5, 0, none⟩), .pointer (some ⟨ad6, 0, none⟩), v1, v2, .map (some mb), .int .i64 acc, u11, u12, u13, u14, u15, u16, u17, u18, u19, u20, u21, undef, undef, .bool true, .bool false, .slice xa script.length xk, .int .i64 (script.length : Int), .bool false, .agg #[.int .i64 0, .bool false, .int .i64 0, .int .i64 0, .int .i64 0, .int .i64 0, .slice none 0 0, .slice none 0 0, .int .i64 0], .agg #[.int .i64 0, .bool false, .int .i64 0, .int .i64 0, .int .i64 0, .int .i64 0, .slice none 0 0, .slice none 0 0, .int .i64 0], .map (some mb), .slice xa script.length xk, .int .i64 (script.length : Int), .int .i64 (i : Int), u35, u36, u37, u38, u39, u40, u41, u42, u43, u44, u45, u46, u47, u48, u49, u50, u51, u52, u53, u54, u55, u56, u57, u58, u59, u60, u61, u62, u63, u64, u65, u66, u67, u68, u69, u70, u71, u72, u73, u74, u75, u76, u77, u78, u79, u80, u81, u82, u83, u84, u85, u86, u87, u88, u89, u90, u91, u92, u93, u94, u95, u96, u97, u98, u99, u100, u101, u102, u103, u104, u105, u106, u107, u108, u109, u110, u111, u112, u113, u114, u115, u116, u117, u118, u119, u120, u121, u122, u123, u124, u125, u126, u127, u128, u129, u130, u131, u132, u133, u134, u135, u136, u137, u138, u139, u140, u141, u142, u143, u144, u145, u146, u147, u148, u149, u150, u151, u152, u153, u154, u155, u156, u157, u158, u159, u160, u161, u162, u163, u164, u165, u166, u167, u168, u169, u170, u171, u172, u173, u174, u175, u176, u177, u178, u179, u180, u181, u182, u183, u184, u185, u186, u187, u188, u189, u190, u191, u192, u193, u194, u195, u196, u197, u198, u199, u200, u201, u202, u203, u204, u205, u206, u207, u208, u209, u210, u211, u212, u213, u214, u215, u216, u217, u218, u219, u220, u221, u222, u223, u224, u225, u226, u227, u228, u229, u230, u231, u232, u233, u234, u235, u236, u237, u238, u239, u240, u241, u242, u243, u244, u245, u246, u247, u248, u249, undef, undef, undef, undef, undef, undef, undef, undef], defers := [] } wr := by
  unfold IsBody at hB
  conv at hB => lhs; whnf
  injection hB with hB
  subst hB
  have hgk := Lib.hid HA.out.2.1; have hin := Lib.hid HA.out.1; have hni := Lib.hid HA.out.2.2.1; have hL1 := Lib.hid HA.out.2.2.2.1; have hL2 := Lib.hid HA.out.2.2.2.2.1; have hI := Lib.hid HA.out.2.2.2.2.2.1; have hM := Lib.hid HA.out.2.2.2.2.2.2; clear HA
  have t1 : decide ((i : Int) < (script.length : Int)) = true := decide_eq_true (by omega)
  have hi2 : i ≤ 200 := by have := hl.out; omega
  obtain ⟨sb, so, hxa, hxc0, hx80⟩ := Bs.byte (EL.out.fc 7 rfl) hi
  obtain ⟨x, hx⟩ : ∃ x, x = script[i] := ⟨_, rfl⟩
  rw [← hx] at hxc0 hx80 hq
  have hx8 := hx80; have hxc := hxc0; clear hx80 hxc0
  have hHX := Lib.hid hx; clear hx
  obtain ⟨nx, wt, rq, cdn, tr⟩ := c
  obtain rfl : cdn = [] := hI.out.c2
  obtain ⟨va, vc, e1⟩ := hL1.out.len; subst e1
  obtain ⟨ua, uc, e2⟩ := hL2.out.len; subst e2
  have hbd := hI.out.bd; have hTS := hI.out.l1; have hTC := hI.out.l2; dsimp only at hbd
  have E1 : Hid (EnvM D w ((ad6, 27, [.int .i64 s.nx, .bool s.wt, .int .i64 s.rq.fr, .int .i64 s.rq.to_, .int .i64 s.rq.kd, .int .i64 s.rq.nm, .slice sa s.rq.body.length sk, .slice sd s.dn.length sj, .int .i64 s.tr]) :: (ad5, 27, [.int .i64 nx, .bool wt, .int .i64 rq.fr, .int .i64 rq.to_, .int .i64 rq.kd, .int .i64 rq.nm, .slice ca rq.body.length ck, .slice cd 0 cj, .int .i64 tr]) :: (s1 ++ s2)) [.mc cs1 TS, .mc cs2 TC, .bs (.slice ca rq.body.length ck) rq.body, .ms (.slice cd 0 cj) [], .bs (.slice sa s.rq.body.length sk) s.rq.body, .ms (.slice sd s.dn.length sj) s.dn, .bs (.slice ya kinds.length yk) kinds, .bs (.slice xa script.length xk) script] mb n dm _) := Lib.hid EL.out
  clear EL
  have hand := and_u8 x hx8
  rw [hq] at hand
  obtain rfl : wt = false := hw
  have hTz : ((TC.length : Int) == 0) = false := by simpa using hT0
  obtain ⟨j, hj⟩ : ∃ j, j = TC.length - 1 - (x / 4) % TC.length := ⟨_, rfl⟩
  have hml : (x / 4) % TC.length < TC.length := Nat.mod_lt _ (by omega)
  have hjl : j < TC.length := by omega
  have hjx : wrap64 ((TC.length : Int) - 1 - (x : Int) / 4 % (TC.length : Int)) = (j : Int) := by
    have hmm2 : (x : Int) / 4 % (TC.length : Int) = (((x / 4) % TC.length : Nat) : Int) := by simp
    rw [hmm2]; unfold wrap64; omega
  clear hj hml
  have hRq := hI.out.gotA hjl; dsimp only at hRq
  obtain ⟨mk, mn, hme⟩ := hRq.is
  rw [hme] at hRq; have hRQM := Lib.hid hRq; clear hRq
  have hmn : 0 ≤ mn ∧ mn < nx := ⟨hRQM.out.2.2.2.2.1, hRQM.out.2.2.2.2.2.1⟩
  have hmo := hRQM.out.ok (by (try dsimp only); omega)
  obtain rfl := hI.out.zero
  have E2 : Hid (EnvM D w ((ad6, 27, [.int .i64 s.nx, .bool s.wt, .int .i64 s.rq.fr, .int .i64 s.rq.to_, .int .i64 s.rq.kd, .int .i64 s.rq.nm, .slice sa s.rq.body.length sk, .slice sd s.dn.length sj, .int .i64 s.tr]) :: (ad5, 27, [.int .i64 nx, .bool false, .int .i64 0, .int .i64 0, .int .i64 0, .int .i64 0, .slice ca 0 ck, .slice cd 0 cj, .int .i64 tr]) :: (s1 ++ s2)) [.mc cs1 TS, .mc cs2 TC, .bs (.slice ca 0 ck) [], .ms (.slice cd 0 cj) [], .bs (.slice sa s.rq.body.length sk) s.rq.body, .ms (.slice sd s.dn.length sj) s.dn, .bs (.slice ya kinds.length yk) kinds, .bs (.slice xa script.length xk) script] mb n dm _) := Lib.hid E1.out
  clear E1
  have hac := Lib.hid (accept_n hI.out.c1 hmo rfl); clear hmo
  obtain ⟨lg, la, lk, hva, p0, p1, p2, p3, p4, E30⟩ := EnvM.el (A := ((ad6, 27, [.int .i64 s.nx, .bool s.wt, .int .i64 s.rq.fr, .int .i64 s.rq.to_, .int .i64 s.rq.kd, .int .i64 s.rq.nm, .slice sa s.rq.body.length sk, .slice sd s.dn.length sj, .int .i64 s.tr]) :: (ad5, 27, [.int .i64 nx, .bool false, .int .i64 0, .int .i64 0, .int .i64 0, .int .i64 0, .slice ca 0 ck, .slice cd 0 cj, .int .i64 tr]) :: s1)) (B' := []) E2.out (by simp) hL2.out (i := 1) rfl hjl hme
  have E3 : Hid (EnvM D w ((ad6, 27, [.int .i64 s.nx, .bool s.wt, .int .i64 s.rq.fr, .int .i64 s.rq.to_, .int .i64 s.rq.kd, .int .i64 s.rq.nm, .slice sa s.rq.body.length sk, .slice sd s.dn.length sj, .int .i64 s.tr]) :: (ad5, 27, [.int .i64 nx, .bool false, .int .i64 0, .int .i64 0, .int .i64 0, .int .i64 0, .slice ca 0 ck, .slice cd 0 cj, .int .i64 tr]) :: (s1 ++ s2)) [.bs (.slice la 0 lk) [], .mc cs1 TS, .mc cs2 TC, .bs (.slice ca 0 ck) [], .ms (.slice cd 0 cj) [], .bs (.slice sa s.rq.body.length sk) s.rq.body, .ms (.slice sd s.dn.length sj) s.dn, .bs (.slice ya kinds.length yk) kinds, .bs (.slice xa script.length xk) script] mb n dm wr) := E30; clear E30 E2
  have q0 := cell_alloc p0 (.cells #[.int .i64 0, .int .i64 0, .int .i64 0, .int .i64 0, .slice none 0 0] 24)
  have q1 := cell_alloc p1 (.cells #[.int .i64 0, .int .i64 0, .int .i64 0, .int .i64 0, .slice none 0 0] 24)
  have q2 := cell_alloc p2 (.cells #[.int .i64 0, .int .i64 0, .int .i64 0, .int .i64 0, .slice none 0 0] 24)
  have q3 := cell_alloc p3 (.cells #[.int .i64 0, .int .i64 0, .int .i64 0, .int .i64 0, .slice none 0 0] 24)
  have q4 := cell_alloc p4 (.cells #[.int .i64 0, .int .i64 0, .int .i64 0, .int .i64 0, .slice none 0 0] 24)
  clear p0 p1 p2 p3 p4
  go_wp2_with fail
  have Hhxa := Lib.hid hxa; clear hxa
  have Hhva := Lib.hid hva; clear hva
  have E4 := Lib.hid ((E3.out.push 24 [.int .i64 4, .int .i64 3, .int .i64 mk, .int .i64 mn, .slice la 0 lk] (wr.heap.size) (by simp)))
  clear q0 q1 q2 q3 q4 E3
  generalize wr.alloc (.cells #[.int .i64 4, .int .i64 3, .int .i64 mk, .int .i64 mn, .slice la 0 lk] 24) = w1 at *
  have E5 := Lib.hid E4.out.drew
  clear E4
  refine wp_region_held_drew (S := fun w' => w'.cell? ⟨ad5, 1, none⟩ = some (.bool false) ∧ w'.cell? ⟨ad5, 2, none⟩ = some (.int .i64 0) ∧ w'.cell? ⟨ad5, 3, none⟩ = some (.int .i64 0) ∧ w'.cell? ⟨ad5, 4, none⟩ = some (.int .i64 0) ∧ w'.cell? ⟨ad5, 5, none⟩ = some (.int .i64 0) ∧ w'.cell? ⟨ad5, 6, none⟩ = some (.slice ca 0 ck)) (by kernel_rfl) (⟨((E5.out.bx 2 rfl).cell 1 rfl), ((E5.out.bx 2 rfl).cell 2 rfl), ((E5.out.bx 2 rfl).cell 3 rfl), ((E5.out.bx 2 rfl).cell 4 rfl), ((E5.out.bx 2 rfl).cell 5 rfl), ((E5.out.bx 2 rfl).cell 6 rfl)⟩) (fun hHeld => ?_)
  generalize w1.drew = w2 at *
  refine takeW (i := 0) (some 193) (v := ?_) rfl rfl (by kernel_rfl) (by kernel_rfl) (by kernel_rfl) (fun x a w h => hP _ _ x a w h) (by rfl) (by assumption) ?_ ?_
  rotate_left
  · (intro wS hSw; (try dsimp only at hSw); go_simp; try with_reducible rfl)
  try simp only [Act.put, List.setIfInBounds_toArray, List.set_cons_zero, List.set_cons_succ]
  refine takeW (i := 1) (some 194) (v := ?_) rfl rfl (by kernel_rfl) (by kernel_rfl) (by kernel_rfl) (fun x a w h => hP _ _ x a w h) (by rfl) (by assumption) ?_ ?_
  rotate_left
  · (intro wS hSw; (try dsimp only at hSw); go_simp; try with_reducible rfl)
  try simp only [Act.put, List.setIfInBounds_toArray, List.set_cons_zero, List.set_cons_succ]
  refine takeW (i := 2) (some 195) (v := ?_) rfl rfl (by kernel_rfl) (by kernel_rfl) (by kernel_rfl) (fun x a w h => hP _ _ x a w h) (by rfl) (by assumption) ?_ ?_
  rotate_left
  · (intro wS hSw; (try dsimp only at hSw); go_simp; try with_reducible rfl)
  try simp only [Act.put, List.setIfInBounds_toArray, List.set_cons_zero, List.set_cons_succ]
  refine takeW (i := 3) (some 196) (v := ?_) rfl rfl (by kernel_rfl) (by kernel_rfl) (by kernel_rfl) (fun x a w h => hP _ _ x a w h) (by rfl) (by assumption) ?_ ?_
  rotate_left
  · (intro wS hSw; (try dsimp only at hSw); go_simp; try with_reducible rfl)
  try simp only [Act.put, List.setIfInBounds_toArray, List.set_cons_zero, List.set_cons_succ]
  refine wpAnyH_ready (rs := [4]) (by kernel_rfl) (by simp) ?_
  refine AllReadyH.cons rfl (fun KK hKK => ?_) AllReadyH.nil
  go_simp
  have E6 := Lib.hid ((E5.out.push 24 [.int .i64 0, .int .i64 0, .int .i64 0, .int .i64 0, .slice none 0 0] (w2.heap.size) (by simp)))
  (try dsimp only)
  clear hHeld
  refine hKK.out _ _ (⟨((E6.out.bx 3 rfl).cell 1 rfl), ((E6.out.bx 3 rfl).cell 2 rfl), ((E6.out.bx 3 rfl).cell 3 rfl), ((E6.out.bx 3 rfl).cell 4 rfl), ((E6.out.bx 3 rfl).cell 5 rfl), ((E6.out.bx 3 rfl).cell 6 rfl)⟩) (fun hHeld => ?_)
  clear hKK KK
  try simp only [Act.put, List.setIfInBounds_toArray, List.set_cons_zero, List.set_cons_succ]
  clear E5
  generalize w2.alloc (.cells #[.int .i64 0, .int .i64 0, .int .i64 0, .int .i64 0, .slice none 0 0] 24) = w3 at *
  refine takeW (i := 5) (some 19) (v := ?_) rfl rfl (by kernel_rfl) (by kernel_rfl) (by kernel_rfl) (fun x a w h => hP _ _ x a w h) (by rfl) (by assumption) ?_ ?_
  rotate_left
  · (intro wS hSw; (try dsimp only at hSw); go_simp; try with_reducible rfl)
  try simp only [Act.put, List.setIfInBounds_toArray, List.set_cons_zero, List.set_cons_succ]
  have b1 := E6.out.bx 0 rfl
  have c1_0 := b1.cell 0 rfl
  have c1_1 := b1.cell 1 rfl
  have c1_2 := b1.cell 2 rfl
  have c1_3 := b1.cell 3 rfl
  have c1_4 := b1.cell 4 rfl
  have f1_0 := b1.frozen 0
  have f1_1 := b1.frozen 1
  have f1_2 := b1.frozen 2
  have f1_3 := b1.frozen 3
  have f1_4 := b1.frozen 4
  clear b1
  refine wpAnyH_next (i := 6) (by kernel_rfl) rfl (fun KK hKK => ?_)
  go_simp
  have E7 : Hid (EnvM D w ((w2.heap.size, 24, [.int .i64 0, .int .i64 0, .int .i64 0, .int .i64 0, .slice ca 0 ck]) :: (wr.heap.size, 24, [.int .i64 4, .int .i64 3, .int .i64 mk, .int .i64 mn, .slice la 0 lk]) :: (ad6, 27, [.int .i64 s.nx, .bool s.wt, .int .i64 s.rq.fr, .int .i64 s.rq.to_, .int .i64 s.rq.kd, .int .i64 s.rq.nm, .slice sa s.rq.body.length sk, .slice sd s.dn.length sj, .int .i64 s.tr]) :: (ad5, 27, [.int .i64 nx, .bool false, .int .i64 0, .int .i64 0, .int .i64 0, .int .i64 0, .slice ca 0 ck, .slice cd 0 cj, .int .i64 tr]) :: (s1 ++ s2)) [.bs (.slice la 0 lk) [], .mc cs1 TS, .mc cs2 TC, .bs (.slice ca 0 ck) [], .ms (.slice cd 0 cj) [], .bs (.slice sa s.rq.body.length sk) s.rq.body, .ms (.slice sd s.dn.length sj) s.dn, .bs (.slice ya kinds.length yk) kinds, .bs (.slice xa script.length xk) script] mb n dm _) := Lib.hid ((((((E6.out.set 0 0 (.int .i64 0) rfl).set 0 1 (.int .i64 0) rfl).set 0 2 (.int .i64 0) rfl).set 0 3 (.int .i64 0) rfl).set 0 4 (.slice ca 0 ck) rfl))
  refine hKK.out _ _ (⟨((E7.out.bx 3 rfl).cell 1 rfl), ((E7.out.bx 3 rfl).cell 2 rfl), ((E7.out.bx 3 rfl).cell 3 rfl), ((E7.out.bx 3 rfl).cell 4 rfl), ((E7.out.bx 3 rfl).cell 5 rfl), ((E7.out.bx 3 rfl).cell 6 rfl)⟩) ?_
  clear hKK KK hHeld
  have hHeld : (fun w' : World => w'.cell? ⟨ad5, 1, none⟩ = some (.bool false) ∧ w'.cell? ⟨ad5, 2, none⟩ = some (.int .i64 0) ∧ w'.cell? ⟨ad5, 3, none⟩ = some (.int .i64 0) ∧ w'.cell? ⟨ad5, 4, none⟩ = some (.int .i64 0) ∧ w'.cell? ⟨ad5, 5, none⟩ = some (.int .i64 0) ∧ w'.cell? ⟨ad5, 6, none⟩ = some (.slice ca 0 ck)) (((((w3.setCell ⟨w2.heap.size, 0, none⟩ (.int .i64 0)).setCell ⟨w2.heap.size, 1, none⟩ (.int .i64 0)).setCell ⟨w2.heap.size, 2, none⟩ (.int .i64 0)).setCell ⟨w2.heap.size, 3, none⟩ (.int .i64 0)).setCell ⟨w2.heap.size, 4, none⟩ (.slice ca 0 ck)) := ⟨((E7.out.bx 3 rfl).cell 1 rfl), ((E7.out.bx 3 rfl).cell 2 rfl), ((E7.out.bx 3 rfl).cell 3 rfl), ((E7.out.bx 3 rfl).cell 4 rfl), ((E7.out.bx 3 rfl).cell 5 rfl), ((E7.out.bx 3 rfl).cell 6 rfl)⟩
  refine wpAnyH_done (by kernel_rfl) ?_ _
  have b2 := E7.out.bx 3 rfl
  have c2_0 := b2.cell 0 rfl
  have c2_1 := b2.cell 1 rfl
  have c2_2 := b2.cell 2 rfl
  have c2_3 := b2.cell 3 rfl
  have c2_4 := b2.cell 4 rfl
  have c2_5 := b2.cell 5 rfl
  have c2_6 := b2.cell 6 rfl
  have c2_7 := b2.cell 7 rfl
  have c2_8 := b2.cell 8 rfl
  clear b2
  have b3 := E7.out.bx 1 rfl
  have c3_0 := b3.cell 0 rfl
  have c3_1 := b3.cell 1 rfl
  have c3_2 := b3.cell 2 rfl
  have c3_3 := b3.cell 3 rfl
  have c3_4 := b3.cell 4 rfl
  clear b3
  go_wp2_with fail
  refine (hac.out _ _ _ _ _ _ _ _ (E7.out.fc 3 rfl) (E7.out.fc 4 rfl) (E7.out.fc 0 rfl)).mono ?_
  rintro e w4 ⟨⟨pa, pk, pb, pj, rfl, hpb, hpm⟩, hb⟩
  have E8 := Lib.hid (E7.out.got (E7.out.got (E7.out.below hb) (.bs (.slice pa 0 pk) []) hpb.out) (.ms (.slice pb 0 pj) []) hpm.out)
  clear c1_0 c1_1 c1_2 c1_3 c1_4 f1_0 f1_1 f1_2 f1_3 f1_4 c2_0 c2_1 c2_2 c2_3 c2_4 c2_5 c2_6 c2_7 c2_8 c3_0 c3_1 c3_2 c3_3 c3_4 E6 E7 hb hpb hpm
  (try dsimp only)
  have b4 := E8.out.bx 3 rfl
  have c4_0 := b4.cell 0 rfl
  have c4_1 := b4.cell 1 rfl
  have c4_2 := b4.cell 2 rfl
  have c4_3 := b4.cell 3 rfl
  have c4_4 := b4.cell 4 rfl
  have c4_5 := b4.cell 5 rfl
  have c4_6 := b4.cell 6 rfl
  have c4_7 := b4.cell 7 rfl
  have c4_8 := b4.cell 8 rfl
  have f4_0 := b4.frozen 0
  have f4_1 := b4.frozen 1
  have f4_2 := b4.frozen 2
  have f4_3 := b4.frozen 3
  have f4_4 := b4.frozen 4
  have f4_5 := b4.frozen 5
  have f4_6 := b4.frozen 6
  have f4_7 := b4.frozen 7
  have f4_8 := b4.frozen 8
  clear b4
  have hNX : Hid (nx = acc) := Lib.hid (hI.out.c4 rfl)
  have h62 : (nx == acc) = true := by simp; have := hNX.out; omega
  have h62d : decide (nx = acc) = true := by simp; have := hNX.out; omega
  have h62n : (nx != acc) = false := by simp; have := hNX.out; omega
  have E9 : Hid (EnvM D w ((w2.heap.size, 24, [.int .i64 0, .int .i64 0, .int .i64 0, .int .i64 0, .slice ca 0 ck]) :: (wr.heap.size, 24, [.int .i64 4, .int .i64 3, .int .i64 mk, .int .i64 mn, .slice la 0 lk]) :: (ad6, 27, [.int .i64 s.nx, .bool s.wt, .int .i64 s.rq.fr, .int .i64 s.rq.to_, .int .i64 s.rq.kd, .int .i64 s.rq.nm, .slice sa s.rq.body.length sk, .slice sd s.dn.length sj, .int .i64 s.tr]) :: (ad5, 27, [.int .i64 nx, .bool false, .int .i64 0, .int .i64 0, .int .i64 0, .int .i64 0, .slice pa 0 pk, .slice pb 0 pj, .int .i64 tr]) :: (s1 ++ s2)) [.ms (.slice pb 0 pj) [], .bs (.slice pa 0 pk) [], .bs (.slice la 0 lk) [], .mc cs1 TS, .mc cs2 TC, .bs (.slice ca 0 ck) [], .ms (.slice cd 0 cj) [], .bs (.slice sa s.rq.body.length sk) s.rq.body, .ms (.slice sd s.dn.length sj) s.dn, .bs (.slice ya kinds.length yk) kinds, .bs (.slice xa script.length xk) script] mb n dm _) := Lib.hid ((((((((((E8.out.set 3 0 (.int .i64 nx) rfl).set 3 1 (.bool false) rfl).set 3 2 (.int .i64 0) rfl).set 3 3 (.int .i64 0) rfl).set 3 4 (.int .i64 0) rfl).set 3 5 (.int .i64 0) rfl).set 3 6 (.slice pa 0 pk) rfl).set 3 7 (.slice pb 0 pj) rfl).set 3 8 (.int .i64 tr) rfl))
  have E10 := Lib.hid ((((((((E9.out.bare.note (.bs (.slice xa script.length xk) script) (E9.out.fc 10 rfl)).note (.bs (.slice ya kinds.length yk) kinds) (E9.out.fc 9 rfl)).note (.ms (.slice sd s.dn.length sj) s.dn) (E9.out.fc 8 rfl)).note (.bs (.slice sa s.rq.body.length sk) s.rq.body) (E9.out.fc 7 rfl)).note (.ms (.slice pb 0 pj) []) (E9.out.fc 0 rfl)).note (.bs (.slice pa 0 pk) []) (E9.out.fc 1 rfl)).note (.mc cs2 TC) (E9.out.fc 4 rfl)).note (.mc cs1 TS) (E9.out.fc 3 rfl))
  have EZ := Lib.hid ((E10.out.drop).drop)
  go_wp2
  try simp only [← Hhxa.out, ← Hhva.out]
  refine Handed.intro (script.length - (i + 1)) (by have := hgk.out; omega) ?_
  refine hJ _ _ _ ⟨i + 1, ⟨nx, false, M0, [], tr⟩, s, pa, pb, sa, sd, pk, pj, sk, sj, s1, s2, cs1, cs2, .slice va TS.length vc, .slice ua TC.length uc, TS, TC, dn, acc, K, n, dm, EZ, Lib.hid ⟨by omega, rfl, (by have := hni.out; omega), hL1.out, hL2.out, hI.out.skip, hM.out⟩, ?_⟩
  (repeat apply Exists.intro)
  rfl
end Go.Proofs.Ytbcfcdcomboljaa

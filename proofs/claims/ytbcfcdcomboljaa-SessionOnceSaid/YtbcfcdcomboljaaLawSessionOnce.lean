/- SessionOnce: the walk, part M. -/
import Derived.Test.YtbcfcdcomboljaaSesOnA
import Derived.Test.YtbcfcdcomboljaaSesOnB1v1
import Derived.Test.YtbcfcdcomboljaaSesOnB1v2
import Derived.Test.YtbcfcdcomboljaaSesOnB1v3
import Derived.Test.YtbcfcdcomboljaaSesOnB1v4
import Derived.Test.YtbcfcdcomboljaaSesOnB2v1
import Derived.Test.YtbcfcdcomboljaaSesOnB2v2
import Derived.Test.YtbcfcdcomboljaaSesOnB2v3
import Derived.Test.YtbcfcdcomboljaaSesOnB2v4
import Derived.Test.YtbcfcdcomboljaaSesOnC1
import Derived.Test.YtbcfcdcomboljaaSesOnC2
import Derived.Test.YtbcfcdcomboljaaSesOnC34
namespace Go.Proofs.Ytbcfcdcomboljaa
open Go.RowKit Go.Maps
set_option linter.unusedVariables false
set_option maxRecDepth 100000 in
set_option maxHeartbeats 40000000 in
theorem once_main {D : Nat → Prop} (script kinds : List Nat) {xa ya : Option Addr} {xk yk : Nat} {w : World} (hx : Fct.at w D (.bs (.slice xa script.length xk) script)) (hy : Fct.at w D (.bs (.slice ya kinds.length yk) kinds)) (t0 : decide ((200 : Int) < (script.length : Int)) = false) (hl0 : script.length ≤ 200) :
    Calls Try.prog 6 #[.slice xa script.length xk, .slice ya kinds.length yk] w fun e w' => e = .returned (.bool true) ∧ Below w.heap.size w w' := by
  have E0 := Lib.hid (((Env.start D w).arg (.bs (.slice xa script.length xk) script) hx).arg (.bs (.slice ya kinds.length yk) kinds) hy)
  clear hx hy
  go_enter Try.func6, Try.ntmps6
  have hl := Lib.hid hl0; clear hl0
  have hmm := @run_makeMap Try.prog
  go_wp2_with fail
  refine (awake_c (D := (DF D w.heap.size []))).mono ?_
  rintro e w1 ⟨rfl, hb⟩
  have E1 := Lib.hid (E0.out.below hb)
  clear E0 hb
  go_wp2_with fail
  refine (New_0 _).mono ?_
  rintro e w2 ⟨rfl, hb⟩
  have E2 := Lib.hid (E1.out.below hb)
  clear E1 hb
  go_wp2_with fail
  refine (New_0 _).mono ?_
  rintro e w3 ⟨rfl, hb⟩
  have E3 := Lib.hid (E2.out.below hb)
  clear E2 hb
  go_wp2_with fail
  have E4 := Lib.hid (((E3.out.push 27 [.int .i64 0, .bool false, .int .i64 0, .int .i64 0, .int .i64 0, .int .i64 0, .slice none 0 0, .slice none 0 0, .int .i64 0] (w3.heap.size) (by simp)).push 27 [.int .i64 0, .bool false, .int .i64 0, .int .i64 0, .int .i64 0, .int .i64 0, .slice none 0 0, .slice none 0 0, .int .i64 0] (w3.heap.size + 1) (by simp)))
  have E5 := Lib.hid ((((((((E4.out.bare.note (.bs (.slice xa script.length xk) script) (E4.out.fc 1 rfl)).note (.bs (.slice ya kinds.length yk) kinds) (E4.out.fc 0 rfl)).note (.ms (.slice none 0 0) []) (Ms.nil _ _)).note (.bs (.slice none 0 0) []) (Bs.nil _ _)).note (.ms (.slice none 0 0) []) (Ms.nil _ _)).note (.bs (.slice none 0 0) []) (Bs.nil _ _)).note (.mc [] []) (mc_nil _ _)).note (.mc [] []) (mc_nil _ _))
  have E6 := Lib.hid (EnvM.made E5.out (w3.heap.size + 1 + 1) (by simp))
  refine wp_loop_ghost_k (RelI script kinds xa ya xk yk D w (w3.heap.size) (w3.heap.size + 1) (w3.heap.size + 1 + 1)) (script.length - 0) ?_ ?_
  · exact ⟨0, S0, S0, none, none, none, none, 0, 0, 0, 0, [], [], [], [], (.slice none 0 0), (.slice none 0 0), [], [], fun _ => 0, 0, fun _ => 0, 0, .map [], Lib.hid E6.out, Lib.hid ⟨Nat.zero_le _, rfl, Nat.le_refl _, LS.nil, LS.nil, Inv.start _, MapIs.start⟩, by (repeat apply Exists.intro); rfl⟩
  · intro gk a wr hinv J K1 hJ hK
    obtain ⟨i, c, s, ca, cd, sa, sd, ck, cj, sk, sj, s1, s2, cs1, cs2, v1, v2, TS, TC, dn, acc, K, n, dm, EL, HA, hu⟩ := hinv
    obtain ⟨u4, hu⟩ := hu
    obtain ⟨u11, hu⟩ := hu
    obtain ⟨u12, hu⟩ := hu
    obtain ⟨u13, hu⟩ := hu
    obtain ⟨u14, hu⟩ := hu
    obtain ⟨u15, hu⟩ := hu
    obtain ⟨u16, hu⟩ := hu
    obtain ⟨u17, hu⟩ := hu
    obtain ⟨u18, hu⟩ := hu
    obtain ⟨u19, hu⟩ := hu
    obtain ⟨u20, hu⟩ := hu
    obtain ⟨u21, hu⟩ := hu
    obtain ⟨u35, hu⟩ := hu
    obtain ⟨u36, hu⟩ := hu
    obtain ⟨u37, hu⟩ := hu
    obtain ⟨u38, hu⟩ := hu
    obtain ⟨u39, hu⟩ := hu
    obtain ⟨u40, hu⟩ := hu
    obtain ⟨u41, hu⟩ := hu
    obtain ⟨u42, hu⟩ := hu
    obtain ⟨u43, hu⟩ := hu
    obtain ⟨u44, hu⟩ := hu
    obtain ⟨u45, hu⟩ := hu
    obtain ⟨u46, hu⟩ := hu
    obtain ⟨u47, hu⟩ := hu
    obtain ⟨u48, hu⟩ := hu
    obtain ⟨u49, hu⟩ := hu
    obtain ⟨u50, hu⟩ := hu
    obtain ⟨u51, hu⟩ := hu
    obtain ⟨u52, hu⟩ := hu
    obtain ⟨u53, hu⟩ := hu
    obtain ⟨u54, hu⟩ := hu
    obtain ⟨u55, hu⟩ := hu
    obtain ⟨u56, hu⟩ := hu
    obtain ⟨u57, hu⟩ := hu
    obtain ⟨u58, hu⟩ := hu
    obtain ⟨u59, hu⟩ := hu
    obtain ⟨u60, hu⟩ := hu
    obtain ⟨u61, hu⟩ := hu
    obtain ⟨u62, hu⟩ := hu
    obtain ⟨u63, hu⟩ := hu
    obtain ⟨u64, hu⟩ := hu
    obtain ⟨u65, hu⟩ := hu
    obtain ⟨u66, hu⟩ := hu
    obtain ⟨u67, hu⟩ := hu
    obtain ⟨u68, hu⟩ := hu
    obtain ⟨u69, hu⟩ := hu
    obtain ⟨u70, hu⟩ := hu
    obtain ⟨u71, hu⟩ := hu
    obtain ⟨u72, hu⟩ := hu
    obtain ⟨u73, hu⟩ := hu
    obtain ⟨u74, hu⟩ := hu
    obtain ⟨u75, hu⟩ := hu
    obtain ⟨u76, hu⟩ := hu
    obtain ⟨u77, hu⟩ := hu
    obtain ⟨u78, hu⟩ := hu
    obtain ⟨u79, hu⟩ := hu
    obtain ⟨u80, hu⟩ := hu
    obtain ⟨u81, hu⟩ := hu
    obtain ⟨u82, hu⟩ := hu
    obtain ⟨u83, hu⟩ := hu
    obtain ⟨u84, hu⟩ := hu
    obtain ⟨u85, hu⟩ := hu
    obtain ⟨u86, hu⟩ := hu
    obtain ⟨u87, hu⟩ := hu
    obtain ⟨u88, hu⟩ := hu
    obtain ⟨u89, hu⟩ := hu
    obtain ⟨u90, hu⟩ := hu
    obtain ⟨u91, hu⟩ := hu
    obtain ⟨u92, hu⟩ := hu
    obtain ⟨u93, hu⟩ := hu
    obtain ⟨u94, hu⟩ := hu
    obtain ⟨u95, hu⟩ := hu
    obtain ⟨u96, hu⟩ := hu
    obtain ⟨u97, hu⟩ := hu
    obtain ⟨u98, hu⟩ := hu
    obtain ⟨u99, hu⟩ := hu
    obtain ⟨u100, hu⟩ := hu
    obtain ⟨u101, hu⟩ := hu
    obtain ⟨u102, hu⟩ := hu
    obtain ⟨u103, hu⟩ := hu
    obtain ⟨u104, hu⟩ := hu
    obtain ⟨u105, hu⟩ := hu
    obtain ⟨u106, hu⟩ := hu
    obtain ⟨u107, hu⟩ := hu
    obtain ⟨u108, hu⟩ := hu
    obtain ⟨u109, hu⟩ := hu
    obtain ⟨u110, hu⟩ := hu
    obtain ⟨u111, hu⟩ := hu
    obtain ⟨u112, hu⟩ := hu
    obtain ⟨u113, hu⟩ := hu
    obtain ⟨u114, hu⟩ := hu
    obtain ⟨u115, hu⟩ := hu
    obtain ⟨u116, hu⟩ := hu
    obtain ⟨u117, hu⟩ := hu
    obtain ⟨u118, hu⟩ := hu
    obtain ⟨u119, hu⟩ := hu
    obtain ⟨u120, hu⟩ := hu
    obtain ⟨u121, hu⟩ := hu
    obtain ⟨u122, hu⟩ := hu
    obtain ⟨u123, hu⟩ := hu
    obtain ⟨u124, hu⟩ := hu
    obtain ⟨u125, hu⟩ := hu
    obtain ⟨u126, hu⟩ := hu
    obtain ⟨u127, hu⟩ := hu
    obtain ⟨u128, hu⟩ := hu
    obtain ⟨u129, hu⟩ := hu
    obtain ⟨u130, hu⟩ := hu
    obtain ⟨u131, hu⟩ := hu
    obtain ⟨u132, hu⟩ := hu
    obtain ⟨u133, hu⟩ := hu
    obtain ⟨u134, hu⟩ := hu
    obtain ⟨u135, hu⟩ := hu
    obtain ⟨u136, hu⟩ := hu
    obtain ⟨u137, hu⟩ := hu
    obtain ⟨u138, hu⟩ := hu
    obtain ⟨u139, hu⟩ := hu
    obtain ⟨u140, hu⟩ := hu
    obtain ⟨u141, hu⟩ := hu
    obtain ⟨u142, hu⟩ := hu
    obtain ⟨u143, hu⟩ := hu
    obtain ⟨u144, hu⟩ := hu
    obtain ⟨u145, hu⟩ := hu
    obtain ⟨u146, hu⟩ := hu
    obtain ⟨u147, hu⟩ := hu
    obtain ⟨u148, hu⟩ := hu
    obtain ⟨u149, hu⟩ := hu
    obtain ⟨u150, hu⟩ := hu
    obtain ⟨u151, hu⟩ := hu
    obtain ⟨u152, hu⟩ := hu
    obtain ⟨u153, hu⟩ := hu
    obtain ⟨u154, hu⟩ := hu
    obtain ⟨u155, hu⟩ := hu
    obtain ⟨u156, hu⟩ := hu
    obtain ⟨u157, hu⟩ := hu
    obtain ⟨u158, hu⟩ := hu
    obtain ⟨u159, hu⟩ := hu
    obtain ⟨u160, hu⟩ := hu
    obtain ⟨u161, hu⟩ := hu
    obtain ⟨u162, hu⟩ := hu
    obtain ⟨u163, hu⟩ := hu
    obtain ⟨u164, hu⟩ := hu
    obtain ⟨u165, hu⟩ := hu
    obtain ⟨u166, hu⟩ := hu
    obtain ⟨u167, hu⟩ := hu
    obtain ⟨u168, hu⟩ := hu
    obtain ⟨u169, hu⟩ := hu
    obtain ⟨u170, hu⟩ := hu
    obtain ⟨u171, hu⟩ := hu
    obtain ⟨u172, hu⟩ := hu
    obtain ⟨u173, hu⟩ := hu
    obtain ⟨u174, hu⟩ := hu
    obtain ⟨u175, hu⟩ := hu
    obtain ⟨u176, hu⟩ := hu
    obtain ⟨u177, hu⟩ := hu
    obtain ⟨u178, hu⟩ := hu
    obtain ⟨u179, hu⟩ := hu
    obtain ⟨u180, hu⟩ := hu
    obtain ⟨u181, hu⟩ := hu
    obtain ⟨u182, hu⟩ := hu
    obtain ⟨u183, hu⟩ := hu
    obtain ⟨u184, hu⟩ := hu
    obtain ⟨u185, hu⟩ := hu
    obtain ⟨u186, hu⟩ := hu
    obtain ⟨u187, hu⟩ := hu
    obtain ⟨u188, hu⟩ := hu
    obtain ⟨u189, hu⟩ := hu
    obtain ⟨u190, hu⟩ := hu
    obtain ⟨u191, hu⟩ := hu
    obtain ⟨u192, hu⟩ := hu
    obtain ⟨u193, hu⟩ := hu
    obtain ⟨u194, hu⟩ := hu
    obtain ⟨u195, hu⟩ := hu
    obtain ⟨u196, hu⟩ := hu
    obtain ⟨u197, hu⟩ := hu
    obtain ⟨u198, hu⟩ := hu
    obtain ⟨u199, hu⟩ := hu
    obtain ⟨u200, hu⟩ := hu
    obtain ⟨u201, hu⟩ := hu
    obtain ⟨u202, hu⟩ := hu
    obtain ⟨u203, hu⟩ := hu
    obtain ⟨u204, hu⟩ := hu
    obtain ⟨u205, hu⟩ := hu
    obtain ⟨u206, hu⟩ := hu
    obtain ⟨u207, hu⟩ := hu
    obtain ⟨u208, hu⟩ := hu
    obtain ⟨u209, hu⟩ := hu
    obtain ⟨u210, hu⟩ := hu
    obtain ⟨u211, hu⟩ := hu
    obtain ⟨u212, hu⟩ := hu
    obtain ⟨u213, hu⟩ := hu
    obtain ⟨u214, hu⟩ := hu
    obtain ⟨u215, hu⟩ := hu
    obtain ⟨u216, hu⟩ := hu
    obtain ⟨u217, hu⟩ := hu
    obtain ⟨u218, hu⟩ := hu
    obtain ⟨u219, hu⟩ := hu
    obtain ⟨u220, hu⟩ := hu
    obtain ⟨u221, hu⟩ := hu
    obtain ⟨u222, hu⟩ := hu
    obtain ⟨u223, hu⟩ := hu
    obtain ⟨u224, hu⟩ := hu
    obtain ⟨u225, hu⟩ := hu
    obtain ⟨u226, hu⟩ := hu
    obtain ⟨u227, hu⟩ := hu
    obtain ⟨u228, hu⟩ := hu
    obtain ⟨u229, hu⟩ := hu
    obtain ⟨u230, hu⟩ := hu
    obtain ⟨u231, hu⟩ := hu
    obtain ⟨u232, hu⟩ := hu
    obtain ⟨u233, hu⟩ := hu
    obtain ⟨u234, hu⟩ := hu
    obtain ⟨u235, hu⟩ := hu
    obtain ⟨u236, hu⟩ := hu
    obtain ⟨u237, hu⟩ := hu
    obtain ⟨u238, hu⟩ := hu
    obtain ⟨u239, hu⟩ := hu
    obtain ⟨u240, hu⟩ := hu
    obtain ⟨u241, hu⟩ := hu
    obtain ⟨u242, hu⟩ := hu
    obtain ⟨u243, hu⟩ := hu
    obtain ⟨u244, hu⟩ := hu
    obtain ⟨u245, hu⟩ := hu
    obtain ⟨u246, hu⟩ := hu
    obtain ⟨u247, hu⟩ := hu
    obtain ⟨u248, hu⟩ := hu
    obtain ⟨u249, hu⟩ := hu
    subst hu
    by_cases hi : i < script.length
    · have hq : script[i] % 4 = 0 ∨ script[i] % 4 = 1 ∨ script[i] % 4 = 2 ∨ script[i] % 4 = 3 := by omega
      rcases hq with hq | hq | hq | hq
      · exact once_A script kinds _ _ _ gk J K1 (by exact rfl) hJ hK _ (by intros; first | (go_wp2; go_ret; exact ⟨rfl, by assumption⟩) | (go_ret; exact ⟨rfl, by assumption⟩)) EL HA hl hi hq
      · by_cases hT0 : TS.length = 0
        · exact once_B1v1 script kinds _ _ _ gk J K1 (by exact rfl) hJ hK _ EL HA hl hi hq hT0
        · have hml : (script[i] / 4) % TS.length < TS.length := Nat.mod_lt _ (by omega)
          obtain ⟨j, hj⟩ : ∃ j, j = TS.length - 1 - script[i] / 4 % TS.length := ⟨_, rfl⟩
          have hjl : j < TS.length := by omega
          have hI := HA.out.2.2.2.2.2.1
          have hRq := hI.got hjl
          obtain ⟨mk, mn, hme⟩ := hRq.is
          rw [hme] at hRq
          obtain ⟨a1, k1, hKn⟩ := kn_ex s ⟨3, 4, mk, mn, []⟩
          have hi2 : i ≤ 1000 := by have := hl.out; omega
          rcases hI.known hi2 hRq hKn with ⟨rfl, _⟩ | ⟨rfl, _⟩ | ⟨rfl, _⟩
          · exact once_B1v2 script kinds _ _ _ gk J K1 (by exact rfl) hJ hK _ EL HA hl hi hq hT0 hjl hj hme (Lib.hid hKn)
          · exact once_B1v3 script kinds _ _ _ gk J K1 (by exact rfl) hJ hK _ EL HA hl hi hq hT0 hjl hj hme (Lib.hid hKn)
          · exact once_B1v4 script kinds _ _ _ gk J K1 (by exact rfl) hJ hK _ EL HA hl hi hq hT0 hjl hj hme (Lib.hid hKn)
      · by_cases hT0 : TS.length = 0
        · exact once_B2v1 script kinds _ _ _ gk J K1 (by exact rfl) hJ hK _ EL HA hl hi hq hT0
        · have hml : (script[i] / 4) % TS.length < TS.length := Nat.mod_lt _ (by omega)
          obtain ⟨j, hj⟩ : ∃ j, j = TS.length - 1 - script[i] / 4 % TS.length := ⟨_, rfl⟩
          have hjl : j < TS.length := by omega
          have hI := HA.out.2.2.2.2.2.1
          have hRq := hI.got hjl
          obtain ⟨mk, mn, hme⟩ := hRq.is
          rw [hme] at hRq
          obtain ⟨a1, k1, hKn⟩ := kn_ex s ⟨3, 4, mk, mn, []⟩
          have hi2 : i ≤ 1000 := by have := hl.out; omega
          rcases hI.known hi2 hRq hKn with ⟨rfl, _⟩ | ⟨rfl, _⟩ | ⟨rfl, _⟩
          · exact once_B2v2 script kinds _ _ _ gk J K1 (by exact rfl) hJ hK _ EL HA hl hi hq hT0 hjl hj hme (Lib.hid hKn)
          · exact once_B2v3 script kinds _ _ _ gk J K1 (by exact rfl) hJ hK _ EL HA hl hi hq hT0 hjl hj hme (Lib.hid hKn)
          · exact once_B2v4 script kinds _ _ _ gk J K1 (by exact rfl) hJ hK _ EL HA hl hi hq hT0 hjl hj hme (Lib.hid hKn)
      · by_cases hT0 : TC.length = 0
        · exact once_C1 script kinds _ _ _ gk J K1 (by exact rfl) hJ hK _ (by intro d v x a w' h; cases d <;> exact h) EL HA hl hi hq hT0
        · cases hw : c.wt
          · exact once_C2 script kinds _ _ _ gk J K1 (by exact rfl) hJ hK _ (by intro d v x a w' h; cases d <;> exact h) EL HA hl hi hq hT0 hw
          · exact once_C34 script kinds _ _ _ gk J K1 (by exact rfl) hJ hK _ (by intro d v x a w' h; cases d <;> exact h) EL HA hl hi hq hT0 hw
    · have hgk := Lib.hid HA.out.2.1; have hin := Lib.hid HA.out.1; have hni := Lib.hid HA.out.2.2.1; have hL1 := Lib.hid HA.out.2.2.2.1; have hL2 := Lib.hid HA.out.2.2.2.2.1; have hI := Lib.hid HA.out.2.2.2.2.2.1; have hM := Lib.hid HA.out.2.2.2.2.2.2; clear HA
      have t1 : decide ((i : Int) < (script.length : Int)) = false := decide_eq_false (by omega)
      go_wp2_with (first | (at_range; refine wpList_range_own _ rfl _ 56 rfl 3 3 law Try.underlying56 _ (w3.heap.size + 1 + 1) n dm rfl EL.out.map ?_; intro w0 hrg0 hg0 hs0) | go_in)
      go_frame
      have hws : w.heap.size ≤ wr.heap.size := EL.out.bel.size
      have hB0 : Below w.heap.size w w0 := EL.out.bel.trans ⟨hg0.os, hg0.tape, hg0.output, hg0.size, fun k hk => hg0.block k (by omega) (by simp)⟩
      generalize wr.heap.size = rb at hrg0 hws ⊢
      go_loopw [23] (fun _ wq => ∃ (left : Lit → Bool) (cnt : Nat), wq.ranges Try.prog 3 (plainElem Try.prog 3) (w3.heap.size + 1 + 1) rb n dm left cnt ∧ Below w.heap.size w wq ∧ ∀ k, left k = true → has dm k = true) (fun _ wq => wq.rangeLeft (w3.heap.size + 1 + 1) rb)
      case atStart => exact ⟨_, _, hrg0, hB0, fun _ h => h⟩
      case round =>
        obtain ⟨left, cnt, hrg, hbw, hleft⟩ := hrel
        go_wp2_with (first | (at_next; go_loud (refine wpList_next_ranges_ii _ rfl _ rfl 3 3 .i64 .i64 law Try.underlying3 Try.underlying3 (w3.heap.size + 1 + 1) rb n _ _ _ rfl hrg ?_ ?_)) | go_in)
        · intro _ hl0
          go_wp2
          go_ret
          exact ⟨rfl, hbw⟩
        · intro y c0 wz cnt1 hwx hwc hlx hat hrg1 hlt hg1 hs1 hen
          have hc0 : c0 = 1 := by
            have h1 := (hM.out.2 y).1
            rw [hat] at h1
            simp only [DataW.lit.injEq, Lit.int.injEq, true_and] at h1
            rcases hI.out.d1 y with h2 | h2
            · have := (hM.out.2 y).2 h2
              rw [hleft _ hlx] at this; cases this
            · rw [h1, h2]
          subst hc0
          have hbw1 : Below w.heap.size w wz := hbw.trans ⟨hg1.os, hg1.tape, hg1.output, hg1.size, fun k hk => hg1.block k (Nat.lt_of_lt_of_le hk hbw.size) (by simp; omega)⟩
          go_wp2
          go_roundw
          case rel => exact ⟨_, cnt1, hrg1, hbw1, fun k h => hleft k (by simp only [Bool.and_eq_true] at h; exact h.1)⟩
          case measure => rw [hrg1.left_eq, hrg.left_eq]; exact hlt
set_option maxRecDepth 100000 in
set_option maxHeartbeats 4000000 in
theorem once_long {D : Nat → Prop} (script kinds : List Nat) {xa ya : Option Addr} {xk yk : Nat} {w : World} (hx : Fct.at w D (.bs (.slice xa script.length xk) script)) (hy : Fct.at w D (.bs (.slice ya kinds.length yk) kinds)) (t0 : decide ((200 : Int) < (script.length : Int)) = true) :
    Calls Try.prog 6 #[.slice xa script.length xk, .slice ya kinds.length yk] w fun e w' => e = .returned (.bool true) ∧ Below w.heap.size w w' := by
  have E0 := Lib.hid (((Env.start D w).arg (.bs (.slice xa script.length xk) script) hx).arg (.bs (.slice ya kinds.length yk) kinds) hy)
  clear hx hy
  go_enter Try.func6, Try.ntmps6
  go_wp2_with fail
  refine (awake_c (D := (DF D w.heap.size []))).mono ?_
  rintro e w1 ⟨rfl, hb⟩
  have E1 := Lib.hid (E0.out.below hb)
  clear E0 hb
  have hfin := Lib.hid E1.out.bel
  go_wp2
  go_ret
  exact ⟨rfl, hfin.out⟩
theorem SessionOnce_walk (script kinds : List Nat) {D : Nat → Prop} {xa ya : Option Addr} {xk yk : Nat} {w : World} (hx : Fct.at w D (.bs (.slice xa script.length xk) script)) (hy : Fct.at w D (.bs (.slice ya kinds.length yk) kinds)) :
    Calls Try.prog 6 #[.slice xa script.length xk, .slice ya kinds.length yk] w fun e w' => e = .returned (.bool true) ∧ Below w.heap.size w w' := by
  by_cases h : script.length ≤ 200
  · exact once_main script kinds hx hy (decide_eq_false (by omega)) h
  · exact once_long script kinds hx hy (decide_eq_true (by omega))
end Go.Proofs.Ytbcfcdcomboljaa

/- Picked declarations of VnModR1, VnModR2, VnModMath2, VnModR3, VnModR4, VnModR5, VnModR6, VnL. -/
import Derived.Test.YtikopkkebdobdaaGreatDoorVwB
import Derived.Deep.LoopGhost
import Derived.Deep.RegionHeld3
import Derived.IntWalk
namespace Go.Proofs.YtikopkkebdobdaaGreatDoor
set_option linter.unusedVariables false
set_option linter.unusedSimpArgs false
namespace Nn
open Go.RowKit NatMath
set_option maxHeartbeats 1000000 in
theorem rTrim_c (v : Value) (l : List Nat) (w : World) (h : Sl w v l) :
  Calls Tryz.prog 86 #[v] w fun e w' => RetW (fun _ v' => (∀ W, Sl W v l → Nt W v' (val l)) ∧ v'.ownBlock = v.ownBlock) e w' ∧ Below w.heap.size w w' := by
 obtain ⟨ao, cap, rfl, h1, h2, h3, h4, _⟩ := h
 have hfin : ∀ k : Nat, k ≤ l.length → val (l.take k) = val l → (k = 0 ∨ l.getD (k - 1) 0 ≠ 0) → ∀ W, Sl W (.slice ao l.length cap) l → Nt W (.slice ao k cap) (val l) := by
  intro k hk hv hn W hb
  have hd := digs_take h3 hk hv hn
  obtain ⟨ao', cap', e0, m1, m2, m3, m4, m5⟩ := hb
  obtain ⟨rfl, _, rfl⟩ := Value.slice.inj e0
  unfold Nt
  rw [hd]
  refine ⟨ao, cap, by rw [List.length_take, Nat.min_eq_left hk], by rw [List.length_take]; omega, h2, words_take h3 k, fun hne => ?_, m5⟩
  obtain ⟨b, off, e1, e2, e3⟩ := m4 (by rintro rfl; simp at hne)
  refine ⟨b, off, e1, e2, fun i hi => ?_⟩
  rw [List.length_take] at hi
  rw [getD_take (by omega)]
  exact e3 i (by omega)
 have hval : ∀ k, k < l.length → l.getD k 0 = 0 → val (l.take k) = val (l.take (k + 1)) := fun k hk hz => val_take_zero hk hz
 have hall : val (l.take l.length) = val l := by rw [List.take_length]
 have HF := Zh hfin
 have HV := Zh hval
 have HA := Zh hall
 have H4 := Zh h4
 have hne : Hid (0 < l.length → l ≠ []) := Zh (by rintro h rfl; simp at h)
 have hnl : (l.length : Int) ≤ 9223372036854775807 := by omega
 have hlt : Hid (∀ i, l.getD i 0 < 4294967296) := Zh (by intro i; rw [dig_val h3]; exact dig_lt _ _)
 clear hfin hval hall h3 h4
 generalize hn : l.length = n at *
 clear hn
 go_enter Tryz.func86, Tryz.ntmps86
 go_wp2
 go_loop [0] (fun s0 => ∃ k : Nat, s0 = .slice ao k cap ∧ k ≤ n ∧ Hid (val (l.take k) = val l)) (fun s0 => match s0 with | .slice _ k _ => k | _ => 0)
 case atStart => exact ⟨n, rfl, Nat.le_refl _, HA⟩
 case round =>
  obtain ⟨k, rfl, hk, HI⟩ := hrel
  by_cases h0 : k = 0
  ·have hf0 := HF.out 0 (Nat.zero_le _) (by have := HI.out; rw [h0] at this; exact this) (Or.inl rfl)
   have HF0 := Zh hf0
   subst h0
   clear hf0
   go_wp2
   refine bodyPost_ret (v := .agg #[.slice ao 0 cap]) (by simp [results, Tryz.results86, go_sem]) rfl ⟨⟨_, Zh ⟨HF0.out, ownBlock_slice _ _ _ _ _⟩, rfl⟩, below_one _ _⟩
  ·obtain ⟨j, rfl⟩ : ∃ j, k = j + 1 := ⟨k - 1, by omega⟩
   obtain ⟨b, off, rfl, hb, hc⟩ := H4.out (hne.out (by omega))
   have hcell := hc j (by omega)
   have hu := hlt.out j
   have hvj := HV.out j (by omega)
   by_cases hz : l.getD j 0 = 0
   ·have HI2 : Hid (val (l.take j) = val l) := Zh (by rw [hvj hz]; exact HI.out)
    rw [hz] at hcell
    clear hvj hz hu hc HI
    go_wp2
    go_round
    case rel => exact ⟨j, rfl, by omega, HI2⟩
    case measure => simp
   ·have hfj := HF.out (j + 1) (by omega) HI.out (Or.inr (by rw [Nat.add_sub_cancel]; exact hz))
    have HFJ := Zh hfj
    generalize l.getD j 0 = u at *
    have hb0 : ((u : Int) == 0) = false := by simp; omega
    clear hvj hc HI hfj
    go_wp2
    refine bodyPost_ret (v := .agg #[.slice (some ⟨b, off, none⟩) (j + 1) cap]) (by simp [results, Tryz.results86, go_sem]) rfl ⟨⟨_, Zh ⟨HFJ.out, rfl⟩, rfl⟩, below_one _ _⟩
set_option maxHeartbeats 400000 in
theorem rValid_c (v : Value) (l : List Nat) (w : World) (h : Sl w v l) :
  Calls Tryz.prog 29 #[.agg #[v]] w fun e w' => e = .returned (.bool (vld l)) ∧ Below w.heap.size w w' := by
 obtain ⟨ao, cap, rfl, h1, h2, h3, h4, _⟩ := h
 by_cases k1 : l.length ≤ 64
 ·by_cases k2 : l = []
  ·subst k2
   have hv : vld [] = true := by decide
   rw [hv]
   clear h3 h4
   go_enter Tryz.func29, Tryz.ntmps29
   go_wp2
   go_ret
   exact ⟨rfl, (Below.refl _ _).alloc (Nat.le_refl _) _⟩
  ·obtain ⟨b, off, rfl, hb, hc⟩ := h4 k2
   have hlen : 1 ≤ l.length := by cases l; exact absurd rfl k2; simp
   have hcell := hc (l.length - 1) (by omega)
   have hv : vld l = decide (l.getD (l.length - 1) 0 ≠ 0) := by
    unfold vld; rw [Bool.eq_iff_iff]; simp [k1, k2]
   rw [hv]
   generalize l.getD (l.length - 1) 0 = u at *
   generalize l.length = n at *
   clear h3 h4 hc hv k2
   have g1 : decide ((n : Int) ≤ 64) = true := decide_eq_true (by omega)
   have g2 : ((n : Int) == 0) = false := by simp; omega
   go_enter Tryz.func29, Tryz.ntmps29
   go_wp2
   go_ret
   exact ⟨by simp; rw [Bool.eq_iff_iff]; simp; try omega, (Below.refl _ _).alloc (Nat.le_refl _) _⟩
 ·have hv : vld l = false := decide_eq_false (fun h => k1 h.1)
  rw [hv]
  generalize l.length = n at *
  clear h3 h4 hv
  have g1 : decide ((n : Int) ≤ 64) = false := decide_eq_false (by omega)
  go_enter Tryz.func29, Tryz.ntmps29
  go_wp2
  go_ret
  exact ⟨rfl, (Below.refl _ _).alloc (Nat.le_refl _) _⟩
theorem of_words64 (x : Nat) (hx : x < 18446744073709551616) : words [x % 4294967296, x / 4294967296 % 4294967296] ∧ val [x % 4294967296, x / 4294967296 % 4294967296] = x := by
 refine ⟨words_cons.2 ⟨Nat.mod_lt _ (by omega), words_cons.2 ⟨Nat.mod_lt _ (by omega), words_nil⟩⟩, ?_⟩
 simp only [val]; omega
set_option maxHeartbeats 400000 in
theorem rOf_c (x : Nat) (w : World) (hx : x < 18446744073709551616) :
  Calls Tryz.prog 48 #[.int .u64 x] w fun e w' => RetV x e w' ∧ Below w.heap.size w w' := by
 obtain ⟨hw, hv⟩ := of_words64 x hx
 have HX : Hid (x < 18446744073709551616) := Zh hx
 obtain ⟨a, ha⟩ : ∃ a, a = x % 4294967296 := ⟨_, rfl⟩
 obtain ⟨b, hb⟩ : ∃ b, b = x / 4294967296 % 4294967296 := ⟨_, rfl⟩
 have ea : IntKind.u32.wrap ((x : Int) % 4294967296) = (a : Int) := by rw [IntKind.wrap_u32]; omega
 have eb : IntKind.u32.wrap ((x : Int) / 4294967296) = (b : Int) := by rw [IntKind.wrap_u32]; omega
 have hx0 : 0 ≤ (x : Int) := by omega
 rw [← ha, ← hb] at hw hv
 have HW := Zh hw
 have HV := Zh hv
 clear ha hb hw hv hx
 go_enter Tryz.func48, Tryz.ntmps48
 go_wp2_with fail
 refine (rTrim_c _ [a, b] _ ((Own.two w _ a b).sl HW.out (by simp))).mono ?_; rintro e w1 ⟨⟨v', hv, rfl⟩, hb⟩
 have hz : w.heap.size + 1 < w1.heap.size := by have := hb.size; simp at this; omega
 have hz0 : w.heap.size < w1.heap.size := by omega
 have B1 : Hid (Below w.heap.size w w1) := Zh ((below_two _ _ _).trans (hb.mono (by simp; omega)))
 have f1 := (hb.frozen (p := ⟨w.heap.size, 0, none⟩) (by simp; omega)).trans (by simp : _ = false)
 have f2 := (hb.cell (p := ⟨w.heap.size, 0, none⟩) (by simp; omega)).trans (by simp : _ = some (.slice none 0 0))
 have hN : ∀ Y : Value, Nt (w1.setCell ⟨w.heap.size, 0, none⟩ Y) v' x := fun Y => by
  rw [← HV.out]
  refine hv.out.1 _ ((((Own.two w _ a b).below' hb).setOther (by simp) Y).sl HW.out (by simp))
 obtain ⟨ao, cap, rfl, _⟩ := (hN (.slice none 0 0)).open
 have HN := Zh hN
 clear hb hv hN
 go_wp2
 exact bodyPost_ret (v := .agg #[.slice ao (len x) cap]) (by simp [results, Tryz.results48, go_sem, f2]) rfl ⟨⟨_, _, rfl, Zh (HN.out _)⟩, B1.out.setCell (Nat.le_refl _) _⟩
set_option maxHeartbeats 400000 in
theorem rword_c (v : Value) (l : List Nat) (i : Nat) (w : World) (h : Sl w v l) (hi : (i : Int) ≤ 1000000) :
  Calls Tryz.prog 90 #[.agg #[v], .int .i64 i] w fun e w' => e = .returned (.int .u64 (l.getD i 0 : Nat)) ∧ Below w.heap.size w w' := by
 obtain ⟨ao, cap, rfl, h1, h2, h3⟩ := h.open
 have h4 := getD_lt h.choose_spec.choose_spec.2.2.2.1 i
 by_cases hl : i < l.length
 ·have ht : decide (i < l.length) = true := decide_eq_true hl
  obtain ⟨b, off, rfl, hb, hc⟩ := h3 (by intro e; rw [e] at hl; simp at hl)
  have hc1 := hc i hl
  generalize l.getD i 0 = u at *
  generalize l.length = n at *
  clear h h3 hc
  go_enter Tryz.func90, Tryz.ntmps90
  go_wp2
  go_ret
  exact ⟨rfl, below_one _ _⟩
 ·have ht : decide (i < l.length) = false := decide_eq_false hl
  have hz : l.getD i 0 = 0 := by rw [List.getD_eq_getElem?_getD, List.getElem?_eq_none (by omega)]; rfl
  rw [hz]
  generalize l.length = n at *
  clear h h3 h4 hz
  go_enter Tryz.func90, Tryz.ntmps90
  go_wp2
  go_ret
  exact ⟨rfl, below_one _ _⟩
set_option maxHeartbeats 400000 in
theorem rBit_c (v : Value) (N i : Nat) (w : World) (h : Nt w v N) (hi : (i : Int) ≤ 9223372036854775807) :
  Calls Tryz.prog 55 #[.agg #[v], .int .i64 i] w fun e w' => e = .returned (.bool (bt N i)) ∧ Below w.heap.size w w' := by
 obtain ⟨ao, cap, rfl, h1, h2, h3⟩ := h.open
 have r1 : (i : Int) / 32 = ((i / 32 : Nat) : Int) := by omega
 by_cases hb : 32 * len N ≤ i
 ·rw [bt_above hb]
  have g1 : decide (i / 32 < len N) = false := decide_eq_false (by omega)
  have g2 : decide (((i / 32 : Nat) : Int) < (len N : Int)) = false := decide_eq_false (by omega)
  generalize i / 32 = k at *
  generalize len N = n at *
  clear h h3
  go_enter Tryz.func55, Tryz.ntmps55
  go_wp2
  go_ret
  exact ⟨rfl, below_one _ _⟩
 ·have g1 : decide (i / 32 < len N) = true := decide_eq_true (by omega)
  have g2 : decide (((i / 32 : Nat) : Int) < (len N : Int)) = true := decide_eq_true (by omega)
  have hN : N ≠ 0 := by rintro rfl; rw [len_zero] at hb; omega
  obtain ⟨b, off, rfl, hb, hc⟩ := h3 hN
  have hk : i / 32 < len N := by omega
  have c1 := hc (i / 32) hk
  rw [bt_dig]
  have hs : i % 32 < 32 := Nat.mod_lt _ (by omega)
  have hu := dig_lt N (i / 32)
  have r2 : (i : Int) % 32 = ((i % 32 : Nat) : Int) := by omega
  generalize dig N (i / 32) = u at *
  generalize i / 32 = k at *
  generalize i % 32 = s at *
  have r3 : (u : Int) / 2 ^ s = ((u / 2 ^ s : Nat) : Int) := by simp
  generalize u / 2 ^ s = q at *
  generalize len N = n at *
  clear h h3 hc hN
  go_enter Tryz.func55, Tryz.ntmps55
  go_wp2
  go_ret
  exact ⟨retb (by rw [Bool.eq_iff_iff]; simp; omega), below_one _ _⟩
set_option maxHeartbeats 1000000 in
theorem rBits_c (v : Value) (N : Nat) (w : World) (h : Nt w v N) (hl : len N ≤ 1000000) :
  Calls Tryz.prog 49 #[.agg #[v]] w fun e w' => e = .returned (.int .i64 (bl N : Nat)) ∧ Below w.heap.size w w' := by
 have H := Zh h
 have cB := Zh (fun i W hW hi => rBit_c v N i W hW hi)
 have H0 : Hid (N < 2 ^ (32 * len N)) := Zh (bl_le_iff.1 (len_bl.1 (Nat.le_refl _)))
 obtain ⟨R, hR⟩ : ∃ R, Hid (R = bl N) := ⟨_, Zh rfl⟩
 rw [← hR.out]
 obtain ⟨ao, cap, rfl, _, _, _⟩ := h.open
 clear h
 have e0 : (32 : Int) * (len N : Nat) = ((32 * len N : Nat) : Int) := by omega
 have hm : 32 * len N ≤ 32000000 := by omega
 generalize hL : len N = n at *
 generalize hM : 32 * n = m at *
 clear hL hM
 go_enter Tryz.func49, Tryz.ntmps49
 go_wp2
 go_loopw [3] (fun s3 wr => ∃ k : Nat, s3 = .int .i64 (k : Int) ∧ k ≤ m ∧ Hid (N < 2 ^ k) ∧ Hid (Below w.heap.size w wr) ∧ wr.cell? ⟨w.heap.size, 0, none⟩ = some (.slice ao n cap) ∧ w.heap.size < wr.heap.size) (fun s3 _ => (RowKit.intOf s3).toNat)
 case atStart => exact ⟨m, rfl, Nat.le_refl _, H0, Zh (below_one _ _), box1a _ _ _, by simp⟩
 case round =>
  obtain ⟨k, rfl, hk, HI, HB, p1, q1⟩ := hrel
  by_cases h0 : k = 0
  ·subst h0
   have hr0 : R = 0 := by
    rw [hR.out]; have := HI.out; simp at this; rw [this]; rfl
   subst hr0
   clear hR
   have g1 : decide (0 < (0 : Int)) = false := rfl
   go_wp2
   go_ret
   exact ⟨rfl, HB.out⟩
  ·obtain ⟨j, rfl⟩ : ∃ j, k = j + 1 := ⟨k - 1, by omega⟩
   have g1 : decide (0 < ((j + 1 : Nat) : Int)) = true := decide_eq_true (by omega)
   have g2 : decide (0 < j + 1) = true := decide_eq_true (by omega)
   have ej : (((j + 1 : Nat) : Int) - 1) = (j : Int) := by omega
   go_wp2_with fail
   refine (cB.out j _ (H.out.below' HB.out) (by omega)).mono ?_
   rintro e w1 ⟨rfl, hb1⟩
   have p2 := (hb1.cell (p := ⟨w.heap.size, 0, none⟩) q1).trans p1
   have q2 : w.heap.size < w1.heap.size := Nat.lt_of_lt_of_le q1 hb1.size
   have HB2 := Zh (HB.out.trans (hb1.mono (by omega)))
   clear p1 q1 hb1 HB
   cases ht : bt N j
   ·have HI2 := Zh (bl_down HI.out ht)
    clear ht HI
    go_wp2
    go_roundw
    case rel => exact ⟨j, rfl, by omega, HI2, HB2, p2, q2⟩
    case measure => simp [RowKit.intOf]
   ·have hr1 : R = j + 1 := by rw [hR.out]; exact bl_found HI.out ht
    subst hr1
    clear ht HI hR
    go_wp2
    go_ret
    exact ⟨rfl, HB2.out⟩
set_option maxHeartbeats 1000000 in
theorem rLess_w (ao bo : Option Addr) (ca cb : Nat) (N M : Nat) (w : World) (ha : Nt w (.slice ao (len N) ca) N) (hb : Nt w (.slice bo (len M) cb) M) :
  Calls Tryz.prog 24 #[.agg #[.slice ao (len N) ca], .agg #[.slice bo (len M) cb]] w fun e w' => e = .returned (.bool (decide (N < M))) ∧ Below w.heap.size w w' := by
 by_cases hl : len N = len M
 ·obtain ⟨W0, hW0⟩ : ∃ W0, W0 = (w.alloc (.cells #[.slice ao (len N) ca] 24)).alloc (.cells #[.slice bo (len M) cb] 24) := ⟨_, rfl⟩
  have B0 : Hid (Below w.heap.size w W0) := Zh (by rw [hW0]; exact below_two _ _ _)
  have p1 : W0.cell? ⟨w.heap.size, 0, none⟩ = some (.slice ao (len N) ca) := by rw [hW0]; exact box2a ..
  have p2 : W0.cell? ⟨w.heap.size + 1, 0, none⟩ = some (.slice bo (len M) cb) := by rw [hW0]; exact box2b ..
  obtain ⟨_, _, e1, a1, a2, a3⟩ := (ha.below' B0.out).open
  obtain ⟨_, _, e2, b1, b2, b3⟩ := (hb.below' B0.out).open
  simp only [Value.slice.injEq] at e1 e2
  obtain ⟨rfl, _, rfl⟩ := e1
  obtain ⟨rfl, _, rfl⟩ := e2
  rw [← hl] at b1 b3 p2
  have hne : ((len N : Int) != (len M : Int)) = false := by rw [hl]; simp
  have hst : Hid (N / Bp (len N) = M / Bp (len N)) := Zh (by rw [Nat.div_eq_of_lt (lt_Bp_len N), Nat.div_eq_of_lt (by rw [hl]; exact lt_Bp_len M)])
  have hN0 : len N ≠ 0 → N ≠ 0 ∧ M ≠ 0 := fun h => ⟨fun e => h (len_eq_zero.2 e), fun e => h (by rw [hl]; exact len_eq_zero.2 e)⟩
  obtain ⟨R, hR⟩ : ∃ R, R = decide (N < M) := ⟨_, rfl⟩
  rw [← hR]
  have HR := Zh hR
  have A3 := Zh a3
  have B3 := Zh b3
  have H0 := Zh hN0
  have hn : (len N : Int) ≤ 9223372036854775807 := by omega
  rw [← hl] at hW0 hne ⊢
  have hnn : ((len N : Int) != (len N : Int)) = false := by simp
  clear ha hb hR a3 b3 hN0 hl hne
  generalize len N = n at *
  go_enter Tryz.func24, Tryz.ntmps24
  go_wp2
  rw [← hW0]
  clear hW0
  go_loopw [5] (fun s5 wr => ∃ k : Nat, s5 = .int .i64 ((k : Int) - 1) ∧ (k : Int) ≤ (n : Int) ∧ Hid (N / Bp k = M / Bp k) ∧ Qw W0 wr) (fun s5 _ => (RowKit.intOf s5 + 1).toNat)
  case atStart => exact ⟨n, rfl, Int.le_refl _, hst, Qw.refl _⟩
  case round =>
   obtain ⟨k, rfl, hk, HI, nw, rfl⟩ := hrel
   by_cases h0 : k = 0
   ·have e0 : N = M := cmp_self_step HI.out h0
    have hr0 : R = false := by rw [HR.out, e0]; exact decide_eq_false (Nat.lt_irrefl _)
    have hg : decide (1 ≤ (k : Int)) = false := decide_eq_false (by omega)
    subst h0 hr0
    clear HI HR A3 B3 H0 e0
    go_wp2
    go_ret
    exact ⟨rfl, below_drewN B0.out _⟩
   ·obtain ⟨j, rfl⟩ : ∃ j, k = j + 1 := ⟨k - 1, by omega⟩
    obtain ⟨n1, n2⟩ := H0.out (by omega)
    obtain ⟨ba, offa, rfl, s1, ca1⟩ := A3.out n1
    obtain ⟨bb, offb, rfl, s2, cb1⟩ := B3.out n2
    have c1 := ca1 j (by omega)
    have c2 := cb1 j (by omega)
    have d1 := dig_lt N j
    have d2 := dig_lt M j
    have hstep := fun h => cmp_eq_step (n := N) (m := M) (i := j) HI.out h
    have hlt := fun h => cmp_lt (n := N) (m := M) (i := j) HI.out h
    have hgt := fun h => cmp_lt (n := M) (m := N) (i := j) HI.out.symm h
    have CA := Zh ca1
    have CB := Zh cb1
    have ej : (((j + 1 : Nat) : Int) - 1) = (j : Int) := by omega
    rw [ej]
    generalize dig N j = x at *
    generalize dig M j = y at *
    have hjn : (j : Int) < (n : Int) := by omega
    have hj1 : decide (0 ≤ (j : Int)) = true := decide_eq_true (by omega)
    rcases Nat.lt_trichotomy x y with hxy | hxy | hxy
    ·have hr : R = true := by rw [HR.out]; exact decide_eq_true (hlt hxy)
     have g1 : decide (x < y) = true := decide_eq_true hxy
     have g2 : ((x : Int) != (y : Int)) = true := by simp; omega
     clear hstep hlt hgt HI HR A3 B3 H0 CA CB ca1 cb1 n1 n2 hk ej
     subst hr
     go_wp2
     go_quiet (fail)
     go_wp2
     go_quiet (fail)
     go_wp2
     go_ret
     exact ⟨rfl, (Qw.drewN (Qw.drewN ⟨nw, rfl⟩ _) _).below _ |> fun h => B0.out.trans h⟩
    ·have HS := Zh (hstep hxy)
     have g2 : ((x : Int) != (y : Int)) = false := by simp; omega
     clear hstep hlt hgt HI CA CB ca1 cb1 n1 n2 ej hxy
     go_wp2
     go_quiet (fail)
     go_wp2
     go_roundw
     case rel => exact ⟨j, rfl, by omega, HS, _, rfl⟩
     case measure => simp [RowKit.intOf]
    ·have hr : R = false := by rw [HR.out]; exact decide_eq_false (by have := hgt hxy; omega)
     have g1 : decide (x < y) = false := decide_eq_false (by omega)
     have g2 : ((x : Int) != (y : Int)) = true := by simp; omega
     clear hstep hlt hgt HI HR A3 B3 H0 CA CB ca1 cb1 n1 n2 hk ej
     subst hr
     go_wp2
     go_quiet (fail)
     go_wp2
     go_quiet (fail)
     go_wp2
     go_ret
     exact ⟨rfl, (Qw.drewN (Qw.drewN ⟨nw, rfl⟩ _) _).below _ |> fun h => B0.out.trans h⟩
 ·have ht0 : ((len N : Int) != (len M : Int)) = true := by simp; omega
  have hr : decide (N < M) = decide (len N < len M) := by
   by_cases h : len N < len M
   ·rw [decide_eq_true h, decide_eq_true (cmp_len h)]
   ·rw [decide_eq_false h, decide_eq_false (by have : M < N := cmp_len (by omega); omega)]
  rw [hr]
  clear ha hb hr hl
  generalize len N = n at *
  generalize len M = m at *
  go_enter Tryz.func24, Tryz.ntmps24
  go_wp2
  go_ret
  exact ⟨rfl, below_two _ _ _⟩
theorem rLess_c {a b : Value} {N M : Nat} {t : Bool} {w : World} (ht : decide (N < M) = t) (ha : Nt w a N) (hb : Nt w b M) :
  Calls Tryz.prog 24 #[.agg #[a], .agg #[b]] w fun e w' => e = .returned (.bool t) ∧ Below w.heap.size w w' := by
 subst ht
 obtain ⟨ao, ca, rfl, _⟩ := ha.open
 obtain ⟨bo, cb, rfl, _⟩ := hb.open
 exact rLess_w ao bo ca cb N M w ha hb
set_option maxRecDepth 100000 in
set_option maxHeartbeats 1000000 in
theorem rSame_lt (ao : Option Addr) (ca : Nat) (bo : Option Addr) (cb : Nat) (N M : Nat)  (w : World) (ha : Nt w (.slice ao (len N) ca) N) (hb : Nt w (.slice bo (len M) cb) M) (h : N < M) :
  Calls Tryz.prog 30 #[.agg #[.slice ao (len N) ca], .agg #[.slice bo (len M) cb]] w fun e w' => e = .returned (.bool false) ∧ Below w.heap.size w w' := by
 have C1 := Zh (fun W ha hb => @rLess_c (.slice ao (len N) ca) (.slice bo (len M) cb) N M true W (by exact decide_eq_true h) ha hb)
 clear h
 have E0 := Zh (((EnvB.start w).numN ha).numN hb)
 clear ha hb
 go_enter Tryz.func30, Tryz.ntmps30
 go_wp2_with fail
 have E1 := Zh (((E0.out.push (.slice ao (len N) ca) 24 ⟨_, _, _, rfl⟩ (w.heap.size) (by simp)).push (.slice bo (len M) cb) 24 ⟨_, _, _, rfl⟩ (w.heap.size + 1) (by simp)))
 refine (C1.out _ (E1.out.nt 1 rfl) (E1.out.nt 0 rfl)).mono ?_
 rintro e w1 ⟨rfl, hb⟩
 have E2 := Zh ((E1.out.below hb))
 clear E1 E0 hb
 have hfin := Zh E2.out.1
 go_wp2
 go_ret
 exact ⟨rfl, hfin.out⟩
set_option maxRecDepth 100000 in
set_option maxHeartbeats 1000000 in
theorem rSame_gt (ao : Option Addr) (ca : Nat) (bo : Option Addr) (cb : Nat) (N M : Nat)  (w : World) (ha : Nt w (.slice ao (len N) ca) N) (hb : Nt w (.slice bo (len M) cb) M) (h : M < N) :
  Calls Tryz.prog 30 #[.agg #[.slice ao (len N) ca], .agg #[.slice bo (len M) cb]] w fun e w' => e = .returned (.bool false) ∧ Below w.heap.size w w' := by
 have C1 := Zh (fun W ha hb => @rLess_c (.slice ao (len N) ca) (.slice bo (len M) cb) N M false W (by exact decide_eq_false (by omega)) ha hb)
 have C2 := Zh (fun W ha hb => @rLess_c (.slice bo (len M) cb) (.slice ao (len N) ca) M N true W (by exact decide_eq_true h) ha hb)
 clear h
 have E0 := Zh (((EnvB.start w).numN ha).numN hb)
 clear ha hb
 go_enter Tryz.func30, Tryz.ntmps30
 go_wp2_with fail
 have E1 := Zh (((E0.out.push (.slice ao (len N) ca) 24 ⟨_, _, _, rfl⟩ (w.heap.size) (by simp)).push (.slice bo (len M) cb) 24 ⟨_, _, _, rfl⟩ (w.heap.size + 1) (by simp)))
 refine (C1.out _ (E1.out.nt 1 rfl) (E1.out.nt 0 rfl)).mono ?_
 rintro e w1 ⟨rfl, hb⟩
 have E2 := Zh ((E1.out.below hb))
 clear E1 E0 hb
 obtain ⟨p1, f1, -, -, -⟩ := E2.out.box 0 rfl
 obtain ⟨p2, f2, -, -, -⟩ := E2.out.box 1 rfl
 go_wp2_with fail
 refine (C2.out _ (E2.out.nt 0 rfl) (E2.out.nt 1 rfl)).mono ?_
 rintro e w2 ⟨rfl, hb⟩
 have E3 := Zh ((E2.out.below hb))
 clear p1 f1 p2 f2 E2 hb
 have hfin := Zh E3.out.1
 go_wp2
 go_ret
 exact ⟨rfl, hfin.out⟩
set_option maxRecDepth 100000 in
set_option maxHeartbeats 1000000 in
theorem rSame_eq (ao : Option Addr) (ca : Nat) (bo : Option Addr) (cb : Nat) (N M : Nat)  (w : World) (ha : Nt w (.slice ao (len N) ca) N) (hb : Nt w (.slice bo (len M) cb) M) (h : N = M) :
  Calls Tryz.prog 30 #[.agg #[.slice ao (len N) ca], .agg #[.slice bo (len M) cb]] w fun e w' => e = .returned (.bool true) ∧ Below w.heap.size w w' := by
 have C1 := Zh (fun W ha hb => @rLess_c (.slice ao (len N) ca) (.slice bo (len M) cb) N M false W (by exact decide_eq_false (by omega)) ha hb)
 have C2 := Zh (fun W ha hb => @rLess_c (.slice bo (len M) cb) (.slice ao (len N) ca) M N false W (by exact decide_eq_false (by omega)) ha hb)
 clear h
 have E0 := Zh (((EnvB.start w).numN ha).numN hb)
 clear ha hb
 go_enter Tryz.func30, Tryz.ntmps30
 go_wp2_with fail
 have E1 := Zh (((E0.out.push (.slice ao (len N) ca) 24 ⟨_, _, _, rfl⟩ (w.heap.size) (by simp)).push (.slice bo (len M) cb) 24 ⟨_, _, _, rfl⟩ (w.heap.size + 1) (by simp)))
 refine (C1.out _ (E1.out.nt 1 rfl) (E1.out.nt 0 rfl)).mono ?_
 rintro e w1 ⟨rfl, hb⟩
 have E2 := Zh ((E1.out.below hb))
 clear E1 E0 hb
 obtain ⟨p1, f1, -, -, -⟩ := E2.out.box 0 rfl
 obtain ⟨p2, f2, -, -, -⟩ := E2.out.box 1 rfl
 go_wp2_with fail
 refine (C2.out _ (E2.out.nt 0 rfl) (E2.out.nt 1 rfl)).mono ?_
 rintro e w2 ⟨rfl, hb⟩
 have E3 := Zh ((E2.out.below hb))
 clear p1 f1 p2 f2 E2 hb
 have hfin := Zh E3.out.1
 go_wp2
 go_ret
 exact ⟨rfl, hfin.out⟩
theorem rSame_c {a b : Value} {N M : Nat} {t : Bool} {w : World} (ht : decide (N = M) = t) (ha : Nt w a N) (hb : Nt w b M) :
  Calls Tryz.prog 30 #[.agg #[a], .agg #[b]] w fun e w' => e = .returned (.bool t) ∧ Below w.heap.size w w' := by
 subst ht
 obtain ⟨ao, ca, rfl, _⟩ := ha.open
 obtain ⟨bo, cb, rfl, _⟩ := hb.open
 rcases Nat.lt_trichotomy N M with h | h | h
 ·rw [decide_eq_false (by omega)]; exact rSame_lt ao ca bo cb N M w ha hb h
 ·rw [decide_eq_true h]; exact rSame_eq ao ca bo cb N M w ha hb h
 ·rw [decide_eq_false (by omega)]; exact rSame_gt ao ca bo cb N M w ha hb h
end Nn
namespace Nn
open Go.RowKit NatMath
theorem u64_in (z : Int) (h : 0 ≤ z ∧ z < 18446744073709551616) : IntKind.u64.wrap z = z := by rw [IntKind.wrap_u64]; omega
theorem rword_two (v a b : Value) (l : List Nat) (i p q : Nat) (W0 Wr : World) (h : Sl W0 v l) (h0 : Below W0.heap.size W0 Wr) (hi : (i : Int) ≤ 1000000) (hp : p < Wr.heap.size) (hq : q < Wr.heap.size)
  (h1 : Wr.cell? ⟨p, 0, none⟩ = some a) (h2 : Wr.cell? ⟨q, 0, none⟩ = some b) (W : World) (hW : Below Wr.heap.size Wr W) :
  Calls Tryz.prog 90 #[.agg #[v], .int .i64 i] W fun e w' => e = .returned (.int .u64 (l.getD i 0 : Nat)) ∧ Hid (Below Wr.heap.size Wr w') ∧ w'.cell? ⟨p, 0, none⟩ = some a ∧ w'.cell? ⟨q, 0, none⟩ = some b := by
 refine (rword_c v l i W (h.below' (h0.trans (hW.mono h0.size))) hi).mono ?_
 rintro e w' ⟨rfl, hb⟩
 have hB : Below Wr.heap.size Wr w' := hW.trans (hb.mono hW.size)
 exact ⟨rfl, Zh hB, (hB.cell hp).trans h1, (hB.cell hq).trans h2⟩
theorem car_done {N M k : Nat} (h1 : N < Bp k) (h2 : M < Bp k) (h : car N M k = 0) : N + M < Bp k := by
 unfold car at h
 rw [Nat.mod_eq_of_lt h1, Nat.mod_eq_of_lt h2] at h
 have := Bp_pos k
 exact (Nat.div_eq_zero_iff_lt this).1 h
set_option maxRecDepth 100000 in
set_option maxHeartbeats 2000000 in
theorem rPlus_w (a b : Value) (N M S : Nat) (w : World) (hS : N + M = S) (ha : Nt w a N) (hb : Nt w b M) (h1 : len N ≤ 10000) (h2 : len M ≤ 10000) :
  Calls Tryz.prog 52 #[.agg #[a], .agg #[b]] w fun e w' => RetV S e w' ∧ Below w.heap.size w w' := by
 have WA := Zh (fun i Wr h0 hi hp hq k1 k2 W hW => rword_two a a b (digs N) i w.heap.size (w.heap.size + 1) w Wr ha h0 hi hp hq k1 k2 W hW)
 have WB := Zh (fun i Wr h0 hi hp hq k1 k2 W hW => rword_two b a b (digs M) i w.heap.size (w.heap.size + 1) w Wr hb h0 hi hp hq k1 k2 W hW)
 obtain ⟨ao, ca, rfl, a1, a2, _⟩ := ha.open
 obtain ⟨bo, cb, rfl, b1, b2, _⟩ := hb.open
 have l1 : (len N : Int) ≤ 10000 := by omega
 have l2 : (len M : Int) ≤ 10000 := by omega
 have HS := Zh hS
 obtain ⟨n, hn⟩ : ∃ n, n = max (len N) (len M) := ⟨_, rfl⟩
 have hn1 : len N ≤ n := by omega
 have hn2 : len M ≤ n := by omega
 have hn3 : n ≤ 10000 := by omega
 have hn4 : Hid (∀ k, ¬ k < len N → ¬ k < len M → n ≤ k) := Zh (by omega)
 have HBN : Hid (∀ k, n ≤ k → N < Bp k ∧ M < Bp k) := Zh (fun k hk => ⟨len_le_iff.1 (by omega), len_le_iff.1 (by omega)⟩)
 have HTOP : Hid (∀ k, n < k → car N M k = 0) := Zh (fun k hk => by
  have h1 : N < Bp n := len_le_iff.1 hn1
  have h2 : M < Bp n := len_le_iff.1 hn2
  have h3 : Bp (n + 1) ≤ Bp k := Bp_le hk
  rw [Bp_succ] at h3
  unfold car
  rw [Nat.mod_eq_of_lt (by omega), Nat.mod_eq_of_lt (by omega)]
  exact Nat.div_eq_of_lt (by omega))
 clear ha hb h1 h2 hS hn
 generalize len N = n1 at *
 generalize len M = n2 at *
 obtain ⟨W0, hW0⟩ : ∃ W0, W0 = ((w.alloc (.cells #[.slice ao (n1) ca] 24)).alloc (.cells #[.slice bo (n2) cb] 24)).alloc (.cells #[.slice none 0 0] 24) := ⟨_, rfl⟩
 have B0 : Hid (Below w.heap.size w W0) := Zh (by rw [hW0]; exact below_three _ _ _ _)
 have z0 : W0.heap.size = w.heap.size + 3 := by rw [hW0]; simp
 have x0 : Hid (W0.cell? ⟨w.heap.size, 0, none⟩ = some (.slice ao (n1) ca) ∧ W0.cell? ⟨w.heap.size + 1, 0, none⟩ = some (.slice bo (n2) cb) ∧ W0.cell? ⟨w.heap.size + 1 + 1, 0, none⟩ = some (.slice none 0 0) ∧ W0.frozen? ⟨w.heap.size + 1 + 1, 0, none⟩ = false) := Zh (by rw [hW0]; exact box3 ..)
 go_enter Tryz.func52, Tryz.ntmps52
 go_wp2
 rw [← hW0]
 clear hW0
 go_loopw [7, 5, 6, 8] (fun s7 s5 s6 _ wr => ∃ k : Nat, s7 = .int .i64 (k : Int) ∧ s6 = .int .u64 (car N M k : Nat) ∧ k ≤ n + 1 ∧ Hid (OwnV wr W0.heap.size s5 (lst (dig S) k)) ∧ Hid (Below W0.heap.size W0 wr)) (fun s7 _ _ _ _ => (n + 1 - RowKit.intOf s7).toNat)
 case atStart => exact ⟨0, rfl, by rw [car_zero]; rfl, Nat.zero_le _, Zh (OwnV.nil _ _), Zh (Below.refl _ _)⟩
 case round =>
  obtain ⟨k, rfl, rfl, hk, hO, hB⟩ := hrel
  obtain ⟨x1, x2, x3, x4⟩ := x0.out
  have f1 := (hB.out.cell (p := ⟨w.heap.size, 0, none⟩) (by dsimp only; omega)).trans x1
  have f2 := (hB.out.cell (p := ⟨w.heap.size + 1, 0, none⟩) (by dsimp only; omega)).trans x2
  have f3 := (hB.out.cell (p := ⟨w.heap.size + 1 + 1, 0, none⟩) (by dsimp only; omega)).trans x3
  have f4 := (hB.out.frozen (p := ⟨w.heap.size + 1 + 1, 0, none⟩) (by dsimp only; omega)).trans x4
  have zr : w.heap.size + 3 ≤ wr.heap.size := by have := hB.out.size; omega
  have hBW : Hid (Below w.heap.size w wr) := Zh (B0.out.trans (hB.out.mono (by omega)))
  clear x1 x2 x3 x4
  by_cases c0 : (k < n1 ∨ k < n2) ∨ 0 < car N M k
  ·have hkn : k ≤ n := by
    apply Nat.le_of_not_lt; intro h
    have := HTOP.out k h
    omega
   have CA := WA.out k wr hBW.out (by omega) (by omega) (by omega) f1 f2
   have CB := WB.out k wr hBW.out (by omega) (by omega) (by omega) f1 f2
   rw [dig_digs] at CA CB
   have hxb := dig_lt N k
   have hyb := dig_lt M k
   have hcb := car_le N M k
   have ed := dig_add N M k
   have ec := car_step N M k
   rw [HS.out] at ed
   have HD := Zh ed
   have HC := Zh ec
   have ht : decide (k < n1) = true ∨ (decide (k < n1) = false ∧ decide (k < n2) = true) ∨ (decide (k < n1) = false ∧ decide (k < n2) = false ∧ decide (0 < car N M k) = true) := by
    by_cases h : k < n1
    ·exact Or.inl (decide_eq_true h)
    ·by_cases h2 : k < n2
     ·exact Or.inr (Or.inl ⟨decide_eq_false h, decide_eq_true h2⟩)
     ·exact Or.inr (Or.inr ⟨decide_eq_false h, decide_eq_false h2, decide_eq_true (by omega)⟩)
   clear ed ec c0
   generalize dig N k = x at *
   generalize dig M k = y at *
   generalize car N M k = c at *
   have KA := Zh CA
   have KB := Zh CB
   have hd0 : Hid (Below wr.heap.size wr wr.drew) := Zh (below_drewN (Below.refl _ _) 1)
   clear CA CB
   have q1 : IntKind.u64.wrap ((x : Int) + (y : Int)) = (x : Int) + (y : Int) := u64_in _ (by omega)
   have q2 : IntKind.u64.wrap ((x : Int) + (y : Int) + (c : Int)) = ((x + y + c : Nat) : Int) := by rw [u64_in _ (by omega)]; omega
   obtain ⟨s, hs⟩ : ∃ s, s = x + y + c := ⟨_, rfl⟩
   rw [← hs] at q2 HD HC
   obtain ⟨u, hu⟩ : ∃ u, u = s % 4294967296 := ⟨_, rfl⟩
   obtain ⟨c2, hc2⟩ : ∃ c2, c2 = s / 4294967296 := ⟨_, rfl⟩
   have q3 : (s : Int) % 4294967296 = (u : Int) := by omega
   have q4 : (s : Int) / 4294967296 = (c2 : Int) := by omega
   have hub : (u : Int) < 4294967296 := by omega
   have hsb : (s : Int) ≤ 8589934592 := by omega
   rw [← hu] at HD
   rw [← hc2] at HC
   clear hu hc2 hs
   rcases ht with ht | ⟨ht, ht2⟩ | ⟨ht, ht2, ht3⟩
   ·go_wp2_with fail
    go_region_held3 (fun w' => w'.cell? ⟨w.heap.size, 0, none⟩ = some (.slice ao n1 ca) ∧ w'.cell? ⟨w.heap.size + 1, 0, none⟩ = some (.slice bo n2 cb) ∧ Hid (Below wr.heap.size wr w')) (first | exact ⟨p1, p2, hb1⟩ | exact ⟨f1, f2, hd0⟩)
     (first | (go_at_call_of 90 (Value.slice ao n1 ca); refine (KA.out _ ?_).mono ?_; (first | exact hb1.out | exact hd0.out); rintro e w1 ⟨rfl, hb1, p1, p2⟩) | (go_at_call_of 90 (Value.slice bo n2 cb); refine (KB.out _ ?_).mono ?_; (first | exact hb1.out | exact hd0.out); rintro e w1 ⟨rfl, hb1, p1, p2⟩))
    have hO1 := Zh ((hO.out.below hb1.out).below (below_one w1 (.cells #[.int .u32 (u : Int)] 74)))
    have hs1 : W0.heap.size ≤ w1.heap.size := by have := hb1.out.size; omega
    have hll : (lst (dig S) k).length ≤ 1000000 := by rw [lst_length]; omega
    have hB1 : Hid (Below W0.heap.size W0 (w1.alloc (.cells #[.int .u32 (u : Int)] 74))) := Zh (hB.out.trans ((hb1.out.mono (by omega)).alloc hs1 _))
    clear q1 q2 KA KB f1 f2 f3 f4 p1 p2
    go_wp2_with (at_builtin; go_loud (refine wpList_push _ rfl _ _ rfl W0.heap.size _ (lst (dig S) k) u rfl hO1.out ⟨w1.heap.size, 0, none⟩ _ rfl (box1a _ _ _) (by omega) hll (by simp; omega) ?_; intro v2 w2 hv2 hb2))
    rw [← HD.out, ← lst_succ] at hv2
    have HV := Zh hv2
    have HB2 := Zh (hB1.out.trans hb2)
    clear hv2 hb2
    go_roundw
    case rel => exact ⟨k + 1, by go_num, by rw [HC.out], by omega, HV, HB2⟩
    case measure => simp [RowKit.intOf]; omega
   ·go_wp2_with fail
    go_region_held3 (fun w' => w'.cell? ⟨w.heap.size, 0, none⟩ = some (.slice ao n1 ca) ∧ w'.cell? ⟨w.heap.size + 1, 0, none⟩ = some (.slice bo n2 cb) ∧ Hid (Below wr.heap.size wr w')) (first | exact ⟨p1, p2, hb1⟩ | exact ⟨f1, f2, hd0⟩)
     (first | (go_at_call_of 90 (Value.slice ao n1 ca); refine (KA.out _ ?_).mono ?_; (first | exact hb1.out | exact hd0.out); rintro e w1 ⟨rfl, hb1, p1, p2⟩) | (go_at_call_of 90 (Value.slice bo n2 cb); refine (KB.out _ ?_).mono ?_; (first | exact hb1.out | exact hd0.out); rintro e w1 ⟨rfl, hb1, p1, p2⟩))
    have hO1 := Zh ((hO.out.below hb1.out).below (below_one w1 (.cells #[.int .u32 (u : Int)] 74)))
    have hs1 : W0.heap.size ≤ w1.heap.size := by have := hb1.out.size; omega
    have hll : (lst (dig S) k).length ≤ 1000000 := by rw [lst_length]; omega
    have hB1 : Hid (Below W0.heap.size W0 (w1.alloc (.cells #[.int .u32 (u : Int)] 74))) := Zh (hB.out.trans ((hb1.out.mono (by omega)).alloc hs1 _))
    clear q1 q2 KA KB f1 f2 f3 f4 p1 p2
    go_wp2_with (at_builtin; go_loud (refine wpList_push _ rfl _ _ rfl W0.heap.size _ (lst (dig S) k) u rfl hO1.out ⟨w1.heap.size, 0, none⟩ _ rfl (box1a _ _ _) (by omega) hll (by simp; omega) ?_; intro v2 w2 hv2 hb2))
    rw [← HD.out, ← lst_succ] at hv2
    have HV := Zh hv2
    have HB2 := Zh (hB1.out.trans hb2)
    clear hv2 hb2
    go_roundw
    case rel => exact ⟨k + 1, by go_num, by rw [HC.out], by omega, HV, HB2⟩
    case measure => simp [RowKit.intOf]; omega
   ·have ht3' : decide (0 < (c : Int)) = true := by simpa using ht3
    go_wp2_with fail
    go_region_held3 (fun w' => w'.cell? ⟨w.heap.size, 0, none⟩ = some (.slice ao n1 ca) ∧ w'.cell? ⟨w.heap.size + 1, 0, none⟩ = some (.slice bo n2 cb) ∧ Hid (Below wr.heap.size wr w')) (first | exact ⟨p1, p2, hb1⟩ | exact ⟨f1, f2, hd0⟩)
     (first | (go_at_call_of 90 (Value.slice ao n1 ca); refine (KA.out _ ?_).mono ?_; (first | exact hb1.out | exact hd0.out); rintro e w1 ⟨rfl, hb1, p1, p2⟩) | (go_at_call_of 90 (Value.slice bo n2 cb); refine (KB.out _ ?_).mono ?_; (first | exact hb1.out | exact hd0.out); rintro e w1 ⟨rfl, hb1, p1, p2⟩))
    have hO1 := Zh ((hO.out.below hb1.out).below (below_one w1 (.cells #[.int .u32 (u : Int)] 74)))
    have hs1 : W0.heap.size ≤ w1.heap.size := by have := hb1.out.size; omega
    have hll : (lst (dig S) k).length ≤ 1000000 := by rw [lst_length]; omega
    have hB1 : Hid (Below W0.heap.size W0 (w1.alloc (.cells #[.int .u32 (u : Int)] 74))) := Zh (hB.out.trans ((hb1.out.mono (by omega)).alloc hs1 _))
    clear q1 q2 KA KB f1 f2 f3 f4 p1 p2
    go_wp2_with (at_builtin; go_loud (refine wpList_push _ rfl _ _ rfl W0.heap.size _ (lst (dig S) k) u rfl hO1.out ⟨w1.heap.size, 0, none⟩ _ rfl (box1a _ _ _) (by omega) hll (by simp; omega) ?_; intro v2 w2 hv2 hb2))
    rw [← HD.out, ← lst_succ] at hv2
    have HV := Zh hv2
    have HB2 := Zh (hB1.out.trans hb2)
    clear hv2 hb2
    go_roundw
    case rel => exact ⟨k + 1, by go_num, by rw [HC.out], by omega, HV, HB2⟩
    case measure => simp [RowKit.intOf]; omega
  ·have t1 : decide (k < n1) = false := decide_eq_false (by omega)
   have t2 : decide (k < n2) = false := decide_eq_false (by omega)
   have hc0 : car N M k = 0 := by omega
   have t3 : decide (0 < car N M k) = false := decide_eq_false (by omega)
   have hnk := hn4.out k (by omega) (by omega)
   have HSB : S < Bp k := by rw [← HS.out]; exact car_done (HBN.out k hnk).1 (HBN.out k hnk).2 hc0
   rw [hc0]
   clear t3 c0 hc0
   go_wp2_with fail
   refine (rTrim_c u5 _ wr hO.out.sl).mono ?_
   rw [lst_fill, fill_val HSB]
   rintro e w3 ⟨⟨v3, hv3, rfl⟩, hb3⟩
   have HB3 : Below W0.heap.size W0 w3 := hB.out.trans (hb3.mono hB.out.size)
   obtain ⟨x1, x2, x3, x4⟩ := x0.out
   have r3 := (HB3.cell (p := ⟨w.heap.size + 1 + 1, 0, none⟩) (by dsimp only; omega)).trans x3
   have r4 := (HB3.frozen (p := ⟨w.heap.size + 1 + 1, 0, none⟩) (by dsimp only; omega)).trans x4
   have z3 : w.heap.size + 1 + 1 < w3.heap.size := by have := HB3.size; omega
   have hO3 := hO.out.below hb3
   rw [lst_fill] at hO3
   have hN : ∀ Y : Value, Nt (w3.setCell ⟨w.heap.size + 1 + 1, 0, none⟩ Y) v3 S := fun Y => hv3.out.1 _ (hO3.set (a := ⟨w.heap.size + 1 + 1, 0, none⟩) (by dsimp only; omega) Y).sl
   obtain ⟨a3, c3, rfl, _⟩ := (hN (.slice none 0 0)).open
   have hBf : Below w.heap.size w (w3.setCell ⟨w.heap.size + 1 + 1, 0, none⟩ (.slice a3 (len S) c3)) := (B0.out.trans (HB3.mono (by omega))).setCell (by dsimp only; omega) _
   have HN := Zh (hN (.slice a3 (len S) c3))
   have HBF := Zh hBf
   clear hN hBf HB3 hb3 hv3 hO3 x1 x2 x3 x4 f1 f2 f3 f4
   go_wp2
   exact bodyPost_ret (v := .agg #[.slice a3 (len S) c3]) (by simp [results, Tryz.results52, go_sem, r3]) rfl ⟨⟨a3, c3, rfl, Zh HN.out⟩, HBF.out⟩
set_option maxRecDepth 100000 in
set_option maxHeartbeats 2000000 in
theorem rMinus_w (a b : Value) (N M S : Nat) (w : World) (hS : N - M = S) (ha : Nt w a N) (hb : Nt w b M) (h1 : len N ≤ 10000) (h2 : len M ≤ 10000) (hl : M ≤ N) :
  Calls Tryz.prog 91 #[.agg #[a], .agg #[b]] w fun e w' => RetV S e w' ∧ Below w.heap.size w w' := by
 have WA := Zh (fun i Wr h0 hi hp hq k1 k2 W hW => rword_two a a b (digs N) i w.heap.size (w.heap.size + 1) w Wr ha h0 hi hp hq k1 k2 W hW)
 have WB := Zh (fun i Wr h0 hi hp hq k1 k2 W hW => rword_two b a b (digs M) i w.heap.size (w.heap.size + 1) w Wr hb h0 hi hp hq k1 k2 W hW)
 obtain ⟨ao, ca, rfl, a1, a2, _⟩ := ha.open
 obtain ⟨bo, cb, rfl, b1, b2, _⟩ := hb.open
 have l1 : (len N : Int) ≤ 10000 := by omega
 have l2 : (len M : Int) ≤ 10000 := by omega
 have HS := Zh hS
 have hlm := len_mono hl
 have HL := Zh hl
 have HSB0 : Hid (S < Bp (len N)) := Zh (Nat.lt_of_le_of_lt (by rw [← hS]; exact Nat.sub_le _ _) (lt_Bp_len N))
 clear ha hb h1 hl hS
 generalize len N = n1 at *
 generalize len M = n2 at *
 obtain ⟨W0, hW0⟩ : ∃ W0, W0 = ((w.alloc (.cells #[.slice ao (n1) ca] 24)).alloc (.cells #[.slice bo (n2) cb] 24)).alloc (.cells #[.slice none 0 0] 24) := ⟨_, rfl⟩
 have B0 : Hid (Below w.heap.size w W0) := Zh (by rw [hW0]; exact below_three _ _ _ _)
 have z0 : W0.heap.size = w.heap.size + 3 := by rw [hW0]; simp
 have x0 : Hid (W0.cell? ⟨w.heap.size, 0, none⟩ = some (.slice ao (n1) ca) ∧ W0.cell? ⟨w.heap.size + 1, 0, none⟩ = some (.slice bo (n2) cb) ∧ W0.cell? ⟨w.heap.size + 1 + 1, 0, none⟩ = some (.slice none 0 0) ∧ W0.frozen? ⟨w.heap.size + 1 + 1, 0, none⟩ = false) := Zh (by rw [hW0]; exact box3 ..)
 go_enter Tryz.func91, Tryz.ntmps91
 go_wp2
 rw [← hW0]
 clear hW0
 go_loopw [7, 5, 6, 8] (fun s7 s5 s6 _ wr => ∃ k : Nat, s7 = .int .i64 (k : Int) ∧ s6 = .int .u64 (bor N M k : Nat) ∧ k ≤ n1 ∧ Hid (OwnV wr W0.heap.size s5 (lst (dig S) k)) ∧ Hid (Below W0.heap.size W0 wr)) (fun s7 _ _ _ _ => (n1 - RowKit.intOf s7).toNat)
 case atStart => exact ⟨0, rfl, by rw [bor_zero]; rfl, Nat.zero_le _, Zh (OwnV.nil _ _), Zh (Below.refl _ _)⟩
 case round =>
  obtain ⟨k, rfl, rfl, hk, hO, hB⟩ := hrel
  obtain ⟨x1, x2, x3, x4⟩ := x0.out
  have f1 := (hB.out.cell (p := ⟨w.heap.size, 0, none⟩) (by dsimp only; omega)).trans x1
  have f2 := (hB.out.cell (p := ⟨w.heap.size + 1, 0, none⟩) (by dsimp only; omega)).trans x2
  have f3 := (hB.out.cell (p := ⟨w.heap.size + 1 + 1, 0, none⟩) (by dsimp only; omega)).trans x3
  have f4 := (hB.out.frozen (p := ⟨w.heap.size + 1 + 1, 0, none⟩) (by dsimp only; omega)).trans x4
  have zr : w.heap.size + 3 ≤ wr.heap.size := by have := hB.out.size; omega
  have hBW : Hid (Below w.heap.size w wr) := Zh (B0.out.trans (hB.out.mono (by omega)))
  clear x1 x2 x3 x4
  by_cases c0 : k < n1
  ·have CA := WA.out k wr hBW.out (by omega) (by omega) (by omega) f1 f2
   have CB := WB.out k wr hBW.out (by omega) (by omega) (by omega) f1 f2
   rw [dig_digs] at CA CB
   have hxb := dig_lt N k
   have hyb := dig_lt M k
   have hcb := bor_le N M k
   have ed := dig_sub N M k HL.out
   have ec := bor_step N M k
   rw [HS.out] at ed
   have HD := Zh ed
   have HC := Zh ec
   have ht : decide (k < n1) = true := decide_eq_true c0
   clear ed ec
   generalize dig N k = x at *
   generalize dig M k = y at *
   generalize bor N M k = c at *
   have KA := Zh CA
   have KB := Zh CB
   have hd0 : Hid (Below wr.heap.size wr wr.drew) := Zh (below_drewN (Below.refl _ _) 1)
   clear CA CB
   have q1 : IntKind.u64.wrap ((x : Int) + 4294967296) = (x : Int) + 4294967296 := u64_in _ (by omega)
   have q2 : IntKind.u64.wrap ((x : Int) + 4294967296 - (y : Int)) = (x : Int) + 4294967296 - (y : Int) := u64_in _ (by omega)
   obtain ⟨s, hs⟩ : ∃ s, s = x + 4294967296 - y - c := ⟨_, rfl⟩
   have q5 : IntKind.u64.wrap ((x : Int) + 4294967296 - (y : Int) - (c : Int)) = (s : Int) := by rw [u64_in _ (by omega)]; omega
   obtain ⟨u, hu⟩ : ∃ u, u = (x + 8589934592 - y - c) % 4294967296 := ⟨_, rfl⟩
   obtain ⟨g, hg⟩ : ∃ g, g = s / 4294967296 := ⟨_, rfl⟩
   have q3 : (s : Int) % 4294967296 = (u : Int) := by omega
   have q4 : (s : Int) / 4294967296 = (g : Int) := by omega
   obtain ⟨c2, hc2⟩ : ∃ c2, c2 = (if x < y + c then 1 else 0 : Nat) := ⟨_, rfl⟩
   have q6 : IntKind.u64.wrap (1 - (g : Int)) = (c2 : Int) := by
    have : g ≤ 1 := by omega
    rw [u64_in _ (by omega), hc2]
    split <;> omega
   have hub : (u : Int) < 4294967296 := by omega
   have hsb : (s : Int) ≤ 8589934592 := by omega
   rw [← hu] at HD
   rw [← hc2] at HC
   clear hu hc2 hs hg
   skip
   go_wp2_with fail
   go_region_held3 (fun w' => w'.cell? ⟨w.heap.size, 0, none⟩ = some (.slice ao n1 ca) ∧ w'.cell? ⟨w.heap.size + 1, 0, none⟩ = some (.slice bo n2 cb) ∧ Hid (Below wr.heap.size wr w')) (first | exact ⟨p1, p2, hb1⟩ | exact ⟨f1, f2, hd0⟩)
    (first | (go_at_call_of 90 (Value.slice ao n1 ca); refine (KA.out _ ?_).mono ?_; (first | exact hb1.out | exact hd0.out); rintro e w1 ⟨rfl, hb1, p1, p2⟩) | (go_at_call_of 90 (Value.slice bo n2 cb); refine (KB.out _ ?_).mono ?_; (first | exact hb1.out | exact hd0.out); rintro e w1 ⟨rfl, hb1, p1, p2⟩))
   have hO1 := Zh ((hO.out.below hb1.out).below (below_one w1 (.cells #[.int .u32 (u : Int)] 74)))
   have hs1 : W0.heap.size ≤ w1.heap.size := by have := hb1.out.size; omega
   have hll : (lst (dig S) k).length ≤ 1000000 := by rw [lst_length]; omega
   have hB1 : Hid (Below W0.heap.size W0 (w1.alloc (.cells #[.int .u32 (u : Int)] 74))) := Zh (hB.out.trans ((hb1.out.mono (by omega)).alloc hs1 _))
   clear q1 q2 q5 KA KB f1 f2 f3 f4 p1 p2
   go_wp2_with (at_builtin; go_loud (refine wpList_push _ rfl _ _ rfl W0.heap.size _ (lst (dig S) k) u rfl hO1.out ⟨w1.heap.size, 0, none⟩ _ rfl (box1a _ _ _) (by omega) hll (by simp; omega) ?_; intro v2 w2 hv2 hb2))
   rw [← HD.out, ← lst_succ] at hv2
   have HV := Zh hv2
   have HB2 := Zh (hB1.out.trans hb2)
   clear hv2 hb2
   go_roundw
   case rel => exact ⟨k + 1, by go_num, by rw [HC.out], by omega, HV, HB2⟩
   case measure => simp [RowKit.intOf]; omega
  ·obtain rfl : n1 = k := by omega
   have ht1 : decide (n1 < n1) = false := decide_eq_false (by omega)
   have HSB := HSB0.out
   go_wp2_with fail
   refine (rTrim_c u5 _ wr hO.out.sl).mono ?_
   rw [lst_fill, fill_val HSB]
   rintro e w3 ⟨⟨v3, hv3, rfl⟩, hb3⟩
   have HB3 : Below W0.heap.size W0 w3 := hB.out.trans (hb3.mono hB.out.size)
   obtain ⟨x1, x2, x3, x4⟩ := x0.out
   have r3 := (HB3.cell (p := ⟨w.heap.size + 1 + 1, 0, none⟩) (by dsimp only; omega)).trans x3
   have r4 := (HB3.frozen (p := ⟨w.heap.size + 1 + 1, 0, none⟩) (by dsimp only; omega)).trans x4
   have z3 : w.heap.size + 1 + 1 < w3.heap.size := by have := HB3.size; omega
   have hO3 := hO.out.below hb3
   rw [lst_fill] at hO3
   have hN : ∀ Y : Value, Nt (w3.setCell ⟨w.heap.size + 1 + 1, 0, none⟩ Y) v3 S := fun Y => hv3.out.1 _ (hO3.set (a := ⟨w.heap.size + 1 + 1, 0, none⟩) (by dsimp only; omega) Y).sl
   obtain ⟨a3, c3, rfl, _⟩ := (hN (.slice none 0 0)).open
   have hBf : Below w.heap.size w (w3.setCell ⟨w.heap.size + 1 + 1, 0, none⟩ (.slice a3 (len S) c3)) := (B0.out.trans (HB3.mono (by omega))).setCell (by dsimp only; omega) _
   have HN := Zh (hN (.slice a3 (len S) c3))
   have HBF := Zh hBf
   clear hN hBf HB3 hb3 hv3 hO3 x1 x2 x3 x4 f1 f2 f3 f4
   go_wp2
   exact bodyPost_ret (v := .agg #[.slice a3 (len S) c3]) (by simp [results, Tryz.results91, go_sem, r3]) rfl ⟨⟨a3, c3, rfl, Zh HN.out⟩, HBF.out⟩
end Nn
namespace Nn.NatMath
def b1 (t : Bool) : Nat := if t then 1 else 0
theorem half_bit (M j : Nat) : M / 2 ^ j = 2 * (M / 2 ^ (j + 1)) + b1 (bt M j) := by
 have e1 : M / 2 ^ (j + 1) = M / 2 ^ j / 2 := by rw [Nat.pow_succ, Nat.div_div_eq_div_mul]
 unfold bt b1
 rw [e1]
 generalize M / 2 ^ j = h
 by_cases hh : h % 2 = 1
 ·rw [if_pos (by simpa using hh)]; omega
 ·rw [if_neg (by simpa using hh)]; omega
/-- the value behind the bits from k on -/
def BitI (V : Nat → Nat) (n k P g : Nat) : Prop := g = k ∧ k ≤ n ∧ P = V k
theorem BitI.start {V : Nat → Nat} {n P : Nat} (h : V n = P) : BitI V n n P n := ⟨rfl, Nat.le_refl _, h.symm⟩
theorem top_zero (M : Nat) : M / 2 ^ bl M = 0 := Nat.div_eq_of_lt (lt_two_bl M)
theorem mulV_step (N M K j : Nat) (t : Bool) (ht : bt M j = t) : N * (M / 2 ^ j) % K = (if t then ((N * (M / 2 ^ (j + 1)) % K + N * (M / 2 ^ (j + 1)) % K) % K + N) % K else (N * (M / 2 ^ (j + 1)) % K + N * (M / 2 ^ (j + 1)) % K) % K) := by
 rw [half_bit M j, ht]
 generalize M / 2 ^ (j + 1) = h
 cases t
 ·simp only [b1, Bool.false_eq_true, if_false, Nat.add_zero]
  rw [← Nat.add_mod]; congr 1; grind
 ·simp only [b1, if_true]
  rw [← Nat.add_mod, Nat.mod_add_mod]; congr 1; grind
theorem modV_step (N K j : Nat) (t : Bool) (ht : bt N j = t) : N / 2 ^ j % K = (if t then ((N / 2 ^ (j + 1) % K + N / 2 ^ (j + 1) % K) % K + 1) % K else (N / 2 ^ (j + 1) % K + N / 2 ^ (j + 1) % K) % K) := by
 have := mulV_step 1 N K j t ht
 rw [Nat.one_mul, Nat.one_mul] at this
 exact this
theorem timesV_step (N M j : Nat) (t : Bool) (ht : bt M j = t) : N * (M / 2 ^ j) = (if t then N * (M / 2 ^ (j + 1)) + N * (M / 2 ^ (j + 1)) + N else N * (M / 2 ^ (j + 1)) + N * (M / 2 ^ (j + 1))) := by
 rw [half_bit M j, ht]
 generalize M / 2 ^ (j + 1) = h
 cases t
 ·simp only [b1, Bool.false_eq_true, if_false, Nat.add_zero]; grind
 ·simp only [b1, if_true]; grind
/-- quotient and remainder of the bits from k on -/
def OvI (N M n k Q R g : Nat) : Prop := g = k ∧ k ≤ n ∧ Q = N / 2 ^ k / M ∧ R = N / 2 ^ k % M
theorem OvI.start (N M : Nat) : OvI N M (bl N) (bl N) 0 0 (bl N) := ⟨rfl, Nat.le_refl _, by rw [top_zero, Nat.zero_div], by rw [top_zero, Nat.zero_mod]⟩
theorem over_step {N M n j Q R g : Nat} (h : OvI N M n (j + 1) Q R g) (hM : M ≠ 0) (t : Bool) (ht : bt N j = t) :
  (M ≤ R + R + b1 t → OvI N M n j (Q + Q + 1) (R + R + b1 t - M) j) ∧ (¬ M ≤ R + R + b1 t → OvI N M n j (Q + Q) (R + R + b1 t) j) := by
 obtain ⟨_, h2, h3, h4⟩ := h
 have e := half_bit N j
 rw [ht] at e
 have hd := Nat.div_add_mod (N / 2 ^ (j + 1)) M
 have hr := Nat.mod_lt (N / 2 ^ (j + 1)) (Nat.pos_of_ne_zero hM)
 rw [← h3, ← h4] at hd
 rw [← h4] at hr
 have hb : b1 t ≤ 1 := by cases t <;> simp [b1]
 generalize N / 2 ^ (j + 1) = X at *
 have hX : N / 2 ^ j = M * (Q + Q) + (R + R + b1 t) := by rw [e, ← hd]; grind
 have hX2 : N / 2 ^ j = (R + R + b1 t) + M * (Q + Q) := by rw [hX]; exact Nat.add_comm _ _
 refine ⟨fun hle => ⟨rfl, by omega, ?_, ?_⟩, fun hle => ⟨rfl, by omega, ?_, ?_⟩⟩
 ·rw [hX, show M * (Q + Q) + (R + R + b1 t) = (R + R + b1 t - M) + M * (Q + Q + 1) from by rw [Nat.mul_succ]; omega, Nat.add_mul_div_left _ _ (Nat.pos_of_ne_zero hM), Nat.div_eq_of_lt (by omega)]; omega
 ·rw [hX, show M * (Q + Q) + (R + R + b1 t) = (R + R + b1 t - M) + M * (Q + Q + 1) from by rw [Nat.mul_succ]; omega, Nat.add_mul_mod_self_left, Nat.mod_eq_of_lt (by omega)]
 ·rw [hX2, Nat.add_mul_div_left _ _ (Nat.pos_of_ne_zero hM), Nat.div_eq_of_lt (by omega)]; omega
 ·rw [hX2, Nat.add_mul_mod_self_left, Nat.mod_eq_of_lt (by omega)]
theorem add_mod_lt {a b m : Nat} (ha : a < m) (hb : b < m) : (a + b) % m = if a + b < m then a + b else a + b - m := by
 split
 ·exact Nat.mod_eq_of_lt (by assumption)
 ·rw [Nat.mod_eq_sub_mod (by omega), Nat.mod_eq_of_lt (by omega)]
end Nn.NatMath
namespace Nn
open Go.RowKit NatMath
section
variable {a b : Value} {N M S : Nat} {w : World}
theorem rPlus_c (hS : N + M = S) (h1 : len N ≤ 10000) (h2 : len M ≤ 10000) (ha : Nt w a N) (hb : Nt w b M) :
  Calls Tryz.prog 52 #[.agg #[a], .agg #[b]] w fun e w' => RetV S e w' ∧ Below w.heap.size w w' := rPlus_w a b N M S w hS ha hb h1 h2
theorem rMinus_c (hS : N - M = S) (hl : M ≤ N) (h1 : len N ≤ 10000) (ha : Nt w a N) (hb : Nt w b M) :
  Calls Tryz.prog 91 #[.agg #[a], .agg #[b]] w fun e w' => RetV S e w' ∧ Below w.heap.size w w' := rMinus_w a b N M S w hS ha hb h1 (Nat.le_trans (len_mono hl) h1) hl
end
set_option maxRecDepth 100000 in
set_option maxHeartbeats 1000000 in
theorem rAdd_lt (ao : Option Addr) (ca : Nat) (bo : Option Addr) (cb : Nat) (co : Option Addr) (cc : Nat) (N M K : Nat)  (w : World) (ha : Nt w (.slice ao (len N) ca) N) (hb : Nt w (.slice bo (len M) cb) M) (hc : Nt w (.slice co (len K) cc) K) (hn : N < K) (hm : M < K) (hk : len K ≤ 5000) (hlt : N + M < K) :
  Calls Tryz.prog 54 #[.agg #[.slice ao (len N) ca], .agg #[.slice bo (len M) cb], .agg #[.slice co (len K) cc]] w fun e w' => RetV (N + M) e w' ∧ Below w.heap.size w w' := by
 have k1 := len_le_of_lt hn hk
 have k2 := len_le_of_lt hm hk
 have k3 : len (N + M) ≤ 10000 := len_add_le k1 k2 (by omega)
 have CP := Zh (fun W ha hb => @rPlus_c (.slice ao (len N) ca) (.slice bo (len M) cb) N M (N + M) W rfl (by omega) (by omega) ha hb)
 have CL := Zh (fun (v : Value) W ha hb => @rLess_c v (.slice co (len K) cc) (N + M) K true W (decide_eq_true hlt) ha hb)
 clear hn hm hk hlt k1 k2 k3
 generalize N + M = S at *
 have E0 := Zh ((((EnvB.start w).numN ha).numN hb).numN hc)
 clear ha hb hc
 go_enter Tryz.func54, Tryz.ntmps54
 go_wp2_with fail
 have E1 := Zh (((((E0.out.push (.slice ao (len N) ca) 24 ⟨_, _, _, rfl⟩ (w.heap.size) (by simp)).push (.slice bo (len M) cb) 24 ⟨_, _, _, rfl⟩ (w.heap.size + 1) (by simp)).push (.slice co (len K) cc) 24 ⟨_, _, _, rfl⟩ (w.heap.size + 1 + 1) (by simp)).push (.slice none 0 0) 24 ⟨_, _, _, rfl⟩ (w.heap.size + 1 + 1 + 1) (by simp)))
 refine (CP.out _ (E1.out.nt 2 rfl) (E1.out.nt 1 rfl)).mono ?_
 rintro e w1 ⟨⟨sa, sk, rfl, hs⟩, hb⟩
 have E2 := Zh (((E1.out.below hb).numN (hs.out : Nt _ _ S)))
 clear E1 E0 hb hs
 have E3 := Zh ((E2.out.push (.slice sa (len S) sk) 24 ⟨_, _, _, rfl⟩ (w1.heap.size) (by simp)))
 obtain ⟨p1, f1, -, -, -⟩ := E3.out.box 2 rfl
 go_wp2_with fail
 refine (CL.out _ _ (E3.out.nt 0 rfl) (E3.out.nt 1 rfl)).mono ?_
 rintro e w2 ⟨rfl, hb⟩
 have E4 := Zh ((E3.out.below hb))
 clear p1 f1 E3 E2 hb
 obtain ⟨p2, f2, -, -, -⟩ := E4.out.box 0 rfl
 obtain ⟨p3, f3, -, -, -⟩ := E4.out.box 1 rfl
 have E5 : Hid (EnvB w [(w1.heap.size, .slice sa (len S) sk), (w.heap.size + 1 + 1 + 1, .slice sa (len S) sk), (w.heap.size + 1 + 1, .slice co (len K) cc), (w.heap.size + 1, .slice bo (len M) cb), (w.heap.size, .slice ao (len N) ca)] [(.slice sa (len S) sk, digs S), (.slice co (len K) cc, digs K), (.slice bo (len M) cb, digs M), (.slice ao (len N) ca, digs N)] _) := Zh ((E4.out.set 1 (.slice sa (len S) sk) rfl ⟨_, _, _, rfl⟩))
 have hfin := Zh E5.out
 obtain ⟨rc, -, -, -, -⟩ := E5.out.box 1 rfl
 go_wp2
 exact bodyPost_ret (v := .agg #[.slice sa (len S) sk]) (by simp [results, Tryz.results54, go_sem, rc]) rfl ⟨⟨_, _, rfl, Zh (hfin.out.nt 0 rfl)⟩, hfin.out.1⟩
set_option maxRecDepth 100000 in
set_option maxHeartbeats 1000000 in
theorem rAdd_ge (ao : Option Addr) (ca : Nat) (bo : Option Addr) (cb : Nat) (co : Option Addr) (cc : Nat) (N M K : Nat)  (w : World) (ha : Nt w (.slice ao (len N) ca) N) (hb : Nt w (.slice bo (len M) cb) M) (hc : Nt w (.slice co (len K) cc) K) (hn : N < K) (hm : M < K) (hk : len K ≤ 5000) (hlt : ¬ N + M < K) :
  Calls Tryz.prog 54 #[.agg #[.slice ao (len N) ca], .agg #[.slice bo (len M) cb], .agg #[.slice co (len K) cc]] w fun e w' => RetV (N + M - K) e w' ∧ Below w.heap.size w w' := by
 have k1 := len_le_of_lt hn hk
 have k2 := len_le_of_lt hm hk
 have k3 : len (N + M) ≤ 10000 := len_add_le k1 k2 (by omega)
 have CP := Zh (fun W ha hb => @rPlus_c (.slice ao (len N) ca) (.slice bo (len M) cb) N M (N + M) W rfl (by omega) (by omega) ha hb)
 have CL := Zh (fun (v : Value) W ha hb => @rLess_c v (.slice co (len K) cc) (N + M) K false W (decide_eq_false hlt) ha hb)
 have CM := Zh (fun (v : Value) W ha hb => @rMinus_c v (.slice co (len K) cc) (N + M) K (N + M - K) W rfl (by omega) k3 ha hb)
 clear hn hm hk hlt k1 k2 k3
 generalize N + M - K = D at *
 generalize N + M = S at *
 have E0 := Zh ((((EnvB.start w).numN ha).numN hb).numN hc)
 clear ha hb hc
 go_enter Tryz.func54, Tryz.ntmps54
 go_wp2_with fail
 have E1 := Zh (((((E0.out.push (.slice ao (len N) ca) 24 ⟨_, _, _, rfl⟩ (w.heap.size) (by simp)).push (.slice bo (len M) cb) 24 ⟨_, _, _, rfl⟩ (w.heap.size + 1) (by simp)).push (.slice co (len K) cc) 24 ⟨_, _, _, rfl⟩ (w.heap.size + 1 + 1) (by simp)).push (.slice none 0 0) 24 ⟨_, _, _, rfl⟩ (w.heap.size + 1 + 1 + 1) (by simp)))
 refine (CP.out _ (E1.out.nt 2 rfl) (E1.out.nt 1 rfl)).mono ?_
 rintro e w1 ⟨⟨sa, sk, rfl, hs⟩, hb⟩
 have E2 := Zh (((E1.out.below hb).numN (hs.out : Nt _ _ S)))
 clear E1 E0 hb hs
 have E3 := Zh ((E2.out.push (.slice sa (len S) sk) 24 ⟨_, _, _, rfl⟩ (w1.heap.size) (by simp)))
 obtain ⟨p1, f1, -, -, -⟩ := E3.out.box 2 rfl
 go_wp2_with fail
 refine (CL.out _ _ (E3.out.nt 0 rfl) (E3.out.nt 1 rfl)).mono ?_
 rintro e w2 ⟨rfl, hb⟩
 have E4 := Zh ((E3.out.below hb))
 clear p1 f1 E3 E2 hb
 obtain ⟨p2, f2, -, -, -⟩ := E4.out.box 0 rfl
 obtain ⟨p3, f3, -, -, -⟩ := E4.out.box 2 rfl
 go_wp2_with fail
 refine (CM.out _ _ (E4.out.nt 0 rfl) (E4.out.nt 1 rfl)).mono ?_
 rintro e w3 ⟨⟨da, dk, rfl, hd⟩, hb⟩
 have E5 := Zh (((E4.out.below hb).numN (hd.out : Nt _ _ D)))
 clear p2 f2 p3 f3 E4 hb hd
 obtain ⟨p4, f4, -, -, -⟩ := E5.out.box 1 rfl
 have E6 : Hid (EnvB w [(w1.heap.size, .slice sa (len S) sk), (w.heap.size + 1 + 1 + 1, .slice da (len D) dk), (w.heap.size + 1 + 1, .slice co (len K) cc), (w.heap.size + 1, .slice bo (len M) cb), (w.heap.size, .slice ao (len N) ca)] [(.slice da (len D) dk, digs D), (.slice sa (len S) sk, digs S), (.slice co (len K) cc, digs K), (.slice bo (len M) cb, digs M), (.slice ao (len N) ca, digs N)] _) := Zh ((E5.out.set 1 (.slice da (len D) dk) rfl ⟨_, _, _, rfl⟩))
 have hfin := Zh E6.out
 obtain ⟨rc, -, -, -, -⟩ := E6.out.box 1 rfl
 go_wp2
 exact bodyPost_ret (v := .agg #[.slice da (len D) dk]) (by simp [results, Tryz.results54, go_sem, rc]) rfl ⟨⟨_, _, rfl, Zh (hfin.out.nt 0 rfl)⟩, hfin.out.1⟩
theorem rAdd_c {a b c : Value} {N M K r : Nat} {w : World} (hr : (N + M) % K = r) (hn : N < K) (hm : M < K) (hk : len K ≤ 5000) (ha : Nt w a N) (hb : Nt w b M) (hc : Nt w c K) :
  Calls Tryz.prog 54 #[.agg #[a], .agg #[b], .agg #[c]] w fun e w' => RetV r e w' ∧ Below w.heap.size w w' := by
 obtain ⟨ao, ca, rfl, _⟩ := ha.open
 obtain ⟨bo, cb, rfl, _⟩ := hb.open
 obtain ⟨co, cc, rfl, _⟩ := hc.open
 rw [add_mod_lt hn hm] at hr
 subst hr
 split
 ·exact rAdd_lt ao ca bo cb co cc N M K w ha hb hc hn hm hk (by assumption)
 ·exact rAdd_ge ao ca bo cb co cc N M K w ha hb hc hn hm hk (by assumption)
set_option maxRecDepth 100000 in
set_option maxHeartbeats 1000000 in
theorem rSub_lt (ao : Option Addr) (ca : Nat) (bo : Option Addr) (cb : Nat) (co : Option Addr) (cc : Nat) (N M K : Nat)  (w : World) (ha : Nt w (.slice ao (len N) ca) N) (hb : Nt w (.slice bo (len M) cb) M) (hc : Nt w (.slice co (len K) cc) K) (hn : N < K) (hm : M < K) (hk : len K ≤ 5000) (hlt : N < M) :
  Calls Tryz.prog 78 #[.agg #[.slice ao (len N) ca], .agg #[.slice bo (len M) cb], .agg #[.slice co (len K) cc]] w fun e w' => RetV (N + K - M) e w' ∧ Below w.heap.size w w' := by
 have k1 := len_le_of_lt hn hk
 have k2 := len_le_of_lt hm hk
 have k3 : len (N + K) ≤ 10000 := len_add_le k1 hk (by omega)
 have CL := Zh (fun W ha hb => @rLess_c (.slice ao (len N) ca) (.slice bo (len M) cb) N M true W (decide_eq_true hlt) ha hb)
 have CP := Zh (fun W ha hb => @rPlus_c (.slice ao (len N) ca) (.slice co (len K) cc) N K (N + K) W rfl (by omega) (by omega) ha hb)
 have CM := Zh (fun (v : Value) W ha hb => @rMinus_c v (.slice bo (len M) cb) (N + K) M (N + K - M) W rfl (by omega) k3 ha hb)
 clear hn hm hk hlt k1 k2 k3
 generalize N + K - M = D at *
 generalize N + K = S at *
 have E0 := Zh ((((EnvB.start w).numN ha).numN hb).numN hc)
 clear ha hb hc
 go_enter Tryz.func78, Tryz.ntmps78
 go_wp2_with fail
 have E1 := Zh (((((E0.out.push (.slice ao (len N) ca) 24 ⟨_, _, _, rfl⟩ (w.heap.size) (by simp)).push (.slice bo (len M) cb) 24 ⟨_, _, _, rfl⟩ (w.heap.size + 1) (by simp)).push (.slice co (len K) cc) 24 ⟨_, _, _, rfl⟩ (w.heap.size + 1 + 1) (by simp)).push (.slice none 0 0) 24 ⟨_, _, _, rfl⟩ (w.heap.size + 1 + 1 + 1) (by simp)))
 refine (CL.out _ (E1.out.nt 2 rfl) (E1.out.nt 1 rfl)).mono ?_
 rintro e w1 ⟨rfl, hb⟩
 have E2 := Zh ((E1.out.below hb))
 clear E1 E0 hb
 go_wp2_with fail
 have bx0 := Zh (E2.out.box 3 rfl)
 have bx1 := Zh (E2.out.box 1 rfl)
 have bx2 := Zh (E2.out.box 2 rfl)
 refine' wp_region_phase (by kernel_rfl) [0, 1, 2, 3, 4] (by kernel_rfl) #[true, true, true, true, true, false] (by kernel_rfl) 1 (by kernel_rfl) [PEq (.agg #[.slice ao (len N) ca]), PEq (.agg #[.slice co (len K) cc]), PNum (S), PEq (.agg #[.slice bo (len M) cb]), PNum (D), Fact.none] (List.forall_mem_cons.2 ⟨PEq.st _, List.forall_mem_cons.2 ⟨PEq.st _, List.forall_mem_cons.2 ⟨PNum.st _, List.forall_mem_cons.2 ⟨PEq.st _, List.forall_mem_cons.2 ⟨PNum.st _, List.forall_mem_cons.2 ⟨Fact.none_st, List.forall_mem_nil _⟩⟩⟩⟩⟩⟩) _ ?hFr1 ?stepr1 ?doner1
 case hFr1 => intro x; simp only [frameL, Act.put, List.setIfInBounds_toArray, List.set_cons_zero, List.set_cons_succ, Nat.zero_add, Nat.reduceAdd]; exact rfl
 case stepr1 =>
  refine List.forall_mem_cons.2 ⟨?_, ?_⟩
  ·intro xv bv ev WW hB hdp
   refine op_of rfl ?_
   clear hdp
   intro KK hKK
   obtain ⟨z, -, -, -, -⟩ := bx0.out.below hB
   go_simp
   exact act_eq (hKK.out (.agg #[.slice ao (len N) ca]) _ (Below.refl _ _) rfl) (by first | rfl | simp [upd])
  refine List.forall_mem_cons.2 ⟨?_, ?_⟩
  ·intro xv bv ev WW hB hdp
   refine op_of rfl ?_
   clear hdp
   intro KK hKK
   obtain ⟨z, -, -, -, -⟩ := bx1.out.below hB
   go_simp
   exact act_eq (hKK.out (.agg #[.slice co (len K) cc]) _ (Below.refl _ _) rfl) (by first | rfl | simp [upd])
  refine List.forall_mem_cons.2 ⟨?_, ?_⟩
  ·intro xv bv ev WW hB hdp
   refine op_of rfl ?_
   have ed0 : xv 0 = .agg #[.slice ao (len N) ca] := hdp 0 (by kernel_rfl)
   have ed1 : xv 1 = .agg #[.slice co (len K) cc] := hdp 1 (by kernel_rfl)
   clear hdp
   intro KK hKK
   go_simp
   refine (CP.out _ ((E2.out.below hB).nt 2 rfl) ((E2.out.below hB).nt 0 rfl)).mono ?_
   rintro e WW' ⟨⟨sa, sk, rfl, hs⟩, hb⟩
   (try dsimp only)
   (try simp only [Act.put, List.setIfInBounds_toArray, List.set_cons_zero, List.set_cons_succ])
   exact act_eq (hKK.out _ _ hb ⟨_, _, rfl, hs⟩) (by first | rfl | simp [upd, ed0, ed1])
  refine List.forall_mem_cons.2 ⟨?_, ?_⟩
  ·intro xv bv ev WW hB hdp
   refine op_of rfl ?_
   clear hdp
   intro KK hKK
   obtain ⟨z, -, -, -, -⟩ := bx2.out.below hB
   go_simp
   exact act_eq (hKK.out (.agg #[.slice bo (len M) cb]) _ (Below.refl _ _) rfl) (by first | rfl | simp [upd])
  refine List.forall_mem_cons.2 ⟨?_, ?_⟩
  ·intro xv bv ev WW hB hdp
   refine op_of rfl ?_
   obtain ⟨sa, sk, ed2, hs⟩ := (show (PNum (S)) (xv 2) (bv 2) (ev 2) WW from hdp 2 (by kernel_rfl))
   have ed3 : xv 3 = .agg #[.slice bo (len M) cb] := hdp 3 (by kernel_rfl)
   clear hdp
   intro KK hKK
   go_simp
   refine (CM.out _ _ hs.out ((E2.out.below hB).nt 1 rfl)).mono ?_
   rintro e WW' ⟨⟨da, dk, rfl, hd⟩, hb⟩
   (try dsimp only)
   (try simp only [Act.put, List.setIfInBounds_toArray, List.set_cons_zero, List.set_cons_succ])
   exact act_eq (hKK.out _ _ hb ⟨_, _, rfl, hd⟩) (by first | rfl | simp [upd, ed2, ed3])
  exact List.forall_mem_nil _
 intro xv bv ev w2 hB hR hO
 have ed0 : xv 0 = .agg #[.slice ao (len N) ca] := hR 0 (by kernel_rfl)
 have ed1 : xv 1 = .agg #[.slice co (len K) cc] := hR 1 (by kernel_rfl)
 obtain ⟨sa, sk, ed2, hs⟩ := (show (PNum (S)) (xv 2) (bv 2) (ev 2) w2 from hR 2 (by kernel_rfl))
 have ed3 : xv 3 = .agg #[.slice bo (len M) cb] := hR 3 (by kernel_rfl)
 obtain ⟨da, dk, ed4, hd⟩ := (show (PNum (D)) (xv 4) (bv 4) (ev 4) w2 from hR 4 (by kernel_rfl))
 simp only [ed0, ed1, ed2, ed3, ed4]
 have E3 := Zh ((((E2.out.below hB).numN (hs.out : Nt _ _ (S))).numN (hd.out : Nt _ _ (D))))
 clear E2 hB hR hO bx0 bx1 bx2 ed0 ed1 ed2 ed3 ed4 hs hd
 obtain ⟨p1, f1, -, -, -⟩ := E3.out.box 0 rfl
 refine wpAny_next (i := 5) (by kernel_rfl) rfl (fun KK hKK => ?_)
 go_simp
 have E4 : Hid (EnvB w [(w.heap.size + 1 + 1 + 1, .slice da (len D) dk), (w.heap.size + 1 + 1, .slice co (len K) cc), (w.heap.size + 1, .slice bo (len M) cb), (w.heap.size, .slice ao (len N) ca)] [(.slice da (len D) dk, digs D), (.slice sa (len S) sk, digs S), (.slice co (len K) cc, digs K), (.slice bo (len M) cb, digs M), (.slice ao (len N) ca, digs N)] _) := Zh ((E3.out.set 0 (.slice da (len D) dk) rfl ⟨_, _, _, rfl⟩))
 refine hKK.out _ _ ?_
 clear hKK KK
 refine wpAny_done (by kernel_rfl) ?_ _
 have E5 := Zh (E4.out)
 have hfin := Zh E5.out
 obtain ⟨rc, -, -, -, -⟩ := E5.out.box 0 rfl
 go_wp2
 exact bodyPost_ret (v := .agg #[.slice da (len D) dk]) (by simp [results, Tryz.results78, go_sem, rc]) rfl ⟨⟨_, _, rfl, Zh (hfin.out.nt 0 rfl)⟩, hfin.out.1⟩
set_option maxRecDepth 100000 in
set_option maxHeartbeats 1000000 in
theorem rSub_ge (ao : Option Addr) (ca : Nat) (bo : Option Addr) (cb : Nat) (co : Option Addr) (cc : Nat) (N M K : Nat)  (w : World) (ha : Nt w (.slice ao (len N) ca) N) (hb : Nt w (.slice bo (len M) cb) M) (hc : Nt w (.slice co (len K) cc) K) (hn : N < K) (hm : M < K) (hk : len K ≤ 5000) (hlt : ¬ N < M) :
  Calls Tryz.prog 78 #[.agg #[.slice ao (len N) ca], .agg #[.slice bo (len M) cb], .agg #[.slice co (len K) cc]] w fun e w' => RetV (N - M) e w' ∧ Below w.heap.size w w' := by
 have k1 := len_le_of_lt hn hk
 have k2 := len_le_of_lt hm hk
 have k3 : len (N + K) ≤ 10000 := len_add_le k1 hk (by omega)
 have CL := Zh (fun W ha hb => @rLess_c (.slice ao (len N) ca) (.slice bo (len M) cb) N M false W (decide_eq_false hlt) ha hb)
 have CM := Zh (fun W ha hb => @rMinus_c (.slice ao (len N) ca) (.slice bo (len M) cb) N M (N - M) W rfl (by omega) (by omega) ha hb)
 clear hn hm hk hlt k1 k2 k3
 generalize N - M = D at *
 have E0 := Zh ((((EnvB.start w).numN ha).numN hb).numN hc)
 clear ha hb hc
 go_enter Tryz.func78, Tryz.ntmps78
 go_wp2_with fail
 have E1 := Zh (((((E0.out.push (.slice ao (len N) ca) 24 ⟨_, _, _, rfl⟩ (w.heap.size) (by simp)).push (.slice bo (len M) cb) 24 ⟨_, _, _, rfl⟩ (w.heap.size + 1) (by simp)).push (.slice co (len K) cc) 24 ⟨_, _, _, rfl⟩ (w.heap.size + 1 + 1) (by simp)).push (.slice none 0 0) 24 ⟨_, _, _, rfl⟩ (w.heap.size + 1 + 1 + 1) (by simp)))
 refine (CL.out _ (E1.out.nt 2 rfl) (E1.out.nt 1 rfl)).mono ?_
 rintro e w1 ⟨rfl, hb⟩
 have E2 := Zh ((E1.out.below hb))
 clear E1 E0 hb
 obtain ⟨p1, f1, -, -, -⟩ := E2.out.box 3 rfl
 obtain ⟨p2, f2, -, -, -⟩ := E2.out.box 2 rfl
 go_wp2_with fail
 refine (CM.out _ (E2.out.nt 2 rfl) (E2.out.nt 1 rfl)).mono ?_
 rintro e w2 ⟨⟨da, dk, rfl, hd⟩, hb⟩
 have E3 := Zh (((E2.out.below hb).numN (hd.out : Nt _ _ D)))
 clear p1 f1 p2 f2 E2 hb hd
 obtain ⟨p3, f3, -, -, -⟩ := E3.out.box 0 rfl
 have E4 : Hid (EnvB w [(w.heap.size + 1 + 1 + 1, .slice da (len D) dk), (w.heap.size + 1 + 1, .slice co (len K) cc), (w.heap.size + 1, .slice bo (len M) cb), (w.heap.size, .slice ao (len N) ca)] [(.slice da (len D) dk, digs D), (.slice co (len K) cc, digs K), (.slice bo (len M) cb, digs M), (.slice ao (len N) ca, digs N)] _) := Zh ((E3.out.set 0 (.slice da (len D) dk) rfl ⟨_, _, _, rfl⟩))
 have hfin := Zh E4.out
 obtain ⟨rc, -, -, -, -⟩ := E4.out.box 0 rfl
 go_wp2
 exact bodyPost_ret (v := .agg #[.slice da (len D) dk]) (by simp [results, Tryz.results78, go_sem, rc]) rfl ⟨⟨_, _, rfl, Zh (hfin.out.nt 0 rfl)⟩, hfin.out.1⟩
theorem rSub_c {a b c : Value} {N M K r : Nat} {w : World} (hr : subm N M K = r) (hn : N < K) (hm : M < K) (hk : len K ≤ 5000) (ha : Nt w a N) (hb : Nt w b M) (hc : Nt w c K) :
  Calls Tryz.prog 78 #[.agg #[a], .agg #[b], .agg #[c]] w fun e w' => RetV r e w' ∧ Below w.heap.size w w' := by
 obtain ⟨ao, ca, rfl, _⟩ := ha.open
 obtain ⟨bo, cb, rfl, _⟩ := hb.open
 obtain ⟨co, cc, rfl, _⟩ := hc.open
 subst hr
 unfold subm
 split
 ·exact rSub_lt ao ca bo cb co cc N M K w ha hb hc hn hm hk (by assumption)
 ·exact rSub_ge ao ca bo cb co cc N M K w ha hb hc hn hm hk (by assumption)
set_option maxRecDepth 100000 in
set_option maxHeartbeats 1000000 in
theorem rMul_w (ao : Option Addr) (ca : Nat) (bo : Option Addr) (cb : Nat) (co : Option Addr) (cc : Nat) (N M K : Nat)  (w : World) (ha : Nt w (.slice ao (len N) ca) N) (hb : Nt w (.slice bo (len M) cb) M) (hc : Nt w (.slice co (len K) cc) K) (hn : N < K) (h2 : len M ≤ 1000) (hk : len K ≤ 5000) :
  Calls Tryz.prog 42 #[.agg #[.slice ao (len N) ca], .agg #[.slice bo (len M) cb], .agg #[.slice co (len K) cc]] w fun e w' => RetV (N * M % K) e w' ∧ Below w.heap.size w w' := by
 have CB := Zh (fun W ha => rBits_c (.slice bo (len M) cb) M W ha (by omega))
 have CT := Zh (fun (j : Nat) W (hj : (j : Int) ≤ 9223372036854775807) ha => rBit_c (.slice bo (len M) cb) M j W ha hj)
 have hbe : bl M ≤ 32000 := by have := (len_le_bits (n := M) (k := 1000)).2 h2; omega
 have HS : Hid (BitI (fun k => N * (M / 2 ^ k) % K) (bl M) (bl M) 0 (bl M)) := Zh (BitI.start (by simp [top_zero]))
 have HBE : Hid (bl M ≤ 32000) := Zh hbe
 have CA := Zh (fun (u v : Value) (X Y : Nat) W hx hy ha hb hc => @rAdd_c u v (.slice co (len K) cc) X Y K ((X + Y) % K) W rfl hx hy hk ha hb hc)
 have HNK : Hid (N < K) := Zh hn
 clear hn h2 hk hbe
 have E0 := Zh ((((EnvB.start w).numN ha).numN hb).numN hc)
 clear ha hb hc
 go_enter Tryz.func42, Tryz.ntmps42
 generalize hbl : bl M = n at CB
 have HBL := Zh hbl
 clear hbl
 have hn48 : (n : Int) ≤ 1000000 := by have h1 := HBE.out; rw [HBL.out] at h1; omega
 have hn0 : 0 ≤ (n : Int) := by omega
 go_wp2_with fail
 have E1 := Zh ((((((E0.out.push (.slice ao (len N) ca) 24 ⟨_, _, _, rfl⟩ (w.heap.size) (by simp)).push (.slice bo (len M) cb) 24 ⟨_, _, _, rfl⟩ (w.heap.size + 1) (by simp)).push (.slice co (len K) cc) 24 ⟨_, _, _, rfl⟩ (w.heap.size + 1 + 1) (by simp)).push (.slice none 0 0) 24 ⟨_, _, _, rfl⟩ (w.heap.size + 1 + 1 + 1) (by simp)).push (.slice none 0 0) 24 ⟨_, _, _, rfl⟩ (w.heap.size + 1 + 1 + 1 + 1) (by simp)))
 refine (CB.out _ (E1.out.nt 1 rfl)).mono ?_
 rintro e w1 ⟨rfl, hb⟩
 have E2 := Zh ((E1.out.below hb))
 clear E1 E0 hb
 have E3 : Hid (EnvB w [(w.heap.size + 1 + 1 + 1 + 1, .slice none (len 0) 0), (w.heap.size + 1 + 1 + 1, .slice none 0 0), (w.heap.size + 1 + 1, .slice co (len K) cc), (w.heap.size + 1, .slice bo (len M) cb), (w.heap.size, .slice ao (len N) ca)] [(.slice none (len 0) 0, digs 0), (.slice co (len K) cc, digs K), (.slice bo (len M) cb, digs M), (.slice ao (len N) ca, digs N)] _) := Zh (by simp only [len_zero]; exact (E2.out.numN (Nt.zero _ : Nt _ _ 0)))
 go_wp2_with fail
 go_loopg [8] (n) (fun gk s8 wr => ∃ (k P : Nat) (po : Option Addr) (pc : Nat), s8 = .int .i64 ((k : Int) - 1) ∧ Hid (EnvB w [(w.heap.size + 1 + 1 + 1 + 1, .slice po (len P) pc), (w.heap.size + 1 + 1 + 1, .slice none 0 0), (w.heap.size + 1 + 1, .slice co (len K) cc), (w.heap.size + 1, .slice bo (len M) cb), (w.heap.size, .slice ao (len N) ca)] [(.slice po (len P) pc, digs P), (.slice co (len K) cc, digs K), (.slice bo (len M) cb, digs M), (.slice ao (len N) ca, digs N)] wr) ∧ Hid (BitI (fun k => N * (M / 2 ^ k) % K) n k P gk))
 case atStart => exact ⟨n, 0, none, 0, rfl, Zh ⟨E3.out.1, E3.out.2.1, ⟨E3.out.sl 0 rfl, ⟨E3.out.sl 1 rfl, ⟨E3.out.sl 2 rfl, ⟨E3.out.sl 3 rfl, trivial⟩⟩⟩⟩⟩, Zh (HBL.out ▸ HS.out)⟩
 case round =>
  clear E3 E2 HS CB
  obtain ⟨k, P, po, pc, rfl, EL, HA⟩ := hrel
  obtain ⟨a1, a2, a3⟩ := HA.out
  clear HA
  by_cases hy : k = 0
  ·have t1 : decide (0 ≤ (k : Int) - 1) = false := decide_eq_false (by omega)
   have t2 : decide (1 ≤ (k : Int)) = false := decide_eq_false (by omega)
   have HP : Hid (P = N * M % K) := Zh (by rw [a3, hy]; simp)
   clear a1 a2 a3 hy HBE HNK CA CT
   obtain ⟨p1, f1, -, -, -⟩ := EL.out.box 0 rfl
   obtain ⟨p2, f2, -, -, -⟩ := EL.out.box 1 rfl
   have E4 : Hid (EnvB w [(w.heap.size + 1 + 1 + 1 + 1, .slice po (len P) pc), (w.heap.size + 1 + 1 + 1, .slice po (len P) pc), (w.heap.size + 1 + 1, .slice co (len K) cc), (w.heap.size + 1, .slice bo (len M) cb), (w.heap.size, .slice ao (len N) ca)] [(.slice po (len P) pc, digs P), (.slice co (len K) cc, digs K), (.slice bo (len M) cb, digs M), (.slice ao (len N) ca, digs N)] _) := Zh ((EL.out.set 1 (.slice po (len P) pc) rfl ⟨_, _, _, rfl⟩))
   have hfin := Zh E4.out
   obtain ⟨rc, -, -, -, -⟩ := E4.out.box 1 rfl
   go_wp2
   exact bodyPost_ret (v := .agg #[.slice po (len P) pc]) (by simp [results, Tryz.results42, go_sem, rc]) rfl ⟨HP.out ▸ ⟨_, _, rfl, Zh (hfin.out.nt 0 rfl)⟩, hfin.out.1⟩
  ·obtain ⟨j, rfl⟩ : ∃ j, k = j + 1 := ⟨k - 1, by omega⟩
   have ej : (((j + 1 : Nat) : Int) - 1) = (j : Int) := by omega
   rw [ej]
   have hj : (j : Int) ≤ 9223372036854775807 := by omega
   have t1 : decide (0 ≤ (j : Int)) = true := decide_eq_true (by omega)
   have HM : Hid (j < gk) := Zh (by omega)
   have HJ : Hid (j ≤ n) := Zh (by omega)
   have CTj := Zh (fun W ha => CT.out j W hj ha)
   have hPK : P < K := by rw [a3]; exact Nat.mod_lt _ (by have := HNK.out; omega)
   have hQK : (P + P) % K < K := Nat.mod_lt _ (by omega)
   have CA1 := Zh (fun (u : Value) W ha hb hc => CA.out u u P P W hPK hPK ha hb hc)
   have CA2 := Zh (fun (u v : Value) W ha hb hc => CA.out u v ((P + P) % K) N W hQK HNK.out ha hb hc)
   have hst := fun t => mulV_step N M K j t
   have hP3 := a3
   cases ht : bt M j
   ·have hst := mulV_step N M K j false ht
    simp only [Bool.false_eq_true, if_false] at hst
    have hP4 : P = _ := hP3
    dsimp only at hP4
    rw [← hP4] at hst
    have HK2 : Hid (BitI (fun k => N * (M / 2 ^ k) % K) n j ((P + P) % K) j) := Zh ⟨rfl, HJ.out, hst.symm⟩
    have CTt : Hid (∀ W, Nt W (.slice bo (len M) cb) M → Calls Tryz.prog 55 #[.agg #[.slice bo (len M) cb], .int .i64 (j : Int)] W fun e w' => e = .returned (.bool false) ∧ Below W.heap.size W w') := Zh (by rw [← ht]; exact CTj.out)
    clear a1 a2 a3 hy ej hP3 hP4 hst CA CT CTj HNK HBE HJ ht hPK hQK
    generalize (P + P) % K = Q at *
    obtain ⟨p1, f1, -, -, -⟩ := EL.out.box 0 rfl
    obtain ⟨p2, f2, -, -, -⟩ := EL.out.box 2 rfl
    go_wp2_with fail
    refine (CA1.out _ _ (EL.out.nt 0 rfl) (EL.out.nt 0 rfl) (EL.out.nt 1 rfl)).mono ?_
    rintro e w2 ⟨⟨qa, qk, rfl, hq⟩, hb⟩
    have E4 := Zh (((EL.out.below hb).numN (hq.out : Nt _ _ Q)))
    clear p1 f1 p2 f2 EL hb hq
    obtain ⟨p3, f3, -, -, -⟩ := E4.out.box 0 rfl
    have E5 : Hid (EnvB w [(w.heap.size + 1 + 1 + 1 + 1, .slice qa (len Q) qk), (w.heap.size + 1 + 1 + 1, .slice none 0 0), (w.heap.size + 1 + 1, .slice co (len K) cc), (w.heap.size + 1, .slice bo (len M) cb), (w.heap.size, .slice ao (len N) ca)] [(.slice qa (len Q) qk, digs Q), (.slice po (len P) pc, digs P), (.slice co (len K) cc, digs K), (.slice bo (len M) cb, digs M), (.slice ao (len N) ca, digs N)] _) := Zh ((E4.out.set 0 (.slice qa (len Q) qk) rfl ⟨_, _, _, rfl⟩))
    obtain ⟨p4, f4, -, -, -⟩ := E5.out.box 3 rfl
    go_wp2_with fail
    refine (CTt.out _ (E5.out.nt 3 rfl)).mono ?_
    rintro e w3 ⟨rfl, hb⟩
    have E6 := Zh ((E5.out.below hb))
    clear p3 f3 p4 f4 E5 E4 hb
    have EZ := Zh E6.out
    go_wp2
    go_roundg (j)
    case rel => exact ⟨j, Q, qa, qk, rfl, Zh ⟨EZ.out.1, EZ.out.2.1, ⟨EZ.out.sl 0 rfl, ⟨EZ.out.sl 2 rfl, ⟨EZ.out.sl 3 rfl, ⟨EZ.out.sl 4 rfl, trivial⟩⟩⟩⟩⟩, HK2⟩
    case measure => exact HM.out
   ·have hst := mulV_step N M K j true ht
    simp only [if_true] at hst
    have hP4 : P = _ := hP3
    dsimp only at hP4
    rw [← hP4] at hst
    have HK2 : Hid (BitI (fun k => N * (M / 2 ^ k) % K) n j (((P + P) % K + N) % K) j) := Zh ⟨rfl, HJ.out, hst.symm⟩
    have CTt : Hid (∀ W, Nt W (.slice bo (len M) cb) M → Calls Tryz.prog 55 #[.agg #[.slice bo (len M) cb], .int .i64 (j : Int)] W fun e w' => e = .returned (.bool true) ∧ Below W.heap.size W w') := Zh (by rw [← ht]; exact CTj.out)
    clear a1 a2 a3 hy ej hP3 hP4 hst CA CT CTj HNK HBE HJ ht hPK hQK
    generalize ((P + P) % K + N) % K = R at *
    generalize (P + P) % K = Q at *
    obtain ⟨p1, f1, -, -, -⟩ := EL.out.box 0 rfl
    obtain ⟨p2, f2, -, -, -⟩ := EL.out.box 2 rfl
    go_wp2_with fail
    refine (CA1.out _ _ (EL.out.nt 0 rfl) (EL.out.nt 0 rfl) (EL.out.nt 1 rfl)).mono ?_
    rintro e w2 ⟨⟨qa, qk, rfl, hq⟩, hb⟩
    have E4 := Zh (((EL.out.below hb).numN (hq.out : Nt _ _ Q)))
    clear p1 f1 p2 f2 EL hb hq
    obtain ⟨p3, f3, -, -, -⟩ := E4.out.box 0 rfl
    have E5 : Hid (EnvB w [(w.heap.size + 1 + 1 + 1 + 1, .slice qa (len Q) qk), (w.heap.size + 1 + 1 + 1, .slice none 0 0), (w.heap.size + 1 + 1, .slice co (len K) cc), (w.heap.size + 1, .slice bo (len M) cb), (w.heap.size, .slice ao (len N) ca)] [(.slice qa (len Q) qk, digs Q), (.slice po (len P) pc, digs P), (.slice co (len K) cc, digs K), (.slice bo (len M) cb, digs M), (.slice ao (len N) ca, digs N)] _) := Zh ((E4.out.set 0 (.slice qa (len Q) qk) rfl ⟨_, _, _, rfl⟩))
    obtain ⟨p4, f4, -, -, -⟩ := E5.out.box 3 rfl
    go_wp2_with fail
    refine (CTt.out _ (E5.out.nt 3 rfl)).mono ?_
    rintro e w3 ⟨rfl, hb⟩
    have E6 := Zh ((E5.out.below hb))
    clear p3 f3 p4 f4 E5 E4 hb
    obtain ⟨p5, f5, -, -, -⟩ := E6.out.box 0 rfl
    obtain ⟨p6, f6, -, -, -⟩ := E6.out.box 4 rfl
    obtain ⟨p7, f7, -, -, -⟩ := E6.out.box 2 rfl
    go_wp2_with fail
    refine (CA2.out _ _ _ (E6.out.nt 0 rfl) (E6.out.nt 4 rfl) (E6.out.nt 2 rfl)).mono ?_
    rintro e w4 ⟨⟨sa, sk, rfl, hs⟩, hb⟩
    have E7 := Zh (((E6.out.below hb).numN (hs.out : Nt _ _ R)))
    clear p5 f5 p6 f6 p7 f7 E6 hb hs
    obtain ⟨p8, f8, -, -, -⟩ := E7.out.box 0 rfl
    have E8 : Hid (EnvB w [(w.heap.size + 1 + 1 + 1 + 1, .slice sa (len R) sk), (w.heap.size + 1 + 1 + 1, .slice none 0 0), (w.heap.size + 1 + 1, .slice co (len K) cc), (w.heap.size + 1, .slice bo (len M) cb), (w.heap.size, .slice ao (len N) ca)] [(.slice sa (len R) sk, digs R), (.slice qa (len Q) qk, digs Q), (.slice po (len P) pc, digs P), (.slice co (len K) cc, digs K), (.slice bo (len M) cb, digs M), (.slice ao (len N) ca, digs N)] _) := Zh ((E7.out.set 0 (.slice sa (len R) sk) rfl ⟨_, _, _, rfl⟩))
    have EZ := Zh E8.out
    go_wp2
    go_roundg (j)
    case rel => exact ⟨j, R, sa, sk, rfl, Zh ⟨EZ.out.1, EZ.out.2.1, ⟨EZ.out.sl 0 rfl, ⟨EZ.out.sl 3 rfl, ⟨EZ.out.sl 4 rfl, ⟨EZ.out.sl 5 rfl, trivial⟩⟩⟩⟩⟩, HK2⟩
    case measure => exact HM.out
set_option maxRecDepth 100000 in
set_option maxHeartbeats 1000000 in
theorem rTimes_w (ao : Option Addr) (ca : Nat) (bo : Option Addr) (cb : Nat) (N M : Nat)  (w : World) (ha : Nt w (.slice ao (len N) ca) N) (hb : Nt w (.slice bo (len M) cb) M) (h1 : len N ≤ 1000) (h2 : len M ≤ 1000) :
  Calls Tryz.prog 53 #[.agg #[.slice ao (len N) ca], .agg #[.slice bo (len M) cb]] w fun e w' => RetV (N * M) e w' ∧ Below w.heap.size w w' := by
 have CB := Zh (fun W ha => rBits_c (.slice bo (len M) cb) M W ha (by omega))
 have CT := Zh (fun (j : Nat) W (hj : (j : Int) ≤ 9223372036854775807) ha => rBit_c (.slice bo (len M) cb) M j W ha hj)
 have hbe : bl M ≤ 32000 := by have := (len_le_bits (n := M) (k := 1000)).2 h2; omega
 have HS : Hid (BitI (fun k => N * (M / 2 ^ k)) (bl M) (bl M) 0 (bl M)) := Zh (BitI.start (by simp [top_zero]))
 have HBE : Hid (bl M ≤ 32000) := Zh hbe
 have CA := Zh (fun (u v : Value) (X Y : Nat) W hx hy ha hb => @rPlus_c u v X Y (X + Y) W rfl hx hy ha hb)
 have HNK : Hid (len N ≤ 1000 ∧ len M ≤ 1000) := Zh ⟨h1, h2⟩
 clear h1 h2 hbe
 have E0 := Zh (((EnvB.start w).numN ha).numN hb)
 clear ha hb
 go_enter Tryz.func53, Tryz.ntmps53
 generalize hbl : bl M = n at CB
 have HBL := Zh hbl
 clear hbl
 have hn48 : (n : Int) ≤ 1000000 := by have h1 := HBE.out; rw [HBL.out] at h1; omega
 have hn0 : 0 ≤ (n : Int) := by omega
 go_wp2_with fail
 have E1 := Zh (((((E0.out.push (.slice ao (len N) ca) 24 ⟨_, _, _, rfl⟩ (w.heap.size) (by simp)).push (.slice bo (len M) cb) 24 ⟨_, _, _, rfl⟩ (w.heap.size + 1) (by simp)).push (.slice none 0 0) 24 ⟨_, _, _, rfl⟩ (w.heap.size + 1 + 1) (by simp)).push (.slice none 0 0) 24 ⟨_, _, _, rfl⟩ (w.heap.size + 1 + 1 + 1) (by simp)))
 refine (CB.out _ (E1.out.nt 0 rfl)).mono ?_
 rintro e w1 ⟨rfl, hb⟩
 have E2 := Zh ((E1.out.below hb))
 clear E1 E0 hb
 have E3 : Hid (EnvB w [(w.heap.size + 1 + 1 + 1, .slice none (len 0) 0), (w.heap.size + 1 + 1, .slice none 0 0), (w.heap.size + 1, .slice bo (len M) cb), (w.heap.size, .slice ao (len N) ca)] [(.slice none (len 0) 0, digs 0), (.slice bo (len M) cb, digs M), (.slice ao (len N) ca, digs N)] _) := Zh (by simp only [len_zero]; exact (E2.out.numN (Nt.zero _ : Nt _ _ 0)))
 go_wp2_with fail
 go_loopg [6] (n) (fun gk s6 wr => ∃ (k P : Nat) (po : Option Addr) (pc : Nat), s6 = .int .i64 ((k : Int) - 1) ∧ Hid (EnvB w [(w.heap.size + 1 + 1 + 1, .slice po (len P) pc), (w.heap.size + 1 + 1, .slice none 0 0), (w.heap.size + 1, .slice bo (len M) cb), (w.heap.size, .slice ao (len N) ca)] [(.slice po (len P) pc, digs P), (.slice bo (len M) cb, digs M), (.slice ao (len N) ca, digs N)] wr) ∧ Hid (BitI (fun k => N * (M / 2 ^ k)) n k P gk))
 case atStart => exact ⟨n, 0, none, 0, rfl, Zh ⟨E3.out.1, E3.out.2.1, ⟨E3.out.sl 0 rfl, ⟨E3.out.sl 1 rfl, ⟨E3.out.sl 2 rfl, trivial⟩⟩⟩⟩, Zh (HBL.out ▸ HS.out)⟩
 case round =>
  clear E3 E2 HS CB
  obtain ⟨k, P, po, pc, rfl, EL, HA⟩ := hrel
  obtain ⟨a1, a2, a3⟩ := HA.out
  clear HA
  by_cases hy : k = 0
  ·have t1 : decide (0 ≤ (k : Int) - 1) = false := decide_eq_false (by omega)
   have t2 : decide (1 ≤ (k : Int)) = false := decide_eq_false (by omega)
   have HP : Hid (P = N * M) := Zh (by rw [a3, hy]; simp)
   clear a1 a2 a3 hy HBE HNK CA CT
   obtain ⟨p1, f1, -, -, -⟩ := EL.out.box 0 rfl
   obtain ⟨p2, f2, -, -, -⟩ := EL.out.box 1 rfl
   have E4 : Hid (EnvB w [(w.heap.size + 1 + 1 + 1, .slice po (len P) pc), (w.heap.size + 1 + 1, .slice po (len P) pc), (w.heap.size + 1, .slice bo (len M) cb), (w.heap.size, .slice ao (len N) ca)] [(.slice po (len P) pc, digs P), (.slice bo (len M) cb, digs M), (.slice ao (len N) ca, digs N)] _) := Zh ((EL.out.set 1 (.slice po (len P) pc) rfl ⟨_, _, _, rfl⟩))
   have hfin := Zh E4.out
   obtain ⟨rc, -, -, -, -⟩ := E4.out.box 1 rfl
   go_wp2
   exact bodyPost_ret (v := .agg #[.slice po (len P) pc]) (by simp [results, Tryz.results53, go_sem, rc]) rfl ⟨HP.out ▸ ⟨_, _, rfl, Zh (hfin.out.nt 0 rfl)⟩, hfin.out.1⟩
  ·obtain ⟨j, rfl⟩ : ∃ j, k = j + 1 := ⟨k - 1, by omega⟩
   have ej : (((j + 1 : Nat) : Int) - 1) = (j : Int) := by omega
   rw [ej]
   have hj : (j : Int) ≤ 9223372036854775807 := by omega
   have t1 : decide (0 ≤ (j : Int)) = true := decide_eq_true (by omega)
   have HM : Hid (j < gk) := Zh (by omega)
   have HJ : Hid (j ≤ n) := Zh (by omega)
   have CTj := Zh (fun W ha => CT.out j W hj ha)
   have hl1 : len P ≤ 2000 := by rw [a3]; exact len_mul_le HNK.out.1 (Nat.le_trans (len_le_of_le (Nat.div_le_self _ _)) HNK.out.2) (by omega)
   have hl2 : len (P + P) ≤ 2001 := len_add_le hl1 hl1 (by omega)
   have hl3 := HNK.out.1
   have CA1 := Zh (fun (u : Value) W ha hb => CA.out u u P P W (by omega) (by omega) ha hb)
   have CA2 := Zh (fun (u v : Value) W ha hb => CA.out u v (P + P) N W (by omega) (by omega) ha hb)
   have hP3 := a3
   cases ht : bt M j
   ·have hst := timesV_step N M j false ht
    simp only [Bool.false_eq_true, if_false] at hst
    have hP4 : P = _ := hP3
    dsimp only at hP4
    rw [← hP4] at hst
    have HK2 : Hid (BitI (fun k => N * (M / 2 ^ k)) n j (P + P) j) := Zh ⟨rfl, HJ.out, hst.symm⟩
    have CTt : Hid (∀ W, Nt W (.slice bo (len M) cb) M → Calls Tryz.prog 55 #[.agg #[.slice bo (len M) cb], .int .i64 (j : Int)] W fun e w' => e = .returned (.bool false) ∧ Below W.heap.size W w') := Zh (by rw [← ht]; exact CTj.out)
    clear a1 a2 a3 hy ej hP3 hP4 hst CA CT CTj HNK HBE HJ ht hl1 hl2 hl3
    generalize P + P = Q at *
    obtain ⟨p1, f1, -, -, -⟩ := EL.out.box 0 rfl
    go_wp2_with fail
    refine (CA1.out _ _ (EL.out.nt 0 rfl) (EL.out.nt 0 rfl)).mono ?_
    rintro e w2 ⟨⟨qa, qk, rfl, hq⟩, hb⟩
    have E4 := Zh (((EL.out.below hb).numN (hq.out : Nt _ _ Q)))
    clear p1 f1 EL hb hq
    obtain ⟨p2, f2, -, -, -⟩ := E4.out.box 0 rfl
    have E5 : Hid (EnvB w [(w.heap.size + 1 + 1 + 1, .slice qa (len Q) qk), (w.heap.size + 1 + 1, .slice none 0 0), (w.heap.size + 1, .slice bo (len M) cb), (w.heap.size, .slice ao (len N) ca)] [(.slice qa (len Q) qk, digs Q), (.slice po (len P) pc, digs P), (.slice bo (len M) cb, digs M), (.slice ao (len N) ca, digs N)] _) := Zh ((E4.out.set 0 (.slice qa (len Q) qk) rfl ⟨_, _, _, rfl⟩))
    obtain ⟨p3, f3, -, -, -⟩ := E5.out.box 2 rfl
    go_wp2_with fail
    refine (CTt.out _ (E5.out.nt 2 rfl)).mono ?_
    rintro e w3 ⟨rfl, hb⟩
    have E6 := Zh ((E5.out.below hb))
    clear p2 f2 p3 f3 E5 E4 hb
    have EZ := Zh E6.out
    go_wp2
    go_roundg (j)
    case rel => exact ⟨j, Q, qa, qk, rfl, Zh ⟨EZ.out.1, EZ.out.2.1, ⟨EZ.out.sl 0 rfl, ⟨EZ.out.sl 2 rfl, ⟨EZ.out.sl 3 rfl, trivial⟩⟩⟩⟩, HK2⟩
    case measure => exact HM.out
   ·have hst := timesV_step N M j true ht
    simp only [if_true] at hst
    have hP4 : P = _ := hP3
    dsimp only at hP4
    rw [← hP4] at hst
    have HK2 : Hid (BitI (fun k => N * (M / 2 ^ k)) n j (P + P + N) j) := Zh ⟨rfl, HJ.out, hst.symm⟩
    have CTt : Hid (∀ W, Nt W (.slice bo (len M) cb) M → Calls Tryz.prog 55 #[.agg #[.slice bo (len M) cb], .int .i64 (j : Int)] W fun e w' => e = .returned (.bool true) ∧ Below W.heap.size W w') := Zh (by rw [← ht]; exact CTj.out)
    clear a1 a2 a3 hy ej hP3 hP4 hst CA CT CTj HNK HBE HJ ht hl1 hl2 hl3
    generalize P + P + N = R at *
    generalize P + P = Q at *
    obtain ⟨p1, f1, -, -, -⟩ := EL.out.box 0 rfl
    go_wp2_with fail
    refine (CA1.out _ _ (EL.out.nt 0 rfl) (EL.out.nt 0 rfl)).mono ?_
    rintro e w2 ⟨⟨qa, qk, rfl, hq⟩, hb⟩
    have E4 := Zh (((EL.out.below hb).numN (hq.out : Nt _ _ Q)))
    clear p1 f1 EL hb hq
    obtain ⟨p2, f2, -, -, -⟩ := E4.out.box 0 rfl
    have E5 : Hid (EnvB w [(w.heap.size + 1 + 1 + 1, .slice qa (len Q) qk), (w.heap.size + 1 + 1, .slice none 0 0), (w.heap.size + 1, .slice bo (len M) cb), (w.heap.size, .slice ao (len N) ca)] [(.slice qa (len Q) qk, digs Q), (.slice po (len P) pc, digs P), (.slice bo (len M) cb, digs M), (.slice ao (len N) ca, digs N)] _) := Zh ((E4.out.set 0 (.slice qa (len Q) qk) rfl ⟨_, _, _, rfl⟩))
    obtain ⟨p3, f3, -, -, -⟩ := E5.out.box 2 rfl
    go_wp2_with fail
    refine (CTt.out _ (E5.out.nt 2 rfl)).mono ?_
    rintro e w3 ⟨rfl, hb⟩
    have E6 := Zh ((E5.out.below hb))
    clear p2 f2 p3 f3 E5 E4 hb
    obtain ⟨p4, f4, -, -, -⟩ := E6.out.box 0 rfl
    obtain ⟨p5, f5, -, -, -⟩ := E6.out.box 3 rfl
    go_wp2_with fail
    refine (CA2.out _ _ _ (E6.out.nt 0 rfl) (E6.out.nt 3 rfl)).mono ?_
    rintro e w4 ⟨⟨sa, sk, rfl, hs⟩, hb⟩
    have E7 := Zh (((E6.out.below hb).numN (hs.out : Nt _ _ R)))
    clear p4 f4 p5 f5 E6 hb hs
    obtain ⟨p6, f6, -, -, -⟩ := E7.out.box 0 rfl
    have E8 : Hid (EnvB w [(w.heap.size + 1 + 1 + 1, .slice sa (len R) sk), (w.heap.size + 1 + 1, .slice none 0 0), (w.heap.size + 1, .slice bo (len M) cb), (w.heap.size, .slice ao (len N) ca)] [(.slice sa (len R) sk, digs R), (.slice qa (len Q) qk, digs Q), (.slice po (len P) pc, digs P), (.slice bo (len M) cb, digs M), (.slice ao (len N) ca, digs N)] _) := Zh ((E7.out.set 0 (.slice sa (len R) sk) rfl ⟨_, _, _, rfl⟩))
    have EZ := Zh E8.out
    go_wp2
    go_roundg (j)
    case rel => exact ⟨j, R, sa, sk, rfl, Zh ⟨EZ.out.1, EZ.out.2.1, ⟨EZ.out.sl 0 rfl, ⟨EZ.out.sl 3 rfl, ⟨EZ.out.sl 4 rfl, trivial⟩⟩⟩⟩, HK2⟩
    case measure => exact HM.out
theorem rMul_c {a b c : Value} {N M K r : Nat} {w : World} (hr : N * M % K = r) (hn : N < K) (h2 : len M ≤ 1000) (hk : len K ≤ 5000) (ha : Nt w a N) (hb : Nt w b M) (hc : Nt w c K) :
  Calls Tryz.prog 42 #[.agg #[a], .agg #[b], .agg #[c]] w fun e w' => RetV r e w' ∧ Below w.heap.size w w' := by
 obtain ⟨ao, ca, rfl, _⟩ := ha.open
 obtain ⟨bo, cb, rfl, _⟩ := hb.open
 obtain ⟨co, cc, rfl, _⟩ := hc.open
 subst hr
 exact rMul_w ao ca bo cb co cc N M K w ha hb hc hn h2 hk
theorem rTimes_c {a b : Value} {N M r : Nat} {w : World} (hr : N * M = r) (h1 : len N ≤ 1000) (h2 : len M ≤ 1000) (ha : Nt w a N) (hb : Nt w b M) :
  Calls Tryz.prog 53 #[.agg #[a], .agg #[b]] w fun e w' => RetV r e w' ∧ Below w.heap.size w w' := by
 obtain ⟨ao, ca, rfl, _⟩ := ha.open
 obtain ⟨bo, cb, rfl, _⟩ := hb.open
 subst hr
 exact rTimes_w ao ca bo cb N M w ha hb h1 h2
end Nn
namespace Nn
open Go.RowKit NatMath
set_option maxRecDepth 100000 in
set_option maxHeartbeats 1000000 in
theorem rMod1_w (ao : Option Addr) (ca : Nat) (bo : Option Addr) (cb : Nat) (N K : Nat)  (w : World) (ha : Nt w (.slice ao (len N) ca) N) (hb : Nt w (.slice bo (len K) cb) K) (h1 : K = 1) :
  Calls Tryz.prog 26 #[.agg #[.slice ao (len N) ca], .agg #[.slice bo (len K) cb]] w fun e w' => RetV 0 e w' ∧ Below w.heap.size w w' := by
 have CS := Zh (fun (v : Value) W ha hb => @rSame_c (.slice bo (len K) cb) v K 1 true W (decide_eq_true h1) ha hb)
 clear h1
 have E0 := Zh (((EnvB.start w).numN ha).numN hb)
 clear ha hb
 go_enter Tryz.func26, Tryz.ntmps26
 go_wp2_with fail
 have E1 := Zh ((((E0.out.push (.slice ao (len N) ca) 24 ⟨_, _, _, rfl⟩ (w.heap.size) (by simp)).push (.slice bo (len K) cb) 24 ⟨_, _, _, rfl⟩ (w.heap.size + 1) (by simp)).push (.slice none 0 0) 24 ⟨_, _, _, rfl⟩ (w.heap.size + 1 + 1) (by simp)))
 refine (rOf_c 1 _ (by decide)).mono ?_
 rintro e w1 ⟨⟨ia, ik, rfl, hi⟩, hb⟩
 have E2 := Zh (((E1.out.below hb).numN (hi.out : Nt _ _ 1)))
 clear E1 E0 hb hi
 have E3 := Zh (((E2.out.push (.slice ia (len 1) ik) 24 ⟨_, _, _, rfl⟩ (w1.heap.size) (by simp)).push (.slice none 0 0) 24 ⟨_, _, _, rfl⟩ (w1.heap.size + 1) (by simp)))
 have E4 : Hid (EnvB w [(w1.heap.size + 1, .slice none (len 0) 0), (w1.heap.size, .slice ia (len 1) ik), (w.heap.size + 1 + 1, .slice none 0 0), (w.heap.size + 1, .slice bo (len K) cb), (w.heap.size, .slice ao (len N) ca)] [(.slice none (len 0) 0, digs 0), (.slice ia (len 1) ik, digs 1), (.slice bo (len K) cb, digs K), (.slice ao (len N) ca, digs N)] _) := Zh (by simp only [len_zero]; exact (E3.out.numN (Nt.zero _ : Nt _ _ 0)))
 obtain ⟨p1, f1, -, -, -⟩ := E4.out.box 3 rfl
 obtain ⟨p2, f2, -, -, -⟩ := E4.out.box 1 rfl
 go_wp2_with fail
 refine (CS.out _ _ (E4.out.nt 2 rfl) (E4.out.nt 1 rfl)).mono ?_
 rintro e w2 ⟨rfl, hb⟩
 have E5 := Zh ((E4.out.below hb))
 clear p1 f1 p2 f2 E4 E2 E3 hb
 obtain ⟨p3, f3, -, -, -⟩ := E5.out.box 0 rfl
 obtain ⟨p4, f4, -, -, -⟩ := E5.out.box 2 rfl
 have E6 : Hid (EnvB w [(w1.heap.size + 1, .slice none (len 0) 0), (w1.heap.size, .slice ia (len 1) ik), (w.heap.size + 1 + 1, .slice none (len 0) 0), (w.heap.size + 1, .slice bo (len K) cb), (w.heap.size, .slice ao (len N) ca)] [(.slice none (len 0) 0, digs 0), (.slice ia (len 1) ik, digs 1), (.slice bo (len K) cb, digs K), (.slice ao (len N) ca, digs N)] _) := Zh ((E5.out.set 2 (.slice none (len 0) 0) rfl ⟨_, _, _, rfl⟩))
 have hfin := Zh E6.out
 obtain ⟨rc, -, -, -, -⟩ := E6.out.box 2 rfl
 go_wp2
 exact bodyPost_ret (v := .agg #[.slice none (len 0) 0]) (by simp [results, Tryz.results26, go_sem, rc]) rfl ⟨⟨_, _, rfl, Zh (hfin.out.nt 0 rfl)⟩, hfin.out.1⟩
set_option maxRecDepth 100000 in
set_option maxHeartbeats 1000000 in
theorem rMod_w (ao : Option Addr) (ca : Nat) (bo : Option Addr) (cb : Nat) (N K : Nat)  (w : World) (ha : Nt w (.slice ao (len N) ca) N) (hb : Nt w (.slice bo (len K) cb) K) (h1 : len N ≤ 2000) (h0 : 1 < K) (hk : len K ≤ 5000) :
  Calls Tryz.prog 26 #[.agg #[.slice ao (len N) ca], .agg #[.slice bo (len K) cb]] w fun e w' => RetV (N % K) e w' ∧ Below w.heap.size w w' := by
 have CB := Zh (fun W ha => rBits_c (.slice ao (len N) ca) N W ha (by omega))
 have CT := Zh (fun (j : Nat) W (hj : (j : Int) ≤ 9223372036854775807) ha => rBit_c (.slice ao (len N) ca) N j W ha hj)
 have hbe : bl N ≤ 64000 := by have := (len_le_bits (n := N) (k := 2000)).2 h1; omega
 have HS : Hid (BitI (fun k => N / 2 ^ k % K) (bl N) (bl N) 0 (bl N)) := Zh (BitI.start (by simp [top_zero]))
 have HBE : Hid (bl N ≤ 64000) := Zh hbe
 have CS := Zh (fun (v : Value) W ha hb => @rSame_c (.slice bo (len K) cb) v K 1 false W (decide_eq_false (by omega)) ha hb)
 have CA := Zh (fun (u v : Value) (X Y : Nat) W hx hy ha hb hc => @rAdd_c u v (.slice bo (len K) cb) X Y K ((X + Y) % K) W rfl hx hy hk ha hb hc)
 have HNK : Hid (1 < K) := Zh h0
 clear h1 h0 hk hbe
 have E0 := Zh (((EnvB.start w).numN ha).numN hb)
 clear ha hb
 go_enter Tryz.func26, Tryz.ntmps26
 go_wp2_with fail
 have E1 := Zh ((((E0.out.push (.slice ao (len N) ca) 24 ⟨_, _, _, rfl⟩ (w.heap.size) (by simp)).push (.slice bo (len K) cb) 24 ⟨_, _, _, rfl⟩ (w.heap.size + 1) (by simp)).push (.slice none 0 0) 24 ⟨_, _, _, rfl⟩ (w.heap.size + 1 + 1) (by simp)))
 refine (rOf_c 1 _ (by decide)).mono ?_
 rintro e w1 ⟨⟨ia, ik, rfl, hi⟩, hb⟩
 have E2 := Zh (((E1.out.below hb).numN (hi.out : Nt _ _ 1)))
 clear E1 E0 hb hi
 have E3 := Zh (((E2.out.push (.slice ia (len 1) ik) 24 ⟨_, _, _, rfl⟩ (w1.heap.size) (by simp)).push (.slice none 0 0) 24 ⟨_, _, _, rfl⟩ (w1.heap.size + 1) (by simp)))
 have E4 : Hid (EnvB w [(w1.heap.size + 1, .slice none (len 0) 0), (w1.heap.size, .slice ia (len 1) ik), (w.heap.size + 1 + 1, .slice none 0 0), (w.heap.size + 1, .slice bo (len K) cb), (w.heap.size, .slice ao (len N) ca)] [(.slice none (len 0) 0, digs 0), (.slice ia (len 1) ik, digs 1), (.slice bo (len K) cb, digs K), (.slice ao (len N) ca, digs N)] _) := Zh (by simp only [len_zero]; exact (E3.out.numN (Nt.zero _ : Nt _ _ 0)))
 obtain ⟨p1, f1, -, -, -⟩ := E4.out.box 3 rfl
 obtain ⟨p2, f2, -, -, -⟩ := E4.out.box 1 rfl
 go_wp2_with fail
 refine (CS.out _ _ (E4.out.nt 2 rfl) (E4.out.nt 1 rfl)).mono ?_
 rintro e w2 ⟨rfl, hb⟩
 have E5 := Zh ((E4.out.below hb))
 clear p1 f1 p2 f2 E4 E2 E3 hb
 generalize hbl : bl N = n at CB
 have HBL := Zh hbl
 clear hbl
 have hn48 : (n : Int) ≤ 1000000 := by have h1 := HBE.out; rw [HBL.out] at h1; omega
 have hn0 : 0 ≤ (n : Int) := by omega
 obtain ⟨p3, f3, -, -, -⟩ := E5.out.box 4 rfl
 go_wp2_with fail
 refine (CB.out _ (E5.out.nt 3 rfl)).mono ?_
 rintro e w3 ⟨rfl, hb⟩
 have E6 := Zh ((E5.out.below hb))
 clear p3 f3 E5 hb
 go_wp2_with fail
 go_loopg [7] (n) (fun gk s7 wr => ∃ (k P : Nat) (po : Option Addr) (pc : Nat), s7 = .int .i64 ((k : Int) - 1) ∧ Hid (EnvB w [(w1.heap.size + 1, .slice po (len P) pc), (w1.heap.size, .slice ia (len 1) ik), (w.heap.size + 1 + 1, .slice none 0 0), (w.heap.size + 1, .slice bo (len K) cb), (w.heap.size, .slice ao (len N) ca)] [(.slice po (len P) pc, digs P), (.slice ia (len 1) ik, digs 1), (.slice bo (len K) cb, digs K), (.slice ao (len N) ca, digs N)] wr) ∧ Hid (BitI (fun k => N / 2 ^ k % K) n k P gk))
 case atStart => exact ⟨n, 0, none, 0, rfl, Zh ⟨E6.out.1, E6.out.2.1, ⟨E6.out.sl 0 rfl, ⟨E6.out.sl 1 rfl, ⟨E6.out.sl 2 rfl, ⟨E6.out.sl 3 rfl, trivial⟩⟩⟩⟩⟩, Zh (HBL.out ▸ HS.out)⟩
 case round =>
  clear E6 HS CB CS
  obtain ⟨k, P, po, pc, rfl, EL, HA⟩ := hrel
  obtain ⟨a1, a2, a3⟩ := HA.out
  clear HA
  by_cases hy : k = 0
  ·have t1 : decide (0 ≤ (k : Int) - 1) = false := decide_eq_false (by omega)
   have t2 : decide (1 ≤ (k : Int)) = false := decide_eq_false (by omega)
   have HP : Hid (P = N % K) := Zh (by rw [a3, hy]; simp)
   clear a1 a2 a3 hy HBE HNK CA CT
   obtain ⟨p4, f4, -, -, -⟩ := EL.out.box 0 rfl
   obtain ⟨p5, f5, -, -, -⟩ := EL.out.box 2 rfl
   have E7 : Hid (EnvB w [(w1.heap.size + 1, .slice po (len P) pc), (w1.heap.size, .slice ia (len 1) ik), (w.heap.size + 1 + 1, .slice po (len P) pc), (w.heap.size + 1, .slice bo (len K) cb), (w.heap.size, .slice ao (len N) ca)] [(.slice po (len P) pc, digs P), (.slice ia (len 1) ik, digs 1), (.slice bo (len K) cb, digs K), (.slice ao (len N) ca, digs N)] _) := Zh ((EL.out.set 2 (.slice po (len P) pc) rfl ⟨_, _, _, rfl⟩))
   have hfin := Zh E7.out
   obtain ⟨rc, -, -, -, -⟩ := E7.out.box 2 rfl
   go_wp2
   exact bodyPost_ret (v := .agg #[.slice po (len P) pc]) (by simp [results, Tryz.results26, go_sem, rc]) rfl ⟨HP.out ▸ ⟨_, _, rfl, Zh (hfin.out.nt 0 rfl)⟩, hfin.out.1⟩
  ·obtain ⟨j, rfl⟩ : ∃ j, k = j + 1 := ⟨k - 1, by omega⟩
   have ej : (((j + 1 : Nat) : Int) - 1) = (j : Int) := by omega
   rw [ej]
   have hj : (j : Int) ≤ 9223372036854775807 := by omega
   have t1 : decide (0 ≤ (j : Int)) = true := decide_eq_true (by omega)
   have HM : Hid (j < gk) := Zh (by omega)
   have HJ : Hid (j ≤ n) := Zh (by omega)
   have CTj := Zh (fun W ha => CT.out j W hj ha)
   have hPK : P < K := by rw [a3]; exact Nat.mod_lt _ (by have := HNK.out; omega)
   have hQK : (P + P) % K < K := Nat.mod_lt _ (by omega)
   have CA1 := Zh (fun (u : Value) W ha hb hc => CA.out u u P P W hPK hPK ha hb hc)
   have CA2 := Zh (fun (u v : Value) W ha hb hc => CA.out u v ((P + P) % K) 1 W hQK HNK.out ha hb hc)
   have hP3 := a3
   cases ht : bt N j
   ·have hst := modV_step N K j false ht
    simp only [Bool.false_eq_true, if_false] at hst
    have hP4 : P = _ := hP3
    dsimp only at hP4
    rw [← hP4] at hst
    have HK2 : Hid (BitI (fun k => N / 2 ^ k % K) n j ((P + P) % K) j) := Zh ⟨rfl, HJ.out, hst.symm⟩
    have CTt : Hid (∀ W, Nt W (.slice ao (len N) ca) N → Calls Tryz.prog 55 #[.agg #[.slice ao (len N) ca], .int .i64 (j : Int)] W fun e w' => e = .returned (.bool false) ∧ Below W.heap.size W w') := Zh (by rw [← ht]; exact CTj.out)
    clear a1 a2 a3 hy ej hP3 hP4 hst CA CT CTj HNK HBE HJ ht hPK hQK
    generalize (P + P) % K = Q at *
    obtain ⟨p4, f4, -, -, -⟩ := EL.out.box 0 rfl
    obtain ⟨p5, f5, -, -, -⟩ := EL.out.box 3 rfl
    go_wp2_with fail
    refine (CA1.out _ _ (EL.out.nt 0 rfl) (EL.out.nt 0 rfl) (EL.out.nt 2 rfl)).mono ?_
    rintro e w4 ⟨⟨qa, qk, rfl, hq⟩, hb⟩
    have E7 := Zh (((EL.out.below hb).numN (hq.out : Nt _ _ Q)))
    clear p4 f4 p5 f5 EL hb hq
    obtain ⟨p6, f6, -, -, -⟩ := E7.out.box 0 rfl
    have E8 : Hid (EnvB w [(w1.heap.size + 1, .slice qa (len Q) qk), (w1.heap.size, .slice ia (len 1) ik), (w.heap.size + 1 + 1, .slice none 0 0), (w.heap.size + 1, .slice bo (len K) cb), (w.heap.size, .slice ao (len N) ca)] [(.slice qa (len Q) qk, digs Q), (.slice po (len P) pc, digs P), (.slice ia (len 1) ik, digs 1), (.slice bo (len K) cb, digs K), (.slice ao (len N) ca, digs N)] _) := Zh ((E7.out.set 0 (.slice qa (len Q) qk) rfl ⟨_, _, _, rfl⟩))
    obtain ⟨p7, f7, -, -, -⟩ := E8.out.box 4 rfl
    go_wp2_with fail
    refine (CTt.out _ (E8.out.nt 4 rfl)).mono ?_
    rintro e w5 ⟨rfl, hb⟩
    have E9 := Zh ((E8.out.below hb))
    clear p6 f6 p7 f7 E8 E7 hb
    have EZ := Zh E9.out
    go_wp2
    go_roundg (j)
    case rel => exact ⟨j, Q, qa, qk, rfl, Zh ⟨EZ.out.1, EZ.out.2.1, ⟨EZ.out.sl 0 rfl, ⟨EZ.out.sl 2 rfl, ⟨EZ.out.sl 3 rfl, ⟨EZ.out.sl 4 rfl, trivial⟩⟩⟩⟩⟩, HK2⟩
    case measure => exact HM.out
   ·have hst := modV_step N K j true ht
    simp only [if_true] at hst
    have hP4 : P = _ := hP3
    dsimp only at hP4
    rw [← hP4] at hst
    have HK2 : Hid (BitI (fun k => N / 2 ^ k % K) n j (((P + P) % K + 1) % K) j) := Zh ⟨rfl, HJ.out, hst.symm⟩
    have CTt : Hid (∀ W, Nt W (.slice ao (len N) ca) N → Calls Tryz.prog 55 #[.agg #[.slice ao (len N) ca], .int .i64 (j : Int)] W fun e w' => e = .returned (.bool true) ∧ Below W.heap.size W w') := Zh (by rw [← ht]; exact CTj.out)
    clear a1 a2 a3 hy ej hP3 hP4 hst CA CT CTj HNK HBE HJ ht hPK hQK
    generalize ((P + P) % K + 1) % K = R at *
    generalize (P + P) % K = Q at *
    obtain ⟨p4, f4, -, -, -⟩ := EL.out.box 0 rfl
    obtain ⟨p5, f5, -, -, -⟩ := EL.out.box 3 rfl
    go_wp2_with fail
    refine (CA1.out _ _ (EL.out.nt 0 rfl) (EL.out.nt 0 rfl) (EL.out.nt 2 rfl)).mono ?_
    rintro e w4 ⟨⟨qa, qk, rfl, hq⟩, hb⟩
    have E7 := Zh (((EL.out.below hb).numN (hq.out : Nt _ _ Q)))
    clear p4 f4 p5 f5 EL hb hq
    obtain ⟨p6, f6, -, -, -⟩ := E7.out.box 0 rfl
    have E8 : Hid (EnvB w [(w1.heap.size + 1, .slice qa (len Q) qk), (w1.heap.size, .slice ia (len 1) ik), (w.heap.size + 1 + 1, .slice none 0 0), (w.heap.size + 1, .slice bo (len K) cb), (w.heap.size, .slice ao (len N) ca)] [(.slice qa (len Q) qk, digs Q), (.slice po (len P) pc, digs P), (.slice ia (len 1) ik, digs 1), (.slice bo (len K) cb, digs K), (.slice ao (len N) ca, digs N)] _) := Zh ((E7.out.set 0 (.slice qa (len Q) qk) rfl ⟨_, _, _, rfl⟩))
    obtain ⟨p7, f7, -, -, -⟩ := E8.out.box 4 rfl
    go_wp2_with fail
    refine (CTt.out _ (E8.out.nt 4 rfl)).mono ?_
    rintro e w5 ⟨rfl, hb⟩
    have E9 := Zh ((E8.out.below hb))
    clear p6 f6 p7 f7 E8 E7 hb
    obtain ⟨p8, f8, -, -, -⟩ := E9.out.box 0 rfl
    obtain ⟨p9, f9, -, -, -⟩ := E9.out.box 1 rfl
    obtain ⟨p10, f10, -, -, -⟩ := E9.out.box 3 rfl
    go_wp2_with fail
    refine (CA2.out _ _ _ (E9.out.nt 0 rfl) (E9.out.nt 2 rfl) (E9.out.nt 3 rfl)).mono ?_
    rintro e w6 ⟨⟨sa, sk, rfl, hs⟩, hb⟩
    have E10 := Zh (((E9.out.below hb).numN (hs.out : Nt _ _ R)))
    clear p8 f8 p9 f9 p10 f10 E9 hb hs
    obtain ⟨p11, f11, -, -, -⟩ := E10.out.box 0 rfl
    have E11 : Hid (EnvB w [(w1.heap.size + 1, .slice sa (len R) sk), (w1.heap.size, .slice ia (len 1) ik), (w.heap.size + 1 + 1, .slice none 0 0), (w.heap.size + 1, .slice bo (len K) cb), (w.heap.size, .slice ao (len N) ca)] [(.slice sa (len R) sk, digs R), (.slice qa (len Q) qk, digs Q), (.slice po (len P) pc, digs P), (.slice ia (len 1) ik, digs 1), (.slice bo (len K) cb, digs K), (.slice ao (len N) ca, digs N)] _) := Zh ((E10.out.set 0 (.slice sa (len R) sk) rfl ⟨_, _, _, rfl⟩))
    have EZ := Zh E11.out
    go_wp2
    go_roundg (j)
    case rel => exact ⟨j, R, sa, sk, rfl, Zh ⟨EZ.out.1, EZ.out.2.1, ⟨EZ.out.sl 0 rfl, ⟨EZ.out.sl 3 rfl, ⟨EZ.out.sl 4 rfl, ⟨EZ.out.sl 5 rfl, trivial⟩⟩⟩⟩⟩, HK2⟩
    case measure => exact HM.out
theorem rMod_n {a b : Value} {N K r : Nat} {w : World} (hr : N % K = r) (h1 : len N ≤ 2000) (h0 : K ≠ 0) (hk : len K ≤ 5000) (ha : Nt w a N) (hb : Nt w b K) :
  Calls Tryz.prog 26 #[.agg #[a], .agg #[b]] w fun e w' => RetV r e w' ∧ Below w.heap.size w w' := by
 obtain ⟨ao, ca, rfl, _⟩ := ha.open
 obtain ⟨bo, cb, rfl, _⟩ := hb.open
 subst hr
 by_cases h : K = 1
 ·rw [h, Nat.mod_one]
  have := rMod1_w ao ca bo cb N K w ha hb h
  rw [h] at this
  exact this
 ·exact rMod_w ao ca bo cb N K w ha hb h1 (Nat.lt_of_le_of_ne (Nat.pos_of_ne_zero h0) (Ne.symm h)) hk
set_option maxRecDepth 100000 in
set_option maxHeartbeats 1000000 in
theorem rPow_w (ao : Option Addr) (ca : Nat) (bo : Option Addr) (cb : Nat) (co : Option Addr) (cc : Nat) (N E K : Nat)  (w : World) (ha : Nt w (.slice ao (len N) ca) N) (hb : Nt w (.slice bo (len E) cb) E) (hc : Nt w (.slice co (len K) cc) K) (he : len E ≤ 1000) (hn : N < K) (hk : len K ≤ 1000) :
  Calls Tryz.prog 40 #[.agg #[.slice ao (len N) ca], .agg #[.slice bo (len E) cb], .agg #[.slice co (len K) cc]] w fun e w' => RetV (N ^ E % K) e w' ∧ Below w.heap.size w w' := by
 have hK0 : K ≠ 0 := by omega
 have CR := Zh (fun (u : Value) W ha hb => @rMod_n u (.slice co (len K) cc) 1 K (1 % K) W rfl (by rw [len_one]; omega) hK0 (by omega) ha hb)
 have CB := Zh (fun W ha => rBits_c (.slice bo (len E) cb) E W ha (by omega))
 have CT := Zh (fun (j : Nat) W (hj : (j : Int) ≤ 9223372036854775807) ha => rBit_c (.slice bo (len E) cb) E j W ha hj)
 have CM := Zh (fun (u v : Value) (X Y : Nat) W hx hy ha hb hc => @rMul_c u v (.slice co (len K) cc) X Y K (X * Y % K) W rfl hx (len_le_of_lt hy hk) (by omega) ha hb hc)
 have hbe : bl E ≤ 32000 := by have := (len_le_bits (n := E) (k := 1000)).2 he; omega
 have HS : Hid (BitI (fun k => N ^ (E / 2 ^ k) % K) (bl E) (bl E) (1 % K) (bl E)) := Zh (BitI.start (powm_start N E K))
 have HNK : Hid (N < K) := Zh hn
 have HBE : Hid (bl E ≤ 32000) := Zh hbe
 clear he hn hk hK0 hbe
 have E0 := Zh ((((EnvB.start w).numN ha).numN hb).numN hc)
 clear ha hb hc
 go_enter Tryz.func40, Tryz.ntmps40
 go_wp2_with fail
 have E1 := Zh (((((E0.out.push (.slice ao (len N) ca) 24 ⟨_, _, _, rfl⟩ (w.heap.size) (by simp)).push (.slice bo (len E) cb) 24 ⟨_, _, _, rfl⟩ (w.heap.size + 1) (by simp)).push (.slice co (len K) cc) 24 ⟨_, _, _, rfl⟩ (w.heap.size + 1 + 1) (by simp)).push (.slice none 0 0) 24 ⟨_, _, _, rfl⟩ (w.heap.size + 1 + 1 + 1) (by simp)))
 clear E0
 generalize (((w.alloc (.cells #[.slice ao (len N) ca] 24)).alloc (.cells #[.slice bo (len E) cb] 24)).alloc (.cells #[.slice co (len K) cc] 24)).alloc (.cells #[.slice none 0 0] 24) = w1 at *
 have bx0 := Zh (E1.out.box 1 rfl)
 refine' wp_region_phase (by kernel_rfl) [0, 1, 2, 3] (by kernel_rfl) #[true, true, true, true, false] (by kernel_rfl) 1 (by kernel_rfl) [PNum (1), PEq (.agg #[.slice co (len K) cc]), PNum ((1 % K)), PBox w1.heap.size, Fact.none] (List.forall_mem_cons.2 ⟨PNum.st _, List.forall_mem_cons.2 ⟨PEq.st _, List.forall_mem_cons.2 ⟨PNum.st _, List.forall_mem_cons.2 ⟨PBox.st _, List.forall_mem_cons.2 ⟨Fact.none_st, List.forall_mem_nil _⟩⟩⟩⟩⟩) _ ?hFr1 ?stepr1 ?doner1
 case hFr1 => intro x; simp only [frameL, Act.put, List.setIfInBounds_toArray, List.set_cons_zero, List.set_cons_succ, Nat.zero_add, Nat.reduceAdd]; exact rfl
 case stepr1 =>
  refine List.forall_mem_cons.2 ⟨?_, ?_⟩
  ·intro xv bv ev WW hB hdp
   refine op_of rfl ?_
   clear hdp
   intro KK hKK
   go_simp
   refine (rOf_c 1 _ (by decide)).mono ?_
   rintro e WW' ⟨⟨ia, ik, rfl, hi⟩, hb⟩
   (try dsimp only)
   (try simp only [Act.put, List.setIfInBounds_toArray, List.set_cons_zero, List.set_cons_succ])
   exact act_eq (hKK.out _ _ hb ⟨_, _, rfl, hi⟩) (by first | rfl | simp [upd])
  refine List.forall_mem_cons.2 ⟨?_, ?_⟩
  ·intro xv bv ev WW hB hdp
   refine op_of rfl ?_
   clear hdp
   intro KK hKK
   obtain ⟨z, -, -, -, -⟩ := bx0.out.below hB
   go_simp
   exact act_eq (hKK.out (.agg #[.slice co (len K) cc]) _ (Below.refl _ _) rfl) (by first | rfl | simp [upd])
  refine List.forall_mem_cons.2 ⟨?_, ?_⟩
  ·intro xv bv ev WW hB hdp
   refine op_of rfl ?_
   obtain ⟨ia, ik, ed0, hi⟩ := (show (PNum (1)) (xv 0) (bv 0) (ev 0) WW from hdp 0 (by kernel_rfl))
   have ed1 : xv 1 = .agg #[.slice co (len K) cc] := hdp 1 (by kernel_rfl)
   clear hdp
   intro KK hKK
   go_simp
   refine (CR.out _ _ hi.out ((E1.out.below hB).nt 0 rfl)).mono ?_
   rintro e WW' ⟨⟨za, zk, rfl, hz⟩, hb⟩
   (try dsimp only)
   (try simp only [Act.put, List.setIfInBounds_toArray, List.set_cons_zero, List.set_cons_succ])
   exact act_eq (hKK.out _ _ hb ⟨_, _, rfl, hz⟩) (by first | rfl | simp [upd, ed0, ed1])
  refine List.forall_mem_cons.2 ⟨?_, ?_⟩
  ·intro xv bv ev WW hB hdp
   refine op_of rfl ?_
   clear hdp
   intro KK hKK
   go_simp
   exact act_eq (hKK.out (.pointer (some ⟨WW.heap.size, 0, none⟩)) _ (below_one _ _) (PBox.mk hB rfl _)) (by first | rfl | simp [upd])
  exact List.forall_mem_nil _
 intro xv bv ev w2 hB hR hO
 obtain ⟨ia, ik, ed0, hi⟩ := (show (PNum (1)) (xv 0) (bv 0) (ev 0) w2 from hR 0 (by kernel_rfl))
 have ed1 : xv 1 = .agg #[.slice co (len K) cc] := hR 1 (by kernel_rfl)
 obtain ⟨za, zk, ed2, hz⟩ := (show (PNum ((1 % K))) (xv 2) (bv 2) (ev 2) w2 from hR 2 (by kernel_rfl))
 obtain ⟨gr1_3, ed3, hg3, hb3, he3, hc3, hf3, hs3⟩ := (show (PBox w1.heap.size) (xv 3) (bv 3) (ev 3) w2 from hR 3 (by kernel_rfl))
 simp only [ed0, ed1, ed2, ed3]
 have E2 := Zh (((((E1.out.below hB).add gr1_3 (.slice none 0 0) ⟨hc3, hf3, hs3, Nat.le_trans E1.out.size hg3, ⟨_, _, _, rfl⟩⟩ (fun p hp => by have := E1.out.old p hp; omega)).numN (hi.out : Nt _ _ (1))).numN (hz.out : Nt _ _ ((1 % K)))))
 clear E1 hB hR hO bx0 ed0 ed1 ed2 ed3 hi hz hg3 hb3 he3 hc3 hf3 hs3
 obtain ⟨p1, f1, -, -, -⟩ := E2.out.box 0 rfl
 refine wpAny_next (i := 4) (by kernel_rfl) rfl (fun KK hKK => ?_)
 go_simp
 have E3 : Hid (EnvB w [(gr1_3, .slice za (len (1 % K)) zk), (w.heap.size + 1 + 1 + 1, .slice none 0 0), (w.heap.size + 1 + 1, .slice co (len K) cc), (w.heap.size + 1, .slice bo (len E) cb), (w.heap.size, .slice ao (len N) ca)] [(.slice za (len (1 % K)) zk, digs (1 % K)), (.slice ia (len 1) ik, digs 1), (.slice co (len K) cc, digs K), (.slice bo (len E) cb, digs E), (.slice ao (len N) ca, digs N)] _) := Zh ((E2.out.set 0 (.slice za (len (1 % K)) zk) rfl ⟨_, _, _, rfl⟩))
 refine hKK.out _ _ ?_
 clear hKK KK
 refine wpAny_done (by kernel_rfl) ?_ _
 generalize hbl : bl E = n at CB
 have HBL := Zh hbl
 clear hbl
 have hn48 : (n : Int) ≤ 1000000 := by have h1 := HBE.out; rw [HBL.out] at h1; omega
 have hn0 : 0 ≤ (n : Int) := by omega
 obtain ⟨p2, f2, -, -, -⟩ := E3.out.box 3 rfl
 go_wp2_with fail
 refine (CB.out _ (E3.out.nt 3 rfl)).mono ?_
 rintro e w3 ⟨rfl, hb⟩
 have E4 := Zh ((E3.out.below hb))
 clear p1 f1 p2 f2 E3 E2 hb
 go_wp2_with fail
 go_loopg [8] (n) (fun gk s8 wr => ∃ (k P : Nat) (po : Option Addr) (pc : Nat), s8 = .int .i64 ((k : Int) - 1) ∧ Hid (EnvB w [(gr1_3, .slice po (len P) pc), (w.heap.size + 1 + 1 + 1, .slice none 0 0), (w.heap.size + 1 + 1, .slice co (len K) cc), (w.heap.size + 1, .slice bo (len E) cb), (w.heap.size, .slice ao (len N) ca)] [(.slice po (len P) pc, digs P), (.slice co (len K) cc, digs K), (.slice bo (len E) cb, digs E), (.slice ao (len N) ca, digs N)] wr) ∧ Hid (BitI (fun k => N ^ (E / 2 ^ k) % K) n k P gk))
 case atStart => exact ⟨n, 1 % K, za, zk, rfl, Zh ⟨E4.out.1, E4.out.2.1, ⟨E4.out.sl 0 rfl, ⟨E4.out.sl 2 rfl, ⟨E4.out.sl 3 rfl, ⟨E4.out.sl 4 rfl, trivial⟩⟩⟩⟩⟩, Zh (HBL.out ▸ HS.out)⟩
 case round =>
  clear E4 HS CB CR
  obtain ⟨k, P, po, pc, rfl, EL, HA⟩ := hrel
  obtain ⟨a1, a2, a3⟩ := HA.out
  clear HA
  by_cases hy : k = 0
  ·have t1 : decide (0 ≤ (k : Int) - 1) = false := decide_eq_false (by omega)
   have t2 : decide (1 ≤ (k : Int)) = false := decide_eq_false (by omega)
   have HP : Hid (P = N ^ E % K) := Zh (by rw [a3, hy]; simp)
   clear a1 a2 a3 hy HBE HNK CM CT
   obtain ⟨p3, f3, -, -, -⟩ := EL.out.box 0 rfl
   obtain ⟨p4, f4, -, -, -⟩ := EL.out.box 1 rfl
   have E5 : Hid (EnvB w [(gr1_3, .slice po (len P) pc), (w.heap.size + 1 + 1 + 1, .slice po (len P) pc), (w.heap.size + 1 + 1, .slice co (len K) cc), (w.heap.size + 1, .slice bo (len E) cb), (w.heap.size, .slice ao (len N) ca)] [(.slice po (len P) pc, digs P), (.slice co (len K) cc, digs K), (.slice bo (len E) cb, digs E), (.slice ao (len N) ca, digs N)] _) := Zh ((EL.out.set 1 (.slice po (len P) pc) rfl ⟨_, _, _, rfl⟩))
   have hfin := Zh E5.out
   obtain ⟨rc, -, -, -, -⟩ := E5.out.box 1 rfl
   go_wp2
   exact bodyPost_ret (v := .agg #[.slice po (len P) pc]) (by simp [results, Tryz.results40, go_sem, rc]) rfl ⟨HP.out ▸ ⟨_, _, rfl, Zh (hfin.out.nt 0 rfl)⟩, hfin.out.1⟩
  ·obtain ⟨j, rfl⟩ : ∃ j, k = j + 1 := ⟨k - 1, by omega⟩
   have ej : (((j + 1 : Nat) : Int) - 1) = (j : Int) := by omega
   rw [ej]
   have hj : (j : Int) ≤ 9223372036854775807 := by omega
   have t1 : decide (0 ≤ (j : Int)) = true := decide_eq_true (by omega)
   have HM : Hid (j < gk) := Zh (by omega)
   have HJ : Hid (j ≤ n) := Zh (by omega)
   have CTj := Zh (fun W ha => CT.out j W hj ha)
   have hPK : P < K := by rw [a3]; exact Nat.mod_lt _ (by have := HNK.out; omega)
   have hQK : P * P % K < K := Nat.mod_lt _ (by omega)
   have CM1 := Zh (fun (u : Value) W ha hb hc => CM.out u u P P W hPK hPK ha hb hc)
   have CM2 := Zh (fun (u v : Value) W ha hb hc => CM.out u v (P * P % K) N W hQK HNK.out ha hb hc)
   have hst := powm_step N E K j
   have hP3 : P = _ := a3
   dsimp only at hP3
   rw [← hP3] at hst
   cases ht : bt E j
   ·rw [ht] at hst
    simp only [Bool.false_eq_true, if_false] at hst
    have HK2 : Hid (BitI (fun k => N ^ (E / 2 ^ k) % K) n j (P * P % K) j) := Zh ⟨rfl, HJ.out, hst⟩
    have CTt : Hid (∀ W, Nt W (.slice bo (len E) cb) E → Calls Tryz.prog 55 #[.agg #[.slice bo (len E) cb], .int .i64 (j : Int)] W fun e w' => e = .returned (.bool false) ∧ Below W.heap.size W w') := Zh (by rw [← ht]; exact CTj.out)
    clear a1 a2 a3 hy ej hP3 hst CM CT CTj HNK HBE HJ ht hPK hQK
    generalize P * P % K = Q at *
    obtain ⟨p3, f3, -, -, -⟩ := EL.out.box 0 rfl
    obtain ⟨p4, f4, -, -, -⟩ := EL.out.box 2 rfl
    go_wp2_with fail
    refine (CM1.out _ _ (EL.out.nt 0 rfl) (EL.out.nt 0 rfl) (EL.out.nt 1 rfl)).mono ?_
    rintro e w4 ⟨⟨qa, qk, rfl, hq⟩, hb⟩
    have E5 := Zh (((EL.out.below hb).numN (hq.out : Nt _ _ Q)))
    clear p3 f3 p4 f4 EL hb hq
    obtain ⟨p5, f5, -, -, -⟩ := E5.out.box 0 rfl
    have E6 : Hid (EnvB w [(gr1_3, .slice qa (len Q) qk), (w.heap.size + 1 + 1 + 1, .slice none 0 0), (w.heap.size + 1 + 1, .slice co (len K) cc), (w.heap.size + 1, .slice bo (len E) cb), (w.heap.size, .slice ao (len N) ca)] [(.slice qa (len Q) qk, digs Q), (.slice po (len P) pc, digs P), (.slice co (len K) cc, digs K), (.slice bo (len E) cb, digs E), (.slice ao (len N) ca, digs N)] _) := Zh ((E5.out.set 0 (.slice qa (len Q) qk) rfl ⟨_, _, _, rfl⟩))
    obtain ⟨p6, f6, -, -, -⟩ := E6.out.box 3 rfl
    go_wp2_with fail
    refine (CTt.out _ (E6.out.nt 3 rfl)).mono ?_
    rintro e w5 ⟨rfl, hb⟩
    have E7 := Zh ((E6.out.below hb))
    clear p5 f5 p6 f6 E6 E5 hb
    have EZ := Zh E7.out
    go_wp2
    go_roundg (j)
    case rel => exact ⟨j, Q, qa, qk, rfl, Zh ⟨EZ.out.1, EZ.out.2.1, ⟨EZ.out.sl 0 rfl, ⟨EZ.out.sl 2 rfl, ⟨EZ.out.sl 3 rfl, ⟨EZ.out.sl 4 rfl, trivial⟩⟩⟩⟩⟩, HK2⟩
    case measure => exact HM.out
   ·rw [ht] at hst
    simp only [if_true] at hst
    have HK2 : Hid (BitI (fun k => N ^ (E / 2 ^ k) % K) n j (P * P % K * N % K) j) := Zh ⟨rfl, HJ.out, hst⟩
    have CTt : Hid (∀ W, Nt W (.slice bo (len E) cb) E → Calls Tryz.prog 55 #[.agg #[.slice bo (len E) cb], .int .i64 (j : Int)] W fun e w' => e = .returned (.bool true) ∧ Below W.heap.size W w') := Zh (by rw [← ht]; exact CTj.out)
    clear a1 a2 a3 hy ej hP3 hst CM CT CTj HNK HBE HJ ht hPK hQK
    generalize P * P % K * N % K = R at *
    generalize P * P % K = Q at *
    obtain ⟨p3, f3, -, -, -⟩ := EL.out.box 0 rfl
    obtain ⟨p4, f4, -, -, -⟩ := EL.out.box 2 rfl
    go_wp2_with fail
    refine (CM1.out _ _ (EL.out.nt 0 rfl) (EL.out.nt 0 rfl) (EL.out.nt 1 rfl)).mono ?_
    rintro e w4 ⟨⟨qa, qk, rfl, hq⟩, hb⟩
    have E5 := Zh (((EL.out.below hb).numN (hq.out : Nt _ _ Q)))
    clear p3 f3 p4 f4 EL hb hq
    obtain ⟨p5, f5, -, -, -⟩ := E5.out.box 0 rfl
    have E6 : Hid (EnvB w [(gr1_3, .slice qa (len Q) qk), (w.heap.size + 1 + 1 + 1, .slice none 0 0), (w.heap.size + 1 + 1, .slice co (len K) cc), (w.heap.size + 1, .slice bo (len E) cb), (w.heap.size, .slice ao (len N) ca)] [(.slice qa (len Q) qk, digs Q), (.slice po (len P) pc, digs P), (.slice co (len K) cc, digs K), (.slice bo (len E) cb, digs E), (.slice ao (len N) ca, digs N)] _) := Zh ((E5.out.set 0 (.slice qa (len Q) qk) rfl ⟨_, _, _, rfl⟩))
    obtain ⟨p6, f6, -, -, -⟩ := E6.out.box 3 rfl
    go_wp2_with fail
    refine (CTt.out _ (E6.out.nt 3 rfl)).mono ?_
    rintro e w5 ⟨rfl, hb⟩
    have E7 := Zh ((E6.out.below hb))
    clear p5 f5 p6 f6 E6 E5 hb
    obtain ⟨p7, f7, -, -, -⟩ := E7.out.box 0 rfl
    obtain ⟨p8, f8, -, -, -⟩ := E7.out.box 4 rfl
    obtain ⟨p9, f9, -, -, -⟩ := E7.out.box 2 rfl
    go_wp2_with fail
    refine (CM2.out _ _ _ (E7.out.nt 0 rfl) (E7.out.nt 4 rfl) (E7.out.nt 2 rfl)).mono ?_
    rintro e w6 ⟨⟨sa, sk, rfl, hs⟩, hb⟩
    have E8 := Zh (((E7.out.below hb).numN (hs.out : Nt _ _ R)))
    clear p7 f7 p8 f8 p9 f9 E7 hb hs
    obtain ⟨p10, f10, -, -, -⟩ := E8.out.box 0 rfl
    have E9 : Hid (EnvB w [(gr1_3, .slice sa (len R) sk), (w.heap.size + 1 + 1 + 1, .slice none 0 0), (w.heap.size + 1 + 1, .slice co (len K) cc), (w.heap.size + 1, .slice bo (len E) cb), (w.heap.size, .slice ao (len N) ca)] [(.slice sa (len R) sk, digs R), (.slice qa (len Q) qk, digs Q), (.slice po (len P) pc, digs P), (.slice co (len K) cc, digs K), (.slice bo (len E) cb, digs E), (.slice ao (len N) ca, digs N)] _) := Zh ((E8.out.set 0 (.slice sa (len R) sk) rfl ⟨_, _, _, rfl⟩))
    have EZ := Zh E9.out
    go_wp2
    go_roundg (j)
    case rel => exact ⟨j, R, sa, sk, rfl, Zh ⟨EZ.out.1, EZ.out.2.1, ⟨EZ.out.sl 0 rfl, ⟨EZ.out.sl 3 rfl, ⟨EZ.out.sl 4 rfl, ⟨EZ.out.sl 5 rfl, trivial⟩⟩⟩⟩⟩, HK2⟩
    case measure => exact HM.out
theorem rPow_c {a b c : Value} {N E K r : Nat} {w : World} (hr : N ^ E % K = r) (he : len E ≤ 1000) (hn : N < K) (hk : len K ≤ 1000) (ha : Nt w a N) (hb : Nt w b E) (hc : Nt w c K) :
  Calls Tryz.prog 40 #[.agg #[a], .agg #[b], .agg #[c]] w fun e w' => RetV r e w' ∧ Below w.heap.size w w' := by
 obtain ⟨ao, ca, rfl, _⟩ := ha.open
 obtain ⟨bo, cb, rfl, _⟩ := hb.open
 obtain ⟨co, cc, rfl, _⟩ := hc.open
 subst hr
 exact rPow_w ao ca bo cb co cc N E K w ha hb hc he hn hk
end Nn
namespace Nn
open Go.RowKit NatMath
set_option maxRecDepth 100000 in
set_option maxHeartbeats 1000000 in
theorem rOver_w (ao : Option Addr) (ca : Nat) (bo : Option Addr) (cb : Nat) (N M : Nat)  (w : World) (ha : Nt w (.slice ao (len N) ca) N) (hb : Nt w (.slice bo (len M) cb) M) (h1 : len N ≤ 2000) (h2 : len M ≤ 2000) (h0 : M ≠ 0) :
  Calls Tryz.prog 77 #[.agg #[.slice ao (len N) ca], .agg #[.slice bo (len M) cb]] w fun e w' => RetV (N / M) e w' ∧ Below w.heap.size w w' := by
 have CB := Zh (fun W ha => rBits_c (.slice ao (len N) ca) N W ha (by omega))
 have CT := Zh (fun (j : Nat) W (hj : (j : Int) ≤ 9223372036854775807) ha => rBit_c (.slice ao (len N) ca) N j W ha hj)
 have hbe : bl N ≤ 64000 := by have := (len_le_bits (n := N) (k := 2000)).2 h1; omega
 have HS : Hid (OvI N M (bl N) (bl N) 0 0 (bl N)) := Zh (OvI.start N M)
 have HBE : Hid (bl N ≤ 64000) := Zh hbe
 have CP := Zh (fun (u v : Value) (X Y : Nat) W hx hy ha hb => @rPlus_c u v X Y (X + Y) W rfl hx hy ha hb)
 have CL := Zh (fun (v : Value) (X : Nat) (t : Bool) W ht ha hb => @rLess_c v (.slice bo (len M) cb) X M t W ht ha hb)
 have CM := Zh (fun (v : Value) (X : Nat) W hl hx ha hb => @rMinus_c v (.slice bo (len M) cb) X M (X - M) W rfl hl hx ha hb)
 have HN : Hid (len N ≤ 2000 ∧ M ≠ 0 ∧ len M ≤ 2000) := Zh ⟨h1, h0, h2⟩
 clear h1 h0 h2 hbe
 have E0 := Zh (((EnvB.start w).numN ha).numN hb)
 clear ha hb
 go_enter Tryz.func77, Tryz.ntmps77
 generalize hbl : bl N = n at CB
 have HBL := Zh hbl
 clear hbl
 have hn48 : (n : Int) ≤ 1000000 := by have h1 := HBE.out; rw [HBL.out] at h1; omega
 have hn0 : 0 ≤ (n : Int) := by omega
 go_wp2_with fail
 have E1 := Zh ((((((E0.out.push (.slice ao (len N) ca) 24 ⟨_, _, _, rfl⟩ (w.heap.size) (by simp)).push (.slice bo (len M) cb) 24 ⟨_, _, _, rfl⟩ (w.heap.size + 1) (by simp)).push (.slice none 0 0) 24 ⟨_, _, _, rfl⟩ (w.heap.size + 1 + 1) (by simp)).push (.slice none 0 0) 24 ⟨_, _, _, rfl⟩ (w.heap.size + 1 + 1 + 1) (by simp)).push (.slice none 0 0) 24 ⟨_, _, _, rfl⟩ (w.heap.size + 1 + 1 + 1 + 1) (by simp)))
 refine (CB.out _ (E1.out.nt 1 rfl)).mono ?_
 rintro e w1 ⟨rfl, hb⟩
 have E2 := Zh ((E1.out.below hb))
 clear E1 E0 hb
 have E3 : Hid (EnvB w [(w.heap.size + 1 + 1 + 1 + 1, .slice none 0 0), (w.heap.size + 1 + 1 + 1, .slice none (len 0) 0), (w.heap.size + 1 + 1, .slice none 0 0), (w.heap.size + 1, .slice bo (len M) cb), (w.heap.size, .slice ao (len N) ca)] [(.slice none (len 0) 0, digs 0), (.slice bo (len M) cb, digs M), (.slice ao (len N) ca, digs N)] _) := Zh (by have hz := (E2.out.numN (Nt.zero _ : Nt _ _ 0)); simp only [len_zero] at hz ⊢; exact hz)
 have E4 : Hid (EnvB w [(w.heap.size + 1 + 1 + 1 + 1, .slice none (len 0) 0), (w.heap.size + 1 + 1 + 1, .slice none (len 0) 0), (w.heap.size + 1 + 1, .slice none 0 0), (w.heap.size + 1, .slice bo (len M) cb), (w.heap.size, .slice ao (len N) ca)] [(.slice none (len 0) 0, digs 0), (.slice bo (len M) cb, digs M), (.slice ao (len N) ca, digs N)] _) := Zh (by have hz := E3.out; simp only [len_zero] at hz ⊢; exact hz)
 go_wp2_with fail
 go_loopg [7] (n) (fun gk s7 wr => ∃ (k Q R : Nat) (qo ro : Option Addr) (qc rc : Nat), s7 = .int .i64 ((k : Int) - 1) ∧ Hid (EnvB w [(w.heap.size + 1 + 1 + 1 + 1, .slice ro (len R) rc), (w.heap.size + 1 + 1 + 1, .slice qo (len Q) qc), (w.heap.size + 1 + 1, .slice none 0 0), (w.heap.size + 1, .slice bo (len M) cb), (w.heap.size, .slice ao (len N) ca)] [(.slice ro (len R) rc, digs R), (.slice qo (len Q) qc, digs Q), (.slice bo (len M) cb, digs M), (.slice ao (len N) ca, digs N)] wr) ∧ Hid (OvI N M n k Q R gk))
 case atStart => exact ⟨n, 0, 0, none, none, 0, 0, rfl, Zh ⟨E4.out.1, E4.out.2.1, ⟨E4.out.sl 0 rfl, ⟨E4.out.sl 0 rfl, ⟨E4.out.sl 1 rfl, ⟨E4.out.sl 2 rfl, trivial⟩⟩⟩⟩⟩, Zh (HBL.out ▸ HS.out)⟩
 case round =>
  clear E4 E2 E3 HS CB
  obtain ⟨k, Q, R, qo, ro, qc, rc, rfl, EL, HA⟩ := hrel
  by_cases hy : k = 0
  ·obtain ⟨a1, a2, a3, a4⟩ := HA.out
   have t1 : decide (0 ≤ (k : Int) - 1) = false := decide_eq_false (by omega)
   have t2 : decide (1 ≤ (k : Int)) = false := decide_eq_false (by omega)
   have HP : Hid (Q = N / M) := Zh (by rw [a3, hy]; simp)
   clear HA a1 a2 a3 a4 hy HBE HN CP CL CM CT
   obtain ⟨p1, f1, -, -, -⟩ := EL.out.box 1 rfl
   obtain ⟨p2, f2, -, -, -⟩ := EL.out.box 2 rfl
   have E5 : Hid (EnvB w [(w.heap.size + 1 + 1 + 1 + 1, .slice ro (len R) rc), (w.heap.size + 1 + 1 + 1, .slice qo (len Q) qc), (w.heap.size + 1 + 1, .slice qo (len Q) qc), (w.heap.size + 1, .slice bo (len M) cb), (w.heap.size, .slice ao (len N) ca)] [(.slice ro (len R) rc, digs R), (.slice qo (len Q) qc, digs Q), (.slice bo (len M) cb, digs M), (.slice ao (len N) ca, digs N)] _) := Zh ((EL.out.set 2 (.slice qo (len Q) qc) rfl ⟨_, _, _, rfl⟩))
   have hfin := Zh E5.out
   obtain ⟨rc, -, -, -, -⟩ := E5.out.box 2 rfl
   go_wp2
   exact bodyPost_ret (v := .agg #[.slice qo (len Q) qc]) (by simp [results, Tryz.results77, go_sem, rc]) rfl ⟨HP.out ▸ ⟨_, _, rfl, Zh (hfin.out.nt 1 rfl)⟩, hfin.out.1⟩
  ·obtain ⟨j, rfl⟩ : ∃ j, k = j + 1 := ⟨k - 1, by omega⟩
   have ej : (((j + 1 : Nat) : Int) - 1) = (j : Int) := by omega
   rw [ej]
   obtain ⟨a1, a2, a3, a4⟩ := HA.out
   have hj : (j : Int) ≤ 9223372036854775807 := by omega
   have t1 : decide (0 ≤ (j : Int)) = true := decide_eq_true (by omega)
   have HM : Hid (j < gk) := Zh (by omega)
   have CTj := Zh (fun W ha => CT.out j W hj ha)
   have hq : len Q ≤ 2000 := by rw [a3]; exact Nat.le_trans (len_le_of_le (Nat.le_trans (Nat.div_le_self _ _) (Nat.div_le_self _ _))) HN.out.1
   have hr : len R ≤ 2000 := by rw [a4]; exact Nat.le_trans (len_le_of_le (Nat.le_of_lt (Nat.mod_lt _ (Nat.pos_of_ne_zero HN.out.2.1)))) HN.out.2.2
   have hq2 : len (Q + Q) ≤ 2001 := len_add_le hq hq (by omega)
   have hr2 : len (R + R) ≤ 2001 := len_add_le hr hr (by omega)
   have l1 : len 1 ≤ 2001 := by rw [len_one]; omega
   have hr3 : len (R + R + 1) ≤ 2002 := len_add_le hr2 l1 (by omega)
   cases ht : bt N j
   ·have hst := over_step HA.out HN.out.2.1 false ht
    simp only [b1, Bool.false_eq_true, if_false, Nat.add_zero] at hst
    have CTt : Hid (∀ W, Nt W (.slice ao (len N) ca) N → Calls Tryz.prog 55 #[.agg #[.slice ao (len N) ca], .int .i64 (j : Int)] W fun e w' => e = .returned (.bool false) ∧ Below W.heap.size W w') := Zh (by rw [← ht]; exact CTj.out)
    have CP1 := Zh (fun (u : Value) W ha hb => CP.out u u R R W (by omega) (by omega) ha hb)
    have CP2 := Zh (fun (u : Value) W ha hb => CP.out u u Q Q W (by omega) (by omega) ha hb)
    have CP4 := Zh (fun (u v : Value) W ha hb => CP.out u v (Q + Q) 1 W (by omega) (by omega) ha hb)
    by_cases hle : R + R < M
    ·have HK2 := Zh (hst.2 (by omega))
     have CL1 := Zh (fun (v : Value) W ha hb => CL.out v (R + R) true W (decide_eq_true hle) ha hb)
     clear a1 a2 a3 a4 HA hy ej hst CP CL CM CT CTj HN HBE ht hq hr hq2 hr2 hr3 l1 hle
     generalize R + R = X at *
     generalize Q + Q = U at *
     go_wp2_with fail
     have bx0 := Zh (EL.out.box 0 rfl)
     have bx1 := Zh (EL.out.box 1 rfl)
     refine' wp_region_phase (by kernel_rfl) [0, 1, 2, 3, 4, 5] (by kernel_rfl) #[true, true, true, true, true, true, false, false] (by kernel_rfl) 2 (by kernel_rfl) [PEq (.agg #[.slice ro (len R) rc]), PEq (.agg #[.slice ro (len R) rc]), PNum (X), PEq (.agg #[.slice qo (len Q) qc]), PEq (.agg #[.slice qo (len Q) qc]), PNum (U), Fact.none, Fact.none] (List.forall_mem_cons.2 ⟨PEq.st _, List.forall_mem_cons.2 ⟨PEq.st _, List.forall_mem_cons.2 ⟨PNum.st _, List.forall_mem_cons.2 ⟨PEq.st _, List.forall_mem_cons.2 ⟨PEq.st _, List.forall_mem_cons.2 ⟨PNum.st _, List.forall_mem_cons.2 ⟨Fact.none_st, List.forall_mem_cons.2 ⟨Fact.none_st, List.forall_mem_nil _⟩⟩⟩⟩⟩⟩⟩⟩) _ ?hFr1 ?stepr1 ?doner1
     case hFr1 => intro x; simp only [frameL, Act.put, List.setIfInBounds_toArray, List.set_cons_zero, List.set_cons_succ, Nat.zero_add, Nat.reduceAdd]; exact rfl
     case stepr1 =>
      refine List.forall_mem_cons.2 ⟨?_, ?_⟩
      ·intro xv bv ev WW hB hdp
       refine op_of rfl ?_
       clear hdp
       intro KK hKK
       obtain ⟨z, -, -, -, -⟩ := bx0.out.below hB
       go_simp
       exact act_eq (hKK.out (.agg #[.slice ro (len R) rc]) _ (Below.refl _ _) rfl) (by first | rfl | simp [upd])
      refine List.forall_mem_cons.2 ⟨?_, ?_⟩
      ·intro xv bv ev WW hB hdp
       refine op_of rfl ?_
       clear hdp
       intro KK hKK
       obtain ⟨z, -, -, -, -⟩ := bx0.out.below hB
       go_simp
       exact act_eq (hKK.out (.agg #[.slice ro (len R) rc]) _ (Below.refl _ _) rfl) (by first | rfl | simp [upd])
      refine List.forall_mem_cons.2 ⟨?_, ?_⟩
      ·intro xv bv ev WW hB hdp
       refine op_of rfl ?_
       have ed0 : xv 0 = .agg #[.slice ro (len R) rc] := hdp 0 (by kernel_rfl)
       have ed1 : xv 1 = .agg #[.slice ro (len R) rc] := hdp 1 (by kernel_rfl)
       clear hdp
       intro KK hKK
       go_simp
       refine (CP1.out _ _ ((EL.out.below hB).nt 0 rfl) ((EL.out.below hB).nt 0 rfl)).mono ?_
       rintro e WW' ⟨⟨xa, xk, rfl, hx⟩, hb⟩
       (try dsimp only)
       (try simp only [Act.put, List.setIfInBounds_toArray, List.set_cons_zero, List.set_cons_succ])
       exact act_eq (hKK.out _ _ hb ⟨_, _, rfl, hx⟩) (by first | rfl | simp [upd, ed0, ed1])
      refine List.forall_mem_cons.2 ⟨?_, ?_⟩
      ·intro xv bv ev WW hB hdp
       refine op_of rfl ?_
       clear hdp
       intro KK hKK
       obtain ⟨z, -, -, -, -⟩ := bx1.out.below hB
       go_simp
       exact act_eq (hKK.out (.agg #[.slice qo (len Q) qc]) _ (Below.refl _ _) rfl) (by first | rfl | simp [upd])
      refine List.forall_mem_cons.2 ⟨?_, ?_⟩
      ·intro xv bv ev WW hB hdp
       refine op_of rfl ?_
       clear hdp
       intro KK hKK
       obtain ⟨z, -, -, -, -⟩ := bx1.out.below hB
       go_simp
       exact act_eq (hKK.out (.agg #[.slice qo (len Q) qc]) _ (Below.refl _ _) rfl) (by first | rfl | simp [upd])
      refine List.forall_mem_cons.2 ⟨?_, ?_⟩
      ·intro xv bv ev WW hB hdp
       refine op_of rfl ?_
       have ed3 : xv 3 = .agg #[.slice qo (len Q) qc] := hdp 3 (by kernel_rfl)
       have ed4 : xv 4 = .agg #[.slice qo (len Q) qc] := hdp 4 (by kernel_rfl)
       clear hdp
       intro KK hKK
       go_simp
       refine (CP2.out _ _ ((EL.out.below hB).nt 1 rfl) ((EL.out.below hB).nt 1 rfl)).mono ?_
       rintro e WW' ⟨⟨ua, uk, rfl, hu⟩, hb⟩
       (try dsimp only)
       (try simp only [Act.put, List.setIfInBounds_toArray, List.set_cons_zero, List.set_cons_succ])
       exact act_eq (hKK.out _ _ hb ⟨_, _, rfl, hu⟩) (by first | rfl | simp [upd, ed3, ed4])
      exact List.forall_mem_nil _
     intro xv bv ev w2 hB hR hO
     have ed0 : xv 0 = .agg #[.slice ro (len R) rc] := hR 0 (by kernel_rfl)
     have ed1 : xv 1 = .agg #[.slice ro (len R) rc] := hR 1 (by kernel_rfl)
     obtain ⟨xa, xk, ed2, hx⟩ := (show (PNum (X)) (xv 2) (bv 2) (ev 2) w2 from hR 2 (by kernel_rfl))
     have ed3 : xv 3 = .agg #[.slice qo (len Q) qc] := hR 3 (by kernel_rfl)
     have ed4 : xv 4 = .agg #[.slice qo (len Q) qc] := hR 4 (by kernel_rfl)
     obtain ⟨ua, uk, ed5, hu⟩ := (show (PNum (U)) (xv 5) (bv 5) (ev 5) w2 from hR 5 (by kernel_rfl))
     simp only [ed0, ed1, ed2, ed3, ed4, ed5]
     have E5 := Zh ((((EL.out.below hB).numN (hx.out : Nt _ _ (X))).numN (hu.out : Nt _ _ (U))))
     clear EL hB hR hO bx0 bx1 ed0 ed1 ed2 ed3 ed4 ed5 hx hu
     obtain ⟨p1, f1, -, -, -⟩ := E5.out.box 0 rfl
     refine wpAny_next (i := 6) (by kernel_rfl) rfl (fun KK hKK => ?_)
     go_simp
     have E6 : Hid (EnvB w [(w.heap.size + 1 + 1 + 1 + 1, .slice xa (len X) xk), (w.heap.size + 1 + 1 + 1, .slice qo (len Q) qc), (w.heap.size + 1 + 1, .slice none 0 0), (w.heap.size + 1, .slice bo (len M) cb), (w.heap.size, .slice ao (len N) ca)] [(.slice ua (len U) uk, digs U), (.slice xa (len X) xk, digs X), (.slice ro (len R) rc, digs R), (.slice qo (len Q) qc, digs Q), (.slice bo (len M) cb, digs M), (.slice ao (len N) ca, digs N)] _) := Zh ((E5.out.set 0 (.slice xa (len X) xk) rfl ⟨_, _, _, rfl⟩))
     refine hKK.out _ _ ?_
     clear hKK KK
     obtain ⟨p2, f2, -, -, -⟩ := E6.out.box 1 rfl
     refine wpAny_next (i := 7) (by kernel_rfl) rfl (fun KK hKK => ?_)
     go_simp
     have E7 : Hid (EnvB w [(w.heap.size + 1 + 1 + 1 + 1, .slice xa (len X) xk), (w.heap.size + 1 + 1 + 1, .slice ua (len U) uk), (w.heap.size + 1 + 1, .slice none 0 0), (w.heap.size + 1, .slice bo (len M) cb), (w.heap.size, .slice ao (len N) ca)] [(.slice ua (len U) uk, digs U), (.slice xa (len X) xk, digs X), (.slice ro (len R) rc, digs R), (.slice qo (len Q) qc, digs Q), (.slice bo (len M) cb, digs M), (.slice ao (len N) ca, digs N)] _) := Zh ((E6.out.set 1 (.slice ua (len U) uk) rfl ⟨_, _, _, rfl⟩))
     refine hKK.out _ _ ?_
     clear hKK KK
     refine wpAny_done (by kernel_rfl) ?_ _
     obtain ⟨p3, f3, -, -, -⟩ := E7.out.box 4 rfl
     go_wp2_with fail
     refine (CTt.out _ (E7.out.nt 5 rfl)).mono ?_
     rintro e w3 ⟨rfl, hb⟩
     have E8 := Zh ((E7.out.below hb))
     clear p1 f1 p2 f2 p3 f3 E7 E5 E6 hb
     obtain ⟨p4, f4, -, -, -⟩ := E8.out.box 0 rfl
     obtain ⟨p5, f5, -, -, -⟩ := E8.out.box 3 rfl
     go_wp2_with fail
     refine (CL1.out _ _ (E8.out.nt 1 rfl) (E8.out.nt 4 rfl)).mono ?_
     rintro e w4 ⟨rfl, hb⟩
     have E9 := Zh ((E8.out.below hb))
     clear p4 f4 p5 f5 E8 hb
     have EZ := Zh E9.out
     go_wp2
     go_roundg (j)
     case rel => exact ⟨j, U, X, ua, xa, uk, xk, rfl, Zh ⟨EZ.out.1, EZ.out.2.1, ⟨EZ.out.sl 1 rfl, ⟨EZ.out.sl 0 rfl, ⟨EZ.out.sl 4 rfl, ⟨EZ.out.sl 5 rfl, trivial⟩⟩⟩⟩⟩, HK2⟩
     case measure => exact HM.out
    ·have HK2 := Zh (hst.1 (by omega))
     have CL1 := Zh (fun (v : Value) W ha hb => CL.out v (R + R) false W (decide_eq_false hle) ha hb)
     have CM1 := Zh (fun (v : Value) W ha hb => CM.out v (R + R) W (by omega) (by omega) ha hb)
     clear a1 a2 a3 a4 HA hy ej hst CP CL CM CT CTj HN HBE ht hq hr hq2 hr2 hr3 l1 hle
     generalize R + R - M = D at *
     generalize Q + Q + 1 = F at *
     generalize R + R = X at *
     generalize Q + Q = U at *
     go_wp2_with fail
     have bx0 := Zh (EL.out.box 0 rfl)
     have bx1 := Zh (EL.out.box 1 rfl)
     refine' wp_region_phase (by kernel_rfl) [0, 1, 2, 3, 4, 5] (by kernel_rfl) #[true, true, true, true, true, true, false, false] (by kernel_rfl) 2 (by kernel_rfl) [PEq (.agg #[.slice ro (len R) rc]), PEq (.agg #[.slice ro (len R) rc]), PNum (X), PEq (.agg #[.slice qo (len Q) qc]), PEq (.agg #[.slice qo (len Q) qc]), PNum (U), Fact.none, Fact.none] (List.forall_mem_cons.2 ⟨PEq.st _, List.forall_mem_cons.2 ⟨PEq.st _, List.forall_mem_cons.2 ⟨PNum.st _, List.forall_mem_cons.2 ⟨PEq.st _, List.forall_mem_cons.2 ⟨PEq.st _, List.forall_mem_cons.2 ⟨PNum.st _, List.forall_mem_cons.2 ⟨Fact.none_st, List.forall_mem_cons.2 ⟨Fact.none_st, List.forall_mem_nil _⟩⟩⟩⟩⟩⟩⟩⟩) _ ?hFr2 ?stepr2 ?doner2
     case hFr2 => intro x; simp only [frameL, Act.put, List.setIfInBounds_toArray, List.set_cons_zero, List.set_cons_succ, Nat.zero_add, Nat.reduceAdd]; exact rfl
     case stepr2 =>
      refine List.forall_mem_cons.2 ⟨?_, ?_⟩
      ·intro xv bv ev WW hB hdp
       refine op_of rfl ?_
       clear hdp
       intro KK hKK
       obtain ⟨z, -, -, -, -⟩ := bx0.out.below hB
       go_simp
       exact act_eq (hKK.out (.agg #[.slice ro (len R) rc]) _ (Below.refl _ _) rfl) (by first | rfl | simp [upd])
      refine List.forall_mem_cons.2 ⟨?_, ?_⟩
      ·intro xv bv ev WW hB hdp
       refine op_of rfl ?_
       clear hdp
       intro KK hKK
       obtain ⟨z, -, -, -, -⟩ := bx0.out.below hB
       go_simp
       exact act_eq (hKK.out (.agg #[.slice ro (len R) rc]) _ (Below.refl _ _) rfl) (by first | rfl | simp [upd])
      refine List.forall_mem_cons.2 ⟨?_, ?_⟩
      ·intro xv bv ev WW hB hdp
       refine op_of rfl ?_
       have ed0 : xv 0 = .agg #[.slice ro (len R) rc] := hdp 0 (by kernel_rfl)
       have ed1 : xv 1 = .agg #[.slice ro (len R) rc] := hdp 1 (by kernel_rfl)
       clear hdp
       intro KK hKK
       go_simp
       refine (CP1.out _ _ ((EL.out.below hB).nt 0 rfl) ((EL.out.below hB).nt 0 rfl)).mono ?_
       rintro e WW' ⟨⟨xa, xk, rfl, hx⟩, hb⟩
       (try dsimp only)
       (try simp only [Act.put, List.setIfInBounds_toArray, List.set_cons_zero, List.set_cons_succ])
       exact act_eq (hKK.out _ _ hb ⟨_, _, rfl, hx⟩) (by first | rfl | simp [upd, ed0, ed1])
      refine List.forall_mem_cons.2 ⟨?_, ?_⟩
      ·intro xv bv ev WW hB hdp
       refine op_of rfl ?_
       clear hdp
       intro KK hKK
       obtain ⟨z, -, -, -, -⟩ := bx1.out.below hB
       go_simp
       exact act_eq (hKK.out (.agg #[.slice qo (len Q) qc]) _ (Below.refl _ _) rfl) (by first | rfl | simp [upd])
      refine List.forall_mem_cons.2 ⟨?_, ?_⟩
      ·intro xv bv ev WW hB hdp
       refine op_of rfl ?_
       clear hdp
       intro KK hKK
       obtain ⟨z, -, -, -, -⟩ := bx1.out.below hB
       go_simp
       exact act_eq (hKK.out (.agg #[.slice qo (len Q) qc]) _ (Below.refl _ _) rfl) (by first | rfl | simp [upd])
      refine List.forall_mem_cons.2 ⟨?_, ?_⟩
      ·intro xv bv ev WW hB hdp
       refine op_of rfl ?_
       have ed3 : xv 3 = .agg #[.slice qo (len Q) qc] := hdp 3 (by kernel_rfl)
       have ed4 : xv 4 = .agg #[.slice qo (len Q) qc] := hdp 4 (by kernel_rfl)
       clear hdp
       intro KK hKK
       go_simp
       refine (CP2.out _ _ ((EL.out.below hB).nt 1 rfl) ((EL.out.below hB).nt 1 rfl)).mono ?_
       rintro e WW' ⟨⟨ua, uk, rfl, hu⟩, hb⟩
       (try dsimp only)
       (try simp only [Act.put, List.setIfInBounds_toArray, List.set_cons_zero, List.set_cons_succ])
       exact act_eq (hKK.out _ _ hb ⟨_, _, rfl, hu⟩) (by first | rfl | simp [upd, ed3, ed4])
      exact List.forall_mem_nil _
     intro xv bv ev w2 hB hR hO
     have ed0 : xv 0 = .agg #[.slice ro (len R) rc] := hR 0 (by kernel_rfl)
     have ed1 : xv 1 = .agg #[.slice ro (len R) rc] := hR 1 (by kernel_rfl)
     obtain ⟨xa, xk, ed2, hx⟩ := (show (PNum (X)) (xv 2) (bv 2) (ev 2) w2 from hR 2 (by kernel_rfl))
     have ed3 : xv 3 = .agg #[.slice qo (len Q) qc] := hR 3 (by kernel_rfl)
     have ed4 : xv 4 = .agg #[.slice qo (len Q) qc] := hR 4 (by kernel_rfl)
     obtain ⟨ua, uk, ed5, hu⟩ := (show (PNum (U)) (xv 5) (bv 5) (ev 5) w2 from hR 5 (by kernel_rfl))
     simp only [ed0, ed1, ed2, ed3, ed4, ed5]
     have E5 := Zh ((((EL.out.below hB).numN (hx.out : Nt _ _ (X))).numN (hu.out : Nt _ _ (U))))
     clear EL hB hR hO bx0 bx1 ed0 ed1 ed2 ed3 ed4 ed5 hx hu
     obtain ⟨p1, f1, -, -, -⟩ := E5.out.box 0 rfl
     refine wpAny_next (i := 6) (by kernel_rfl) rfl (fun KK hKK => ?_)
     go_simp
     have E6 : Hid (EnvB w [(w.heap.size + 1 + 1 + 1 + 1, .slice xa (len X) xk), (w.heap.size + 1 + 1 + 1, .slice qo (len Q) qc), (w.heap.size + 1 + 1, .slice none 0 0), (w.heap.size + 1, .slice bo (len M) cb), (w.heap.size, .slice ao (len N) ca)] [(.slice ua (len U) uk, digs U), (.slice xa (len X) xk, digs X), (.slice ro (len R) rc, digs R), (.slice qo (len Q) qc, digs Q), (.slice bo (len M) cb, digs M), (.slice ao (len N) ca, digs N)] _) := Zh ((E5.out.set 0 (.slice xa (len X) xk) rfl ⟨_, _, _, rfl⟩))
     refine hKK.out _ _ ?_
     clear hKK KK
     obtain ⟨p2, f2, -, -, -⟩ := E6.out.box 1 rfl
     refine wpAny_next (i := 7) (by kernel_rfl) rfl (fun KK hKK => ?_)
     go_simp
     have E7 : Hid (EnvB w [(w.heap.size + 1 + 1 + 1 + 1, .slice xa (len X) xk), (w.heap.size + 1 + 1 + 1, .slice ua (len U) uk), (w.heap.size + 1 + 1, .slice none 0 0), (w.heap.size + 1, .slice bo (len M) cb), (w.heap.size, .slice ao (len N) ca)] [(.slice ua (len U) uk, digs U), (.slice xa (len X) xk, digs X), (.slice ro (len R) rc, digs R), (.slice qo (len Q) qc, digs Q), (.slice bo (len M) cb, digs M), (.slice ao (len N) ca, digs N)] _) := Zh ((E6.out.set 1 (.slice ua (len U) uk) rfl ⟨_, _, _, rfl⟩))
     refine hKK.out _ _ ?_
     clear hKK KK
     refine wpAny_done (by kernel_rfl) ?_ _
     obtain ⟨p3, f3, -, -, -⟩ := E7.out.box 4 rfl
     go_wp2_with fail
     refine (CTt.out _ (E7.out.nt 5 rfl)).mono ?_
     rintro e w3 ⟨rfl, hb⟩
     have E8 := Zh ((E7.out.below hb))
     clear p1 f1 p2 f2 p3 f3 E7 E5 E6 hb
     obtain ⟨p4, f4, -, -, -⟩ := E8.out.box 0 rfl
     obtain ⟨p5, f5, -, -, -⟩ := E8.out.box 3 rfl
     go_wp2_with fail
     refine (CL1.out _ _ (E8.out.nt 1 rfl) (E8.out.nt 4 rfl)).mono ?_
     rintro e w4 ⟨rfl, hb⟩
     have E9 := Zh ((E8.out.below hb))
     clear p4 f4 p5 f5 E8 hb
     go_wp2_with fail
     have bx0 := Zh (E9.out.box 0 rfl)
     have bx1 := Zh (E9.out.box 3 rfl)
     have bx2 := Zh (E9.out.box 1 rfl)
     refine' wp_region_phase (by kernel_rfl) [0, 1, 2, 3, 4, 5] (by kernel_rfl) #[true, true, true, true, true, true, false, false] (by kernel_rfl) 2 (by kernel_rfl) [PEq (.agg #[.slice xa (len X) xk]), PEq (.agg #[.slice bo (len M) cb]), PNum (D), PEq (.agg #[.slice ua (len U) uk]), PNum (1), PNum (F), Fact.none, Fact.none] (List.forall_mem_cons.2 ⟨PEq.st _, List.forall_mem_cons.2 ⟨PEq.st _, List.forall_mem_cons.2 ⟨PNum.st _, List.forall_mem_cons.2 ⟨PEq.st _, List.forall_mem_cons.2 ⟨PNum.st _, List.forall_mem_cons.2 ⟨PNum.st _, List.forall_mem_cons.2 ⟨Fact.none_st, List.forall_mem_cons.2 ⟨Fact.none_st, List.forall_mem_nil _⟩⟩⟩⟩⟩⟩⟩⟩) _ ?hFr3 ?stepr3 ?doner3
     case hFr3 => intro x; simp only [frameL, Act.put, List.setIfInBounds_toArray, List.set_cons_zero, List.set_cons_succ, Nat.zero_add, Nat.reduceAdd]; exact rfl
     case stepr3 =>
      refine List.forall_mem_cons.2 ⟨?_, ?_⟩
      ·intro xv bv ev WW hB hdp
       refine op_of rfl ?_
       clear hdp
       intro KK hKK
       obtain ⟨z, -, -, -, -⟩ := bx0.out.below hB
       go_simp
       exact act_eq (hKK.out (.agg #[.slice xa (len X) xk]) _ (Below.refl _ _) rfl) (by first | rfl | simp [upd])
      refine List.forall_mem_cons.2 ⟨?_, ?_⟩
      ·intro xv bv ev WW hB hdp
       refine op_of rfl ?_
       clear hdp
       intro KK hKK
       obtain ⟨z, -, -, -, -⟩ := bx1.out.below hB
       go_simp
       exact act_eq (hKK.out (.agg #[.slice bo (len M) cb]) _ (Below.refl _ _) rfl) (by first | rfl | simp [upd])
      refine List.forall_mem_cons.2 ⟨?_, ?_⟩
      ·intro xv bv ev WW hB hdp
       refine op_of rfl ?_
       have ed0 : xv 0 = .agg #[.slice xa (len X) xk] := hdp 0 (by kernel_rfl)
       have ed1 : xv 1 = .agg #[.slice bo (len M) cb] := hdp 1 (by kernel_rfl)
       clear hdp
       intro KK hKK
       go_simp
       refine (CM1.out _ _ ((E9.out.below hB).nt 1 rfl) ((E9.out.below hB).nt 4 rfl)).mono ?_
       rintro e WW' ⟨⟨da, dk, rfl, hd⟩, hb⟩
       (try dsimp only)
       (try simp only [Act.put, List.setIfInBounds_toArray, List.set_cons_zero, List.set_cons_succ])
       exact act_eq (hKK.out _ _ hb ⟨_, _, rfl, hd⟩) (by first | rfl | simp [upd, ed0, ed1])
      refine List.forall_mem_cons.2 ⟨?_, ?_⟩
      ·intro xv bv ev WW hB hdp
       refine op_of rfl ?_
       clear hdp
       intro KK hKK
       obtain ⟨z, -, -, -, -⟩ := bx2.out.below hB
       go_simp
       exact act_eq (hKK.out (.agg #[.slice ua (len U) uk]) _ (Below.refl _ _) rfl) (by first | rfl | simp [upd])
      refine List.forall_mem_cons.2 ⟨?_, ?_⟩
      ·intro xv bv ev WW hB hdp
       refine op_of rfl ?_
       clear hdp
       intro KK hKK
       go_simp
       refine (rOf_c 1 _ (by decide)).mono ?_
       rintro e WW' ⟨⟨la, lk, rfl, hl⟩, hb⟩
       (try dsimp only)
       (try simp only [Act.put, List.setIfInBounds_toArray, List.set_cons_zero, List.set_cons_succ])
       exact act_eq (hKK.out _ _ hb ⟨_, _, rfl, hl⟩) (by first | rfl | simp [upd])
      refine List.forall_mem_cons.2 ⟨?_, ?_⟩
      ·intro xv bv ev WW hB hdp
       refine op_of rfl ?_
       have ed3 : xv 3 = .agg #[.slice ua (len U) uk] := hdp 3 (by kernel_rfl)
       obtain ⟨la, lk, ed4, hl⟩ := (show (PNum (1)) (xv 4) (bv 4) (ev 4) WW from hdp 4 (by kernel_rfl))
       clear hdp
       intro KK hKK
       go_simp
       refine (CP4.out _ _ _ ((E9.out.below hB).nt 0 rfl) hl.out).mono ?_
       rintro e WW' ⟨⟨fa, fk, rfl, hf⟩, hb⟩
       (try dsimp only)
       (try simp only [Act.put, List.setIfInBounds_toArray, List.set_cons_zero, List.set_cons_succ])
       exact act_eq (hKK.out _ _ hb ⟨_, _, rfl, hf⟩) (by first | rfl | simp [upd, ed3, ed4])
      exact List.forall_mem_nil _
     intro xv bv ev w5 hB hR hO
     have ed0 : xv 0 = .agg #[.slice xa (len X) xk] := hR 0 (by kernel_rfl)
     have ed1 : xv 1 = .agg #[.slice bo (len M) cb] := hR 1 (by kernel_rfl)
     obtain ⟨da, dk, ed2, hd⟩ := (show (PNum (D)) (xv 2) (bv 2) (ev 2) w5 from hR 2 (by kernel_rfl))
     have ed3 : xv 3 = .agg #[.slice ua (len U) uk] := hR 3 (by kernel_rfl)
     obtain ⟨la, lk, ed4, hl⟩ := (show (PNum (1)) (xv 4) (bv 4) (ev 4) w5 from hR 4 (by kernel_rfl))
     obtain ⟨fa, fk, ed5, hf⟩ := (show (PNum (F)) (xv 5) (bv 5) (ev 5) w5 from hR 5 (by kernel_rfl))
     simp only [ed0, ed1, ed2, ed3, ed4, ed5]
     have E10 := Zh (((((E9.out.below hB).numN (hd.out : Nt _ _ (D))).numN (hl.out : Nt _ _ (1))).numN (hf.out : Nt _ _ (F))))
     clear E9 hB hR hO bx0 bx1 bx2 ed0 ed1 ed2 ed3 ed4 ed5 hd hl hf
     obtain ⟨p6, f6, -, -, -⟩ := E10.out.box 0 rfl
     refine wpAny_next (i := 6) (by kernel_rfl) rfl (fun KK hKK => ?_)
     go_simp
     have E11 : Hid (EnvB w [(w.heap.size + 1 + 1 + 1 + 1, .slice da (len D) dk), (w.heap.size + 1 + 1 + 1, .slice ua (len U) uk), (w.heap.size + 1 + 1, .slice none 0 0), (w.heap.size + 1, .slice bo (len M) cb), (w.heap.size, .slice ao (len N) ca)] [(.slice fa (len F) fk, digs F), (.slice la (len 1) lk, digs 1), (.slice da (len D) dk, digs D), (.slice ua (len U) uk, digs U), (.slice xa (len X) xk, digs X), (.slice ro (len R) rc, digs R), (.slice qo (len Q) qc, digs Q), (.slice bo (len M) cb, digs M), (.slice ao (len N) ca, digs N)] _) := Zh ((E10.out.set 0 (.slice da (len D) dk) rfl ⟨_, _, _, rfl⟩))
     refine hKK.out _ _ ?_
     clear hKK KK
     obtain ⟨p7, f7, -, -, -⟩ := E11.out.box 1 rfl
     refine wpAny_next (i := 7) (by kernel_rfl) rfl (fun KK hKK => ?_)
     go_simp
     have E12 : Hid (EnvB w [(w.heap.size + 1 + 1 + 1 + 1, .slice da (len D) dk), (w.heap.size + 1 + 1 + 1, .slice fa (len F) fk), (w.heap.size + 1 + 1, .slice none 0 0), (w.heap.size + 1, .slice bo (len M) cb), (w.heap.size, .slice ao (len N) ca)] [(.slice fa (len F) fk, digs F), (.slice la (len 1) lk, digs 1), (.slice da (len D) dk, digs D), (.slice ua (len U) uk, digs U), (.slice xa (len X) xk, digs X), (.slice ro (len R) rc, digs R), (.slice qo (len Q) qc, digs Q), (.slice bo (len M) cb, digs M), (.slice ao (len N) ca, digs N)] _) := Zh ((E11.out.set 1 (.slice fa (len F) fk) rfl ⟨_, _, _, rfl⟩))
     refine hKK.out _ _ ?_
     clear hKK KK
     refine wpAny_done (by kernel_rfl) ?_ _
     have E13 := Zh (E12.out)
     have EZ := Zh E13.out
     go_wp2
     go_roundg (j)
     case rel => exact ⟨j, F, D, fa, da, fk, dk, rfl, Zh ⟨EZ.out.1, EZ.out.2.1, ⟨EZ.out.sl 2 rfl, ⟨EZ.out.sl 0 rfl, ⟨EZ.out.sl 7 rfl, ⟨EZ.out.sl 8 rfl, trivial⟩⟩⟩⟩⟩, HK2⟩
     case measure => exact HM.out
   ·have hst := over_step HA.out HN.out.2.1 true ht
    simp only [b1, if_true] at hst
    have CTt : Hid (∀ W, Nt W (.slice ao (len N) ca) N → Calls Tryz.prog 55 #[.agg #[.slice ao (len N) ca], .int .i64 (j : Int)] W fun e w' => e = .returned (.bool true) ∧ Below W.heap.size W w') := Zh (by rw [← ht]; exact CTj.out)
    have CP1 := Zh (fun (u : Value) W ha hb => CP.out u u R R W (by omega) (by omega) ha hb)
    have CP2 := Zh (fun (u : Value) W ha hb => CP.out u u Q Q W (by omega) (by omega) ha hb)
    have CP3 := Zh (fun (u v : Value) W ha hb => CP.out u v (R + R) 1 W (by omega) (by omega) ha hb)
    have CP4 := Zh (fun (u v : Value) W ha hb => CP.out u v (Q + Q) 1 W (by omega) (by omega) ha hb)
    by_cases hle : R + R + 1 < M
    ·have HK2 := Zh (hst.2 (by omega))
     have CL1 := Zh (fun (v : Value) W ha hb => CL.out v (R + R + 1) true W (decide_eq_true hle) ha hb)
     clear a1 a2 a3 a4 HA hy ej hst CP CL CM CT CTj HN HBE ht hq hr hq2 hr2 hr3 l1 hle
     generalize R + R + 1 = Y at *
     generalize R + R = X at *
     generalize Q + Q = U at *
     go_wp2_with fail
     have bx0 := Zh (EL.out.box 0 rfl)
     have bx1 := Zh (EL.out.box 1 rfl)
     refine' wp_region_phase (by kernel_rfl) [0, 1, 2, 3, 4, 5] (by kernel_rfl) #[true, true, true, true, true, true, false, false] (by kernel_rfl) 2 (by kernel_rfl) [PEq (.agg #[.slice ro (len R) rc]), PEq (.agg #[.slice ro (len R) rc]), PNum (X), PEq (.agg #[.slice qo (len Q) qc]), PEq (.agg #[.slice qo (len Q) qc]), PNum (U), Fact.none, Fact.none] (List.forall_mem_cons.2 ⟨PEq.st _, List.forall_mem_cons.2 ⟨PEq.st _, List.forall_mem_cons.2 ⟨PNum.st _, List.forall_mem_cons.2 ⟨PEq.st _, List.forall_mem_cons.2 ⟨PEq.st _, List.forall_mem_cons.2 ⟨PNum.st _, List.forall_mem_cons.2 ⟨Fact.none_st, List.forall_mem_cons.2 ⟨Fact.none_st, List.forall_mem_nil _⟩⟩⟩⟩⟩⟩⟩⟩) _ ?hFr4 ?stepr4 ?doner4
     case hFr4 => intro x; simp only [frameL, Act.put, List.setIfInBounds_toArray, List.set_cons_zero, List.set_cons_succ, Nat.zero_add, Nat.reduceAdd]; exact rfl
     case stepr4 =>
      refine List.forall_mem_cons.2 ⟨?_, ?_⟩
      ·intro xv bv ev WW hB hdp
       refine op_of rfl ?_
       clear hdp
       intro KK hKK
       obtain ⟨z, -, -, -, -⟩ := bx0.out.below hB
       go_simp
       exact act_eq (hKK.out (.agg #[.slice ro (len R) rc]) _ (Below.refl _ _) rfl) (by first | rfl | simp [upd])
      refine List.forall_mem_cons.2 ⟨?_, ?_⟩
      ·intro xv bv ev WW hB hdp
       refine op_of rfl ?_
       clear hdp
       intro KK hKK
       obtain ⟨z, -, -, -, -⟩ := bx0.out.below hB
       go_simp
       exact act_eq (hKK.out (.agg #[.slice ro (len R) rc]) _ (Below.refl _ _) rfl) (by first | rfl | simp [upd])
      refine List.forall_mem_cons.2 ⟨?_, ?_⟩
      ·intro xv bv ev WW hB hdp
       refine op_of rfl ?_
       have ed0 : xv 0 = .agg #[.slice ro (len R) rc] := hdp 0 (by kernel_rfl)
       have ed1 : xv 1 = .agg #[.slice ro (len R) rc] := hdp 1 (by kernel_rfl)
       clear hdp
       intro KK hKK
       go_simp
       refine (CP1.out _ _ ((EL.out.below hB).nt 0 rfl) ((EL.out.below hB).nt 0 rfl)).mono ?_
       rintro e WW' ⟨⟨xa, xk, rfl, hx⟩, hb⟩
       (try dsimp only)
       (try simp only [Act.put, List.setIfInBounds_toArray, List.set_cons_zero, List.set_cons_succ])
       exact act_eq (hKK.out _ _ hb ⟨_, _, rfl, hx⟩) (by first | rfl | simp [upd, ed0, ed1])
      refine List.forall_mem_cons.2 ⟨?_, ?_⟩
      ·intro xv bv ev WW hB hdp
       refine op_of rfl ?_
       clear hdp
       intro KK hKK
       obtain ⟨z, -, -, -, -⟩ := bx1.out.below hB
       go_simp
       exact act_eq (hKK.out (.agg #[.slice qo (len Q) qc]) _ (Below.refl _ _) rfl) (by first | rfl | simp [upd])
      refine List.forall_mem_cons.2 ⟨?_, ?_⟩
      ·intro xv bv ev WW hB hdp
       refine op_of rfl ?_
       clear hdp
       intro KK hKK
       obtain ⟨z, -, -, -, -⟩ := bx1.out.below hB
       go_simp
       exact act_eq (hKK.out (.agg #[.slice qo (len Q) qc]) _ (Below.refl _ _) rfl) (by first | rfl | simp [upd])
      refine List.forall_mem_cons.2 ⟨?_, ?_⟩
      ·intro xv bv ev WW hB hdp
       refine op_of rfl ?_
       have ed3 : xv 3 = .agg #[.slice qo (len Q) qc] := hdp 3 (by kernel_rfl)
       have ed4 : xv 4 = .agg #[.slice qo (len Q) qc] := hdp 4 (by kernel_rfl)
       clear hdp
       intro KK hKK
       go_simp
       refine (CP2.out _ _ ((EL.out.below hB).nt 1 rfl) ((EL.out.below hB).nt 1 rfl)).mono ?_
       rintro e WW' ⟨⟨ua, uk, rfl, hu⟩, hb⟩
       (try dsimp only)
       (try simp only [Act.put, List.setIfInBounds_toArray, List.set_cons_zero, List.set_cons_succ])
       exact act_eq (hKK.out _ _ hb ⟨_, _, rfl, hu⟩) (by first | rfl | simp [upd, ed3, ed4])
      exact List.forall_mem_nil _
     intro xv bv ev w2 hB hR hO
     have ed0 : xv 0 = .agg #[.slice ro (len R) rc] := hR 0 (by kernel_rfl)
     have ed1 : xv 1 = .agg #[.slice ro (len R) rc] := hR 1 (by kernel_rfl)
     obtain ⟨xa, xk, ed2, hx⟩ := (show (PNum (X)) (xv 2) (bv 2) (ev 2) w2 from hR 2 (by kernel_rfl))
     have ed3 : xv 3 = .agg #[.slice qo (len Q) qc] := hR 3 (by kernel_rfl)
     have ed4 : xv 4 = .agg #[.slice qo (len Q) qc] := hR 4 (by kernel_rfl)
     obtain ⟨ua, uk, ed5, hu⟩ := (show (PNum (U)) (xv 5) (bv 5) (ev 5) w2 from hR 5 (by kernel_rfl))
     simp only [ed0, ed1, ed2, ed3, ed4, ed5]
     have E5 := Zh ((((EL.out.below hB).numN (hx.out : Nt _ _ (X))).numN (hu.out : Nt _ _ (U))))
     clear EL hB hR hO bx0 bx1 ed0 ed1 ed2 ed3 ed4 ed5 hx hu
     obtain ⟨p1, f1, -, -, -⟩ := E5.out.box 0 rfl
     refine wpAny_next (i := 6) (by kernel_rfl) rfl (fun KK hKK => ?_)
     go_simp
     have E6 : Hid (EnvB w [(w.heap.size + 1 + 1 + 1 + 1, .slice xa (len X) xk), (w.heap.size + 1 + 1 + 1, .slice qo (len Q) qc), (w.heap.size + 1 + 1, .slice none 0 0), (w.heap.size + 1, .slice bo (len M) cb), (w.heap.size, .slice ao (len N) ca)] [(.slice ua (len U) uk, digs U), (.slice xa (len X) xk, digs X), (.slice ro (len R) rc, digs R), (.slice qo (len Q) qc, digs Q), (.slice bo (len M) cb, digs M), (.slice ao (len N) ca, digs N)] _) := Zh ((E5.out.set 0 (.slice xa (len X) xk) rfl ⟨_, _, _, rfl⟩))
     refine hKK.out _ _ ?_
     clear hKK KK
     obtain ⟨p2, f2, -, -, -⟩ := E6.out.box 1 rfl
     refine wpAny_next (i := 7) (by kernel_rfl) rfl (fun KK hKK => ?_)
     go_simp
     have E7 : Hid (EnvB w [(w.heap.size + 1 + 1 + 1 + 1, .slice xa (len X) xk), (w.heap.size + 1 + 1 + 1, .slice ua (len U) uk), (w.heap.size + 1 + 1, .slice none 0 0), (w.heap.size + 1, .slice bo (len M) cb), (w.heap.size, .slice ao (len N) ca)] [(.slice ua (len U) uk, digs U), (.slice xa (len X) xk, digs X), (.slice ro (len R) rc, digs R), (.slice qo (len Q) qc, digs Q), (.slice bo (len M) cb, digs M), (.slice ao (len N) ca, digs N)] _) := Zh ((E6.out.set 1 (.slice ua (len U) uk) rfl ⟨_, _, _, rfl⟩))
     refine hKK.out _ _ ?_
     clear hKK KK
     refine wpAny_done (by kernel_rfl) ?_ _
     obtain ⟨p3, f3, -, -, -⟩ := E7.out.box 4 rfl
     go_wp2_with fail
     refine (CTt.out _ (E7.out.nt 5 rfl)).mono ?_
     rintro e w3 ⟨rfl, hb⟩
     have E8 := Zh ((E7.out.below hb))
     clear p1 f1 p2 f2 p3 f3 E7 E5 E6 hb
     go_wp2_with fail
     have bx0 := Zh (E8.out.box 0 rfl)
     refine' wp_region_phase (by kernel_rfl) [0, 1, 2] (by kernel_rfl) #[true, true, true, false] (by kernel_rfl) 1 (by kernel_rfl) [PEq (.agg #[.slice xa (len X) xk]), PNum (1), PNum (Y), Fact.none] (List.forall_mem_cons.2 ⟨PEq.st _, List.forall_mem_cons.2 ⟨PNum.st _, List.forall_mem_cons.2 ⟨PNum.st _, List.forall_mem_cons.2 ⟨Fact.none_st, List.forall_mem_nil _⟩⟩⟩⟩) _ ?hFr5 ?stepr5 ?doner5
     case hFr5 => intro x; simp only [frameL, Act.put, List.setIfInBounds_toArray, List.set_cons_zero, List.set_cons_succ, Nat.zero_add, Nat.reduceAdd]; exact rfl
     case stepr5 =>
      refine List.forall_mem_cons.2 ⟨?_, ?_⟩
      ·intro xv bv ev WW hB hdp
       refine op_of rfl ?_
       clear hdp
       intro KK hKK
       obtain ⟨z, -, -, -, -⟩ := bx0.out.below hB
       go_simp
       exact act_eq (hKK.out (.agg #[.slice xa (len X) xk]) _ (Below.refl _ _) rfl) (by first | rfl | simp [upd])
      refine List.forall_mem_cons.2 ⟨?_, ?_⟩
      ·intro xv bv ev WW hB hdp
       refine op_of rfl ?_
       clear hdp
       intro KK hKK
       go_simp
       refine (rOf_c 1 _ (by decide)).mono ?_
       rintro e WW' ⟨⟨ia, ik, rfl, hi⟩, hb⟩
       (try dsimp only)
       (try simp only [Act.put, List.setIfInBounds_toArray, List.set_cons_zero, List.set_cons_succ])
       exact act_eq (hKK.out _ _ hb ⟨_, _, rfl, hi⟩) (by first | rfl | simp [upd])
      refine List.forall_mem_cons.2 ⟨?_, ?_⟩
      ·intro xv bv ev WW hB hdp
       refine op_of rfl ?_
       have ed0 : xv 0 = .agg #[.slice xa (len X) xk] := hdp 0 (by kernel_rfl)
       obtain ⟨ia, ik, ed1, hi⟩ := (show (PNum (1)) (xv 1) (bv 1) (ev 1) WW from hdp 1 (by kernel_rfl))
       clear hdp
       intro KK hKK
       go_simp
       refine (CP3.out _ _ _ ((E8.out.below hB).nt 1 rfl) hi.out).mono ?_
       rintro e WW' ⟨⟨ya, yk, rfl, hy⟩, hb⟩
       (try dsimp only)
       (try simp only [Act.put, List.setIfInBounds_toArray, List.set_cons_zero, List.set_cons_succ])
       exact act_eq (hKK.out _ _ hb ⟨_, _, rfl, hy⟩) (by first | rfl | simp [upd, ed0, ed1])
      exact List.forall_mem_nil _
     intro xv bv ev w4 hB hR hO
     have ed0 : xv 0 = .agg #[.slice xa (len X) xk] := hR 0 (by kernel_rfl)
     obtain ⟨ia, ik, ed1, hi⟩ := (show (PNum (1)) (xv 1) (bv 1) (ev 1) w4 from hR 1 (by kernel_rfl))
     obtain ⟨ya, yk, ed2, hy⟩ := (show (PNum (Y)) (xv 2) (bv 2) (ev 2) w4 from hR 2 (by kernel_rfl))
     simp only [ed0, ed1, ed2]
     have E9 := Zh ((((E8.out.below hB).numN (hi.out : Nt _ _ (1))).numN (hy.out : Nt _ _ (Y))))
     clear E8 hB hR hO bx0 ed0 ed1 ed2 hi hy
     obtain ⟨p4, f4, -, -, -⟩ := E9.out.box 0 rfl
     refine wpAny_next (i := 3) (by kernel_rfl) rfl (fun KK hKK => ?_)
     go_simp
     have E10 : Hid (EnvB w [(w.heap.size + 1 + 1 + 1 + 1, .slice ya (len Y) yk), (w.heap.size + 1 + 1 + 1, .slice ua (len U) uk), (w.heap.size + 1 + 1, .slice none 0 0), (w.heap.size + 1, .slice bo (len M) cb), (w.heap.size, .slice ao (len N) ca)] [(.slice ya (len Y) yk, digs Y), (.slice ia (len 1) ik, digs 1), (.slice ua (len U) uk, digs U), (.slice xa (len X) xk, digs X), (.slice ro (len R) rc, digs R), (.slice qo (len Q) qc, digs Q), (.slice bo (len M) cb, digs M), (.slice ao (len N) ca, digs N)] _) := Zh ((E9.out.set 0 (.slice ya (len Y) yk) rfl ⟨_, _, _, rfl⟩))
     refine hKK.out _ _ ?_
     clear hKK KK
     refine wpAny_done (by kernel_rfl) ?_ _
     obtain ⟨p5, f5, -, -, -⟩ := E10.out.box 0 rfl
     obtain ⟨p6, f6, -, -, -⟩ := E10.out.box 3 rfl
     go_wp2_with fail
     refine (CL1.out _ _ (E10.out.nt 0 rfl) (E10.out.nt 6 rfl)).mono ?_
     rintro e w5 ⟨rfl, hb⟩
     have E11 := Zh ((E10.out.below hb))
     clear p4 f4 p5 f5 p6 f6 E10 E9 hb
     have EZ := Zh E11.out
     go_wp2
     go_roundg (j)
     case rel => exact ⟨j, U, Y, ua, ya, uk, yk, rfl, Zh ⟨EZ.out.1, EZ.out.2.1, ⟨EZ.out.sl 0 rfl, ⟨EZ.out.sl 2 rfl, ⟨EZ.out.sl 6 rfl, ⟨EZ.out.sl 7 rfl, trivial⟩⟩⟩⟩⟩, HK2⟩
     case measure => exact HM.out
    ·have HK2 := Zh (hst.1 (by omega))
     have CL1 := Zh (fun (v : Value) W ha hb => CL.out v (R + R + 1) false W (decide_eq_false hle) ha hb)
     have CM1 := Zh (fun (v : Value) W ha hb => CM.out v (R + R + 1) W (by omega) (by omega) ha hb)
     clear a1 a2 a3 a4 HA hy ej hst CP CL CM CT CTj HN HBE ht hq hr hq2 hr2 hr3 l1 hle
     generalize R + R + 1 - M = D at *
     generalize Q + Q + 1 = F at *
     generalize R + R + 1 = Y at *
     generalize R + R = X at *
     generalize Q + Q = U at *
     go_wp2_with fail
     have bx0 := Zh (EL.out.box 0 rfl)
     have bx1 := Zh (EL.out.box 1 rfl)
     refine' wp_region_phase (by kernel_rfl) [0, 1, 2, 3, 4, 5] (by kernel_rfl) #[true, true, true, true, true, true, false, false] (by kernel_rfl) 2 (by kernel_rfl) [PEq (.agg #[.slice ro (len R) rc]), PEq (.agg #[.slice ro (len R) rc]), PNum (X), PEq (.agg #[.slice qo (len Q) qc]), PEq (.agg #[.slice qo (len Q) qc]), PNum (U), Fact.none, Fact.none] (List.forall_mem_cons.2 ⟨PEq.st _, List.forall_mem_cons.2 ⟨PEq.st _, List.forall_mem_cons.2 ⟨PNum.st _, List.forall_mem_cons.2 ⟨PEq.st _, List.forall_mem_cons.2 ⟨PEq.st _, List.forall_mem_cons.2 ⟨PNum.st _, List.forall_mem_cons.2 ⟨Fact.none_st, List.forall_mem_cons.2 ⟨Fact.none_st, List.forall_mem_nil _⟩⟩⟩⟩⟩⟩⟩⟩) _ ?hFr6 ?stepr6 ?doner6
     case hFr6 => intro x; simp only [frameL, Act.put, List.setIfInBounds_toArray, List.set_cons_zero, List.set_cons_succ, Nat.zero_add, Nat.reduceAdd]; exact rfl
     case stepr6 =>
      refine List.forall_mem_cons.2 ⟨?_, ?_⟩
      ·intro xv bv ev WW hB hdp
       refine op_of rfl ?_
       clear hdp
       intro KK hKK
       obtain ⟨z, -, -, -, -⟩ := bx0.out.below hB
       go_simp
       exact act_eq (hKK.out (.agg #[.slice ro (len R) rc]) _ (Below.refl _ _) rfl) (by first | rfl | simp [upd])
      refine List.forall_mem_cons.2 ⟨?_, ?_⟩
      ·intro xv bv ev WW hB hdp
       refine op_of rfl ?_
       clear hdp
       intro KK hKK
       obtain ⟨z, -, -, -, -⟩ := bx0.out.below hB
       go_simp
       exact act_eq (hKK.out (.agg #[.slice ro (len R) rc]) _ (Below.refl _ _) rfl) (by first | rfl | simp [upd])
      refine List.forall_mem_cons.2 ⟨?_, ?_⟩
      ·intro xv bv ev WW hB hdp
       refine op_of rfl ?_
       have ed0 : xv 0 = .agg #[.slice ro (len R) rc] := hdp 0 (by kernel_rfl)
       have ed1 : xv 1 = .agg #[.slice ro (len R) rc] := hdp 1 (by kernel_rfl)
       clear hdp
       intro KK hKK
       go_simp
       refine (CP1.out _ _ ((EL.out.below hB).nt 0 rfl) ((EL.out.below hB).nt 0 rfl)).mono ?_
       rintro e WW' ⟨⟨xa, xk, rfl, hx⟩, hb⟩
       (try dsimp only)
       (try simp only [Act.put, List.setIfInBounds_toArray, List.set_cons_zero, List.set_cons_succ])
       exact act_eq (hKK.out _ _ hb ⟨_, _, rfl, hx⟩) (by first | rfl | simp [upd, ed0, ed1])
      refine List.forall_mem_cons.2 ⟨?_, ?_⟩
      ·intro xv bv ev WW hB hdp
       refine op_of rfl ?_
       clear hdp
       intro KK hKK
       obtain ⟨z, -, -, -, -⟩ := bx1.out.below hB
       go_simp
       exact act_eq (hKK.out (.agg #[.slice qo (len Q) qc]) _ (Below.refl _ _) rfl) (by first | rfl | simp [upd])
      refine List.forall_mem_cons.2 ⟨?_, ?_⟩
      ·intro xv bv ev WW hB hdp
       refine op_of rfl ?_
       clear hdp
       intro KK hKK
       obtain ⟨z, -, -, -, -⟩ := bx1.out.below hB
       go_simp
       exact act_eq (hKK.out (.agg #[.slice qo (len Q) qc]) _ (Below.refl _ _) rfl) (by first | rfl | simp [upd])
      refine List.forall_mem_cons.2 ⟨?_, ?_⟩
      ·intro xv bv ev WW hB hdp
       refine op_of rfl ?_
       have ed3 : xv 3 = .agg #[.slice qo (len Q) qc] := hdp 3 (by kernel_rfl)
       have ed4 : xv 4 = .agg #[.slice qo (len Q) qc] := hdp 4 (by kernel_rfl)
       clear hdp
       intro KK hKK
       go_simp
       refine (CP2.out _ _ ((EL.out.below hB).nt 1 rfl) ((EL.out.below hB).nt 1 rfl)).mono ?_
       rintro e WW' ⟨⟨ua, uk, rfl, hu⟩, hb⟩
       (try dsimp only)
       (try simp only [Act.put, List.setIfInBounds_toArray, List.set_cons_zero, List.set_cons_succ])
       exact act_eq (hKK.out _ _ hb ⟨_, _, rfl, hu⟩) (by first | rfl | simp [upd, ed3, ed4])
      exact List.forall_mem_nil _
     intro xv bv ev w2 hB hR hO
     have ed0 : xv 0 = .agg #[.slice ro (len R) rc] := hR 0 (by kernel_rfl)
     have ed1 : xv 1 = .agg #[.slice ro (len R) rc] := hR 1 (by kernel_rfl)
     obtain ⟨xa, xk, ed2, hx⟩ := (show (PNum (X)) (xv 2) (bv 2) (ev 2) w2 from hR 2 (by kernel_rfl))
     have ed3 : xv 3 = .agg #[.slice qo (len Q) qc] := hR 3 (by kernel_rfl)
     have ed4 : xv 4 = .agg #[.slice qo (len Q) qc] := hR 4 (by kernel_rfl)
     obtain ⟨ua, uk, ed5, hu⟩ := (show (PNum (U)) (xv 5) (bv 5) (ev 5) w2 from hR 5 (by kernel_rfl))
     simp only [ed0, ed1, ed2, ed3, ed4, ed5]
     have E5 := Zh ((((EL.out.below hB).numN (hx.out : Nt _ _ (X))).numN (hu.out : Nt _ _ (U))))
     clear EL hB hR hO bx0 bx1 ed0 ed1 ed2 ed3 ed4 ed5 hx hu
     obtain ⟨p1, f1, -, -, -⟩ := E5.out.box 0 rfl
     refine wpAny_next (i := 6) (by kernel_rfl) rfl (fun KK hKK => ?_)
     go_simp
     have E6 : Hid (EnvB w [(w.heap.size + 1 + 1 + 1 + 1, .slice xa (len X) xk), (w.heap.size + 1 + 1 + 1, .slice qo (len Q) qc), (w.heap.size + 1 + 1, .slice none 0 0), (w.heap.size + 1, .slice bo (len M) cb), (w.heap.size, .slice ao (len N) ca)] [(.slice ua (len U) uk, digs U), (.slice xa (len X) xk, digs X), (.slice ro (len R) rc, digs R), (.slice qo (len Q) qc, digs Q), (.slice bo (len M) cb, digs M), (.slice ao (len N) ca, digs N)] _) := Zh ((E5.out.set 0 (.slice xa (len X) xk) rfl ⟨_, _, _, rfl⟩))
     refine hKK.out _ _ ?_
     clear hKK KK
     obtain ⟨p2, f2, -, -, -⟩ := E6.out.box 1 rfl
     refine wpAny_next (i := 7) (by kernel_rfl) rfl (fun KK hKK => ?_)
     go_simp
     have E7 : Hid (EnvB w [(w.heap.size + 1 + 1 + 1 + 1, .slice xa (len X) xk), (w.heap.size + 1 + 1 + 1, .slice ua (len U) uk), (w.heap.size + 1 + 1, .slice none 0 0), (w.heap.size + 1, .slice bo (len M) cb), (w.heap.size, .slice ao (len N) ca)] [(.slice ua (len U) uk, digs U), (.slice xa (len X) xk, digs X), (.slice ro (len R) rc, digs R), (.slice qo (len Q) qc, digs Q), (.slice bo (len M) cb, digs M), (.slice ao (len N) ca, digs N)] _) := Zh ((E6.out.set 1 (.slice ua (len U) uk) rfl ⟨_, _, _, rfl⟩))
     refine hKK.out _ _ ?_
     clear hKK KK
     refine wpAny_done (by kernel_rfl) ?_ _
     obtain ⟨p3, f3, -, -, -⟩ := E7.out.box 4 rfl
     go_wp2_with fail
     refine (CTt.out _ (E7.out.nt 5 rfl)).mono ?_
     rintro e w3 ⟨rfl, hb⟩
     have E8 := Zh ((E7.out.below hb))
     clear p1 f1 p2 f2 p3 f3 E7 E5 E6 hb
     go_wp2_with fail
     have bx0 := Zh (E8.out.box 0 rfl)
     refine' wp_region_phase (by kernel_rfl) [0, 1, 2] (by kernel_rfl) #[true, true, true, false] (by kernel_rfl) 1 (by kernel_rfl) [PEq (.agg #[.slice xa (len X) xk]), PNum (1), PNum (Y), Fact.none] (List.forall_mem_cons.2 ⟨PEq.st _, List.forall_mem_cons.2 ⟨PNum.st _, List.forall_mem_cons.2 ⟨PNum.st _, List.forall_mem_cons.2 ⟨Fact.none_st, List.forall_mem_nil _⟩⟩⟩⟩) _ ?hFr7 ?stepr7 ?doner7
     case hFr7 => intro x; simp only [frameL, Act.put, List.setIfInBounds_toArray, List.set_cons_zero, List.set_cons_succ, Nat.zero_add, Nat.reduceAdd]; exact rfl
     case stepr7 =>
      refine List.forall_mem_cons.2 ⟨?_, ?_⟩
      ·intro xv bv ev WW hB hdp
       refine op_of rfl ?_
       clear hdp
       intro KK hKK
       obtain ⟨z, -, -, -, -⟩ := bx0.out.below hB
       go_simp
       exact act_eq (hKK.out (.agg #[.slice xa (len X) xk]) _ (Below.refl _ _) rfl) (by first | rfl | simp [upd])
      refine List.forall_mem_cons.2 ⟨?_, ?_⟩
      ·intro xv bv ev WW hB hdp
       refine op_of rfl ?_
       clear hdp
       intro KK hKK
       go_simp
       refine (rOf_c 1 _ (by decide)).mono ?_
       rintro e WW' ⟨⟨ia, ik, rfl, hi⟩, hb⟩
       (try dsimp only)
       (try simp only [Act.put, List.setIfInBounds_toArray, List.set_cons_zero, List.set_cons_succ])
       exact act_eq (hKK.out _ _ hb ⟨_, _, rfl, hi⟩) (by first | rfl | simp [upd])
      refine List.forall_mem_cons.2 ⟨?_, ?_⟩
      ·intro xv bv ev WW hB hdp
       refine op_of rfl ?_
       have ed0 : xv 0 = .agg #[.slice xa (len X) xk] := hdp 0 (by kernel_rfl)
       obtain ⟨ia, ik, ed1, hi⟩ := (show (PNum (1)) (xv 1) (bv 1) (ev 1) WW from hdp 1 (by kernel_rfl))
       clear hdp
       intro KK hKK
       go_simp
       refine (CP3.out _ _ _ ((E8.out.below hB).nt 1 rfl) hi.out).mono ?_
       rintro e WW' ⟨⟨ya, yk, rfl, hy⟩, hb⟩
       (try dsimp only)
       (try simp only [Act.put, List.setIfInBounds_toArray, List.set_cons_zero, List.set_cons_succ])
       exact act_eq (hKK.out _ _ hb ⟨_, _, rfl, hy⟩) (by first | rfl | simp [upd, ed0, ed1])
      exact List.forall_mem_nil _
     intro xv bv ev w4 hB hR hO
     have ed0 : xv 0 = .agg #[.slice xa (len X) xk] := hR 0 (by kernel_rfl)
     obtain ⟨ia, ik, ed1, hi⟩ := (show (PNum (1)) (xv 1) (bv 1) (ev 1) w4 from hR 1 (by kernel_rfl))
     obtain ⟨ya, yk, ed2, hy⟩ := (show (PNum (Y)) (xv 2) (bv 2) (ev 2) w4 from hR 2 (by kernel_rfl))
     simp only [ed0, ed1, ed2]
     have E9 := Zh ((((E8.out.below hB).numN (hi.out : Nt _ _ (1))).numN (hy.out : Nt _ _ (Y))))
     clear E8 hB hR hO bx0 ed0 ed1 ed2 hi hy
     obtain ⟨p4, f4, -, -, -⟩ := E9.out.box 0 rfl
     refine wpAny_next (i := 3) (by kernel_rfl) rfl (fun KK hKK => ?_)
     go_simp
     have E10 : Hid (EnvB w [(w.heap.size + 1 + 1 + 1 + 1, .slice ya (len Y) yk), (w.heap.size + 1 + 1 + 1, .slice ua (len U) uk), (w.heap.size + 1 + 1, .slice none 0 0), (w.heap.size + 1, .slice bo (len M) cb), (w.heap.size, .slice ao (len N) ca)] [(.slice ya (len Y) yk, digs Y), (.slice ia (len 1) ik, digs 1), (.slice ua (len U) uk, digs U), (.slice xa (len X) xk, digs X), (.slice ro (len R) rc, digs R), (.slice qo (len Q) qc, digs Q), (.slice bo (len M) cb, digs M), (.slice ao (len N) ca, digs N)] _) := Zh ((E9.out.set 0 (.slice ya (len Y) yk) rfl ⟨_, _, _, rfl⟩))
     refine hKK.out _ _ ?_
     clear hKK KK
     refine wpAny_done (by kernel_rfl) ?_ _
     obtain ⟨p5, f5, -, -, -⟩ := E10.out.box 0 rfl
     obtain ⟨p6, f6, -, -, -⟩ := E10.out.box 3 rfl
     go_wp2_with fail
     refine (CL1.out _ _ (E10.out.nt 0 rfl) (E10.out.nt 6 rfl)).mono ?_
     rintro e w5 ⟨rfl, hb⟩
     have E11 := Zh ((E10.out.below hb))
     clear p4 f4 p5 f5 p6 f6 E10 E9 hb
     go_wp2_with fail
     have bx0 := Zh (E11.out.box 0 rfl)
     have bx1 := Zh (E11.out.box 3 rfl)
     have bx2 := Zh (E11.out.box 1 rfl)
     refine' wp_region_phase (by kernel_rfl) [0, 1, 2, 3, 4, 5] (by kernel_rfl) #[true, true, true, true, true, true, false, false] (by kernel_rfl) 2 (by kernel_rfl) [PEq (.agg #[.slice ya (len Y) yk]), PEq (.agg #[.slice bo (len M) cb]), PNum (D), PEq (.agg #[.slice ua (len U) uk]), PNum (1), PNum (F), Fact.none, Fact.none] (List.forall_mem_cons.2 ⟨PEq.st _, List.forall_mem_cons.2 ⟨PEq.st _, List.forall_mem_cons.2 ⟨PNum.st _, List.forall_mem_cons.2 ⟨PEq.st _, List.forall_mem_cons.2 ⟨PNum.st _, List.forall_mem_cons.2 ⟨PNum.st _, List.forall_mem_cons.2 ⟨Fact.none_st, List.forall_mem_cons.2 ⟨Fact.none_st, List.forall_mem_nil _⟩⟩⟩⟩⟩⟩⟩⟩) _ ?hFr8 ?stepr8 ?doner8
     case hFr8 => intro x; simp only [frameL, Act.put, List.setIfInBounds_toArray, List.set_cons_zero, List.set_cons_succ, Nat.zero_add, Nat.reduceAdd]; exact rfl
     case stepr8 =>
      refine List.forall_mem_cons.2 ⟨?_, ?_⟩
      ·intro xv bv ev WW hB hdp
       refine op_of rfl ?_
       clear hdp
       intro KK hKK
       obtain ⟨z, -, -, -, -⟩ := bx0.out.below hB
       go_simp
       exact act_eq (hKK.out (.agg #[.slice ya (len Y) yk]) _ (Below.refl _ _) rfl) (by first | rfl | simp [upd])
      refine List.forall_mem_cons.2 ⟨?_, ?_⟩
      ·intro xv bv ev WW hB hdp
       refine op_of rfl ?_
       clear hdp
       intro KK hKK
       obtain ⟨z, -, -, -, -⟩ := bx1.out.below hB
       go_simp
       exact act_eq (hKK.out (.agg #[.slice bo (len M) cb]) _ (Below.refl _ _) rfl) (by first | rfl | simp [upd])
      refine List.forall_mem_cons.2 ⟨?_, ?_⟩
      ·intro xv bv ev WW hB hdp
       refine op_of rfl ?_
       have ed0 : xv 0 = .agg #[.slice ya (len Y) yk] := hdp 0 (by kernel_rfl)
       have ed1 : xv 1 = .agg #[.slice bo (len M) cb] := hdp 1 (by kernel_rfl)
       clear hdp
       intro KK hKK
       go_simp
       refine (CM1.out _ _ ((E11.out.below hB).nt 0 rfl) ((E11.out.below hB).nt 6 rfl)).mono ?_
       rintro e WW' ⟨⟨da, dk, rfl, hd⟩, hb⟩
       (try dsimp only)
       (try simp only [Act.put, List.setIfInBounds_toArray, List.set_cons_zero, List.set_cons_succ])
       exact act_eq (hKK.out _ _ hb ⟨_, _, rfl, hd⟩) (by first | rfl | simp [upd, ed0, ed1])
      refine List.forall_mem_cons.2 ⟨?_, ?_⟩
      ·intro xv bv ev WW hB hdp
       refine op_of rfl ?_
       clear hdp
       intro KK hKK
       obtain ⟨z, -, -, -, -⟩ := bx2.out.below hB
       go_simp
       exact act_eq (hKK.out (.agg #[.slice ua (len U) uk]) _ (Below.refl _ _) rfl) (by first | rfl | simp [upd])
      refine List.forall_mem_cons.2 ⟨?_, ?_⟩
      ·intro xv bv ev WW hB hdp
       refine op_of rfl ?_
       clear hdp
       intro KK hKK
       go_simp
       refine (rOf_c 1 _ (by decide)).mono ?_
       rintro e WW' ⟨⟨la, lk, rfl, hl⟩, hb⟩
       (try dsimp only)
       (try simp only [Act.put, List.setIfInBounds_toArray, List.set_cons_zero, List.set_cons_succ])
       exact act_eq (hKK.out _ _ hb ⟨_, _, rfl, hl⟩) (by first | rfl | simp [upd])
      refine List.forall_mem_cons.2 ⟨?_, ?_⟩
      ·intro xv bv ev WW hB hdp
       refine op_of rfl ?_
       have ed3 : xv 3 = .agg #[.slice ua (len U) uk] := hdp 3 (by kernel_rfl)
       obtain ⟨la, lk, ed4, hl⟩ := (show (PNum (1)) (xv 4) (bv 4) (ev 4) WW from hdp 4 (by kernel_rfl))
       clear hdp
       intro KK hKK
       go_simp
       refine (CP4.out _ _ _ ((E11.out.below hB).nt 2 rfl) hl.out).mono ?_
       rintro e WW' ⟨⟨fa, fk, rfl, hf⟩, hb⟩
       (try dsimp only)
       (try simp only [Act.put, List.setIfInBounds_toArray, List.set_cons_zero, List.set_cons_succ])
       exact act_eq (hKK.out _ _ hb ⟨_, _, rfl, hf⟩) (by first | rfl | simp [upd, ed3, ed4])
      exact List.forall_mem_nil _
     intro xv bv ev w6 hB hR hO
     have ed0 : xv 0 = .agg #[.slice ya (len Y) yk] := hR 0 (by kernel_rfl)
     have ed1 : xv 1 = .agg #[.slice bo (len M) cb] := hR 1 (by kernel_rfl)
     obtain ⟨da, dk, ed2, hd⟩ := (show (PNum (D)) (xv 2) (bv 2) (ev 2) w6 from hR 2 (by kernel_rfl))
     have ed3 : xv 3 = .agg #[.slice ua (len U) uk] := hR 3 (by kernel_rfl)
     obtain ⟨la, lk, ed4, hl⟩ := (show (PNum (1)) (xv 4) (bv 4) (ev 4) w6 from hR 4 (by kernel_rfl))
     obtain ⟨fa, fk, ed5, hf⟩ := (show (PNum (F)) (xv 5) (bv 5) (ev 5) w6 from hR 5 (by kernel_rfl))
     simp only [ed0, ed1, ed2, ed3, ed4, ed5]
     have E12 := Zh (((((E11.out.below hB).numN (hd.out : Nt _ _ (D))).numN (hl.out : Nt _ _ (1))).numN (hf.out : Nt _ _ (F))))
     clear E11 hB hR hO bx0 bx1 bx2 ed0 ed1 ed2 ed3 ed4 ed5 hd hl hf
     obtain ⟨p7, f7, -, -, -⟩ := E12.out.box 0 rfl
     refine wpAny_next (i := 6) (by kernel_rfl) rfl (fun KK hKK => ?_)
     go_simp
     have E13 : Hid (EnvB w [(w.heap.size + 1 + 1 + 1 + 1, .slice da (len D) dk), (w.heap.size + 1 + 1 + 1, .slice ua (len U) uk), (w.heap.size + 1 + 1, .slice none 0 0), (w.heap.size + 1, .slice bo (len M) cb), (w.heap.size, .slice ao (len N) ca)] [(.slice fa (len F) fk, digs F), (.slice la (len 1) lk, digs 1), (.slice da (len D) dk, digs D), (.slice ya (len Y) yk, digs Y), (.slice ia (len 1) ik, digs 1), (.slice ua (len U) uk, digs U), (.slice xa (len X) xk, digs X), (.slice ro (len R) rc, digs R), (.slice qo (len Q) qc, digs Q), (.slice bo (len M) cb, digs M), (.slice ao (len N) ca, digs N)] _) := Zh ((E12.out.set 0 (.slice da (len D) dk) rfl ⟨_, _, _, rfl⟩))
     refine hKK.out _ _ ?_
     clear hKK KK
     obtain ⟨p8, f8, -, -, -⟩ := E13.out.box 1 rfl
     refine wpAny_next (i := 7) (by kernel_rfl) rfl (fun KK hKK => ?_)
     go_simp
     have E14 : Hid (EnvB w [(w.heap.size + 1 + 1 + 1 + 1, .slice da (len D) dk), (w.heap.size + 1 + 1 + 1, .slice fa (len F) fk), (w.heap.size + 1 + 1, .slice none 0 0), (w.heap.size + 1, .slice bo (len M) cb), (w.heap.size, .slice ao (len N) ca)] [(.slice fa (len F) fk, digs F), (.slice la (len 1) lk, digs 1), (.slice da (len D) dk, digs D), (.slice ya (len Y) yk, digs Y), (.slice ia (len 1) ik, digs 1), (.slice ua (len U) uk, digs U), (.slice xa (len X) xk, digs X), (.slice ro (len R) rc, digs R), (.slice qo (len Q) qc, digs Q), (.slice bo (len M) cb, digs M), (.slice ao (len N) ca, digs N)] _) := Zh ((E13.out.set 1 (.slice fa (len F) fk) rfl ⟨_, _, _, rfl⟩))
     refine hKK.out _ _ ?_
     clear hKK KK
     refine wpAny_done (by kernel_rfl) ?_ _
     have E15 := Zh (E14.out)
     have EZ := Zh E15.out
     go_wp2
     go_roundg (j)
     case rel => exact ⟨j, F, D, fa, da, fk, dk, rfl, Zh ⟨EZ.out.1, EZ.out.2.1, ⟨EZ.out.sl 2 rfl, ⟨EZ.out.sl 0 rfl, ⟨EZ.out.sl 9 rfl, ⟨EZ.out.sl 10 rfl, trivial⟩⟩⟩⟩⟩, HK2⟩
     case measure => exact HM.out
theorem rOver_c {a b : Value} {N M r : Nat} {w : World} (hr : N / M = r) (h1 : len N ≤ 2000) (h2 : len M ≤ 2000) (h0 : M ≠ 0) (ha : Nt w a N) (hb : Nt w b M) :
  Calls Tryz.prog 77 #[.agg #[a], .agg #[b]] w fun e w' => RetV r e w' ∧ Below w.heap.size w w' := by
 obtain ⟨ao, ca, rfl, _⟩ := ha.open
 obtain ⟨bo, cb, rfl, _⟩ := hb.open
 subst hr
 exact rOver_w ao ca bo cb N M w ha hb h1 h2 h0
end Nn
namespace Nn
open Go.RowKit NatMath
set_option maxRecDepth 100000 in
set_option maxHeartbeats 1000000 in
theorem rInv_w (ao : Option Addr) (ca : Nat) (bo : Option Addr) (cb : Nat) (N K : Nat) (V : Nat) (t : Bool) (w : World) (ha : Nt w (.slice ao (len N) ca) N) (hb : Nt w (.slice bo (len K) cb) K) (hV : invV N K = V) (ht : decide (invG N K = 1) = t) (hn : N < K) (hk : len K ≤ 64) :
  Calls Tryz.prog 41 #[.agg #[.slice ao (len N) ca], .agg #[.slice bo (len K) cb]] w fun e w' => ResB V t e w' ∧ Below w.heap.size w w' := by
 have hK0 : K ≠ 0 := by omega
 have CR := Zh (fun (u : Value) (X : Nat) W (hx : len X ≤ 64) ha hb => @rMod_n u (.slice bo (len K) cb) X K (X % K) W rfl (by omega) hK0 (by omega) ha hb)
 have CM := Zh (fun (u v : Value) (X Y : Nat) W hx hy ha hb hc => @rMul_c u v (.slice bo (len K) cb) X Y K (X * Y % K) W rfl hx (Nat.le_trans (len_le_of_lt hy hk) (by omega)) (by omega) ha hb hc)
 have CS := Zh (fun (u v : Value) (X Y : Nat) W hx hy ha hb hc => @rSub_c u v (.slice bo (len K) cb) X Y K (subm X Y K) W rfl hx hy (by omega) ha hb hc)
 have hl1 : len 1 ≤ 64 := by rw [len_one]; omega
 have HS : Hid (InvS N K N K N 0 (1 % K)) := Zh ⟨rfl, by omega, by have := len_le_of_lt hn hk; omega, by omega, Nat.mod_lt _ (by omega), rfl⟩
 have HK0 : Hid (0 < K) := Zh (by omega)
 have HVT := Zh (And.intro hV ht)
 clear hn hk hK0 hV ht
 have E0 := Zh (((EnvB.start w).numN ha).numN hb)
 clear ha hb
 go_enter Tryz.func41, Tryz.ntmps41
 go_wp2_with fail
 have E1 := Zh ((((E0.out.push (.slice ao (len N) ca) 24 ⟨_, _, _, rfl⟩ (w.heap.size) (by simp)).push (.slice bo (len K) cb) 24 ⟨_, _, _, rfl⟩ (w.heap.size + 1) (by simp)).push (.slice none 0 0) 24 ⟨_, _, _, rfl⟩ (w.heap.size + 1 + 1) (by simp)))
 clear E0
 generalize ((w.alloc (.cells #[.slice ao (len N) ca] 24)).alloc (.cells #[.slice bo (len K) cb] 24)).alloc (.cells #[.slice none 0 0] 24) = w1 at *
 have E1d : Hid (EnvB w [(w.heap.size + 1 + 1, .slice none 0 0), (w.heap.size + 1, .slice bo (len K) cb), (w.heap.size, .slice ao (len N) ca)] [(.slice bo (len K) cb, digs K), (.slice ao (len N) ca, digs N)] w1.drew) := Zh E1.out.drew
 have bx0 := Zh (E1d.out.box 1 rfl)
 have bx1 := Zh (E1d.out.box 2 rfl)
 refine wp_region_held_drew (S := fun w' => w'.cell? ⟨w.heap.size, 0, none⟩ = some (.slice ao (len N) ca)) (by kernel_rfl) ((E1d.out.box 2 rfl).1) (fun hHeld => ?_)
 refine takeW (i := 1) (some 12) (v := .agg #[.slice ao (len N) ca]) rfl rfl (by kernel_rfl) (by kernel_rfl) (by kernel_rfl) (fun _ _ _ h => h) (by rfl) hHeld ?_ ?_
 ·(intro wS hSw; (try dsimp only at hSw); go_simp; try with_reducible rfl)
 simp only [Act.put, List.setIfInBounds_toArray, List.set_cons_zero, List.set_cons_succ]
 refine' wpAnyH_phase (fun _ _ h hb => (hb.cell (World.block_lt_of_cell? _ _ h)).trans h) [1] [0, 2, 3] (by kernel_rfl) _ (by kernel_rfl) _ (by kernel_rfl) #[true, true, true, true, false, false] (by kernel_rfl) 2 (by kernel_rfl) hHeld [PEq (.agg #[.slice bo (len K) cb]), PEq (.agg #[.slice ao (len N) ca]), PBox w1.heap.size, PBox w1.heap.size, Fact.none, Fact.none] (List.forall_mem_cons.2 ⟨PEq.st _, List.forall_mem_cons.2 ⟨PEq.st _, List.forall_mem_cons.2 ⟨PBox.st _, List.forall_mem_cons.2 ⟨PBox.st _, List.forall_mem_cons.2 ⟨Fact.none_st, List.forall_mem_cons.2 ⟨Fact.none_st, List.forall_mem_nil _⟩⟩⟩⟩⟩⟩) _ ?hFr1 ?hTr1 ?stepr1 ?doner1
 case hFr1 => intro x; simp only [frameL, Act.put, List.setIfInBounds_toArray, List.set_cons_zero, List.set_cons_succ, Nat.zero_add, Nat.reduceAdd]; exact rfl
 case hTr1 =>
  intro i hi
  obtain rfl : i = 1 := by simpa using hi
  exact rfl
 case stepr1 =>
  refine List.forall_mem_cons.2 ⟨?_, ?_⟩
  ·intro xv bv ev WW hB hdp
   refine op_of rfl ?_
   clear hdp
   intro KK hKK
   obtain ⟨z, -, -, -, -⟩ := bx0.out.below hB
   go_simp
   exact act_eq (hKK.out (.agg #[.slice bo (len K) cb]) _ (Below.refl _ _) rfl) (by first | rfl | simp [upd])
  refine List.forall_mem_cons.2 ⟨?_, ?_⟩
  ·intro xv bv ev WW hB hdp
   refine op_of rfl ?_
   clear hdp
   intro KK hKK
   go_simp
   exact act_eq (hKK.out (.pointer (some ⟨WW.heap.size, 0, none⟩)) _ (below_one _ _) (PBox.mk hB rfl _)) (by first | rfl | simp [upd])
  refine List.forall_mem_cons.2 ⟨?_, ?_⟩
  ·intro xv bv ev WW hB hdp
   refine op_of rfl ?_
   clear hdp
   intro KK hKK
   go_simp
   exact act_eq (hKK.out (.pointer (some ⟨WW.heap.size, 0, none⟩)) _ (below_one _ _) (PBox.mk hB rfl _)) (by first | rfl | simp [upd])
  exact List.forall_mem_nil _
 intro xv bv ev w2 hB hSW hR hO
 have ed0 : xv 0 = .agg #[.slice bo (len K) cb] := hR 0 (by kernel_rfl)
 have ed1 : xv 1 = .agg #[.slice ao (len N) ca] := hR 1 (by kernel_rfl)
 obtain ⟨gr1_2, ed2, hg2, hb2, he2, hc2, hf2, hs2⟩ := (show (PBox w1.heap.size) (xv 2) (bv 2) (ev 2) w2 from hR 2 (by kernel_rfl))
 obtain ⟨gr1_3, ed3, hg3, hb3, he3, hc3, hf3, hs3⟩ := (show (PBox w1.heap.size) (xv 3) (bv 3) (ev 3) w2 from hR 3 (by kernel_rfl))
 simp only [ed0, ed1, ed2, ed3]
 have ne2_3 : gr1_2 ≠ gr1_3 := by have := hO 2 3 (by kernel_rfl) (by kernel_rfl) (by decide); omega
 have E2 := Zh ((((E1d.out.below hB).add gr1_2 (.slice none 0 0) ⟨hc2, hf2, hs2, Nat.le_trans E1.out.size hg2, ⟨_, _, _, rfl⟩⟩ (fun p hp => by have := E1.out.old p hp; omega)).add gr1_3 (.slice none 0 0) ⟨hc3, hf3, hs3, Nat.le_trans E1.out.size hg3, ⟨_, _, _, rfl⟩⟩ (List.forall_mem_cons.2 ⟨ne2_3, fun p hp => by have := E1.out.old p hp; omega⟩)))
 clear E1 hB hR hO hSW E1d bx0 bx1 ed0 ed1 ed2 ed3 hg2 hb2 he2 hc2 hf2 hs2 hg3 hb3 he3 hc3 hf3 hs3 ne2_3
 obtain ⟨p1, f1, -, -, -⟩ := E2.out.box 1 rfl
 refine wpAnyH_next (i := 4) (by kernel_rfl) rfl (fun KK hKK => ?_)
 go_simp
 have E3 : Hid (EnvB w [(gr1_3, .slice none 0 0), (gr1_2, .slice bo (len K) cb), (w.heap.size + 1 + 1, .slice none 0 0), (w.heap.size + 1, .slice bo (len K) cb), (w.heap.size, .slice ao (len N) ca)] [(.slice bo (len K) cb, digs K), (.slice ao (len N) ca, digs N)] _) := Zh ((E2.out.set 1 (.slice bo (len K) cb) rfl ⟨_, _, _, rfl⟩))
 refine hKK.out _ _ ((E3.out.box 4 rfl).1) ?_
 clear hKK KK
 obtain ⟨p2, f2, -, -, -⟩ := E3.out.box 0 rfl
 refine wpAnyH_next (i := 5) (by kernel_rfl) rfl (fun KK hKK => ?_)
 go_simp
 have E4 : Hid (EnvB w [(gr1_3, .slice ao (len N) ca), (gr1_2, .slice bo (len K) cb), (w.heap.size + 1 + 1, .slice none 0 0), (w.heap.size + 1, .slice bo (len K) cb), (w.heap.size, .slice ao (len N) ca)] [(.slice bo (len K) cb, digs K), (.slice ao (len N) ca, digs N)] _) := Zh ((E3.out.set 0 (.slice ao (len N) ca) rfl ⟨_, _, _, rfl⟩))
 refine hKK.out _ _ ((E4.out.box 4 rfl).1) ?_
 clear hKK KK
 refine wpAnyH_done (by kernel_rfl) ?_ _
 go_wp2_with fail
 have E5 := Zh (E4.out)
 clear p1 f1 p2 f2 E4
 generalize (w2.setCell ⟨gr1_2, 0, none⟩ (.slice bo (len K) cb)).setCell ⟨gr1_3, 0, none⟩ (.slice ao (len N) ca) = w3 at *
 have bx0 := Zh (E5.out.box 3 rfl)
 refine' wp_region_phase (by kernel_rfl) [0, 1, 2, 3, 4, 5] (by kernel_rfl) #[true, true, true, true, true, true, false, false] (by kernel_rfl) 2 (by kernel_rfl) [PEq (.agg #[.slice none 0 0]), PNum (1), PEq (.agg #[.slice bo (len K) cb]), PNum ((1 % K)), PBox w3.heap.size, PBox w3.heap.size, Fact.none, Fact.none] (List.forall_mem_cons.2 ⟨PEq.st _, List.forall_mem_cons.2 ⟨PNum.st _, List.forall_mem_cons.2 ⟨PEq.st _, List.forall_mem_cons.2 ⟨PNum.st _, List.forall_mem_cons.2 ⟨PBox.st _, List.forall_mem_cons.2 ⟨PBox.st _, List.forall_mem_cons.2 ⟨Fact.none_st, List.forall_mem_cons.2 ⟨Fact.none_st, List.forall_mem_nil _⟩⟩⟩⟩⟩⟩⟩⟩) _ ?hFr2 ?stepr2 ?doner2
 case hFr2 => intro x; simp only [frameL, Act.put, List.setIfInBounds_toArray, List.set_cons_zero, List.set_cons_succ, Nat.zero_add, Nat.reduceAdd]; exact rfl
 case stepr2 =>
  refine List.forall_mem_cons.2 ⟨?_, ?_⟩
  ·intro xv bv ev WW hB hdp
   refine op_of rfl ?_
   clear hdp
   intro KK hKK
   go_simp
   exact act_eq (hKK.out _ _ (Below.refl _ _) rfl) (by first | rfl | simp [upd])
  refine List.forall_mem_cons.2 ⟨?_, ?_⟩
  ·intro xv bv ev WW hB hdp
   refine op_of rfl ?_
   clear hdp
   intro KK hKK
   go_simp
   refine (rOf_c 1 _ (by decide)).mono ?_
   rintro e WW' ⟨⟨ia, ik, rfl, hi⟩, hb⟩
   (try dsimp only)
   (try simp only [Act.put, List.setIfInBounds_toArray, List.set_cons_zero, List.set_cons_succ])
   exact act_eq (hKK.out _ _ hb ⟨_, _, rfl, hi⟩) (by first | rfl | simp [upd])
  refine List.forall_mem_cons.2 ⟨?_, ?_⟩
  ·intro xv bv ev WW hB hdp
   refine op_of rfl ?_
   clear hdp
   intro KK hKK
   obtain ⟨z, -, -, -, -⟩ := bx0.out.below hB
   go_simp
   exact act_eq (hKK.out (.agg #[.slice bo (len K) cb]) _ (Below.refl _ _) rfl) (by first | rfl | simp [upd])
  refine List.forall_mem_cons.2 ⟨?_, ?_⟩
  ·intro xv bv ev WW hB hdp
   refine op_of rfl ?_
   obtain ⟨ia, ik, ed1, hi⟩ := (show (PNum (1)) (xv 1) (bv 1) (ev 1) WW from hdp 1 (by kernel_rfl))
   have ed2 : xv 2 = .agg #[.slice bo (len K) cb] := hdp 2 (by kernel_rfl)
   clear hdp
   intro KK hKK
   go_simp
   refine (CR.out _ _ _ hl1 hi.out ((E5.out.below hB).nt 0 rfl)).mono ?_
   rintro e WW' ⟨⟨ja, jk, rfl, hj⟩, hb⟩
   (try dsimp only)
   (try simp only [Act.put, List.setIfInBounds_toArray, List.set_cons_zero, List.set_cons_succ])
   exact act_eq (hKK.out _ _ hb ⟨_, _, rfl, hj⟩) (by first | rfl | simp [upd, ed1, ed2])
  refine List.forall_mem_cons.2 ⟨?_, ?_⟩
  ·intro xv bv ev WW hB hdp
   refine op_of rfl ?_
   clear hdp
   intro KK hKK
   go_simp
   exact act_eq (hKK.out (.pointer (some ⟨WW.heap.size, 0, none⟩)) _ (below_one _ _) (PBox.mk hB rfl _)) (by first | rfl | simp [upd])
  refine List.forall_mem_cons.2 ⟨?_, ?_⟩
  ·intro xv bv ev WW hB hdp
   refine op_of rfl ?_
   clear hdp
   intro KK hKK
   go_simp
   exact act_eq (hKK.out (.pointer (some ⟨WW.heap.size, 0, none⟩)) _ (below_one _ _) (PBox.mk hB rfl _)) (by first | rfl | simp [upd])
  exact List.forall_mem_nil _
 intro xv bv ev w4 hB hR hO
 have ed0 : xv 0 = .agg #[.slice none 0 0] := hR 0 (by kernel_rfl)
 obtain ⟨ia, ik, ed1, hi⟩ := (show (PNum (1)) (xv 1) (bv 1) (ev 1) w4 from hR 1 (by kernel_rfl))
 have ed2 : xv 2 = .agg #[.slice bo (len K) cb] := hR 2 (by kernel_rfl)
 obtain ⟨ja, jk, ed3, hj⟩ := (show (PNum ((1 % K))) (xv 3) (bv 3) (ev 3) w4 from hR 3 (by kernel_rfl))
 obtain ⟨gr2_4, ed4, hg4, hb4, he4, hc4, hf4, hs4⟩ := (show (PBox w3.heap.size) (xv 4) (bv 4) (ev 4) w4 from hR 4 (by kernel_rfl))
 obtain ⟨gr2_5, ed5, hg5, hb5, he5, hc5, hf5, hs5⟩ := (show (PBox w3.heap.size) (xv 5) (bv 5) (ev 5) w4 from hR 5 (by kernel_rfl))
 simp only [ed0, ed1, ed2, ed3, ed4, ed5]
 have ne4_5 : gr2_4 ≠ gr2_5 := by have := hO 4 5 (by kernel_rfl) (by kernel_rfl) (by decide); omega
 have E6 := Zh ((((((E5.out.below hB).add gr2_4 (.slice none 0 0) ⟨hc4, hf4, hs4, Nat.le_trans E5.out.size hg4, ⟨_, _, _, rfl⟩⟩ (fun p hp => by have := E5.out.old p hp; omega)).add gr2_5 (.slice none 0 0) ⟨hc5, hf5, hs5, Nat.le_trans E5.out.size hg5, ⟨_, _, _, rfl⟩⟩ (List.forall_mem_cons.2 ⟨ne4_5, fun p hp => by have := E5.out.old p hp; omega⟩)).numN (hi.out : Nt _ _ (1))).numN (hj.out : Nt _ _ ((1 % K)))))
 clear E5 E2 E3 hB hR hO bx0 ed0 ed1 ed2 ed3 ed4 ed5 hi hj hg4 hb4 he4 hc4 hf4 hs4 hg5 hb5 he5 hc5 hf5 hs5 ne4_5
 obtain ⟨p3, f3, -, -, -⟩ := E6.out.box 1 rfl
 refine wpAny_next (i := 6) (by kernel_rfl) rfl (fun KK hKK => ?_)
 go_simp
 have E7 : Hid (EnvB w [(gr2_5, .slice none 0 0), (gr2_4, .slice none 0 0), (gr1_3, .slice ao (len N) ca), (gr1_2, .slice bo (len K) cb), (w.heap.size + 1 + 1, .slice none 0 0), (w.heap.size + 1, .slice bo (len K) cb), (w.heap.size, .slice ao (len N) ca)] [(.slice ja (len (1 % K)) jk, digs (1 % K)), (.slice ia (len 1) ik, digs 1), (.slice bo (len K) cb, digs K), (.slice ao (len N) ca, digs N)] _) := Zh ((E6.out.set 1 (.slice none 0 0) rfl ⟨_, _, _, rfl⟩))
 refine hKK.out _ _ ?_
 clear hKK KK
 obtain ⟨p4, f4, -, -, -⟩ := E7.out.box 0 rfl
 refine wpAny_next (i := 7) (by kernel_rfl) rfl (fun KK hKK => ?_)
 go_simp
 have E8 : Hid (EnvB w [(gr2_5, .slice ja (len (1 % K)) jk), (gr2_4, .slice none 0 0), (gr1_3, .slice ao (len N) ca), (gr1_2, .slice bo (len K) cb), (w.heap.size + 1 + 1, .slice none 0 0), (w.heap.size + 1, .slice bo (len K) cb), (w.heap.size, .slice ao (len N) ca)] [(.slice ja (len (1 % K)) jk, digs (1 % K)), (.slice ia (len 1) ik, digs 1), (.slice bo (len K) cb, digs K), (.slice ao (len N) ca, digs N)] _) := Zh ((E7.out.set 0 (.slice ja (len (1 % K)) jk) rfl ⟨_, _, _, rfl⟩))
 refine hKK.out _ _ ?_
 clear hKK KK
 refine wpAny_done (by kernel_rfl) ?_ _
 have E9 := Zh (E8.out)
 have E10 : Hid (EnvB w [(gr2_5, .slice ja (len (1 % K)) jk), (gr2_4, .slice none (len 0) 0), (gr1_3, .slice ao (len N) ca), (gr1_2, .slice bo (len K) cb), (w.heap.size + 1 + 1, .slice none 0 0), (w.heap.size + 1, .slice bo (len K) cb), (w.heap.size, .slice ao (len N) ca)] [(.slice none (len 0) 0, digs 0), (.slice ja (len (1 % K)) jk, digs (1 % K)), (.slice ia (len 1) ik, digs 1), (.slice bo (len K) cb, digs K), (.slice ao (len N) ca, digs N)] _) := Zh (by have hz := (E9.out.numN (Nt.zero _ : Nt _ _ 0)); simp only [len_zero] at hz ⊢; exact hz)
 go_wp2_with fail
 have E11 := Zh (E10.out)
 go_loopg [] (N) (fun gk  wr => ∃ (R Y T F : Nat) (ro yo tl fo : Option Addr) (rc yc tc fc : Nat), Hid (EnvB w [(gr2_5, .slice fo (len F) fc), (gr2_4, .slice tl (len T) tc), (gr1_3, .slice yo (len Y) yc), (gr1_2, .slice ro (len R) rc), (w.heap.size + 1 + 1, .slice none 0 0), (w.heap.size + 1, .slice bo (len K) cb), (w.heap.size, .slice ao (len N) ca)] [(.slice fo (len F) fc, digs F), (.slice tl (len T) tc, digs T), (.slice yo (len Y) yc, digs Y), (.slice ro (len R) rc, digs R), (.slice bo (len K) cb, digs K), (.slice ao (len N) ca, digs N)] wr) ∧ Hid (InvS N K gk R Y T F))
 case atStart => exact ⟨K, N, 0, 1 % K, bo, ao, none, ja, cb, ca, 0, jk, Zh ⟨E11.out.1, E11.out.2.1, ⟨E11.out.sl 1 rfl, ⟨E11.out.sl 0 rfl, ⟨E11.out.sl 4 rfl, ⟨E11.out.sl 3 rfl, ⟨E11.out.sl 3 rfl, ⟨E11.out.sl 4 rfl, trivial⟩⟩⟩⟩⟩⟩⟩, HS⟩
 case round =>
  clear p3 f3 p4 f4 E11 E6 E7 E8 E9 E10 HS
  obtain ⟨R, Y, T, F, ro, yo, tl, fo, rc, yc, tc, fc, EL, HA⟩ := hrel
  by_cases hy : Y = 0
  ·obtain ⟨a1, a2, a3, a4, a5, a6⟩ := HA.out
   have hR : invV N K = T ∧ invG N K = R := by rw [hy, inv_zero] at a6; unfold invV invG; rw [← a6]; exact ⟨rfl, rfl⟩
   obtain rfl : T = V := hR.1.symm.trans HVT.out.1
   have t1 : len Y = 0 := len_eq_zero.2 hy
   have t2 : decide (0 < (len Y : Int)) = false := decide_eq_false (by omega)
   have t3 : decide (0 < len Y) = false := decide_eq_false (by omega)
   have CC := Zh (fun (u v : Value) W ha hb => @rSame_c u v R 1 t W (by rw [← hR.2]; exact HVT.out.2) ha hb)
   clear HA a1 a2 a3 a4 a5 a6 hy t1 CR CM CS hR HVT
   obtain ⟨p5, f5, -, -, -⟩ := EL.out.box 2 rfl
   go_wp2_with fail
   have bx0 := Zh (EL.out.box 1 rfl)
   have bx1 := Zh (EL.out.box 3 rfl)
   clear p5 f5
   refine' wp_region_phase (by kernel_rfl) [0, 1, 2, 3] (by kernel_rfl) #[true, true, true, true, false, false] (by kernel_rfl) 2 (by kernel_rfl) [PEq (.agg #[.slice tl (len T) tc]), PEq (.agg #[.slice ro (len R) rc]), PNum (1), PEq (.bool t), Fact.none, Fact.none] (List.forall_mem_cons.2 ⟨PEq.st _, List.forall_mem_cons.2 ⟨PEq.st _, List.forall_mem_cons.2 ⟨PNum.st _, List.forall_mem_cons.2 ⟨PEq.st _, List.forall_mem_cons.2 ⟨Fact.none_st, List.forall_mem_cons.2 ⟨Fact.none_st, List.forall_mem_nil _⟩⟩⟩⟩⟩⟩) _ ?hFr3 ?stepr3 ?doner3
   case hFr3 => intro x; simp only [frameL, Act.put, List.setIfInBounds_toArray, List.set_cons_zero, List.set_cons_succ, Nat.zero_add, Nat.reduceAdd]; exact rfl
   case stepr3 =>
    refine List.forall_mem_cons.2 ⟨?_, ?_⟩
    ·intro xv bv ev WW hB hdp
     refine op_of rfl ?_
     clear hdp
     intro KK hKK
     obtain ⟨z, -, -, -, -⟩ := bx0.out.below hB
     go_simp
     exact act_eq (hKK.out (.agg #[.slice tl (len T) tc]) _ (Below.refl _ _) rfl) (by first | rfl | simp [upd])
    refine List.forall_mem_cons.2 ⟨?_, ?_⟩
    ·intro xv bv ev WW hB hdp
     refine op_of rfl ?_
     clear hdp
     intro KK hKK
     obtain ⟨z, -, -, -, -⟩ := bx1.out.below hB
     go_simp
     exact act_eq (hKK.out (.agg #[.slice ro (len R) rc]) _ (Below.refl _ _) rfl) (by first | rfl | simp [upd])
    refine List.forall_mem_cons.2 ⟨?_, ?_⟩
    ·intro xv bv ev WW hB hdp
     refine op_of rfl ?_
     clear hdp
     intro KK hKK
     go_simp
     refine (rOf_c 1 _ (by decide)).mono ?_
     rintro e WW' ⟨⟨ia, ik, rfl, hi⟩, hb⟩
     (try dsimp only)
     (try simp only [Act.put, List.setIfInBounds_toArray, List.set_cons_zero, List.set_cons_succ])
     exact act_eq (hKK.out _ _ hb ⟨_, _, rfl, hi⟩) (by first | rfl | simp [upd])
    refine List.forall_mem_cons.2 ⟨?_, ?_⟩
    ·intro xv bv ev WW hB hdp
     refine op_of rfl ?_
     have ed1 : xv 1 = .agg #[.slice ro (len R) rc] := hdp 1 (by kernel_rfl)
     obtain ⟨ia, ik, ed2, hi⟩ := (show (PNum (1)) (xv 2) (bv 2) (ev 2) WW from hdp 2 (by kernel_rfl))
     clear hdp
     intro KK hKK
     go_simp
     refine (CC.out _ _ _ ((EL.out.below hB).nt 3 rfl) hi.out).mono ?_
     rintro e WW' ⟨rfl, hb⟩
     (try dsimp only)
     (try simp only [Act.put, List.setIfInBounds_toArray, List.set_cons_zero, List.set_cons_succ])
     exact act_eq (hKK.out _ _ hb rfl) (by first | rfl | simp [upd, ed1, ed2])
    exact List.forall_mem_nil _
   intro xv bv ev w5 hB hR hO
   have ed0 : xv 0 = .agg #[.slice tl (len T) tc] := hR 0 (by kernel_rfl)
   have ed1 : xv 1 = .agg #[.slice ro (len R) rc] := hR 1 (by kernel_rfl)
   obtain ⟨ia, ik, ed2, hi⟩ := (show (PNum (1)) (xv 2) (bv 2) (ev 2) w5 from hR 2 (by kernel_rfl))
   have ed3 : xv 3 = .bool t := hR 3 (by kernel_rfl)
   simp only [ed0, ed1, ed2, ed3]
   have E12 := Zh (((EL.out.below hB).numN (hi.out : Nt _ _ (1))))
   clear EL hB hR hO bx0 bx1 ed0 ed1 ed2 ed3 hi
   obtain ⟨p6, f6, -, -, -⟩ := E12.out.box 4 rfl
   refine wpAny_next (i := 4) (by kernel_rfl) rfl (fun KK hKK => ?_)
   go_simp
   have E13 : Hid (EnvB w [(gr2_5, .slice fo (len F) fc), (gr2_4, .slice tl (len T) tc), (gr1_3, .slice yo (len Y) yc), (gr1_2, .slice ro (len R) rc), (w.heap.size + 1 + 1, .slice tl (len T) tc), (w.heap.size + 1, .slice bo (len K) cb), (w.heap.size, .slice ao (len N) ca)] [(.slice ia (len 1) ik, digs 1), (.slice fo (len F) fc, digs F), (.slice tl (len T) tc, digs T), (.slice yo (len Y) yc, digs Y), (.slice ro (len R) rc, digs R), (.slice bo (len K) cb, digs K), (.slice ao (len N) ca, digs N)] _) := Zh ((E12.out.set 4 (.slice tl (len T) tc) rfl ⟨_, _, _, rfl⟩))
   refine hKK.out _ _ ?_
   clear hKK KK
   refine wpAny_next (i := 5) (by kernel_rfl) rfl (fun KK hKK => ?_)
   go_simp
   refine hKK.out _ _ ?_
   clear hKK KK
   refine wpAny_done (by kernel_rfl) ?_ _
   have E14 := Zh (E13.out)
   have hfin := Zh E14.out
   obtain ⟨rc, -, -, -, -⟩ := E14.out.box 4 rfl
   go_wp2
   exact bodyPost_ret (v := .tuple #[.agg #[.slice tl (len T) tc], .bool t]) (by simp [results, Tryz.results41, go_sem, rc]) rfl ⟨⟨_, _, rfl, Zh (hfin.out.nt 2 rfl)⟩, hfin.out.1⟩
  ·have HK2 := Zh (HA.out.step hy).1
   have HM := Zh (HA.out.step hy).2
   obtain ⟨a1, a2, a3, a4, a5, a6⟩ := HA.out
   have t1 : len Y ≠ 0 := fun e => hy (len_eq_zero.1 e)
   have t2 : decide (0 < (len Y : Int)) = true := decide_eq_true (by omega)
   have t3 : decide (0 < len Y) = true := decide_eq_true (by omega)
   have CO := Zh (fun (u v : Value) W ha hb => @rOver_c u v R Y (R / Y) W rfl (by omega) (by omega) hy ha hb)
   have CD := Zh (fun (u v : Value) W ha hb => @rMod_n u v R Y (R % Y) W rfl (by omega) hy (by omega) ha hb)
   have CR1 := Zh (fun (u : Value) W ha hb => CR.out u (R / Y) W (Nat.le_trans (len_le_of_le (Nat.div_le_self _ _)) a2) ha hb)
   have hq : R / Y % K < K := Nat.mod_lt _ (by omega)
   have CM1 := Zh (fun (u v : Value) W ha hb hc => CM.out u v (R / Y % K) F W hq a5 ha hb hc)
   have hz : R / Y % K * F % K < K := Nat.mod_lt _ (by omega)
   have CS1 := Zh (fun (u v : Value) W ha hb hc => CS.out u v T (R / Y % K * F % K) W a4 hz ha hb hc)
   clear HA a1 a2 a3 a4 a5 a6 hy t1 CR CM CS hq hz
   generalize subm T (R / Y % K * F % K) K = S at *
   generalize R / Y % K * F % K = Z at *
   generalize R / Y % K = X at *
   generalize R / Y = Q at *
   generalize R % Y = U at *
   obtain ⟨p5, f5, -, -, -⟩ := EL.out.box 2 rfl
   obtain ⟨p6, f6, -, -, -⟩ := EL.out.box 3 rfl
   go_wp2_with fail
   refine (CO.out _ _ _ (EL.out.nt 3 rfl) (EL.out.nt 2 rfl)).mono ?_
   rintro e w5 ⟨⟨qa, qk, rfl, hq⟩, hb⟩
   have E12 := Zh (((EL.out.below hb).numN (hq.out : Nt _ _ Q)))
   clear p5 f5 p6 f6 EL hb hq
   go_wp2_with fail
   have E13 := Zh ((E12.out.push (.slice qa (len Q) qk) 24 ⟨_, _, _, rfl⟩ (w5.heap.size) (by simp)))
   clear E12
   generalize w5.alloc (.cells #[.slice qa (len Q) qk] 24) = w6 at *
   have bx0 := Zh (E13.out.box 3 rfl)
   have bx1 := Zh (E13.out.box 4 rfl)
   refine' wp_region_phase (by kernel_rfl) [0, 1, 2, 3] (by kernel_rfl) #[true, true, true, true, false, false] (by kernel_rfl) 2 (by kernel_rfl) [PEq (.agg #[.slice yo (len Y) yc]), PEq (.agg #[.slice ro (len R) rc]), PEq (.agg #[.slice yo (len Y) yc]), PNum (U), Fact.none, Fact.none] (List.forall_mem_cons.2 ⟨PEq.st _, List.forall_mem_cons.2 ⟨PEq.st _, List.forall_mem_cons.2 ⟨PEq.st _, List.forall_mem_cons.2 ⟨PNum.st _, List.forall_mem_cons.2 ⟨Fact.none_st, List.forall_mem_cons.2 ⟨Fact.none_st, List.forall_mem_nil _⟩⟩⟩⟩⟩⟩) _ ?hFr4 ?stepr4 ?doner4
   case hFr4 => intro x; simp only [frameL, Act.put, List.setIfInBounds_toArray, List.set_cons_zero, List.set_cons_succ, Nat.zero_add, Nat.reduceAdd]; exact rfl
   case stepr4 =>
    refine List.forall_mem_cons.2 ⟨?_, ?_⟩
    ·intro xv bv ev WW hB hdp
     refine op_of rfl ?_
     clear hdp
     intro KK hKK
     obtain ⟨z, -, -, -, -⟩ := bx0.out.below hB
     go_simp
     exact act_eq (hKK.out (.agg #[.slice yo (len Y) yc]) _ (Below.refl _ _) rfl) (by first | rfl | simp [upd])
    refine List.forall_mem_cons.2 ⟨?_, ?_⟩
    ·intro xv bv ev WW hB hdp
     refine op_of rfl ?_
     clear hdp
     intro KK hKK
     obtain ⟨z, -, -, -, -⟩ := bx1.out.below hB
     go_simp
     exact act_eq (hKK.out (.agg #[.slice ro (len R) rc]) _ (Below.refl _ _) rfl) (by first | rfl | simp [upd])
    refine List.forall_mem_cons.2 ⟨?_, ?_⟩
    ·intro xv bv ev WW hB hdp
     refine op_of rfl ?_
     clear hdp
     intro KK hKK
     obtain ⟨z, -, -, -, -⟩ := bx0.out.below hB
     go_simp
     exact act_eq (hKK.out (.agg #[.slice yo (len Y) yc]) _ (Below.refl _ _) rfl) (by first | rfl | simp [upd])
    refine List.forall_mem_cons.2 ⟨?_, ?_⟩
    ·intro xv bv ev WW hB hdp
     refine op_of rfl ?_
     have ed1 : xv 1 = .agg #[.slice ro (len R) rc] := hdp 1 (by kernel_rfl)
     have ed2 : xv 2 = .agg #[.slice yo (len Y) yc] := hdp 2 (by kernel_rfl)
     clear hdp
     intro KK hKK
     go_simp
     refine (CD.out _ _ _ ((E13.out.below hB).nt 4 rfl) ((E13.out.below hB).nt 3 rfl)).mono ?_
     rintro e WW' ⟨⟨ua, uk, rfl, hu⟩, hb⟩
     (try dsimp only)
     (try simp only [Act.put, List.setIfInBounds_toArray, List.set_cons_zero, List.set_cons_succ])
     exact act_eq (hKK.out _ _ hb ⟨_, _, rfl, hu⟩) (by first | rfl | simp [upd, ed1, ed2])
    exact List.forall_mem_nil _
   intro xv bv ev w7 hB hR hO
   have ed0 : xv 0 = .agg #[.slice yo (len Y) yc] := hR 0 (by kernel_rfl)
   have ed1 : xv 1 = .agg #[.slice ro (len R) rc] := hR 1 (by kernel_rfl)
   have ed2 : xv 2 = .agg #[.slice yo (len Y) yc] := hR 2 (by kernel_rfl)
   obtain ⟨ua, uk, ed3, hu⟩ := (show (PNum (U)) (xv 3) (bv 3) (ev 3) w7 from hR 3 (by kernel_rfl))
   simp only [ed0, ed1, ed2, ed3]
   have E14 := Zh (((E13.out.below hB).numN (hu.out : Nt _ _ (U))))
   clear E13 hB hR hO bx0 bx1 ed0 ed1 ed2 ed3 hu
   obtain ⟨p7, f7, -, -, -⟩ := E14.out.box 4 rfl
   refine wpAny_next (i := 4) (by kernel_rfl) rfl (fun KK hKK => ?_)
   go_simp
   have E15 : Hid (EnvB w [(w5.heap.size, .slice qa (len Q) qk), (gr2_5, .slice fo (len F) fc), (gr2_4, .slice tl (len T) tc), (gr1_3, .slice yo (len Y) yc), (gr1_2, .slice yo (len Y) yc), (w.heap.size + 1 + 1, .slice none 0 0), (w.heap.size + 1, .slice bo (len K) cb), (w.heap.size, .slice ao (len N) ca)] [(.slice ua (len U) uk, digs U), (.slice qa (len Q) qk, digs Q), (.slice fo (len F) fc, digs F), (.slice tl (len T) tc, digs T), (.slice yo (len Y) yc, digs Y), (.slice ro (len R) rc, digs R), (.slice bo (len K) cb, digs K), (.slice ao (len N) ca, digs N)] _) := Zh ((E14.out.set 4 (.slice yo (len Y) yc) rfl ⟨_, _, _, rfl⟩))
   refine hKK.out _ _ ?_
   clear hKK KK
   obtain ⟨p8, f8, -, -, -⟩ := E15.out.box 3 rfl
   refine wpAny_next (i := 5) (by kernel_rfl) rfl (fun KK hKK => ?_)
   go_simp
   have E16 : Hid (EnvB w [(w5.heap.size, .slice qa (len Q) qk), (gr2_5, .slice fo (len F) fc), (gr2_4, .slice tl (len T) tc), (gr1_3, .slice ua (len U) uk), (gr1_2, .slice yo (len Y) yc), (w.heap.size + 1 + 1, .slice none 0 0), (w.heap.size + 1, .slice bo (len K) cb), (w.heap.size, .slice ao (len N) ca)] [(.slice ua (len U) uk, digs U), (.slice qa (len Q) qk, digs Q), (.slice fo (len F) fc, digs F), (.slice tl (len T) tc, digs T), (.slice yo (len Y) yc, digs Y), (.slice ro (len R) rc, digs R), (.slice bo (len K) cb, digs K), (.slice ao (len N) ca, digs N)] _) := Zh ((E15.out.set 3 (.slice ua (len U) uk) rfl ⟨_, _, _, rfl⟩))
   refine hKK.out _ _ ?_
   clear hKK KK
   refine wpAny_done (by kernel_rfl) ?_ _
   go_wp2_with fail
   have E17 := Zh (E16.out)
   clear p7 f7 p8 f8 E16
   generalize (w7.setCell ⟨gr1_2, 0, none⟩ (.slice yo (len Y) yc)).setCell ⟨gr1_3, 0, none⟩ (.slice ua (len U) uk) = w8 at *
   have bx0 := Zh (E17.out.box 1 rfl)
   have bx1 := Zh (E17.out.box 2 rfl)
   have bx2 := Zh (E17.out.box 0 rfl)
   have bx3 := Zh (E17.out.box 6 rfl)
   refine' wp_region_phase (by kernel_rfl) [0, 1, 2, 3, 4, 5, 6, 7, 8, 9] (by kernel_rfl) #[true, true, true, true, true, true, true, true, true, true, false, false] (by kernel_rfl) 2 (by kernel_rfl) [PEq (.agg #[.slice fo (len F) fc]), PEq (.agg #[.slice tl (len T) tc]), PEq (.agg #[.slice qa (len Q) qk]), PEq (.agg #[.slice bo (len K) cb]), PNum (X), PEq (.agg #[.slice fo (len F) fc]), PEq (.agg #[.slice bo (len K) cb]), PNum (Z), PEq (.agg #[.slice bo (len K) cb]), PNum (S), Fact.none, Fact.none] (List.forall_mem_cons.2 ⟨PEq.st _, List.forall_mem_cons.2 ⟨PEq.st _, List.forall_mem_cons.2 ⟨PEq.st _, List.forall_mem_cons.2 ⟨PEq.st _, List.forall_mem_cons.2 ⟨PNum.st _, List.forall_mem_cons.2 ⟨PEq.st _, List.forall_mem_cons.2 ⟨PEq.st _, List.forall_mem_cons.2 ⟨PNum.st _, List.forall_mem_cons.2 ⟨PEq.st _, List.forall_mem_cons.2 ⟨PNum.st _, List.forall_mem_cons.2 ⟨Fact.none_st, List.forall_mem_cons.2 ⟨Fact.none_st, List.forall_mem_nil _⟩⟩⟩⟩⟩⟩⟩⟩⟩⟩⟩⟩) _ ?hFr5 ?stepr5 ?doner5
   case hFr5 => intro x; simp only [frameL, Act.put, List.setIfInBounds_toArray, List.set_cons_zero, List.set_cons_succ, Nat.zero_add, Nat.reduceAdd]; exact rfl
   case stepr5 =>
    refine List.forall_mem_cons.2 ⟨?_, ?_⟩
    ·intro xv bv ev WW hB hdp
     refine op_of rfl ?_
     clear hdp
     intro KK hKK
     obtain ⟨z, -, -, -, -⟩ := bx0.out.below hB
     go_simp
     exact act_eq (hKK.out (.agg #[.slice fo (len F) fc]) _ (Below.refl _ _) rfl) (by first | rfl | simp [upd])
    refine List.forall_mem_cons.2 ⟨?_, ?_⟩
    ·intro xv bv ev WW hB hdp
     refine op_of rfl ?_
     clear hdp
     intro KK hKK
     obtain ⟨z, -, -, -, -⟩ := bx1.out.below hB
     go_simp
     exact act_eq (hKK.out (.agg #[.slice tl (len T) tc]) _ (Below.refl _ _) rfl) (by first | rfl | simp [upd])
    refine List.forall_mem_cons.2 ⟨?_, ?_⟩
    ·intro xv bv ev WW hB hdp
     refine op_of rfl ?_
     clear hdp
     intro KK hKK
     obtain ⟨z, -, -, -, -⟩ := bx2.out.below hB
     go_simp
     exact act_eq (hKK.out (.agg #[.slice qa (len Q) qk]) _ (Below.refl _ _) rfl) (by first | rfl | simp [upd])
    refine List.forall_mem_cons.2 ⟨?_, ?_⟩
    ·intro xv bv ev WW hB hdp
     refine op_of rfl ?_
     clear hdp
     intro KK hKK
     obtain ⟨z, -, -, -, -⟩ := bx3.out.below hB
     go_simp
     exact act_eq (hKK.out (.agg #[.slice bo (len K) cb]) _ (Below.refl _ _) rfl) (by first | rfl | simp [upd])
    refine List.forall_mem_cons.2 ⟨?_, ?_⟩
    ·intro xv bv ev WW hB hdp
     refine op_of rfl ?_
     have ed2 : xv 2 = .agg #[.slice qa (len Q) qk] := hdp 2 (by kernel_rfl)
     have ed3 : xv 3 = .agg #[.slice bo (len K) cb] := hdp 3 (by kernel_rfl)
     clear hdp
     intro KK hKK
     go_simp
     refine (CR1.out _ _ ((E17.out.below hB).nt 1 rfl) ((E17.out.below hB).nt 6 rfl)).mono ?_
     rintro e WW' ⟨⟨va, vk, rfl, hv⟩, hb⟩
     (try dsimp only)
     (try simp only [Act.put, List.setIfInBounds_toArray, List.set_cons_zero, List.set_cons_succ])
     exact act_eq (hKK.out _ _ hb ⟨_, _, rfl, hv⟩) (by first | rfl | simp [upd, ed2, ed3])
    refine List.forall_mem_cons.2 ⟨?_, ?_⟩
    ·intro xv bv ev WW hB hdp
     refine op_of rfl ?_
     clear hdp
     intro KK hKK
     obtain ⟨z, -, -, -, -⟩ := bx0.out.below hB
     go_simp
     exact act_eq (hKK.out (.agg #[.slice fo (len F) fc]) _ (Below.refl _ _) rfl) (by first | rfl | simp [upd])
    refine List.forall_mem_cons.2 ⟨?_, ?_⟩
    ·intro xv bv ev WW hB hdp
     refine op_of rfl ?_
     clear hdp
     intro KK hKK
     obtain ⟨z, -, -, -, -⟩ := bx3.out.below hB
     go_simp
     exact act_eq (hKK.out (.agg #[.slice bo (len K) cb]) _ (Below.refl _ _) rfl) (by first | rfl | simp [upd])
    refine List.forall_mem_cons.2 ⟨?_, ?_⟩
    ·intro xv bv ev WW hB hdp
     refine op_of rfl ?_
     obtain ⟨va, vk, ed4, hv⟩ := (show (PNum (X)) (xv 4) (bv 4) (ev 4) WW from hdp 4 (by kernel_rfl))
     have ed5 : xv 5 = .agg #[.slice fo (len F) fc] := hdp 5 (by kernel_rfl)
     have ed6 : xv 6 = .agg #[.slice bo (len K) cb] := hdp 6 (by kernel_rfl)
     clear hdp
     intro KK hKK
     go_simp
     refine (CM1.out _ _ _ hv.out ((E17.out.below hB).nt 2 rfl) ((E17.out.below hB).nt 6 rfl)).mono ?_
     rintro e WW' ⟨⟨za, zk, rfl, hz⟩, hb⟩
     (try dsimp only)
     (try simp only [Act.put, List.setIfInBounds_toArray, List.set_cons_zero, List.set_cons_succ])
     exact act_eq (hKK.out _ _ hb ⟨_, _, rfl, hz⟩) (by first | rfl | simp [upd, ed4, ed5, ed6])
    refine List.forall_mem_cons.2 ⟨?_, ?_⟩
    ·intro xv bv ev WW hB hdp
     refine op_of rfl ?_
     clear hdp
     intro KK hKK
     obtain ⟨z, -, -, -, -⟩ := bx3.out.below hB
     go_simp
     exact act_eq (hKK.out (.agg #[.slice bo (len K) cb]) _ (Below.refl _ _) rfl) (by first | rfl | simp [upd])
    refine List.forall_mem_cons.2 ⟨?_, ?_⟩
    ·intro xv bv ev WW hB hdp
     refine op_of rfl ?_
     have ed1 : xv 1 = .agg #[.slice tl (len T) tc] := hdp 1 (by kernel_rfl)
     obtain ⟨za, zk, ed7, hz⟩ := (show (PNum (Z)) (xv 7) (bv 7) (ev 7) WW from hdp 7 (by kernel_rfl))
     have ed8 : xv 8 = .agg #[.slice bo (len K) cb] := hdp 8 (by kernel_rfl)
     clear hdp
     intro KK hKK
     go_simp
     refine (CS1.out _ _ _ ((E17.out.below hB).nt 3 rfl) hz.out ((E17.out.below hB).nt 6 rfl)).mono ?_
     rintro e WW' ⟨⟨sa, sk, rfl, hs⟩, hb⟩
     (try dsimp only)
     (try simp only [Act.put, List.setIfInBounds_toArray, List.set_cons_zero, List.set_cons_succ])
     exact act_eq (hKK.out _ _ hb ⟨_, _, rfl, hs⟩) (by first | rfl | simp [upd, ed1, ed7, ed8])
    exact List.forall_mem_nil _
   intro xv bv ev w9 hB hR hO
   have ed0 : xv 0 = .agg #[.slice fo (len F) fc] := hR 0 (by kernel_rfl)
   have ed1 : xv 1 = .agg #[.slice tl (len T) tc] := hR 1 (by kernel_rfl)
   have ed2 : xv 2 = .agg #[.slice qa (len Q) qk] := hR 2 (by kernel_rfl)
   have ed3 : xv 3 = .agg #[.slice bo (len K) cb] := hR 3 (by kernel_rfl)
   obtain ⟨va, vk, ed4, hv⟩ := (show (PNum (X)) (xv 4) (bv 4) (ev 4) w9 from hR 4 (by kernel_rfl))
   have ed5 : xv 5 = .agg #[.slice fo (len F) fc] := hR 5 (by kernel_rfl)
   have ed6 : xv 6 = .agg #[.slice bo (len K) cb] := hR 6 (by kernel_rfl)
   obtain ⟨za, zk, ed7, hz⟩ := (show (PNum (Z)) (xv 7) (bv 7) (ev 7) w9 from hR 7 (by kernel_rfl))
   have ed8 : xv 8 = .agg #[.slice bo (len K) cb] := hR 8 (by kernel_rfl)
   obtain ⟨sa, sk, ed9, hs⟩ := (show (PNum (S)) (xv 9) (bv 9) (ev 9) w9 from hR 9 (by kernel_rfl))
   simp only [ed0, ed1, ed2, ed3, ed4, ed5, ed6, ed7, ed8, ed9]
   have E18 := Zh (((((E17.out.below hB).numN (hv.out : Nt _ _ (X))).numN (hz.out : Nt _ _ (Z))).numN (hs.out : Nt _ _ (S))))
   clear E17 E14 E15 hB hR hO bx0 bx1 bx2 bx3 ed0 ed1 ed2 ed3 ed4 ed5 ed6 ed7 ed8 ed9 hv hz hs
   obtain ⟨p9, f9, -, -, -⟩ := E18.out.box 2 rfl
   refine wpAny_next (i := 10) (by kernel_rfl) rfl (fun KK hKK => ?_)
   go_simp
   have E19 : Hid (EnvB w [(w5.heap.size, .slice qa (len Q) qk), (gr2_5, .slice fo (len F) fc), (gr2_4, .slice fo (len F) fc), (gr1_3, .slice ua (len U) uk), (gr1_2, .slice yo (len Y) yc), (w.heap.size + 1 + 1, .slice none 0 0), (w.heap.size + 1, .slice bo (len K) cb), (w.heap.size, .slice ao (len N) ca)] [(.slice sa (len S) sk, digs S), (.slice za (len Z) zk, digs Z), (.slice va (len X) vk, digs X), (.slice ua (len U) uk, digs U), (.slice qa (len Q) qk, digs Q), (.slice fo (len F) fc, digs F), (.slice tl (len T) tc, digs T), (.slice yo (len Y) yc, digs Y), (.slice ro (len R) rc, digs R), (.slice bo (len K) cb, digs K), (.slice ao (len N) ca, digs N)] _) := Zh ((E18.out.set 2 (.slice fo (len F) fc) rfl ⟨_, _, _, rfl⟩))
   refine hKK.out _ _ ?_
   clear hKK KK
   obtain ⟨p10, f10, -, -, -⟩ := E19.out.box 1 rfl
   refine wpAny_next (i := 11) (by kernel_rfl) rfl (fun KK hKK => ?_)
   go_simp
   have E20 : Hid (EnvB w [(w5.heap.size, .slice qa (len Q) qk), (gr2_5, .slice sa (len S) sk), (gr2_4, .slice fo (len F) fc), (gr1_3, .slice ua (len U) uk), (gr1_2, .slice yo (len Y) yc), (w.heap.size + 1 + 1, .slice none 0 0), (w.heap.size + 1, .slice bo (len K) cb), (w.heap.size, .slice ao (len N) ca)] [(.slice sa (len S) sk, digs S), (.slice za (len Z) zk, digs Z), (.slice va (len X) vk, digs X), (.slice ua (len U) uk, digs U), (.slice qa (len Q) qk, digs Q), (.slice fo (len F) fc, digs F), (.slice tl (len T) tc, digs T), (.slice yo (len Y) yc, digs Y), (.slice ro (len R) rc, digs R), (.slice bo (len K) cb, digs K), (.slice ao (len N) ca, digs N)] _) := Zh ((E19.out.set 1 (.slice sa (len S) sk) rfl ⟨_, _, _, rfl⟩))
   refine hKK.out _ _ ?_
   clear hKK KK
   refine wpAny_done (by kernel_rfl) ?_ _
   have E21 := Zh (E20.out)
   have EZ := Zh E21.out
   go_wp2
   go_roundg (U)
   case rel => exact ⟨Y, U, F, S, yo, ua, fo, sa, yc, uk, fc, sk, Zh ⟨EZ.out.1, EZ.out.2.1.2.2, ⟨EZ.out.sl 0 rfl, ⟨EZ.out.sl 5 rfl, ⟨EZ.out.sl 3 rfl, ⟨EZ.out.sl 7 rfl, ⟨EZ.out.sl 9 rfl, ⟨EZ.out.sl 10 rfl, trivial⟩⟩⟩⟩⟩⟩⟩, HK2⟩
   case measure => exact HM.out
theorem rInv_c {a b : Value} {N K V : Nat} {t : Bool} {w : World} (hV : invV N K = V) (ht : decide (invG N K = 1) = t) (hn : N < K) (hk : len K ≤ 64) (ha : Nt w a N) (hb : Nt w b K) :
  Calls Tryz.prog 41 #[.agg #[a], .agg #[b]] w fun e w' => ResB V t e w' ∧ Below w.heap.size w w' := by
 obtain ⟨ao, ca, rfl, _⟩ := ha.open
 obtain ⟨bo, cb, rfl, _⟩ := hb.open
 exact rInv_w ao ca bo cb N K V t w ha hb hV ht hn hk
end Nn
namespace Nn
open Go.RowKit NatMath
/-- an error came back, with an empty number -/
def ResZ (g : Int) (e : Ending) : Prop := ∃ (ao : Option Addr) (k : Nat), e = .returned (.tuple #[.agg #[.slice ao 0 k], .int .i64 g])
theorem ResN.z {g : Int} {e : Ending} {w : World} (h : ResN 0 g e w) : ResZ g e := by
 obtain ⟨a, k, rfl, _⟩ := h
 exact ⟨a, k, by rw [len_zero]⟩
theorem calls_z {P : Program} {f : Nat} {args : Array Value} {w : World} {g : Int} (h : Calls P f args w fun e w' => ResN 0 g e w' ∧ Below w.heap.size w w') : Calls P f args w fun e w' => ResZ g e ∧ Below w.heap.size w w' :=
 h.mono (fun _ _ h => ⟨h.1.z, h.2⟩)
theorem inv_m {a b : Value} {N M V : Nat} {w : World} (hV : invV N M = V) (ht : decide (invG N M = 1) = true) (hn : N < M) (hk : len M ≤ 32) (ha : Nt w a N) (hb : Nt w b M) :
  Calls Tryz.prog 37 #[.agg #[a], .agg #[b]] w fun e w' => ResN V 0 e w' ∧ Below w.heap.size w w' := by
 obtain ⟨ao, ca, rfl, _⟩ := ha.open
 obtain ⟨bo, cb, rfl, _⟩ := hb.open
 exact Inverse_t ao ca bo cb N M V w ha hb hV ht hn hk
theorem inv_n {a b : Value} {N M : Nat} {w : World} (ht : decide (invG N M = 1) = false) (hn : N < M) (hk : len M ≤ 32) (ha : Nt w a N) (hb : Nt w b M) :
  Calls Tryz.prog 37 #[.agg #[a], .agg #[b]] w fun e w' => ResZ 10 e ∧ Below w.heap.size w w' := by
 obtain ⟨ao, ca, rfl, _⟩ := ha.open
 obtain ⟨bo, cb, rfl, _⟩ := hb.open
 exact calls_z (Inverse_f ao ca bo cb N M _ w ha hb rfl ht hn hk)
theorem pow_m {a b c : Value} {N E Q r : Nat} {w : World} (hr : N ^ E % Q = r) (he : len E ≤ 64) (hn : N < Q) (hk : len Q ≤ 32) (ha : Nt w a N) (hb : Nt w b E) (hc : Nt w c Q) :
  Calls Tryz.prog 36 #[.agg #[a], .agg #[b], .agg #[c]] w fun e w' => ResN r 0 e w' ∧ Below w.heap.size w w' := by
 subst hr
 obtain ⟨ao, ca, rfl, _⟩ := ha.open
 obtain ⟨bo, cb, rfl, _⟩ := hb.open
 obtain ⟨co, cc, rfl, _⟩ := hc.open
 exact Pow_w ao ca bo cb co cc N E Q w ha hb hc he hn hk
end Nn
end Go.Proofs.YtikopkkebdobdaaGreatDoor

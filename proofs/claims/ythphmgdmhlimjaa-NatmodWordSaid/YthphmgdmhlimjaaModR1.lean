/- The reference: trim, Valid, Modulus, Of, Less, Same, word, Bit, Bits. -/
import Derived.Test.YthphmgdmhlimjaaMod1
import Derived.Deep.LoopGhost
namespace Go.Proofs.Ythphmgdmhlimjaa
open Go.RowKit NatMath
set_option linter.unusedVariables false

set_option maxHeartbeats 1000000 in
theorem rTrim_c (v : Value) (l : List Nat) (w : World) (h : Sl w v l) :
    Calls Try.prog 60 #[v] w fun e w' => RetW (fun _ v' => (∀ W, Sl W v l → Nt W v' (val l)) ∧ v'.ownBlock = v.ownBlock) e w' ∧ Below w.heap.size w w' := by
  obtain ⟨ao, cap, rfl, h1, h2, h3, h4, _⟩ := h
  have hfin : ∀ k : Nat, k ≤ l.length → val (l.take k) = val l → (k = 0 ∨ l.getD (k - 1) 0 ≠ 0) → ∀ W, Sl W (.slice ao l.length cap) l → Nt W (.slice ao k cap) (val l) := by
    intro k hk hv hn W hb
    have hd := digs_take h3 hk hv hn
    obtain ⟨ao', cap', e0, m1, m2, m3, m4, m5⟩ := hb
    obtain ⟨rfl, _, rfl⟩ := Value.slice.inj e0
    unfold Nt
    rw [hd]
    refine ⟨ao, cap, by rw [List.length_take, Nat.min_eq_left hk], by rw [List.length_take]; omega, h2, words_take h3 k, fun hne => ?_, m5⟩
    obtain ⟨b, off, e1, e2, e3⟩ := m4 (by rintro rfl; simp at hne)
    refine ⟨b, off, e1, e2, fun i hi => ?_⟩
    rw [List.length_take] at hi
    rw [getD_take (by omega)]
    exact e3 i (by omega)
  have hval : ∀ k, k < l.length → l.getD k 0 = 0 → val (l.take k) = val (l.take (k + 1)) := fun k hk hz => val_take_zero hk hz
  have hall : val (l.take l.length) = val l := by rw [List.take_length]
  have HF := Lib.hid hfin
  have HV := Lib.hid hval
  have HA := Lib.hid hall
  have H4 := Lib.hid h4
  have hne : Hid (0 < l.length → l ≠ []) := Lib.hid (by rintro h rfl; simp at h)
  have hnl : (l.length : Int) ≤ 9223372036854775807 := by omega
  have hlt : Hid (∀ i, l.getD i 0 < 4294967296) := Lib.hid (by intro i; rw [dig_val h3]; exact dig_lt _ _)
  clear hfin hval hall h3 h4
  generalize hn : l.length = n at *
  clear hn
  go_enter Try.func60, Try.ntmps60
  go_wp2
  go_loop [0] (fun s0 => ∃ k : Nat, s0 = .slice ao k cap ∧ k ≤ n ∧ Hid (val (l.take k) = val l)) (fun s0 => match s0 with | .slice _ k _ => k | _ => 0)
  case atStart => exact ⟨n, rfl, Nat.le_refl _, HA⟩
  case round =>
    obtain ⟨k, rfl, hk, HI⟩ := hrel
    by_cases h0 : k = 0
    · have hf0 := HF.out 0 (Nat.zero_le _) (by have := HI.out; rw [h0] at this; exact this) (Or.inl rfl)
      have HF0 := Lib.hid hf0
      subst h0
      clear hf0
      go_wp2
      refine bodyPost_ret (v := .agg #[.slice ao 0 cap]) (by simp [results, Try.results60, go_sem]) rfl ⟨⟨_, Lib.hid ⟨HF0.out, ownBlock_slice _ _ _ _ _⟩, rfl⟩, below_one _ _⟩
    · obtain ⟨j, rfl⟩ : ∃ j, k = j + 1 := ⟨k - 1, by omega⟩
      obtain ⟨b, off, rfl, hb, hc⟩ := H4.out (hne.out (by omega))
      have hcell := hc j (by omega)
      have hu := hlt.out j
      have hvj := HV.out j (by omega)
      by_cases hz : l.getD j 0 = 0
      · have HI2 : Hid (val (l.take j) = val l) := Lib.hid (by rw [hvj hz]; exact HI.out)
        rw [hz] at hcell
        clear hvj hz hu hc HI
        go_wp2
        go_round
        case rel => exact ⟨j, rfl, by omega, HI2⟩
        case measure => simp
      · have hfj := HF.out (j + 1) (by omega) HI.out (Or.inr (by rw [Nat.add_sub_cancel]; exact hz))
        have HFJ := Lib.hid hfj
        generalize l.getD j 0 = u at *
        have hb0 : ((u : Int) == 0) = false := by simp; omega
        clear hvj hc HI hfj
        go_wp2
        refine bodyPost_ret (v := .agg #[.slice (some ⟨b, off, none⟩) (j + 1) cap]) (by simp [results, Try.results60, go_sem]) rfl ⟨⟨_, Lib.hid ⟨HFJ.out, rfl⟩, rfl⟩, below_one _ _⟩

set_option maxHeartbeats 400000 in
theorem rValid_c (v : Value) (l : List Nat) (w : World) (h : Sl w v l) :
    Calls Try.prog 16 #[.agg #[v]] w fun e w' => e = .returned (.bool (vld l)) ∧ Below w.heap.size w w' := by
  obtain ⟨ao, cap, rfl, h1, h2, h3, h4, _⟩ := h
  by_cases k1 : l.length ≤ 64
  · by_cases k2 : l = []
    · subst k2
      have hv : vld [] = true := by decide
      rw [hv]
      clear h3 h4
      go_enter Try.func16, Try.ntmps16
      go_wp2
      go_ret
      exact ⟨rfl, (Below.refl _ _).alloc (Nat.le_refl _) _⟩
    · obtain ⟨b, off, rfl, hb, hc⟩ := h4 k2
      have hlen : 1 ≤ l.length := by cases l; exact absurd rfl k2; simp
      have hcell := hc (l.length - 1) (by omega)
      have hv : vld l = decide (l.getD (l.length - 1) 0 ≠ 0) := by
        unfold vld; rw [Bool.eq_iff_iff]; simp [k1, k2]
      rw [hv]
      generalize l.getD (l.length - 1) 0 = u at *
      generalize l.length = n at *
      clear h3 h4 hc hv k2
      have g1 : decide ((n : Int) ≤ 64) = true := decide_eq_true (by omega)
      have g2 : ((n : Int) == 0) = false := by simp; omega
      go_enter Try.func16, Try.ntmps16
      go_wp2
      go_ret
      exact ⟨by simp; rw [Bool.eq_iff_iff]; simp; try omega, (Below.refl _ _).alloc (Nat.le_refl _) _⟩
  · have hv : vld l = false := decide_eq_false (fun h => k1 h.1)
    rw [hv]
    generalize l.length = n at *
    clear h3 h4 hv
    have g1 : decide ((n : Int) ≤ 64) = false := decide_eq_false (by omega)
    go_enter Try.func16, Try.ntmps16
    go_wp2
    go_ret
    exact ⟨rfl, (Below.refl _ _).alloc (Nat.le_refl _) _⟩

set_option maxHeartbeats 400000 in
theorem rValid_of {v : Value} {l : List Nat} {t : Bool} {w : World} (ht : vld l = t) (h : Sl w v l) :
    Calls Try.prog 16 #[.agg #[v]] w fun e w' => e = .returned (.bool t) ∧ Below w.heap.size w w' := by
  subst ht; exact rValid_c v l w h

set_option maxRecDepth 100000 in
set_option maxHeartbeats 1000000 in
theorem rMod_bad (ao : Option Addr) (ca : Nat) (la : List Nat)  (w : World) (ha : Sl w (.slice ao la.length ca) la) (hv : vld la = false) :
    Calls Try.prog 57 #[.agg #[.slice ao la.length ca]] w fun e w' => e = .returned (.bool false) ∧ Below w.heap.size w w' := by
  have CV := Lib.hid (fun W ha => @rValid_of (.slice ao la.length ca) la false W hv ha)
  clear hv
  have E0 : Hid (EnvB w [] [(.slice ao la.length ca, la)] w) := Lib.hid ((EnvB.start w).num ha)
  clear ha
  generalize la.length = n at *
  go_enter Try.func57, Try.ntmps57
  go_wp2_with fail
  have E1 : Hid (EnvB w [(w.heap.size, .slice ao n ca)] [(.slice ao n ca, la)] _) := Lib.hid ((E0.out.push (.slice ao n ca) 24 ⟨_, _, _, rfl⟩ (w.heap.size) (by simp)))
  refine (CV.out _ (E1.out.sl 0 rfl)).mono ?_
  rintro e w1 ⟨rfl, hb⟩
  have E2 : Hid (EnvB w [(w.heap.size, .slice ao n ca)] [(.slice ao n ca, la)] _) := Lib.hid ((E1.out.below hb))
  clear E1 E0 hb
  have hfin := Lib.hid E2.out.1
  go_wp2
  go_ret
  exact ⟨rfl, hfin.out⟩
set_option maxRecDepth 100000 in
set_option maxHeartbeats 1000000 in
theorem rMod_zero (ao : Option Addr) (ca : Nat) (la : List Nat)  (w : World) (ha : Sl w (.slice ao la.length ca) la) (hv : vld la = true) (h0 : ¬ 1 ≤ la.length) :
    Calls Try.prog 57 #[.agg #[.slice ao la.length ca]] w fun e w' => e = .returned (.bool false) ∧ Below w.heap.size w w' := by
  have hn0 : la.length = 0 := by omega
  have CV := Lib.hid (fun W ha => @rValid_of (.slice ao la.length ca) la true W hv ha)
  clear hv
  have E0 : Hid (EnvB w [] [(.slice ao la.length ca, la)] w) := Lib.hid ((EnvB.start w).num ha)
  clear ha
  generalize la.length = n at *
  subst hn0
  go_enter Try.func57, Try.ntmps57
  go_wp2_with fail
  have E1 : Hid (EnvB w [(w.heap.size, .slice ao 0 ca)] [(.slice ao 0 ca, la)] _) := Lib.hid ((E0.out.push (.slice ao 0 ca) 24 ⟨_, _, _, rfl⟩ (w.heap.size) (by simp)))
  refine (CV.out _ (E1.out.sl 0 rfl)).mono ?_
  rintro e w1 ⟨rfl, hb⟩
  have E2 : Hid (EnvB w [(w.heap.size, .slice ao 0 ca)] [(.slice ao 0 ca, la)] _) := Lib.hid ((E1.out.below hb))
  clear E1 E0 hb
  obtain ⟨p1, f1, -, -, -⟩ := E2.out.box 0 rfl
  have hfin := Lib.hid E2.out.1
  go_wp2
  go_ret
  exact ⟨rfl, hfin.out⟩
set_option maxRecDepth 100000 in
set_option maxHeartbeats 1000000 in
theorem rMod_big (ao : Option Addr) (ca : Nat) (la : List Nat)  (w : World) (ha : Sl w (.slice ao la.length ca) la) (hv : vld la = true) (h0 : 1 ≤ la.length) (hb : ¬ la.length ≤ 32) :
    Calls Try.prog 57 #[.agg #[.slice ao la.length ca]] w fun e w' => e = .returned (.bool false) ∧ Below w.heap.size w w' := by
  have t1 : decide (1 ≤ (la.length : Int)) = true := decide_eq_true (by omega)
  have t2 : decide ((la.length : Int) ≤ 32) = false := decide_eq_false (by omega)
  have CV := Lib.hid (fun W ha => @rValid_of (.slice ao la.length ca) la true W hv ha)
  clear hv
  have E0 : Hid (EnvB w [] [(.slice ao la.length ca, la)] w) := Lib.hid ((EnvB.start w).num ha)
  clear ha
  generalize la.length = n at *
  go_enter Try.func57, Try.ntmps57
  go_wp2_with fail
  have E1 : Hid (EnvB w [(w.heap.size, .slice ao n ca)] [(.slice ao n ca, la)] _) := Lib.hid ((E0.out.push (.slice ao n ca) 24 ⟨_, _, _, rfl⟩ (w.heap.size) (by simp)))
  refine (CV.out _ (E1.out.sl 0 rfl)).mono ?_
  rintro e w1 ⟨rfl, hb⟩
  have E2 : Hid (EnvB w [(w.heap.size, .slice ao n ca)] [(.slice ao n ca, la)] _) := Lib.hid ((E1.out.below hb))
  clear E1 E0 hb
  obtain ⟨p1, f1, -, -, -⟩ := E2.out.box 0 rfl
  have hfin := Lib.hid E2.out.1
  go_wp2
  go_ret
  exact ⟨rfl, hfin.out⟩
set_option maxRecDepth 100000 in
set_option maxHeartbeats 1000000 in
theorem rMod_yes (ao : Option Addr) (ca : Nat) (la : List Nat)  (w : World) (ha : Sl w (.slice ao la.length ca) la) (hv : vld la = true) (h0 : 1 ≤ la.length) (hb : la.length ≤ 32) :
    Calls Try.prog 57 #[.agg #[.slice ao la.length ca]] w fun e w' => e = .returned (.bool true) ∧ Below w.heap.size w w' := by
  have t1 : decide (1 ≤ (la.length : Int)) = true := decide_eq_true (by omega)
  have t2 : decide ((la.length : Int) ≤ 32) = true := decide_eq_true (by omega)
  have CV := Lib.hid (fun W ha => @rValid_of (.slice ao la.length ca) la true W hv ha)
  clear hv
  have E0 : Hid (EnvB w [] [(.slice ao la.length ca, la)] w) := Lib.hid ((EnvB.start w).num ha)
  clear ha
  generalize la.length = n at *
  go_enter Try.func57, Try.ntmps57
  go_wp2_with fail
  have E1 : Hid (EnvB w [(w.heap.size, .slice ao n ca)] [(.slice ao n ca, la)] _) := Lib.hid ((E0.out.push (.slice ao n ca) 24 ⟨_, _, _, rfl⟩ (w.heap.size) (by simp)))
  refine (CV.out _ (E1.out.sl 0 rfl)).mono ?_
  rintro e w1 ⟨rfl, hb⟩
  have E2 : Hid (EnvB w [(w.heap.size, .slice ao n ca)] [(.slice ao n ca, la)] _) := Lib.hid ((E1.out.below hb))
  clear E1 E0 hb
  obtain ⟨p1, f1, -, -, -⟩ := E2.out.box 0 rfl
  have hfin := Lib.hid E2.out.1
  go_wp2
  go_ret
  exact ⟨rfl, hfin.out⟩
theorem rMod_c {v : Value} {l : List Nat} {t : Bool} {w : World} (ht : mdl l = t) (h : Sl w v l) :
    Calls Try.prog 57 #[.agg #[v]] w fun e w' => e = .returned (.bool t) ∧ Below w.heap.size w w' := by
  subst ht
  obtain ⟨ao, ca, rfl, _⟩ := h.open
  unfold mdl
  cases hv : vld l
  · exact rMod_bad ao ca l w h hv
  · by_cases h1 : 1 ≤ l.length
    · by_cases h2 : l.length ≤ 32
      · rw [decide_eq_true h1, decide_eq_true h2]; exact rMod_yes ao ca l w h hv h1 h2
      · rw [decide_eq_true h1, decide_eq_false h2]; exact rMod_big ao ca l w h hv h1 h2
    · rw [decide_eq_false h1]; exact rMod_zero ao ca l w h hv h1

theorem of_words64 (x : Nat) (hx : x < 18446744073709551616) : words [x % 4294967296, x / 4294967296 % 4294967296] ∧ val [x % 4294967296, x / 4294967296 % 4294967296] = x := by
  refine ⟨words_cons.2 ⟨Nat.mod_lt _ (by omega), words_cons.2 ⟨Nat.mod_lt _ (by omega), words_nil⟩⟩, ?_⟩
  simp only [val]; omega
set_option maxHeartbeats 400000 in
theorem rOf_c (x : Nat) (w : World) (hx : x < 18446744073709551616) :
    Calls Try.prog 20 #[.int .u64 x] w fun e w' => RetV x e w' ∧ Below w.heap.size w w' := by
  obtain ⟨hw, hv⟩ := of_words64 x hx
  have HX : Hid (x < 18446744073709551616) := Lib.hid hx
  obtain ⟨a, ha⟩ : ∃ a, a = x % 4294967296 := ⟨_, rfl⟩
  obtain ⟨b, hb⟩ : ∃ b, b = x / 4294967296 % 4294967296 := ⟨_, rfl⟩
  have ea : IntKind.u32.wrap ((x : Int) % 4294967296) = (a : Int) := by rw [IntKind.wrap_u32]; omega
  have eb : IntKind.u32.wrap ((x : Int) / 4294967296) = (b : Int) := by rw [IntKind.wrap_u32]; omega
  have hx0 : 0 ≤ (x : Int) := by omega
  rw [← ha, ← hb] at hw hv
  have HW := Lib.hid hw
  have HV := Lib.hid hv
  clear ha hb hw hv hx
  go_enter Try.func20, Try.ntmps20
  go_wp2_with fail
  refine (rTrim_c _ [a, b] _ ((Own.two w _ a b).sl HW.out (by simp))).mono ?_; rintro e w1 ⟨⟨v', hv, rfl⟩, hb⟩
  have hz : w.heap.size + 1 < w1.heap.size := by have := hb.size; simp at this; omega
  have hz0 : w.heap.size < w1.heap.size := by omega
  have B1 : Hid (Below w.heap.size w w1) := Lib.hid ((below_two _ _ _).trans (hb.mono (by simp; omega)))
  have f1 := (hb.frozen (p := ⟨w.heap.size, 0, none⟩) (by simp; omega)).trans (by simp : _ = false)
  have f2 := (hb.cell (p := ⟨w.heap.size, 0, none⟩) (by simp; omega)).trans (by simp : _ = some (.slice none 0 0))
  have hN : ∀ Y : Value, Nt (w1.setCell ⟨w.heap.size, 0, none⟩ Y) v' x := fun Y => by
    rw [← HV.out]
    refine hv.out.1 _ ((((Own.two w _ a b).below' hb).setOther (by simp) Y).sl HW.out (by simp))
  obtain ⟨ao, cap, rfl, _⟩ := (hN (.slice none 0 0)).open
  have HN := Lib.hid hN
  clear hb hv hN
  go_wp2
  exact bodyPost_ret (v := .agg #[.slice ao (len x) cap]) (by simp [results, Try.results20, go_sem, f2]) rfl ⟨⟨_, _, rfl, Lib.hid (HN.out _)⟩, B1.out.setCell (Nat.le_refl _) _⟩

set_option maxHeartbeats 400000 in
theorem rword_c (v : Value) (l : List Nat) (i : Nat) (w : World) (h : Sl w v l) (hi : (i : Int) ≤ 1000000) :
    Calls Try.prog 77 #[.agg #[v], .int .i64 i] w fun e w' => e = .returned (.int .u64 (l.getD i 0 : Nat)) ∧ Below w.heap.size w w' := by
  obtain ⟨ao, cap, rfl, h1, h2, h3⟩ := h.open
  have h4 := getD_lt h.choose_spec.choose_spec.2.2.2.1 i
  by_cases hl : i < l.length
  · have ht : decide (i < l.length) = true := decide_eq_true hl
    obtain ⟨b, off, rfl, hb, hc⟩ := h3 (by intro e; rw [e] at hl; simp at hl)
    have hc1 := hc i hl
    generalize l.getD i 0 = u at *
    generalize l.length = n at *
    clear h h3 hc
    go_enter Try.func77, Try.ntmps77
    go_wp2
    go_ret
    exact ⟨rfl, below_one _ _⟩
  · have ht : decide (i < l.length) = false := decide_eq_false hl
    have hz : l.getD i 0 = 0 := by rw [List.getD_eq_getElem?_getD, List.getElem?_eq_none (by omega)]; rfl
    rw [hz]
    generalize l.length = n at *
    clear h h3 h4 hz
    go_enter Try.func77, Try.ntmps77
    go_wp2
    go_ret
    exact ⟨rfl, below_one _ _⟩

set_option maxHeartbeats 400000 in
theorem rBit_c (v : Value) (N i : Nat) (w : World) (h : Nt w v N) (hi : (i : Int) ≤ 9223372036854775807) :
    Calls Try.prog 72 #[.agg #[v], .int .i64 i] w fun e w' => e = .returned (.bool (bt N i)) ∧ Below w.heap.size w w' := by
  obtain ⟨ao, cap, rfl, h1, h2, h3⟩ := h.open
  have r1 : (i : Int) / 32 = ((i / 32 : Nat) : Int) := by omega
  by_cases hb : 32 * len N ≤ i
  · rw [bt_above hb]
    have g1 : decide (i / 32 < len N) = false := decide_eq_false (by omega)
    have g2 : decide (((i / 32 : Nat) : Int) < (len N : Int)) = false := decide_eq_false (by omega)
    generalize i / 32 = k at *
    generalize len N = n at *
    clear h h3
    go_enter Try.func72, Try.ntmps72
    go_wp2
    go_ret
    exact ⟨rfl, below_one _ _⟩
  · have g1 : decide (i / 32 < len N) = true := decide_eq_true (by omega)
    have g2 : decide (((i / 32 : Nat) : Int) < (len N : Int)) = true := decide_eq_true (by omega)
    have hN : N ≠ 0 := by rintro rfl; rw [len_zero] at hb; omega
    obtain ⟨b, off, rfl, hb, hc⟩ := h3 hN
    have hk : i / 32 < len N := by omega
    have c1 := hc (i / 32) hk
    rw [bt_dig]
    have hs : i % 32 < 32 := Nat.mod_lt _ (by omega)
    have hu := dig_lt N (i / 32)
    have r2 : (i : Int) % 32 = ((i % 32 : Nat) : Int) := by omega
    generalize dig N (i / 32) = u at *
    generalize i / 32 = k at *
    generalize i % 32 = s at *
    have r3 : (u : Int) / 2 ^ s = ((u / 2 ^ s : Nat) : Int) := by simp
    generalize u / 2 ^ s = q at *
    generalize len N = n at *
    clear h h3 hc hN
    go_enter Try.func72, Try.ntmps72
    go_wp2
    go_ret
    exact ⟨retb (by rw [Bool.eq_iff_iff]; simp; omega), below_one _ _⟩

set_option maxHeartbeats 1000000 in
theorem rBits_c (v : Value) (N : Nat) (w : World) (h : Nt w v N) (hl : len N ≤ 1000000) :
    Calls Try.prog 71 #[.agg #[v]] w fun e w' => e = .returned (.int .i64 (bl N : Nat)) ∧ Below w.heap.size w w' := by
  have H := Lib.hid h
  have cB := Lib.hid (fun i W hW hi => rBit_c v N i W hW hi)
  have H0 : Hid (N < 2 ^ (32 * len N)) := Lib.hid (bl_le_iff.1 (len_bl.1 (Nat.le_refl _)))
  obtain ⟨R, hR⟩ : ∃ R, Hid (R = bl N) := ⟨_, Lib.hid rfl⟩
  rw [← hR.out]
  obtain ⟨ao, cap, rfl, _, _, _⟩ := h.open
  clear h
  have e0 : (32 : Int) * (len N : Nat) = ((32 * len N : Nat) : Int) := by omega
  have hm : 32 * len N ≤ 32000000 := by omega
  generalize hL : len N = n at *
  generalize hM : 32 * n = m at *
  clear hL hM
  go_enter Try.func71, Try.ntmps71
  go_wp2
  go_loopw [3] (fun s3 wr => ∃ k : Nat, s3 = .int .i64 (k : Int) ∧ k ≤ m ∧ Hid (N < 2 ^ k) ∧ Hid (Below w.heap.size w wr) ∧ wr.cell? ⟨w.heap.size, 0, none⟩ = some (.slice ao n cap) ∧ w.heap.size < wr.heap.size) (fun s3 _ => (RowKit.intOf s3).toNat)
  case atStart => exact ⟨m, rfl, Nat.le_refl _, H0, Lib.hid (below_one _ _), box1a _ _ _, by simp⟩
  case round =>
    obtain ⟨k, rfl, hk, HI, HB, p1, q1⟩ := hrel
    by_cases h0 : k = 0
    · subst h0
      have hr0 : R = 0 := by
        rw [hR.out]; have := HI.out; simp at this; rw [this]; rfl
      subst hr0
      clear hR
      have g1 : decide (0 < (0 : Int)) = false := rfl
      go_wp2
      go_ret
      exact ⟨rfl, HB.out⟩
    · obtain ⟨j, rfl⟩ : ∃ j, k = j + 1 := ⟨k - 1, by omega⟩
      have g1 : decide (0 < ((j + 1 : Nat) : Int)) = true := decide_eq_true (by omega)
      have g2 : decide (0 < j + 1) = true := decide_eq_true (by omega)
      have ej : (((j + 1 : Nat) : Int) - 1) = (j : Int) := by omega
      go_wp2_with fail
      refine (cB.out j _ (H.out.below' HB.out) (by omega)).mono ?_
      rintro e w1 ⟨rfl, hb1⟩
      have p2 := (hb1.cell (p := ⟨w.heap.size, 0, none⟩) q1).trans p1
      have q2 : w.heap.size < w1.heap.size := Nat.lt_of_lt_of_le q1 hb1.size
      have HB2 := Lib.hid (HB.out.trans (hb1.mono (by omega)))
      clear p1 q1 hb1 HB
      cases ht : bt N j
      · have HI2 := Lib.hid (bl_down HI.out ht)
        clear ht HI
        go_wp2
        go_roundw
        case rel => exact ⟨j, rfl, by omega, HI2, HB2, p2, q2⟩
        case measure => simp [RowKit.intOf]
      · have hr1 : R = j + 1 := by rw [hR.out]; exact bl_found HI.out ht
        subst hr1
        clear ht HI hR
        go_wp2
        go_ret
        exact ⟨rfl, HB2.out⟩

set_option maxHeartbeats 1000000 in
theorem rLess_w (ao bo : Option Addr) (ca cb : Nat) (N M : Nat) (w : World) (ha : Nt w (.slice ao (len N) ca) N) (hb : Nt w (.slice bo (len M) cb) M) :
    Calls Try.prog 17 #[.agg #[.slice ao (len N) ca], .agg #[.slice bo (len M) cb]] w fun e w' => e = .returned (.bool (decide (N < M))) ∧ Below w.heap.size w w' := by
  by_cases hl : len N = len M
  · obtain ⟨W0, hW0⟩ : ∃ W0, W0 = (w.alloc (.cells #[.slice ao (len N) ca] 24)).alloc (.cells #[.slice bo (len M) cb] 24) := ⟨_, rfl⟩
    have B0 : Hid (Below w.heap.size w W0) := Lib.hid (by rw [hW0]; exact below_two _ _ _)
    have p1 : W0.cell? ⟨w.heap.size, 0, none⟩ = some (.slice ao (len N) ca) := by rw [hW0]; exact box2a ..
    have p2 : W0.cell? ⟨w.heap.size + 1, 0, none⟩ = some (.slice bo (len M) cb) := by rw [hW0]; exact box2b ..
    obtain ⟨_, _, e1, a1, a2, a3⟩ := (ha.below' B0.out).open
    obtain ⟨_, _, e2, b1, b2, b3⟩ := (hb.below' B0.out).open
    simp only [Value.slice.injEq] at e1 e2
    obtain ⟨rfl, _, rfl⟩ := e1
    obtain ⟨rfl, _, rfl⟩ := e2
    rw [← hl] at b1 b3 p2
    have hne : ((len N : Int) != (len M : Int)) = false := by rw [hl]; simp
    have hst : Hid (N / Bp (len N) = M / Bp (len N)) := Lib.hid (by rw [Nat.div_eq_of_lt (lt_Bp_len N), Nat.div_eq_of_lt (by rw [hl]; exact lt_Bp_len M)])
    have hN0 : len N ≠ 0 → N ≠ 0 ∧ M ≠ 0 := fun h => ⟨fun e => h (len_eq_zero.2 e), fun e => h (by rw [hl]; exact len_eq_zero.2 e)⟩
    obtain ⟨R, hR⟩ : ∃ R, R = decide (N < M) := ⟨_, rfl⟩
    rw [← hR]
    have HR := Lib.hid hR
    have A3 := Lib.hid a3
    have B3 := Lib.hid b3
    have H0 := Lib.hid hN0
    have hn : (len N : Int) ≤ 9223372036854775807 := by omega
    rw [← hl] at hW0 hne ⊢
    have hnn : ((len N : Int) != (len N : Int)) = false := by simp
    clear ha hb hR a3 b3 hN0 hl hne
    generalize len N = n at *
    go_enter Try.func17, Try.ntmps17
    go_wp2
    rw [← hW0]
    clear hW0
    go_loopw [5] (fun s5 wr => ∃ k : Nat, s5 = .int .i64 ((k : Int) - 1) ∧ (k : Int) ≤ (n : Int) ∧ Hid (N / Bp k = M / Bp k) ∧ Qw W0 wr) (fun s5 _ => (RowKit.intOf s5 + 1).toNat)
    case atStart => exact ⟨n, rfl, Int.le_refl _, hst, Qw.refl _⟩
    case round =>
      obtain ⟨k, rfl, hk, HI, nw, rfl⟩ := hrel
      by_cases h0 : k = 0
      · have e0 : N = M := cmp_self_step HI.out h0
        have hr0 : R = false := by rw [HR.out, e0]; exact decide_eq_false (Nat.lt_irrefl _)
        have hg : decide (1 ≤ (k : Int)) = false := decide_eq_false (by omega)
        subst h0 hr0
        clear HI HR A3 B3 H0 e0
        go_wp2
        go_ret
        exact ⟨rfl, below_drewN B0.out _⟩
      · obtain ⟨j, rfl⟩ : ∃ j, k = j + 1 := ⟨k - 1, by omega⟩
        obtain ⟨n1, n2⟩ := H0.out (by omega)
        obtain ⟨ba, offa, rfl, s1, ca1⟩ := A3.out n1
        obtain ⟨bb, offb, rfl, s2, cb1⟩ := B3.out n2
        have c1 := ca1 j (by omega)
        have c2 := cb1 j (by omega)
        have d1 := dig_lt N j
        have d2 := dig_lt M j
        have hstep := fun h => cmp_eq_step (n := N) (m := M) (i := j) HI.out h
        have hlt := fun h => cmp_lt (n := N) (m := M) (i := j) HI.out h
        have hgt := fun h => cmp_lt (n := M) (m := N) (i := j) HI.out.symm h
        have CA := Lib.hid ca1
        have CB := Lib.hid cb1
        have ej : (((j + 1 : Nat) : Int) - 1) = (j : Int) := by omega
        rw [ej]
        generalize dig N j = x at *
        generalize dig M j = y at *
        have hjn : (j : Int) < (n : Int) := by omega
        have hj1 : decide (0 ≤ (j : Int)) = true := decide_eq_true (by omega)
        rcases Nat.lt_trichotomy x y with hxy | hxy | hxy
        · have hr : R = true := by rw [HR.out]; exact decide_eq_true (hlt hxy)
          have g1 : decide (x < y) = true := decide_eq_true hxy
          have g2 : ((x : Int) != (y : Int)) = true := by simp; omega
          clear hstep hlt hgt HI HR A3 B3 H0 CA CB ca1 cb1 n1 n2 hk ej
          subst hr
          go_wp2
          go_quiet (fail)
          go_wp2
          go_quiet (fail)
          go_wp2
          go_ret
          exact ⟨rfl, (Qw.drewN (Qw.drewN ⟨nw, rfl⟩ _) _).below _ |> fun h => B0.out.trans h⟩
        · have HS := Lib.hid (hstep hxy)
          have g2 : ((x : Int) != (y : Int)) = false := by simp; omega
          clear hstep hlt hgt HI CA CB ca1 cb1 n1 n2 ej hxy
          go_wp2
          go_quiet (fail)
          go_wp2
          go_roundw
          case rel => exact ⟨j, rfl, by omega, HS, _, rfl⟩
          case measure => simp [RowKit.intOf]
        · have hr : R = false := by rw [HR.out]; exact decide_eq_false (by have := hgt hxy; omega)
          have g1 : decide (x < y) = false := decide_eq_false (by omega)
          have g2 : ((x : Int) != (y : Int)) = true := by simp; omega
          clear hstep hlt hgt HI HR A3 B3 H0 CA CB ca1 cb1 n1 n2 hk ej
          subst hr
          go_wp2
          go_quiet (fail)
          go_wp2
          go_quiet (fail)
          go_wp2
          go_ret
          exact ⟨rfl, (Qw.drewN (Qw.drewN ⟨nw, rfl⟩ _) _).below _ |> fun h => B0.out.trans h⟩
  · have ht0 : ((len N : Int) != (len M : Int)) = true := by simp; omega
    have hr : decide (N < M) = decide (len N < len M) := by
      by_cases h : len N < len M
      · rw [decide_eq_true h, decide_eq_true (cmp_len h)]
      · rw [decide_eq_false h, decide_eq_false (by have : M < N := cmp_len (by omega); omega)]
    rw [hr]
    clear ha hb hr hl
    generalize len N = n at *
    generalize len M = m at *
    go_enter Try.func17, Try.ntmps17
    go_wp2
    go_ret
    exact ⟨rfl, below_two _ _ _⟩
theorem rLess_c {a b : Value} {N M : Nat} {t : Bool} {w : World} (ht : decide (N < M) = t) (ha : Nt w a N) (hb : Nt w b M) :
    Calls Try.prog 17 #[.agg #[a], .agg #[b]] w fun e w' => e = .returned (.bool t) ∧ Below w.heap.size w w' := by
  subst ht
  obtain ⟨ao, ca, rfl, _⟩ := ha.open
  obtain ⟨bo, cb, rfl, _⟩ := hb.open
  exact rLess_w ao bo ca cb N M w ha hb

set_option maxRecDepth 100000 in
set_option maxHeartbeats 1000000 in
theorem rSame_lt (ao : Option Addr) (ca : Nat) (bo : Option Addr) (cb : Nat) (N M : Nat)  (w : World) (ha : Nt w (.slice ao (len N) ca) N) (hb : Nt w (.slice bo (len M) cb) M) (h : N < M) :
    Calls Try.prog 18 #[.agg #[.slice ao (len N) ca], .agg #[.slice bo (len M) cb]] w fun e w' => e = .returned (.bool false) ∧ Below w.heap.size w w' := by
  have C1 := Lib.hid (fun W ha hb => @rLess_c (.slice ao (len N) ca) (.slice bo (len M) cb) N M true W (by exact decide_eq_true h) ha hb)
  clear h
  have E0 : Hid (EnvB w [] [(.slice bo (len M) cb, digs M), (.slice ao (len N) ca, digs N)] w) := Lib.hid (((EnvB.start w).numN ha).numN hb)
  clear ha hb
  go_enter Try.func18, Try.ntmps18
  go_wp2_with fail
  have E1 : Hid (EnvB w [(w.heap.size + 1, .slice bo (len M) cb), (w.heap.size, .slice ao (len N) ca)] [(.slice bo (len M) cb, digs M), (.slice ao (len N) ca, digs N)] _) := Lib.hid (((E0.out.push (.slice ao (len N) ca) 24 ⟨_, _, _, rfl⟩ (w.heap.size) (by simp)).push (.slice bo (len M) cb) 24 ⟨_, _, _, rfl⟩ (w.heap.size + 1) (by simp)))
  refine (C1.out _ (E1.out.nt 1 rfl) (E1.out.nt 0 rfl)).mono ?_
  rintro e w1 ⟨rfl, hb⟩
  have E2 : Hid (EnvB w [(w.heap.size + 1, .slice bo (len M) cb), (w.heap.size, .slice ao (len N) ca)] [(.slice bo (len M) cb, digs M), (.slice ao (len N) ca, digs N)] _) := Lib.hid ((E1.out.below hb))
  clear E1 E0 hb
  have hfin := Lib.hid E2.out.1
  go_wp2
  go_ret
  exact ⟨rfl, hfin.out⟩
set_option maxRecDepth 100000 in
set_option maxHeartbeats 1000000 in
theorem rSame_gt (ao : Option Addr) (ca : Nat) (bo : Option Addr) (cb : Nat) (N M : Nat)  (w : World) (ha : Nt w (.slice ao (len N) ca) N) (hb : Nt w (.slice bo (len M) cb) M) (h : M < N) :
    Calls Try.prog 18 #[.agg #[.slice ao (len N) ca], .agg #[.slice bo (len M) cb]] w fun e w' => e = .returned (.bool false) ∧ Below w.heap.size w w' := by
  have C1 := Lib.hid (fun W ha hb => @rLess_c (.slice ao (len N) ca) (.slice bo (len M) cb) N M false W (by exact decide_eq_false (by omega)) ha hb)
  have C2 := Lib.hid (fun W ha hb => @rLess_c (.slice bo (len M) cb) (.slice ao (len N) ca) M N true W (by exact decide_eq_true h) ha hb)
  clear h
  have E0 : Hid (EnvB w [] [(.slice bo (len M) cb, digs M), (.slice ao (len N) ca, digs N)] w) := Lib.hid (((EnvB.start w).numN ha).numN hb)
  clear ha hb
  go_enter Try.func18, Try.ntmps18
  go_wp2_with fail
  have E1 : Hid (EnvB w [(w.heap.size + 1, .slice bo (len M) cb), (w.heap.size, .slice ao (len N) ca)] [(.slice bo (len M) cb, digs M), (.slice ao (len N) ca, digs N)] _) := Lib.hid (((E0.out.push (.slice ao (len N) ca) 24 ⟨_, _, _, rfl⟩ (w.heap.size) (by simp)).push (.slice bo (len M) cb) 24 ⟨_, _, _, rfl⟩ (w.heap.size + 1) (by simp)))
  refine (C1.out _ (E1.out.nt 1 rfl) (E1.out.nt 0 rfl)).mono ?_
  rintro e w1 ⟨rfl, hb⟩
  have E2 : Hid (EnvB w [(w.heap.size + 1, .slice bo (len M) cb), (w.heap.size, .slice ao (len N) ca)] [(.slice bo (len M) cb, digs M), (.slice ao (len N) ca, digs N)] _) := Lib.hid ((E1.out.below hb))
  clear E1 E0 hb
  obtain ⟨p1, f1, -, -, -⟩ := E2.out.box 0 rfl
  obtain ⟨p2, f2, -, -, -⟩ := E2.out.box 1 rfl
  go_wp2_with fail
  refine (C2.out _ (E2.out.nt 0 rfl) (E2.out.nt 1 rfl)).mono ?_
  rintro e w2 ⟨rfl, hb⟩
  have E3 : Hid (EnvB w [(w.heap.size + 1, .slice bo (len M) cb), (w.heap.size, .slice ao (len N) ca)] [(.slice bo (len M) cb, digs M), (.slice ao (len N) ca, digs N)] _) := Lib.hid ((E2.out.below hb))
  clear p1 f1 p2 f2 E2 hb
  have hfin := Lib.hid E3.out.1
  go_wp2
  go_ret
  exact ⟨rfl, hfin.out⟩
set_option maxRecDepth 100000 in
set_option maxHeartbeats 1000000 in
theorem rSame_eq (ao : Option Addr) (ca : Nat) (bo : Option Addr) (cb : Nat) (N M : Nat)  (w : World) (ha : Nt w (.slice ao (len N) ca) N) (hb : Nt w (.slice bo (len M) cb) M) (h : N = M) :
    Calls Try.prog 18 #[.agg #[.slice ao (len N) ca], .agg #[.slice bo (len M) cb]] w fun e w' => e = .returned (.bool true) ∧ Below w.heap.size w w' := by
  have C1 := Lib.hid (fun W ha hb => @rLess_c (.slice ao (len N) ca) (.slice bo (len M) cb) N M false W (by exact decide_eq_false (by omega)) ha hb)
  have C2 := Lib.hid (fun W ha hb => @rLess_c (.slice bo (len M) cb) (.slice ao (len N) ca) M N false W (by exact decide_eq_false (by omega)) ha hb)
  clear h
  have E0 : Hid (EnvB w [] [(.slice bo (len M) cb, digs M), (.slice ao (len N) ca, digs N)] w) := Lib.hid (((EnvB.start w).numN ha).numN hb)
  clear ha hb
  go_enter Try.func18, Try.ntmps18
  go_wp2_with fail
  have E1 : Hid (EnvB w [(w.heap.size + 1, .slice bo (len M) cb), (w.heap.size, .slice ao (len N) ca)] [(.slice bo (len M) cb, digs M), (.slice ao (len N) ca, digs N)] _) := Lib.hid (((E0.out.push (.slice ao (len N) ca) 24 ⟨_, _, _, rfl⟩ (w.heap.size) (by simp)).push (.slice bo (len M) cb) 24 ⟨_, _, _, rfl⟩ (w.heap.size + 1) (by simp)))
  refine (C1.out _ (E1.out.nt 1 rfl) (E1.out.nt 0 rfl)).mono ?_
  rintro e w1 ⟨rfl, hb⟩
  have E2 : Hid (EnvB w [(w.heap.size + 1, .slice bo (len M) cb), (w.heap.size, .slice ao (len N) ca)] [(.slice bo (len M) cb, digs M), (.slice ao (len N) ca, digs N)] _) := Lib.hid ((E1.out.below hb))
  clear E1 E0 hb
  obtain ⟨p1, f1, -, -, -⟩ := E2.out.box 0 rfl
  obtain ⟨p2, f2, -, -, -⟩ := E2.out.box 1 rfl
  go_wp2_with fail
  refine (C2.out _ (E2.out.nt 0 rfl) (E2.out.nt 1 rfl)).mono ?_
  rintro e w2 ⟨rfl, hb⟩
  have E3 : Hid (EnvB w [(w.heap.size + 1, .slice bo (len M) cb), (w.heap.size, .slice ao (len N) ca)] [(.slice bo (len M) cb, digs M), (.slice ao (len N) ca, digs N)] _) := Lib.hid ((E2.out.below hb))
  clear p1 f1 p2 f2 E2 hb
  have hfin := Lib.hid E3.out.1
  go_wp2
  go_ret
  exact ⟨rfl, hfin.out⟩
theorem rSame_c {a b : Value} {N M : Nat} {t : Bool} {w : World} (ht : decide (N = M) = t) (ha : Nt w a N) (hb : Nt w b M) :
    Calls Try.prog 18 #[.agg #[a], .agg #[b]] w fun e w' => e = .returned (.bool t) ∧ Below w.heap.size w w' := by
  subst ht
  obtain ⟨ao, ca, rfl, _⟩ := ha.open
  obtain ⟨bo, cb, rfl, _⟩ := hb.open
  rcases Nat.lt_trichotomy N M with h | h | h
  · rw [decide_eq_false (by omega)]; exact rSame_lt ao ca bo cb N M w ha hb h
  · rw [decide_eq_true h]; exact rSame_eq ao ca bo cb N M w ha hb h
  · rw [decide_eq_false (by omega)]; exact rSame_gt ao ca bo cb N M w ha hb h
end Go.Proofs.Ythphmgdmhlimjaa
